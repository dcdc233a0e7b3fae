/- A part of the proof: texts X76 to X109. Each tells its conditions in its theorems. -/
import Derived.Test.YtkdcaknoaeicdaaGreatP5
import Derived.Test.YtkdcaknoaeicdaaGreatP7
namespace Go.Ex
open Go Go.Sx Go.Proofs
def wX(w:World)(S:Nat->Prop)(css:List (List Value))(qs:List Rat):Prop:=∀(j:Nat) cs q,css[j]? =some cs->qs[j]? =some q->gP w S cs q
section
variable{S S':Nat->Prop}{H:Hp}{nx:Nat}{iv iv':Iv}{B:Nat}{w w' w2:World}{ρ:Nat->Sx.dN}{css:List (List Value)}{qs:List Rat}
theorem wX.rel(h:wX w (Cv S B iv) css qs)(r:Rel H nx iv B w ρ w')(hS:∀g,S g->g<B):wX w' (Cv S B iv) css qs:=fun j cs q h1 h2=>(h j cs q h1 h2).bu fun _ hg=>Rel.same r hS hg
theorem wX.bq(h:wX w (Cv S B iv) css qs)(r:Rel H nx iv B w ρ w')(hS:∀g,S g->g<B)(he:Ext w' w2)(hm:∀p,p∈iv->p∈iv'):wX w2 (Cv S B iv') css qs:=fun j cs q h1 h2=>
 (((h.rel r hS) j cs q h1 h2).bu fun g hg=>he.block g (Rel.old r hS g hg)).bz fun _ hg=>hg.mono hm
theorem wX.push{cs:List Value}{q:Rat}(h:wX w S css qs)(hq:qs[css.length]? =some q)(hc:gP w S cs q):wX w S (css++[cs]) qs:=fun j cs' q' h1 h2=>by
 rcases bA j css.length with hj|hj
 ·rw[aJ hj]at h1;exact h j cs' q' h1 h2
 ·have hj0:j=css.length:=by have:=(aE.1 h1).1;simp at this;omega
  subst hj0;rw[aT (aI _),bP]at h1;simp at h1;rw[hq]at h2;injection h2 with h2;subst h1 h2;exact hc
end
theorem ve{css:List (List Value)}{cs:List Value}(h:∀x∈css,x.length=4∧∀u∈x,u.oneCell'=true)(hc:cs.length=4∧∀u∈cs,u.oneCell'=true):∀x∈css++[cs],x.length=4∧∀u∈x,u.oneCell'=true:=fun x hx=>by
 rcases bT.1 hx with hx|hx
 ·exact h x hx
 ·simp at hx;subst hx;exact hc
def sS(xs ys:List Rat)(b:Rat):List Rat:=(List.range ys.length).map fun j=>if 0<xs.length then xs.getD j 0+ys.getD j 0*b else ys.getD j 0*b
theorem qe(xs ys:List Rat)(b:Rat):(sS xs ys b).length=ys.length:=by simp[sS]
theorem xh{xs ys:List Rat}{b:Rat}{j:Nat}(h:j<ys.length):(sS xs ys b)[j]? =some (if 0<xs.length then xs.getD j 0+ys.getD j 0*b else ys.getD j 0*b):=by
 rw[sS,aN,List.getElem?_range h];rfl
theorem Ep{S:Nat->Prop}{w:World}{v u t:Value}{xs ys:List Rat}{b:Rat}(hS:Old S w)(hx:cS w S v xs)(hy:cS w S u ys)(hb:dc w S t b)(hlen:xs=[]∨xs.length=ys.length)(hn:ys.length<=1000000)(hbound:∀y∈ys,rl y+rl b<=100000):
  dQ PG N.uW #[v,u,t] w (dU w fun v' w2=>cB w2 (Nw (fun _=>False) w w2) v' (sS xs ys b)):=by
 have hw:cF w.heap.size w w:=cF.refl;obtain⟨ax,cx,rfl,hcx,hmx⟩:=cd.shape hx;obtain⟨ay,cy,rfl,hcy,hmy⟩:=cd.shape hy;obtain⟨t0,t1,t2,t3,t4,t5,t6,t7,rfl⟩:=hb.shape;have hpl:=qe xs ys b;refine wF (by simp) ?_;conv=>whnf
 refine⟨List (List Value)×World×Iv,fun z=>⟨[(0,.o (.v (.slice ax xs.length cx))),(1,.o (.v (.slice ay ys.length cy))),(5,.o (.p 0 0)),(7,.o (.w 1 z.1.length)),(8,.o (.v (.int .i64 z.1.length)))],[(1,.vec T.Rat 4 z.1.flatten),(0,.box T.Rat [.v (.bool t0),.v (.slice t1 t2 t3),.v (.bool t4),.v (.slice t5 t6 t7)])],2,z.2.2,z.2.1⟩,fun z=>ys.length-z.1.length,
  fun z=>z.1.length<=ys.length∧cF w.heap.size w z.2.1∧(∀x∈z.1,x.length=4∧∀u∈x,u.oneCell'=true)∧wX z.2.1 (Cv (fun _=>False) w.heap.size z.2.2) z.1 (sS xs ys b),?_,?_⟩
 ·intro ρ w' r
  exact⟨([],w',[]),⟨by simp,r.bs,by simp,fun j cs q h=>by simp at h⟩,Sub.nil 7 T.Rat 4 rfl (by simp[cO,SV.sc,At.sc,cJ]) r fun ρ1 r1=>
   Sub.gen [] r1 ⟨rfl,rfl,trivial⟩ ⟨rfl,rfl,rfl,rfl,rfl,trivial⟩ (by simp[cY,cN.scopd,At.sc]) (by simp[cO,SV.sc,At.sc]) (by rfl) (by simp)⟩
 clear hw;rintro⟨css,w1,iv⟩ ⟨hi,hw,h4,hat⟩;dsimp only at hi hw h4 hat ⊢;have hfl:=eH fun x hx=>(h4 x hx).1;conv=>whnf
 refine cW.mk (fun hib=>?_) (fun hib=>?_)
 ·have hib:css.length<ys.length:=by simpa using hib
  obtain⟨y,hyi⟩:∃y,ys[css.length]? =some y:=⟨_,aA hib⟩
  obtain⟨ady,csy,hay,hFy,_,hly⟩:=cd.load hy hyi;obtain⟨p0,p1,p2,p3,p4,p5,p6,p7,rfl,hFy⟩:=hFy;have hyd:ys.getD css.length 0=y:=by rw[List.getD,hyi];rfl
  have hpq:=xh (xs:=xs) (b:=b) hib;rw[hyd]at hpq;have hbd:=hbound y (aD hyi);have hrm:=jN y b;conv=>whnf
  refine cW.mk (fun hx0=>?_) (fun hx0=>?_)
  ·have hx0:0<xs.length:=by have:=aG hx0;omega
   have hxl:css.length<xs.length:=hlen.elim (fun h=>by rw[h]at hx0;simp at hx0) (fun h=>by omega);obtain⟨x,hxi⟩:∃x,xs[css.length]? =some x:=⟨_,aA hxl⟩
   obtain⟨adx,csx,hax,hFx,_,hlx⟩:=cd.load hx hxi;obtain⟨q0,q1,q2,q3,q4,q5,q6,q7,rfl,hFx⟩:=hFx;have hxd:xs.getD css.length 0=x:=by rw[List.getD,hxi];rfl
   rw[aQ hx0,hxd]at hpq;conv=>whnf
   refine⟨ady,hay,⟨by omega,by omega⟩,?_⟩;conv=>whnf
   refine⟨[.bool p0,.slice p1 p2 p3,.bool p4,.slice p5 p6 p7],rfl,fun ρ w' r i x hx=>?_,?_⟩
   ·obtain⟨k1,k2⟩:=hly i x hx;rw[aB,bo (w:=w) (w2:=w') (by rw[cC,cC];exact(hw.tr r.bs).block _ (hS _ k1))];exact k2
   conv=>whnf
   refine bp (cE hw (Φ:=fun _ w' v w2=>v= .int .i64 (rs y)) (fun ρ w' r=>BQ (fun g hg=>by have:=hS g hg;have:=r.bm;omega) (hFy.bu fun g hg=>(hw.tr r.bs).block g (hS g hg))) ?_);rintro ρ wa1 v1 wb1 iv1 r he hw h_ rfl;replace hat:=hat.bq r (bl w) he (mC h_);clear r;conv=>whnf
   refine cW.mk (fun hs=>?_) (fun hs=>?_)
   ·have hs:y=0:=tc.1 (by simpa using hs);rw[hs,Rat.zero_mul,Rat.add_zero]at hpq;conv=>whnf
    refine⟨adx,hax,⟨by omega,by omega⟩,?_⟩;conv=>whnf
    refine⟨[.bool q0,.slice q1 q2 q3,.bool q4,.slice q5 q6 q7],rfl,fun ρ w' r i x hx=>?_,?_⟩
    ·obtain⟨k1,k2⟩:=hlx i x hx;rw[aB,bo (w:=w) (w2:=w') (by rw[cC,cC];exact(hw.tr r.bs).block _ (hS _ k1))];exact k2
    conv=>whnf
    refine bp (cE hw (Φ:=fun _ w' v w2=>cH w2 (Nw (fun _=>False) w' w2) v (x)) (fun ρ w' r=>fg (fun g hg=>by have:=hS g hg;have:=r.bm;omega) (hFx.bu fun g hg=>(hw.tr r.bs).block g (hS g hg))) ?_);rintro ρ wa2 v2 wb2 iv2 r he hw h_ hn;replace hat:=hat.bq r (bl w) he (mC h_);have hv1:=hn.cQ (S:=fun _=>False) r.bm (mN h_);clear r hn;obtain⟨s2_0,s2_1,s2_2,s2_3,s2_4,s2_5,s2_6,s2_7,rfl⟩:=hv1.shape;conv=>whnf
    refine .inl ?_;conv=>whnf
    refine⟨hfl,by omega,by unfold maxLen;omega,?_⟩;conv=>whnf
    refine⟨((css.length+1:Nat):Int),by rw[wrap64]<;>omega,?_⟩;conv=>whnf
    intro ρ3 w3 r3;have hl3:(css++[[Value.bool s2_0,.slice s2_1 s2_2 s2_3,.bool s2_4,.slice s2_5 s2_6 s2_7]]).length=css.length+1:=by simp
    have hf3:(css++[[Value.bool s2_0,.slice s2_1 s2_2 s2_3,.bool s2_4,.slice s2_5 s2_6 s2_7]]).flatten=css.flatten++[Value.bool s2_0,.slice s2_1 s2_2 s2_3,.bool s2_4,.slice s2_5 s2_6 s2_7]:=by simp
    exact⟨(css++[[.bool s2_0,.slice s2_1 s2_2 s2_3,.bool s2_4,.slice s2_5 s2_6 s2_7]],w3,_),⟨by dsimp only;rw[hl3];exact hib,hw.tr r3.bs,ve h4 ⟨rfl,by intro u hu;simp at hu;rcases hu with rfl|rfl|rfl|rfl<;>rfl⟩,(hat.rel r3 (bl w)).push hpq (hv1.rel r3 (bl w)).oL⟩,
     Sub.gen [(1,3)] r3 ⟨by dsimp only;rw[hf3];rfl,rfl,trivial⟩ ⟨rfl,rfl,rfl,by dsimp only;rw[hl3];rfl,by dsimp only;rw[hl3];rfl,trivial⟩ (by simp[cY,cN.scopd,At.sc]) (by simp[cO,SV.sc,At.sc]) (by rfl) (fun lo hi h=>h),by dsimp only;rw[hl3];omega⟩
   conv=>whnf
   refine bw hτ dH [.x 0,.x 1,.x 2,.x 3,.x 4,.p 6,.x 5,.x 6,.x 7] (by kernel_rfl) (by kernel_rfl) ?_;conv=>whnf
   refine⟨ady,hay,⟨by omega,by omega⟩,?_⟩;conv=>whnf
   refine⟨[.bool p0,.slice p1 p2 p3,.bool p4,.slice p5 p6 p7],rfl,fun ρ w' r i x hx=>?_,?_⟩
   ·obtain⟨k1,k2⟩:=hly i x hx;rw[aB,bo (w:=w) (w2:=w') (by rw[cC,cC];exact(hw.tr r.bs).block _ (hS _ k1))];exact k2
   conv=>whnf
   refine cE hw (Φ:=fun _ w' v w2=>cH w2 (Nw (fun _=>False) w' w2) v (y*b)) (fun ρ w' r=>BS (fun g hg=>by have:=hS g hg;have:=r.bm;omega) (hFy.bu fun g hg=>(hw.tr r.bs).block g (hS g hg)) (hb.bu fun g hg=>(hw.tr r.bs).block g (hS g hg))) ?_;rintro ρ wa2 v2 wb2 iv2 r he hw h_ hn;replace hat:=hat.bq r (bl w) he (mC h_);have hm:=hn.cQ (S:=fun _=>False) r.bm (mN h_);clear r hn;obtain⟨s2_0,s2_1,s2_2,s2_3,s2_4,s2_5,s2_6,s2_7,rfl⟩:=hm.shape;conv=>whnf
   refine cW.mk (fun hx1=>?_) (fun hx1=>absurd hx0 (by have:=aF hx1;omega));conv=>whnf
   refine bw hτ dH [.x 0,.x 1,.x 2,.x 3,.x 4,.x 5,.x 6] (by kernel_rfl) (by kernel_rfl) ?_;conv=>whnf
   refine⟨adx,hax,⟨by omega,by omega⟩,?_⟩;conv=>whnf
   refine⟨[.bool q0,.slice q1 q2 q3,.bool q4,.slice q5 q6 q7],rfl,fun ρ w' r i x hx=>?_,?_⟩
   ·obtain⟨k1,k2⟩:=hlx i x hx;rw[aB,bo (w:=w) (w2:=w') (by rw[cC,cC];exact(hw.tr r.bs).block _ (hS _ k1))];exact k2
   conv=>whnf
   refine cE hw (Φ:=fun _ w' v w2=>cH w2 (Nw (fun _=>False) w' w2) v (x+y*b)) (fun ρ w' r=>BR (Rel.old r hS) ((hFx.bu fun g hg=>(hw.tr r.bs).block g (hS g hg)).bz fun g hg=>Or.inl hg) (((hm.rel r (bl w)).l (by omega)).bz fun g hg=>Cv.false hg)) ?_;rintro ρ wa3 v3 wb3 iv3 r he hw h_ hn;replace hat:=hat.bq r (bl w) he (mC h_);clear hm;have hv1:=hn.cQ (S:=fun _=>False) r.bm (mN h_);clear r hn;obtain⟨s3_0,s3_1,s3_2,s3_3,s3_4,s3_5,s3_6,s3_7,rfl⟩:=hv1.shape;conv=>whnf
   refine .inl ?_;conv=>whnf
   refine⟨hfl,by omega,by unfold maxLen;omega,?_⟩;conv=>whnf
   refine⟨((css.length+1:Nat):Int),by rw[wrap64]<;>omega,?_⟩;conv=>whnf
   intro ρ3 w3 r3;have hl3:(css++[[Value.bool s3_0,.slice s3_1 s3_2 s3_3,.bool s3_4,.slice s3_5 s3_6 s3_7]]).length=css.length+1:=by simp
   have hf3:(css++[[Value.bool s3_0,.slice s3_1 s3_2 s3_3,.bool s3_4,.slice s3_5 s3_6 s3_7]]).flatten=css.flatten++[Value.bool s3_0,.slice s3_1 s3_2 s3_3,.bool s3_4,.slice s3_5 s3_6 s3_7]:=by simp
   exact⟨(css++[[.bool s3_0,.slice s3_1 s3_2 s3_3,.bool s3_4,.slice s3_5 s3_6 s3_7]],w3,_),⟨by dsimp only;rw[hl3];exact hib,hw.tr r3.bs,ve h4 ⟨rfl,by intro u hu;simp at hu;rcases hu with rfl|rfl|rfl|rfl<;>rfl⟩,(hat.rel r3 (bl w)).push hpq (hv1.rel r3 (bl w)).oL⟩,
    Sub.gen [(1,4)] r3 ⟨by dsimp only;rw[hf3];rfl,rfl,trivial⟩ ⟨rfl,rfl,rfl,by dsimp only;rw[hl3];rfl,by dsimp only;rw[hl3];rfl,trivial⟩ (by simp[cY,cN.scopd,At.sc]) (by simp[cO,SV.sc,At.sc]) (by rfl) (fun lo hi h=>h),by dsimp only;rw[hl3];omega⟩
  have hx0:¬0<xs.length:=by have:=aF hx0;omega
  rw[aL hx0]at hpq;conv=>whnf
  refine bw hτ dH [.x 0,.x 1,.x 2,.x 3,.x 4,.p 6,.x 5,.x 6,.x 7] (by kernel_rfl) (by kernel_rfl) ?_;conv=>whnf
  refine⟨ady,hay,⟨by omega,by omega⟩,?_⟩;conv=>whnf
  refine⟨[.bool p0,.slice p1 p2 p3,.bool p4,.slice p5 p6 p7],rfl,fun ρ w' r i x hx=>?_,?_⟩
  ·obtain⟨k1,k2⟩:=hly i x hx;rw[aB,bo (w:=w) (w2:=w') (by rw[cC,cC];exact(hw.tr r.bs).block _ (hS _ k1))];exact k2
  conv=>whnf
  refine cE hw (Φ:=fun _ w' v w2=>cH w2 (Nw (fun _=>False) w' w2) v (y*b)) (fun ρ w' r=>BS (fun g hg=>by have:=hS g hg;have:=r.bm;omega) (hFy.bu fun g hg=>(hw.tr r.bs).block g (hS g hg)) (hb.bu fun g hg=>(hw.tr r.bs).block g (hS g hg))) ?_;rintro ρ wa1 v1 wb1 iv1 r he hw h_ hn;replace hat:=hat.bq r (bl w) he (mC h_);have hm:=hn.cQ (S:=fun _=>False) r.bm (mN h_);clear r hn;obtain⟨s1_0,s1_1,s1_2,s1_3,s1_4,s1_5,s1_6,s1_7,rfl⟩:=hm.shape;conv=>whnf
  refine cW.mk (fun hx1=>absurd (aG hx1) (by omega)) (fun hx1=>?_);conv=>whnf
  refine .inl ?_;conv=>whnf
  refine⟨hfl,by omega,by unfold maxLen;omega,?_⟩;conv=>whnf
  refine⟨((css.length+1:Nat):Int),by rw[wrap64]<;>omega,?_⟩;conv=>whnf
  intro ρ3 w3 r3;have hl3:(css++[[Value.bool s1_0,.slice s1_1 s1_2 s1_3,.bool s1_4,.slice s1_5 s1_6 s1_7]]).length=css.length+1:=by simp
  have hf3:(css++[[Value.bool s1_0,.slice s1_1 s1_2 s1_3,.bool s1_4,.slice s1_5 s1_6 s1_7]]).flatten=css.flatten++[Value.bool s1_0,.slice s1_1 s1_2 s1_3,.bool s1_4,.slice s1_5 s1_6 s1_7]:=by simp
  exact⟨(css++[[.bool s1_0,.slice s1_1 s1_2 s1_3,.bool s1_4,.slice s1_5 s1_6 s1_7]],w3,_),⟨by dsimp only;rw[hl3];exact hib,hw.tr r3.bs,ve h4 ⟨rfl,by intro u hu;simp at hu;rcases hu with rfl|rfl|rfl|rfl<;>rfl⟩,(hat.rel r3 (bl w)).push hpq (hm.rel r3 (bl w)).oL⟩,
   Sub.gen [(1,4)] r3 ⟨by dsimp only;rw[hf3];rfl,rfl,trivial⟩ ⟨rfl,rfl,rfl,by dsimp only;rw[hl3];rfl,by dsimp only;rw[hl3];rfl,trivial⟩ (by simp[cY,cN.scopd,At.sc]) (by simp[cO,SV.sc,At.sc]) (by rfl) (fun lo hi h=>h),by dsimp only;rw[hl3];omega⟩
 have hib:css.length=ys.length:=aM hi (by simpa using hib);conv=>whnf
 intro ρe we re;refine⟨_,rfl,hw.tr re.bs,css,?_,by rw[hpl];exact hib,fun cs hc=>(h4 cs hc).1,fun j cs q k1 k2=>((hat j cs q k1 k2).bu fun g hg=>Rel.same re (bl w) hg).bz fun g hg=>Cv.nw hg re⟩
 have:=re.gB (id:=1) (sz:=4) (m:=css.length) rfl hfl (by unfold maxLen;omega) (by decide) (fun u hu=>by
  obtain⟨cs,hc,hu⟩:=List.mem_flatten.1 hu
  exact(h4 cs hc).2 u hu)
 rw[hpl,<-hib];exact this.bz fun g hg=>.inr hg
end Go.Ex
namespace Go.Ex
theorem iC{α:Type}{l:List α}{i:Nat}{x:α}(h:i<l.length):l.take i++[x]++l.drop (i+1)=l.set i x:=by
 rw[List.set_eq_take_append_cons_drop,aQ h];simp
end Go.Ex
namespace Go.Ex
open Go Go.Sx Go.Proofs
theorem Cc(ys:List Rat)(b:Rat):sS [] ys b=ys.map (· *b):=by
 refine bN fun j=>?_;rcases bA j ys.length with h|h
 ·rw[xh h,aL (by simp),aN,List.getD,aA h];rfl
 ·rw[List.getElem?_eq_none (by rw[qe];exact h),List.getElem?_eq_none (by simp;exact h)]
theorem cB.l{S:Nat->Prop}{w:World}{v:Value}{qs:List Rat}(h:cB w S v qs)(hq:∀q∈qs,rl q<=100000):cS w S v qs:=by
 obtain⟨css,h1,h2,h3,h4⟩:=h;refine⟨css,h1,h2,h3,fun j cs q k1 k2=>?_⟩;obtain⟨b,a,n,c,b2,a2,n2,c2,e,hc⟩:=h4 j cs q k1 k2;exact⟨b,a,n,c,b2,a2,n2,c2,e,hc.l (hq q (aD k2))⟩
theorem cS.nil(w:World)(S:Nat->Prop):cS w S (.slice none 0 0) []:=⟨[],⟨by simp,by simp,by simp,none,0,rfl,aI _,by simp⟩,rfl,by simp,by simp⟩
section
variable{S S':Nat->Prop}{H:Hp}{nx:Nat}{iv iv':Iv}{B:Nat}{w w' w2:World}{ρ:Nat->Sx.dN}{rv:List Value}{M:List (List Rat)}
end
end Go.Ex
namespace Go.Ex
def HB(n c:Nat)(s:List (List Rat)×List Nat):Prop:=qo n s.1∧s.2.length<=s.1.length∧(∀j t,s.2.length<=j->j<s.1.length->t<c->l0 s.1 j t=0)∧(∀p∈s.2,p<c)∧
 ∀i j,i<s.2.length->j<s.1.length->l0 s.1 j (s.2.getD i 0)=if j=i then 1 else 0
abbrev Mx:=Nat->Nat->Rat
def skip(k j:Nat):Nat:=if j<k then j else j+1
def HC(k:Nat):Rat:=if k % 2=1 then -1 else 1
def Ae(f:Nat->Rat):Nat->Rat
 |0=>0
 |n+1=>Ae f n+f n
def GJ:Nat->Mx->Rat
 |0,_=>1
 |n+1,m=>Ae (fun k=>HC k*(m 0 k*GJ n fun i j=>m (i+1) (skip k j))) (n+1)
def pJ(m:Mx)(r:Nat)(u:Nat->Rat):Mx:=fun i j=>if i=r then u j else m i j
end Go.Ex
namespace Go.Ex
open Go Go.Sx Go.Proofs
theorem gP.len{S:Nat->Prop}{w:World}{cs:List Value}{q:Rat}(h:gP w S cs q):cs.length=4:=by obtain⟨_,_,_,_,_,_,_,_,rfl,_⟩:=h;rfl
def Fc(w:World)(S:Nat->Prop)(css:List (List Value))(qs:List Rat):Prop:=css.length=qs.length∧∀(j:Nat) cs q,css[j]? =some cs->qs[j]? =some q->gP w S cs q
section
variable{S S':Nat->Prop}{w w2:World}{cs:List Value}{css:List (List Value)}{q:Rat}{qs:List Rat}
theorem Fc.bu(h:Fc w S css qs)(hk:∀g,S g->w2.heap[g]? =w.heap[g]?):Fc w2 S css qs:=⟨h.1,fun j cs q h1 h2=>(h.2 j cs q h1 h2).bu hk⟩
theorem Fc.bz(h:Fc w S css qs)(hk:∀g,S g->S' g):Fc w S' css qs:=⟨h.1,fun j cs q h1 h2=>(h.2 j cs q h1 h2).bz hk⟩
theorem Fc.tF(h:Fc w S css qs):∀cs∈css,cs.length=4:=fun cs hc=>by
 obtain⟨j,hj⟩:=aU hc;have hl:=(aE.1 hj).1;exact(h.2 j cs _ hj (aA (by rw[<-h.1];exact hl))).len
theorem Fc.one(h:Fc w S css qs):∀u∈css.flatten,u.oneCell'=true:=fun u hu=>by
 obtain⟨cs,hc,hu⟩:=List.mem_flatten.1 hu;obtain⟨j,hj⟩:=aU hc;have hl:=(aE.1 hj).1;obtain⟨_,_,_,_,_,_,_,_,rfl,_⟩:=h.2 j cs _ hj (aA (by rw[<-h.1];exact hl));simp at hu;rcases hu with rfl|rfl|rfl|rfl<;>rfl
theorem Fc.set(h:Fc w S css qs){j:Nat}(hq:gP w S cs q):Fc w S (css.set j cs) (qs.set j q):=by
 refine⟨by simp[h.1],fun i c p h1 h2=>?_⟩;by_cases hij:j=i
 ·subst hij;have hl:=(aE.1 h1).1;rw[aZ (by simpa using hl)]at h1;rw[aZ (by have:=h.1;simp at hl;omega)]at h2;injection h1 with h1;injection h2 with h2;subst h1 h2;exact hq
 ·rw[ai hij]at h1 h2;exact h.2 i c p h1 h2
end
def ek(w:World)(C S:Nat->Prop)(v:Value)(qs:List Rat):Prop:=∃css,gw w C 4 v css.flatten qs.length∧Fc w S css qs
section
variable{C C' S S':Nat->Prop}{H:Hp}{nx:Nat}{iv iv':Iv}{B:Nat}{w w' w2:World}{ρ:Nat->Sx.dN}{v:Value}{qs:List Rat}
theorem ek.bu(h:ek w C S v qs)(hk:∀g,C g∨S g->w2.heap[g]? =w.heap[g]?):ek w2 C S v qs:=by
 obtain⟨css,h1,h2⟩:=h;exact⟨css,h1.bu fun g hg=>hk g (.inl hg),h2.bu fun g hg=>hk g (.inr hg)⟩
theorem ek.bz(h:ek w C S v qs)(hk:∀g,C g->C' g)(hk2:∀g,S g->S' g):ek w C' S' v qs:=by
 obtain⟨css,h1,h2⟩:=h;exact⟨css,h1.bz hk,h2.bz hk2⟩
end
def fm(w:World)(S:Nat->Prop)(v:Value)(n:Nat)(qs:List Rat):Prop:=∃css,w.ownsRow 0 T.Rat 4 v n css.flatten∧css.length=n∧Fc w S css qs
section
variable{S S' C:Nat->Prop}{H:Hp}{nx n:Nat}{iv iv':Iv}{B:Nat}{w w' w2:World}{ρ:Nat->Sx.dN}{v:Value}{qs:List Rat}
theorem fm.bu(h:fm w S v n qs)(hk:∀g,S g∨v.ownBlock=some g->w2.heap[g]? =w.heap[g]?):fm w2 S v n qs:=by
 obtain⟨css,h1,h2,h3⟩:=h;exact⟨css,ownsRow.bu h1 fun g hg=>hk g (.inr hg),h2,h3.bu fun g hg=>hk g (.inl hg)⟩
theorem fm.bz(h:fm w S v n qs)(hk:∀g,S g->S' g):fm w S' v n qs:=by
 obtain⟨css,h1,h2,h3⟩:=h;exact⟨css,h1,h2,h3.bz hk⟩
theorem fm.len(h:fm w S v n qs):qs.length=n:=by
 obtain⟨css,h1,h2,h3⟩:=h;rw[<-h3.1,h2]
theorem fm.form(h:fm w S v n qs):∃a c,v= .slice a n c∧n<=c:=by
 obtain⟨css,h1,h2,h3⟩:=h;exact gp h1
theorem fm.le(h:fm w S v n qs):n<=maxLen:=by
 obtain⟨css,h1,h2,h3⟩:=h;rcases h1.2 with⟨_,h0⟩|⟨_,_,_,_,_,_,h1,h2,_⟩
 ·omega
 ·omega
theorem fm.read(h:fm w S v n qs):ek w (fun g=>v.ownBlock=some g) S v qs:=by
 have hl:=h.len;have hn:=h.le;obtain⟨css,h1,h2,h3⟩:=h;refine⟨css,?_,h3⟩;rw[hl];rcases h1.2 with⟨rfl,rfl⟩|⟨g,cap,cur,rfl,hb,hc,hmc,hcap,hsz,htake⟩
 ·refine⟨hn,h1.1,h3.one,none,0,rfl,aI _,fun j u hu=>?_⟩;have:=h1.1;rw[Nat.zero_mul]at this;rw[List.eq_nil_of_length_eq_zero this]at hu
  cases hu
 ·refine⟨hn,h1.1,h3.one,_,cap,rfl,hmc,fun j u hu=>⟨_,rfl,rfl,?_⟩⟩;exact h1.cells (g:=g) rfl j u hu
theorem fm.store{a a1 a2:Option Addr}{c j n1 c1 n2 c2:Nat}{b b2:Bool}{q:Rat}(h:fm w S (.slice a n c) n qs)(hj:j<n)(hf:cH w S (.agg #[.bool b,.slice a1 n1 c1,.bool b2,.slice a2 n2 c2]) q)(hoff:∀g,(Value.slice a n c).ownBlock=some g->¬S g)(hS:Old S w):
  ∃g,a=some ⟨g,0,none⟩∧((⟨g,0,none⟩:Addr).add ((j:Int).toNat*4)).spot=none∧((⟨g,0,none⟩:Addr).add ((j:Int).toNat*4)).block=g∧
   (∀k,k<4->(w.cell? (((⟨g,0,none⟩:Addr).add ((j:Int).toNat*4)).add k)).isSome=true∧w.frozen? (((⟨g,0,none⟩:Addr).add ((j:Int).toNat*4)).add k)=false)∧
   ∀w2,w2=setCells w ((⟨g,0,none⟩:Addr).add ((j:Int).toNat*4)) [.bool b,.slice a1 n1 c1,.bool b2,.slice a2 n2 c2]->fm w2 S (.slice a n c) n (qs.set j q)∧w.grownBy w2 (some g)∧w2.heap.size=w.heap.size:=by
 obtain⟨css,h1,h2,h3⟩:=h;obtain⟨g,rfl,hok,hst,hgr,hsz⟩:=mL (nv:=[.bool b,.slice a1 n1 c1,.bool b2,.slice a2 n2 c2]) h1 rfl hj rfl (by decide);have had:(⟨g,0,none⟩:Addr).add ((j:Int).toNat*4)=⟨g,j*4,none⟩:=by rw[aB,dA,aP]
 refine⟨g,rfl,by rw[had],by rw[had],fun k hk=>by rw[had];exact hok k hk,fun w2 hw2=>?_⟩;rw[had]at hw2;subst hw2;have hset:=gn (cs:=[.bool b,.slice a1 n1 c1,.bool b2,.slice a2 n2 c2]) h3.tF (show j<css.length by omega);rw[hset]at hst;have hkeep:∀x,S x->(setCells w ⟨g,j*4,none⟩ [.bool b,.slice a1 n1 c1,.bool b2,.slice a2 n2 c2]).heap[x]? =w.heap[x]? :=fun x hx=>
  hgr.block x (hS x hx) fun e=>hoff g rfl (by injection e with e;rw[<-e];exact hx)
 exact⟨⟨_,hst,by simpa using h2,(h3.bu hkeep).set (hf.bu hkeep).oL⟩,hgr,hsz⟩
structure dK(w:World)(S:Nat->Prop)(B:Nat)(iv:Iv)(v:Value)(n:Nat)(qs:List Rat):Prop where
 row:fm w (fun g=>Cv S B iv g∧v.ownBlock≠some g) v n qs
 new:∀g,v.ownBlock=some g->Cv (fun _=>False) B iv g
theorem dK.bu(h:dK w S B iv v n qs)(hk:∀g,Cv S B iv g->w2.heap[g]? =w.heap[g]?):dK w2 S B iv v n qs:=
 ⟨h.row.bu fun g hg=>hk g (hg.elim (fun h=>h.1) fun hg=>(h.new g hg).elim (fun h=>h.elim) .inr),h.new⟩
theorem dK.rel(h:dK w S B iv v n qs)(r:Rel H nx iv B w ρ w')(hS:∀g,S g->g<B):dK w' S B iv v n qs:=h.bu fun _ hg=>Rel.same r hS hg
theorem dK.bq(h:dK w S B iv v n qs)(r:Rel H nx iv B w ρ w')(hS:∀g,S g->g<B)(he:Ext w' w2)(hm:∀p,p∈iv->p∈iv'):dK w2 S B iv' v n qs:=
 have h2:=(h.rel r hS).bu fun g hg=>he.block g (Rel.old r hS g hg)
 ⟨h2.row.bz fun _ hg=>⟨hg.1.mono hm,hg.2⟩,fun g hg=>(h2.new g hg).mono hm⟩
theorem dK.cQ(h:dK w2 (fun _=>False) w'.heap.size [(w'.heap.size,w2.heap.size)] v n qs)(hB:B<=w'.heap.size)(hm:(w'.heap.size,w2.heap.size)∈iv):dK w2 S B iv v n qs:=by
 have key:∀g {X:Nat->Prop},Cv (fun _=>False) w'.heap.size [(w'.heap.size,w2.heap.size)] g->Cv X B iv g:=fun g X hg=>by
  rcases hg with hg|⟨h1,lo,hi,h2,h3,h4⟩
  ·exact hg.elim
  ·simp at h2;obtain⟨rfl,rfl⟩:=h2;exact .inr ⟨by omega,_,_,hm,h3,h4⟩
 exact⟨h.row.bz fun g hg=>⟨key g hg.1,hg.2⟩,fun g hg=>key g (h.new g hg)⟩
theorem dK.out{w0 w1:World}(h:dK w1 (fun _=>False) w0.heap.size iv v n qs)(r:Rel H nx iv w0.heap.size w1 ρ w'):dK w' (fun _=>False) w0.heap.size [(w0.heap.size,w'.heap.size)] v n qs:=by
 have h2:=h.rel r (bl w0);have key:∀g,Cv (fun _=>False) w0.heap.size iv g->Cv (fun _=>False) w0.heap.size [(w0.heap.size,w'.heap.size)] g:=fun g hg=>by
  rcases hg with hg|⟨h1,lo,hi,h2,h3,h4⟩
  ·exact hg.elim
  ·exact .inr ⟨h1,_,_,bB.2 rfl,h1,by have:=r.oU lo hi h2;have:=r.size;omega⟩
 exact⟨h2.row.bz fun g hg=>⟨key g hg.1,hg.2⟩,fun g hg=>key g (h2.new g hg)⟩
theorem dK.read(h:dK w S B iv v n qs):ek w (Cv S B iv) (Cv S B iv) v qs:=
 h.row.read.bz (fun g hg=>(h.new g hg).elim (fun h=>h.elim) .inr) fun _ hg=>hg.1
end
section
variable{S S':Nat->Prop}{H:Hp}{nx n:Nat}{iv iv':Iv}{B:Nat}{w w' w2:World}{ρ:Nat->Sx.dN}{v:Value}{qs:List Rat}
theorem dK.store{a a1 a2:Option Addr}{c j n1 c1 n2 c2:Nat}{b b2:Bool}{q:Rat}(h:dK w' S B iv (.slice a n c) n qs)(hj:j<n)(hf:cH w' (fun g=>Cv S B iv g∧(Value.slice a n c).ownBlock≠some g) (.agg #[.bool b,.slice a1 n1 c1,.bool b2,.slice a2 n2 c2]) q)
  (r:Rel H nx iv B w ρ w') (hS:∀g,S g->g<B):
  ∃g,a=some ⟨g,0,none⟩∧((⟨g,0,none⟩:Addr).add ((j:Int).toNat*4)).spot=none∧
   (∀k,k<4->(w'.cell? (((⟨g,0,none⟩:Addr).add ((j:Int).toNat*4)).add k)).isSome=true∧w'.frozen? (((⟨g,0,none⟩:Addr).add ((j:Int).toNat*4)).add k)=false)∧
   (∀id b,cT H id=some b->(ρ id).nil=false->(ρ id).g≠((⟨g,0,none⟩:Addr).add ((j:Int).toNat*4)).block)∧Cv (fun _=>False) B iv g∧
   ∀w2,w2=setCells w' ((⟨g,0,none⟩:Addr).add ((j:Int).toNat*4)) [.bool b,.slice a1 n1 c1,.bool b2,.slice a2 n2 c2]->dK w2 S B iv (.slice a n c) n (qs.set j q)∧w'.grownBy w2 (some g)∧w2.heap.size=w'.heap.size:=by
 obtain⟨g,rfl,h1,h2,h3,h4⟩:=h.row.store hj hf (fun g hg hx=>hx.2 hg) (fun x hx=>Rel.old r hS x hx.1);refine⟨g,rfl,h1,h3,fun id b hb hn=>by rw[h2];exact Rel.not r hS (ET (h.new g rfl)) id b hb hn,h.new g rfl,fun w2 hw2=>?_⟩;obtain⟨k1,k2,k3⟩:=h4 w2 hw2;exact⟨⟨k1,h.new⟩,k2,k3⟩
end
end Go.Ex
namespace Go.Sx
open Go Go.Ex Go.Proofs
theorem Sub.oy{B:Nat}{l tl:Env}{nx:Nat}{H tH:Hp}{iv:Iv}{w w':World}{ρ:Nat->Sx.dN}{id t n c:Nat}{e:TypeId}{cs:List Value}(r:Rel H nx iv B w ρ w')(hid:cT H id=some (.arr e cs))(ht:eR l t=some (.o (.s id 0 n c)))
  (hs:sX H tH) (ho:zI id tH=true) (h1:zC l tl) (h2:cO nx tl):
  Sub B l nx ρ w' ⟨(t,.o (.v (.slice (some ⟨(ρ id).g,0,none⟩) n c)))::tl,tH,nx,((ρ id).g,(ρ id).g+1)::iv,w'⟩:=by
 refine⟨ρ,r.free hid (by simp) (r.fits hid).1 hs ho,fun u v hv=>?_⟩;rw[di]at hv;split at hv
 ·rename_i e;subst e;injection hv with hv;subst hv;exact⟨trivial,_,ht,rfl⟩
 ·exact⟨h2.get u v hv,v,h1.get u v hv,rfl⟩
end Go.Sx
namespace Go.Ex
open Go Go.Sx Go.Proofs
end Go.Ex
namespace Go.Ex
open Go Go.Sx Go.Proofs
def dP(w:World)(S:Nat->Prop)(rv:List Value)(K:List (List Rat)):Prop:=rv.length=K.length∧(∀u∈rv,u.oneCell'=true)∧∀(i:Nat) u r,rv[i]? =some u->K[i]? =some r->cB w S u r
section
variable{S S':Nat->Prop}{H:Hp}{nx:Nat}{iv iv':Iv}{B:Nat}{w w' w2:World}{ρ:Nat->Sx.dN}{rv:List Value}{K:List (List Rat)}
theorem dP.bu(h:dP w S rv K)(hk:∀g,S g->w2.heap[g]? =w.heap[g]?):dP w2 S rv K:=⟨h.1,h.2.1,fun i u x h1 h2=>cB.bu (h.2.2 i u x h1 h2) hk⟩
theorem dP.bz(h:dP w S rv K)(hk:∀g,S g->S' g):dP w S' rv K:=⟨h.1,h.2.1,fun i u x h1 h2=>cB.bz (h.2.2 i u x h1 h2) hk⟩
theorem dP.rel(h:dP w (Cv S B iv) rv K)(r:Rel H nx iv B w ρ w')(hS:∀g,S g->g<B):dP w' (Cv S B iv) rv K:=h.bu fun _ hg=>Rel.same r hS hg
theorem dP.bq(h:dP w (Cv S B iv) rv K)(r:Rel H nx iv B w ρ w')(hS:∀g,S g->g<B)(he:Ext w' w2)(hm:∀p,p∈iv->p∈iv'):dP w2 (Cv S B iv') rv K:=
 ((h.rel r hS).bu fun g hg=>he.block g (Rel.old r hS g hg)).bz fun _ hg=>hg.mono hm
theorem dP.push{u:Value}{x:List Rat}(h:dP w S rv K)(hu:u.oneCell'=true)(hx:cB w S u x):dP w S (rv++[u]) (K++[x]):=by
 refine⟨by simp[h.1],fun v hv=>?_,fun i v y h1 h2=>?_⟩
 ·rcases bT.1 hv with hv|hv
  ·exact h.2.1 v hv
  ·simp at hv;subst hv;exact hu
 ·rcases bA i rv.length with hi|hi
  ·rw[aJ hi]at h1;rw[aJ (by rw[<-h.1];exact hi)]at h2;exact h.2.2 i v y h1 h2
  ·have hi0:i=rv.length:=by have:=(aE.1 h1).1;simp at this;omega
   subst hi0;rw[aT (aI _),bP]at h1;rw[h.1,aT (aI _),bP]at h2;simp at h1 h2;subst h1 h2;exact hx
end
end Go.Ex
namespace Go.Ex
end Go.Ex
namespace Go.Ex
open Go Go.Sx Go.Proofs
section
variable{S S':Nat->Prop}{H:Hp}{nx:Nat}{iv iv':Iv}{B:Nat}{w w' w2:World}{ρ:Nat->Sx.dN}{v:Value}{M:List (List (Int×Int))}
end
theorem BU(x y:Rat):x-y+y=x:=by rw[Rat.sub_eq_add_neg,Rat.add_assoc,Rat.neg_add_cancel,Rat.add_zero]
theorem yl(p q:Rat):p-q=0↔p=q:=by
 constructor
 ·intro h;have:=congrArg (· +q) h;simpa [BU,Rat.zero_add]using this
 ·intro h;rw[h,Rat.sub_self]
theorem AM{p q:Rat}:rs (p-q)=0↔p=q:=by rw[tc,yl]
def Gr(g:Nat):Value:=.func (.func g) #[] #[]
def eG(xs ys:List Rat):Nat->Rat
 |0=>0
 |i+1=>eG xs ys i+xs.getD i 0*ys.getD i 0
theorem k9{xs ys:List Rat}{h:Nat}(hx:∀q∈xs,rl q+1<=h)(hy:∀q∈ys,rl q+1<=h)(h2:2<=h):∀i:Nat,rl (eG xs ys i)<=2*h*i+2
 |0=>by rw[eG];exact bH (by decide:rl 0<=2) (by omega)
 |i+1=>by
  have h3:=k9 hx hy h2 i;have h4:=mR (eG xs ys i) (xs.getD i 0*ys.getD i 0);have h5:=jN (xs.getD i 0) (ys.getD i 0);have h6:=Bb hx h2 i;have h7:=Bb hy h2 i;rw[eG,bJ];omega
section
variable{S S':Nat->Prop}{H:Hp}{nx:Nat}{iv iv':Iv}{B:Nat}{w w' w2:World}{ρ:Nat->Sx.dN}{v:Value}{qs:List Rat}
end
section
variable{S S':Nat->Prop}{H:Hp}{nx:Nat}{iv iv':Iv}{B:Nat}{w w' w2:World}{ρ:Nat->Sx.dN}{v:Value}{M:List (List Rat)}
end
section
variable{S S':Nat->Prop}{H:Hp}{nx:Nat}{iv iv':Iv}{B:Nat}{w w' w2:World}{ρ:Nat->Sx.dN}{v:List Value}{M:List (List Rat)}
end
theorem kM(w:World)(t e:TypeId)(a:Option Addr)(n c n' c':Nat)(h:PG.underlying t=some (.slice e)):
  (binOp .eql t (.slice a n c) (.slice none n' c')).run PG w= .ok (.bool a.isNone) w:=by
 have:∀d,(Op.equalIn (d+1) t (.slice a n c) (.slice none n' c')).run PG w= .ok a.isNone w:=fun d=>by cases a<;>simp[Op.equalIn,run_underlying h]
 simp only[binOp]
 cases a<;>simp[Op.equal,Op.maxDepth,this 9999]
abbrev G7(gm R:Nat):Value:=.slice (some ⟨gm,0,none⟩) R R
def HH(S:Nat->Prop)(B:Nat)(iv:Iv)(gm R:Nat)(rv:List Value)(g:Nat):Prop:=Cv S B iv g∧¬Mb (G7 gm R) rv g
structure Gi(w:World)(S:Nat->Prop)(B:Nat)(iv:Iv)(gm R n:Nat)(rv:List Value)(M:List (List Rat)):Prop where
 mat:GO w (HH S B iv gm R rv) (G7 gm R) rv n M
 wo:∀g,Mb (G7 gm R) rv g->Cv (fun _=>False) B iv g
 rows:rv.length=R
section
variable{S S':Nat->Prop}{H:Hp}{nx gm R n:Nat}{iv iv':Iv}{B:Nat}{w w' w2:World}{ρ:Nat->Sx.dN}{rv:List Value}{M:List (List Rat)}
structure aAF(w:World)(S:Nat->Prop)(B:Nat)(iv:Iv)(gm R n:Nat)(rv:List Value)(M:List (List Rat))(i:Nat)(vb:Value):Prop where
 out:w.ownsRow 0 T.row 1 (G7 gm R) R (rv.set i vb)
 was:∃w0,Gi w0 S B iv gm R n rv M∧∀g,Cv S B iv g->g≠gm->w.heap[g]? =w0.heap[g]?
end
section
variable{S:Nat->Prop}{H:Hp}{nx gm R:Nat}{iv iv':Iv}{B:Nat}{w w' w2:World}{ρ:Nat->Sx.dN}{rv:List Value}{css:List (List Value)}{qs:List Rat}
end
inductive Tp where
 |nil
 |x (i:Nat) (t:Tp)
 |two (i:Nat) (t:Tp) (j:Nat) (u:Tp)
 |oy (id:Nat) (t:Tp)
section
variable{P:Program}{τ:kI}{ops:Array Oper}{B n nx:Nat}{l:Env}{H:Hp}{iv:Iv}{w w':World}{ρ:Nat->Sx.dN}{a:Act}
end
theorem qP{l tl:Env}{nx t id n:Nat}{ρ:Nat->Sx.dN}(hn:(ρ id).nil=false)(ht:eR l t=some (.o (.w id n)))(h1:zC l tl)(h2:cO nx tl):∀u v,eR ((t,.o (.v (.slice (some ⟨(ρ id).g,0,none⟩) n (ρ id).cap)))::tl) u=some v->v.sc nx∧∃v',eR l u=some v'∧v'.den ρ=v.den ρ:=fun u v hv=>by
 rw[di]at hv;split at hv
 ·rename_i e;subst e;injection hv with hv;subst hv;exact⟨trivial,_,ht,by simp[SV.den,At.den,hn]⟩
 ·exact⟨h2.get u v hv,v,h1.get u v hv,rfl⟩
theorem Ee{H:Hp}{nx:Nat}{iv:Iv}{B:Nat}{w w':World}{ρ:Nat->Sx.dN}(r:Rel H nx iv B w ρ w'){id t m sz:Nat}{cs:List Value}(h:cT H id=some (.vec t sz cs))(hm:cs.length=m*sz)(hm1:m<=maxLen)(hs:0<sz)(h0:0<m)(h1:∀u∈cs,u.oneCell'=true):
  (ρ id).nil=false∧B<=(ρ id).g∧gw w' (fun g=>g=(ρ id).g) sz (.slice (some ⟨(ρ id).g,0,none⟩) m (ρ id).cap) cs m:=by
 rcases r.vec id t sz _ h with⟨hn,rfl⟩|⟨hn,spare,hb,hc,hcap⟩
 ·have:=Nat.mul_pos h0 hs;simp at hm;omega
 ·refine⟨hn,(r.low id _ h hn).1,hm1,hm,h1,some ⟨(ρ id).g,0,none⟩,(ρ id).cap,rfl,?_,fun j x hx=>⟨_,rfl,rfl,?_⟩⟩
  ·have h1:(cs++spare).length=cs.length+spare.length:=List.length_append;have h2:m*sz<=(ρ id).cap*sz:=by omega
   exact Nat.le_of_mul_le_mul_right h2 hs
  ·rw[dA,cell_of hb,aP,aJ (aE.1 hx).1];exact hx
end Go.Ex
namespace Go.Ex
section
variable{M:List (List Rat)}{b:List Rat}{n:Nat}
end
end Go.Ex
namespace Go.Ex
open Go Go.Sx Go.Proofs
section
variable{S:Nat->Prop}{H:Hp}{nx:Nat}{iv0:Iv}{B:Nat}{w w' w2:World}{ρ:Nat->Sx.dN}{v:Value}{xs:List Rat}
end
theorem jY{q:Rat}:rs q<0↔q<0:=by rw[rs,Int.sign_neg_iff,<-Int.not_le,Rat.num_nonneg,Rat.not_le]
theorem lQ{q:Rat}:0<rs q↔0<q:=by
 have h:=jY (q:= -q);rw[F2]at h;constructor
 ·intro k;have:=h.1 (by omega);grind
 ·intro k;have:=h.2 (by grind);omega
end Go.Ex
namespace Go.Ex
def GI:List Nat->(Nat->Rat)->Rat
 |[],_=>0
 |t::l,g=>g t+GI l g
def dy(M:List (List Rat))(x:List Rat):List Rat:=M.map fun r=>eG r x r.length
section
variable{M:List (List Rat)}{x:List Rat}{n:Nat}
end
structure Diff(A:List (List Rat))(pv:List Nat)(n:Nat)(x:List Rat):Prop where
 up:pv.Pairwise (· < ·)
 lt:∀p∈pv,p<n
 le:pv.length<=A.length
 unit:∀i j,i<pv.length->j<A.length->l0 A j (pv.getD i 0)=if j=i then 1 else 0
 sum:∀j,j<A.length->GI (List.range n) (fun t=>l0 A j t*x.getD t 0)=l0 A j n
section
variable{A:List (List Rat)}{pv:List Nat}{n:Nat}{x:List Rat}
end
section
variable{m m':Mx}{n w p:Nat}{κ:Rat}{q:Nat->Rat}
end
def F3(E:Mx)(r n:Nat)(v:Nat->Rat):Prop:=∃c:Nat->Rat,∀t,t<n->v t=Ae (fun i=>c i*E i t) r
structure Rf(E:Mx)(p:Nat->Nat)(r n:Nat):Prop where
 lt:∀i,i<r->p i<n
 mono:∀i j,i<j->j<r->p i<p j
 unit:∀i j,i<r->j<r->E j (p i)=if j=i then 1 else 0
 lead:∀i t,i<r->t<p i->E i t=0
section
variable{E F:Mx}{p q:Nat->Nat}{r s n:Nat}{v:Nat->Rat}
end
def Gd(s:List (List Rat)×List Nat):Prop:=(∀i j,i<j->j<s.2.length->s.2.getD i 0<s.2.getD j 0)∧∀i t,i<s.2.length->t<s.2.getD i 0->l0 s.1 i t=0
structure Ru(E:Mx)(p:Nat->Nat)(r n:Nat):Prop where
 lt:∀i,i<r->p i<n
 inj:∀i j,i<r->j<r->p i=p j->i=j
 unit:∀i j,i<r->j<r->E j (p i)=if j=i then 1 else 0
 lead:∀i t,i<r->t<p i->E i t=0
def Ge(E:Mx)(p:Nat->Nat)(r:Nat)(v:Nat->Rat)(k t:Nat):Rat:=v t-Ae (fun i=>if p i<k then v (p i)*E i t else 0) r
section
variable{E:Mx}{p:Nat->Nat}{r n:Nat}{v:Nat->Rat}
end
section
variable{E:Mx}{p:Nat->Nat}{r n k:Nat}{u v:Nat->Rat}
end
def mQ(row qh:List Rat)(by_:Rat):List Rat:=row.mapIdx (zU (-by_) qh)
theorem pU(row qh:List Rat)(b:Rat):(mQ row qh b).length=row.length:=List.length_mapIdx
theorem uG(row qh:List Rat):mQ row qh 0=row:=by
 refine bN fun j=>?_;rw[mQ,List.getElem?_mapIdx]
 cases row[j]? with
 |none=>rfl
 |some q=>exact congrArg some (by rw[zU,Rat.neg_zero,Rat.zero_mul,Rat.add_zero])
def zV(row:List Rat):Nat->Nat->Nat
 |0,k=>k
 |f+1,k=>if row.getD k 0=0 then zV row f (k+1)else k
def Af(row:List Rat)(cols:Nat):Nat:=zV row cols 0
theorem DJ{row:List Rat}{k:Nat}:∀(f j:Nat),(∀i,j<=i->i<j+k->row.getD i 0=0)->k<=f->(k<f->row.getD (j+k) 0≠0)->zV row f j=j+k:=by
 induction k with
 |zero=>
  intro f j _ _ h
  cases f with
  |zero=>rfl
  |succ f=>rw[zV,aL (by have:=h (by omega);rwa [bg]at this)];rfl
 |succ k ih=>
  intro f j h0 hf h
  cases f with
  |zero=>omega
  |succ f=>
   rw[zV,aQ (h0 j (aI _) (by omega)),ih f (j+1) (fun i h1 h2=>h0 i (by omega) (by omega)) (by omega) (fun h1=>by rw[Nat.add_assoc,Nat.add_comm 1 k];exact h (by omega))];omega
theorem B5{row:List Rat}{cols k:Nat}(h0:∀i,i<k->row.getD i 0=0)(hk:k<=cols)(h:k<cols->row.getD k 0≠0):Af row cols=k:=by
 rw[Af,DJ (k:=k) cols 0 (fun i _ h2=>h0 i (by omega)) hk (fun h1=>by rw[aP];exact h h1),aP]
abbrev uH:=List (List Rat)×List (Option Nat)×List Nat
def fA(E:List (List Rat))(at_:List (Option Nat))(row:List Rat):Nat->List Rat
 |0=>row
 |k+1=>match at_.getD k none with
  |some j=>mQ (fA E at_ row k) (E.getD j []) ((fA E at_ row k).getD k 0)
  |none=>fA E at_ row k
theorem iw(E:List (List Rat))(at_:List (Option Nat))(row:List Rat):∀k,(fA E at_ row k).length=row.length
 |0=>rfl
 |k+1=>by
  rw[fA];split
  ·rw[pU,iw E at_ row k]
  ·exact iw E at_ row k
def fh(E:List (List Rat))(u:List Rat)(p i:Nat):List (List Rat):=E.mapIdx fun j r=>if j<i then mQ r u (r.getD p 0)else r
def pV(cols:Nat)(s:uH)(i:Nat)(row:List Rat):uH:=
 let r:=fA s.1 s.2.1 row cols
 let p:=Af r cols
 if p=cols then s else
  let u:=r.map (· / r.getD p 0)
  (fh s.1 u p s.1.length++[u],s.2.1.set p (some s.1.length),s.2.2++[i])
def iJ(M:List (List Rat))(cols:Nat):Nat->uH
 |0=>([],List.replicate cols none,[])
 |i+1=>pV cols (iJ M cols i) i (M.getD i [])
def dV(s:uH):Nat->List (List Rat)×List Nat×List Nat
 |0=>([],[],[])
 |k+1=>match s.2.1.getD k none with
  |some r=>((dV s k).1++[s.1.getD r []],(dV s k).2.1++[k],(dV s k).2.2++[s.2.2.getD r 0])
  |none=>dV s k
def dF(M:List (List Rat))(cols:Nat):List (List Rat)×List Nat×List Nat:=dV (iJ M cols M.length) cols
structure rh(n cols i:Nat)(s:uH):Prop where
 len:qo n s.1
 at_:s.2.1.length=cols
 qh:s.2.2.length=s.1.length
 lt:∀(k r:Nat),s.2.1[k]? =some (some r)->r<s.1.length
 le:s.1.length<=i
 fr:∀j∈s.2.2,j<i
theorem fB(E:List (List Rat))(u:List Rat)(p i:Nat):(fh E u p i).length=E.length:=List.length_mapIdx
theorem Ag(E:List (List Rat))(u:List Rat)(p:Nat):fh E u p 0=E:=by
 refine bN fun j=>?_;rw[fh,List.getElem?_mapIdx]
 cases E[j]? <;>rfl
theorem zW{E:List (List Rat)}{u:List Rat}{p i:Nat}{r:List Rat}(h:E[i]? =some r):(fh E u p i)[i]? =some r:=by
 rw[fh,List.getElem?_mapIdx,h];exact congrArg some (aL (Nat.lt_irrefl i))
theorem uI{E:List (List Rat)}{u:List Rat}{p i:Nat}{r:List Rat}(h:E[i]? =some r):fh E u p (i+1)=(fh E u p i).set i (mQ r u (r.getD p 0)):=by
 refine bN fun j=>?_;have hi:=(aE.1 h).1;by_cases hj:i=j
 ·subst hj;rw[aZ (by rw[fB];exact hi),fh,List.getElem?_mapIdx,h];exact congrArg some (aQ (bZ i))
 ·rw[ai hj,fh,fh,List.getElem?_mapIdx,List.getElem?_mapIdx]
  cases E[j]? with
  |none=>rfl
  |some r=>
   have e:(j<i+1)↔(j<i):=by omega
   simp only[Option.map_some,e]
theorem CM{E:List (List Rat)}{u:List Rat}{p i n:Nat}(h:qo n E):qo n (fh E u p i):=fun r hr=>by
 obtain⟨j,hj⟩:=aU hr;rw[fh,List.getElem?_mapIdx]at hj
 cases hE:E[j]? with
 |none=>rw[hE]at hj;cases hj
 |some x=>
  rw[hE]at hj;have hx:=h x (aD hE);simp only[Option.map_some,Option.some.injEq]at hj;subst hj;split
  ·rw[pU];exact hx
  ·exact hx
theorem rh.start(n cols:Nat):rh n cols 0 ([],List.replicate cols none,[]):=
 ⟨(fun r hr=>by cases hr),bR ..,rfl,(fun (k r:Nat) h=>by rw[List.getElem?_replicate]at h;split at h<;>cases h),aI _,fun j hj=>by cases hj⟩
theorem rh.step{n cols i:Nat}{s:uH}(h:rh n cols i s){row:List Rat}(hr:row.length=n):rh n cols (i+1) (pV cols s i row):=by
 unfold pV;dsimp only
 split
 ·exact⟨h.len,h.at_,h.qh,h.lt,Nat.le_succ_of_le h.le,fun j hj=>Nat.lt_succ_of_lt (h.fr j hj)⟩
 ·refine⟨fun r hm=>?_,by simp[h.at_],by simp[h.qh,fB],fun k r hk=>?_,?_,fun j hj=>?_⟩
  ·rcases bT.1 hm with hm|hm
   ·exact CM h.len r hm
   ·rw[bB]at hm;subst hm;rw[aK,iw,hr]
  ·dsimp only at hk ⊢;rw[List.length_append,fB,List.length_singleton];rw[List.getElem?_set]at hk;split at hk
   ·split at hk
    ·injection hk with hk;injection hk with hk;omega
    ·cases hk
   ·have:=h.lt k r hk;omega
  ·dsimp only
   rw[List.length_append,fB,List.length_singleton];have:=h.le;omega
  ·rcases bT.1 hj with hj|hj
   ·exact Nat.lt_succ_of_lt (h.fr j hj)
   ·rw[bB]at hj;omega
theorem uJ{M:List (List Rat)}{n:Nat}(cols:Nat)(hM:qo n M):∀i,i<=M.length->rh n cols i (iJ M cols i)
 |0,_=>rh.start n cols
 |i+1,hi=>by
  have hm:=aA (l:=M) (show i<M.length by omega);refine(uJ cols hM i (by omega)).step ?_;rw[List.getD,hm];exact hM _ (aD hm)
structure eX where
 nodes:List (Int×Int×Int)
 bars:List (Int×Int×Rat)
 cG:List (Int×Int×Rat)
def eX.cols(f:eX):Nat:=f.bars.length+f.cG.length
def eX.node(f:eX)(n:Int):Int×Int×Int:=f.nodes.getD n.toNat (0,0,0)
def oa(f:eX)(b:Int×Int×Rat):List Int:=[(f.node b.2.1).1-(f.node b.1).1,(f.node b.2.1).2.1-(f.node b.1).2.1,(f.node b.2.1).2.2-(f.node b.1).2.2]
def pW(M:List (List Int))(r c:Nat)(d:Int):List (List Int):=M.set r ((M.getD r []).set c ((M.getD r []).getD c 0+d))
def putAt(M:List (List Int))(r c:Nat)(d:Int):List (List Int):=M.set r ((M.getD r []).set c d)
def da(f:eX)(M:List (List Int))(i:Nat):Nat->List (List Int)
 |0=>M
 |k+1=>
  let b:=f.bars.getD i (0,0,0)
  let d:=(oa f b).getD k 0
  pW (pW (da f M i k) (3*b.1+k).toNat i d) (3*b.2.1+k).toNat i (-d)
def dD(f:eX):Nat->List (List Int)
 |0=>List.replicate (3*f.nodes.length) (List.replicate f.cols 0)
 |i+1=>da f (dD f i) i 3
def eA(f:eX):Nat->List (List Int)
 |0=>dD f f.bars.length
 |i+1=>
  let s:=f.cG.getD i (0,0,0)
  putAt (eA f i) (3*s.1+s.2.1).toNat (f.bars.length+i) 1
def fR(f:eX):List (List Int):=eA f f.cG.length
def cK(l:List Int):List Rat:=l.map fun(n:Int)=>(n:Rat)
def dM(f:eX):List (List Rat):=(fR f).map cK
def dR(M:List (List Rat))(cols:Nat):List (List Rat):=(List.range cols).map fun k=>M.map fun r=>r.getD k 0
abbrev Ld:=Int×Int×Int×Int
def B6(s:List Int)(r:Nat)(d:Int):List Int:=s.set r (s.getD r 0+d)
def eO(l:List Rat)(b:Rat):List Rat:=l.map (· *b)
def jb(a b:List Rat):List Rat:=a.mapIdx fun i x=>x*b.getD i 0
def jM(f:eX):List Rat:=f.bars.map (·.2.2)++f.cG.map (·.2.2)
def gj(M:List (List Rat))(b:List Rat):List (List Rat):=M.mapIdx fun i r=>r++[b.getD i 0]
def tU(M:List (List Rat))(cols:Nat):List (List Rat):=eY (dF M cols).1 (dF M cols).2.1 cols cols
def gk(M:List (List Rat))(b:List Rat)(cols:Nat):Option (List Rat):=
 let e:=dF (gj M b) (cols+1)
 if cols∈e.2.1 then none else some (oc e.1 e.2.1 cols e.2.1.length)
def eZ:eX:=⟨[(0,0,0),(0,0,4),(3,0,0)],[(0,2,1),(1,2,1)],[(0,0,0),(0,1,0),(0,2,0),(1,0,0),(1,1,0),(1,2,0),(2,1,0)]⟩
def Ib(B:Nat)(q:Rat):Prop:=∃z:Int,q=(z:Rat)∧z.natAbs<=B
theorem Ib.int{B:Nat}{z:Int}(h:z.natAbs<=B):Ib B (z:Rat):=⟨z,rfl,h⟩
section
variable{E Z:Mx}{p:Nat->Nat}{r n:Nat}{v:Nat->Rat}
def Gf(Z:Mx)(p:Nat->Nat)(r:Nat):Rat:=GJ r fun j i=>Z (r-1-i) (p (r-1-j))
end
structure Gx(E:Mx)(p:Nat->Nat)(r n B:Nat)(Z:Mx):Prop where
 ru:Ru E p r n
 sp:∀i,i<r->F3 E r n (Z i)
 ib:∀i t,i<r->t<n->Ib B (Z i t)
 nz:Gf Z p r≠0
section
variable{E Z:Mx}{p:Nat->Nat}{r n B k:Nat}{v u:Nat->Rat}
end
structure aAK(M:List (List Rat))(n B i:Nat)(s:uH)(p:Nat->Nat)(Z:Mx):Prop where
 ok:rh n n i s
 piv:∀k,k<n->∀r:Nat,s.2.1[k]? =some (some r)↔r<s.1.length∧p r=k
 HD:Gx (l0 s.1) p s.1.length n B Z
 up:∀r,r<s.1.length->F3 (l0 M) i n (l0 s.1 r)
 dn:∀j,j<i->F3 (l0 s.1) s.1.length n (l0 M j)
section
variable{M:List (List Rat)}{n B i:Nat}{s:uH}{p:Nat->Nat}{Z:Mx}
end
theorem nu{α:Type}{a b:List α}(d:α)(hl:a.length=b.length)(h:∀i,i<a.length->a.getD i d=b.getD i d):a=b:=by
 refine List.ext_getElem hl fun i h1 h2=>?_;have:=h i h1
 rwa [List.getD,List.getD,aA h1,aA h2]at this
structure ElI(M:List (List Rat))(n B c:Nat)(s:List (List Rat)×List Nat)(σ:Nat->Nat)(Z:Mx):Prop where
 red:HB n c s
 mon:Gd s
 len:s.1.length=M.length
 HD:Gx (l0 s.1) (fun i=>s.2.getD i 0) s.2.length n B Z
 org:∀j,j<M.length->σ j<M.length
 rest:∀j,s.2.length<=j->j<M.length->∀t,t<n->l0 s.1 j t=Ge (l0 s.1) (fun i=>s.2.getD i 0) s.2.length (l0 M (σ j)) n t
end Go.Ex
namespace Go.Ex
open Go Go.Sx Go.Proofs
theorem Dv{S:Nat->Prop}{w:World}{v u:Value}{xs ys:List Rat}{h:Nat}(hS:Old S w)(hx:cS w S v xs)(hy:cS w S u ys)(hl:xs.length=ys.length)(hqx:∀q∈xs,rl q+1<=h)(hqy:∀q∈ys,rl q+1<=h)(h2:2<=h)(hb:2*h*xs.length<=90000):
  dQ PG N.xI #[v,u] w (dU w fun v' w2=>cH w2 (Nw (fun _=>False) w w2) v' (eG xs ys xs.length)):=by
 have hw:cF w.heap.size w w:=cF.refl;obtain⟨ax,cx,rfl,hcx,hmx⟩:=hx.shape;obtain⟨ay,cy,rfl,hcy,-⟩:=hy.shape;unfold maxLen at hmx;refine yA (by simp) ?_;conv=>whnf
 refine bp (cE hw (Φ:=fun _ w' v w2=>cH w2 (Nw (fun _=>False) w' w2) v (((0:Int):Rat))) (fun ρ w' r=>AS 0 w' (by decide) (by decide)) ?_);rintro ρ wa1 v1 wb1 iv1 r he hw h_ hn;have hd:=hn.cQ (S:=fun _=>False) r.bm (mN h_);clear r;obtain⟨s1_0,s1_1,s1_2,s1_3,s1_4,s1_5,s1_6,s1_7,rfl⟩:=hd.shape;conv=>whnf
 rw[show ((0:Int):Rat)=eG xs ys 0 from rfl]at hd
 refine⟨Nat×(Bool×Bool)×(Option Addr×Option Addr)×(Nat×Nat×Nat×Nat)×World×Iv,fun z=>⟨[(0,.o (.v (.slice ax xs.length cx))),(1,.o (.v (.slice ay ys.length cy))),(4,.o (.p 0 0)),(5,.o (.p 1 0)),(6,.o (.v (.int .i64 ((z.1:Nat):Int))))],[(1,.box T.Rat [.v (.bool z.2.1.1),.v (.slice z.2.2.1.1 z.2.2.2.1.1 z.2.2.2.1.2.1),.v (.bool z.2.1.2),.v (.slice z.2.2.1.2 z.2.2.2.1.2.2.1 z.2.2.2.1.2.2.2)]),(0,.box T.Rat [.v (.bool false),.v (.slice none 0 0),.v (.bool false),.v (.slice none 0 0)])],2,z.2.2.2.2.2,z.2.2.2.2.1⟩,fun z=>xs.length-z.1,
  fun z=>z.1<=xs.length∧cF w.heap.size w z.2.2.2.2.1∧cH z.2.2.2.2.1 (Cv (fun _=>False) w.heap.size z.2.2.2.2.2) (.agg #[.bool z.2.1.1,.slice z.2.2.1.1 z.2.2.2.1.1 z.2.2.2.1.2.1,.bool z.2.1.2,.slice z.2.2.1.2 z.2.2.2.1.2.2.1 z.2.2.2.1.2.2.2]) (eG xs ys z.1),?_,?_⟩
 ·intro ρ w' r;exact⟨(0,(s1_0,s1_4),(s1_1,s1_5),(s1_2,s1_3,s1_6,s1_7),w',iv1),⟨by simp,hw.tr r.bs,hd.rel r (bl w)⟩,Sub.gen [] r ⟨rfl,rfl,trivial⟩ ⟨rfl,rfl,rfl,rfl,rfl,trivial⟩ (by simp[cY,cN.scopd,At.sc]) (by simp[cO,SV.sc,At.sc]) (by rfl) (fun lo hi h=>h)⟩
 clear hw hd;rintro⟨i,⟨p0,p4⟩,⟨p1,p5⟩,⟨p2,p3,p6,p7⟩,w1,iv⟩ ⟨hi,hw,hd⟩;dsimp only at hi hw hd ⊢;conv=>whnf
 refine cW.mk (fun hib=>?_) (fun hib=>?_)
 ·have hib:i<xs.length:=by simpa using hib
  have hs:=k9 hqx hqy h2 i;have hs2:2*h*i<=2*h*xs.length:=bO _ hi;have hs3:2*h*1<=2*h*xs.length:=bO _ (by omega);obtain⟨x,hxi⟩:∃x,xs[i]? =some x:=⟨_,aA hib⟩
  obtain⟨y,hyi⟩:∃x,ys[i]? =some x:=⟨_,aA (by omega)⟩
  have hx3:=hqx x (aD hxi);have hy3:=hqy y (aD hyi);have hx2:xs.getD i 0=x:=by rw[List.getD,hxi];rfl
  have hy2:ys.getD i 0=y:=by rw[List.getD,hyi];rfl
  have hm:=jN x y;obtain⟨adx,csx,hax,hFx,-,hlx⟩:=cd.load hx hxi;obtain⟨ady,csy,hay,hFy,-,hly⟩:=cd.load hy hyi;obtain⟨f0,f1,f2,f3,f4,f5,f6,f7,rfl,hFx⟩:=hFx;obtain⟨q0,q1,q2,q3,q4,q5,q6,q7,rfl,hFy⟩:=hFy;conv=>whnf
  refine bw hτ dH [.x 0,.x 1,.x 2,.x 3,.x 4,.x 5,.x 6,.x 7,.x 8,.x 9,.x 10,.x 11] (by kernel_rfl) (by kernel_rfl) ?_;conv=>whnf
  refine⟨adx,hax,⟨by omega,by omega⟩,?_⟩;conv=>whnf
  refine⟨[.bool f0,.slice f1 f2 f3,.bool f4,.slice f5 f6 f7],rfl,fun ρ w' r j u hu=>?_,?_⟩
  ·obtain⟨k1,k2⟩:=hlx j u hu;rw[aB,bo (w:=w) (w2:=w') (by rw[cC,cC];exact(hw.tr r.bs).block _ (hS _ k1))];exact k2
  conv=>whnf
  refine⟨ady,hay,⟨by omega,by omega⟩,?_⟩;conv=>whnf
  refine⟨[.bool q0,.slice q1 q2 q3,.bool q4,.slice q5 q6 q7],rfl,fun ρ w' r j u hu=>?_,?_⟩
  ·obtain⟨k1,k2⟩:=hly j u hu;rw[aB,bo (w:=w) (w2:=w') (by rw[cC,cC];exact(hw.tr r.bs).block _ (hS _ k1))];exact k2
  conv=>whnf
  refine cE hw (Φ:=fun _ w' v w2=>cH w2 (Nw (fun _=>False) w' w2) v (x*y)) (fun ρ w' r=>BS (fun g hg=>by have:=hS g hg;have:=r.bm;omega) (hFx.bu fun g hg=>(hw.tr r.bs).block g (hS g hg)) (hFy.bu fun g hg=>(hw.tr r.bs).block g (hS g hg))) ?_;rintro ρ wa2 v2 wb2 iv2 r he hw h_ hn;replace hd:=hd.bq r (bl w) he (mC h_);have hp:=hn.cQ (S:=fun _=>False) r.bm (mN h_);clear r;obtain⟨s2_0,s2_1,s2_2,s2_3,s2_4,s2_5,s2_6,s2_7,rfl⟩:=hp.shape;conv=>whnf
  refine cE hw (Φ:=fun _ w' v w2=>cH w2 (Nw (fun _=>False) w' w2) v (eG xs ys i+x*y)) (fun ρ w' r=>BR (Rel.old r (bl w)) ((hd.rel r (bl w)).l (by omega)) ((hp.rel r (bl w)).l (by omega))) ?_;rintro ρ wa3 v3 wb3 iv3 r he hw h_ hn;clear hd;clear hp;have hd2:=hn.cQ (S:=fun _=>False) r.bm (mN h_);clear r;obtain⟨s3_0,s3_1,s3_2,s3_3,s3_4,s3_5,s3_6,s3_7,rfl⟩:=hd2.shape;conv=>whnf
  rw[show eG xs ys i+x*y=eG xs ys (i+1) by rw[eG,hx2,hy2]]at hd2;refine⟨((i+1:Nat):Int),by rw[wrap64]<;>omega,?_⟩;conv=>whnf
  intro ρ3 w3 r3;exact⟨(i+1,(s3_0,s3_4),(s3_1,s3_5),(s3_2,s3_3,s3_6,s3_7),w3,_),⟨hib,hw.tr r3.bs,hd2.rel r3 (bl w)⟩,Sub.gen [] r3 ⟨rfl,rfl,trivial⟩ ⟨rfl,rfl,rfl,rfl,rfl,trivial⟩ (by simp[cY,cN.scopd,At.sc]) (by simp[cO,SV.sc,At.sc]) (by rfl) (fun lo hi h=>h),by dsimp only;omega⟩
 have hib:i=xs.length:=aM hi (by simpa using hib);subst hib;conv=>whnf
 intro ρe we re;exact⟨_,rfl,hw.tr re.bs,hd.out re (bl w)⟩
section
variable{S:Nat->Prop}{H:Hp}{nx:Nat}{iv iv':Iv}{B:Nat}{w w' w2:World}{ρ:Nat->Sx.dN}{css:List (List Value)}{qs:List Rat}
theorem Fc.rel(h:Fc w (Cv S B iv) css qs)(r:Rel H nx iv B w ρ w')(hS:∀g,S g->g<B):Fc w' (Cv S B iv) css qs:=h.bu fun _ hg=>Rel.same r hS hg
theorem Fc.bq(h:Fc w (Cv S B iv) css qs)(r:Rel H nx iv B w ρ w')(hS:∀g,S g->g<B)(he:Ext w' w2)(hm:∀p,p∈iv->p∈iv'):Fc w2 (Cv S B iv') css qs:=
 ((h.rel r hS).bu fun g hg=>he.block g (Rel.old r hS g hg)).bz fun _ hg=>hg.mono hm
theorem Fc.push{cs:List Value}{q:Rat}(h:Fc w S css qs)(hc:gP w S cs q):Fc w S (css++[cs]) (qs++[q]):=by
 refine⟨by simp[h.1],fun j x p h1 h2=>?_⟩;rcases bA j css.length with hi|hi
 ·rw[aJ hi]at h1;rw[aJ (by rw[<-h.1];exact hi)]at h2;exact h.2 j x p h1 h2
 ·have hi0:j=css.length:=by have:=(aE.1 h1).1;simp at this;omega
  subst hi0;rw[aT (aI _),bP]at h1;rw[h.1,aT (aI _),bP]at h2;simp at h1 h2;subst h1 h2;exact hc
end
section
variable{S S':Nat->Prop}{H:Hp}{nx:Nat}{iv iv':Iv}{B:Nat}{w w' w2:World}{ρ:Nat->Sx.dN}{v:Value}{b:List (Int×Int)}
end
section
variable{S:Nat->Prop}{w:World}{v u:Value}{M:List (List (Int×Int))}{b:List (Int×Int)}
end
theorem cI.l{S:Nat->Prop}{w:World}{v:Value}{K:List (List Rat)}(h:cI w S v K)(hq:∀r∈K,∀q∈r,rl q<=100000):vV w S v K:=by
 obtain⟨rv,h1,h2,h3⟩:=h;exact⟨rv,h1,h2,fun i u x k1 k2=>(h3 i u x k1 k2).l (hq x (aD k2))⟩
theorem fI(M:List (List Rat))(x:List Rat):(dy M x).length=M.length:=aK ..
theorem dc.zero{w:World}{S:Nat->Prop}:dc w S (.agg #[.bool false,.slice none 0 0,.bool false,.slice none 0 0]) 0:=
 ⟨_,_,_,_,0,0,rfl,⟨false,[],⟨_,rfl,cV.nil _ _⟩,rfl,aO _⟩,⟨false,[],⟨_,rfl,cV.nil _ _⟩,rfl,aO _⟩,by decide⟩
theorem AN{S:Nat->Prop}{w:World}{v u:Value}{M:List (List Rat)}{x:List Rat}{h:Nat}(hS:Old S w)(hM:vV w S v M)(hx:cS w S u x)(hrow:∀r∈M,r.length=x.length)(hqM:Ht M h)(hqx:∀q∈x,rl q+1<=h)(h2:2<=h)(hb:2*h*x.length<=90000)(hR:M.length<=1000000):
  dQ PG N.sM #[v,u] w (dU w fun v' w2=>cB w2 (Nw (fun _=>False) w w2) v' (dy M x)):=by
 have hw:cF w.heap.size w w:=cF.refl;obtain⟨am,cm,rfl,hcm,hmm⟩:=dS.shape hM;obtain⟨ax,cx,rfl,hcx,-⟩:=cd.shape hx;unfold maxLen at hmm;refine vC (by simp) ?_;conv=>whnf
 refine⟨Nat×List (List Value)×World×Iv,fun z=>⟨[(0,.o (.v (.slice am M.length cm))),(1,.o (.v (.slice ax x.length cx))),(5,.o (.w 0 z.2.1.length)),(6,.o (.v (.int .i64 ((z.1:Nat):Int))))],[(0,.vec T.Rat 4 z.2.1.flatten)],1,z.2.2.2,z.2.2.1⟩,fun z=>M.length-z.1,
  fun z=>z.1<=M.length∧cF w.heap.size w z.2.2.1∧Fc z.2.2.1 (Cv (fun _=>False) w.heap.size z.2.2.2) z.2.1 ((dy M x).take z.1),?_,?_⟩
 ·intro ρ w' r
  exact⟨(0,[],w',[]),⟨aO _,hw.tr r.bs,by simp[Fc]⟩,Sub.nil 5 T.Rat 4 rfl (by simp[cO,SV.sc,At.sc,cJ]) r fun ρ1 r1=>
   Sub.gen [] r1 ⟨rfl,trivial⟩ ⟨rfl,rfl,rfl,rfl,trivial⟩ (by simp[cY,cN.scopd]) (by simp[cO,SV.sc,At.sc]) (by rfl) (fun lo hi h=>h)⟩
 clear hw;rintro⟨i,css,w1,iv⟩ ⟨hi,hw,hC⟩;dsimp only at hi hw hC ⊢;have hcl:css.length=i:=by rw[hC.1,aW,fI];omega
 have hfl:=eH hC.tF;conv=>whnf
 refine cW.mk (fun hib=>?_) (fun hib=>?_)
 ·have hib:i<M.length:=by simpa using hib
  obtain⟨ra,hra⟩:∃r,M[i]? =some r:=⟨_,aA hib⟩
  have hral:=hrow ra (aD hra);obtain⟨adm,um,ham,hRm,km1,km2⟩:=dS.load hM hra;obtain⟨au,cu,rfl,hcu,-⟩:=cd.shape hRm;conv=>whnf
  refine⟨adm,ham,⟨by omega,by omega⟩,?_⟩;conv=>whnf
  refine⟨.slice au ra.length cu,fun ρ w' r=>?_,?_⟩
  ·rw[aB,bo (w:=w) (w2:=w') (by rw[cC];exact(hw.tr r.bs).block _ (hS _ km1))];exact km2
  conv=>whnf
  refine bp (cE hw (Φ:=fun _ w' v w2=>cH w2 (Nw (fun _=>False) w' w2) v (eG ra x ra.length)) (fun ρ w' r=>Dv (fun g hg=>by have:=hS g hg;have:=r.bm;omega) (cS.bu hRm (fun g hg=>(hw.tr r.bs).block g (hS g hg))) (cS.bu hx (fun g hg=>(hw.tr r.bs).block g (hS g hg))) hral (hqM ra (aD hra)) hqx h2 (by rw[hral];exact hb)) ?_);rintro ρ wa1 v1 wb1 iv1 r he hw h_ hn;replace hC:=hC.bq r (bl w) he (mC h_);have hd:=hn.cQ (S:=fun _=>False) r.bm (mN h_);clear r;obtain⟨s1_0,s1_1,s1_2,s1_3,s1_4,s1_5,s1_6,s1_7,rfl⟩:=hd.shape;conv=>whnf
  have hC2:Fc wb1 (Cv (fun _=>False) w.heap.size iv1) (css++[[.bool s1_0,.slice s1_1 s1_2 s1_3,.bool s1_4,.slice s1_5 s1_6 s1_7]]) ((dy M x).take (i+1)):=by
   have e:(dy M x)[i]? =some (eG ra x ra.length):=by rw[dy,aN,hra];rfl
   rw[List.take_add_one,e];exact hC.push hd.oL
  have hfl2:css.flatten++([.bool s1_0,.slice s1_1 s1_2 s1_3,.bool s1_4,.slice s1_5 s1_6 s1_7]:List Value)=(css++([[.bool s1_0,.slice s1_1 s1_2 s1_3,.bool s1_4,.slice s1_5 s1_6 s1_7]]:List (List Value))).flatten:=by simp
  clear hC hd;refine .inl ?_;conv=>whnf
  refine⟨by omega,by omega,by unfold maxLen;omega,?_⟩;conv=>whnf
  refine⟨((i+1:Nat):Int),by rw[wrap64]<;>omega,?_⟩;conv=>whnf
  intro ρ3 w3 r3;exact⟨(i+1,css++[[.bool s1_0,.slice s1_1 s1_2 s1_3,.bool s1_4,.slice s1_5 s1_6 s1_7]],w3,_),⟨hib,hw.tr r3.bs,hC2.rel r3 (bl w)⟩,Sub.gen [(0,2)] r3 ⟨by dsimp only;rw[<-hfl2];rfl,trivial⟩ ⟨rfl,rfl,by dsimp only;rw[List.length_append,List.length_singleton];rfl,rfl,trivial⟩ (by simp[cY,cN.scopd]) (by simp[cO,SV.sc,At.sc]) (by rfl) (fun lo hi h=>h),by dsimp only;omega⟩
 have hib:i=M.length:=aM hi (by simpa using hib);conv=>whnf
 intro ρe we re;refine⟨_,rfl,hw.tr re.bs,?_⟩;rw[List.take_of_length_le (by rw[fI];omega)]at hC;have h5:=re.gB (id:=0) (sz:=4) (m:=css.length) rfl hfl (by unfold maxLen;omega) (by decide) hC.one;have h6:=hC.rel re (bl w);refine⟨css,?_,h6.1,h6.tF,fun j cs q k1 k2=>(h6.2 j cs q k1 k2).bz fun _ hg=>Cv.nw hg re⟩;rw[<-hC.1];exact h5.bz fun g hg=>.inr hg
section
variable{S:Nat->Prop}{w:World}{v u:Value}{M:List (List (Int×Int))}{x:List Rat}
end
theorem my(q:Rat):rs (q-0)=rs q:=by rw[show q-0=q by grind]
theorem iQ(n:Int)(w:World)(h1n: -9223372036854775808<=n)(h2n:n<=9223372036854775807):dQ PG N.oF #[.int .i64 n] w (dU w fun v' w2=>cH w2 (Nw (fun _=>False) w w2) v' (n:Rat)):=by
 have hw:cF w.heap.size w w:=cF.refl;refine rF (by simp) ?_;conv=>whnf
 refine bp (cE hw (Φ:=fun _ w' v w2=>cH w2 (Nw (fun _=>False) w' w2) v ((n:Rat))) (fun ρ w' r=>Ao n w' h1n h2n) ?_);rintro ρ wa1 v1 wb1 iv1 r he hw h_ hn;have hd:=hn.cQ (S:=fun _=>False) r.bm (mN h_);clear r;obtain⟨s1_0,s1_1,s1_2,s1_3,s1_4,s1_5,s1_6,s1_7,rfl⟩:=hd.shape;conv=>whnf
 intro ρe we re;exact⟨_,rfl,hw.tr re.bs,hd.out re (bl w)⟩
theorem jn{S:Nat->Prop}{w:World}{v:Value}{q:Rat}(hS:Old S w)(hq:dc w S v q):dQ PG N.po #[v] w (dU w fun v' _=>∃d,v'= .bool d∧(d=true↔q=0)):=by
 have hw:cF w.heap.size w w:=cF.refl;obtain⟨f0,f1,f2,f3,f4,f5,f6,f7,rfl⟩:=hq.shape;refine sj (by simp) ?_;conv=>whnf
 refine bp (cE hw (Φ:=fun _ w' v w2=>v= .int .i64 (rs q)) (fun ρ w' r=>(yR (fun g hg=>by have:=hS g hg;have:=r.bm;omega) (hq.v.bu fun g hg=>(hw.tr r.bs).block g (hS g hg)) (dc.zero (S:=S)).v).mono fun _ _ ⟨v2,e1,e2,e3⟩=>⟨v2,e1,e2,by rw[e3,my]⟩) ?_);rintro ρ wa1 v1 wb1 iv1 r he hw h_ rfl;clear r;conv=>whnf
 intro ρe we re;refine⟨_,rfl,hw.tr re.bs,_,rfl,?_⟩;rw[beq_iff_eq];exact tc
theorem Fe{S:Nat->Prop}{w:World}{v u:Value}{p q:Rat}(hS:Old S w)(hp:dc w S v p)(hq:dc w S u q)(h0:q≠0):dQ PG N.sC #[v,u] w (dU w fun v' w2=>cH w2 (Nw (fun _=>False) w w2) v' (p / q)):=by
 have hw:cF w.heap.size w w:=cF.refl;obtain⟨f0,f1,f2,f3,f4,f5,f6,f7,rfl⟩:=hp.shape;obtain⟨g0,g1,g2,g3,g4,g5,g6,g7,rfl⟩:=hq.shape;refine uk (by simp) ?_;conv=>whnf
 refine bp (cE hw (Φ:=fun _ w' v w2=>∃r,v= .tuple #[r,.int .i64 0]∧cH w2 (Nw (fun _=>False) w' w2) r (p / q)) (fun ρ w' r=>(Ff (fun g hg=>by have:=hS g hg;have:=r.bm;omega) (hp.v.bu fun g hg=>(hw.tr r.bs).block g (hS g hg)) (hq.v.bu fun g hg=>(hw.tr r.bs).block g (hS g hg))).mono fun _ _ ⟨v2,e1,e2,e3⟩=>⟨v2,e1,e2,e3.elim (fun h=>absurd h.1 h0) fun h=>h.2⟩) ?_);rintro ρ wa1 v1 wb1 iv1 r he hw h_ ⟨q1,rfl,k1⟩;have hd:=k1.cQ (S:=fun _=>False) r.bm (mN h_);clear r;obtain⟨s1_0a,s1_0b,s1_0c,s1_0d,s1_0e,s1_0f,s1_0g,s1_0h,rfl⟩:=hd.shape;clear k1;conv=>whnf
 intro ρe we re;exact⟨_,rfl,hw.tr re.bs,hd.out re (bl w)⟩
theorem Fg{S:Nat->Prop}{w:World}{v:Value}{q:Rat}(hS:Old S w)(hq:dc w S v q):dQ PG N.sI #[v] w (dU w fun v' w2=>cH w2 (Nw (fun _=>False) w w2) v' (-q)):=by
 have hw:cF w.heap.size w w:=cF.refl;obtain⟨f0,f1,f2,f3,f4,f5,f6,f7,rfl⟩:=hq.shape;refine uy (by simp) ?_;conv=>whnf
 refine bp (cE hw (Φ:=fun _ w' v w2=>cH w2 (Nw (fun _=>False) w' w2) v (-q)) (fun ρ w' r=>(D0 (fun g hg=>by have:=hS g hg;have:=r.bm;omega) (dc.zero (S:=S)).v (hq.v.bu fun g hg=>(hw.tr r.bs).block g (hS g hg))).mono fun _ _ ⟨v2,e1,e2,e3⟩=>⟨v2,e1,e2,by rwa [show (0:Rat)-q= -q by grind]at e3⟩) ?_);rintro ρ wa1 v1 wb1 iv1 r he hw h_ hn;have hd:=hn.cQ (S:=fun _=>False) r.bm (mN h_);clear r;obtain⟨s1_0,s1_1,s1_2,s1_3,s1_4,s1_5,s1_6,s1_7,rfl⟩:=hd.shape;conv=>whnf
 intro ρe we re;exact⟨_,rfl,hw.tr re.bs,hd.out re (bl w)⟩
theorem D1{S:Nat->Prop}{w:World}{v u:Value}{xs ys:List Rat}{h:Nat}(hS:Old S w)(hx:cS w S v xs)(hy:cS w S u ys)(hl:xs.length<=ys.length)(hqx:∀q∈xs,rl q+1<=h)(hqy:∀q∈ys,rl q+1<=h)(h2:2<=h)(hb:2*h*xs.length<=90000):
  dQ PG N.sD #[v,u] w (dU w fun v' w2=>cH w2 (Nw (fun _=>False) w w2) v' (eG xs ys xs.length)):=by
 have hw:cF w.heap.size w w:=cF.refl;obtain⟨ax,cx,rfl,hcx,hmx⟩:=cd.shape hx;obtain⟨ay,cy,rfl,hcy,-⟩:=cd.shape hy;unfold maxLen at hmx;refine uo (by simp) ?_;conv=>whnf
 refine bp (cE hw (Φ:=fun _ w' v w2=>cH w2 (Nw (fun _=>False) w' w2) v (((0:Int):Rat))) (fun ρ w' r=>iQ 0 w' (by decide) (by decide)) ?_);rintro ρ wa1 v1 wb1 iv1 r he hw h_ hn;have hd:=hn.cQ (S:=fun _=>False) r.bm (mN h_);clear r;obtain⟨s1_0,s1_1,s1_2,s1_3,s1_4,s1_5,s1_6,s1_7,rfl⟩:=hd.shape;conv=>whnf
 rw[show ((0:Int):Rat)=eG xs ys 0 from rfl]at hd
 refine⟨Nat×(Bool×Bool)×(Option Addr×Option Addr)×(Nat×Nat×Nat×Nat)×World×Iv,fun z=>⟨[(1,.o (.v (.slice ay ys.length cy))),(4,.o (.p 0 0)),(5,.o (.p 1 0)),(9,.o (.v (.slice ax xs.length cx))),(10,.o (.v (.int .i64 xs.length))),(11,.o (.v (.int .i64 ((z.1:Nat):Int))))],[(1,.box T.Rat [.v (.bool z.2.1.1),.v (.slice z.2.2.1.1 z.2.2.2.1.1 z.2.2.2.1.2.1),.v (.bool z.2.1.2),.v (.slice z.2.2.1.2 z.2.2.2.1.2.2.1 z.2.2.2.1.2.2.2)]),(0,.box T.Rat [.v (.bool false),.v (.slice none 0 0),.v (.bool false),.v (.slice none 0 0)])],2,z.2.2.2.2.2,z.2.2.2.2.1⟩,fun z=>xs.length-z.1,
  fun z=>z.1<=xs.length∧cF w.heap.size w z.2.2.2.2.1∧cH z.2.2.2.2.1 (Cv (fun _=>False) w.heap.size z.2.2.2.2.2) (.agg #[.bool z.2.1.1,.slice z.2.2.1.1 z.2.2.2.1.1 z.2.2.2.1.2.1,.bool z.2.1.2,.slice z.2.2.1.2 z.2.2.2.1.2.2.1 z.2.2.2.1.2.2.2]) (eG xs ys z.1),?_,?_⟩
 ·intro ρ w' r;exact⟨(0,(s1_0,s1_4),(s1_1,s1_5),(s1_2,s1_3,s1_6,s1_7),w',iv1),⟨by simp,hw.tr r.bs,hd.rel r (bl w)⟩,Sub.gen [] r ⟨rfl,rfl,trivial⟩ ⟨rfl,rfl,rfl,rfl,rfl,rfl,trivial⟩ (by simp[cY,cN.scopd,At.sc]) (by simp[cO,SV.sc,At.sc]) (by rfl) (fun lo hi h=>h)⟩
 clear hw hd;rintro⟨i,⟨p0,p4⟩,⟨p1,p5⟩,⟨p2,p3,p6,p7⟩,w1,iv⟩ ⟨hi,hw,hd⟩;dsimp only at hi hw hd ⊢;conv=>whnf
 refine cW.mk (fun hib=>?_) (fun hib=>?_)
 ·have hib:i<xs.length:=by simpa using hib
  have hs:=k9 hqx hqy h2 i;have hs2:2*h*i<=2*h*xs.length:=bO _ hi;have hs3:2*h*1<=2*h*xs.length:=bO _ (by omega);obtain⟨x,hxi⟩:∃x,xs[i]? =some x:=⟨_,aA hib⟩
  obtain⟨y,hyi⟩:∃x,ys[i]? =some x:=⟨_,aA (by omega)⟩
  have hx3:=hqx x (aD hxi);have hy3:=hqy y (aD hyi);have hx2:xs.getD i 0=x:=by rw[List.getD,hxi];rfl
  have hy2:ys.getD i 0=y:=by rw[List.getD,hyi];rfl
  have hm:=jN x y;obtain⟨adx,csx,hax,hFx,-,hlx⟩:=cd.load hx hxi;obtain⟨ady,csy,hay,hFy,-,hly⟩:=cd.load hy hyi;obtain⟨f0,f1,f2,f3,f4,f5,f6,f7,rfl,hFx⟩:=hFx;obtain⟨q0,q1,q2,q3,q4,q5,q6,q7,rfl,hFy⟩:=hFy;conv=>whnf
  refine⟨adx,hax,⟨by omega,by omega⟩,?_⟩;conv=>whnf
  refine⟨[.bool f0,.slice f1 f2 f3,.bool f4,.slice f5 f6 f7],rfl,fun ρ w' r j u hu=>?_,?_⟩
  ·obtain⟨k1,k2⟩:=hlx j u hu;rw[aB,bo (w:=w) (w2:=w') (by rw[cC,cC];exact(hw.tr r.bs).block _ (hS _ k1))];exact k2
  conv=>whnf
  refine bp (cE hw (Φ:=fun _ w' v w2=>∃d,v= .bool d∧(d=true↔x=0)) (fun ρ w' r=>jn (fun g hg=>by have:=hS g hg;have:=r.bm;omega) (hFx.bu fun g hg=>(hw.tr r.bs).block g (hS g hg))) ?_);rintro ρ wa2 v2 wb2 iv2 r he hw h_ ⟨d1,rfl,hz1⟩;replace hd:=hd.bq r (bl w) he (mC h_);clear r
  cases d1
  ·conv=>whnf
   refine⟨ady,hay,⟨by omega,by omega⟩,?_⟩;conv=>whnf
   refine⟨[.bool q0,.slice q1 q2 q3,.bool q4,.slice q5 q6 q7],rfl,fun ρ w' r j u hu=>?_,?_⟩
   ·obtain⟨k1,k2⟩:=hly j u hu;rw[aB,bo (w:=w) (w2:=w') (by rw[cC,cC];exact(hw.tr r.bs).block _ (hS _ k1))];exact k2
   conv=>whnf
   refine bp (cE hw (Φ:=fun _ w' v w2=>∃d,v= .bool d∧(d=true↔y=0)) (fun ρ w' r=>jn (fun g hg=>by have:=hS g hg;have:=r.bm;omega) (hFy.bu fun g hg=>(hw.tr r.bs).block g (hS g hg))) ?_);rintro ρ wa3 v3 wb3 iv3 r he hw h_ ⟨d2,rfl,hz2⟩;replace hd:=hd.bq r (bl w) he (mC h_);clear r
   cases d2
   ·conv=>whnf
    refine bw hτ dH [.x 0,.x 1,.x 2,.x 3,.x 4,.x 5,.x 6,.x 7,.x 8] (by kernel_rfl) (by kernel_rfl) ?_;conv=>whnf
    refine⟨ady,hay,⟨by omega,by omega⟩,?_⟩;conv=>whnf
    refine⟨[.bool q0,.slice q1 q2 q3,.bool q4,.slice q5 q6 q7],rfl,fun ρ w' r j u hu=>?_,?_⟩
    ·obtain⟨k1,k2⟩:=hly j u hu;rw[aB,bo (w:=w) (w2:=w') (by rw[cC,cC];exact(hw.tr r.bs).block _ (hS _ k1))];exact k2
    conv=>whnf
    refine cE hw (Φ:=fun _ w' v w2=>cH w2 (Nw (fun _=>False) w' w2) v (x*y)) (fun ρ w' r=>yS (fun g hg=>by have:=hS g hg;have:=r.bm;omega) (hFx.v.bu fun g hg=>(hw.tr r.bs).block g (hS g hg)) (hFy.v.bu fun g hg=>(hw.tr r.bs).block g (hS g hg))) ?_;rintro ρ wa4 v4 wb4 iv4 r he hw h_ hn;replace hd:=hd.bq r (bl w) he (mC h_);have hp:=hn.cQ (S:=fun _=>False) r.bm (mN h_);clear r;obtain⟨s4_0,s4_1,s4_2,s4_3,s4_4,s4_5,s4_6,s4_7,rfl⟩:=hp.shape;conv=>whnf
    refine cE hw (Φ:=fun _ w' v w2=>cH w2 (Nw (fun _=>False) w' w2) v (eG xs ys i+x*y)) (fun ρ w' r=>D2 (Rel.old r (bl w)) ((hd.rel r (bl w)).v (by omega)) ((hp.rel r (bl w)).v (by omega))) ?_;rintro ρ wa5 v5 wb5 iv5 r he hw h_ hn;clear hd;clear hp;have hd2:=hn.cQ (S:=fun _=>False) r.bm (mN h_);clear r;obtain⟨s5_0,s5_1,s5_2,s5_3,s5_4,s5_5,s5_6,s5_7,rfl⟩:=hd2.shape;conv=>whnf
    rw[show eG xs ys i+x*y=eG xs ys (i+1) by rw[eG,hx2,hy2]]at hd2;refine⟨((i+1:Nat):Int),by rw[wrap64]<;>omega,?_⟩;conv=>whnf
    intro ρ3 w3 r3;exact⟨(i+1,(s5_0,s5_4),(s5_1,s5_5),(s5_2,s5_3,s5_6,s5_7),w3,_),⟨hib,hw.tr r3.bs,hd2.rel r3 (bl w)⟩,Sub.gen [] r3 ⟨rfl,rfl,trivial⟩ ⟨rfl,rfl,rfl,rfl,rfl,rfl,trivial⟩ (by simp[cY,cN.scopd,At.sc]) (by simp[cO,SV.sc,At.sc]) (by rfl) (fun lo hi h=>h),by dsimp only;omega⟩
   ·have hy0:y=0:=hz2.1 rfl;conv=>whnf
    rw[show eG xs ys i=eG xs ys (i+1) by rw[eG,hx2,hy2,hy0,Rat.mul_zero,Rat.add_zero]]at hd;refine⟨((i+1:Nat):Int),by rw[wrap64]<;>omega,?_⟩;conv=>whnf
    intro ρ3 w3 r3;exact⟨(i+1,(p0,p4),(p1,p5),(p2,p3,p6,p7),w3,_),⟨hib,hw.tr r3.bs,hd.rel r3 (bl w)⟩,Sub.gen [] r3 ⟨rfl,rfl,trivial⟩ ⟨rfl,rfl,rfl,rfl,rfl,rfl,trivial⟩ (by simp[cY,cN.scopd,At.sc]) (by simp[cO,SV.sc,At.sc]) (by rfl) (fun lo hi h=>h),by dsimp only;omega⟩
  ·have hx0:x=0:=hz1.1 rfl;conv=>whnf
   rw[show eG xs ys i=eG xs ys (i+1) by rw[eG,hx2,hy2,hx0,Rat.zero_mul,Rat.add_zero]]at hd;refine⟨((i+1:Nat):Int),by rw[wrap64]<;>omega,?_⟩;conv=>whnf
   intro ρ3 w3 r3;exact⟨(i+1,(p0,p4),(p1,p5),(p2,p3,p6,p7),w3,_),⟨hib,hw.tr r3.bs,hd.rel r3 (bl w)⟩,Sub.gen [] r3 ⟨rfl,rfl,trivial⟩ ⟨rfl,rfl,rfl,rfl,rfl,rfl,trivial⟩ (by simp[cY,cN.scopd,At.sc]) (by simp[cO,SV.sc,At.sc]) (by rfl) (fun lo hi h=>h),by dsimp only;omega⟩
 have hib:i=xs.length:=aM hi (by simpa using hib);subst hib;conv=>whnf
 intro ρe we re;exact⟨_,rfl,hw.tr re.bs,hd.out re (bl w)⟩
structure e8(w:World)(S:Nat->Prop)(n i:Nat)(css:List (List Value))(qs:List Rat):Prop where
 len:css.length=n
 four:∀cs∈css,cs.length=4
 one:∀cs∈css,∀u∈cs,u.oneCell'=true
 at_:∀(j:Nat) cs q,j<i->css[j]? =some cs->qs[j]? =some q->gP w S cs q
section
variable{S S':Nat->Prop}{H:Hp}{nx n i:Nat}{iv iv':Iv}{B:Nat}{w w1 w' w2:World}{ρ:Nat->Sx.dN}{css:List (List Value)}{qs:List Rat}
theorem e8.bu(h:e8 w S n i css qs)(hk:∀g,S g->w2.heap[g]? =w.heap[g]?):e8 w2 S n i css qs:=⟨h.len,h.four,h.one,fun j cs q hj h1 h2=>(h.at_ j cs q hj h1 h2).bu hk⟩
theorem e8.bz(h:e8 w S n i css qs)(hk:∀g,S g->S' g):e8 w S' n i css qs:=⟨h.len,h.four,h.one,fun j cs q hj h1 h2=>(h.at_ j cs q hj h1 h2).bz hk⟩
theorem e8.rel(h:e8 w (Cv S B iv) n i css qs)(r:Rel H nx iv B w ρ w')(hS:∀g,S g->g<B):e8 w' (Cv S B iv) n i css qs:=h.bu fun _ hg=>Rel.same r hS hg
theorem e8.bq(h:e8 w (Cv S B iv) n i css qs)(r:Rel H nx iv B w ρ w')(hS:∀g,S g->g<B)(he:Ext w' w2)(hm:∀p,p∈iv->p∈iv'):e8 w2 (Cv S B iv') n i css qs:=
 ((h.rel r hS).bu fun g hg=>he.block g (Rel.old r hS g hg)).bz fun _ hg=>hg.mono hm
theorem e8.start(w:World)(S:Nat->Prop)(n:Nat)(qs:List Rat):e8 w S n 0 (List.replicate n f0) qs:=
 ⟨by simp,fun cs hc=>by rw[bF hc];rfl,fun cs hc u hu=>by rw[bF hc]at hu;simp[f0]at hu;rcases hu with rfl|rfl|rfl|rfl<;>rfl,fun j cs q hj=>by omega⟩
theorem e8.next{b b2:Bool}{a a2:Option Addr}{m c m2 c2:Nat}{q:Rat}(h:e8 w S n i css qs)(hi:i<n)(hq:qs[i]? =some q)(hf:cH w S (.agg #[.bool b,.slice a m c,.bool b2,.slice a2 m2 c2]) q):
  e8 w S n (i+1) (css.set i [.bool b,.slice a m c,.bool b2,.slice a2 m2 c2]) qs:=by
 refine⟨by simp[h.len],fun cs hc=>?_,fun cs hc u hu=>?_,fun j cs p hj h1 h2=>?_⟩
 ·rcases bS hc with hc|rfl
  ·exact h.four cs hc
  ·rfl
 ·rcases bS hc with hc|rfl
  ·exact h.one cs hc u hu
  ·simp at hu;rcases hu with rfl|rfl|rfl|rfl<;>rfl
 ·by_cases hij:i=j
  ·subst hij;rw[aZ (by rw[h.len];exact hi)]at h1;rw[hq]at h2;injection h1 with h1;injection h2 with h2;subst h1 h2;exact hf.oL
  ·rw[ai hij]at h1;exact h.at_ j cs p (by omega) h1 h2
theorem e8.flat(h:e8 w S n i css qs):css.flatten.length=n*4:=by rw[eH h.four,h.len]
theorem e8.done{w0:World}(h:e8 w1 (Cv (fun _=>False) w0.heap.size iv) n n css qs)(hl:qs.length=n)(hn:n<=maxLen)(r:Rel H nx iv w0.heap.size w1 ρ w'){id:Nat}(hH:cT H id=some (.arr T.Rat css.flatten))(hnil:(ρ id).nil=false):
  dK w' (fun _=>False) w0.heap.size [(w0.heap.size,w'.heap.size)] (.slice (some ⟨(ρ id).g,0,none⟩) n n) n qs:=by
 have h2:=h.rel r (bl w0);have hlow:=r.low id _ hH hnil;refine⟨⟨css,⟨h.flat,.inr ⟨(ρ id).g,n,css.flatten.toArray,rfl,aO _,r.arr id _ _ hH,aI _,hn,by simpa using h.flat,?_⟩⟩,h.len,?_⟩,fun g hg=>?_⟩
 ·rw[<-h.flat];exact ah
 ·refine⟨by rw[h.len,hl],fun j cs q h3 h4=>?_⟩;refine(h2.at_ j cs q (by rw[<-hl];exact(aE.1 h4).1) h3 h4).bz fun g hg=>⟨?_,fun e=>?_⟩
  ·rcases hg with hg|⟨k1,lo,hi,k2,k3,k4⟩
   ·exact hg.elim
   ·exact .inr ⟨k1,_,_,bB.2 rfl,k1,by have:=r.oU lo hi k2;have:=r.size;omega⟩
  ·injection e with e;exact Rel.not r (bl w0) hg id _ hH hnil e
 ·injection hg with hg;subst hg;exact .inr ⟨hlow.1,_,_,bB.2 rfl,hlow.1,hlow.2⟩
theorem ek.c{v:Value}(h:ek w S S v qs):cB w S v qs:=by
 obtain⟨css,h1,h2⟩:=h;exact⟨css,h1,h2.1,h2.tF,h2.2⟩
theorem dK.c{v:Value}(h:dK w S B iv v n qs):cB w (Cv S B iv) v qs:=h.read.c
theorem cB.rc{v:Value}(h:cB w S v qs):ek w S S v qs:=by
 obtain⟨css,h1,h2,h3,h4⟩:=h;exact⟨css,h1,h2,h4⟩
theorem ek.rel{C:Nat->Prop}{v:Value}(h:ek w (Cv C B iv) (Cv S B iv) v qs)(r:Rel H nx iv B w ρ w')(hC:∀g,C g->g<B)(hS:∀g,S g->g<B):ek w' (Cv C B iv) (Cv S B iv) v qs:=
 h.bu fun _ hg=>hg.elim (Rel.same r hC) (Rel.same r hS)
theorem ek.bq{C:Nat->Prop}{v:Value}(h:ek w (Cv C B iv) (Cv S B iv) v qs)(r:Rel H nx iv B w ρ w')(hC:∀g,C g->g<B)(hS:∀g,S g->g<B)(he:Ext w' w2)(hm:∀p,p∈iv->p∈iv'):ek w2 (Cv C B iv') (Cv S B iv') v qs:=
 ((h.rel r hC hS).bu fun g hg=>he.block g (hg.elim (Rel.old r hC g) (Rel.old r hS g))).bz (fun _ hg=>hg.mono hm) (fun _ hg=>hg.mono hm)
theorem ek.arg{C:Nat->Prop}{v:Value}(h:ek w C S v qs)(iv:Iv):ek w (Cv C w.heap.size iv) (Cv S w.heap.size iv) v qs:=h.bz (fun _ h=>.inl h) (fun _ h=>.inl h)
theorem ek.shape{C:Nat->Prop}{v:Value}(h:ek w C S v qs):∃a c,v= .slice a qs.length c∧qs.length<=c∧qs.length<=maxLen:=by
 obtain⟨css,⟨h0,_,_,a,c,h1,h2,_⟩,_⟩:=h;exact⟨a,c,h1,h2,h0⟩
theorem ek.load{C:Nat->Prop}{a:Option Addr}{n c j:Nat}{q:Rat}(h:ek w C S (.slice a n c) qs)(hq:qs[j]? =some q):
  ∃ad cs,a=some ad∧gP w S cs q∧∀k u,cs[k]? =some u->C ad.block∧w.cell? ((ad.add (j*4)).add k)=some u:=by
 obtain⟨css,⟨h0,h1,h2,a',c',e,h3,h4⟩,hf⟩:=h;injection e with e1 e2 e3;subst e1;obtain⟨cs,hcs⟩:∃cs,css[j]? =some cs:=⟨_,aA (by rw[hf.1];exact(aE.1 hq).1)⟩
 have hF:=hf.2 j cs q hcs hq;have hl:=hF.len;obtain⟨ad,k1,k2,k3⟩:=h4 (j*4+0) _ (flat_get hf.tF hcs 0 _ (aA (show 0<cs.length by omega)));refine⟨ad,cs,k1,hF,fun k u hu=>?_⟩;obtain⟨ad2,m1,m2,m3⟩:=h4 (j*4+k) u (flat_get hf.tF hcs k u hu);rw[k1]at m1;injection m1 with m1;subst m1;refine⟨m2,?_⟩;rw[<-m3];have:(ad.add (j*4)).add k=ad.add (j*4+k):=by
  unfold Addr.add;split<;>split<;>simp_all<;>omega
 rw[this]
theorem zj{j:Nat}{a:Option Addr}{c:Nat}{cs:List Value}(h:w.ownsRow 0 T.Rat 4 (.slice a n c) n css.flatten)(hf:Fc w S css qs)(hj:css[j]? =some cs):
  ∃g,a=some ⟨g,0,none⟩∧∀k u,cs[k]? =some u->w.cell? ((Addr.add ⟨g,0,none⟩ (j*4)).add k)=some u:=by
 rcases h.2 with⟨h1,h0⟩|⟨g,cap,cur,hv2,_⟩
 ·have:=h.1;rw[eH hf.tF]at this;have:=(aE.1 hj).1;omega
 ·injection hv2 with h1 h2 h3;subst h1;refine⟨g,rfl,fun k u hu=>?_⟩;have:=h.cells (g:=g) rfl (j*4+k) u (flat_get hf.tF hj k u hu);rw[dA,dA];rw[dA]at this;rw[Nat.add_assoc];exact this
end
theorem zk(n:Nat)(w:World)(hn:n<=1000000):dQ PG N.oH #[.int .i64 n] w (dU w fun v' w2=>dK w2 (fun _=>False) w.heap.size [(w.heap.size,w2.heap.size)] v' n (List.replicate n 0)):=by
 have hw:cF w.heap.size w w:=cF.refl;refine rJ (by simp) ?_;conv=>whnf
 refine⟨n,n,rfl,rfl,aI _,by omega,by omega,?_⟩;conv=>whnf
 refine⟨Nat×List (List Value)×Iv×World,fun z=>⟨[(3,.o (.s 0 0 n n)),(8,.o (.v (.int .i64 n))),(9,.o (.v (.int .i64 ((z.1:Nat):Int))))],[(0,.arr T.Rat z.2.1.flatten)],1,z.2.2.1,z.2.2.2⟩,fun z=>n-z.1,
  fun z=>z.1<=n∧cF w.heap.size w z.2.2.2∧e8 z.2.2.2 (Cv (fun _=>False) w.heap.size z.2.2.1) (n) z.1 z.2.1 (List.replicate n 0),?_,?_⟩
 ·intro ρ w' r;exact⟨(0,List.replicate (n) f0,_,w'),⟨by simp,hw.tr r.bs,e8.start _ _ _ _⟩,Sub.gen [] r ⟨rfl,trivial⟩ ⟨rfl,rfl,rfl,trivial⟩ (by simp[cY,cN.scopd,At.sc]) (by simp[cO,SV.sc,At.sc]) (by rfl) (fun lo hi h=>h)⟩
 clear hw;rintro⟨i,css,iv,w1⟩ ⟨hi,hw,hF⟩;dsimp only at hi hw hF ⊢;conv=>whnf
 refine cW.mk (fun h=>?_) (fun h=>?_)
 ·have h:i<n:=by simpa using h
  conv=>whnf
  refine bp (cE hw (Φ:=fun _ w' v w2=>cH w2 (Nw (fun _=>False) w' w2) v (((0:Int):Rat))) (fun ρ w' r=>iQ 0 w' (by decide) (by decide)) ?_);rintro ρ wa1 v1 wb1 iv1 r he hw h_ hn;replace hF:=hF.bq r (bl w) he (mC h_);have hd:=hn.cQ (S:=fun _=>False) r.bm (mN h_);clear r hn;obtain⟨s1_0,s1_1,s1_2,s1_3,s1_4,s1_5,s1_6,s1_7,rfl⟩:=hd.shape;have hnext:=hF.next h (q:=_) (by simp[h]) hd
  conv=>whnf
  refine⟨⟨by omega,by omega⟩,?_⟩;conv=>whnf
  refine⟨by have:=hF.flat;omega,(css.set i [.bool s1_0,.slice s1_1 s1_2 s1_3,.bool s1_4,.slice s1_5 s1_6 s1_7]).flatten,?_,?_⟩
  ·have:=gn (cs:=[.bool s1_0,.slice s1_1 s1_2 s1_3,.bool s1_4,.slice s1_5 s1_6 s1_7]) hF.four (show i<css.length by rw[hF.len];exact h);rw[<-this];simp
  conv=>whnf
  refine⟨((i+1:Nat):Int),by rw[wrap64]<;>omega,?_⟩;conv=>whnf
  intro ρ3 w3 r3;exact⟨(i+1,css.set i [.bool s1_0,.slice s1_1 s1_2 s1_3,.bool s1_4,.slice s1_5 s1_6 s1_7],_,w3),⟨h,hw.tr r3.bs,hnext.rel r3 (bl w)⟩,Sub.gen [] r3 ⟨rfl,trivial⟩ ⟨rfl,rfl,rfl,trivial⟩ (by simp[cY,cN.scopd,At.sc]) (by simp[cO,SV.sc,At.sc]) (by rfl) (fun lo hi h=>h),by dsimp only;omega⟩
 have h:i=n:=aM hi (by simpa using h);subst h;conv=>whnf
 intro ρe we re;exact⟨_,rfl,hw.tr re.bs,hF.done (by simp) (by unfold maxLen;omega) re (id:=0) rfl (re.nn 0 _ rfl (by intros;simp) (by simp))⟩
theorem xQ{S:Nat->Prop}{w:World}{v u:Value}{xs:List Rat}{b:Rat}(hS:Old S w)(hx:cS w S v xs)(hb:dc w S u b)(hn:xs.length<=1000000):
  dQ PG N.mb #[v,u] w (dU w fun v' w2=>dK w2 (fun _=>False) w.heap.size [(w.heap.size,w2.heap.size)] v' xs.length (eO xs b)):=by
 have hw:cF w.heap.size w w:=cF.refl;obtain⟨ax,cx,rfl,hcx,hmx⟩:=cd.shape hx;obtain⟨g0,g1,g2,g3,g4,g5,g6,g7,rfl⟩:=hb.shape;have hby:rl b<=100000:=hb.rl;refine qH (by simp) ?_;conv=>whnf
 refine⟨xs.length,xs.length,rfl,rfl,aI _,by omega,by omega,?_⟩;conv=>whnf
 refine⟨Nat×List (List Value)×Iv×World,fun z=>⟨[(3,.o (.p 0 0)),(5,.o (.s 1 0 xs.length xs.length)),(11,.o (.v (.slice ax xs.length cx))),(12,.o (.v (.int .i64 xs.length))),(13,.o (.v (.int .i64 ((z.1:Nat):Int))))],[(0,.box T.Rat [.v (.bool g0),.v (.slice g1 g2 g3),.v (.bool g4),.v (.slice g5 g6 g7)]),(1,.arr T.Rat z.2.1.flatten)],2,z.2.2.1,z.2.2.2⟩,fun z=>xs.length-z.1,
  fun z=>z.1<=xs.length∧cF w.heap.size w z.2.2.2∧e8 z.2.2.2 (Cv (fun _=>False) w.heap.size z.2.2.1) (xs.length) z.1 z.2.1 (eO xs b),?_,?_⟩
 ·intro ρ w' r;exact⟨(0,List.replicate (xs.length) f0,_,w'),⟨by simp,hw.tr r.bs,e8.start _ _ _ _⟩,Sub.gen [] r ⟨rfl,rfl,trivial⟩ ⟨rfl,rfl,rfl,rfl,rfl,trivial⟩ (by simp[cY,cN.scopd,At.sc]) (by simp[cO,SV.sc,At.sc]) (by rfl) (fun lo hi h=>h)⟩
 clear hw;rintro⟨i,css,iv,w1⟩ ⟨hi,hw,hF⟩;dsimp only at hi hw hF ⊢;conv=>whnf
 refine cW.mk (fun h=>?_) (fun h=>?_)
 ·have h:i<xs.length:=by simpa using h
  obtain⟨x,hxi⟩:∃x,xs[i]? =some x:=⟨_,aA h⟩
  obtain⟨adx,csx,hax,hFx,-,hlx⟩:=cd.load hx hxi;obtain⟨f0,f1,f2,f3,f4,f5,f6,f7,rfl,hFx⟩:=hFx;conv=>whnf
  refine⟨adx,hax,⟨by omega,by omega⟩,?_⟩;conv=>whnf
  refine⟨[.bool f0,.slice f1 f2 f3,.bool f4,.slice f5 f6 f7],rfl,fun ρ w' r j u hu=>?_,?_⟩
  ·obtain⟨k1,k2⟩:=hlx j u hu;rw[aB,bo (w:=w) (w2:=w') (by rw[cC,cC];exact(hw.tr r.bs).block _ (hS _ k1))];exact k2
  conv=>whnf
  refine bp (cE hw (Φ:=fun _ w' v w2=>cH w2 (Nw (fun _=>False) w' w2) v (x*b)) (fun ρ w' r=>yS (fun g hg=>by have:=hS g hg;have:=r.bm;omega) (hFx.v.bu fun g hg=>(hw.tr r.bs).block g (hS g hg)) (hb.v.bu fun g hg=>(hw.tr r.bs).block g (hS g hg))) ?_);rintro ρ wa1 v1 wb1 iv1 r he hw h_ hn;replace hF:=hF.bq r (bl w) he (mC h_);have hd:=hn.cQ (S:=fun _=>False) r.bm (mN h_);clear r hn;obtain⟨s1_0,s1_1,s1_2,s1_3,s1_4,s1_5,s1_6,s1_7,rfl⟩:=hd.shape;have hnext:=hF.next h (q:=_) (by rw[eO,aN,hxi];rfl) hd
  conv=>whnf
  refine⟨⟨by omega,by omega⟩,?_⟩;conv=>whnf
  refine⟨by have:=hF.flat;omega,(css.set i [.bool s1_0,.slice s1_1 s1_2 s1_3,.bool s1_4,.slice s1_5 s1_6 s1_7]).flatten,?_,?_⟩
  ·have:=gn (cs:=[.bool s1_0,.slice s1_1 s1_2 s1_3,.bool s1_4,.slice s1_5 s1_6 s1_7]) hF.four (show i<css.length by rw[hF.len];exact h);rw[<-this];simp
  conv=>whnf
  refine⟨((i+1:Nat):Int),by rw[wrap64]<;>omega,?_⟩;conv=>whnf
  intro ρ3 w3 r3;exact⟨(i+1,css.set i [.bool s1_0,.slice s1_1 s1_2 s1_3,.bool s1_4,.slice s1_5 s1_6 s1_7],_,w3),⟨h,hw.tr r3.bs,hnext.rel r3 (bl w)⟩,Sub.gen [] r3 ⟨rfl,rfl,trivial⟩ ⟨rfl,rfl,rfl,rfl,rfl,trivial⟩ (by simp[cY,cN.scopd,At.sc]) (by simp[cO,SV.sc,At.sc]) (by rfl) (fun lo hi h=>h),by dsimp only;omega⟩
 have h:i=xs.length:=aM hi (by simpa using h);subst h;conv=>whnf
 intro ρe we re;exact⟨_,rfl,hw.tr re.bs,hF.done (by simp[eO]) (by unfold maxLen;omega) re (id:=1) rfl (re.nn 1 _ rfl (by intros;simp) (by simp))⟩
theorem Ec{S:Nat->Prop}{w:World}{v u:Value}{xs ys:List Rat}(hS:Old S w)(hx:cS w S v xs)(hy:cS w S u ys)(hl:xs.length<=ys.length)(hn:xs.length<=1000000):
  dQ PG N.pe #[v,u] w (dU w fun v' w2=>dK w2 (fun _=>False) w.heap.size [(w.heap.size,w2.heap.size)] v' xs.length (jb xs ys)):=by
 have hw:cF w.heap.size w w:=cF.refl;obtain⟨ax,cx,rfl,hcx,hmx⟩:=cd.shape hx;obtain⟨ay,cy,rfl,hcy,hmy⟩:=cd.shape hy;refine s9 (by simp) ?_;conv=>whnf
 refine⟨xs.length,xs.length,rfl,rfl,aI _,by omega,by omega,?_⟩;conv=>whnf
 refine⟨Nat×List (List Value)×Iv×World,fun z=>⟨[(0,.o (.v (.slice ax xs.length cx))),(1,.o (.v (.slice ay ys.length cy))),(5,.o (.s 0 0 xs.length xs.length)),(11,.o (.v (.int .i64 xs.length))),(12,.o (.v (.int .i64 ((z.1:Nat):Int))))],[(0,.arr T.Rat z.2.1.flatten)],1,z.2.2.1,z.2.2.2⟩,fun z=>xs.length-z.1,
  fun z=>z.1<=xs.length∧cF w.heap.size w z.2.2.2∧e8 z.2.2.2 (Cv (fun _=>False) w.heap.size z.2.2.1) (xs.length) z.1 z.2.1 (jb xs ys),?_,?_⟩
 ·intro ρ w' r;exact⟨(0,List.replicate (xs.length) f0,_,w'),⟨by simp,hw.tr r.bs,e8.start _ _ _ _⟩,Sub.gen [] r ⟨rfl,trivial⟩ ⟨rfl,rfl,rfl,rfl,rfl,trivial⟩ (by simp[cY,cN.scopd,At.sc]) (by simp[cO,SV.sc,At.sc]) (by rfl) (fun lo hi h=>h)⟩
 clear hw;rintro⟨i,css,iv,w1⟩ ⟨hi,hw,hF⟩;dsimp only at hi hw hF ⊢;conv=>whnf
 refine cW.mk (fun h=>?_) (fun h=>?_)
 ·have h:i<xs.length:=by simpa using h
  obtain⟨x,hxi⟩:∃x,xs[i]? =some x:=⟨_,aA h⟩
  obtain⟨y,hyi⟩:∃x,ys[i]? =some x:=⟨_,aA (by omega)⟩
  obtain⟨adx,csx,hax,hFx,-,hlx⟩:=cd.load hx hxi;obtain⟨f0,f1,f2,f3,f4,f5,f6,f7,rfl,hFx⟩:=hFx;obtain⟨ady,csy,hay,hFy,-,hly⟩:=cd.load hy hyi;obtain⟨q0,q1,q2,q3,q4,q5,q6,q7,rfl,hFy⟩:=hFy;conv=>whnf
  refine bw hτ dH [.x 0,.x 1,.x 2,.x 3,.x 4,.x 5,.x 6,.x 7,.x 8,.x 9,.x 10,.x 11,.x 12] (by kernel_rfl) (by kernel_rfl) ?_;conv=>whnf
  refine⟨adx,hax,⟨by omega,by omega⟩,?_⟩;conv=>whnf
  refine⟨[.bool f0,.slice f1 f2 f3,.bool f4,.slice f5 f6 f7],rfl,fun ρ w' r j u hu=>?_,?_⟩
  ·obtain⟨k1,k2⟩:=hlx j u hu;rw[aB,bo (w:=w) (w2:=w') (by rw[cC,cC];exact(hw.tr r.bs).block _ (hS _ k1))];exact k2
  conv=>whnf
  refine⟨ady,hay,⟨by omega,by omega⟩,?_⟩;conv=>whnf
  refine⟨[.bool q0,.slice q1 q2 q3,.bool q4,.slice q5 q6 q7],rfl,fun ρ w' r j u hu=>?_,?_⟩
  ·obtain⟨k1,k2⟩:=hly j u hu;rw[aB,bo (w:=w) (w2:=w') (by rw[cC,cC];exact(hw.tr r.bs).block _ (hS _ k1))];exact k2
  conv=>whnf
  refine cE hw (Φ:=fun _ w' v w2=>cH w2 (Nw (fun _=>False) w' w2) v (x*y)) (fun ρ w' r=>yS (fun g hg=>by have:=hS g hg;have:=r.bm;omega) (hFx.v.bu fun g hg=>(hw.tr r.bs).block g (hS g hg)) (hFy.v.bu fun g hg=>(hw.tr r.bs).block g (hS g hg))) ?_;rintro ρ wa1 v1 wb1 iv1 r he hw h_ hn;replace hF:=hF.bq r (bl w) he (mC h_);have hd:=hn.cQ (S:=fun _=>False) r.bm (mN h_);clear r hn;obtain⟨s1_0,s1_1,s1_2,s1_3,s1_4,s1_5,s1_6,s1_7,rfl⟩:=hd.shape;have hnext:=hF.next h (q:=_) (by rw[jb,List.getElem?_mapIdx,hxi,List.getD,hyi];rfl) hd
  conv=>whnf
  refine⟨⟨by omega,by omega⟩,?_⟩;conv=>whnf
  refine⟨by have:=hF.flat;omega,(css.set i [.bool s1_0,.slice s1_1 s1_2 s1_3,.bool s1_4,.slice s1_5 s1_6 s1_7]).flatten,?_,?_⟩
  ·have:=gn (cs:=[.bool s1_0,.slice s1_1 s1_2 s1_3,.bool s1_4,.slice s1_5 s1_6 s1_7]) hF.four (show i<css.length by rw[hF.len];exact h);rw[<-this];simp
  conv=>whnf
  refine⟨((i+1:Nat):Int),by rw[wrap64]<;>omega,?_⟩;conv=>whnf
  intro ρ3 w3 r3;exact⟨(i+1,css.set i [.bool s1_0,.slice s1_1 s1_2 s1_3,.bool s1_4,.slice s1_5 s1_6 s1_7],_,w3),⟨h,hw.tr r3.bs,hnext.rel r3 (bl w)⟩,Sub.gen [] r3 ⟨rfl,trivial⟩ ⟨rfl,rfl,rfl,rfl,rfl,trivial⟩ (by simp[cY,cN.scopd,At.sc]) (by simp[cO,SV.sc,At.sc]) (by rfl) (fun lo hi h=>h),by dsimp only;omega⟩
 have h:i=xs.length:=aM hi (by simpa using h);subst h;conv=>whnf
 intro ρe we re;exact⟨_,rfl,hw.tr re.bs,hF.done (by simp[jb]) (by unfold maxLen;omega) re (id:=0) rfl (re.nn 0 _ rfl (by intros;simp) (by simp))⟩
theorem Ed{C S:Nat->Prop}{w:World}{v vby vs:Value}{n h:Nat}{qs ps:List Rat}{p:Rat}(hC:Old C w)(hS:Old S w)(hrw:fm w S v n qs)(hby:dc w S vby p)
  (hs:ek w C S vs ps) (hpl:ps.length=n) (hdis:∀g,v.ownBlock=some g->¬S g) (hdc:∀g,v.ownBlock=some g->¬C g) (hq:∀q∈qs,rl q+1<=h) (hps:∀q∈ps,rl q+1<=h) (hb:rl p+1<=h) (hh:3*h<=90000):
  dQ PG N.lD #[v,vs,vby] w (fun e w2=>e= .returned (.tuple #[])∧w.grownBy w2 v.ownBlock∧fm w2 (Nw S w w2) v n (mQ qs ps p)):=by
 obtain⟨css,hrow,hcl,hfr⟩:=hrw;have hlow:∀g,v.ownBlock=some g->g<w.heap.size:=fun g hg=>(ownsRow.low hrow g hg).2;have hout:∀iv g,v.ownBlock=some g->Out w.heap.size iv g:=fun iv g hg=>.inl (hlow g hg);have hdis2:∀iv g,v.ownBlock=some g->¬Cv S w.heap.size iv g:=fun iv g hg h=>by
  rcases h with h|⟨h,_⟩
  ·exact hdis g hg h
  ·have:=hlow g hg;omega
 have hdis3:∀iv g,v.ownBlock=some g->¬Cv C w.heap.size iv g:=fun iv g hg h=>by
  rcases h with h|⟨h,_⟩
  ·exact hdc g hg h
  ·have:=hlow g hg;omega
 have hql:qs.length=n:=by rw[<-hfr.1,hcl]
 obtain⟨a,c,rfl,hnc⟩:=gp hrow;obtain⟨b1,a1,n1,c1,b2,a2,n2,c2,rfl⟩:=hby.shape;obtain⟨asl,cs0,rfl,hsc,hnm⟩:=hs.shape;rw[hpl]at hsc hnm hs ⊢;unfold maxLen at hnm;replace hfr:=hfr.bz (S':=Cv S w.heap.size []) fun _ h=>.inl h;replace hby:=hby.arg [];replace hs:=hs.arg [];refine sw (by simp) ?_;have hrow2:=hrow;have hg:w.grownBy w (Value.slice a n c).ownBlock:=⟨rfl,rfl,rfl,aI _,fun _ _ _=>rfl⟩
 have hbyl:rl p<=100000:=hby.rl;conv=>whnf
 refine⟨Nat×List (List Value)×Iv×World,fun z=>⟨[(0,.o (.v (.slice a n c))),(5,.o (.p 0 0)),(8,.o (.v (.slice asl n cs0))),(9,.o (.v (.int .i64 n))),(10,.o (.v (.int .i64 z.1)))],
   [(0,.box T.Rat [.v (.bool b1),.v (.slice a1 n1 c1),.v (.bool b2),.v (.slice a2 n2 c2)])],1,z.2.2.1,z.2.2.2⟩,fun z=>n-z.1,
  fun z=>z.1<=n∧w.grownBy z.2.2.2 (Value.slice a n c).ownBlock∧z.2.2.2.ownsRow 0 T.Rat 4 (.slice a n c) n z.2.1.flatten∧z.2.1.length=n∧Fc z.2.2.2 (Cv S w.heap.size z.2.2.1) z.2.1 (fz z.1 (zU (-p) ps) qs)∧
   dc z.2.2.2 (Cv S w.heap.size z.2.2.1) (.agg #[.bool b1,.slice a1 n1 c1,.bool b2,.slice a2 n2 c2]) p∧ek z.2.2.2 (Cv C w.heap.size z.2.2.1) (Cv S w.heap.size z.2.2.1) (.slice asl n cs0) ps,?_,?_⟩
 ·intro ρ w' r
  refine⟨(0,css,[],w'),⟨by simp,fC hg r.bs,lN hrow2 (hout []) r,hcl,by rw[vI];exact hfr.rel r hS,hby.rel r hS,hs.rel r hC hS⟩,
   Sub.gen [] r ⟨rfl,trivial⟩ ⟨rfl,rfl,rfl,rfl,rfl,trivial⟩ (by simp[cY,cN.scopd,At.sc]) (by simp[cO,SV.sc,At.sc]) (by rfl) (fun lo hi h=>h)⟩
 clear hrow hrow2 hfr hby hcl hs hg;rintro⟨i,css,iv,w1⟩ ⟨hi,hg,hrow,hcl,hfr,hby,hs⟩;dsimp only at hi hg hrow hcl hfr hby hs ⊢;conv=>whnf
 refine cW.mk (fun h=>?_) (fun h=>?_)
 ·have h:i<n:=by simpa using h
  obtain⟨cs,hcs⟩:∃cs,css[i]? =some cs:=⟨_,aA (by omega)⟩
  obtain⟨q,hqi⟩:∃q,qs[i]? =some q:=⟨_,aA (by omega)⟩
  obtain⟨f,hfi⟩:∃f,ps[i]? =some f:=⟨_,aA (by omega)⟩
  have hF:=hfr.2 i cs q hcs (zl hqi);have hadd:zU (-p) ps i q=q-p*f:=by simp only[zU,List.getD,hfi,Option.getD_some];grind
  obtain⟨d1,e1,m1,k1,d2,e2,m2,k2,rfl,hF⟩:=hF;have hrlq:=hq q (aD hqi);have hrlf:=hps f (aD hfi);obtain⟨ad,fcs,had,hff,hfl⟩:=hs.load hfi;obtain⟨f1,g1,o1,u1,f2,g2,o2,u2,rfl,hff⟩:=hff;conv=>whnf
  refine⟨ad,had,⟨by omega,by omega⟩,?_⟩;conv=>whnf
  refine⟨[.bool f1,.slice g1 o1 u1,.bool f2,.slice g2 o2 u2],rfl,fun ρ w' r j x hx=>?_,?_⟩
  ·have hs2:=hs.rel r hC hS;obtain⟨k2',k3⟩:=hfl j x hx;have:=Rel.same r hC k2';rw[aB,bo (w:=w1) (w2:=w') (by rw[cC,cC];exact this)];exact k3
  conv=>whnf
  refine bp (cA (Φ:=fun _ _ v _=>∃d,v= .bool d∧(d=true↔f=0)) (fun ρ w' r=>jn (Rel.old r hS) ((hff.rel r hS).l (by omega))) ?_);rintro ρ wa v1 wb r he hbl ⟨dz,rfl,hz⟩;replace hby:=hby.bq (iv':=(wa.heap.size,wb.heap.size)::iv) r hS he fun x hx=>aC _ hx;replace hfr:=hfr.bq (iv':=(wa.heap.size,wb.heap.size)::iv) r hS he fun x hx=>aC _ hx;replace hs:=hs.bq (iv':=(wa.heap.size,wb.heap.size)::iv) r hC hS he fun x hx=>aC _ hx;replace hff:=hff.bq (iv':=(wa.heap.size,wb.heap.size)::iv) r hS he fun x hx=>aC _ hx;replace hF:=hF.bq (iv':=(wa.heap.size,wb.heap.size)::iv) r hS he fun x hx=>aC _ hx;replace hrow:wb.ownsRow 0 T.Rat 4 (.slice a n c) n css.flatten:=ownsRow.bu (lN hrow (hout iv) r) fun b hb=>he.block b (by have:=hlow b hb;have:=r.bm;omega);replace hg:w.grownBy wb _:=fC hg hbl;clear r he hbl hfl;generalize (wa.heap.size,wb.heap.size)::iv=iv2 at*
  cases dz
  ·conv=>whnf
   refine bw hτ dH [.x 0,.x 1,.x 2,.x 3,.x 4,.x 5,.x 6,.x 7,.x 8,.x 9,.x 10,.x 11] (by kernel_rfl) (by kernel_rfl) ?_;conv=>whnf
   obtain⟨g,rfl,hload⟩:=zj hrow hfr hcs;refine⟨⟨g,0,none⟩,rfl,⟨by omega,by omega⟩,?_⟩;conv=>whnf
   refine⟨[.bool d1,.slice e1 m1 k1,.bool d2,.slice e2 m2 k2],rfl,fun ρ w' r j x hx=>?_,?_⟩
   ·have:=zj (lN hrow (hout iv2) r) (hfr.rel r hS) hcs;obtain⟨g',h1,h2⟩:=this;injection h1 with h1;rw[<-h1]at h2;exact h2 j x hx
   conv=>whnf
   have hl1:=jN p f;refine cA (Φ:=fun _ w' v w2=>cH w2 (Nw (fun _=>False) w' w2) v (p*f)) (fun ρ w' r=>yS (Rel.old r hS) (hby.rel r hS).v ((hff.rel r hS).v (by omega))) ?_;rintro ρ wa v1 wb r he hbl hP;have hPN:=hP.cQ (S:=S) r.bm (iv:=(wa.heap.size,wb.heap.size)::iv2) aH;replace hby:=hby.bq (iv':=(wa.heap.size,wb.heap.size)::iv2) r hS he fun x hx=>aC _ hx;replace hfr:=hfr.bq (iv':=(wa.heap.size,wb.heap.size)::iv2) r hS he fun x hx=>aC _ hx;replace hs:=hs.bq (iv':=(wa.heap.size,wb.heap.size)::iv2) r hC hS he fun x hx=>aC _ hx;replace hF:=hF.bq (iv':=(wa.heap.size,wb.heap.size)::iv2) r hS he fun x hx=>aC _ hx;replace hrow:wb.ownsRow 0 T.Rat 4 (.slice (some ⟨g,0,none⟩) n c) n css.flatten:=ownsRow.bu (lN hrow (hout iv2) r) fun b hb=>he.block b (by have:=hlow b hb;have:=r.bm;omega);replace hg:w.grownBy wb _:=fC hg hbl;clear r he hbl hP hff hload;generalize (wa.heap.size,wb.heap.size)::iv2=iv3 at*
   obtain⟨b5,a5,n5,c5,b6,a6,n6,c6,rfl⟩:=hPN.shape;conv=>whnf
   refine cA (Φ:=fun _ w' v w2=>cH w2 (Nw (fun _=>False) w' w2) v (q-p*f)) (fun ρ w' r=>D0 (Rel.old r hS) ((hF.rel r hS).v (by omega)) ((hPN.rel r hS).v (by omega))) ?_;rintro ρ wc v2 wd r he hbl hQ;have hQN:=hQ.cQ (S:=S) r.bm (iv:=(wc.heap.size,wd.heap.size)::iv3) aH;replace hby:=hby.bq (iv':=(wc.heap.size,wd.heap.size)::iv3) r hS he fun x hx=>aC _ hx;replace hfr:=hfr.bq (iv':=(wc.heap.size,wd.heap.size)::iv3) r hS he fun x hx=>aC _ hx;replace hs:=hs.bq (iv':=(wc.heap.size,wd.heap.size)::iv3) r hC hS he fun x hx=>aC _ hx;replace hrow:wd.ownsRow 0 T.Rat 4 (.slice (some ⟨g,0,none⟩) n c) n css.flatten:=ownsRow.bu (lN hrow (hout iv3) r) fun b hb=>he.block b (by have:=hlow b hb;have:=r.bm;omega);replace hg:w.grownBy wd _:=fC hg hbl;clear r he hbl hQ hPN hF;generalize (wc.heap.size,wd.heap.size)::iv3=iv4 at*
   obtain⟨b7,a7,n7,c7,b8,a8,n8,c8,rfl⟩:=hQN.shape;rw[<-hadd]at hQN;conv=>whnf
   refine⟨⟨g,0,none⟩,rfl,⟨by omega,by omega⟩,?_⟩;conv=>whnf
   intro ρ w' r;have hrow3:=lN hrow (hout iv4) r;have hF5:=(hQN.rel r hS).oL;obtain⟨g',hg',hok,hst,hgr,hsz⟩:=mL (nv:=[.bool b7,.slice a7 n7 c7,.bool b8,.slice a8 n8 c8]) hrow3 rfl h rfl (by decide);injection hg' with hg';injection hg' with hg';subst hg';have hset:=gn (cs:=[.bool b7,.slice a7 n7 c7,.bool b8,.slice a8 n8 c8]) hfr.tF (show i<css.length by omega);rw[hset]at hst;have hkeep:∀x,Cv S w.heap.size iv4 x->(setCells w' ⟨g,i*4,none⟩ [.bool b7,.slice a7 n7 c7,.bool b8,.slice a8 n8 c8]).heap[x]? =w'.heap[x]? :=fun x hx=>
    hgr.block x (Rel.old r hS x hx) fun e=>hdis2 iv4 g rfl (by injection e with e;rw[<-e];exact hx)
   have had2:(⟨g,0,none⟩:Addr).add ((i:Int).toNat*4)=⟨g,i*4,none⟩:=by rw[aB,dA,aP]
   have hF6:=((hfr.rel r hS).bu hkeep).set (j:=i) (hF5.bu hkeep);rw[ov (f:=zU (-p) ps) hqi]at hF6;have hby6:=(hby.rel r hS).bu hkeep;have hkeep3:∀x,Cv C w.heap.size iv4 x->(setCells w' ⟨g,i*4,none⟩ [.bool b7,.slice a7 n7 c7,.bool b8,.slice a8 n8 c8]).heap[x]? =w'.heap[x]? :=fun x hx=>
    hgr.block x (Rel.old r hC x hx) fun e=>hdis3 iv4 g rfl (by injection e with e;rw[<-e];exact hx)
   have hs6:=(hs.rel r hC hS).bu fun x hx=>hx.elim (hkeep3 x) (hkeep x);clear hkeep3;replace hg:w.grownBy (setCells w' ⟨g,i*4,none⟩ [.bool b7,.slice a7 n7 c7,.bool b8,.slice a8 n8 c8]) (some g):=fH (fC hg r.bs) hgr;have hnot:=fun id b hb hn=>Rel.not r (fun _ h=>h) (hout iv4 g rfl) id b hb hn;clear r hfr hby hQN hrow hrow3 hF5 hkeep hset hgr hs;refine⟨by rw[had2],fun k hk=>by rw[had2];exact hok k hk,fun id b hb hn=>by rw[had2];exact hnot id b hb hn,fun w2 hw2=>?_⟩;have hw2:w2=setCells w' ⟨g,i*4,none⟩ [.bool b7,.slice a7 n7 c7,.bool b8,.slice a8 n8 c8]:=by rw[hw2];exact congrArg (fun x=>setCells w' x _) had2
   rw[<-hw2]at hF6 hby6 hst hg hsz hs6;clear hw2 hok hnot;conv=>whnf
   refine⟨((i+1:Nat):Int),by rw[wrap64]<;>omega,?_⟩;conv=>whnf
   intro ρ3 w3 r3
   exact⟨(i+1,css.set i [.bool b7,.slice a7 n7 c7,.bool b8,.slice a8 n8 c8],iv4,w3),⟨h,fC hg r3.bs,lN hst (hout iv4) r3,by simpa using hcl,hF6.rel r3 hS,hby6.rel r3 hS,hs6.rel r3 hC hS⟩,
    Sub.gen [] r3 ⟨rfl,trivial⟩ ⟨rfl,rfl,rfl,rfl,rfl,trivial⟩ (by simp[cY,cN.scopd,At.sc]) (by simp[cO,SV.sc,At.sc]) (by rfl) (fun lo hi h=>h),by dsimp only;omega⟩
  ·have hf0:f=0:=hz.1 rfl;have hsame:zU (-p) ps i q=q:=by rw[hadd,hf0];grind
   conv=>whnf
   refine⟨((i+1:Nat):Int),by rw[wrap64]<;>omega,?_⟩;conv=>whnf
   intro ρ3 w3 r3
   exact⟨(i+1,css,iv2,w3),⟨h,fC hg r3.bs,lN hrow (hout iv2) r3,hcl,by rw[<-Ap hqi hsame];exact hfr.rel r3 hS,hby.rel r3 hS,hs.rel r3 hC hS⟩,
    Sub.gen [] r3 ⟨rfl,trivial⟩ ⟨rfl,rfl,rfl,rfl,rfl,trivial⟩ (by simp[cY,cN.scopd,At.sc]) (by simp[cO,SV.sc,At.sc]) (by rfl) (fun lo hi h=>h),by dsimp only;omega⟩
 ·have h:i=n:=by
   have:¬i<n:=by simpa using h
   omega
  subst h;conv=>whnf
  intro ρ5 w5 r5;refine⟨rfl,fC hg r5.bs,css,lN hrow (hout iv) r5,hcl,?_⟩;have:=(hfr.rel r5 hS).bz (S':=Nw S w w5) fun g hg=>Cv.nw hg r5
  rwa [<-hql,xR]at this
section
variable{S:Nat->Prop}{w:World}{v u vx vk vp:Value}{z:Int}{M K:List (List (Int×Int))}{b X P:List (Int×Int)}
end
end Go.Ex
namespace Go.Sx
open Go Go.Ex Go.Proofs
theorem Sub.GP{B:Nat}{l tl:Env}{nx:Nat}{H tH:Hp}{iv:Iv}{w w':World}{ρ:Nat->Sx.dN}{id t n sz:Nat}{e:TypeId}{cs:List Value}(r:Rel H nx iv B w ρ w')(hid:cT H id=some (.vec e sz cs))(hn:(ρ id).nil=false)(ht:eR l t=some (.o (.w id n)))
  (hs:sX H tH) (ho:zI id tH=true) (h1:zC l tl) (h2:cO nx tl):
  Sub B l nx ρ w' ⟨(t,.o (.v (.slice (some ⟨(ρ id).g,0,none⟩) n (ρ id).cap)))::tl,tH,nx,((ρ id).g,(ρ id).g+1)::iv,w'⟩:=
 ⟨ρ,r.free hid (by simp) hn hs ho,fun u v hv=>qP hn ht h1 h2 u v hv⟩
end Go.Sx
namespace Go.Ex
open Go Go.Sx Go.Proofs
end Go.Ex
