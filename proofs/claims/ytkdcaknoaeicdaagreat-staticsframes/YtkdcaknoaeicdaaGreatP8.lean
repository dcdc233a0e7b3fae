/- A part of the proof: texts X63 to X84. Each tells its conditions in its theorems. -/
import Derived.Test.YtkdcaknoaeicdaaGreatP5
import Derived.Test.YtkdcaknoaeicdaaGreatP6
import Derived.Test.YtkdcaknoaeicdaaGreatP7
namespace Go.Ex
open Go Go.Sx Go.Proofs
def eG(w:World)(S:Nat->Prop)(v:Value)(q:Rat):Prop:=∃b1 l1 b2 l2 a b,v= .agg #[.bool b1,l1,.bool b2,l2]∧ed w S (.agg #[.bool b1,l1]) 100000 a∧ed w S (.agg #[.bool b2,l2]) 100000 b∧ratio a b=q
theorem eG.cD{S:Nat->Prop}{w w2:World}{v:Value}{q:Rat}(h:eG w S v q)(hk:∀g,S g->w2.heap[g]? =w.heap[g]?):eG w2 S v q:=by
 obtain⟨b1,l1,b2,l2,a,b,h1,h2,h3,h4⟩:=h;exact⟨b1,l1,b2,l2,a,b,h1,h2.cD hk,h3.cD hk,h4⟩
theorem eG.cG{S S':Nat->Prop}{w:World}{v:Value}{q:Rat}(h:eG w S v q)(hk:∀g,S g->S' g):eG w S' v q:=by
 obtain⟨b1,l1,b2,l2,a,b,h1,h2,h3,h4⟩:=h;exact⟨b1,l1,b2,l2,a,b,h1,h2.cG hk,h3.cG hk,h4⟩
theorem eG.r{S:Nat->Prop}{w:World}{v:Value}{q:Rat}(h:eG w S v q):∃a b,gX w S v a b∧ratio a b=q:=by
 obtain⟨b1,l1,b2,l2,a,b,rfl,h2,h3,h4⟩:=h;exact⟨a,b,⟨b1,l1,b2,l2,rfl,h2.r,h3.r⟩,h4⟩
theorem eG.v{S:Nat->Prop}{w:World}{v:Value}{q:Rat}(h:eG w S v q):qS w S v q:=by
 obtain⟨b1,l1,b2,l2,a,b,rfl,h2,h3,h4⟩:=h;exact⟨a,b,⟨b1,l1,b2,l2,rfl,h2.r,h3.r⟩,h4,h2.ln,h3.ln⟩
theorem eG.shape{S:Nat->Prop}{w:World}{v:Value}{q:Rat}(h:eG w S v q):∃b a n c b2 a2 n2 c2,v= .agg #[.bool b,.slice a n c,.bool b2,.slice a2 n2 c2]:=h.v.shape
theorem eG.rl{S:Nat->Prop}{w:World}{v:Value}{q:Rat}(h:eG w S v q):rl q<=100000:=by
 obtain⟨b1,l1,b2,l2,a,b,rfl,h2,h3,rfl⟩:=h;have:=iH a b;have:=h2.ln;have:=h3.ln;omega
theorem cR.l{S:Nat->Prop}{w:World}{v:Value}{q:Rat}(h:cR w S v q)(hl:rl q<=100000):eG w S v q:=by
 obtain⟨b1,l1,b2,l2,h1,h2,h3⟩:=h;exact⟨b1,l1,b2,l2,_,_,h1,h2.l (bB (fF q) hl),h3.l (bB (eQ q) hl),mW q⟩
theorem Gr(a b:Int):rs (ratio a b)=if b.sign<0 then -a.sign else a.sign:=by
 have sb:=fM b;rw[ratio];split
 ·rw[aK (by omega),rs,rA (by decide)]
 ·split
  ·rw[show Rat.divInt a b=Rat.divInt (-a) (-b)from(Rat.neg_divInt_neg a b).symm,rs,rA (by omega),Int.sign_neg]
  ·rw[rs,rA (by omega)]
theorem ic{a c:Int}:(a.natAbs<1073741824)->(c.natAbs<1073741824)->(a*c).natAbs<=1152921502459363329:=fun h1 h2=>by
 rw[Int.natAbs_mul];exact Nat.mul_le_mul (show a.natAbs<=1073741823 by omega) (show c.natAbs<=1073741823 by omega)
section
variable{S S':Nat->Prop}{H:Hp}{nx:Nat}{iv iv':Iv}{B:Nat}{w w' w2:World}{ρ:Nat->Sx.dc}{v:Value}{q:Rat}
theorem eG.rel(h:eG w (Cv S B iv) v q)(r:Rel H nx iv B w ρ w')(hS:∀g,S g->g<B):eG w' (Cv S B iv) v q:=h.cD fun _ hg=>Rel.same r hS hg
theorem eG.cB(h:eG w (Cv S B iv) v q)(r:Rel H nx iv B w ρ w')(hS:∀g,S g->g<B)(he:Ext w' w2)(hm:∀p,p∈iv->p∈iv'):eG w2 (Cv S B iv') v q:=
 ((h.rel r hS).cD fun g hg=>he.block g (Rel.old r hS g hg)).cG fun _ hg=>hg.mono hm
theorem eG.arg(h:eG w S v q)(iv:Iv):eG w (Cv S w.heap.size iv) v q:=h.cG fun _ h=>.inl h
end
theorem qQ{S:Nat->Prop}{w:World}{v:Value}{a b:Int}(hS:Old S w)(hp:gX w S v a b):
  dh PG N.iu #[v] w (dw w fun v' _=>v'= .int .i64 (rs (ratio a b))):=by
 have hw:cN w.heap.size w w:=cN.refl;obtain⟨b1,l1,b2,l2,rfl,ha,hb'⟩:=hp;obtain⟨_,a1,n1,c1,e1⟩:=ha.shape;obtain⟨_,a2,n2,c2,e2⟩:=hb'.shape;simp only[Value.agg.injEq,Array.mk.injEq,List.cons.injEq,and_true]at e1 e2;obtain⟨_,rfl⟩:=e1;obtain⟨_,rfl⟩:=e2;replace ha:=ha.cG (S':=Cv S w.heap.size []) fun _ h=>.inl h;replace hb':=hb'.cG (S':=Cv S w.heap.size []) fun _ h=>.inl h;have hr:=Gr a b;have sa:=fM a;refine uV (by simp) ?_;conv=>whnf
 refine bz (cH (Φ:=fun _ w' v w2=>v= .int .i64 b.sign) (fun ρ w' r=>fc (Rel.old r hS) (hb'.rel r hS)) ?_);rintro ρ wa1 v1 wb1 r he hb rfl;replace hw:=hw.tr hb;replace ha:=ha.cB (iv':=(wa1.heap.size,wb1.heap.size)::[]) r hS he fun x hx=>aD _ hx;clear hb';clear r he hb;generalize (wa1.heap.size,wb1.heap.size)::[]=iv1 at*
 conv=>whnf
 refine dE.mk (fun h=>?_) (fun h=>?_)
 ·have h:=aI h;rw[if_pos h]at hr;conv=>whnf
  refine bz (cE hw (Φ:=fun _ w' v w2=>v= .int .i64 a.sign) (fun ρ w' r=>fc (Rel.old r hS) (ha.rel r hS)) ?_);rintro ρ wa2 v2 wb2 iv2 r he hw h_ rfl;clear ha;clear r he;conv=>whnf
  refine⟨-a.sign,by rw[wrap64]<;>omega,?_⟩;conv=>whnf
  intro ρe we re;exact⟨_,rfl,hw.tr re.cC,by rw[hr];rfl⟩
 have h:=aH h;rw[aK h]at hr;conv=>whnf
 refine bz (cE hw (Φ:=fun _ w' v w2=>v= .int .i64 a.sign) (fun ρ w' r=>fc (Rel.old r hS) (ha.rel r hS)) ?_);rintro ρ wa2 v2 wb2 iv2 r he hw h_ rfl;clear ha;clear r he;conv=>whnf
 intro ρe we re;exact⟨_,rfl,hw.tr re.cC,by rw[hr];rfl⟩
theorem Ey{S:Nat->Prop}{w:World}{v:Value}{p:Rat}(hS:Old S w)(hp:cR w S v p):dh PG N.iu #[v] w (dw w fun v' _=>v'= .int .i64 (rs p)):=by
 have:=qQ hS hp.r;rw[mW]at this;exact this
theorem qR{S:Nat->Prop}{w:World}{v:Value}{p:Rat}(hS:Old S w)(hp:eG w S v p):dh PG N.iu #[v] w (dw w fun v' _=>v'= .int .i64 (rs p)):=by
 obtain⟨a,b,h1,rfl⟩:=hp.r;exact qQ hS h1
theorem fV{S:Nat->Prop}{w:World}{v:Value}{p:Rat}(hS:Old S w)(hp:eG w S v p):
  dh PG N.rG #[v] w (dw w fun v' w2=>cR w2 (Nw (fun _=>False) w w2) v' p):=by
 have hw:cN w.heap.size w w:=cN.refl;obtain⟨b1,l1,b2,l2,a,b,rfl,ha,hb',rfl⟩:=hp;obtain⟨_,a1,n1,c1,e1⟩:=ha.shape;obtain⟨_,a2,n2,c2,e2⟩:=hb'.shape;simp only[Value.agg.injEq,Array.mk.injEq,List.cons.injEq,and_true]at e1 e2;obtain⟨_,rfl⟩:=e1;obtain⟨_,rfl⟩:=e2;replace ha:=ha.cG (S':=Cv S w.heap.size []) fun _ h=>.inl h;replace hb':=hb'.cG (S':=Cv S w.heap.size []) fun _ h=>.inl h;have sb:=fM b;refine u9 (by simp) ?_;conv=>whnf
 refine bz (cH (Φ:=fun _ w' v w2=>v= .int .i64 b.sign) (fun ρ w' r=>fc (Rel.old r hS) (hb'.rel r hS).r) ?_);rintro ρ wa1 v1 wb1 r he hb rfl;replace hw:=hw.tr hb;replace ha:=ha.cB (iv':=(wa1.heap.size,wb1.heap.size)::[]) r hS he fun x hx=>aD _ hx;replace hb':=hb'.cB (iv':=(wa1.heap.size,wb1.heap.size)::[]) r hS he fun x hx=>aD _ hx;clear r he hb;generalize (wa1.heap.size,wb1.heap.size)::[]=iv1 at*
 conv=>whnf
 refine dE.mk (fun h=>?_) (fun h=>?_)
 ·have h:b.sign=0:=by simpa using h
  obtain rfl:b=0:=by omega
  rw[show ratio a 0=Rat.divInt a 1 from if_pos rfl];conv=>whnf
  refine cF hτ dV [.x 0,.x 1,.x 2,.x 3,.x 4] (by kernel_rfl) (by kernel_rfl) ?_;conv=>whnf
  refine cH (Φ:=fun _ w' v w2=>dC w2 (Nw (fun _=>False) w' w2) v (1)) (fun ρ w' r=>j6 _ w' (by decide) (by decide)) ?_;rintro ρ wa2 v2 wb2 r he hb hn;replace hw:=hw.tr hb;replace ha:=ha.cB (iv':=(wa2.heap.size,wb2.heap.size)::iv1) r hS he fun x hx=>aD _ hx;replace hb':=hb'.cB (iv':=(wa2.heap.size,wb2.heap.size)::iv1) r hS he fun x hx=>aD _ hx;have h1:=hn.cw (S:=fun _=>False) r.bu (iv:=(wa2.heap.size,wb2.heap.size)::iv1) aJ;clear r he hb hn;generalize (wa2.heap.size,wb2.heap.size)::iv1=iv2 at*
  obtain⟨s2_0,s2_1,s2_2,s2_3,rfl⟩:=h1.shape;conv=>whnf
  refine cH (Φ:=fun _ w' v w2=>cR w2 (Nw (fun _=>False) w' w2) v (Rat.divInt a 1)) (fun ρ w' r=>jO (Rel.old r hS) (ha.rel r hS) (((h1.rel r (bs w)).l (k:=1) (by decide)).cG fun g hg=>Cv.false hg) (by omega) (by omega) (by decide)) ?_;rintro ρ wa3 v3 wb3 r he hb hn;replace hw:=hw.tr hb;replace ha:=ha.cB (iv':=(wa3.heap.size,wb3.heap.size)::iv2) r hS he fun x hx=>aD _ hx;replace hb':=hb'.cB (iv':=(wa3.heap.size,wb3.heap.size)::iv2) r hS he fun x hx=>aD _ hx;replace h1:=h1.cB (iv':=(wa3.heap.size,wb3.heap.size)::iv2) r (bs w) he fun x hx=>aD _ hx;have hR:=hn.cw (S:=fun _=>False) r.bu (iv:=(wa3.heap.size,wb3.heap.size)::iv2) aJ;clear r he hb hn;generalize (wa3.heap.size,wb3.heap.size)::iv2=iv3 at*
  obtain⟨s3_0,s3_1,s3_2,s3_3,s3_4,s3_5,s3_6,s3_7,rfl⟩:=hR.shape;conv=>whnf
  intro ρe we re;exact⟨_,rfl,hw.tr re.cC,hR.out re (bs w)⟩
 have h:b.sign≠0:=by simpa using h
 have hb0:b≠0:=by omega
 rw[show ratio a b=Rat.divInt a b from aK hb0];conv=>whnf
 refine bz (cH (Φ:=fun _ w' v w2=>cR w2 (Nw (fun _=>False) w' w2) v (Rat.divInt a b)) (fun ρ w' r=>jO (Rel.old r hS) (ha.rel r hS) (hb'.rel r hS) (by omega) (by omega) hb0) ?_);rintro ρ wa2 v2 wb2 r he hb hn;replace hw:=hw.tr hb;replace ha:=ha.cB (iv':=(wa2.heap.size,wb2.heap.size)::iv1) r hS he fun x hx=>aD _ hx;replace hb':=hb'.cB (iv':=(wa2.heap.size,wb2.heap.size)::iv1) r hS he fun x hx=>aD _ hx;have hR:=hn.cw (S:=fun _=>False) r.bu (iv:=(wa2.heap.size,wb2.heap.size)::iv1) aJ;clear r he hb hn;generalize (wa2.heap.size,wb2.heap.size)::iv1=iv2 at*
 obtain⟨s2_0,s2_1,s2_2,s2_3,s2_4,s2_5,s2_6,s2_7,rfl⟩:=hR.shape;conv=>whnf
 intro ρe we re;exact⟨_,rfl,hw.tr re.cC,hR.out re (bs w)⟩
theorem vS{S:Nat->Prop}{w:World}{v:Value}{p:Rat}(hS:Old S w)(hp:eG w S v p):
  dh PG N.tq #[v] w (dw w fun v' _=>∃n d ok,v'= .tuple #[.int .i64 n,.int .i64 d,.bool ok]∧(ok=true->d≠0∧n.natAbs<1073741824∧d.natAbs<1073741824∧Rat.divInt n d=p)):=by
 have hw:cN w.heap.size w w:=cN.refl;obtain⟨b1,l1,b2,l2,a,b,rfl,ha,hb',rfl⟩:=hp;obtain⟨_,a1,n1,c1,e1⟩:=ha.shape;obtain⟨_,a2,n2,c2,e2⟩:=hb'.shape;simp only[Value.agg.injEq,Array.mk.injEq,List.cons.injEq,and_true]at e1 e2;obtain⟨_,rfl⟩:=e1;obtain⟨_,rfl⟩:=e2;replace ha:=ha.cG (S':=Cv S w.heap.size []) fun _ h=>.inl h;replace hb':=hb'.cG (S':=Cv S w.heap.size []) fun _ h=>.inl h;refine xV (by simp) ?_;conv=>whnf
 refine bz (cH (Φ:=fun _ w' v w2=>∃n p,v= .tuple #[.int .i64 n,.bool p]∧(p=true->n=a∧a.natAbs<1073741824)) (fun ρ w' r=>(l0 (Rel.old r hS) (ha.rel r hS).r).mono fun e w2 ⟨v2,e1,e2,e3⟩=>⟨v2,e1,e2,by
   rw[e3,iz];split
   ·exact⟨_,_,rfl,fun _=>⟨rfl,‹_›⟩⟩
   ·exact⟨_,_,rfl,fun h=>by cases h⟩⟩) ?_)
 rintro ρ wa1 v1 wb1 r he hb ⟨na,pa,rfl,qa⟩;replace hw:=hw.tr hb;replace ha:=ha.cB (iv':=(wa1.heap.size,wb1.heap.size)::[]) r hS he fun x hx=>aD _ hx;replace hb':=hb'.cB (iv':=(wa1.heap.size,wb1.heap.size)::[]) r hS he fun x hx=>aD _ hx;clear r he hb;generalize (wa1.heap.size,wb1.heap.size)::[]=iv1 at*
 conv=>whnf
 refine bz (cH (Φ:=fun _ w' v w2=>∃n p,v= .tuple #[.int .i64 n,.bool p]∧(p=true->n=b∧b.natAbs<1073741824)) (fun ρ w' r=>(l0 (Rel.old r hS) (hb'.rel r hS).r).mono fun e w2 ⟨v2,e1,e2,e3⟩=>⟨v2,e1,e2,by
   rw[e3,iz];split
   ·exact⟨_,_,rfl,fun _=>⟨rfl,‹_›⟩⟩
   ·exact⟨_,_,rfl,fun h=>by cases h⟩⟩) ?_)
 rintro ρ wa2 v2 wb2 r he hb ⟨nb,pb,rfl,qb⟩;replace hw:=hw.tr hb;replace ha:=ha.cB (iv':=(wa2.heap.size,wb2.heap.size)::iv1) r hS he fun x hx=>aD _ hx;replace hb':=hb'.cB (iv':=(wa2.heap.size,wb2.heap.size)::iv1) r hS he fun x hx=>aD _ hx;clear r he hb;generalize (wa2.heap.size,wb2.heap.size)::iv1=iv2 at*
 conv=>whnf
 refine dE.mk (fun h=>?_) (fun h=>?_)
 ·have h:nb=0:=by simpa using h
  conv=>whnf
  refine dE.mk (fun h1=>?_) (fun h1=>?_)
  ·conv=>whnf
   intro ρe we re
   exact⟨_,rfl,hw.tr re.cC,⟨na,1,pb,rfl,fun h2=>by
     obtain⟨rfl,hx⟩:=qa h1;obtain⟨rfl,hy⟩:=qb h2;rw[h]
     exact⟨by decide,hx,by decide,(if_pos rfl).symm⟩⟩⟩
  conv=>whnf
  intro ρe we re;exact⟨_,rfl,hw.tr re.cC,⟨na,1,false,rfl,fun h2=>by cases h2⟩⟩
 have h:nb≠0:=by simpa using h
 conv=>whnf
 refine dE.mk (fun h1=>?_) (fun h1=>?_)
 ·conv=>whnf
  intro ρe we re
  exact⟨_,rfl,hw.tr re.cC,⟨na,nb,pb,rfl,fun h2=>by
    obtain⟨rfl,hx⟩:=qa h1;obtain⟨rfl,hy⟩:=qb h2
    exact⟨h,hx,hy,(aK h).symm⟩⟩⟩
 conv=>whnf
 intro ρe we re;exact⟨_,rfl,hw.tr re.cC,⟨na,nb,false,rfl,fun h2=>by cases h2⟩⟩
theorem Iz{S:Nat->Prop}{w:World}{v u:Value}{p q:Rat}(hS:Old S w)(hp:eG w S v p)(hq:eG w S u q):
  dh PG N.zK #[v,u] w (dw w fun v' w2=>cR w2 (Nw (fun _=>False) w w2) v' (p+q)):=by
 have hw:cN w.heap.size w w:=cN.refl;replace hp:=hp.cG (S':=Cv S w.heap.size []) fun _ h=>.inl h;replace hq:=hq.cG (S':=Cv S w.heap.size []) fun _ h=>.inl h;obtain⟨b1,a1,n1,c1,b2,a2,n2,c2,rfl⟩:=hp.shape;obtain⟨b3,a3,n3,c3,b4,a4,n4,c4,rfl⟩:=hq.shape;refine AO (by simp) ?_;conv=>whnf
 have r1:=hp.rl;have r2:=hq.rl;have u1:=fF p;have u2:=eQ p;have u3:=fF q;have u4:=eQ q;refine bz (cE hw (Φ:=fun _ w' v w2=>∃n d ok,v= .tuple #[.int .i64 n,.int .i64 d,.bool ok]∧(ok=true->d≠0∧n.natAbs<1073741824∧d.natAbs<1073741824∧Rat.divInt n d=p)) (fun ρ w' r=>vS (Rel.old r hS) (hp.rel r hS)) ?_);rintro ρ wa1 v1 wb1 iv1 r he hw h_ ⟨a,b,k1,rfl,g1⟩;replace hp:=hp.cB r hS he (mC h_);replace hq:=hq.cB r hS he (mC h_);clear r;conv=>whnf
 refine bz (cE hw (Φ:=fun _ w' v w2=>∃n d ok,v= .tuple #[.int .i64 n,.int .i64 d,.bool ok]∧(ok=true->d≠0∧n.natAbs<1073741824∧d.natAbs<1073741824∧Rat.divInt n d=q)) (fun ρ w' r=>vS (Rel.old r hS) (hq.rel r hS)) ?_);rintro ρ wa2 v2 wb2 iv2 r he hw h_ ⟨c,d,k2,rfl,g2⟩;replace hp:=hp.cB r hS he (mC h_);replace hq:=hq.cB r hS he (mC h_);clear r;conv=>whnf
 refine dE.mk (fun h1=>?_) (fun h1=>?_)
 ·conv=>whnf
  refine dE.mk (fun h2=>?_) (fun h2=>?_)
  ·obtain⟨g3,g4,g5,g6⟩:=g1 h1;obtain⟨g7,g8,g9,g10⟩:=g2 h2;have i1:=ic g4 g9;have i2:=ic g8 g5;have i3:=ic g5 g9;have i4:=ic g4 g8;clear hp hq;conv=>whnf
   refine⟨a*d,by rw[wrap64]<;>omega,?_⟩;conv=>whnf
   refine⟨c*b,by rw[wrap64]<;>omega,?_⟩;conv=>whnf
   refine⟨a*d+c*b,by rw[wrap64]<;>omega,?_⟩;conv=>whnf
   refine⟨b*d,by rw[wrap64]<;>omega,?_⟩;conv=>whnf
   have e:=Rat.divInt_add_divInt a c g3 g7;rw[g6,g10]at e;refine bz (cE hw (Φ:=fun _ w' v w2=>cR w2 (Nw (fun _=>False) w' w2) v (p+q)) (fun ρ w' r=>e▸o7 (a*d+c*b) (b*d) w' (by omega) (by omega) (jG g3 g7)) ?_);rintro ρ wa3 v3 wb3 iv3 r he hw h_ hn;have hR:=hn.cw (S:=fun _=>False) r.bu (mN h_);clear r;obtain⟨s3_0,s3_1,s3_2,s3_3,s3_4,s3_5,s3_6,s3_7,rfl⟩:=hR.shape;conv=>whnf
   intro ρe we re;exact⟨_,rfl,hw.tr re.cC,hR.out re (bs w)⟩
  conv=>whnf
  refine cF hτ dV [.x 0,.x 2,.x 1,.x 3,.x 4,.x 5] (by kernel_rfl) (by kernel_rfl) ?_;conv=>whnf
  refine cE hw (Φ:=fun _ w' v w2=>cR w2 (Nw (fun _=>False) w' w2) v (p)) (fun ρ w' r=>fV (Rel.old r hS) (hp.rel r hS)) ?_;rintro ρ wa3 v3 wb3 iv3 r he hw h_ hn;clear hp;replace hq:=hq.cB r hS he (mC h_);have hX:=hn.cw (S:=fun _=>False) r.bu (mN h_);clear r;obtain⟨s3_0,s3_1,s3_2,s3_3,s3_4,s3_5,s3_6,s3_7,rfl⟩:=hX.shape;conv=>whnf
  refine cE hw (Φ:=fun _ w' v w2=>cR w2 (Nw (fun _=>False) w' w2) v (q)) (fun ρ w' r=>fV (Rel.old r hS) (hq.rel r hS)) ?_;rintro ρ wa4 v4 wb4 iv4 r he hw h_ hn;clear hq;replace hX:=hX.cB r (bs w) he (mC h_);have hY:=hn.cw (S:=fun _=>False) r.bu (mN h_);clear r;obtain⟨s4_0,s4_1,s4_2,s4_3,s4_4,s4_5,s4_6,s4_7,rfl⟩:=hY.shape;conv=>whnf
  have hXn:=hX.num;have hXd:=hX.den;clear hX;have hYn:=hY.num;have hYd:=hY.den;clear hY;have m0:=cS p.num q.den;have m1:=cS q.num p.den;have m2:=cS (p.den:Int) q.den;have m3:=gi (p.num*q.den) (q.num*p.den);have m4:=cS p.num q.num;refine cF hτ dV [.x 0,.x 1,.x 2,.x 3,.x 5,.x 6,.x 7,.x 8,.x 11,.x 12,.x 13,.x 14,.x 4,.x 9,.x 10,.x 15,.x 16,.x 17] (by kernel_rfl) (by kernel_rfl) ?_;conv=>whnf
  refine cE hw (Φ:=fun _ w' v w2=>dC w2 (Nw (fun _=>False) w' w2) v (p.num*(q.den:Int))) (fun ρ w' r=>gJ (Rel.old r (bs w)) ((hXn.rel r (bs w)).l (k:=100000) (by omega)) ((hYd.rel r (bs w)).l (k:=100000) (by omega)) (by omega) (by omega)) ?_;rintro ρ wa5 v5 wb5 iv5 r he hw h_ hn;replace hXn:=hXn.cB r (bs w) he (mC h_);replace hXd:=hXd.cB r (bs w) he (mC h_);replace hYn:=hYn.cB r (bs w) he (mC h_);replace hYd:=hYd.cB r (bs w) he (mC h_);have hA:=hn.cw (S:=fun _=>False) r.bu (mN h_);clear r;obtain⟨s5_0,s5_1,s5_2,s5_3,rfl⟩:=hA.shape;conv=>whnf
  refine cE hw (Φ:=fun _ w' v w2=>dC w2 (Nw (fun _=>False) w' w2) v (q.num*(p.den:Int))) (fun ρ w' r=>gJ (Rel.old r (bs w)) ((hYn.rel r (bs w)).l (k:=100000) (by omega)) ((hXd.rel r (bs w)).l (k:=100000) (by omega)) (by omega) (by omega)) ?_;rintro ρ wa6 v6 wb6 iv6 r he hw h_ hn;replace hXn:=hXn.cB r (bs w) he (mC h_);replace hXd:=hXd.cB r (bs w) he (mC h_);replace hYn:=hYn.cB r (bs w) he (mC h_);replace hYd:=hYd.cB r (bs w) he (mC h_);replace hA:=hA.cB r (bs w) he (mC h_);have hB:=hn.cw (S:=fun _=>False) r.bu (mN h_);clear r;obtain⟨s6_0,s6_1,s6_2,s6_3,rfl⟩:=hB.shape;conv=>whnf
  refine cE hw (Φ:=fun _ w' v w2=>dC w2 (Nw (fun _=>False) w' w2) v (p.num*(q.den:Int)+q.num*(p.den:Int))) (fun ρ w' r=>yE (Rel.old r (bs w)) ((hA.rel r (bs w)).l (k:=200000) (by omega)) ((hB.rel r (bs w)).l (k:=200000) (by omega)) (by omega) (by omega)) ?_;rintro ρ wa7 v7 wb7 iv7 r he hw h_ hn;replace hXn:=hXn.cB r (bs w) he (mC h_);replace hXd:=hXd.cB r (bs w) he (mC h_);replace hYn:=hYn.cB r (bs w) he (mC h_);replace hYd:=hYd.cB r (bs w) he (mC h_);clear hA;clear hB;have hN:=hn.cw (S:=fun _=>False) r.bu (mN h_);clear r;obtain⟨s7_0,s7_1,s7_2,s7_3,rfl⟩:=hN.shape;conv=>whnf
  refine cE hw (Φ:=fun _ w' v w2=>dC w2 (Nw (fun _=>False) w' w2) v ((p.den:Int)*(q.den:Int))) (fun ρ w' r=>gJ (Rel.old r (bs w)) ((hXd.rel r (bs w)).l (k:=100000) (by omega)) ((hYd.rel r (bs w)).l (k:=100000) (by omega)) (by omega) (by omega)) ?_;rintro ρ wa8 v8 wb8 iv8 r he hw h_ hn;replace hXn:=hXn.cB r (bs w) he (mC h_);replace hXd:=hXd.cB r (bs w) he (mC h_);replace hYn:=hYn.cB r (bs w) he (mC h_);replace hYd:=hYd.cB r (bs w) he (mC h_);replace hN:=hN.cB r (bs w) he (mC h_);have hD:=hn.cw (S:=fun _=>False) r.bu (mN h_);clear r;obtain⟨s8_0,s8_1,s8_2,s8_3,rfl⟩:=hD.shape;conv=>whnf
  refine cE hw (Φ:=fun _ w' v w2=>cR w2 (Nw (fun _=>False) w' w2) v (p+q)) (fun ρ w' r=>(qz p q)▸jO (Rel.old r (bs w)) ((hN.rel r (bs w)).l (k:=200001) (by omega)) ((hD.rel r (bs w)).l (k:=200001) (by omega)) (by omega) (by omega) (jG (fO p) (fO q))) ?_;rintro ρ wa9 v9 wb9 iv9 r he hw h_ hn;clear hXn;clear hXd;clear hYn;clear hYd;clear hN;clear hD;have hR:=hn.cw (S:=fun _=>False) r.bu (mN h_);clear r;obtain⟨s9_0,s9_1,s9_2,s9_3,s9_4,s9_5,s9_6,s9_7,rfl⟩:=hR.shape;conv=>whnf
  intro ρe we re;exact⟨_,rfl,hw.tr re.cC,hR.out re (bs w)⟩
 conv=>whnf
 refine cF hτ dV [.x 0,.x 2,.x 1,.x 3,.x 4,.x 5] (by kernel_rfl) (by kernel_rfl) ?_;conv=>whnf
 refine cE hw (Φ:=fun _ w' v w2=>cR w2 (Nw (fun _=>False) w' w2) v (p)) (fun ρ w' r=>fV (Rel.old r hS) (hp.rel r hS)) ?_;rintro ρ wa3 v3 wb3 iv3 r he hw h_ hn;clear hp;replace hq:=hq.cB r hS he (mC h_);have hX:=hn.cw (S:=fun _=>False) r.bu (mN h_);clear r;obtain⟨s3_0,s3_1,s3_2,s3_3,s3_4,s3_5,s3_6,s3_7,rfl⟩:=hX.shape;conv=>whnf
 refine cE hw (Φ:=fun _ w' v w2=>cR w2 (Nw (fun _=>False) w' w2) v (q)) (fun ρ w' r=>fV (Rel.old r hS) (hq.rel r hS)) ?_;rintro ρ wa4 v4 wb4 iv4 r he hw h_ hn;clear hq;replace hX:=hX.cB r (bs w) he (mC h_);have hY:=hn.cw (S:=fun _=>False) r.bu (mN h_);clear r;obtain⟨s4_0,s4_1,s4_2,s4_3,s4_4,s4_5,s4_6,s4_7,rfl⟩:=hY.shape;conv=>whnf
 have hXn:=hX.num;have hXd:=hX.den;clear hX;have hYn:=hY.num;have hYd:=hY.den;clear hY;have m0:=cS p.num q.den;have m1:=cS q.num p.den;have m2:=cS (p.den:Int) q.den;have m3:=gi (p.num*q.den) (q.num*p.den);have m4:=cS p.num q.num;refine cF hτ dV [.x 0,.x 1,.x 2,.x 3,.x 5,.x 6,.x 7,.x 8,.x 11,.x 12,.x 13,.x 14,.x 4,.x 9,.x 10,.x 15,.x 16,.x 17] (by kernel_rfl) (by kernel_rfl) ?_;conv=>whnf
 refine cE hw (Φ:=fun _ w' v w2=>dC w2 (Nw (fun _=>False) w' w2) v (p.num*(q.den:Int))) (fun ρ w' r=>gJ (Rel.old r (bs w)) ((hXn.rel r (bs w)).l (k:=100000) (by omega)) ((hYd.rel r (bs w)).l (k:=100000) (by omega)) (by omega) (by omega)) ?_;rintro ρ wa5 v5 wb5 iv5 r he hw h_ hn;replace hXn:=hXn.cB r (bs w) he (mC h_);replace hXd:=hXd.cB r (bs w) he (mC h_);replace hYn:=hYn.cB r (bs w) he (mC h_);replace hYd:=hYd.cB r (bs w) he (mC h_);have hA:=hn.cw (S:=fun _=>False) r.bu (mN h_);clear r;obtain⟨s5_0,s5_1,s5_2,s5_3,rfl⟩:=hA.shape;conv=>whnf
 refine cE hw (Φ:=fun _ w' v w2=>dC w2 (Nw (fun _=>False) w' w2) v (q.num*(p.den:Int))) (fun ρ w' r=>gJ (Rel.old r (bs w)) ((hYn.rel r (bs w)).l (k:=100000) (by omega)) ((hXd.rel r (bs w)).l (k:=100000) (by omega)) (by omega) (by omega)) ?_;rintro ρ wa6 v6 wb6 iv6 r he hw h_ hn;replace hXn:=hXn.cB r (bs w) he (mC h_);replace hXd:=hXd.cB r (bs w) he (mC h_);replace hYn:=hYn.cB r (bs w) he (mC h_);replace hYd:=hYd.cB r (bs w) he (mC h_);replace hA:=hA.cB r (bs w) he (mC h_);have hB:=hn.cw (S:=fun _=>False) r.bu (mN h_);clear r;obtain⟨s6_0,s6_1,s6_2,s6_3,rfl⟩:=hB.shape;conv=>whnf
 refine cE hw (Φ:=fun _ w' v w2=>dC w2 (Nw (fun _=>False) w' w2) v (p.num*(q.den:Int)+q.num*(p.den:Int))) (fun ρ w' r=>yE (Rel.old r (bs w)) ((hA.rel r (bs w)).l (k:=200000) (by omega)) ((hB.rel r (bs w)).l (k:=200000) (by omega)) (by omega) (by omega)) ?_;rintro ρ wa7 v7 wb7 iv7 r he hw h_ hn;replace hXn:=hXn.cB r (bs w) he (mC h_);replace hXd:=hXd.cB r (bs w) he (mC h_);replace hYn:=hYn.cB r (bs w) he (mC h_);replace hYd:=hYd.cB r (bs w) he (mC h_);clear hA;clear hB;have hN:=hn.cw (S:=fun _=>False) r.bu (mN h_);clear r;obtain⟨s7_0,s7_1,s7_2,s7_3,rfl⟩:=hN.shape;conv=>whnf
 refine cE hw (Φ:=fun _ w' v w2=>dC w2 (Nw (fun _=>False) w' w2) v ((p.den:Int)*(q.den:Int))) (fun ρ w' r=>gJ (Rel.old r (bs w)) ((hXd.rel r (bs w)).l (k:=100000) (by omega)) ((hYd.rel r (bs w)).l (k:=100000) (by omega)) (by omega) (by omega)) ?_;rintro ρ wa8 v8 wb8 iv8 r he hw h_ hn;replace hXn:=hXn.cB r (bs w) he (mC h_);replace hXd:=hXd.cB r (bs w) he (mC h_);replace hYn:=hYn.cB r (bs w) he (mC h_);replace hYd:=hYd.cB r (bs w) he (mC h_);replace hN:=hN.cB r (bs w) he (mC h_);have hD:=hn.cw (S:=fun _=>False) r.bu (mN h_);clear r;obtain⟨s8_0,s8_1,s8_2,s8_3,rfl⟩:=hD.shape;conv=>whnf
 refine cE hw (Φ:=fun _ w' v w2=>cR w2 (Nw (fun _=>False) w' w2) v (p+q)) (fun ρ w' r=>(qz p q)▸jO (Rel.old r (bs w)) ((hN.rel r (bs w)).l (k:=200001) (by omega)) ((hD.rel r (bs w)).l (k:=200001) (by omega)) (by omega) (by omega) (jG (fO p) (fO q))) ?_;rintro ρ wa9 v9 wb9 iv9 r he hw h_ hn;clear hXn;clear hXd;clear hYn;clear hYd;clear hN;clear hD;have hR:=hn.cw (S:=fun _=>False) r.bu (mN h_);clear r;obtain⟨s9_0,s9_1,s9_2,s9_3,s9_4,s9_5,s9_6,s9_7,rfl⟩:=hR.shape;conv=>whnf
 intro ρe we re;exact⟨_,rfl,hw.tr re.cC,hR.out re (bs w)⟩
theorem Gs{S:Nat->Prop}{w:World}{v u:Value}{p q:Rat}(hS:Old S w)(hp:eG w S v p)(hq:eG w S u q):
  dh PG N.zM #[v,u] w (dw w fun v' w2=>cR w2 (Nw (fun _=>False) w w2) v' (p*q)):=by
 have hw:cN w.heap.size w w:=cN.refl;replace hp:=hp.cG (S':=Cv S w.heap.size []) fun _ h=>.inl h;replace hq:=hq.cG (S':=Cv S w.heap.size []) fun _ h=>.inl h;obtain⟨b1,a1,n1,c1,b2,a2,n2,c2,rfl⟩:=hp.shape;obtain⟨b3,a3,n3,c3,b4,a4,n4,c4,rfl⟩:=hq.shape;refine AQ (by simp) ?_;conv=>whnf
 have r1:=hp.rl;have r2:=hq.rl;have u1:=fF p;have u2:=eQ p;have u3:=fF q;have u4:=eQ q;refine bz (cE hw (Φ:=fun _ w' v w2=>∃n d ok,v= .tuple #[.int .i64 n,.int .i64 d,.bool ok]∧(ok=true->d≠0∧n.natAbs<1073741824∧d.natAbs<1073741824∧Rat.divInt n d=p)) (fun ρ w' r=>vS (Rel.old r hS) (hp.rel r hS)) ?_);rintro ρ wa1 v1 wb1 iv1 r he hw h_ ⟨a,b,k1,rfl,g1⟩;replace hp:=hp.cB r hS he (mC h_);replace hq:=hq.cB r hS he (mC h_);clear r;conv=>whnf
 refine bz (cE hw (Φ:=fun _ w' v w2=>∃n d ok,v= .tuple #[.int .i64 n,.int .i64 d,.bool ok]∧(ok=true->d≠0∧n.natAbs<1073741824∧d.natAbs<1073741824∧Rat.divInt n d=q)) (fun ρ w' r=>vS (Rel.old r hS) (hq.rel r hS)) ?_);rintro ρ wa2 v2 wb2 iv2 r he hw h_ ⟨c,d,k2,rfl,g2⟩;replace hp:=hp.cB r hS he (mC h_);replace hq:=hq.cB r hS he (mC h_);clear r;conv=>whnf
 refine dE.mk (fun h1=>?_) (fun h1=>?_)
 ·conv=>whnf
  refine dE.mk (fun h2=>?_) (fun h2=>?_)
  ·obtain⟨g3,g4,g5,g6⟩:=g1 h1;obtain⟨g7,g8,g9,g10⟩:=g2 h2;have i1:=ic g4 g9;have i2:=ic g8 g5;have i3:=ic g5 g9;have i4:=ic g4 g8;clear hp hq;conv=>whnf
   refine⟨a*c,by rw[wrap64]<;>omega,?_⟩;conv=>whnf
   refine⟨b*d,by rw[wrap64]<;>omega,?_⟩;conv=>whnf
   have e:=Rat.divInt_mul_divInt a c (d₁:=b) (d₂:=d);rw[g6,g10]at e;refine bz (cE hw (Φ:=fun _ w' v w2=>cR w2 (Nw (fun _=>False) w' w2) v (p*q)) (fun ρ w' r=>e▸o7 (a*c) (b*d) w' (by omega) (by omega) (jG g3 g7)) ?_);rintro ρ wa3 v3 wb3 iv3 r he hw h_ hn;have hR:=hn.cw (S:=fun _=>False) r.bu (mN h_);clear r;obtain⟨s3_0,s3_1,s3_2,s3_3,s3_4,s3_5,s3_6,s3_7,rfl⟩:=hR.shape;conv=>whnf
   intro ρe we re;exact⟨_,rfl,hw.tr re.cC,hR.out re (bs w)⟩
  conv=>whnf
  refine cF hτ dV [.x 0,.x 2,.x 1,.x 3,.x 4,.x 5] (by kernel_rfl) (by kernel_rfl) ?_;conv=>whnf
  refine cE hw (Φ:=fun _ w' v w2=>cR w2 (Nw (fun _=>False) w' w2) v (p)) (fun ρ w' r=>fV (Rel.old r hS) (hp.rel r hS)) ?_;rintro ρ wa3 v3 wb3 iv3 r he hw h_ hn;clear hp;replace hq:=hq.cB r hS he (mC h_);have hX:=hn.cw (S:=fun _=>False) r.bu (mN h_);clear r;obtain⟨s3_0,s3_1,s3_2,s3_3,s3_4,s3_5,s3_6,s3_7,rfl⟩:=hX.shape;conv=>whnf
  refine cE hw (Φ:=fun _ w' v w2=>cR w2 (Nw (fun _=>False) w' w2) v (q)) (fun ρ w' r=>fV (Rel.old r hS) (hq.rel r hS)) ?_;rintro ρ wa4 v4 wb4 iv4 r he hw h_ hn;clear hq;replace hX:=hX.cB r (bs w) he (mC h_);have hY:=hn.cw (S:=fun _=>False) r.bu (mN h_);clear r;obtain⟨s4_0,s4_1,s4_2,s4_3,s4_4,s4_5,s4_6,s4_7,rfl⟩:=hY.shape;conv=>whnf
  have hXn:=hX.num;have hXd:=hX.den;clear hX;have hYn:=hY.num;have hYd:=hY.den;clear hY;have m0:=cS p.num q.den;have m1:=cS q.num p.den;have m2:=cS (p.den:Int) q.den;have m3:=gi (p.num*q.den) (q.num*p.den);have m4:=cS p.num q.num;refine cF hτ dV [.x 0,.x 1,.x 2,.x 3,.x 5,.x 6,.x 7,.x 8,.x 4,.x 9,.x 10,.x 11] (by kernel_rfl) (by kernel_rfl) ?_;conv=>whnf
  refine cE hw (Φ:=fun _ w' v w2=>dC w2 (Nw (fun _=>False) w' w2) v (p.num*q.num)) (fun ρ w' r=>gJ (Rel.old r (bs w)) ((hXn.rel r (bs w)).l (k:=100000) (by omega)) ((hYn.rel r (bs w)).l (k:=100000) (by omega)) (by omega) (by omega)) ?_;rintro ρ wa5 v5 wb5 iv5 r he hw h_ hn;replace hXn:=hXn.cB r (bs w) he (mC h_);replace hXd:=hXd.cB r (bs w) he (mC h_);replace hYn:=hYn.cB r (bs w) he (mC h_);replace hYd:=hYd.cB r (bs w) he (mC h_);have hN:=hn.cw (S:=fun _=>False) r.bu (mN h_);clear r;obtain⟨s5_0,s5_1,s5_2,s5_3,rfl⟩:=hN.shape;conv=>whnf
  refine cE hw (Φ:=fun _ w' v w2=>dC w2 (Nw (fun _=>False) w' w2) v ((p.den:Int)*(q.den:Int))) (fun ρ w' r=>gJ (Rel.old r (bs w)) ((hXd.rel r (bs w)).l (k:=100000) (by omega)) ((hYd.rel r (bs w)).l (k:=100000) (by omega)) (by omega) (by omega)) ?_;rintro ρ wa6 v6 wb6 iv6 r he hw h_ hn;replace hXn:=hXn.cB r (bs w) he (mC h_);replace hXd:=hXd.cB r (bs w) he (mC h_);replace hYn:=hYn.cB r (bs w) he (mC h_);replace hYd:=hYd.cB r (bs w) he (mC h_);replace hN:=hN.cB r (bs w) he (mC h_);have hD:=hn.cw (S:=fun _=>False) r.bu (mN h_);clear r;obtain⟨s6_0,s6_1,s6_2,s6_3,rfl⟩:=hD.shape;conv=>whnf
  refine cE hw (Φ:=fun _ w' v w2=>cR w2 (Nw (fun _=>False) w' w2) v (p*q)) (fun ρ w' r=>(vK p q)▸jO (Rel.old r (bs w)) ((hN.rel r (bs w)).l (k:=200001) (by omega)) ((hD.rel r (bs w)).l (k:=200001) (by omega)) (by omega) (by omega) (jG (fO p) (fO q))) ?_;rintro ρ wa7 v7 wb7 iv7 r he hw h_ hn;clear hXn;clear hXd;clear hYn;clear hYd;clear hN;clear hD;have hR:=hn.cw (S:=fun _=>False) r.bu (mN h_);clear r;obtain⟨s7_0,s7_1,s7_2,s7_3,s7_4,s7_5,s7_6,s7_7,rfl⟩:=hR.shape;conv=>whnf
  intro ρe we re;exact⟨_,rfl,hw.tr re.cC,hR.out re (bs w)⟩
 conv=>whnf
 refine cF hτ dV [.x 0,.x 2,.x 1,.x 3,.x 4,.x 5] (by kernel_rfl) (by kernel_rfl) ?_;conv=>whnf
 refine cE hw (Φ:=fun _ w' v w2=>cR w2 (Nw (fun _=>False) w' w2) v (p)) (fun ρ w' r=>fV (Rel.old r hS) (hp.rel r hS)) ?_;rintro ρ wa3 v3 wb3 iv3 r he hw h_ hn;clear hp;replace hq:=hq.cB r hS he (mC h_);have hX:=hn.cw (S:=fun _=>False) r.bu (mN h_);clear r;obtain⟨s3_0,s3_1,s3_2,s3_3,s3_4,s3_5,s3_6,s3_7,rfl⟩:=hX.shape;conv=>whnf
 refine cE hw (Φ:=fun _ w' v w2=>cR w2 (Nw (fun _=>False) w' w2) v (q)) (fun ρ w' r=>fV (Rel.old r hS) (hq.rel r hS)) ?_;rintro ρ wa4 v4 wb4 iv4 r he hw h_ hn;clear hq;replace hX:=hX.cB r (bs w) he (mC h_);have hY:=hn.cw (S:=fun _=>False) r.bu (mN h_);clear r;obtain⟨s4_0,s4_1,s4_2,s4_3,s4_4,s4_5,s4_6,s4_7,rfl⟩:=hY.shape;conv=>whnf
 have hXn:=hX.num;have hXd:=hX.den;clear hX;have hYn:=hY.num;have hYd:=hY.den;clear hY;have m0:=cS p.num q.den;have m1:=cS q.num p.den;have m2:=cS (p.den:Int) q.den;have m3:=gi (p.num*q.den) (q.num*p.den);have m4:=cS p.num q.num;refine cF hτ dV [.x 0,.x 1,.x 2,.x 3,.x 5,.x 6,.x 7,.x 8,.x 4,.x 9,.x 10,.x 11] (by kernel_rfl) (by kernel_rfl) ?_;conv=>whnf
 refine cE hw (Φ:=fun _ w' v w2=>dC w2 (Nw (fun _=>False) w' w2) v (p.num*q.num)) (fun ρ w' r=>gJ (Rel.old r (bs w)) ((hXn.rel r (bs w)).l (k:=100000) (by omega)) ((hYn.rel r (bs w)).l (k:=100000) (by omega)) (by omega) (by omega)) ?_;rintro ρ wa5 v5 wb5 iv5 r he hw h_ hn;replace hXn:=hXn.cB r (bs w) he (mC h_);replace hXd:=hXd.cB r (bs w) he (mC h_);replace hYn:=hYn.cB r (bs w) he (mC h_);replace hYd:=hYd.cB r (bs w) he (mC h_);have hN:=hn.cw (S:=fun _=>False) r.bu (mN h_);clear r;obtain⟨s5_0,s5_1,s5_2,s5_3,rfl⟩:=hN.shape;conv=>whnf
 refine cE hw (Φ:=fun _ w' v w2=>dC w2 (Nw (fun _=>False) w' w2) v ((p.den:Int)*(q.den:Int))) (fun ρ w' r=>gJ (Rel.old r (bs w)) ((hXd.rel r (bs w)).l (k:=100000) (by omega)) ((hYd.rel r (bs w)).l (k:=100000) (by omega)) (by omega) (by omega)) ?_;rintro ρ wa6 v6 wb6 iv6 r he hw h_ hn;replace hXn:=hXn.cB r (bs w) he (mC h_);replace hXd:=hXd.cB r (bs w) he (mC h_);replace hYn:=hYn.cB r (bs w) he (mC h_);replace hYd:=hYd.cB r (bs w) he (mC h_);replace hN:=hN.cB r (bs w) he (mC h_);have hD:=hn.cw (S:=fun _=>False) r.bu (mN h_);clear r;obtain⟨s6_0,s6_1,s6_2,s6_3,rfl⟩:=hD.shape;conv=>whnf
 refine cE hw (Φ:=fun _ w' v w2=>cR w2 (Nw (fun _=>False) w' w2) v (p*q)) (fun ρ w' r=>(vK p q)▸jO (Rel.old r (bs w)) ((hN.rel r (bs w)).l (k:=200001) (by omega)) ((hD.rel r (bs w)).l (k:=200001) (by omega)) (by omega) (by omega) (jG (fO p) (fO q))) ?_;rintro ρ wa7 v7 wb7 iv7 r he hw h_ hn;clear hXn;clear hXd;clear hYn;clear hYd;clear hN;clear hD;have hR:=hn.cw (S:=fun _=>False) r.bu (mN h_);clear r;obtain⟨s7_0,s7_1,s7_2,s7_3,s7_4,s7_5,s7_6,s7_7,rfl⟩:=hR.shape;conv=>whnf
 intro ρe we re;exact⟨_,rfl,hw.tr re.cC,hR.out re (bs w)⟩
theorem GZ{S:Nat->Prop}{w:World}{v:Value}{p:Rat}(hS:Old S w)(hp:eG w S v p):
  dh PG N.zO #[v] w (dw w fun v' w2=>cR w2 (Nw (fun _=>False) w w2) v' (-p)):=by
 have hw:cN w.heap.size w w:=cN.refl;replace hp:=hp.cG (S':=Cv S w.heap.size []) fun _ h=>.inl h;obtain⟨b1,a1,n1,c1,b2,a2,n2,c2,rfl⟩:=hp.shape;refine AV (by simp) ?_;conv=>whnf
 have r1:=hp.rl;have u1:=fF p;have u2:=eQ p;refine bz (cE hw (Φ:=fun _ w' v w2=>cR w2 (Nw (fun _=>False) w' w2) v (p)) (fun ρ w' r=>fV (Rel.old r hS) (hp.rel r hS)) ?_);rintro ρ wa1 v1 wb1 iv1 r he hw h_ hn;clear hp;have hX:=hn.cw (S:=fun _=>False) r.bu (mN h_);clear r;obtain⟨s1_0,s1_1,s1_2,s1_3,s1_4,s1_5,s1_6,s1_7,rfl⟩:=hX.shape;conv=>whnf
 have hXn:=hX.num;have hXd:=hX.den;clear hX;refine cF hτ dV [.x 0,.x 1,.x 3,.x 4,.x 2,.x 5,.x 6] (by kernel_rfl) (by kernel_rfl) ?_;conv=>whnf
 refine cE hw (Φ:=fun _ w' v w2=>dC w2 (Nw (fun _=>False) w' w2) v (-p.num)) (fun ρ w' r=>kE (Rel.old r (bs w)) ((hXn.rel r (bs w)).l (k:=100000) (by omega)) (by omega)) ?_;rintro ρ wa2 v2 wb2 iv2 r he hw h_ hn;clear hXn;replace hXd:=hXd.cB r (bs w) he (mC h_);have hN:=hn.cw (S:=fun _=>False) r.bu (mN h_);clear r;obtain⟨s2_0,s2_1,s2_2,s2_3,rfl⟩:=hN.shape;conv=>whnf
 refine cE hw (Φ:=fun _ w' v w2=>cR w2 (Nw (fun _=>False) w' w2) v (-p)) (fun ρ w' r=>show dh _ _ _ _ (dw _ fun v w2=>cR w2 _ v (-p))from(show Rat.divInt (-p.num) p.den= -p by rw[<-Rat.neg_divInt,Rat.num_divInt_den])▸jO (Rel.old r (bs w)) ((hN.rel r (bs w)).l (k:=100000) (by rw[bp];omega)) ((hXd.rel r (bs w)).l (k:=100000) (by omega)) (by omega) (by omega) (fO p)) ?_;rintro ρ wa3 v3 wb3 iv3 r he hw h_ hn;clear hXd;clear hN;have hR:=hn.cw (S:=fun _=>False) r.bu (mN h_);clear r;obtain⟨s3_0,s3_1,s3_2,s3_3,s3_4,s3_5,s3_6,s3_7,rfl⟩:=hR.shape;conv=>whnf
 intro ρe we re;exact⟨_,rfl,hw.tr re.cC,hR.out re (bs w)⟩
theorem JA{S:Nat->Prop}{w:World}{v u:Value}{p q:Rat}(hS:Old S w)(hp:eG w S v p)(hq:eG w S u q):
  dh PG N.se #[v,u] w (dw w fun v' w2=>(q=0∧v'= .tuple #[yA,.int .i64 9])∨(q≠0∧∃r,v'= .tuple #[r,.int .i64 0]∧cR w2 (Nw (fun _=>False) w w2) r (p / q))):=by
 have hw:cN w.heap.size w w:=cN.refl;replace hp:=hp.cG (S':=Cv S w.heap.size []) fun _ h=>.inl h;replace hq:=hq.cG (S':=Cv S w.heap.size []) fun _ h=>.inl h;obtain⟨b1,a1,n1,c1,b2,a2,n2,c2,rfl⟩:=hp.shape;obtain⟨b3,a3,n3,c3,b4,a4,n4,c4,rfl⟩:=hq.shape;refine AT (by simp) ?_;conv=>whnf
 have r1:=hp.rl;have r2:=hq.rl;have u1:=fF p;have u2:=eQ p;have u3:=fF q;have u4:=eQ q;have m0:=cS p.num q.den;have m1:=cS (p.den:Int) q.num;refine cF hτ dV [.x 0,.x 2,.x 1,.x 3,.x 4,.x 5] (by kernel_rfl) (by kernel_rfl) ?_;conv=>whnf
 refine cE hw (Φ:=fun _ w' v w2=>cR w2 (Nw (fun _=>False) w' w2) v (p)) (fun ρ w' r=>fV (Rel.old r hS) (hp.rel r hS)) ?_;rintro ρ wa1 v1 wb1 iv1 r he hw h_ hn;clear hp;replace hq:=hq.cB r hS he (mC h_);have hX:=hn.cw (S:=fun _=>False) r.bu (mN h_);clear r;obtain⟨s1_0,s1_1,s1_2,s1_3,s1_4,s1_5,s1_6,s1_7,rfl⟩:=hX.shape;conv=>whnf
 refine cE hw (Φ:=fun _ w' v w2=>cR w2 (Nw (fun _=>False) w' w2) v (q)) (fun ρ w' r=>fV (Rel.old r hS) (hq.rel r hS)) ?_;rintro ρ wa2 v2 wb2 iv2 r he hw h_ hn;clear hq;replace hX:=hX.cB r (bs w) he (mC h_);have hY:=hn.cw (S:=fun _=>False) r.bu (mN h_);clear r;obtain⟨s2_0,s2_1,s2_2,s2_3,s2_4,s2_5,s2_6,s2_7,rfl⟩:=hY.shape;conv=>whnf
 refine bz (cE hw (Φ:=fun _ w' v w2=>v= .int .i64 (rs q)) (fun ρ w' r=>Ey (Rel.old r (bs w)) (hY.rel r (bs w))) ?_);rintro ρ wa3 v3 wb3 iv3 r he hw h_ rfl;replace hX:=hX.cB r (bs w) he (mC h_);replace hY:=hY.cB r (bs w) he (mC h_);clear r;conv=>whnf
 refine dE.mk (fun h=>?_) (fun h=>?_)
 ·have h:rs q=0:=by simpa using h
  conv=>whnf
  intro ρe we re;exact⟨_,rfl,hw.tr re.cC,.inl ⟨oY.1 h,rfl⟩⟩
 have h:q≠0:=fun e=>by rw[e]at h;exact absurd h (by decide)
 have hqn:q.num≠0:=fun e=>h (Rat.num_eq_zero.1 e);conv=>whnf
 have hXn:=hX.num;have hXd:=hX.den;clear hX;have hYn:=hY.num;have hYd:=hY.den;clear hY;refine cF hτ dV [.x 0,.x 1,.x 2,.x 3,.x 5,.x 6,.x 7,.x 8,.x 4,.x 9,.x 10,.x 11,.x 12] (by kernel_rfl) (by kernel_rfl) ?_;conv=>whnf
 refine cE hw (Φ:=fun _ w' v w2=>dC w2 (Nw (fun _=>False) w' w2) v (p.num*(q.den:Int))) (fun ρ w' r=>gJ (Rel.old r (bs w)) ((hXn.rel r (bs w)).l (k:=100000) (by omega)) ((hYd.rel r (bs w)).l (k:=100000) (by omega)) (by omega) (by omega)) ?_;rintro ρ wa4 v4 wb4 iv4 r he hw h_ hn;clear hXn;replace hXd:=hXd.cB r (bs w) he (mC h_);replace hYn:=hYn.cB r (bs w) he (mC h_);clear hYd;have hN:=hn.cw (S:=fun _=>False) r.bu (mN h_);clear r;obtain⟨s4_0,s4_1,s4_2,s4_3,rfl⟩:=hN.shape;conv=>whnf
 refine cE hw (Φ:=fun _ w' v w2=>dC w2 (Nw (fun _=>False) w' w2) v ((p.den:Int)*q.num)) (fun ρ w' r=>gJ (Rel.old r (bs w)) ((hXd.rel r (bs w)).l (k:=100000) (by omega)) ((hYn.rel r (bs w)).l (k:=100000) (by omega)) (by omega) (by omega)) ?_;rintro ρ wa5 v5 wb5 iv5 r he hw h_ hn;clear hXd;clear hYn;replace hN:=hN.cB r (bs w) he (mC h_);have hD:=hn.cw (S:=fun _=>False) r.bu (mN h_);clear r;obtain⟨s5_0,s5_1,s5_2,s5_3,rfl⟩:=hD.shape;conv=>whnf
 refine cE hw (Φ:=fun _ w' v w2=>cR w2 (Nw (fun _=>False) w' w2) v (p / q)) (fun ρ w' r=>(AD p q)▸jO (Rel.old r (bs w)) ((hN.rel r (bs w)).l (k:=200001) (by omega)) ((hD.rel r (bs w)).l (k:=200001) (by omega)) (by omega) (by omega) (jG (fO p) hqn)) ?_;rintro ρ wa6 v6 wb6 iv6 r he hw h_ hn;clear hN;clear hD;have hR:=hn.cw (S:=fun _=>False) r.bu (mN h_);clear r;obtain⟨s6_0,s6_1,s6_2,s6_3,s6_4,s6_5,s6_6,s6_7,rfl⟩:=hR.shape;conv=>whnf
 intro ρe we re;exact⟨_,rfl,hw.tr re.cC,.inr ⟨h,_,rfl,hR.out re (bs w)⟩⟩
theorem oG(n:Int)(w:World)(h1n: -9223372036854775808<=n)(h2n:n<=9223372036854775807):
  dh PG N.nS #[.int .i64 n] w (dw w fun v' w2=>cR w2 (Nw (fun _=>False) w w2) v' (n:Rat)):=by
 have hw:cN w.heap.size w w:=cN.refl;have ha:=lZ h1n h2n;refine nf (by simp) ?_;conv=>whnf
 refine bz (cE hw (Φ:=fun _ w' v w2=>dC w2 (Nw (fun _=>False) w' w2) v (n)) (fun ρ w' r=>j6 n w' h1n h2n) ?_);rintro ρ wa1 v1 wb1 iv1 r he hw h_ hn;have hA:=hn.cw (S:=fun _=>False) r.bu (mN h_);clear r;obtain⟨s1_0,s1_1,s1_2,s1_3,rfl⟩:=hA.shape;conv=>whnf
 refine bz (cE hw (Φ:=fun _ w' v w2=>dC w2 (Nw (fun _=>False) w' w2) v (1)) (fun ρ w' r=>j6 1 w' (by decide) (by decide)) ?_);rintro ρ wa2 v2 wb2 iv2 r he hw h_ hn;replace hA:=hA.cB r (bs w) he (mC h_);have hB:=hn.cw (S:=fun _=>False) r.bu (mN h_);clear r;obtain⟨s2_0,s2_1,s2_2,s2_3,rfl⟩:=hB.shape;conv=>whnf
 refine bz (cE hw (Φ:=fun _ w' v w2=>cR w2 (Nw (fun _=>False) w' w2) v ((n:Rat))) (fun ρ w' r=>(yC n)▸jO (Rel.old r (bs w)) ((hA.rel r (bs w)).l (k:=2) (by omega)) ((hB.rel r (bs w)).l (k:=2) (by decide)) (by omega) (by omega) (by decide)) ?_);rintro ρ wa3 v3 wb3 iv3 r he hw h_ hn;clear hA;clear hB;have hR:=hn.cw (S:=fun _=>False) r.bu (mN h_);clear r;obtain⟨s3_0,s3_1,s3_2,s3_3,s3_4,s3_5,s3_6,s3_7,rfl⟩:=hR.shape;conv=>whnf
 intro ρe we re;exact⟨_,rfl,hw.tr re.cC,hR.out re (bs w)⟩
theorem GU(a b:Int)(w:World)(h1a: -9223372036854775808<=a)(h2a:a<=9223372036854775807)(h1b: -9223372036854775808<=b)(h2b:b<=9223372036854775807):
  dh PG N.tm #[.int .i64 a,.int .i64 b] w (dw w fun v' w2=>(b=0∧v'= .tuple #[yA,.int .i64 9])∨(b≠0∧∃q,v'= .tuple #[q,.int .i64 0]∧cR w2 (Nw (fun _=>False) w w2) q (Rat.divInt a b))):=by
 have hw:cN w.heap.size w w:=cN.refl;have ha:=lZ h1a h2a;have hb':=lZ h1b h2b;refine xS (by simp) ?_;conv=>whnf
 refine dE.mk (fun h=>?_) (fun h=>?_)
 ·have h:b=0:=by simpa using h
  conv=>whnf
  intro ρe we re;exact⟨_,rfl,hw.tr re.cC,.inl ⟨h,rfl⟩⟩
 have h:b≠0:=by simpa using h
 conv=>whnf
 refine bz (cE hw (Φ:=fun _ w' v w2=>dC w2 (Nw (fun _=>False) w' w2) v (a)) (fun ρ w' r=>j6 a w' h1a h2a) ?_);rintro ρ wa1 v1 wb1 iv1 r he hw h_ hn;have hA:=hn.cw (S:=fun _=>False) r.bu (mN h_);clear r;obtain⟨s1_0,s1_1,s1_2,s1_3,rfl⟩:=hA.shape;conv=>whnf
 refine bz (cE hw (Φ:=fun _ w' v w2=>dC w2 (Nw (fun _=>False) w' w2) v (b)) (fun ρ w' r=>j6 b w' h1b h2b) ?_);rintro ρ wa2 v2 wb2 iv2 r he hw h_ hn;replace hA:=hA.cB r (bs w) he (mC h_);have hB:=hn.cw (S:=fun _=>False) r.bu (mN h_);clear r;obtain⟨s2_0,s2_1,s2_2,s2_3,rfl⟩:=hB.shape;conv=>whnf
 refine bz (cE hw (Φ:=fun _ w' v w2=>cR w2 (Nw (fun _=>False) w' w2) v (Rat.divInt a b)) (fun ρ w' r=>jO (Rel.old r (bs w)) ((hA.rel r (bs w)).l (k:=2) (by omega)) ((hB.rel r (bs w)).l (k:=2) (by omega)) (by omega) (by omega) h) ?_);rintro ρ wa3 v3 wb3 iv3 r he hw h_ hn;clear hA;clear hB;have hR:=hn.cw (S:=fun _=>False) r.bu (mN h_);clear r;obtain⟨s3_0,s3_1,s3_2,s3_3,s3_4,s3_5,s3_6,s3_7,rfl⟩:=hR.shape;conv=>whnf
 intro ρe we re;exact⟨_,rfl,hw.tr re.cC,.inr ⟨h,_,rfl,hR.out re (bs w)⟩⟩
section
variable{S S':Nat->Prop}{H:Hp}{nx:Nat}{iv iv':Iv}{B:Nat}{w w' w2:World}{ρ:Nat->Sx.dc}{v:Value}{a:Int}{b:Int}
end
theorem ie.short{S:Nat->Prop}{w:World}{b:Bool}{a:Option Addr}{n c k:Nat}{z:Int}(h:ie w S (.agg #[.bool b,.slice a n c]) z)(hk:n<=k):ed w S (.agg #[.bool b,.slice a n c]) k z:=by
 obtain⟨b2,ls,⟨lv,e1,h3⟩,h2⟩:=h;obtain⟨a2,c2,e2,_⟩:=h3.sl;subst e2;simp only[Value.agg.injEq,Array.mk.injEq,List.cons.injEq,Value.bool.injEq,Value.slice.injEq,and_true]at e1;obtain⟨rfl,rfl,e3,rfl⟩:=e1;exact⟨_,ls,⟨_,by rw[e3],h3⟩,h2,by omega⟩
def k7(w:World)(S:Nat->Prop)(cs:List Value)(q:Rat):Prop:=∃b a n c b2 a2 n2 c2,cs=[.bool b,.slice a n c,.bool b2,.slice a2 n2 c2]∧eG w S (.agg #[.bool b,.slice a n c,.bool b2,.slice a2 n2 c2]) q
abbrev dY:=dx k7
abbrev dm:=cT dY
section
variable{S S':Nat->Prop}{H:Hp}{nx:Nat}{iv iv':Iv}{B:Nat}{w w' w2:World}{ρ:Nat->Sx.dc}{v:Value}{qs:List Rat}{cs:List Value}{q:Rat}
theorem k7.cD(h:k7 w S cs q)(hk:∀g,S g->w2.heap[g]? =w.heap[g]?):k7 w2 S cs q:=by
 obtain⟨b,a,n,c,b2,a2,n2,c2,h1,h2⟩:=h;exact⟨b,a,n,c,b2,a2,n2,c2,h1,h2.cD hk⟩
theorem k7.cG(h:k7 w S cs q)(hk:∀g,S g->S' g):k7 w S' cs q:=by
 obtain⟨b,a,n,c,b2,a2,n2,c2,h1,h2⟩:=h;exact⟨b,a,n,c,b2,a2,n2,c2,h1,h2.cG hk⟩
theorem dY.cD(h:dY w S v qs)(hk:∀g,S g->w2.heap[g]? =w.heap[g]?):dY w2 S v qs:=by
 obtain⟨css,h1,h2,h3,h4⟩:=h;exact⟨css,h1.cD hk,h2,h3,fun j cs x k1 k2=>(h4 j cs x k1 k2).cD hk⟩
theorem dY.cG(h:dY w S v qs)(hk:∀g,S g->S' g):dY w S' v qs:=by
 obtain⟨css,h1,h2,h3,h4⟩:=h;exact⟨css,h1.cG hk,h2,h3,fun j cs x k1 k2=>(h4 j cs x k1 k2).cG hk⟩
theorem dm.cD{M:List (List Rat)}(h:dm w S v M)(hk:∀g,S g->w2.heap[g]? =w.heap[g]?):dm w2 S v M:=by
 obtain⟨rv,h1,h2,h3⟩:=h;exact⟨rv,h1.cD hk,h2,fun i u x k1 k2=>dY.cD (h3 i u x k1 k2) hk⟩
theorem dm.cG{M:List (List Rat)}(h:dm w S v M)(hk:∀g,S g->S' g):dm w S' v M:=by
 obtain⟨rv,h1,h2,h3⟩:=h;exact⟨rv,h1.cG hk,h2,fun i u x k1 k2=>dY.cG (h3 i u x k1 k2) hk⟩
end
section
variable{S S':Nat->Prop}{H:Hp}{nx:Nat}{iv iv':Iv}{B:Nat}{w w' w2:World}{ρ:Nat->Sx.dc}{v:Value}{qs:List Rat}
theorem dY.rel(h:dY w (Cv S B iv) v qs)(r:Rel H nx iv B w ρ w')(hS:∀g,S g->g<B):dY w' (Cv S B iv) v qs:=dY.cD h fun _ hg=>Rel.same r hS hg
theorem dY.cB(h:dY w (Cv S B iv) v qs)(r:Rel H nx iv B w ρ w')(hS:∀g,S g->g<B)(he:Ext w' w2)(hm:∀p,p∈iv->p∈iv'):dY w2 (Cv S B iv') v qs:=
 dY.cG (dY.cD (dY.rel h r hS) fun g hg=>he.block g (Rel.old r hS g hg)) fun _ hg=>hg.mono hm
theorem dY.old(h:dY w2 (Nw (Cv S B iv) w' w2) v qs)(hB:B<=w'.heap.size):dY w2 (Cv S B ((w'.heap.size,w2.heap.size)::iv)) v qs:=dY.cG h fun _ hg=>Nw.cv hg hB
theorem dY.out{w0 w1:World}(h:dY w1 (Cv S w0.heap.size iv) v qs)(r:Rel H nx iv w0.heap.size w1 ρ w')(hS:Old S w0):dY w' (Nw S w0 w') v qs:=
 dY.cG (dY.rel h r hS) fun _ hg=>Cv.nw hg r
end
section
variable{S S':Nat->Prop}{H:Hp}{nx:Nat}{iv iv':Iv}{B:Nat}{w w' w2:World}{ρ:Nat->Sx.dc}{v:Value}{M:List (List Rat)}
theorem dm.rel(h:dm w (Cv S B iv) v M)(r:Rel H nx iv B w ρ w')(hS:∀g,S g->g<B):dm w' (Cv S B iv) v M:=dm.cD h fun _ hg=>Rel.same r hS hg
theorem dm.cB(h:dm w (Cv S B iv) v M)(r:Rel H nx iv B w ρ w')(hS:∀g,S g->g<B)(he:Ext w' w2)(hm:∀p,p∈iv->p∈iv'):dm w2 (Cv S B iv') v M:=
 dm.cG (dm.cD (dm.rel h r hS) fun g hg=>he.block g (Rel.old r hS g hg)) fun _ hg=>hg.mono hm
theorem dm.old(h:dm w2 (Nw (Cv S B iv) w' w2) v M)(hB:B<=w'.heap.size):dm w2 (Cv S B ((w'.heap.size,w2.heap.size)::iv)) v M:=dm.cG h fun _ hg=>Nw.cv hg hB
theorem dm.arg(h:dm w S v M)(iv:Iv):dm w (Cv S w.heap.size iv) v M:=dm.cG h fun _ h=>.inl h
end
def yi(w:World)(S:Nat->Prop)(css:List (List Value))(qs:List Rat):Prop:=∀(j:Nat) cs q,css[j]? =some cs->qs[j]? =some q->gU w S cs q
section
variable{S S':Nat->Prop}{H:Hp}{nx:Nat}{iv iv':Iv}{B:Nat}{w w' w2:World}{ρ:Nat->Sx.dc}{css:List (List Value)}{qs:List Rat}
theorem yi.rel(h:yi w (Cv S B iv) css qs)(r:Rel H nx iv B w ρ w')(hS:∀g,S g->g<B):yi w' (Cv S B iv) css qs:=fun j cs q h1 h2=>(h j cs q h1 h2).cD fun _ hg=>Rel.same r hS hg
theorem yi.cB(h:yi w (Cv S B iv) css qs)(r:Rel H nx iv B w ρ w')(hS:∀g,S g->g<B)(he:Ext w' w2)(hm:∀p,p∈iv->p∈iv'):yi w2 (Cv S B iv') css qs:=fun j cs q h1 h2=>
 (((h.rel r hS) j cs q h1 h2).cD fun g hg=>he.block g (Rel.old r hS g hg)).cG fun _ hg=>hg.mono hm
theorem yi.push{cs:List Value}{q:Rat}(h:yi w S css qs)(hq:qs[css.length]? =some q)(hc:gU w S cs q):yi w S (css++[cs]) qs:=fun j cs' q' h1 h2=>by
 rcases aV j css.length with hj|hj
 ·rw[aL hj]at h1;exact h j cs' q' h1 h2
 ·have hj0:j=css.length:=by have:=(aE.1 h1).1;simp at this;omega
  subst hj0;rw[aQ (aG _),bI]at h1;simp at h1;rw[hq]at h2;injection h2 with h2;subst h1 h2;exact hc
end
theorem yG{css:List (List Value)}{cs:List Value}(h:∀x∈css,x.length=4∧∀u∈x,u.oneCell'=true)(hc:cs.length=4∧∀u∈cs,u.oneCell'=true):∀x∈css++[cs],x.length=4∧∀u∈x,u.oneCell'=true:=fun x hx=>by
 rcases bR.1 hx with hx|hx
 ·exact h x hx
 ·simp at hx;subst hx;exact hc
def k9(xs ys:List Rat)(b:Rat):List Rat:=(List.range ys.length).map fun j=>if 0<xs.length then xs.getD j 0+ys.getD j 0*b else ys.getD j 0*b
theorem mX(xs ys:List Rat)(b:Rat):(k9 xs ys b).length=ys.length:=by simp[k9]
theorem tR{xs ys:List Rat}{b:Rat}{j:Nat}(h:j<ys.length):(k9 xs ys b)[j]? =some (if 0<xs.length then xs.getD j 0+ys.getD j 0*b else ys.getD j 0*b):=by
 rw[k9,aO,List.getElem?_range h];rfl
theorem Dn{S:Nat->Prop}{w:World}{v u t:Value}{xs ys:List Rat}{b:Rat}(hS:Old S w)(hx:dY w S v xs)(hy:dY w S u ys)(hb:eG w S t b)(hlen:xs=[]∨xs.length=ys.length)(hn:ys.length<=1000000)(hbound:∀y∈ys,rl y+rl b<=100000):
  dh PG N.xA #[v,u,t] w (dw w fun v' w2=>cP w2 (Nw (fun _=>False) w w2) v' (k9 xs ys b)):=by
 have hw:cN w.heap.size w w:=cN.refl;obtain⟨ax,cx,rfl,hcx,hmx⟩:=dx.shape hx;obtain⟨ay,cy,rfl,hcy,hmy⟩:=dx.shape hy;obtain⟨t0,t1,t2,t3,t4,t5,t6,t7,rfl⟩:=hb.shape;have hpl:=mX xs ys b;refine yU (by simp) ?_;conv=>whnf
 refine⟨List (List Value)×World×Iv,fun z=>⟨[(0,.o (.v (.slice ax xs.length cx))),(1,.o (.v (.slice ay ys.length cy))),(5,.o (.p 0 0)),(7,.o (.w 1 z.1.length)),(8,.o (.v (.int .i64 z.1.length)))],[(1,.vec T.Rat 4 z.1.flatten),(0,.box T.Rat [.v (.bool t0),.v (.slice t1 t2 t3),.v (.bool t4),.v (.slice t5 t6 t7)])],2,z.2.2,z.2.1⟩,fun z=>ys.length-z.1.length,
  fun z=>z.1.length<=ys.length∧cN w.heap.size w z.2.1∧(∀x∈z.1,x.length=4∧∀u∈x,u.oneCell'=true)∧yi z.2.1 (Cv (fun _=>False) w.heap.size z.2.2) z.1 (k9 xs ys b),?_,?_⟩
 ·intro ρ w' r
  exact⟨([],w',[]),⟨by simp,r.cC,by simp,fun j cs q h=>by simp at h⟩,Sub.nil 7 T.Rat 4 rfl (by simp[cV,SV.sc,At.sc,cQ]) r fun ρ1 r1=>
   Sub.gen [] r1 ⟨rfl,rfl,trivial⟩ ⟨rfl,rfl,rfl,rfl,rfl,trivial⟩ (by simp[dG,cW.scopd,At.sc]) (by simp[cV,SV.sc,At.sc]) (by rfl) (by simp)⟩
 clear hw;rintro⟨css,w1,iv⟩ ⟨hi,hw,h4,hat⟩;dsimp only at hi hw h4 hat ⊢;have hfl:=eX fun x hx=>(h4 x hx).1;conv=>whnf
 refine dE.mk (fun hib=>?_) (fun hib=>?_)
 ·have hib:css.length<ys.length:=by simpa using hib
  obtain⟨y,hyi⟩:∃y,ys[css.length]? =some y:=⟨_,aB hib⟩
  obtain⟨ady,csy,hay,hFy,_,hly⟩:=dx.load hy hyi;obtain⟨p0,p1,p2,p3,p4,p5,p6,p7,rfl,hFy⟩:=hFy;have hyd:ys.getD css.length 0=y:=by rw[List.getD,hyi];rfl
  have hpq:=tR (xs:=xs) (b:=b) hib;rw[hyd]at hpq;have hbd:=hbound y (aF hyi);have hrm:=s7 y b;conv=>whnf
  refine dE.mk (fun hx0=>?_) (fun hx0=>?_)
  ·have hx0:0<xs.length:=by have:=aI hx0;omega
   have hxl:css.length<xs.length:=hlen.elim (fun h=>by rw[h]at hx0;simp at hx0) (fun h=>by omega);obtain⟨x,hxi⟩:∃x,xs[css.length]? =some x:=⟨_,aB hxl⟩
   obtain⟨adx,csx,hax,hFx,_,hlx⟩:=dx.load hx hxi;obtain⟨q0,q1,q2,q3,q4,q5,q6,q7,rfl,hFx⟩:=hFx;have hxd:xs.getD css.length 0=x:=by rw[List.getD,hxi];rfl
   rw[if_pos hx0,hxd]at hpq;conv=>whnf
   refine⟨ady,hay,⟨by omega,by omega⟩,?_⟩;conv=>whnf
   refine⟨[.bool p0,.slice p1 p2 p3,.bool p4,.slice p5 p6 p7],rfl,fun ρ w' r i x hx=>?_,?_⟩
   ·obtain⟨k1,k2⟩:=hly i x hx;rw[aC,bw (w:=w) (w2:=w') (by rw[cL,cL];exact(hw.tr r.cC).block _ (hS _ k1))];exact k2
   conv=>whnf
   refine bz (cE hw (Φ:=fun _ w' v w2=>v= .int .i64 (rs y)) (fun ρ w' r=>qR (fun g hg=>by have:=hS g hg;have:=r.bu;omega) (hFy.cD fun g hg=>(hw.tr r.cC).block g (hS g hg))) ?_);rintro ρ wa1 v1 wb1 iv1 r he hw h_ rfl;replace hat:=hat.cB r (bs w) he (mC h_);clear r;conv=>whnf
   refine dE.mk (fun hs=>?_) (fun hs=>?_)
   ·have hs:y=0:=oY.1 (by simpa using hs);rw[hs,bS,Rat.add_zero]at hpq;conv=>whnf
    refine⟨adx,hax,⟨by omega,by omega⟩,?_⟩;conv=>whnf
    refine⟨[.bool q0,.slice q1 q2 q3,.bool q4,.slice q5 q6 q7],rfl,fun ρ w' r i x hx=>?_,?_⟩
    ·obtain⟨k1,k2⟩:=hlx i x hx;rw[aC,bw (w:=w) (w2:=w') (by rw[cL,cL];exact(hw.tr r.cC).block _ (hS _ k1))];exact k2
    conv=>whnf
    refine bz (cE hw (Φ:=fun _ w' v w2=>cR w2 (Nw (fun _=>False) w' w2) v (x)) (fun ρ w' r=>fV (fun g hg=>by have:=hS g hg;have:=r.bu;omega) (hFx.cD fun g hg=>(hw.tr r.cC).block g (hS g hg))) ?_);rintro ρ wa2 v2 wb2 iv2 r he hw h_ hn;replace hat:=hat.cB r (bs w) he (mC h_);have hv1:=hn.cw (S:=fun _=>False) r.bu (mN h_);clear r hn;obtain⟨s2_0,s2_1,s2_2,s2_3,s2_4,s2_5,s2_6,s2_7,rfl⟩:=hv1.shape;conv=>whnf
    refine .inl ?_;conv=>whnf
    refine⟨hfl,by omega,by unfold maxLen;omega,?_⟩;conv=>whnf
    refine⟨((css.length+1:Nat):Int),by rw[wrap64]<;>omega,?_⟩;conv=>whnf
    intro ρ3 w3 r3;have hl3:(css++[[Value.bool s2_0,.slice s2_1 s2_2 s2_3,.bool s2_4,.slice s2_5 s2_6 s2_7]]).length=css.length+1:=by simp
    have hf3:(css++[[Value.bool s2_0,.slice s2_1 s2_2 s2_3,.bool s2_4,.slice s2_5 s2_6 s2_7]]).flatten=css.flatten++[Value.bool s2_0,.slice s2_1 s2_2 s2_3,.bool s2_4,.slice s2_5 s2_6 s2_7]:=by simp
    exact⟨(css++[[.bool s2_0,.slice s2_1 s2_2 s2_3,.bool s2_4,.slice s2_5 s2_6 s2_7]],w3,_),⟨by dsimp only;rw[hl3];exact hib,hw.tr r3.cC,yG h4 ⟨rfl,by intro u hu;simp at hu;rcases hu with rfl|rfl|rfl|rfl<;>rfl⟩,(hat.rel r3 (bs w)).push hpq (hv1.rel r3 (bs w)).oC⟩,
     Sub.gen [(1,3)] r3 ⟨by dsimp only;rw[hf3];rfl,rfl,trivial⟩ ⟨rfl,rfl,rfl,by dsimp only;rw[hl3];rfl,by dsimp only;rw[hl3];rfl,trivial⟩ (by simp[dG,cW.scopd,At.sc]) (by simp[cV,SV.sc,At.sc]) (by rfl) (fun lo hi h=>h),by dsimp only;rw[hl3];omega⟩
   conv=>whnf
   refine cF hτ dV [.x 0,.x 1,.x 2,.x 3,.x 4,.p 6,.x 5,.x 6,.x 7] (by kernel_rfl) (by kernel_rfl) ?_;conv=>whnf
   refine⟨ady,hay,⟨by omega,by omega⟩,?_⟩;conv=>whnf
   refine⟨[.bool p0,.slice p1 p2 p3,.bool p4,.slice p5 p6 p7],rfl,fun ρ w' r i x hx=>?_,?_⟩
   ·obtain⟨k1,k2⟩:=hly i x hx;rw[aC,bw (w:=w) (w2:=w') (by rw[cL,cL];exact(hw.tr r.cC).block _ (hS _ k1))];exact k2
   conv=>whnf
   refine cE hw (Φ:=fun _ w' v w2=>cR w2 (Nw (fun _=>False) w' w2) v (y*b)) (fun ρ w' r=>Gs (fun g hg=>by have:=hS g hg;have:=r.bu;omega) (hFy.cD fun g hg=>(hw.tr r.cC).block g (hS g hg)) (hb.cD fun g hg=>(hw.tr r.cC).block g (hS g hg))) ?_;rintro ρ wa2 v2 wb2 iv2 r he hw h_ hn;replace hat:=hat.cB r (bs w) he (mC h_);have hm:=hn.cw (S:=fun _=>False) r.bu (mN h_);clear r hn;obtain⟨s2_0,s2_1,s2_2,s2_3,s2_4,s2_5,s2_6,s2_7,rfl⟩:=hm.shape;conv=>whnf
   refine dE.mk (fun hx1=>?_) (fun hx1=>absurd hx0 (by have:=aH hx1;omega));conv=>whnf
   refine cF hτ dV [.x 0,.x 1,.x 2,.x 3,.x 4,.x 5,.x 6] (by kernel_rfl) (by kernel_rfl) ?_;conv=>whnf
   refine⟨adx,hax,⟨by omega,by omega⟩,?_⟩;conv=>whnf
   refine⟨[.bool q0,.slice q1 q2 q3,.bool q4,.slice q5 q6 q7],rfl,fun ρ w' r i x hx=>?_,?_⟩
   ·obtain⟨k1,k2⟩:=hlx i x hx;rw[aC,bw (w:=w) (w2:=w') (by rw[cL,cL];exact(hw.tr r.cC).block _ (hS _ k1))];exact k2
   conv=>whnf
   refine cE hw (Φ:=fun _ w' v w2=>cR w2 (Nw (fun _=>False) w' w2) v (x+y*b)) (fun ρ w' r=>Iz (Rel.old r hS) ((hFx.cD fun g hg=>(hw.tr r.cC).block g (hS g hg)).cG fun g hg=>Or.inl hg) (((hm.rel r (bs w)).l (by omega)).cG fun g hg=>Cv.false hg)) ?_;rintro ρ wa3 v3 wb3 iv3 r he hw h_ hn;replace hat:=hat.cB r (bs w) he (mC h_);clear hm;have hv1:=hn.cw (S:=fun _=>False) r.bu (mN h_);clear r hn;obtain⟨s3_0,s3_1,s3_2,s3_3,s3_4,s3_5,s3_6,s3_7,rfl⟩:=hv1.shape;conv=>whnf
   refine .inl ?_;conv=>whnf
   refine⟨hfl,by omega,by unfold maxLen;omega,?_⟩;conv=>whnf
   refine⟨((css.length+1:Nat):Int),by rw[wrap64]<;>omega,?_⟩;conv=>whnf
   intro ρ3 w3 r3;have hl3:(css++[[Value.bool s3_0,.slice s3_1 s3_2 s3_3,.bool s3_4,.slice s3_5 s3_6 s3_7]]).length=css.length+1:=by simp
   have hf3:(css++[[Value.bool s3_0,.slice s3_1 s3_2 s3_3,.bool s3_4,.slice s3_5 s3_6 s3_7]]).flatten=css.flatten++[Value.bool s3_0,.slice s3_1 s3_2 s3_3,.bool s3_4,.slice s3_5 s3_6 s3_7]:=by simp
   exact⟨(css++[[.bool s3_0,.slice s3_1 s3_2 s3_3,.bool s3_4,.slice s3_5 s3_6 s3_7]],w3,_),⟨by dsimp only;rw[hl3];exact hib,hw.tr r3.cC,yG h4 ⟨rfl,by intro u hu;simp at hu;rcases hu with rfl|rfl|rfl|rfl<;>rfl⟩,(hat.rel r3 (bs w)).push hpq (hv1.rel r3 (bs w)).oC⟩,
    Sub.gen [(1,4)] r3 ⟨by dsimp only;rw[hf3];rfl,rfl,trivial⟩ ⟨rfl,rfl,rfl,by dsimp only;rw[hl3];rfl,by dsimp only;rw[hl3];rfl,trivial⟩ (by simp[dG,cW.scopd,At.sc]) (by simp[cV,SV.sc,At.sc]) (by rfl) (fun lo hi h=>h),by dsimp only;rw[hl3];omega⟩
  have hx0:¬0<xs.length:=by have:=aH hx0;omega
  rw[aK hx0]at hpq;conv=>whnf
  refine cF hτ dV [.x 0,.x 1,.x 2,.x 3,.x 4,.p 6,.x 5,.x 6,.x 7] (by kernel_rfl) (by kernel_rfl) ?_;conv=>whnf
  refine⟨ady,hay,⟨by omega,by omega⟩,?_⟩;conv=>whnf
  refine⟨[.bool p0,.slice p1 p2 p3,.bool p4,.slice p5 p6 p7],rfl,fun ρ w' r i x hx=>?_,?_⟩
  ·obtain⟨k1,k2⟩:=hly i x hx;rw[aC,bw (w:=w) (w2:=w') (by rw[cL,cL];exact(hw.tr r.cC).block _ (hS _ k1))];exact k2
  conv=>whnf
  refine cE hw (Φ:=fun _ w' v w2=>cR w2 (Nw (fun _=>False) w' w2) v (y*b)) (fun ρ w' r=>Gs (fun g hg=>by have:=hS g hg;have:=r.bu;omega) (hFy.cD fun g hg=>(hw.tr r.cC).block g (hS g hg)) (hb.cD fun g hg=>(hw.tr r.cC).block g (hS g hg))) ?_;rintro ρ wa1 v1 wb1 iv1 r he hw h_ hn;replace hat:=hat.cB r (bs w) he (mC h_);have hm:=hn.cw (S:=fun _=>False) r.bu (mN h_);clear r hn;obtain⟨s1_0,s1_1,s1_2,s1_3,s1_4,s1_5,s1_6,s1_7,rfl⟩:=hm.shape;conv=>whnf
  refine dE.mk (fun hx1=>absurd (aI hx1) (by omega)) (fun hx1=>?_);conv=>whnf
  refine .inl ?_;conv=>whnf
  refine⟨hfl,by omega,by unfold maxLen;omega,?_⟩;conv=>whnf
  refine⟨((css.length+1:Nat):Int),by rw[wrap64]<;>omega,?_⟩;conv=>whnf
  intro ρ3 w3 r3;have hl3:(css++[[Value.bool s1_0,.slice s1_1 s1_2 s1_3,.bool s1_4,.slice s1_5 s1_6 s1_7]]).length=css.length+1:=by simp
  have hf3:(css++[[Value.bool s1_0,.slice s1_1 s1_2 s1_3,.bool s1_4,.slice s1_5 s1_6 s1_7]]).flatten=css.flatten++[Value.bool s1_0,.slice s1_1 s1_2 s1_3,.bool s1_4,.slice s1_5 s1_6 s1_7]:=by simp
  exact⟨(css++[[.bool s1_0,.slice s1_1 s1_2 s1_3,.bool s1_4,.slice s1_5 s1_6 s1_7]],w3,_),⟨by dsimp only;rw[hl3];exact hib,hw.tr r3.cC,yG h4 ⟨rfl,by intro u hu;simp at hu;rcases hu with rfl|rfl|rfl|rfl<;>rfl⟩,(hat.rel r3 (bs w)).push hpq (hm.rel r3 (bs w)).oC⟩,
   Sub.gen [(1,4)] r3 ⟨by dsimp only;rw[hf3];rfl,rfl,trivial⟩ ⟨rfl,rfl,rfl,by dsimp only;rw[hl3];rfl,by dsimp only;rw[hl3];rfl,trivial⟩ (by simp[dG,cW.scopd,At.sc]) (by simp[cV,SV.sc,At.sc]) (by rfl) (fun lo hi h=>h),by dsimp only;rw[hl3];omega⟩
 have hib:css.length=ys.length:=aP hi (by simpa using hib);conv=>whnf
 intro ρe we re;refine⟨_,rfl,hw.tr re.cC,css,?_,by rw[hpl];exact hib,fun cs hc=>(h4 cs hc).1,fun j cs q k1 k2=>((hat j cs q k1 k2).cD fun g hg=>Rel.same re (bs w) hg).cG fun g hg=>Cv.nw hg re⟩
 have:=re.gR (id:=1) (sz:=4) (m:=css.length) rfl hfl (by unfold maxLen;omega) (by decide) (fun u hu=>by
  obtain⟨cs,hc,hu⟩:=List.mem_flatten.1 hu
  exact(h4 cs hc).2 u hu)
 rw[hpl,<-hib];exact this.cG fun g hg=>.inr hg
end Go.Ex
namespace Go.Ex
theorem wE{M:List (List Rat)}{c r k R:Nat}(hk:r<=k)(hR:k<=R)(h:∀j,r<=j->j<k->di M j c=0):gS M c (R-r) r=gS M c (R-k) k:=by
 induction k with
 |zero=>
  have:r=0:=by omega
  subst this;rfl
 |succ k ih=>
  rcases aV k r with h1|h1
  ·have:r=k+1:=by omega
   subst this;rfl
  ·rw[ih h1 (by omega) fun j h2 h3=>h j h2 (by omega),show R-k=(R-(k+1))+1 by omega,C5 (h k h1 (by omega))]
theorem AA{M:List (List Rat)}{a c i:Nat}{r:List Rat}(h:M[i]? =some r)(h0:r.getD c 0=0):dO M a c (i+1)=dO M a c i:=by
 unfold dO;refine bF fun j=>?_;rw[List.getElem?_mapIdx,List.getElem?_mapIdx];by_cases hj:j=i
 ·subst hj;rw[h];simp only[Option.map_some]
  by_cases ha:j=a
  ·rw[aK (by omega),aK (by omega)]
  ·rw[if_pos ⟨by omega,ha⟩,aK (by omega),h0];congr 1;refine bF fun k=>?_;rw[List.getElem?_mapIdx]
   cases r[k]? with
   |none=>rfl
   |some q=>simp[p8,Rat.add_zero]
 ·cases M[j]? with
  |none=>rfl
  |some r'=>
   simp only[Option.map_some]
   by_cases h2:j<i∧j≠a
   ·rw[if_pos ⟨by omega,h2.2⟩,if_pos h2]
   ·rw[aK (by omega),aK h2]
theorem fG{α:Type}{l:List α}{i:Nat}{x:α}(h:i<l.length):l.take i++[x]++l.drop (i+1)=l.set i x:=by
 rw[List.set_eq_take_append_cons_drop,if_pos h];simp
theorem wF{s:List (List Rat)×List Nat}{c:Nat}(h:¬s.2.length<s.1.length∨gS s.1 c (s.1.length-s.2.length) s.2.length=s.1.length):dP s c=s:=by
 unfold dP;split
 ·rcases h with h|h
  ·exact absurd ‹_› h
  ·dsimp only;rw[if_pos h]
 ·rfl
theorem wG{s:List (List Rat)×List Nat}{c k:Nat}(hk:s.2.length<=k)(hl:k<s.1.length)(h:∀j,s.2.length<=j->j<k->di s.1 j c=0)(hn:di s.1 k c≠0):
  dP s c=(dO (scaled (e9 [] s.1 s.2.length k) s.2.length c) s.2.length c s.1.length,s.2++[c]):=by
 have e:gS s.1 c (s.1.length-s.2.length) s.2.length=k:=by
  rw[wE hk (by omega) h,show s.1.length-k=(s.1.length-k-1)+1 by omega,C6 hn]
 unfold dP;rw[if_pos (by omega)];dsimp only
 rw[e,aK (by omega),ov,il]
theorem EP{s:List (List Rat)×List Nat}{c k:Nat}(hk:s.2.length<=k)(hl:k=s.1.length)(h:∀j,s.2.length<=j->j<k->di s.1 j c=0):dP s c=s:=by
 refine wF (.inr ?_);rw[wE hk (by omega) h,hl,bI];rfl
end Go.Ex
namespace Go.Ex
open Go Go.Sx Go.Proofs
theorem Em(ys:List Rat)(b:Rat):k9 [] ys b=ys.map (· *b):=by
 refine bF fun j=>?_;rcases aV j ys.length with h|h
 ·rw[tR h,aK (by simp),aO,List.getD,aB h];rfl
 ·rw[List.getElem?_eq_none (by rw[mX];exact h),List.getElem?_eq_none (by simp;exact h)]
theorem DD{xs ys:List Rat}(b:Rat)(h:xs.length=ys.length):k9 xs ys b=xs.mapIdx (p8 b ys):=by
 refine bF fun j=>?_;rw[List.getElem?_mapIdx];rcases aV j ys.length with h1|h1
 ·rw[tR h1,if_pos (by omega),aB (by omega),List.getD,aB (show j<xs.length by omega)];simp[p8,Rat.mul_comm]
 ·rw[List.getElem?_eq_none (by rw[mX];exact h1),List.getElem?_eq_none (show xs.length<=j by omega)];rfl
theorem cP.l{S:Nat->Prop}{w:World}{v:Value}{qs:List Rat}(h:cP w S v qs)(hq:∀q∈qs,rl q<=100000):dY w S v qs:=by
 obtain⟨css,h1,h2,h3,h4⟩:=h;refine⟨css,h1,h2,h3,fun j cs q k1 k2=>?_⟩;obtain⟨b,a,n,c,b2,a2,n2,c2,e,hc⟩:=h4 j cs q k1 k2;exact⟨b,a,n,c,b2,a2,n2,c2,e,hc.l (hq q (aF k2))⟩
theorem dY.nil(w:World)(S:Nat->Prop):dY w S (.slice none 0 0) []:=⟨[],⟨by simp,by simp,by simp,none,0,rfl,aG _,by simp⟩,rfl,by simp,by simp⟩
theorem El{S:Nat->Prop}{w:World}{v u:Value}{p q:Rat}(hS:Old S w)(hp:eG w S v p)(hq:eG w S u q)(h0:q≠0):
  dh PG N.se #[v,u] w (dw w fun v' w2=>∃r,v'= .tuple #[r,.int .i64 0]∧cR w2 (Nw (fun _=>False) w w2) r (p / q)):=
 (JA hS hp hq).mono fun _ _ ⟨v2,e1,e2,e3⟩=>⟨v2,e1,e2,e3.elim (fun h=>absurd h.1 h0) fun h=>h.2⟩
def kC(w:World)(S:Nat->Prop)(rv:List Value)(M:List (List Rat)):Prop:=rv.length=M.length∧(∀u∈rv,u.oneCell'=true)∧∀(i:Nat) u r,rv[i]? =some u->M[i]? =some r->dY w S u r
section
variable{S S':Nat->Prop}{H:Hp}{nx:Nat}{iv iv':Iv}{B:Nat}{w w' w2:World}{ρ:Nat->Sx.dc}{rv:List Value}{M:List (List Rat)}
theorem kC.rel(h:kC w (Cv S B iv) rv M)(r:Rel H nx iv B w ρ w')(hS:∀g,S g->g<B):kC w' (Cv S B iv) rv M:=⟨h.1,h.2.1,fun i u x h1 h2=>dY.rel (h.2.2 i u x h1 h2) r hS⟩
theorem kC.cB(h:kC w (Cv S B iv) rv M)(r:Rel H nx iv B w ρ w')(hS:∀g,S g->g<B)(he:Ext w' w2)(hm:∀p,p∈iv->p∈iv'):kC w2 (Cv S B iv') rv M:=⟨h.1,h.2.1,fun i u x h1 h2=>dY.cB (h.2.2 i u x h1 h2) r hS he hm⟩
theorem kC.set{i:Nat}{u:Value}{x:List Rat}(h:kC w S rv M)(hu:u.oneCell'=true)(hx:dY w S u x):kC w S (rv.set i u) (M.set i x):=by
 refine⟨by simp[h.1],fun v hv=>?_,fun j v y h1 h2=>?_⟩
 ·rcases bD hv with h1|h1
  ·exact h.2.1 v h1
  ·rw[h1];exact hu
 ·rw[List.getElem?_set]at h1 h2;by_cases hj:i=j
  ·rw[if_pos hj]at h1 h2;split at h1
   ·split at h2
    ·injection h1 with h1;injection h2 with h2;subst h1 h2;exact hx
    ·cases h2
   ·cases h1
  ·rw[aK hj]at h1 h2;exact h.2.2 j v y h1 h2
theorem kC.get{i:Nat}(h:kC w S rv M)(hi:i<M.length):∃u r,rv[i]? =some u∧M[i]? =some r∧dY w S u r:=by
 obtain⟨u,hu⟩:∃u,rv[i]? =some u:=⟨_,aB (by rw[h.1];exact hi)⟩
 obtain⟨r,hr⟩:∃r,M[i]? =some r:=⟨_,aB hi⟩
 exact⟨u,r,hu,hr,h.2.2 i u r hu hr⟩
end
end Go.Ex
namespace Go.Ex
theorem eK(M:List (List Rat))(cols:Nat):(cJ M cols).1.length=M.length:=by
 have key:∀(l:List Nat) (s:List (List Rat)×List Nat),(l.foldl dP s).1.length=s.1.length:=by
  intro l
  induction l with
  |nil=>exact fun s=>rfl
  |cons c l ih=>exact fun s=>by rw[List.foldl_cons,ih,lr]
 exact key _ _
theorem p9{M:List (List Rat)}{c:Nat}:∀f k j,k<=j->j<gS M c f k->di M j c=0
 |0,k,j,h1,h2=>by simp only[gS]at h2;omega
 |f+1,k,j,h1,h2=>by
  unfold gS at h2;split at h2
  ·rename_i h0;rcases aV k j with h|h
   ·exact p9 f (k+1) j h h2
   ·rw[show j=k by omega];exact h0
  ·omega
theorem kN{s:List (List Rat)×List Nat}(c:Nat)(hle:s.2.length<=s.1.length):(dP s c=s∧∀j,s.2.length<=j->j<s.1.length->di s.1 j c=0)∨
  ∃k,s.2.length<=k∧k<s.1.length∧di s.1 k c≠0∧dP s c=(dO (scaled (e9 [] s.1 s.2.length k) s.2.length c) s.2.length c s.1.length,s.2++[c]):=by
 have h1:=wH s.1 c (s.1.length-s.2.length) s.2.length;by_cases hk:gS s.1 c (s.1.length-s.2.length) s.2.length=s.1.length
 ·exact .inl ⟨wF (.inr hk),fun j hj hl=>p9 (s.1.length-s.2.length) s.2.length j hj (by omega)⟩
 ·exact .inr ⟨_,h1.1,by omega,wI s.1 c _ _ (by omega),wG h1.1 (by omega) (fun j h2 h3=>p9 _ _ j h2 h3) (wI s.1 c _ _ (by omega))⟩
theorem sY{p:Rat}{r s:List Rat}{c:Nat}(h:c<r.length):(r.mapIdx (p8 p s)).getD c 0=r.getD c 0+p*s.getD c 0:=by
 simp only[List.getD,List.getElem?_mapIdx,aB h]
 rfl
theorem wJ{r:List Rat}{k:Rat}{c:Nat}:(r.map (· *k)).getD c 0=r.getD c 0*k:=by
 simp only[List.getD,aO]
 cases r[c]? with
 |none=>exact(bS k).symm
 |some q=>rfl
theorem lu{s:List (List Rat)×List Nat}{c k n:Nat}(hl:fk n s.1)(h1:s.2.length<=k)(h2:k<s.1.length)(h3:di s.1 k c≠0)(e:dP s c=(dO (scaled (e9 [] s.1 s.2.length k) s.2.length c) s.2.length c s.1.length,s.2++[c])):
  (∀t,di (dP s c).1 s.2.length t=di s.1 k t*(1 / di s.1 k c))∧
  ∀j,j<s.1.length->j≠s.2.length->∀t,t<n->di (dP s c).1 j t=di s.1 (if j=k then s.2.length else j) t+ -(di s.1 (if j=k then s.2.length else j) c)*(di s.1 k t*(1 / di s.1 k c)):=by
 have hp:s.2.length<s.1.length:=by omega
 have hsw:di (e9 [] s.1 s.2.length k) s.2.length c=di s.1 k c:=BT hp h2;have hpiv:(scaled (e9 [] s.1 s.2.length k) s.2.length c).getD s.2.length []=(s.1.getD k []).map (· *(1 / di s.1 k c)):=by
  unfold scaled;rw[hsw,List.getD,aT (by rw[il];exact hp)];simp only[Option.getD_some]
  congr 1;rw[List.getD,List.getD,zC hp h2]
 have hrow:∀j,j<s.1.length->j≠s.2.length->(scaled (e9 [] s.1 s.2.length k) s.2.length c)[j]? =some (s.1.getD (if j=k then s.2.length else j) []):=fun j hj hne=>by
  unfold scaled;rw[a9 (Ne.symm hne)];unfold e9;by_cases hjk:j=k
  ·subst hjk;rw[aT (by simpa using hj),if_pos rfl]
  ·rw[a9 (Ne.symm hjk),a9 (Ne.symm hne),aK hjk,List.getD,aB hj];rfl
 have hgp:(dO (scaled (e9 [] s.1 s.2.length k) s.2.length c) s.2.length c s.1.length).getD s.2.length []=(s.1.getD k []).map (· *(1 / di s.1 k c)):=by
  rw[<-hpiv];simp only[List.getD,pc]
 rw[e];refine⟨fun t=>?_,fun j hj hne t ht=>?_⟩
 ·show((dO (scaled (e9 [] s.1 s.2.length k) s.2.length c) s.2.length c s.1.length).getD s.2.length []).getD t 0=_;rw[hgp,wJ];rfl
 ·have hgj:(dO (scaled (e9 [] s.1 s.2.length k) s.2.length c) s.2.length c s.1.length).getD j []=(s.1.getD (if j=k then s.2.length else j) []).mapIdx (p8 (-((s.1.getD (if j=k then s.2.length else j) []).getD c 0)) ((s.1.getD k []).map (· *(1 / di s.1 k c)))):=by
   simp only[List.getD,dO,List.getElem?_mapIdx,hrow j hj hne,Option.map_some,Option.getD_some]
   rw[if_pos ⟨hj,hne⟩];exact congrArg (fun P=>(s.1.getD (if j=k then s.2.length else j) []).mapIdx (p8 (-((s.1.getD (if j=k then s.2.length else j) []).getD c 0)) P)) hpiv
  show((dO (scaled (e9 [] s.1 s.2.length k) s.2.length c) s.2.length c s.1.length).getD j []).getD t 0=_;rw[hgj,sY (by rw[hl.getD (by split<;>omega)];exact ht),wJ];rfl
theorem wK{x:Rat}(h:x≠0):x*(1 / x)=1:=by rw[bZ,bq,Rat.mul_inv_cancel x h]
def JD(n c:Nat)(s:List (List Rat)×List Nat):Prop:=fk n s.1∧s.2.length<=s.1.length∧(∀j t,s.2.length<=j->j<s.1.length->t<c->di s.1 j t=0)∧(∀p∈s.2,p<c)∧
 ∀i j,i<s.2.length->j<s.1.length->di s.1 j (s.2.getD i 0)=if j=i then 1 else 0
theorem JD.step{n c:Nat}{s:List (List Rat)×List Nat}(h:JD n c s)(hc:c<n):JD n (c+1) (dP s c):=by
 obtain⟨hl,hle,hz,hpc,hu⟩:=h;rcases kN c hle with⟨e,h0⟩|⟨k,h1,h2,h3,e⟩
 ·rw[e];refine⟨hl,hle,fun j t hj hjl ht=>?_,fun p hp=>by have:=hpc p hp;omega,hu⟩;rcases aV t c with h|h
  ·exact hz j t hj hjl h
  ·rw[show t=c by omega];exact h0 j hj hjl
 ·obtain⟨r1,r2⟩:=lu hl h1 h2 h3 e;have hlen:(dP s c).1.length=s.1.length:=lr s c;have e2:(dP s c).2=s.2++[c]:=by rw[e]
  have e3:(dP s c).2.length=s.2.length+1:=by rw[e2];simp
  have hone:∀j,j<s.1.length->j≠s.2.length->di (dP s c).1 j c=0:=fun j hj hne=>by
   rw[r2 j hj hne c hc,wK h3,Rat.mul_one,Rat.add_neg_cancel]
  refine⟨hl.step,by rw[e3,hlen];omega,fun j t hj hjl ht=>?_,fun p hp=>?_,fun i j hi hj=>?_⟩
  ·rw[e3]at hj;rw[hlen]at hjl;rcases aV t c with h|h
   ·rw[r2 j hjl (by omega) t (by omega),hz k t h1 h2 h,hz (if j=k then s.2.length else j) t (by split<;>omega) (by split<;>omega) h,bS,bU,Rat.zero_add]
   ·rw[show t=c by omega];exact hone j hjl (by omega)
  ·rw[e2]at hp;rcases bR.1 hp with hp|hp
   ·have:=hpc p hp;omega
   ·rw[bA.1 hp];omega
  ·rw[e3]at hi;rw[hlen]at hj;rcases aV i s.2.length with h|h
   ·have hg:(dP s c).2.getD i 0=s.2.getD i 0:=by rw[e2,List.getD,aL h,<-List.getD]
    have hpm:s.2.getD i 0<c:=hpc _ (by rw[List.getD,aB h];exact bL h);have hk0:di s.1 k (s.2.getD i 0)=0:=hz k _ h1 h2 hpm;rw[hg];by_cases hjp:j=s.2.length
    ·rw[hjp,r1,hk0,bS,aK (by omega)]
    ·rw[r2 j hj hjp _ (by omega),hk0,bS,bU,Rat.add_zero];by_cases hjk:j=k
     ·rw[if_pos hjk,hu i _ h (by omega),aK (by omega),aK (by omega)]
     ·rw[aK hjk,hu i j h hj]
   ·have hg:(dP s c).2.getD i 0=c:=by rw[e2,List.getD,aQ h,show i-s.2.length=0 by omega];rfl
    rw[hg];by_cases hjp:j=s.2.length
    ·rw[hjp,r1,wK h3,if_pos (by omega)]
    ·rw[hone j hj hjp,aK (by omega)]
theorem eC{M:List (List Rat)}{n:Nat}(hl:fk n M):∀cols,cols<=n->JD n cols (cJ M cols)
 |0,_=>⟨hl,aN _,fun _ _ _ _ h=>by omega,fun p hp=>(by cases hp),fun _ _ h=>(by cases h)⟩
 |c+1,h=>by
  have ih:=eC hl c (by omega);unfold cJ at ih ⊢;rw[bH,List.foldl_append];exact ih.step (by omega)
abbrev Mx:=Nat->Nat->Rat
def skip(k j:Nat):Nat:=if j<k then j else j+1
def pf(k:Nat):Rat:=if k % 2=1 then -1 else 1
def dU(f:Nat->Rat):Nat->Rat
 |0=>0
 |n+1=>dU f n+f n
def ew:Nat->Mx->Rat
 |0,_=>1
 |n+1,m=>dU (fun k=>pf k*(m 0 k*ew n fun i j=>m (i+1) (skip k j))) (n+1)
theorem cM{f g:Nat->Rat}:∀{n:Nat},(∀k,k<n->f k=g k)->dU f n=dU g n
 |0,_=>rfl
 |n+1,h=>by rw[dU,dU,cM fun k hk=>h k (by omega),h n (by omega)]
theorem fJ:∀(n:Nat),dU (fun _=>0) n=0
 |0=>rfl
 |n+1=>by rw[dU,fJ n,Rat.add_zero]
theorem gb(f g:Nat->Rat):∀(n:Nat),dU (fun k=>f k+g k) n=dU f n+dU g n
 |0=>(Rat.add_zero 0).symm
 |n+1=>by rw[dU,dU,dU,gb f g n];grind
theorem gK(p:Rat)(f:Nat->Rat):∀(n:Nat),dU (fun k=>p*f k) n=p*dU f n
 |0=>(bU p).symm
 |n+1=>by rw[dU,dU,gK p f n];grind
theorem qj(f:Nat->Rat)(n:Nat):dU (fun k=> -f k) n= -dU f n:=by
 have h:=gK (-1) f n;rw[show (-1:Rat)*dU f n= -dU f n by grind]at h;rw[<-h];exact cM fun k _=>by grind
theorem D3{k j n:Nat}(h:j<n):skip k j<n+1:=by unfold skip;split<;>omega
theorem ER{k l:Nat}(h:k<=l)(j:Nat):skip k (skip l j)=skip (l+1) (skip k j):=by
 unfold skip;grind
theorem gf:∀{n:Nat} {m m':Mx},(∀i j,i<n->j<n->m i j=m' i j)->ew n m=ew n m'
 |0,_,_,_=>rfl
 |n+1,m,m',h=>by
  unfold ew;refine cM fun k hk=>?_;rw[h 0 k (by omega) hk,gf fun i j hi hj=>h (i+1) (skip k j) (by omega) (D3 hj)]
def fo(m:Mx)(r:Nat)(u:Nat->Rat):Mx:=fun i j=>if i=r then u j else m i j
theorem sZ(m:Mx)(r k:Nat)(u:Nat->Rat):(fun i j=>fo m (r+1) u (i+1) (skip k j))=fo (fun i j=>m (i+1) (skip k j)) r fun j=>u (skip k j):=by
 funext i j
 unfold fo;by_cases h:i=r
 ·rw[if_pos h,if_pos (by omega)]
 ·rw[aK h,aK (by omega)]
theorem lF(p:Rat):∀(n r:Nat) (m:Mx),r<n->∀(u v:Nat->Rat),ew n (fo m r fun j=>u j+p*v j)=ew n (fo m r u)+p*ew n (fo m r v)
 |0,_,_,h,_,_=>by omega
 |n+1,0,m,_,u,v=>by
  unfold ew;rw[<-gK,<-gb];refine cM fun k _=>?_;have e:∀x:Nat->Rat,(fun i j=>fo m 0 x (i+1) (skip k j))=fun i j=>m (i+1) (skip k j):=fun x=>by
   funext i j;unfold fo;rw[aK (by omega)]
  rw[e,e,e];unfold fo;rw[if_pos rfl,if_pos rfl,if_pos rfl];grind
 |n+1,r+1,m,h,u,v=>by
  unfold ew;rw[<-gK,<-gb];refine cM fun k _=>?_;rw[sZ,sZ,sZ,lF p n r _ (by omega) (fun j=>u (skip k j)) fun j=>v (skip k j)];have e:∀x:Nat->Rat,fo m (r+1) x 0 k=m 0 k:=fun x=>by unfold fo;rw[aK (by omega)]
  rw[e,e,e];grind
theorem wO{F:Nat->Nat->Rat}:∀{n:Nat},(∀k l,k<=l->l<n->F k l+F (l+1) k=0)->dU (fun k=>dU (F k) n) (n+1)=0
 |0,_=>by show 0+0=(0:Rat);grind
 |n+1,h=>by
  have ih:=wO (F:=F) (n:=n) fun k l h1 h2=>h k l h1 (by omega);have h3:dU (fun k=>F k n+F (n+1) k) (n+1)=0:=by
   rw[cM (g:=fun _=>0) fun k hk=>h k n (by omega) (by omega),fJ]
  rw[gb]at h3;rw[dU];have h4:dU (fun k=>dU (F k) (n+1)) (n+1)=dU (fun k=>dU (F k) n) (n+1)+dU (fun k=>F k n) (n+1):=by
   rw[<-gb];rfl
  rw[h4,ih,Rat.zero_add];exact h3
def tY(a b i:Nat):Nat:=if i=a then b else if i=b then a else i
theorem ES(r i:Nat):tY (r+1) (r+2) (i+1)=tY r (r+1) i+1:=by
 unfold tY;by_cases h:i=r
 ·rw[if_pos (by omega),if_pos h]
 ·rw[aK (by omega),aK h];by_cases h2:i=r+1
  ·rw[if_pos (by omega),if_pos h2]
  ·rw[aK (by omega),aK h2]
theorem F0(k:Nat):pf (k+1)= -pf k:=by
 unfold pf;by_cases h:k % 2=1
 ·rw[if_pos h,aK (by omega)];grind
 ·rw[aK h,if_pos (by omega)]
theorem BW(n:Nat)(m:Mx):ew (n+2) m=dU (fun k=>dU (fun l=>pf k*pf l*(m 0 k*m 1 (skip k l))*ew n fun i j=>m (i+2) (skip k (skip l j))) (n+1)) (n+2):=by
 rw[ew];refine cM fun k _=>?_;rw[ew,<-gK,<-gK];refine cM fun l _=>?_;grind
theorem wP:∀(n r:Nat) (m:Mx),r+1<n->ew n (fun i j=>m (tY r (r+1) i) j)= -ew n m
 |0,_,_,h=>by omega
 |1,_,_,h=>by omega
 |n+2,0,m,_=>by
  rw[BW,BW,<-qj];have key:dU (fun k=>dU (fun l=>pf k*pf l*(m 1 k*m 0 (skip k l))*(ew n fun i j=>m (i+2) (skip k (skip l j)))+pf k*pf l*(m 0 k*m 1 (skip k l))*ew n fun i j=>m (i+2) (skip k (skip l j))) (n+1)) (n+2)=0:=by
   refine wO fun k l h1 h2=>?_;have e1:skip k l=l+1:=by unfold skip;rw[aK (by omega)]
   have e2:skip (l+1) k=k:=by unfold skip;rw[if_pos (by omega)]
   have e3:(fun i j=>m (i+2) (skip (l+1) (skip k j)))=fun i j=>m (i+2) (skip k (skip l j)):=by
    funext i j;rw[ER h1]
   rw[e1,e2,e3,F0];grind
  have h4:dU (fun k=>dU (fun l=>pf k*pf l*(m 1 k*m 0 (skip k l))*(ew n fun i j=>m (i+2) (skip k (skip l j)))+pf k*pf l*(m 0 k*m 1 (skip k l))*ew n fun i j=>m (i+2) (skip k (skip l j))) (n+1)) (n+2)=
    dU (fun k=>dU (fun l=>pf k*pf l*(m 1 k*m 0 (skip k l))*ew n fun i j=>m (i+2) (skip k (skip l j))) (n+1)) (n+2)+dU (fun k=>dU (fun l=>pf k*pf l*(m 0 k*m 1 (skip k l))*ew n fun i j=>m (i+2) (skip k (skip l j))) (n+1)) (n+2):=by
   rw[<-gb];exact cM fun k _=>gb _ _ _
  rw[h4]at key;have h5:dU (fun k=> -dU (fun l=>pf k*pf l*(m 0 k*m 1 (skip k l))*ew n fun i j=>m (i+2) (skip k (skip l j))) (n+1)) (n+2)= -dU (fun k=>dU (fun l=>pf k*pf l*(m 0 k*m 1 (skip k l))*ew n fun i j=>m (i+2) (skip k (skip l j))) (n+1)) (n+2):=qj _ _;rw[h5];have h6:dU (fun k=>dU (fun l=>pf k*pf l*(m (tY 0 1 0) k*m (tY 0 1 1) (skip k l))*ew n fun i j=>m (tY 0 1 (i+2)) (skip k (skip l j))) (n+1)) (n+2)=dU (fun k=>dU (fun l=>pf k*pf l*(m 1 k*m 0 (skip k l))*ew n fun i j=>m (i+2) (skip k (skip l j))) (n+1)) (n+2):=by
   refine cM fun k _=>cM fun l _=>?_;have e:∀i,tY 0 1 (i+2)=i+2:=fun i=>by unfold tY;rw[aK (by omega),aK (by omega)]
   simp only[e]
   rfl
  rw[show (0:Nat)+1=1 from rfl,h6];grind
 |n+2,r+1,m,h=>by
  rw[ew,ew,<-qj];refine cM fun k _=>?_;have e:(fun i j=>m (tY (r+1) (r+1+1) (i+1)) (skip k j))=fun i j=>m (tY r (r+1) i+1) (skip k j):=by
   funext i j
   rw[show r+1+1=r+2 from rfl,ES]
  have ih:ew (n+1) (fun i j=>m (tY r (r+1) i+1) (skip k j))= -ew (n+1) fun i j=>m (i+1) (skip k j):=wP (n+1) r (fun i j=>m (i+1) (skip k j)) (by omega);rw[e,ih];rw[show tY (r+1) (r+1+1) 0=0 by unfold tY;rw[aK (by omega),aK (by omega)]];grind
theorem lz:∀(k n:Nat) (m:Mx),k+1<n->(∀j,j<n->m 0 j=m (k+1) j)->ew n m=0
 |0,n,m,h,he=>by
  have h1:=wP n 0 m h;rw[gf (m':=m) fun i j hi hj=>?_]at h1
  ·grind
  ·unfold tY;by_cases h0:i=0
   ·rw[if_pos h0,h0];exact(he j hj).symm
   ·rw[aK h0];by_cases h2:i=1
    ·rw[if_pos h2,h2];exact he j hj
    ·rw[aK h2]
 |k+1,n,m,h,he=>by
  have h1:=wP n (k+1) m h;rw[lz k n _ (by omega) fun j hj=>?_]at h1
  ·grind
  ·rw[show tY (k+1) (k+1+1) 0=0 by unfold tY;rw[aK (by omega),aK (by omega)],show tY (k+1) (k+1+1) (k+1)=k+1+1 by unfold tY;rw[if_pos rfl]];exact he j hj
theorem BX(m:Mx)(r:Nat):fo m r (m r)=m:=by
 funext i j
 unfold fo;by_cases h:i=r
 ·rw[if_pos h,h]
 ·rw[aK h]
theorem ET{n k:Nat}{m:Mx}(h:k+1<n):ew n (fun i j=>m (tY 0 (k+1) i) j)= -ew n m:=by
 have z:∀u:Nat->Rat,ew n (fo (fo m 0 u) (k+1) u)=0:=fun u=>lz k n _ h fun j _=>by
  unfold fo;rw[aK (by omega),if_pos rfl,if_pos rfl]
 have cm:∀u v:Nat->Rat,fo (fo m 0 u) (k+1) v=fo (fo m (k+1) v) 0 u:=fun u v=>by
  funext i j;unfold fo
  by_cases h1:i=k+1
  ·rw[if_pos h1,aK (by omega),if_pos h1]
  ·rw[aK h1,aK h1]
 have l1:∀u v x:Nat->Rat,ew n (fo (fo m 0 u) (k+1) fun j=>v j+1*x j)=ew n (fo (fo m 0 u) (k+1) v)+1*ew n (fo (fo m 0 u) (k+1) x):=fun u v x=>lF 1 n (k+1) _ h v x;have l2:∀u v x:Nat->Rat,ew n (fo (fo m 0 fun j=>v j+1*x j) (k+1) u)=ew n (fo (fo m 0 v) (k+1) u)+1*ew n (fo (fo m 0 x) (k+1) u):=fun u v x=>by
  rw[cm,cm,cm];exact lF 1 n 0 _ (by omega) v x
 have h1:=z fun j=>m 0 j+1*m (k+1) j;rw[l1,l2,l2,z,z]at h1;have e1:fo (fo m 0 (m 0)) (k+1) (m (k+1))=m:=by rw[BX,BX]
 have e2:fo (fo m 0 (m (k+1))) (k+1) (m 0)=fun i j=>m (tY 0 (k+1) i) j:=by
  funext i j;unfold fo tY
  by_cases h1:i=k+1
  ·rw[if_pos h1,aK (by omega),if_pos h1]
  ·rw[aK h1];by_cases h0:i=0
   ·rw[if_pos h0,if_pos h0]
   ·rw[aK h0,aK h0,aK h1]
 rw[e1,e2]at h1;grind
theorem s0(f:Nat->Rat)(p:Rat)(n:Nat):dU (fun k=>f k*p) n=dU f n*p:=by
 rw[Rat.mul_comm,<-gK];exact cM fun k _=>Rat.mul_comm ..
theorem fW{f:Nat->Rat}{i:Nat}:∀{n:Nat},i<n->(∀k,k<n->k≠i->f k=0)->dU f n=f i
 |0,h,_=>by omega
 |n+1,h,hz=>by
  rw[dU];rcases aV i n with h1|h1
  ·rw[fW h1 fun k hk hne=>hz k (by omega) hne,hz n (by omega) (by omega),Rat.add_zero]
  ·obtain rfl:i=n:=by omega
   rw[cM (g:=fun _=>0) fun k hk=>hz k (by omega) (by omega),fJ,Rat.zero_add]
end Go.Ex
namespace Go.Ex
open Go Go.Sx Go.Proofs
theorem xp{S:Nat->Prop}{w:World}{v:Value}{M:List (List (Int×Int))}(hS:Old S w)(h:iB w S v M):dh PG N.pF #[v] w (dw w fun v' _=>v'= .int .i64 (fI M)):=by
 have hn:=h;obtain⟨a,c,rfl,hc,hm⟩:=cT.shape h;refine tD (by simp) ?_
 cases M with
 |nil=>
  conv=>whnf
  intro ρe we re;exact⟨_,rfl,re.cC,rfl⟩
 |cons r t=>
  obtain⟨ad,u,rfl,hu,h1,h2⟩:=cT.load h (j:=0) (x:=r) rfl;obtain⟨a2,c2,rfl⟩:=cT.Gb hu;conv=>whnf
  refine⟨ad,rfl,⟨by omega,by simp⟩,?_⟩;conv=>whnf
  refine⟨.slice a2 r.length c2,fun ρ w' r'=>by simpa using jC hS cN.refl r' h1 (by simpa using h2),?_⟩;conv=>whnf
  intro ρe we re;exact⟨_,rfl,re.cC,rfl⟩
theorem gU.len{S:Nat->Prop}{w:World}{cs:List Value}{q:Rat}(h:gU w S cs q):cs.length=4:=by obtain⟨_,_,_,_,_,_,_,_,rfl,_⟩:=h;rfl
def Fc(w:World)(S:Nat->Prop)(css:List (List Value))(qs:List Rat):Prop:=css.length=qs.length∧∀(j:Nat) cs q,css[j]? =some cs->qs[j]? =some q->gU w S cs q
section
variable{S S':Nat->Prop}{w w2:World}{cs:List Value}{css:List (List Value)}{q:Rat}{qs:List Rat}
theorem Fc.cD(h:Fc w S css qs)(hk:∀g,S g->w2.heap[g]? =w.heap[g]?):Fc w2 S css qs:=⟨h.1,fun j cs q h1 h2=>(h.2 j cs q h1 h2).cD hk⟩
theorem Fc.cG(h:Fc w S css qs)(hk:∀g,S g->S' g):Fc w S' css qs:=⟨h.1,fun j cs q h1 h2=>(h.2 j cs q h1 h2).cG hk⟩
theorem Fc.uu(h:Fc w S css qs):∀cs∈css,cs.length=4:=fun cs hc=>by
 obtain⟨j,hj⟩:=ah hc;have hl:=(aE.1 hj).1;exact(h.2 j cs _ hj (aB (by rw[<-h.1];exact hl))).len
theorem Fc.one(h:Fc w S css qs):∀u∈css.flatten,u.oneCell'=true:=fun u hu=>by
 obtain⟨cs,hc,hu⟩:=List.mem_flatten.1 hu;obtain⟨j,hj⟩:=ah hc;have hl:=(aE.1 hj).1;obtain⟨_,_,_,_,_,_,_,_,rfl,_⟩:=h.2 j cs _ hj (aB (by rw[<-h.1];exact hl));simp at hu;rcases hu with rfl|rfl|rfl|rfl<;>rfl
theorem Fc.set(h:Fc w S css qs){j:Nat}(hq:gU w S cs q):Fc w S (css.set j cs) (qs.set j q):=by
 refine⟨by simp[h.1],fun i c p h1 h2=>?_⟩;by_cases hij:j=i
 ·subst hij;have hl:=(aE.1 h1).1;rw[aT (by simpa using hl)]at h1;rw[aT (by have:=h.1;simp at hl;omega)]at h2;injection h1 with h1;injection h2 with h2;subst h1 h2;exact hq
 ·rw[a9 hij]at h1 h2;exact h.2 i c p h1 h2
end
def fT(w:World)(C S:Nat->Prop)(v:Value)(qs:List Rat):Prop:=∃css,iS w C 4 v css.flatten qs.length∧Fc w S css qs
section
variable{C C' S S':Nat->Prop}{H:Hp}{nx:Nat}{iv iv':Iv}{B:Nat}{w w' w2:World}{ρ:Nat->Sx.dc}{v:Value}{qs:List Rat}
theorem fT.cD(h:fT w C S v qs)(hk:∀g,C g∨S g->w2.heap[g]? =w.heap[g]?):fT w2 C S v qs:=by
 obtain⟨css,h1,h2⟩:=h;exact⟨css,h1.cD fun g hg=>hk g (.inl hg),h2.cD fun g hg=>hk g (.inr hg)⟩
theorem fT.cG(h:fT w C S v qs)(hk:∀g,C g->C' g)(hk2:∀g,S g->S' g):fT w C' S' v qs:=by
 obtain⟨css,h1,h2⟩:=h;exact⟨css,h1.cG hk,h2.cG hk2⟩
end
def gV(w:World)(S:Nat->Prop)(v:Value)(n:Nat)(qs:List Rat):Prop:=∃css,w.ownsRow 0 T.Rat 4 v n css.flatten∧css.length=n∧Fc w S css qs
section
variable{S S' C:Nat->Prop}{H:Hp}{nx n:Nat}{iv iv':Iv}{B:Nat}{w w' w2:World}{ρ:Nat->Sx.dc}{v:Value}{qs:List Rat}
theorem gV.cD(h:gV w S v n qs)(hk:∀g,S g∨v.ownBlock=some g->w2.heap[g]? =w.heap[g]?):gV w2 S v n qs:=by
 obtain⟨css,h1,h2,h3⟩:=h;exact⟨css,ownsRow.cD h1 fun g hg=>hk g (.inr hg),h2,h3.cD fun g hg=>hk g (.inl hg)⟩
theorem gV.cG(h:gV w S v n qs)(hk:∀g,S g->S' g):gV w S' v n qs:=by
 obtain⟨css,h1,h2,h3⟩:=h;exact⟨css,h1,h2,h3.cG hk⟩
theorem gV.len(h:gV w S v n qs):qs.length=n:=by
 obtain⟨css,h1,h2,h3⟩:=h;rw[<-h3.1,h2]
theorem gV.form(h:gV w S v n qs):∃a c,v= .slice a n c∧n<=c:=by
 obtain⟨css,h1,h2,h3⟩:=h;exact iw h1
theorem gV.le(h:gV w S v n qs):n<=maxLen:=by
 obtain⟨css,h1,h2,h3⟩:=h;rcases h1.2 with⟨_,h0⟩|⟨_,_,_,_,_,_,h1,h2,_⟩
 ·omega
 ·omega
theorem gV.read(h:gV w S v n qs):fT w (fun g=>v.ownBlock=some g) S v qs:=by
 have hl:=h.len;have hn:=h.le;obtain⟨css,h1,h2,h3⟩:=h;refine⟨css,?_,h3⟩;rw[hl];rcases h1.2 with⟨rfl,rfl⟩|⟨g,cap,cur,rfl,hb,hc,hmc,hcap,hsz,htake⟩
 ·refine⟨hn,h1.1,h3.one,none,0,rfl,aG _,fun j u hu=>?_⟩;have:=h1.1;rw[Nat.zero_mul]at this;rw[List.eq_nil_of_length_eq_zero this]at hu
  cases hu
 ·refine⟨hn,h1.1,h3.one,_,cap,rfl,hmc,fun j u hu=>⟨_,rfl,rfl,?_⟩⟩;exact h1.cells (g:=g) rfl j u hu
theorem gV.store{a a1 a2:Option Addr}{c j n1 c1 n2 c2:Nat}{b b2:Bool}{q:Rat}(h:gV w S (.slice a n c) n qs)(hj:j<n)(hf:cR w S (.agg #[.bool b,.slice a1 n1 c1,.bool b2,.slice a2 n2 c2]) q)(hoff:∀g,(Value.slice a n c).ownBlock=some g->¬S g)(hS:Old S w):
  ∃g,a=some ⟨g,0,none⟩∧((⟨g,0,none⟩:Addr).add ((j:Int).toNat*4)).spot=none∧((⟨g,0,none⟩:Addr).add ((j:Int).toNat*4)).block=g∧
   (∀k,k<4->(w.cell? (((⟨g,0,none⟩:Addr).add ((j:Int).toNat*4)).add k)).isSome=true∧w.frozen? (((⟨g,0,none⟩:Addr).add ((j:Int).toNat*4)).add k)=false)∧
   ∀w2,w2=setCells w ((⟨g,0,none⟩:Addr).add ((j:Int).toNat*4)) [.bool b,.slice a1 n1 c1,.bool b2,.slice a2 n2 c2]->gV w2 S (.slice a n c) n (qs.set j q)∧w.grownBy w2 (some g)∧w2.heap.size=w.heap.size:=by
 obtain⟨css,h1,h2,h3⟩:=h;obtain⟨g,rfl,hok,hst,hgr,hsz⟩:=nG (nv:=[.bool b,.slice a1 n1 c1,.bool b2,.slice a2 n2 c2]) h1 rfl hj rfl (by decide);have had:(⟨g,0,none⟩:Addr).add ((j:Int).toNat*4)=⟨g,j*4,none⟩:=by rw[aC,dM,aS]
 refine⟨g,rfl,by rw[had],by rw[had],fun k hk=>by rw[had];exact hok k hk,fun w2 hw2=>?_⟩;rw[had]at hw2;subst hw2;have hset:=iJ (cs:=[.bool b,.slice a1 n1 c1,.bool b2,.slice a2 n2 c2]) h3.uu (show j<css.length by omega);rw[hset]at hst;have hkeep:∀x,S x->(setCells w ⟨g,j*4,none⟩ [.bool b,.slice a1 n1 c1,.bool b2,.slice a2 n2 c2]).heap[x]? =w.heap[x]? :=fun x hx=>
  hgr.block x (hS x hx) fun e=>hoff g rfl (by injection e with e;rw[<-e];exact hx)
 exact⟨⟨_,hst,by simpa using h2,(h3.cD hkeep).set (hf.cD hkeep).oC⟩,hgr,hsz⟩
structure dQ(w:World)(S:Nat->Prop)(B:Nat)(iv:Iv)(v:Value)(n:Nat)(qs:List Rat):Prop where
 row:gV w (fun g=>Cv S B iv g∧v.ownBlock≠some g) v n qs
 new:∀g,v.ownBlock=some g->Cv (fun _=>False) B iv g
theorem dQ.cD(h:dQ w S B iv v n qs)(hk:∀g,Cv S B iv g->w2.heap[g]? =w.heap[g]?):dQ w2 S B iv v n qs:=
 ⟨h.row.cD fun g hg=>hk g (hg.elim (fun h=>h.1) fun hg=>(h.new g hg).elim (fun h=>h.elim) .inr),h.new⟩
theorem dQ.rel(h:dQ w S B iv v n qs)(r:Rel H nx iv B w ρ w')(hS:∀g,S g->g<B):dQ w' S B iv v n qs:=h.cD fun _ hg=>Rel.same r hS hg
theorem dQ.cB(h:dQ w S B iv v n qs)(r:Rel H nx iv B w ρ w')(hS:∀g,S g->g<B)(he:Ext w' w2)(hm:∀p,p∈iv->p∈iv'):dQ w2 S B iv' v n qs:=
 have h2:=(h.rel r hS).cD fun g hg=>he.block g (Rel.old r hS g hg)
 ⟨h2.row.cG fun _ hg=>⟨hg.1.mono hm,hg.2⟩,fun g hg=>(h2.new g hg).mono hm⟩
theorem dQ.cw(h:dQ w2 (fun _=>False) w'.heap.size [(w'.heap.size,w2.heap.size)] v n qs)(hB:B<=w'.heap.size)(hm:(w'.heap.size,w2.heap.size)∈iv):dQ w2 S B iv v n qs:=by
 have key:∀g {X:Nat->Prop},Cv (fun _=>False) w'.heap.size [(w'.heap.size,w2.heap.size)] g->Cv X B iv g:=fun g X hg=>by
  rcases hg with hg|⟨h1,lo,hi,h2,h3,h4⟩
  ·exact hg.elim
  ·simp at h2;obtain⟨rfl,rfl⟩:=h2;exact .inr ⟨by omega,_,_,hm,h3,h4⟩
 exact⟨h.row.cG fun g hg=>⟨key g hg.1,hg.2⟩,fun g hg=>key g (h.new g hg)⟩
theorem dQ.out{w0 w1:World}(h:dQ w1 (fun _=>False) w0.heap.size iv v n qs)(r:Rel H nx iv w0.heap.size w1 ρ w'):dQ w' (fun _=>False) w0.heap.size [(w0.heap.size,w'.heap.size)] v n qs:=by
 have h2:=h.rel r (bs w0);have key:∀g,Cv (fun _=>False) w0.heap.size iv g->Cv (fun _=>False) w0.heap.size [(w0.heap.size,w'.heap.size)] g:=fun g hg=>by
  rcases hg with hg|⟨h1,lo,hi,h2,h3,h4⟩
  ·exact hg.elim
  ·exact .inr ⟨h1,_,_,bA.2 rfl,h1,by have:=r.oo lo hi h2;have:=r.size;omega⟩
 exact⟨h2.row.cG fun g hg=>⟨key g hg.1,hg.2⟩,fun g hg=>key g (h2.new g hg)⟩
theorem dQ.read(h:dQ w S B iv v n qs):fT w (Cv S B iv) (Cv S B iv) v qs:=
 h.row.read.cG (fun g hg=>(h.new g hg).elim (fun h=>h.elim) .inr) fun _ hg=>hg.1
end
section
variable{S S':Nat->Prop}{H:Hp}{nx n:Nat}{iv iv':Iv}{B:Nat}{w w' w2:World}{ρ:Nat->Sx.dc}{v:Value}{qs:List Rat}
theorem dQ.store{a a1 a2:Option Addr}{c j n1 c1 n2 c2:Nat}{b b2:Bool}{q:Rat}(h:dQ w' S B iv (.slice a n c) n qs)(hj:j<n)(hf:cR w' (fun g=>Cv S B iv g∧(Value.slice a n c).ownBlock≠some g) (.agg #[.bool b,.slice a1 n1 c1,.bool b2,.slice a2 n2 c2]) q)
  (r:Rel H nx iv B w ρ w') (hS:∀g,S g->g<B):
  ∃g,a=some ⟨g,0,none⟩∧((⟨g,0,none⟩:Addr).add ((j:Int).toNat*4)).spot=none∧
   (∀k,k<4->(w'.cell? (((⟨g,0,none⟩:Addr).add ((j:Int).toNat*4)).add k)).isSome=true∧w'.frozen? (((⟨g,0,none⟩:Addr).add ((j:Int).toNat*4)).add k)=false)∧
   (∀id b,dA H id=some b->(ρ id).nil=false->(ρ id).g≠((⟨g,0,none⟩:Addr).add ((j:Int).toNat*4)).block)∧Cv (fun _=>False) B iv g∧
   ∀w2,w2=setCells w' ((⟨g,0,none⟩:Addr).add ((j:Int).toNat*4)) [.bool b,.slice a1 n1 c1,.bool b2,.slice a2 n2 c2]->dQ w2 S B iv (.slice a n c) n (qs.set j q)∧w'.grownBy w2 (some g)∧w2.heap.size=w'.heap.size:=by
 obtain⟨g,rfl,h1,h2,h3,h4⟩:=h.row.store hj hf (fun g hg hx=>hx.2 hg) (fun x hx=>Rel.old r hS x hx.1);refine⟨g,rfl,h1,h3,fun id b hb hn=>by rw[h2];exact Rel.not r hS (Aq (h.new g rfl)) id b hb hn,h.new g rfl,fun w2 hw2=>?_⟩;obtain⟨k1,k2,k3⟩:=h4 w2 hw2;exact⟨⟨k1,h.new⟩,k2,k3⟩
end
end Go.Ex
namespace Go.Sx
open Go Go.Ex Go.Proofs
theorem Sub.mw{B:Nat}{l tl:Env}{nx:Nat}{H tH:Hp}{iv:Iv}{w w':World}{ρ:Nat->Sx.dc}{id t n c:Nat}{e:TypeId}{cs:List Value}(r:Rel H nx iv B w ρ w')(hid:dA H id=some (.arr e cs))(ht:ef l t=some (.o (.s id 0 n c)))
  (hs:uP H tH) (ho:BI id tH=true) (h1:BC l tl) (h2:cV nx tl):
  Sub B l nx ρ w' ⟨(t,.o (.v (.slice (some ⟨(ρ id).g,0,none⟩) n c)))::tl,tH,nx,((ρ id).g,(ρ id).g+1)::iv,w'⟩:=by
 refine⟨ρ,r.free hid (by simp) (r.fits hid).1 hs ho,fun u v hv=>?_⟩;rw[eI]at hv;split at hv
 ·rename_i e;subst e;injection hv with hv;subst hv;exact⟨trivial,_,ht,rfl⟩
 ·exact⟨h2.get u v hv,v,h1.get u v hv,rfl⟩
end Go.Sx
namespace Go.Ex
open Go Go.Sx Go.Proofs
end Go.Ex
namespace Go.Ex
open Go Go.Sx Go.Proofs
theorem Ip{S:Nat->Prop}{w:World}{v:Value}{ps:List Nat}{x:Nat}(hS:Old S w)(h:cY w S v ps):
  dh PG N.zP #[v,.int .i64 x] w (dw w fun v' _=>v'= .bool (decide (x∈ps))):=by
 obtain⟨h0,h1,h2,a,c,rfl,hc,hcell⟩:=h;unfold maxLen at h0;refine AX (by simp) ?_;conv=>whnf
 refine⟨Nat×World,fun z=>⟨[(0,.o (.v (.slice a ps.length c))),(1,.o (.v (.int .i64 x))),(5,.o (.v (.int .i64 ((z.1:Nat):Int))))],[],0,[],z.2⟩,fun z=>ps.length-z.1,
  fun z=>z.1<=ps.length∧cN w.heap.size w z.2∧∀(j:Nat) y,j<z.1->ps[j]? =some y->y≠x,?_,?_⟩
 ·intro ρ w' r;exact⟨(0,w'),⟨by simp,r.cC,fun j y hj=>by dsimp only at hj;omega⟩,Sub.gen [] r trivial ⟨rfl,rfl,rfl,trivial⟩ (by simp[dG]) (by simp[cV,SV.sc,At.sc]) (by rfl) (by simp)⟩
 rintro⟨i,w1⟩ ⟨hi,hw,ht⟩;dsimp only at hi hw ht ⊢;conv=>whnf
 refine dE.mk (fun hib=>?_) (fun hib=>?_)
 ·have hib:i<ps.length:=by simpa using hib
  obtain⟨y,hy⟩:∃y,ps[i]? =some y:=⟨_,aB hib⟩
  obtain⟨ad,rfl,q1,q2⟩:=hcell i (.int .i64 (y:Int)) (by rw[aO,hy];rfl);conv=>whnf
  refine⟨ad,rfl,⟨by omega,by omega⟩,?_⟩;conv=>whnf
  refine⟨.int .i64 (y:Int),fun ρ w' r=>by rw[aC,aR];exact jC hS hw r q1 q2,?_⟩;conv=>whnf
  refine dE.mk (fun he=>?_) (fun he=>?_)
  ·have he1:(y:Int)=x:=by simpa using he
   have he2:y=x:=by omega
   conv=>whnf
   intro ρ w2 r;exact⟨_,rfl,hw.tr r.cC,by rw[bJ (by rw[<-he2];exact aF hy)];rfl⟩
  have he1:¬(y:Int)=x:=by simpa using he
  conv=>whnf
  refine⟨((i+1:Nat):Int),by rw[wrap64]<;>omega,?_⟩;conv=>whnf
  intro ρ3 w3 r3
  exact⟨(i+1,w3),⟨hib,hw.tr r3.cC,fun j z hj hz=>by
   by_cases hji:j=i
   ·subst hji;rw[hy]at hz;injection hz with hz;omega
   ·exact ht j z (by dsimp only at hj;omega) hz⟩,Sub.gen [] r3 trivial ⟨rfl,rfl,rfl,trivial⟩ (by simp[dG]) (by simp[cV,SV.sc,At.sc]) (by rfl) (fun lo hi h=>h),by dsimp only;omega⟩
 have hib:i=ps.length:=aP hi (by simpa using hib);conv=>whnf
 intro ρ w2 r;refine⟨_,rfl,hw.tr r.cC,?_⟩
 rw[bC (fun hm=>by
  obtain⟨j,hj,e⟩:=List.mem_iff_getElem.1 hm
  exact ht j _ (by omega) (aB hj) e)]
 rfl
def dK(w:World)(S:Nat->Prop)(rv:List Value)(K:List (List Rat)):Prop:=rv.length=K.length∧(∀u∈rv,u.oneCell'=true)∧∀(i:Nat) u r,rv[i]? =some u->K[i]? =some r->cP w S u r
section
variable{S S':Nat->Prop}{H:Hp}{nx:Nat}{iv iv':Iv}{B:Nat}{w w' w2:World}{ρ:Nat->Sx.dc}{rv:List Value}{K:List (List Rat)}
theorem dK.cD(h:dK w S rv K)(hk:∀g,S g->w2.heap[g]? =w.heap[g]?):dK w2 S rv K:=⟨h.1,h.2.1,fun i u x h1 h2=>cP.cD (h.2.2 i u x h1 h2) hk⟩
theorem dK.cG(h:dK w S rv K)(hk:∀g,S g->S' g):dK w S' rv K:=⟨h.1,h.2.1,fun i u x h1 h2=>cP.cG (h.2.2 i u x h1 h2) hk⟩
theorem dK.rel(h:dK w (Cv S B iv) rv K)(r:Rel H nx iv B w ρ w')(hS:∀g,S g->g<B):dK w' (Cv S B iv) rv K:=h.cD fun _ hg=>Rel.same r hS hg
theorem dK.cB(h:dK w (Cv S B iv) rv K)(r:Rel H nx iv B w ρ w')(hS:∀g,S g->g<B)(he:Ext w' w2)(hm:∀p,p∈iv->p∈iv'):dK w2 (Cv S B iv') rv K:=
 ((h.rel r hS).cD fun g hg=>he.block g (Rel.old r hS g hg)).cG fun _ hg=>hg.mono hm
theorem dK.push{u:Value}{x:List Rat}(h:dK w S rv K)(hu:u.oneCell'=true)(hx:cP w S u x):dK w S (rv++[u]) (K++[x]):=by
 refine⟨by simp[h.1],fun v hv=>?_,fun i v y h1 h2=>?_⟩
 ·rcases bR.1 hv with hv|hv
  ·exact h.2.1 v hv
  ·simp at hv;subst hv;exact hu
 ·rcases aV i rv.length with hi|hi
  ·rw[aL hi]at h1;rw[aL (by rw[<-h.1];exact hi)]at h2;exact h.2.2 i v y h1 h2
  ·have hi0:i=rv.length:=by have:=(aE.1 h1).1;simp at this;omega
   subst hi0;rw[aQ (aG _),bI]at h1;rw[h.1,aQ (aG _),bI]at h2;simp at h1 h2;subst h1 h2;exact hx
end
theorem JB{H:Hp}{nx:Nat}{iv:Iv}{B:Nat}{w w':World}{ρ:Nat->Sx.dc}(r:Rel H nx iv B w ρ w'){id n:Nat}{css:List (List Value)}(h:dA H id=some (.arr T.Rat css.flatten))(hl:css.length=n)(h4:∀cs∈css,cs.length=4)(hn:n<=maxLen):
  w'.ownsRow 0 T.Rat 4 (.slice (some ⟨(ρ id).g,0,none⟩) n n) n css.flatten:=by
 have hf:=eX h4;rw[hl]at hf;exact⟨hf,.inr ⟨(ρ id).g,n,css.flatten.toArray,rfl,aN _,r.arr id _ _ h,aG _,hn,by simpa using hf,by rw[<-hf];exact ai⟩⟩
theorem dQ.mw{S:Nat->Prop}{H:Hp}{nx:Nat}{iv:Iv}{B:Nat}{w w':World}{ρ:Nat->Sx.dc}(r:Rel H nx iv B w ρ w'){id n:Nat}{css:List (List Value)}{qs:List Rat}(h:dA H id=some (.arr T.Rat css.flatten))(hl:css.length=n)(hn:n<=maxLen)(hc:Fc w (Cv (fun _=>False) B iv) css qs):
  dQ w' S B (((ρ id).g,(ρ id).g+1)::iv) (.slice (some ⟨(ρ id).g,0,none⟩) n n) n qs:=by
 refine⟨⟨css,JB r h hl hc.uu hn,hl,(hc.cD fun g hg=>Rel.same r (fa B) hg).cG fun g hg=>⟨?_,fun e=>?_⟩⟩,fun g hg=>?_⟩
 ·exact Aq (hg.mono fun p hp=>aD _ hp)
 ·injection e with e;exact Rel.not r (fa B) hg id _ h (r.fits h).1 e
 ·injection hg with hg;subst hg;exact .inr ⟨(r.low id _ h (r.fits h).1).1,_,_,aJ,aG _,bY _⟩
theorem dQ.Jk{S:Nat->Prop}{iv:Iv}{B n:Nat}{w:World}{v:Value}{qs:List Rat}(h:dQ w S B iv v n qs):cP w (Cv S B iv) v qs:=by
 obtain⟨css,h1,h2⟩:=h.read;exact⟨css,h1,h2.1,h2.uu,h2.2⟩
def iO(w:World)(S:Nat->Prop)(css:List (List Value))(k:Nat):Prop:=∀(j:Nat) cs,j<k->css[j]? =some cs->gU w S cs 0
theorem iO.rel{S:Nat->Prop}{H:Hp}{nx:Nat}{iv:Iv}{B:Nat}{w w':World}{ρ:Nat->Sx.dc}{css:List (List Value)}{k:Nat}(h:iO w (Cv S B iv) css k)(r:Rel H nx iv B w ρ w')(hS:∀g,S g->g<B):iO w' (Cv S B iv) css k:=fun j cs h1 h2=>(h j cs h1 h2).cD fun _ hg=>Rel.same r hS hg
theorem iO.cB{S:Nat->Prop}{H:Hp}{nx:Nat}{iv iv':Iv}{B:Nat}{w w' w2:World}{ρ:Nat->Sx.dc}{css:List (List Value)}{k:Nat}(h:iO w (Cv S B iv) css k)(r:Rel H nx iv B w ρ w')(hS:∀g,S g->g<B)(he:Ext w' w2)(hm:∀p,p∈iv->p∈iv'):iO w2 (Cv S B iv') css k:=fun j cs h1 h2=>
 (((h.rel r hS) j cs h1 h2).cD fun g hg=>he.block g (Rel.old r hS g hg)).cG fun _ hg=>hg.mono hm
theorem iO.push{S:Nat->Prop}{w:World}{css:List (List Value)}{k:Nat}{cs:List Value}(h:iO w S css k)(hc:gU w S cs 0):iO w S (css.set k cs) (k+1):=fun j x hj hx=>by
 rw[List.getElem?_set]at hx;split at hx
 ·split at hx
  ·injection hx with hx;subst hx;exact hc
  ·cases hx
 ·exact h j x (by omega) hx
theorem G1{css:List (List Value)}{k:Nat}{cs:List Value}(h:∀x∈css,x.length=4)(hc:cs.length=4):∀x∈css.set k cs,x.length=4:=fun x hx=>by
 rcases bD hx with h1|h1
 ·exact h x h1
 ·rw[h1];exact hc
theorem iO.one{S:Nat->Prop}{w:World}{css:List (List Value)}{c n:Nat}{cs:List Value}(h:iO w S css n)(hl:css.length=n)(hc:gU w S cs 1):Fc w S (css.set c cs) ((List.replicate n 0).set c 1):=by
 refine⟨by simp[hl],fun j x q h1 h2=>?_⟩;rw[List.getElem?_set]at h1 h2;by_cases hj:c=j
 ·rw[if_pos hj]at h1 h2;split at h1
  ·split at h2
   ·injection h1 with h1;injection h2 with h2;subst h1 h2;exact hc
   ·cases h2
  ·cases h1
 ·rw[aK hj]at h1 h2;have hjn:j<n:=by have:=(aE.1 h1).1;omega
  rw[List.getElem?_replicate,if_pos hjn]at h2;injection h2 with h2;subst h2;exact h j x hjn h1
end Go.Ex
namespace Go.Ex
theorem FX(s:List (List Rat)×List Nat)(c:Nat):(dP s c).2=s.2∨(dP s c).2=s.2++[c]:=by
 unfold dP;split
 ·dsimp only
  split
  ·exact .inl rfl
  ·exact .inr rfl
 ·exact .inl rfl
theorem ll(M:List (List Rat)):∀c:Nat,(∀p∈((List.range c).foldl dP (M,[])).2,p<c)∧(((List.range c).foldl dP (M,[])).2).Pairwise (· < ·)∧((List.range c).filter fun j=>decide (j∉((List.range c).foldl dP (M,[])).2)).length+((List.range c).foldl dP (M,[])).2.length=c:=by
 intro c
 induction c with
 |zero=>simp
 |succ c ih=>
  rw[bH,List.foldl_append,List.foldl_cons,List.foldl_nil];generalize (List.range c).foldl dP (M,[])=s at*
  obtain⟨h1,h2,h3⟩:=ih;have hc:c∉s.2:=fun h=>by have:=h1 c h;omega
  rcases FX s c with e|e
  ·rw[e];refine⟨fun p hp=>by have:=h1 p hp;omega,h2,?_⟩;rw[List.filter_append,List.length_append];simp only[List.filter_cons,hc,not_false_eq_true,decide_true,if_true,List.filter_nil,List.length_singleton]
   omega
  ·rw[e];refine⟨fun p hp=>?_,?_,?_⟩
   ·rcases bR.1 hp with hp|hp
    ·have:=h1 p hp;omega
    ·simp at hp;omega
   ·rw[List.pairwise_append];exact⟨h2,by simp,fun a ha b hb=>by simp at hb;subst hb;exact h1 a ha⟩
   ·rw[List.filter_append,List.length_append];have:(List.range c).filter (fun j=>decide (j∉s.2++[c]))=(List.range c).filter (fun j=>decide (j∉s.2)):=List.filter_congr fun j hj=>by
     have:=List.mem_range.1 hj;have hne:j≠c:=by omega
     simp[hne]
    have h0:(([c]:List Nat).filter fun j=>decide (j∉s.2++[c])).length=0:=by simp
    rw[this,List.length_append,List.length_singleton,h0];omega
end Go.Ex
namespace Go.Ex
open Go Go.Sx Go.Proofs
section
variable{S S':Nat->Prop}{H:Hp}{nx:Nat}{iv iv':Iv}{B:Nat}{w w' w2:World}{ρ:Nat->Sx.dc}{v:Value}{M:List (List (Int×Int))}
end
section
variable{S S':Nat->Prop}{H:Hp}{nx:Nat}{iv iv':Iv}{B:Nat}{w w' w2:World}{ρ:Nat->Sx.dc}{v:Value}{qs:List Rat}
end
section
variable{S S':Nat->Prop}{H:Hp}{nx:Nat}{iv iv':Iv}{B:Nat}{w w' w2:World}{ρ:Nat->Sx.dc}{v:Value}{M:List (List Rat)}
end
section
variable{S S':Nat->Prop}{H:Hp}{nx:Nat}{iv iv':Iv}{B:Nat}{w w' w2:World}{ρ:Nat->Sx.dc}{v:List Value}{M:List (List Rat)}
end
theorem lD(w:World)(t e:TypeId)(a:Option Addr)(n c n' c':Nat)(h:PG.underlying t=some (.slice e)):
  (binOp .eql t (.slice a n c) (.slice none n' c')).run PG w= .ok (.bool a.isNone) w:=by
 have:∀d,(Op.equalIn (d+1) t (.slice a n c) (.slice none n' c')).run PG w= .ok a.isNone w:=fun d=>by cases a<;>simp[Op.equalIn,run_underlying h]
 simp only[binOp]
 cases a<;>simp[Op.equal,Op.maxDepth,this 9999]
end Go.Ex
