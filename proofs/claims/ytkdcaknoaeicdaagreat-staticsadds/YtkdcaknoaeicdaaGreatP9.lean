/- A part of the proof: texts X132 to XTg. Each tells its conditions in its theorems. -/
import Derived.Test.YtkdcaknoaeicdaaGreatP7
import Derived.Test.YtkdcaknoaeicdaaGreatP8
namespace Go.Ex
open Go Go.Sx Go.Proofs
theorem JG{C S:Nat->Prop}{w:World}{v vby vs:Value}{n h:Nat}{qs ps:List Rat}{p:Rat}(hC:Old C w)(hS:Old S w)(hrw:gq w S v n qs)(hby:eX w S vby p)
  (hs:fh w C S vs ps) (hpl:ps.length=n) (hdis:∀g,v.ownBlock=some g->¬S g) (hdc:∀g,v.ownBlock=some g->¬C g) (hq:∀q∈qs,rl q+1<=h) (hps:∀q∈ps,rl q+1<=h) (hb:rl p+1<=h) (hh:3*h<=90000):
  du PG N.nE #[v,vs,vby] w (fun e w2=>e= .returned (.tuple #[])∧w.grownBy w2 v.ownBlock∧gq w2 (Nw S w w2) v n (lA qs ps p)):=by
 obtain⟨css,hrow,hcl,hfr⟩:=hrw;have hlow:∀g,v.ownBlock=some g->g<w.heap.size:=fun g hg=>(ownsRow.low hrow g hg).2;have hout:∀iv g,v.ownBlock=some g->Out w.heap.size iv g:=fun iv g hg=>.inl (hlow g hg);have hdis2:∀iv g,v.ownBlock=some g->¬Cv S w.heap.size iv g:=fun iv g hg h=>by
  rcases h with h|⟨h,_⟩
  ·exact hdis g hg h
  ·have:=hlow g hg;omega
 have hdis3:∀iv g,v.ownBlock=some g->¬Cv C w.heap.size iv g:=fun iv g hg h=>by
  rcases h with h|⟨h,_⟩
  ·exact hdc g hg h
  ·have:=hlow g hg;omega
 have hql:qs.length=n:=by rw[<-hfr.1,hcl]
 obtain⟨a,c,rfl,hnc⟩:=jh hrow;obtain⟨b1,a1,n1,c1,b2,a2,n2,c2,rfl⟩:=hby.shape;obtain⟨asl,cs0,rfl,hsc,hnm⟩:=hs.shape;rw[hpl]at hsc hnm hs ⊢;unfold maxLen at hnm;replace hfr:=hfr.cC (S':=Cv S w.heap.size []) fun _ h=>.inl h;replace hby:=hby.arg [];replace hs:=hs.arg [];refine vR (by simp) ?_;have hrow2:=hrow;have hg:w.grownBy w (Value.slice a n c).ownBlock:=⟨rfl,rfl,rfl,aE _,fun _ _ _=>rfl⟩
 have hbyl:rl p<=100000:=hby.rl
 refine⟨Nat×List (List Value)×Iv×World,fun z=>⟨[(0,.o (.v (.slice a n c))),(5,.o (.p 0 0)),(8,.o (.v (.slice asl n cs0))),(9,.o (.v (.int .i64 n))),(10,.o (.v (.int .i64 z.1)))],
   [(0,.box T.Rat [.v (.bool b1),.v (.slice a1 n1 c1),.v (.bool b2),.v (.slice a2 n2 c2)])],1,z.2.2.1,z.2.2.2⟩,fun z=>n-z.1,
  fun z=>z.1<=n∧w.grownBy z.2.2.2 (Value.slice a n c).ownBlock∧z.2.2.2.ownsRow 0 T.Rat 4 (.slice a n c) n z.2.1.flatten∧z.2.1.length=n∧Fc z.2.2.2 (Cv S w.heap.size z.2.2.1) z.2.1 (gQ z.1 (xA (-p) ps) qs)∧
   eX z.2.2.2 (Cv S w.heap.size z.2.2.1) (.agg #[.bool b1,.slice a1 n1 c1,.bool b2,.slice a2 n2 c2]) p∧fh z.2.2.2 (Cv C w.heap.size z.2.2.1) (Cv S w.heap.size z.2.2.1) (.slice asl n cs0) ps,?_,?_⟩
 ·intro O w' r
  refine⟨(0,css,[],w'),⟨by simp,fw hg r.cI,nM hrow2 (hout []) r,hcl,by rw[qu];exact hfr.rel r hS,hby.rel r hS,hs.rel r hC hS⟩,
   Sub.gn [] r⟩
 rintro⟨i,css,iv,w1⟩ ⟨hi,hg,hrow,hcl,hfr,hby,hs⟩;dsimp only at hi hg hrow hcl hfr hby hs ⊢;refine dH.mk (fun h=>?_) (fun h=>?_)
 ·have h:i<n:=by simpa using h
  obtain⟨cs,hcs⟩:∃cs,css[i]? =some cs:=⟨_,aA (by omega)⟩
  obtain⟨q,hqi⟩:∃q,qs[i]? =some q:=⟨_,aA (by omega)⟩
  obtain⟨f,hfi⟩:∃f,ps[i]? =some f:=⟨_,aA (by omega)⟩
  have hF:=hfr.2 i cs q hcs (ya hqi);have hadd:xA (-p) ps i q=q-p*f:=by simp only[xA,List.getD,hfi,Option.getD_some];grind
  obtain⟨d1,e1,m1,k1,d2,e2,m2,k2,rfl,hF⟩:=hF;have hrlq:=hq q (aD hqi);have hrlf:=hps f (aD hfi);obtain⟨ad,fcs,had,hff,hfl⟩:=hs.load hfi;obtain⟨f1,g1,o1,u1,f2,g2,o2,u2,rfl,hff⟩:=hff;refine⟨ad,had,by omega,[.bool f1,.slice g1 o1 u1,.bool f2,.slice g2 o2 u2],rfl,fun O w' r j x hx=>?_,?_⟩
  ·have hs2:=hs.rel r hC hS;obtain⟨k2',k3⟩:=hfl j x hx;have:=Rel.same r hC k2';rw[aJ,cJ (w:=w1) (w2:=w') (by rw[dq,dq];exact this)];exact k3
  refine bu (cH (Φ:=fun _ _ v _=>∃d,v= .bool d∧(d=true↔f=0)) (fun O w' r=>pU (Rel.old r hS) ((hff.rel r hS).l (by omega))) ?_);rintro O wa v1 wb r he hbl ⟨dz,rfl,hz⟩;replace hby:=hby.bz (iv':=(wa.heap.size,wb.heap.size)::iv) r hS he fun x hx=>aB _ hx;replace hfr:=hfr.bz (iv':=(wa.heap.size,wb.heap.size)::iv) r hS he fun x hx=>aB _ hx;replace hs:=hs.bz (iv':=(wa.heap.size,wb.heap.size)::iv) r hC hS he fun x hx=>aB _ hx;replace hff:=hff.bz (iv':=(wa.heap.size,wb.heap.size)::iv) r hS he fun x hx=>aB _ hx;replace hF:=hF.bz (iv':=(wa.heap.size,wb.heap.size)::iv) r hS he fun x hx=>aB _ hx;replace hrow:wb.ownsRow 0 T.Rat 4 (.slice a n c) n css.flatten:=ownsRow.cB (nM hrow (hout iv) r) fun b hb=>he.block b (by have:=hlow b hb;have:=r.bw;omega);replace hg:w.grownBy wb _:=fw hg hbl;generalize (wa.heap.size,wb.heap.size)::iv=iv2 at*
  cases dz
  ·refine cD hτ df [.x 0,.x 1,.x 2,.x 3,.x 4,.x 5,.x 6,.x 7,.x 8,.x 9,.x 10,.x 11] (by kernel_rfl) (by kernel_rfl) ?_;obtain⟨g,rfl,hload⟩:=Ca hrow hfr hcs;refine⟨⟨g,0,none⟩,rfl,by omega,[.bool d1,.slice e1 m1 k1,.bool d2,.slice e2 m2 k2],rfl,fun O w' r j x hx=>?_,?_⟩
   ·have:=Ca (nM hrow (hout iv2) r) (hfr.rel r hS) hcs;obtain⟨g',h1,h2⟩:=this;injection h1 with h1;rw[<-h1]at h2;exact h2 j x hx
   have hl1:=jL p f;refine cH (Φ:=fun _ w' v w2=>cP w2 (Nf w' w2) v (p*f)) (fun O w' r=>y9 (Rel.old r hS) (hby.rel r hS).v ((hff.rel r hS).v (by omega))) ?_;rintro O wa v1 wb r he hbl hP;have hPN:=hP.dB (S:=S) r.bw (iv:=(wa.heap.size,wb.heap.size)::iv2) aI;replace hby:=hby.bz (iv':=(wa.heap.size,wb.heap.size)::iv2) r hS he fun x hx=>aB _ hx;replace hfr:=hfr.bz (iv':=(wa.heap.size,wb.heap.size)::iv2) r hS he fun x hx=>aB _ hx;replace hs:=hs.bz (iv':=(wa.heap.size,wb.heap.size)::iv2) r hC hS he fun x hx=>aB _ hx;replace hF:=hF.bz (iv':=(wa.heap.size,wb.heap.size)::iv2) r hS he fun x hx=>aB _ hx;replace hrow:wb.ownsRow 0 T.Rat 4 (.slice (some ⟨g,0,none⟩) n c) n css.flatten:=ownsRow.cB (nM hrow (hout iv2) r) fun b hb=>he.block b (by have:=hlow b hb;have:=r.bw;omega);replace hg:w.grownBy wb _:=fw hg hbl;generalize (wa.heap.size,wb.heap.size)::iv2=iv3 at*
   obtain⟨b5,a5,n5,c5,b6,a6,n6,c6,rfl⟩:=hPN.shape;refine cH (Φ:=fun _ w' v w2=>cP w2 (Nf w' w2) v (q-p*f)) (fun O w' r=>Hc (Rel.old r hS) ((hF.rel r hS).v (by omega)) ((hPN.rel r hS).v (by omega))) ?_;rintro O wc v2 wd r he hbl hQ;have hQN:=hQ.dB (S:=S) r.bw (iv:=(wc.heap.size,wd.heap.size)::iv3) aI;replace hby:=hby.bz (iv':=(wc.heap.size,wd.heap.size)::iv3) r hS he fun x hx=>aB _ hx;replace hfr:=hfr.bz (iv':=(wc.heap.size,wd.heap.size)::iv3) r hS he fun x hx=>aB _ hx;replace hs:=hs.bz (iv':=(wc.heap.size,wd.heap.size)::iv3) r hC hS he fun x hx=>aB _ hx;replace hrow:wd.ownsRow 0 T.Rat 4 (.slice (some ⟨g,0,none⟩) n c) n css.flatten:=ownsRow.cB (nM hrow (hout iv3) r) fun b hb=>he.block b (by have:=hlow b hb;have:=r.bw;omega);replace hg:w.grownBy wd _:=fw hg hbl;generalize (wc.heap.size,wd.heap.size)::iv3=iv4 at*
   obtain⟨b7,a7,n7,c7,b8,a8,n8,c8,rfl⟩:=hQN.shape;rw[<-hadd]at hQN;refine⟨⟨g,0,none⟩,rfl,by omega,?_⟩;intro O w' r;have hrow3:=nM hrow (hout iv4) r;have hF5:=(hQN.rel r hS).s5;obtain⟨g',hg',hok,hst,hgr,hsz⟩:=oI (nv:=[.bool b7,.slice a7 n7 c7,.bool b8,.slice a8 n8 c8]) hrow3 rfl h rfl (by decide);injection hg' with hg';injection hg' with hg';subst hg';have hset:=jg (cs:=[.bool b7,.slice a7 n7 c7,.bool b8,.slice a8 n8 c8]) hfr.zN (show i<css.length by omega);rw[hset]at hst;have hkeep:∀x,Cv S w.heap.size iv4 x->(setCells w' ⟨g,i*4,none⟩ [.bool b7,.slice a7 n7 c7,.bool b8,.slice a8 n8 c8]).heap[x]? =w'.heap[x]? :=fun x hx=>
    hgr.block x (Rel.old r hS x hx) fun e=>hdis2 iv4 g rfl (by injection e with e;rw[<-e];exact hx)
   have had2:(⟨g,0,none⟩:Addr).add ((i:Int).toNat*4)=⟨g,i*4,none⟩:=by rw[aJ,dN,aU]
   have hF6:=((hfr.rel r hS).cB hkeep).set (j:=i) (hF5.cB hkeep);rw[nN (f:=xA (-p) ps) hqi]at hF6;have hby6:=(hby.rel r hS).cB hkeep;have hkeep3:∀x,Cv C w.heap.size iv4 x->(setCells w' ⟨g,i*4,none⟩ [.bool b7,.slice a7 n7 c7,.bool b8,.slice a8 n8 c8]).heap[x]? =w'.heap[x]? :=fun x hx=>
    hgr.block x (Rel.old r hC x hx) fun e=>hdis3 iv4 g rfl (by injection e with e;rw[<-e];exact hx)
   have hs6:=(hs.rel r hC hS).cB fun x hx=>hx.elim (hkeep3 x) (hkeep x);replace hg:w.grownBy (setCells w' ⟨g,i*4,none⟩ [.bool b7,.slice a7 n7 c7,.bool b8,.slice a8 n8 c8]) (some g):=gF (fw hg r.cI) hgr;have hnot:=fun id b hb hn=>Rel.not r (fun _ h=>h) (hout iv4 g rfl) id b hb hn;refine⟨by rw[had2],fun k hk=>by rw[had2];exact hok k hk,fun id b hb hn=>by rw[had2];exact hnot id b hb hn,fun w2 hw2=>?_⟩;have hw2:w2=setCells w' ⟨g,i*4,none⟩ [.bool b7,.slice a7 n7 c7,.bool b8,.slice a8 n8 c8]:=by rw[hw2];exact congrArg (fun x=>setCells w' x _) had2
   rw[<-hw2]at hF6 hby6 hst hg hsz hs6;refine⟨((i+1:Nat):Int),wo,?_⟩;intro ρ3 w3 r3
   exact⟨(i+1,css.set i [.bool b7,.slice a7 n7 c7,.bool b8,.slice a8 n8 c8],iv4,w3),⟨h,fw hg r3.cI,nM hst (hout iv4) r3,by simpa using hcl,hF6.rel r3 hS,hby6.rel r3 hS,hs6.rel r3 hC hS⟩,
    Sub.gn [] r3,by dsimp only;omega⟩
  ·have hf0:f=0:=hz.1 rfl;have hsame:xA (-p) ps i q=q:=by rw[hadd,hf0];grind
   refine⟨((i+1:Nat):Int),wo,?_⟩;intro ρ3 w3 r3
   exact⟨(i+1,css,iv2,w3),⟨h,fw hg r3.cI,nM hrow (hout iv2) r3,hcl,by rw[<-Dr hqi hsame];exact hfr.rel r3 hS,hby.rel r3 hS,hs.rel r3 hC hS⟩,
    Sub.gn [] r3,by dsimp only;omega⟩
 ·have h:i=n:=by
   have:¬i<n:=by simpa using h
   omega
  subst h;intro ρ5 w5 r5;refine⟨rfl,fw hg r5.cI,css,nM hrow (hout iv) r5,hcl,?_⟩;have:=(hfr.rel r5 hS).cC (S':=Nw S w w5) fun g hg=>Cv.nw hg r5
  rwa [<-hql,tx]at this
section
variable{S:Nat->Prop}{w:World}{v u vx vk vp:Value}{z:Int}{M K:List (List (Int×Int))}{b X P:List (Int×Int)}
end
end Go.Ex
namespace Go.Sx
open Go Go.Ex Go.Proofs
variable{cs:List Value}{O:Nat->Sx.dU}
theorem Sub.Kq{B:Nat}{l tl:Env}{nx:Nat}{H tH:Hp}{iv:Iv}{w w':World}{id t n sz:Nat}{e:TypeId}(r:Rel H nx iv B w O w')(hid:cY H id=some (.vec e sz cs))(hn:(O id).nil=false)(ht:fF l t=some (.o (.w id n)))
  (hs:uz H tH) (ho:Bm id tH=true) (h1:Bi l tl) (h2:ko nx tl):
  Sub B l nx O w' ⟨(t,.o (.v (.slice (some ⟨(O id).g,0,none⟩) n (O id).cap)))::tl,tH,nx,((O id).g,(O id).g+1)::iv,w'⟩:=
 ⟨O,r.free hid (by simp) hn hs ho,fun u v hv=>s3 hn ht h1 h2 u v hv⟩
end Go.Sx
namespace Go.Ex
open Go Go.Sx Go.Proofs
end Go.Ex
namespace Go.Ex
open Go Go.Sx Go.Proofs
variable{css:List (List Value)}{qs ri:List Rat}{rv:List Value}{c i:Nat}{a:Option Addr}{row:Option Nat}{q:Rat}{v:Value}
def Ob(rv:List Value)(g:Nat):Prop:=∃v∈rv,v.ownBlock=some g
def Lr(S:Nat->Prop)(B:Nat)(iv:Iv)(rv:List Value)(g:Nat):Prop:=Cv S B iv g∧¬Ob rv g
structure kf(w:World)(S:Nat->Prop)(B:Nat)(iv:Iv)(rv:List Value)(n:Nat)(M:List (List Rat)):Prop where
 len:rv.length=M.length
 row:∀(i:Nat) v qs,rv[i]? =some v->M[i]? =some qs->gq w (Lr S B iv rv) v n qs
 DF:∀(i j:Nat) a b g,rv[i]? =some a->rv[j]? =some b->a.ownBlock=some g->b.ownBlock=some g->i=j
 new:∀g,Ob rv g->Cv (fun _=>False) B iv g
theorem Ob.append{g:Nat}:Ob (rv++[v]) g↔Ob rv g∨v.ownBlock=some g:=by
 unfold Ob;simp[or_and_right,exists_or]
section
variable{S S':Nat->Prop}{H:Hp}{nx n:Nat}{iv iv':Iv}{B:Nat}{w w' w2:World}{O:Nat->Sx.dU}{rv:List Value}{M:List (List Rat)}
theorem kf.nil:kf w S B iv [] n []:=⟨rfl,fun i v qs h=>(by cases h),fun i j a b g h=>(by cases h),fun g ⟨v,hv,_⟩=>by cases hv⟩
theorem kf.cB(h:kf w S B iv rv n M)(hk:∀g,Cv S B iv g->w2.heap[g]? =w.heap[g]?):kf w2 S B iv rv n M:=
 ⟨h.len,fun i v qs h1 h2=>(h.row i v qs h1 h2).cB fun g hg=>hg.elim (fun hg=>hk g hg.1) fun hg=>hk g (Ia (h.new g ⟨v,aD h1,hg⟩)),h.DF,h.new⟩
theorem kf.rel(h:kf w S B iv rv n M)(r:Rel H nx iv B w O w')(hS:∀g,S g->g<B):kf w' S B iv rv n M:=h.cB fun _ hg=>Rel.same r hS hg
theorem kf.mono(h:kf w S B iv rv n M)(hm:∀p,p∈iv->p∈iv'):kf w S B iv' rv n M:=
 ⟨h.len,fun i v qs h1 h2=>(h.row i v qs h1 h2).cC fun _ hg=>⟨hg.1.mono hm,hg.2⟩,h.DF,fun g hg=>(h.new g hg).mono hm⟩
theorem kf.bz(h:kf w S B iv rv n M)(r:Rel H nx iv B w O w')(hS:∀g,S g->g<B)(he:Ext w' w2)(hm:∀p,p∈iv->p∈iv'):kf w2 S B iv' rv n M:=
 ((h.rel r hS).cB fun g hg=>he.block g (Rel.old r hS g hg)).mono hm
theorem kf.low(h:kf w S B iv rv n M){g:Nat}(hg:Ob rv g):B<=g:=(h.new g hg).elim (fun h=>h.elim) fun h=>h.1
theorem kf.lt(h:kf w S B iv rv n M)(r:Rel H nx iv B w O w'){g:Nat}(hg:Ob rv g):g<w'.heap.size:=Rel.old r (gu B) g (h.new g hg)
theorem Lr.grown(r:Rel H nx iv B w O w')(hS:∀g,S g->g<B)(hg:w'.grownBy w2 row)(hrow:∀g,row=some g->Ob rv g):∀g,Lr S B iv rv g->w2.heap[g]? =w.heap[g]? :=fun g h=>by
 rw[hg.block g (Rel.old r hS g h.1) fun e=>h.2 (hrow g e.symm),Rel.same r hS h.1]
theorem kf.cI(h:kf w S B iv rv n M)(r:Rel H nx iv B w O w')(hg:w'.grownBy w2 row)(hrow:∀g,row=some g->Ob rv g):cQ B w' w2:=
 cQ.grown hg (fun g e=>h.low (hrow g e)) r.bw
theorem kf.setRow(h:kf w' S B iv rv n M)(hlt:∀g,Cv S B iv g->g<w'.heap.size){vi:Value}(hvi:rv[i]? =some vi)(hgr:w'.grownBy w2 vi.ownBlock)(hB:B<=w'.heap.size)
  (hq:gq w2 (Nw (Lr S B iv rv) w' w2) vi n qs):kf w2 S B ((w'.heap.size,w2.heap.size)::iv) rv n (M.set i qs):=by
 have hnw:∀g,Nw (Lr S B iv rv) w' w2 g->Lr S B ((w'.heap.size,w2.heap.size)::iv) rv g:=fun g hg=>by
  rcases hg with hg|hg
  ·exact⟨hg.1.mono fun p hp=>aB _ hp,hg.2⟩
  ·exact⟨.inr ⟨by omega,_,_,aI,hg.1,hg.2⟩,fun hm=>by have:=hlt g (Ia (h.new g hm));omega⟩
 refine⟨by rw[b9];exact h.len,fun k v ps h1 h2=>?_,h.DF,fun g hg=>(h.new g hg).mono fun p hp=>aB _ hp⟩;by_cases hk:i=k
 ·subst hk;rw[hvi]at h1;injection h1 with h1;subst h1;rw[aT (by rw[<-h.len];exact(aC.1 hvi).1)]at h2;injection h2 with h2;subst h2;exact hq.cC hnw
 ·rw[aw hk]at h2;refine((h.row k v ps h1 h2).cB fun g hg=>?_).cC fun g hg=>⟨hg.1.mono fun p hp=>aB _ hp,hg.2⟩
  rcases hg with hg|hg
  ·exact hgr.block g (hlt g hg.1) fun e=>hg.2 ⟨vi,aD hvi,e.symm⟩
  ·exact hgr.block g (hlt g (Ia (h.new g ⟨v,aD h1,hg⟩))) fun e=>hk (h.DF i k vi v g hvi h1 e.symm hg)
theorem kf.BF(hM:kf w S B iv rv n M)(r:Rel H nx iv B w O w')(hS:∀g,S g->g<B){i j h:Nat}{vi vj vby:Value}{ri rj:List Rat}{p:Rat}(hij:i≠j)(hvi:rv[i]? =some vi)(hvj:rv[j]? =some vj)(hri:M[i]? =some ri)(hrj:M[j]? =some rj)
  (hby:eX w (Lr S B iv rv) vby p) (hq:∀q∈ri,rl q+1<=h) (hqj:∀q∈rj,rl q+1<=h) (hb:rl p+1<=h) (hh:3*h<=90000):
  du PG N.nE #[vi,vj,vby] w' (fun e w2=>e= .returned (.tuple #[])∧w'.grownBy w2 vi.ownBlock∧(∀g,vi.ownBlock=some g->Ob rv g)∧kf w2 S B ((w'.heap.size,w2.heap.size)::iv) rv n (M.set i (lA ri rj p))):=by
 have hMr:=hM.rel r hS;have h1:=hMr.row i vi ri hvi hri;have h2:=hMr.row j vj rj hvj hrj;have hmi:∀g,vi.ownBlock=some g->Ob rv g:=fun g hg=>⟨_,aD hvi,hg⟩
 have hmj:∀g,vj.ownBlock=some g->Ob rv g:=fun g hg=>⟨_,aD hvj,hg⟩
 refine(JG (C:=fun g=>vj.ownBlock=some g) (S:=Lr S B iv rv) (fun x hx=>hM.lt r (hmj x hx)) (fun g hg=>Rel.old r hS g hg.1) h1 (eX.cB hby fun g hg=>Rel.same r hS hg.1) h2.read h2.len (fun g hg hx=>hx.2 (hmi g hg)) (fun g hg hx=>hij (hM.DF i j _ _ g hvi hvj hg hx)) hq hqj hb hh).mono fun e w8 he=>?_;obtain⟨rfl,hgr,hrow⟩:=he;exact⟨rfl,hgr,hmi,hMr.setRow (fun g hg=>Rel.old r hS g hg) hvi hgr r.bw hrow⟩
theorem kf.form(hM:kf w S B iv rv n M)(hv:rv[i]? =some v):∃a c,v= .slice a n c:=by
 obtain⟨qs,hq⟩:∃qs,M[i]? =some qs:=⟨_,aA (by rw[<-hM.len];exact(aC.1 hv).1)⟩
 obtain⟨a,c,h,_⟩:=(hM.row i v qs hv hq).form;exact⟨a,c,h⟩
theorem kf.load(hM:kf w S B iv rv n M){k:Nat}(hv:rv[i]? =some (.slice a n c))(hq:M[i]? =some qs)(hk:qs[k]? =some q):
  ∃ad cs,a=some ad∧iT w (Lr S B iv rv) cs q∧∀j u,cs[j]? =some u->Cv (fun _=>False) B iv ad.block∧w.cell? ((ad.add (k*4)).add j)=some u:=by
 obtain⟨ad,cs,h1,h2,h3⟩:=fh.load (hM.row i _ qs hv hq).read hk;refine⟨ad,cs,h1,h2,fun j u hu=>⟨?_,(h3 j u hu).2⟩⟩;have:=(h3 j u hu).1;exact hM.new _ ⟨_,aD hv,this⟩
theorem kf.store(hM:kf w S B iv rv n M)(r:Rel H nx iv B w O w')(hS:∀g,S g->g<B){k:Nat}{a1 a2:Option Addr}{n1 c1 n2 c2:Nat}{b b2:Bool}(hvi:rv[i]? =some (.slice a n c))(hri:M[i]? =some ri)(hk:k<n)
  (hf:cP w (Lr S B iv rv) (.agg #[.bool b,.slice a1 n1 c1,.bool b2,.slice a2 n2 c2]) q):
  ∃g,a=some ⟨g,0,none⟩∧((⟨g,0,none⟩:Addr).add ((k:Int).toNat*4)).spot=none∧
   (∀j,j<4->(w'.cell? (((⟨g,0,none⟩:Addr).add ((k:Int).toNat*4)).add j)).isSome=true∧w'.frozen? (((⟨g,0,none⟩:Addr).add ((k:Int).toNat*4)).add j)=false)∧
   (∀id b,cY H id=some b->(O id).nil=false->(O id).g≠((⟨g,0,none⟩:Addr).add ((k:Int).toNat*4)).block)∧
   ∀w2,w2=setCells w' ((⟨g,0,none⟩:Addr).add ((k:Int).toNat*4)) [.bool b,.slice a1 n1 c1,.bool b2,.slice a2 n2 c2]->kf w2 S B iv rv n (M.set i (ri.set k q))∧cQ B w' w2∧Rel H nx iv B w2 O w2∧∀g,Lr S B iv rv g->w2.heap[g]? =w.heap[g]? :=by
 have hMr:=hM.rel r hS;have hmi:∀g,(Value.slice a n c).ownBlock=some g->Ob rv g:=fun g hg=>⟨_,aD hvi,hg⟩
 obtain⟨g,rfl,h1,h2,h3,h4⟩:=(hMr.row i _ ri hvi hri).store hk (hf.cB fun g hg=>Rel.same r hS hg.1) (fun g hg hx=>hx.2 (hmi g hg)) (fun x hx=>Rel.old r hS x hx.1);refine⟨g,rfl,h1,h3,fun id b hb hn=>by rw[h2];exact Rel.not r (gu B) (hM.new g (hmi g rfl)) id b hb hn,fun w2 hw2=>?_⟩;obtain⟨k1,k2,k3⟩:=h4 w2 hw2;have hs:=hMr.setRow (fun g hg=>Rel.old r hS g hg) hvi k2 r.bw (k1.cC fun g hg=>.inl hg);refine⟨?_,hM.cI r k2 hmi,r.wh (fun id b hb hn=>Rel.not r (gu B) (hM.new g (hmi g rfl)) id b hb hn) k2,Lr.grown r hS k2 hmi⟩;refine⟨hs.len,fun j v qs h5 h6=>(hs.row j v qs h5 h6).cC fun x hx=>⟨?_,hx.2⟩,hs.DF,fun x hx=>hM.new x hx⟩;rcases hx.1 with hx|⟨m1,lo,hi,m2,m3,m4⟩
 ·exact .inl hx
 ·rcases List.mem_cons.1 m2 with e|m2
  ·injection e with e1 e2;subst e1 e2;omega
  ·exact .inr ⟨m1,lo,hi,m2,m3,m4⟩
theorem kf.push(hM:kf w S B iv rv n M){gx:Nat}(hgx:∀g,Cv S B iv g->g≠gx)(hBx:B<=gx)(hrow:gq w S (.slice (some ⟨gx,0,none⟩) n c) n qs)(hS:∀g,S g->g<B):
  kf w S B ((gx,gx+1)::iv) (rv++[.slice (some ⟨gx,0,none⟩) n c]) n (M++[qs]):=by
 have hob:∀g,Ob rv g->g≠gx:=fun g hg=>hgx g (Ia (hM.new g hg))
 have hlr:∀g,Lr S B iv rv g->Lr S B ((gx,gx+1)::iv) (rv++[.slice (some ⟨gx,0,none⟩) n c]) g:=fun g hg=>⟨hg.1.mono fun p hp=>aB _ hp,fun h=>by
  rcases Ob.append.1 h with h|h
  ·exact hg.2 h
  ·injection h with h;exact hgx g hg.1 h.symm⟩
 refine⟨by simp[hM.len],fun i v ps h1 h2=>?_,fun i j a b g h1 h2 h3 h4=>?_,fun g hg=>?_⟩
 ·rcases aO i rv.length with hi|hi
  ·rw[aK hi]at h1;rw[aK (by rw[<-hM.len];exact hi)]at h2;exact(hM.row i v ps h1 h2).cC hlr
  ·have hi0:i=rv.length:=by have:=(aC.1 h1).1;simp at this;omega
   rw[hi0,aN (aE _),bH]at h1;rw[hi0,hM.len,aN (aE _),bH]at h2;simp at h1 h2;subst h1 h2;refine hrow.cC fun g hg=>⟨.inl hg,fun h=>?_⟩
   have:=hS g hg;rcases Ob.append.1 h with h|h
   ·have:=hM.low h;omega
   ·injection h with h;have h:gx=g:=h;omega
 ·have key:∀(k:Nat) v,(rv++[Value.slice (some ⟨gx,0,none⟩) n c])[k]? =some v->(k<rv.length∧rv[k]? =some v)∨(k=rv.length∧v= .slice (some ⟨gx,0,none⟩) n c):=fun k v hk=>by
   rcases aO k rv.length with hi|hi
   ·rw[aK hi]at hk;exact .inl ⟨hi,hk⟩
   ·have hi0:k=rv.length:=by have:=(aC.1 hk).1;simp at this;omega
    rw[hi0,aN (aE _),bH]at hk;simp at hk;exact .inr ⟨hi0,hk.symm⟩
  rcases key i a h1 with⟨_,k1⟩|⟨e1,rfl⟩<;>rcases key j b h2 with⟨_,k2⟩|⟨e2,rfl⟩
  ·exact hM.DF i j a b g k1 k2 h3 h4
  ·injection h4 with h4;exact absurd h4.symm (hob g ⟨a,aD k1,h3⟩)
  ·injection h3 with h3;exact absurd h3.symm (hob g ⟨b,aD k2,h4⟩)
  ·rw[e1,e2]
 ·rcases Ob.append.1 hg with h|h
  ·exact(hM.new g h).mono fun p hp=>aB _ hp
  ·injection h with h;have h:gx=g:=h;subst h;exact .inr ⟨hBx,_,_,aI,aE _,bl _⟩
theorem kf.drop(hM:kf w S B iv (rv++[v]) n (M++[qs])):kf w S B iv rv n M:=by
 have hl:rv.length=M.length:=by have:=hM.len;simpa using this
 have hob:∀g,Ob rv g->Ob (rv++[v]) g:=fun g hg=>Ob.append.2 (.inl hg);refine⟨hl,fun i u ps h1 h2=>?_,fun i j a b g h1 h2=>hM.DF i j a b g ?_ ?_,fun g hg=>hM.new g (hob g hg)⟩
 ·have hi:=(aC.1 h1).1;exact(hM.row i u ps (by rw[aK hi];exact h1) (by rw[aK (by rw[<-hl];exact hi)];exact h2)).cC fun g hg=>⟨hg.1,fun h=>hg.2 (hob g h)⟩
 ·rw[aK (aC.1 h1).1];exact h1
 ·rw[aK (aC.1 h2).1];exact h2
theorem Kr{id m:Nat}(r:Rel H nx iv B w O w')(h:cY H id=some (.vec T.Rat 4 css.flatten))(hl:css.length=m)(h0:0<m)(hm:m<=maxLen)(hF:Fc w' S css qs):
  (O id).nil=false∧B<=(O id).g∧(∀g,Out B iv g->g≠(O id).g)∧gq w' S (.slice (some ⟨(O id).g,0,none⟩) m (O id).cap) m qs:=by
 have hfl:=fu hF.zN;rcases r.vec id _ _ _ h with⟨_,h2⟩|⟨h1,spare,h2,h3,h4⟩
 ·rw[h2]at hfl;rw[hl]at hfl;simp at hfl;omega
 ·refine⟨h1,(r.low id _ h h1).1,fun g hg e=>?_,css,⟨by rw[hfl,hl],.inr ⟨(O id).g,(O id).cap,_,rfl,aP _,h2,?_,h4,by simpa using h3,by rw[show m*4=css.flatten.length by rw[hfl,hl]];simp⟩⟩,hl,hF⟩
  ·exact Rel.not r (fun _ h=>h) hg id _ h h1 e.symm
  ·rw[List.length_append,hfl,hl]at h3;omega
end
end Go.Ex
namespace Go.Sx
open Go Go.Ex Go.Proofs
variable{O:Nat->Sx.dU}
theorem Sub.zO{B nx:Nat}{l:Env}{H:Hp}{iv:Iv}{w w':World}{t:zl}(id p e sz:Nat){bt:Nat}{cs:List At}(hid:cY H id=some (.box bt cs))(hp:cs[p]? =some (.v (.slice none 0 0)))(hsc:ko nx l)(r:Rel H nx iv B w O w')
  (h:∀ρ1,Rel ((id,.box bt (cs.set p (.w nx 0)))::(nx,.vec e sz [])::H) (nx+1) iv B w ρ1 w'->Sx.Sub B l (nx+1) ρ1 w' t):Sx.Sub B l nx O w' t:=by
 have r1:=r.push (.vec e sz []) ⟨0,0,true⟩ (w2:=w') rfl rfl rfl (aE _) (fun _ _=>rfl) (fun h=>by cases h) (.inl ⟨rfl,rfl⟩) trivial;have hne:id≠nx:=Nat.ne_of_lt (r.keys id _ hid);have hid1:cY ((nx,.vec e sz [])::H) id=some (.box bt cs):=by rw[c9,aF (fun h=>hne h.symm)];exact hid
 have hnn:=r1.nn id _ hid1 (by intros;simp) (by simp);have hcell:=r1.box id bt cs hid1;have hden:(cs.set p (.w nx 0)).map (At.den (Sx.gH O nx ⟨0,0,true⟩))=cs.map (At.den (Sx.gH O nx ⟨0,0,true⟩)):=by
  refine bO fun j=>?_;rw[aM,aM];by_cases hj:p=j
  ·subst hj;rw[aT (aC.1 hp).1,hp];simp[At.den,e8]
  ·rw[aw hj]
 have r2:=r1.store (b':=.box bt (cs.set p (.w nx 0))) (H':=(id,.box bt (cs.set p (.w nx 0)))::(nx,.vec e sz [])::H) (w2:=w') hid1 (by simp) hnn (fun j=>by
  rw[c9];by_cases hj:id=j
  ·subst hj;rw[if_pos rfl]
  ·rw[aF hj,aF (fun h=>hj h.symm)]) rfl rfl rfl rfl (fun _ _=>rfl) ⟨hnn,by rw[hden];exact hcell⟩ (fun x hx=>by
   rcases bU hx with hx|rfl
   ·exact r1.I5 id bt cs hid1 x hx
   ·exact bl nx)
 obtain⟨ρ',h1,h2⟩:=h _ r2;refine⟨ρ',h1,fun x v hv=>?_⟩;obtain⟨h3,v0,h4,h5⟩:=h2 x v hv;refine⟨h3,v0,h4,?_⟩;rw[<-h5];exact SV.jX (fun id hid=>gI id hid) (hsc.get _ _ h4)
end Go.Sx
namespace Go.Ex
open Go Go.Sx Go.Proofs
end Go.Ex
namespace Go.Ex
open Go Go.Sx Go.Proofs
variable{a:Act}{K next:Act->World->Prop}{la lx:Array Bool}{I:Array Bool->World->Prop}{Q:Exit->Act->World->Prop}{b i j:Nat}{oi:Oper}{X:Sem Next}{v:Value}{w:World}{Y:World->Prop}
inductive Tq where
 |nil
 |x (i:Nat) (t:Tq)
 |two (i:Nat) (t:Tq) (j:Nat) (u:Tq)
 |three (i:Nat) (t:Tq) (j:Nat) (u:Tq) (k:Nat) (v:Tq)
section
variable{P:Program}{τ:lu}{ops:Array Oper}{B n nx:Nat}{l:Env}{H:Hp}{iv:Iv}{w w':World}{O:Nat->Sx.dU}{a:Act}
end
section
variable{P:Program}{ops:Array Oper}{Q:Exit->Act->World->Prop}{md:Region.Mode}
theorem GW{oj:Oper}(hj:ops[j]? =some oj)(hap:oi.apart ops oj=true)
  (hsi:∀cs b,oi.op≠ .select cs b) (hsj:∀cs b,oj.op≠ .select cs b)
  (hQ:∀c a w,Q (.panic c) (a.put oi.dst v) w->Q (.panic c) a w)
  (hy:Region.wanted oi (yielded ops a.tmps)=true∧execOp a.eval oi=X) (h:wpOp P ops Q j K (a.put oi.dst v) w):
  wpOp P ops Q j (fun a' w'=>(Region.wanted oi (yielded ops a'.tmps)=true∧execOp a'.eval oi=X)∧K (a'.put oi.dst v) w') a w:=by
 obtain⟨h1,h2,h3⟩:=Oper.apart_spec hap;have cB:∀(a:Act),(Region.wanted oi (yielded ops a.tmps)=true∧execOp a.eval oi=X)->∀u,(Region.wanted oi (yielded ops (a.put oj.dst u).tmps)=true∧execOp (a.put oj.dst u).eval oi=X):=fun a hy u=>
  ⟨(wanted_put oi a oj.dst u h3).trans hy.1,(execOp_put oi hsi a oj.dst u h3).trans hy.2⟩
 have keepD:∀d:Deferred,(Region.wanted oi (yielded ops ({a with defers:=d::a.defers}:Act).tmps)=true∧execOp ({a with defers:=d::a.defers}:Act).eval oi=X):=fun d=>hy;unfold wpOp at*
 simp only[hj]at*
 rw[wanted_put oj a oi.dst v h1]at h;split
 ·rename_i hw;simp only[hw,if_true]at h;rcases h with h|⟨hasks,hlets⟩
  case inr=>exact .inr ⟨by unfold Oper.asks at *;rw[execOp_put oj hsj a oi.dst v h1]at hasks;exact hasks,hlets⟩
  refine .inl ?_;unfold Oper.wp at*
  rw[execOp_put oj hsj a oi.dst v h1]at h;generalize (execOp a.eval oj).run P w=r at*
  cases r with
  |ok n w'=>
   cases n<;>simp only[Oper.upon]at h ⊢
   case value u=>exact⟨cB a hy u,by rw[<-Act.put_comm a v u h2];exact h⟩
   case skip=>exact⟨cB a hy _,by rw[<-Act.put_comm a v undef h2];exact h⟩
   case defer d=>
    refine⟨cB ({a with defers:=d::a.defers}:Act) (keepD d) undef,?_⟩;rw[<-Act.put_comm _ v undef h2,<-Act.put_defers];exact h
   case enter f args=>
    refine Calls.mono h fun e w'' he=>?_
    cases e with
    |returned u=>exact⟨cB a hy u,by rw[<-Act.put_comm a v u h2];exact he⟩
    |panicked c=>exact hQ _ _ _ he
    |outgrown=>exact he
   case row row args=>exact Rows.mono h fun u w'' he=>⟨cB a hy u,by rw[<-Act.put_comm a v u h2];exact he⟩
  |halt x w'=>
   cases x<;>simp only[Oper.upon]at h ⊢
   case panic u=>exact hQ _ _ _ h
 ·rename_i hw;simp only[hw]at h;exact⟨cB a hy _,by rw[<-Act.put_comm a v undef h2];exact h⟩
def pF(P:Program)(md:Region.Mode)(ops:Array Oper)(Q:Exit->Act->World->Prop)(I:Array Bool->World->Prop):Nat->Array Bool->Act->World->Prop
 |0,lx,a,w=>I lx w∧Region.ready md ops lx=[]∧Q .normal a w
 |fuel+1,lx,a,w=>I lx w∧(Region.ready md ops lx=[]->Q .normal a w)∧∀i∈Region.ready md ops lx,wpOp P ops Q i (fun a' w'=>pF P md ops Q I fuel (lx.setIfInBounds i true) a' w') a w
theorem yu{I:Array Bool->World->Prop}:∀(fuel:Nat) (lx:Array Bool) (a:Act) (w:World),pF P md ops Q I fuel lx a w->wpAny P md ops Q fuel lx a w
 |0,_,_,_,h=>h.2
 |fuel+1,_,_,_,h=>⟨h.2.1,fun i hi=>wpOp_mono (fun _ _ h'=>yu fuel _ _ _ h') (h.2.2 i hi)⟩
theorem jl{I J:Array Bool->World->Prop}(hIJ:∀lx w,I lx w->J lx w):∀(fuel:Nat) (lx:Array Bool) (a:Act) (w:World),pF P md ops Q I fuel lx a w->pF P md ops Q J fuel lx a w
 |0,_,_,_,h=>⟨hIJ _ _ h.1,h.2⟩
 |fuel+1,_,_,_,h=>⟨hIJ _ _ h.1,h.2.1,fun i hi=>wpOp_mono (fun _ _ h'=>jl hIJ fuel _ _ _ h') (h.2.2 i hi)⟩
theorem DC(hI:I lx w)(hr:Region.ready md ops lx=[])(h:Q .normal a w):∀fuel,pF P md ops Q I fuel lx a w
 |0=>⟨hI,hr,h⟩
 |_+1=>⟨hI,fun _=>h,by rw[hr];simp⟩
def lr(ops:Array Oper)(b:Nat)(lx:Array Bool):Prop:=∀(k:Nat) o,tb b k=true->ops[k]? =some o->tA o.op=false->lx.getD k false=false
theorem iw(hi:ops[i]? =some oi)(hR:tA oi.op=true):lr ops b (lx.setIfInBounds i true)↔lr ops b lx:=by
 have key:∀(k:Nat) o,ops[k]? =some o->tA o.op=false->(lx.setIfInBounds i true).getD k false=lx.getD k false:=fun k o ho hr=>by
  have:i≠k:=fun e=>by subst e;rw[hi]at ho;injection ho with ho;subst ho;rw[hR]at hr;cases hr
  exact getD_set_ne false this
 exact⟨fun h k o h1 h2 h3=>by rw[<-key k o h2 h3];exact h k o h1 h2 h3,fun h k o h1 h2 h3=>by rw[key k o h2 h3];exact h k o h1 h2 h3⟩
theorem so(hi:ops[i]? =some oi)(hR:tA oi.op=true)(hsel:∀(j:Nat) (o:Oper) cs b,ops[j]? =some o->o.op≠ .select cs b)
  (hQ:∀c a w,Q (.panic c) (a.put oi.dst v) w->Q (.panic c) a w) (hblk:∀j,tb b j=true->∃oj e,ops[j]? =some oj∧e∈oj.after∧Region.binds md e=true∧(e.on=i∨tb b e.on=true))
  (hY:∀w,Y w->X.run P w= .ok (.value v) w) (hI:∀lx w,I (lx.setIfInBounds i true) w->I lx w):
  ∀(fuel:Nat) (lx:Array Bool) (a:Act) (w:World),(∀j,tb b j=true->lx.getD j false=false)->
   (∀j oj,ops[j]? =some oj->j≠i->lx.getD j true=false->tb b j=false->oi.apart ops oj=true)->
   i∈Region.ready md ops lx->(Region.wanted oi (yielded ops a.tmps)=true∧execOp a.eval oi=X)->
   pF P md ops Q (fun lx w=>I lx w∧(lr ops b lx->Y w)) fuel (lx.setIfInBounds i true) (a.put oi.dst v) w->pF P md ops Q I (fuel+1) lx a w:=by
 intro fuel;have run:∀(lx:Array Bool) (a:Act) (w:World),(∀j,tb b j=true->lx.getD j false=false)->(Region.wanted oi (yielded ops a.tmps)=true∧execOp a.eval oi=X)->(I (lx.setIfInBounds i true) w∧(lr ops b (lx.setIfInBounds i true)->Y w))->
   ∀K:Act->World->Prop,K (a.put oi.dst v) w->wpOp P ops Q i K a w:=fun lx a w hbl hy hH K hK=>by
  have hYw:=hH.2 ((iw hi hR).2 fun k o h1 _ _=>hbl k h1);unfold wpOp;simp only[hi,hy.1,if_true]
  refine .inl ?_;unfold Oper.wp;rw[hy.2,hY w hYw];exact hK
 induction fuel with
 |zero=>
  intro lx a w hbl _ hr hy H;refine⟨hI _ _ H.1.1,fun h=>(by rw[h]at hr;cases hr),fun j hj=>?_⟩;by_cases hji:j=i
  ·subst hji;exact run lx a w hbl hy H.1 _ (jl (fun _ _ h=>h.1) 0 _ _ _ H)
  ·have:=ready_mono hj hji;rw[H.2.1]at this
   cases this
 |succ fuel ih=>
  intro lx a w hbl hfree hr hy H;refine⟨hI _ _ H.1.1,fun h=>(by rw[h]at hr;cases hr),fun j hj=>?_⟩;by_cases hji:j=i
  ·subst hji;exact run lx a w hbl hy H.1 _ (jl (fun _ _ h=>h.1) (fuel+1) _ _ _ H)
  ·have h1:=H.2.2 j (ready_mono hj hji);obtain⟨hjun,oj,hoj,hall⟩:=mem_ready.1 hj;have hnot:tb b j=false:=by
    cases hb:tb b j with
    |false=>rfl
    |true=>
     exfalso;obtain⟨oj',e,ho',he,hbi,hor⟩:=hblk j hb;rw[hoj]at ho';injection ho' with ho';subst ho';have h1:=hall e he hbi;rcases hor with heq|hb2
     ·have h0:=(mem_ready.1 hr).1;rw[heq]at h1;rcases aO i lx.size with h'|h'
      ·simp[h']at h0 h1;rw[h0]at h1;cases h1
      ·simp[Array.getElem?_eq_none h']at h1
     ·rw[hbl _ hb2]at h1;cases h1
   have h2:=GW hoj (hfree j oj hoj hji hjun hnot) (fun cs b=>hsel i oi cs b hi) (fun cs b=>hsel j oj cs b hoj) hQ hy h1;have hbl':∀k,tb b k=true->(lx.setIfInBounds j true).getD k false=false:=fun k hk=>by
    rw[getD_set_ne false (fun e=>(by subst e;rw[hnot]at hk;cases hk))];exact hbl k hk
   have hfree':∀k ok,ops[k]? =some ok->k≠i->(lx.setIfInBounds j true).getD k true=false->tb b k=false->oi.apart ops ok=true:=fun k ok hk hki hun hno=>by
    refine hfree k ok hk hki ?_ hno;by_cases hjk:j=k
    ·subst hjk;exact hjun
    ·rw[getD_set_ne true hjk]at hun;exact hun
   refine wpOp_mono (fun a' w' h3=>?_) h2;refine ih (lx.setIfInBounds j true) a' w' hbl' hfree' (ready_mono hr (Ne.symm hji)) h3.1 ?_;rw[Array.setIfInBounds_comm _ _ hji];exact h3.2
end
structure Gh where
 u:Nat
 d:Nat
 T:Nat
 b:Nat
def B6(τ:lu)(B:Nat):List Gh->Env->Hp->Nat->Iv->World->Prop->Prop
 |[],_,_,_,_,_,K=>K
 |g::r,l,H,nx,iv,w,K=>match fF l g.u with
  |some su=>zj τ B g.T su H nx iv w (fun v=>fF l g.d=some v∧B6 τ B r l H nx iv w K)
  |none=>False
inductive Tg where
 |nil
 |x (i:Nat) (t:Tg)
 |two (i:Nat) (t:Tg) (j:Nat) (u:Tg)
 |three (i:Nat) (t:Tg) (j:Nat) (u:Tg) (k:Nat) (v:Tg)
 |ld (i b:Nat) (t:Tg)
 |qz (id:Nat) (t:Tg)
def Ab(j:Nat):List Gh->List Gh
 |[]=>[]
 |g::r=>match tb g.b j with
  |true=>Ab j r
  |false=>g::Ab j r
def stepG(τ:lu)(B:Nat)(rd:Bool)(G:List Gh)(j:Nat)(l:Env)(H:Hp)(nx:Nat)(iv:Iv)(w:World)(K:List Gh->Prop):Prop:=match rd with
 |true=>K G
 |false=>B6 τ B (Ab j G) l H nx iv w (K (Ab j G))
def DD(ops:Array Oper)(m i:Nat)(oi:Oper)(b:Nat):List Oper->Nat->Bool
 |[],_=>true
 |oj::r,j=>(Nat.beq j i||tb m j||tb b j||oi.apart ops oj)&&DD ops m i oi b r (j+1)
def FQ(m i u d:Nat):List Oper->Nat->Bool
 |[],_=>true
 |oj::r,j=>(tb m j||match oj.dst with
   |none=>true
   |some e=> !Nat.beq e u&&(Nat.beq j i|| !Nat.beq e d))&&FQ m i u d r (j+1)
def I4(o:Oper):Option (Nat×Nat×Nat):=match o with
 |⟨some d,.load T (.tmp u),_,_,_,none⟩=>some (d,T,u)
 |_=>none
def km(ops:Array Oper):Tg->Array Bool->Bool
 | .nil,lx=>(Region.ready .any ops lx).isEmpty
 | .x i t,lx=>match ops[i]? with
  |none=>false
  |some o=>(Region.ready .any ops lx).contains i&&((Region.ready .any ops lx).all (fun j=>Nat.beq j i)||FT o.op&&o.guard.isNone&&DD ops (gw lx.toList 0) i o (yx (gw lx.toList 0) i ops.toList 0 0) ops.toList 0)&&km ops t (lx.setIfInBounds i true)
 | .two i t j u,lx=>match Region.ready .any ops lx with
  |[a,b]=>Nat.beq a i&&(Nat.beq b j&&(km ops t (lx.setIfInBounds i true)&&km ops u (lx.setIfInBounds j true)))
  |_=>false
 | .three i t j u k v,lx=>match Region.ready .any ops lx with
  |[a,b,c]=>Nat.beq a i&&(Nat.beq b j&&(Nat.beq c k&&(km ops t (lx.setIfInBounds i true)&&(km ops u (lx.setIfInBounds j true)&&km ops v (lx.setIfInBounds k true)))))
  |_=>false
 | .ld i b t,lx=>match ops[i]? with
  |none=>false
  |some o=>match I4 o with
   |none=>false
   |some (d,_,u)=>(Region.ready .any ops lx).contains i&&Nat.beq b (yx (gw lx.toList 0) i ops.toList 0 0)&&DD ops (gw lx.toList 0) i o b ops.toList 0&&FQ (gw lx.toList 0) i u d ops.toList 0&&km ops t (lx.setIfInBounds i true)
 | .qz _ t,lx=>km ops t lx
def z4(P:Program)(τ:lu)(B:Nat)(all:List Oper):Tg->List Gh->Env->Hp->Nat->Iv->World->KT->Prop
 | .nil,_,l,H,nx,iv,w,K=>K l H nx iv w
 | .x i t,G,l,H,nx,iv,w,K=>qQ all i (fun o=>gR (!fX o) P τ B all o l H nx iv w (fun l' H' nx' iv' w'=>stepG τ B (tA o.op) G i l' H' nx' iv' w' (fun G'=>z4 P τ B all t G' l' H' nx' iv' w' K)))
 | .two i t j u,G,l,H,nx,iv,w,K=>qQ all i (fun o=>gR (!fX o) P τ B all o l H nx iv w (fun l' H' nx' iv' w'=>stepG τ B (tA o.op) G i l' H' nx' iv' w' (fun G'=>z4 P τ B all t G' l' H' nx' iv' w' K)))∧
   qQ all j (fun o=>gR (!fX o) P τ B all o l H nx iv w (fun l' H' nx' iv' w'=>stepG τ B (tA o.op) G j l' H' nx' iv' w' (fun G'=>z4 P τ B all u G' l' H' nx' iv' w' K)))
 | .three i t j u k v,G,l,H,nx,iv,w,K=>qQ all i (fun o=>gR (!fX o) P τ B all o l H nx iv w (fun l' H' nx' iv' w'=>stepG τ B (tA o.op) G i l' H' nx' iv' w' (fun G'=>z4 P τ B all t G' l' H' nx' iv' w' K)))∧
   (qQ all j (fun o=>gR (!fX o) P τ B all o l H nx iv w (fun l' H' nx' iv' w'=>stepG τ B (tA o.op) G j l' H' nx' iv' w' (fun G'=>z4 P τ B all u G' l' H' nx' iv' w' K)))∧
   qQ all k (fun o=>gR (!fX o) P τ B all o l H nx iv w (fun l' H' nx' iv' w'=>stepG τ B (tA o.op) G k l' H' nx' iv' w' (fun G'=>z4 P τ B all v G' l' H' nx' iv' w' K))))
 | .ld i b t,G,l,H,nx,iv,w,K=>qQ all i (fun o=>match I4 o with
  |some (d,T,u)=>match fF l u with
   |some su=>zj τ B T su H nx iv w (fun v=>z4 P τ B all t (⟨u,d,T,b⟩::G) ((d,v)::l) H nx iv w K)
   |none=>False
  |none=>False)
 | .qz id t,G,l,H,nx,iv,w,K=>∃H' b,cY H id=some b∧b≠ .dead∧uz H H'∧Bm id H'=true∧∀O w',Rel H nx iv B w O w'->(O id).nil=false∧∃l',(∀u v,fF l' u=some v->v.sc nx∧∃v',fF l u=some v'∧v'.den O=v.den O)∧z4 P τ B all t G l' H' nx (((O id).g,(O id).g+1)::iv) w' K
section
variable{P:Program}{τ:lu}{ops:Array Oper}{B n nx:Nat}{l:Env}{H:Hp}{iv:Iv}{w w':World}{O:Nat->Sx.dU}{a:Act}
theorem LD(hτ:fG P τ){o:Oper}(ho:ops[i]? =some o)(hd:∀d,o.dst=some d->d<n){K:KT}
  (h1:gR (!fX o) P τ B ops.toList o l H nx iv w K) (sat:Sat n l H nx iv B w O a w')
  (hn:∀l' H' nx' iv' w2 ρ' x w3,K l' H' nx' iv' w2->Sat n l' H' nx' iv' B w2 ρ' (a.put o.dst x) w3->(tA o.op=true->w3=w')->next (a.put o.dst x) w3):
  wpOp P ops Q i next a w':=by
 unfold gR at h1;refine oD ho ?_;rcases kA sat h1 with⟨hw,l1,h2,sat1⟩|⟨hw,l1,h2,sat1⟩
 ·refine .inl ⟨hw,?_⟩
  cases hR:tA o.op with
  |true=>
   obtain⟨v,hK,hvs,hrun⟩:=(kv hτ h2 sat1 hR).resolve_right (fun hh=>by have:=hh.1;rw[qT hR]at this;cases this);obtain⟨l2,h3,sat2⟩:=gg sat1 hK hd hvs;exact lZ (hrun w' (.inr sat1.rel)) (hn _ _ _ _ _ _ _ _ h3 sat2 fun _=>rfl)
  |false=>
   have nr:∀w3:World,tA o.op=true->w3=w':=fun w3 h=>by rw[hR]at h;cases h
   cases hA:I6 o.op with
   |true=>
    obtain⟨b,v,mk,obj,hK,hbd,hb,hv,hmk,hfit,hal⟩:=ma hτ h2 sat1 hA;have hrel:Rel ((nx,b)::H) (nx+1) iv B w (Sx.gH O nx ⟨w'.heap.size,0,false⟩) (w'.alloc obj):=
     sat1.rel.push b _ rfl rfl rfl (by simp) (fun k hk=>heap_alloc_old _ _ hk) (fun _=>⟨aE _,by simp⟩) (hfit _ _ (heap_alloc_new _ _)) hb
    obtain⟨l2,h3,sat2⟩:=gg (sat1.next hrel (Nat.le_succ _) (fun id hid=>gI id hid)) hK hd hv;rw[hmk]at sat2;exact lZ (v:=mk w'.heap.size) (w2:=w'.alloc obj) (hal w') (hn _ _ _ _ _ _ _ _ h3 sat2 (by rw[hR];exact fun h=>by cases h))
   |false=>
    cases hH:pc o with
    |false=>
     rw[po hH]at h2;refine wT h2 sat1 hR hA hH fun v w2 hK he hs=>?_;obtain⟨l2,h3,sat2⟩:=gg (v:=.o (.v v)) hs hK hd trivial;exact hn _ _ _ _ _ _ _ _ h3 sat2 (by rw[hR];exact fun h=>by cases h)
    |true=>
     refine mb hτ h2 sat1 fun v H' nx' iv' w2 ρ' w3 hK sat2 hv=>?_;obtain⟨l2,h3,sat3⟩:=gg sat2 hK hd hv;exact hn _ _ _ _ _ _ _ _ h3 sat3 (by rw[hR];exact fun h=>by cases h)
 ·obtain⟨l2,h4,sat3⟩:=gg sat1 h2 hd trivial;exact .inr ⟨hw,hn _ _ _ _ _ _ _ _ h4 sat3 fun _=>rfl⟩
theorem ux(hτ:fG P τ)(sat:Sat n l H nx iv B w O a w'){K:Prop}:∀(G:List Gh),B6 τ B G l H nx iv w K->
  K∧∀g∈G,∃su sv,fF l g.u=some su∧fF l g.d=some sv∧(Instr.loadAt g.T (su.den O)).run P w'= .ok (sv.den O) w'
 |[],h=>⟨h,fun g hg=>by cases hg⟩
 |g::r,h=>by
  unfold B6 at h;split at h
  ·rename_i su hsu;obtain⟨v,⟨h1,h2⟩,hv,hrun⟩:=mh hτ sat.rel (sat.sc _ _ hsu) h;obtain⟨h3,h4⟩:=ux hτ sat r h2;refine⟨h3,fun g' hg=>?_⟩;rcases List.mem_cons.1 hg with rfl|hg
   ·exact⟨su,v,hsu,h1,hrun w' sat.rel⟩
   ·exact h4 g' hg
  ·exact h.elim
theorem p9{j:Nat}{g:Gh}:∀{G:List Gh},g∈G->tb g.b j=false->g∈Ab j G
 |g'::r,h,hb=>by
  unfold Ab;rcases List.mem_cons.1 h with rfl|h
  ·rw[hb];exact aI
  ·split
   ·exact p9 h hb
   ·exact aB _ (p9 h hb)
abbrev Zh:=Gh×Value×Value
def Yz(P:Program)(z:Zh)(w:World):Prop:=(Instr.loadAt z.1.T z.2.1).run P w= .ok z.2.2 w
structure K6(ops:Array Oper)(la:Array Bool)(a:Act)(z:Zh):Prop where
 u:a.tmps[z.1.u]? =some z.2.1
 d:a.tmps[z.1.d]? =some z.2.2
 no:∀(j:Nat) oj,ops[j]? =some oj->la.getD j false=false->oj.dst≠some z.1.u∧oj.dst≠some z.1.d
theorem K6.step{z:Zh}{oj:Oper}{x:Value}(h:K6 ops la a z)(hj:ops[j]? =some oj)(hl:la.getD j false=false):K6 ops (la.setIfInBounds j true) (a.put oj.dst x) z:=by
 obtain⟨h1,h2⟩:=h.no j oj hj hl;refine⟨pH h1 h.u,pH h2 h.d,fun k ok hk hlk=>h.no k ok hk ?_⟩;by_cases hjk:j=k
 ·subst hjk;exact hl
 ·rwa [getD_set_ne false hjk]at hlk
def IZ(P:Program)(ops:Array Oper)(Z:List Zh)(lx:Array Bool)(w:World):Prop:=∀z∈Z,lr ops z.1.b lx->Yz P z w
theorem ss(h:i∈Region.ready .any ops la):la.getD i false=false:=by
 have:=(eM.1 h).1;rw[aX,this];rfl
theorem nU{o:Oper}(ho:ops[i]? =some o)(hl:la[i]? =some false)(h:lr ops b (la.setIfInBounds i true)):lr ops b la∧(tA o.op=false->tb b i=false):=by
 refine⟨fun k ok h1 h2 h3=>?_,fun hR=>?_⟩
 ·by_cases hik:i=k
  ·subst hik;rw[aX,hl];rfl
  ·rw[<-getD_set_ne false hik];exact h k ok h1 h2 h3
 ·cases hb:tb b i with
  |false=>rfl
  |true=>
   have:=h i o hb ho hR;have hi:=(a9.1 hl).1;rw[aX,Array.getElem?_setIfInBounds_self_of_lt hi]at this
   cases this
theorem Ac(hτ:fG P τ){o:Oper}{G:List Gh}{Z:List Zh}(ho:ops[i]? =some o)(hd:∀d,o.dst=some d->d<n)(hr:i∈Region.ready .any ops la){K:Env->Hp->Nat->Iv->World->List Gh->Prop}
  (h1:gR (!fX o) P τ B ops.toList o l H nx iv w (fun l' H' nx' iv' w'=>stepG τ B (tA o.op) G i l' H' nx' iv' w' (K l' H' nx' iv' w'))) (sat:Sat n l H nx iv B w O a w')
  (hG:∀z∈Z,lr ops z.1.b la->z.1∈G) (hZ:∀z∈Z,K6 ops la a z) (hI:IZ P ops Z la w')
  (hn:∀l' H' nx' iv' w2 ρ' x w3 G',K l' H' nx' iv' w2 G'->Sat n l' H' nx' iv' B w2 ρ' (a.put o.dst x) w3->(∀z∈Z,lr ops z.1.b (la.setIfInBounds i true)->z.1∈G')->(∀z∈Z,K6 ops (la.setIfInBounds i true) (a.put o.dst x) z)->IZ P ops Z (la.setIfInBounds i true) w3->next (a.put o.dst x) w3):
  wpOp P ops Q i next a w':=by
 have hl:=(eM.1 hr).1;refine LD hτ ho hd h1 sat fun l' H' nx' iv' w2 ρ' x w3 hK sat2 hw=>?_;have hZ2:∀z∈Z,K6 ops (la.setIfInBounds i true) (a.put o.dst x) z:=fun z hz=>(hZ z hz).step ho (ss hr)
 cases hR:tA o.op with
 |true=>
  rw[hR]at hK;have hw:=hw hR;subst hw;refine hn _ _ _ _ _ _ _ _ G hK sat2 (fun z hz h=>hG z hz (nU ho hl h).1) hZ2 fun z hz h=>hI z hz (nU ho hl h).1
 |false=>
  rw[hR]at hK;obtain⟨h2,h3⟩:=ux hτ sat2 _ hK;refine hn _ _ _ _ _ _ _ _ _ h2 sat2 (fun z hz h=>?_) hZ2 fun z hz h=>?_
  ·obtain⟨k1,k2⟩:=nU ho hl h;exact p9 (hG z hz k1) (k2 hR)
  ·obtain⟨k1,k2⟩:=nU ho hl h;obtain⟨su,sv,e1,e2,e3⟩:=h3 z.1 (p9 (hG z hz k1) (k2 hR));have h4:=sat2.env _ _ e1;have h5:=sat2.env _ _ e2;rw[(hZ2 z hz).u]at h4;rw[(hZ2 z hz).d]at h5;injection h4 with h4;injection h5 with h5;unfold Yz;rw[h4,h5];exact e3
end
section
variable{P:Program}{τ:lu}{ops:Array Oper}{B n nx:Nat}{l:Env}{H:Hp}{iv:Iv}{w w':World}{O:Nat->Sx.dU}{a:Act}
theorem rF{m i b:Nat}{oi:Oper}:∀(l:List Oper) (k:Nat),DD ops m i oi b l k=true->∀(j:Nat) oj,l[j]? =some oj->k+j≠i->tb m (k+j)=false->tb b (k+j)=false->oi.apart ops oj=true
 |[],_,_,j,oj,h,_,_,_=>by cases h
 |o::r,k,h,j,oj,hj,h1,h2,h3=>by
  simp only[DD,aY,Bool.or_eq_true]at h
  cases j with
  |zero=>
   injection hj with hj;subst hj;rcases h.1 with((h4|h4)|h4)|h4
   ·exact absurd (bL h4) h1
   ·rw[bq]at h2;rw[h2]at h4;cases h4
   ·rw[bq]at h3;rw[h3]at h4;cases h4
   ·exact h4
  |succ j=>
   have e:k+(j+1)=k+1+j:=by omega
   rw[e]at h1 h2 h3;exact rF r (k+1) h.2 j oj (by simpa using hj) h1 h2 h3
theorem yv{m i u d:Nat}:∀(l:List Oper) (k:Nat),FQ m i u d l k=true->∀(j:Nat) oj,l[j]? =some oj->tb m (k+j)=false->oj.dst≠some u∧(k+j≠i->oj.dst≠some d)
 |[],_,_,j,oj,h,_=>by cases h
 |o::r,k,h,j,oj,hj,h2=>by
  simp only[FQ,aY,Bool.or_eq_true]at h
  cases j with
  |zero=>
   injection hj with hj;subst hj;rcases h.1 with h4|h4
   ·rw[bq]at h2;rw[h2]at h4;cases h4
   ·cases ho:o.dst with
    |none=>exact⟨by simp,by simp⟩
    |some e=>
     rw[ho]at h4;simp only[aY,Bool.not_eq_true',Bool.or_eq_true]at h4;refine⟨fun hh=>?_,fun hne hh=>?_⟩
     ·injection hh with hh;subst hh;have:=h4.1;simp at this
     ·injection hh with hh;subst hh;rcases h4.2 with h5|h5
      ·exact hne (bL h5)
      ·simp at h5
  |succ j=>
   have e:k+(j+1)=k+1+j:=by omega
   rw[e]at h2 ⊢;exact yv r (k+1) h.2 j oj (by simpa using hj) h2
theorem GX{o:Oper}{d T u:Nat}(h:I4 o=some (d,T,u)):o.dst=some d∧o.op= .load T (.tmp u)∧o.guard=none:=by
 unfold I4 at h;split at h
 ·injection h with h;injection h with h1 h2;injection h2 with h2 h3;subst h1 h2 h3;exact⟨rfl,rfl,rfl⟩
 ·cases h
theorem ig(hτ:fG P τ)(hok:∀(j:Nat) o,ops[j]? =some o->∀d,o.dst=some d->d<n)(hsel:∀(j:Nat) (o:Oper) cs b,ops[j]? =some o->o.op≠ .select cs b){K:KT}{Q0:Act->World->Prop}
  (hQ:∀l' H' nx' iv' w2 ρ' a' w3,K l' H' nx' iv' w2->Sat n l' H' nx' iv' B w2 ρ' a' w3->Q0 a' w3):
  ∀(t:Tg) (fuel:Nat) (la:Array Bool) (l:Env) (H:Hp) (nx:Nat) (iv:Iv) (w:World) (O:Nat->Sx.dU) (a:Act) (w':World) (G:List Gh) (Z:List Zh),Jm la<=fuel->la.size=ops.size->km ops t la=true->z4 P τ B ops.toList t G l H nx iv w K->Sat n l H nx iv B w O a w'->
   (∀z∈Z,lr ops z.1.b la->z.1∈G)->(∀z∈Z,K6 ops la a z)->IZ P ops Z la w'->pF P .any ops (QN Q0) (IZ P ops Z) fuel la a w'
 | .nil,fuel,la,l,H,nx,iv,w,O,a,w',G,Z,_,_,hc,h,s,hG,hZ,hI=>by
  simp only[km,List.isEmpty_iff]at hc;exact DC hI hc ⟨rfl,hQ _ _ _ _ _ _ _ _ h s⟩ fuel
 | .x i t,fuel,la,l,H,nx,iv,w,O,a,w',G,Z,hf,hz,hc,h,s,hG,hZ,hI=>by
  unfold km at hc;obtain⟨o,ho,h1⟩:=gG h;rw[bB]at ho;simp only[ho,aY,Bool.or_eq_true]at hc;obtain⟨⟨c1,c2⟩,c3⟩:=hc;have c1:i∈Region.ready .any ops la:=by simpa using c1
  obtain⟨hla,-⟩:=eM.1 c1;have hun:=jz hla;obtain⟨f,rfl⟩:∃f,fuel=f+1:=⟨fuel-1,by omega⟩
  have hz2:(la.setIfInBounds i true).size=ops.size:=by rw[bQ,hz]
  rcases c2 with c2|⟨⟨hP,hgd⟩,c4⟩
  ·refine⟨hI,fun h0=>(by rw[h0]at c1;cases c1),fun j hj=>?_⟩;have hji:j=i:=eB (List.all_eq_true.1 c2 j hj);subst hji;exact Ac hτ ho (hok j o ho) c1 h1 s hG hZ hI fun _ _ _ _ _ _ _ _ G' hk hs hG' hZ' hI'=>ig hτ hok hsel hQ t f _ _ _ _ _ _ _ _ _ G' Z (by omega) hz2 c3 hk hs hG' hZ' hI'
  ·have hR:tA o.op=true:=by
    unfold FT at hP;split at hP
    ·cases hP
    ·exact hP
   have hm:=vh la;have hb:=mB (ops:=ops) (m:=gw la.toList 0) (i:=i) ops.toList 0 0 (fun n o hn=>by rw[aU];rwa [bB]at hn) (fun j hj=>by rw[rJ]at hj;cases hj);generalize yx (gw la.toList 0) i ops.toList 0 0=b at*
   have hg0:o.guard=none:=by simpa using hgd
   unfold gR rK at h1;rw[hg0]at h1;obtain⟨v,hK,hvs,hrun⟩:=(kv hτ h1 s hR).resolve_right (fun hh=>by have:=hh.1;rw[qT hR]at this;cases this);obtain⟨l2,h3,sat2⟩:=gg s hK (hok i o ho) hvs;rw[hR]at h3;have hw:Region.wanted o (yielded ops a.tmps)=true:=by simp[Region.wanted,hg0]
   refine so (v:=v.den O) (b:=b) (Y:=fun _=>True) (X:=execOp a.eval o) ho hR hsel (fun c a w hq=>absurd hq.1 (by simp)) (fun j hj=>(hb j hj).2.2) (fun w3 _=>hrun w3 (.inl hP)) (fun lx w h z hz ha=>h z hz ((iw ho hR).2 ha))
    f la a w' (fun j hj=>(hm j).symm.trans (hb j hj).1) (fun j oj hoj hji hl hk=>rF ops.toList 0 c4 j oj (by rw[bB];exact hoj) (by omega) (by
     have hj:=(a9.1 hoj).1
     rw[aU,hm,lz (by omega) false true];exact hl) (by rw[aU];exact hk)) c1 ⟨hw,rfl⟩ ?_
   refine jl (fun lx w h=>⟨h,fun _=>trivial⟩) _ _ _ _ ?_;exact ig hτ hok hsel hQ t f _ _ _ _ _ _ _ _ _ G Z (by omega) hz2 c3 h3 sat2 (fun z hz h=>hG z hz ((iw ho hR).1 h)) (fun z hz=>(hZ z hz).step ho (ss c1)) (fun z hz h=>hI z hz ((iw ho hR).1 h))
 | .two i t k u,fuel,la,l,H,nx,iv,w,O,a,w',G,Z,hf,hz,hc,h,s,hG,hZ,hI=>by
  simp only[km]at hc;split at hc
  ·rename_i x y hr;simp only[aY]at hc;obtain⟨c1,c2,c3,c4⟩:=hc;have hx:=bL c1;have hy:=bL c2;subst hx;subst hy;obtain⟨h1,h2⟩:=h;obtain⟨o1,ho1,h1⟩:=gG h1;obtain⟨o2,ho2,h2⟩:=gG h2;rw[bB]at ho1 ho2;have hm1:x∈Region.ready .any ops la:=by rw[hr];simp
   have hm2:y∈Region.ready .any ops la:=by rw[hr];simp
   have u1:=jz (eM.1 hm1).1;have u2:=jz (eM.1 hm2).1;obtain⟨f,rfl⟩:∃f,fuel=f+1:=⟨fuel-1,by omega⟩
   refine⟨hI,fun h0=>(by rw[hr]at h0;cases h0),fun j hj=>?_⟩;rw[hr,List.mem_cons,bD]at hj;rcases hj with rfl|rfl
   ·exact Ac hτ ho1 (hok _ o1 ho1) hm1 h1 s hG hZ hI fun _ _ _ _ _ _ _ _ G' hk hs hG' hZ' hI'=>ig hτ hok hsel hQ t f _ _ _ _ _ _ _ _ _ G' Z (by omega) (by rw[bQ,hz]) c3 hk hs hG' hZ' hI'
   ·exact Ac hτ ho2 (hok _ o2 ho2) hm2 h2 s hG hZ hI fun _ _ _ _ _ _ _ _ G' hk hs hG' hZ' hI'=>ig hτ hok hsel hQ u f _ _ _ _ _ _ _ _ _ G' Z (by omega) (by rw[bQ,hz]) c4 hk hs hG' hZ' hI'
  ·cases hc
 | .three i t k u m v,fuel,la,l,H,nx,iv,w,O,a,w',G,Z,hf,hz,hc,h,s,hG,hZ,hI=>by
  simp only[km]at hc;split at hc
  ·rename_i x y z9 hr;simp only[aY]at hc;obtain⟨c1,c2,c6,c3,c4,c5⟩:=hc;have hx:=bL c1;have hy:=bL c2;have hz9:=bL c6;subst hx;subst hy;subst hz9;obtain⟨h1,h2,h3⟩:=h;obtain⟨o1,ho1,h1⟩:=gG h1;obtain⟨o2,ho2,h2⟩:=gG h2;obtain⟨o3,ho3,h3⟩:=gG h3;rw[bB]at ho1 ho2 ho3;have hm1:x∈Region.ready .any ops la:=by rw[hr];simp
   have hm2:y∈Region.ready .any ops la:=by rw[hr];simp
   have hm3:z9∈Region.ready .any ops la:=by rw[hr];simp
   have u1:=jz (eM.1 hm1).1;have u2:=jz (eM.1 hm2).1;have u3:=jz (eM.1 hm3).1;obtain⟨f,rfl⟩:∃f,fuel=f+1:=⟨fuel-1,by omega⟩
   refine⟨hI,fun h0=>(by rw[hr]at h0;cases h0),fun j hj=>?_⟩;rw[hr,List.mem_cons,List.mem_cons,bD]at hj;rcases hj with rfl|rfl|rfl
   ·exact Ac hτ ho1 (hok _ o1 ho1) hm1 h1 s hG hZ hI fun _ _ _ _ _ _ _ _ G' hk hs hG' hZ' hI'=>ig hτ hok hsel hQ t f _ _ _ _ _ _ _ _ _ G' Z (by omega) (by rw[bQ,hz]) c3 hk hs hG' hZ' hI'
   ·exact Ac hτ ho2 (hok _ o2 ho2) hm2 h2 s hG hZ hI fun _ _ _ _ _ _ _ _ G' hk hs hG' hZ' hI'=>ig hτ hok hsel hQ u f _ _ _ _ _ _ _ _ _ G' Z (by omega) (by rw[bQ,hz]) c4 hk hs hG' hZ' hI'
   ·exact Ac hτ ho3 (hok _ o3 ho3) hm3 h3 s hG hZ hI fun _ _ _ _ _ _ _ _ G' hk hs hG' hZ' hI'=>ig hτ hok hsel hQ v f _ _ _ _ _ _ _ _ _ G' Z (by omega) (by rw[bQ,hz]) c5 hk hs hG' hZ' hI'
  ·cases hc
 | .ld i b t,fuel,la,l,H,nx,iv,w,O,a,w',G,Z,hf,hz,hc,h,s,hG,hZ,hI=>by
  unfold km at hc;obtain⟨o,ho,h1⟩:=gG h;rw[bB]at ho;simp only[ho]at hc
  cases hld:I4 o with
  |none=>rw[hld]at hc;cases hc
  |some q=>
   obtain⟨d,T,u⟩:=q;rw[hld]at hc h1;simp only[aY]at hc;obtain⟨⟨⟨⟨c1,c2⟩,c4⟩,c5⟩,c3⟩:=hc;obtain⟨e1,e2,e3⟩:=GX hld;have c1:i∈Region.ready .any ops la:=by simpa using c1
   obtain⟨hla,-⟩:=eM.1 c1;have hun:=jz hla;obtain⟨f,rfl⟩:∃f,fuel=f+1:=⟨fuel-1,by omega⟩
   have hz2:(la.setIfInBounds i true).size=ops.size:=by rw[bQ,hz]
   have hR:tA o.op=true:=by rw[e2];rfl
   have hm:=vh la;have hb:=mB (ops:=ops) (m:=gw la.toList 0) (i:=i) ops.toList 0 0 (fun n o hn=>by rw[aU];rwa [bB]at hn) (fun j hj=>by rw[rJ]at hj;cases hj);rw[<-bL c2]at hb
   cases hsu:fF l u with
   |none=>simp only[hsu]at h1
   |some su=>
    simp only[hsu]at h1;obtain⟨v,hK,hvs,hrun⟩:=mh hτ s.rel (s.sc _ _ hsu) h1;have hau:=s.env _ _ hsu;have hdn:=hok i o ho d e1;have sat2:Sat n ((d,v)::l) H nx iv B w O (a.put o.dst (v.den O)) w':=by rw[e1];exact s.put hdn hvs
    have hw:Region.wanted o (yielded ops a.tmps)=true:=by simp[Region.wanted,e3]
    have hev:a.eval (.tmp u)=su.den O:=by rw[Act.eval,aX,hau];rfl
    have hui:tb (gw la.toList 0) i=false:=by rw[hm];exact ss c1
    have hno:=yv ops.toList 0 c5;refine so (v:=v.den O) (b:=b) (Y:=Yz P (⟨u,d,T,b⟩,su.den O,v.den O)) (X:=execOp a.eval o) ho hR hsel (fun c a w hq=>absurd hq.1 (by simp)) (fun j hj=>(hb j hj).2.2) (fun w3 hY=>?_) (fun lx w h z hz ha=>h z hz ((iw ho hR).2 ha))
     f la a w' (fun j hj=>(hm j).symm.trans (hb j hj).1) (fun j oj hoj hji hl hk=>rF ops.toList 0 c4 j oj (by rw[bB];exact hoj) (by omega) (by
      have hj:=(a9.1 hoj).1
      rw[aU,hm,lz (by omega) false true];exact hl) (by rw[aU];exact hk)) c1 ⟨hw,rfl⟩ ?_
    ·unfold Yz at hY;obtain⟨dst,op,ty,pos,after,guard⟩:=o;simp only at e2;subst e2;simp only[execOp,hev]
     exact ky hY
    ·refine jl (I:=IZ P ops ((⟨u,d,T,b⟩,su.den O,v.den O)::Z)) (fun lx w h=>⟨fun z hz=>h z (aB _ hz),h _ aI⟩) _ _ _ _ ?_;refine ig hτ hok hsel hQ t f _ _ _ _ _ _ _ _ _ (⟨u,d,T,b⟩::G) ((⟨u,d,T,b⟩,su.den O,v.den O)::Z) (by omega) hz2 c3 hK sat2 (fun z hz h=>?_) (fun z hz=>?_) (fun z hz h=>?_)
     ·rcases List.mem_cons.1 hz with rfl|hz
      ·exact aI
      ·exact aB _ (hG z hz ((iw ho hR).1 h))
     ·rcases List.mem_cons.1 hz with rfl|hz
      ·have h7:=(hno i o (by rw[bB];exact ho) (by rw[aU];exact hui)).1;refine⟨pH h7 hau,?_,fun j oj hoj hlj=>?_⟩
       ·rw[e1];show(a.tmps.setIfInBounds d _)[d]? =_;rw[Array.getElem?_setIfInBounds_self_of_lt (by rw[s.size];exact hdn)]
       ·have hji:i≠j:=fun e=>by
         subst e;have hi:=(a9.1 hla).1;rw[aX,Array.getElem?_setIfInBounds_self_of_lt hi]at hlj
         cases hlj
        rw[getD_set_ne false hji]at hlj;obtain⟨k1,k2⟩:=hno j oj (by rw[bB];exact hoj) (by rw[aU,hm];exact hlj);exact⟨k1,k2 (by omega)⟩
      ·exact(hZ z hz).step ho (ss c1)
     ·rcases List.mem_cons.1 hz with rfl|hz
      ·exact hrun w' s.rel
      ·exact hI z hz ((iw ho hR).1 h)
 | .qz id t,fuel,la,l,H,nx,iv,w,O,a,w',G,Z,hf,hz,hc,h,s,hG,hZ,hI=>by
  obtain⟨H',b,hid,hd,hs,ho,h⟩:=h;obtain⟨hn,l',hl,h⟩:=h _ _ s.rel;exact ig hτ hok hsel hQ t fuel la l' H' nx _ w' O a w' G Z hf hz hc h ⟨s.rel.free hid hd hn hs ho,s.size,s.defers,fun u v hv=>by obtain⟨-,v',h1,h2⟩:=hl u v hv;rw[<-h2];exact s.env u v' h1,fun u v hv=>(hl u v hv).1⟩ hG hZ hI
theorem jD(hτ:fG P τ)(hm:P.follows .mixedOrders=true){K:KT}(t:Tg)(hs:Region.noSelect ops=true)(hc:km ops t (Array.replicate ops.size false)=true)
  (h:z4 P τ B ops.toList t [] l H nx iv w K):wV P B ops l H nx iv w K:=by
 refine⟨fun n O a w' hok sat Q hQ id=>?_⟩;refine wp_mono (Q':=Q) (c:=.region id ops true) (wp_region_any (Q:=QN (Q .normal)) hm (yu (I:=IZ P ops []) _ _ _ _ ?_)) (fun e a w hq=>by obtain⟨rfl,hq⟩:=hq;exact hq);refine ig (Q0:=Q .normal) hτ (fun j o ho d hd=>?_) (Region.noSelect_spec hs) hQ t _ _ _ _ _ _ _ O _ _ [] [] ?_ (by simp) hc h ⟨sat.rel.drew,sat.size,sat.defers,sat.env,sat.sc⟩ (fun z hz=>by cases hz) (fun z hz=>by cases hz) (fun z hz=>by cases hz)
 ·have:=List.all_eq_true.1 hok o (aD (by rw[bB];exact ho));rw[hd]at this;have h5:d+1<=n:=by simpa [Nat.blt]using this
  exact h5
 ·unfold Jm;refine ah List.countP_le_length ?_;simp
end
end Go.Ex
