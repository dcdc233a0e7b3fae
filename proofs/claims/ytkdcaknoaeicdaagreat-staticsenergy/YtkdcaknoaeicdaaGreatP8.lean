/- A part of the proof: texts X78 to L42. Each tells its conditions in its theorems. -/
import Derived.Test.YtkdcaknoaeicdaaGreatP5
import Derived.Test.YtkdcaknoaeicdaaGreatP7
namespace Go.Ex
open Go Go.Sx Go.Proofs
variable{cs:List Value}{j:Nat}{S:Nat->Prop}{a a1 a2:Option Addr}{q:Rat}
theorem gg.len{w:World}(h:gg w S cs q):cs.length=4:=by obtain⟨_,_,_,_,_,_,_,_,rfl,_⟩:=h;rfl
def Fc(w:World)(S:Nat->Prop)(css:List (List Value))(qs:List Rat):Prop:=css.length=qs.length∧∀(j:Nat) cs q,css[j]? =some cs->qs[j]? =some q->gg w S cs q
section
variable{S S':Nat->Prop}{w w2:World}{cs:List Value}{css:List (List Value)}{q:Rat}{qs:List Rat}
theorem Fc.cG(h:Fc w S css qs)(hk:∀g,S g->w2.heap[g]? =w.heap[g]?):Fc w2 S css qs:=⟨h.1,fun j cs q h1 h2=>(h.2 j cs q h1 h2).cG hk⟩
theorem Fc.cI(h:Fc w S css qs)(hk:∀g,S g->S' g):Fc w S' css qs:=⟨h.1,fun j cs q h1 h2=>(h.2 j cs q h1 h2).cI hk⟩
theorem Fc.wW(h:Fc w S css qs):∀cs∈css,cs.length=4:=fun cs hc=>by
 obtain⟨j,hj⟩:=aS hc;have hl:=(aE.1 hj).1;exact(h.2 j cs _ hj (aB (by rw[<-h.1];exact hl))).len
theorem Fc.one(h:Fc w S css qs):∀u∈css.flatten,u.oneCell'=true:=fun u hu=>by
 obtain⟨cs,hc,hu⟩:=List.mem_flatten.1 hu;obtain⟨j,hj⟩:=aS hc;have hl:=(aE.1 hj).1;obtain⟨_,_,_,_,_,_,_,_,rfl,_⟩:=h.2 j cs _ hj (aB (by rw[<-h.1];exact hl));simp at hu;rcases hu with rfl|rfl|rfl|rfl<;>rfl
theorem Fc.set(h:Fc w S css qs)(hq:gg w S cs q):Fc w S (css.set j cs) (qs.set j q):=by
 refine⟨by simp[h.1],fun i c p h1 h2=>?_⟩;by_cases hij:j=i
 ·subst hij;have hl:=(aE.1 h1).1;rw[aW (by simpa using hl)]at h1;rw[aW (by have:=h.1;simp at hl;omega)]at h2;injection h1 with h1;injection h2 with h2;subst h1 h2;exact hq
 ·rw[bA hij]at h1 h2;exact h.2 i c p h1 h2
end
def fm(w:World)(C S:Nat->Prop)(v:Value)(qs:List Rat):Prop:=∃css,ig w C 4 v css.flatten qs.length∧Fc w S css qs
section
variable{C C' S S':Nat->Prop}{H:Hp}{nx:Nat}{iv iv':Iv}{B:Nat}{w w' w2:World}{O:Nat->Sx.df}{v:Value}{qs:List Rat}
theorem fm.cG(h:fm w C S v qs)(hk:∀g,C g∨S g->w2.heap[g]? =w.heap[g]?):fm w2 C S v qs:=by
 obtain⟨css,h1,h2⟩:=h;exact⟨css,h1.cG fun g hg=>hk g (.inl hg),h2.cG fun g hg=>hk g (.inr hg)⟩
theorem fm.cI(h:fm w C S v qs)(hk:∀g,C g->C' g)(hk2:∀g,S g->S' g):fm w C' S' v qs:=by
 obtain⟨css,h1,h2⟩:=h;exact⟨css,h1.cI hk,h2.cI hk2⟩
end
def gu(w:World)(S:Nat->Prop)(v:Value)(n:Nat)(qs:List Rat):Prop:=∃css,w.ownsRow 0 T.Rat 4 v n css.flatten∧css.length=n∧Fc w S css qs
section
variable{S S' C:Nat->Prop}{H:Hp}{nx n:Nat}{iv iv':Iv}{B:Nat}{w w' w2:World}{O:Nat->Sx.df}{v:Value}{qs:List Rat}
theorem gu.cG(h:gu w S v n qs)(hk:∀g,S g∨v.ownBlock=some g->w2.heap[g]? =w.heap[g]?):gu w2 S v n qs:=by
 obtain⟨css,h1,h2,h3⟩:=h;exact⟨css,ownsRow.cG h1 fun g hg=>hk g (.inr hg),h2,h3.cG fun g hg=>hk g (.inl hg)⟩
theorem gu.cI(h:gu w S v n qs)(hk:∀g,S g->S' g):gu w S' v n qs:=by
 obtain⟨css,h1,h2,h3⟩:=h;exact⟨css,h1,h2,h3.cI hk⟩
theorem gu.len(h:gu w S v n qs):qs.length=n:=by
 obtain⟨css,h1,h2,h3⟩:=h;rw[<-h3.1,h2]
theorem gu.form(h:gu w S v n qs):∃a c,v= .slice a n c∧n<=c:=by
 obtain⟨css,h1,h2,h3⟩:=h;exact jL h1
theorem gu.le(h:gu w S v n qs):n<=maxLen:=by
 obtain⟨css,h1,h2,h3⟩:=h;rcases h1.2 with⟨_,h0⟩|⟨_,_,_,_,_,_,h1,h2,_⟩
 ·omega
 ·omega
theorem gu.read(h:gu w S v n qs):fm w (fun g=>v.ownBlock=some g) S v qs:=by
 have hl:=h.len;have hn:=h.le;obtain⟨css,h1,h2,h3⟩:=h;refine⟨css,?_,h3⟩;rw[hl];rcases h1.2 with⟨rfl,rfl⟩|⟨g,cap,cur,rfl,hb,hc,hmc,hcap,hsz,htake⟩
 ·refine⟨hn,h1.1,h3.one,none,0,rfl,aG _,fun j u hu=>?_⟩;have:=h1.1;rw[Nat.zero_mul]at this;rw[List.eq_nil_of_length_eq_zero this]at hu
  cases hu
 ·refine⟨hn,h1.1,h3.one,_,cap,rfl,hmc,fun j u hu=>⟨_,rfl,rfl,?_⟩⟩;exact h1.cells (g:=g) rfl j u hu
theorem gu.store{c n1 c1 n2 c2:Nat}{b b2:Bool}(h:gu w S (.slice a n c) n qs)(hj:j<n)(hf:cP w S (.agg #[.bool b,.slice a1 n1 c1,.bool b2,.slice a2 n2 c2]) q)(hoff:∀g,(Value.slice a n c).ownBlock=some g->¬S g)(hS:Old S w):
  ∃g,a=some ⟨g,0,none⟩∧((⟨g,0,none⟩:Addr).add ((j:Int).toNat*4)).spot=none∧((⟨g,0,none⟩:Addr).add ((j:Int).toNat*4)).block=g∧
   (∀k,k<4->(w.cell? (((⟨g,0,none⟩:Addr).add ((j:Int).toNat*4)).add k)).isSome=true∧w.frozen? (((⟨g,0,none⟩:Addr).add ((j:Int).toNat*4)).add k)=false)∧
   ∀w2,w2=setCells w ((⟨g,0,none⟩:Addr).add ((j:Int).toNat*4)) [.bool b,.slice a1 n1 c1,.bool b2,.slice a2 n2 c2]->gu w2 S (.slice a n c) n (qs.set j q)∧w.grownBy w2 (some g)∧w2.heap.size=w.heap.size:=by
 obtain⟨css,h1,h2,h3⟩:=h;obtain⟨g,rfl,hok,hst,hgr,hsz⟩:=oY (nv:=[.bool b,.slice a1 n1 c1,.bool b2,.slice a2 n2 c2]) h1 rfl hj rfl (by decide);have had:(⟨g,0,none⟩:Addr).add ((j:Int).toNat*4)=⟨g,j*4,none⟩:=by rw[aF,dP,aV]
 refine⟨g,rfl,by rw[had],by rw[had],fun k hk=>by rw[had];exact hok k hk,fun w2 hw2=>?_⟩;rw[had]at hw2;subst hw2;have hset:=ie (cs:=[.bool b,.slice a1 n1 c1,.bool b2,.slice a2 n2 c2]) h3.wW (show j<css.length by omega);rw[hset]at hst;have hkeep:∀x,S x->(setCells w ⟨g,j*4,none⟩ [.bool b,.slice a1 n1 c1,.bool b2,.slice a2 n2 c2]).heap[x]? =w.heap[x]? :=fun x hx=>
  hgr.block x (hS x hx) fun e=>hoff g rfl (by injection e with e;rw[<-e];exact hx)
 exact⟨⟨_,hst,by simpa using h2,(h3.cG hkeep).set (hf.cG hkeep).pS⟩,hgr,hsz⟩
structure dS(w:World)(S:Nat->Prop)(B:Nat)(iv:Iv)(v:Value)(n:Nat)(qs:List Rat):Prop where
 row:gu w (fun g=>Cv S B iv g∧v.ownBlock≠some g) v n qs
 new:∀g,v.ownBlock=some g->Cv (fun _=>False) B iv g
theorem dS.cG(h:dS w S B iv v n qs)(hk:∀g,Cv S B iv g->w2.heap[g]? =w.heap[g]?):dS w2 S B iv v n qs:=
 ⟨h.row.cG fun g hg=>hk g (hg.elim (fun h=>h.1) fun hg=>(h.new g hg).elim (fun h=>h.elim) .inr),h.new⟩
theorem dS.rel(h:dS w S B iv v n qs)(r:Rel H nx iv B w O w')(hS:∀g,S g->g<B):dS w' S B iv v n qs:=h.cG fun _ hg=>Rel.same r hS hg
theorem dS.cF(h:dS w S B iv v n qs)(r:Rel H nx iv B w O w')(hS:∀g,S g->g<B)(he:Ext w' w2)(hm:∀p,p∈iv->p∈iv'):dS w2 S B iv' v n qs:=
 have h2:=(h.rel r hS).cG fun g hg=>he.block g (Rel.old r hS g hg)
 ⟨h2.row.cI fun _ hg=>⟨hg.1.mono hm,hg.2⟩,fun g hg=>(h2.new g hg).mono hm⟩
theorem dS.c9(h:dS w2 (fun _=>False) w'.heap.size [(w'.heap.size,w2.heap.size)] v n qs)(hB:B<=w'.heap.size)(hm:(w'.heap.size,w2.heap.size)∈iv):dS w2 S B iv v n qs:=by
 have key:∀g {X:Nat->Prop},Cv (fun _=>False) w'.heap.size [(w'.heap.size,w2.heap.size)] g->Cv X B iv g:=fun g X hg=>by
  rcases hg with hg|⟨h1,lo,hi,h2,h3,h4⟩
  ·exact hg.elim
  ·simp at h2;obtain⟨rfl,rfl⟩:=h2;exact .inr ⟨by omega,_,_,hm,h3,h4⟩
 exact⟨h.row.cI fun g hg=>⟨key g hg.1,hg.2⟩,fun g hg=>key g (h.new g hg)⟩
theorem dS.out{w0 w1:World}(h:dS w1 (fun _=>False) w0.heap.size iv v n qs)(r:Rel H nx iv w0.heap.size w1 O w'):dS w' (fun _=>False) w0.heap.size [(w0.heap.size,w'.heap.size)] v n qs:=by
 have h2:=h.rel r (cB w0);have key:∀g,Cf w0 iv g->Cf w0 [(w0.heap.size,w'.heap.size)] g:=fun g hg=>by
  rcases hg with hg|⟨h1,lo,hi,h2,h3,h4⟩
  ·exact hg.elim
  ·exact .inr ⟨h1,_,_,bD.2 rfl,h1,by have:=r.qV lo hi h2;have:=r.size;omega⟩
 exact⟨h2.row.cI fun g hg=>⟨key g hg.1,hg.2⟩,fun g hg=>key g (h2.new g hg)⟩
theorem dS.read(h:dS w S B iv v n qs):fm w (Cv S B iv) (Cv S B iv) v qs:=
 h.row.read.cI (fun g hg=>(h.new g hg).elim (fun h=>h.elim) .inr) fun _ hg=>hg.1
end
section
variable{S S':Nat->Prop}{H:Hp}{nx n:Nat}{iv iv':Iv}{B:Nat}{w w' w2:World}{O:Nat->Sx.df}{v:Value}{qs:List Rat}
theorem dS.store{c n1 c1 n2 c2:Nat}{b b2:Bool}(h:dS w' S B iv (.slice a n c) n qs)(hj:j<n)(hf:cP w' (fun g=>Cv S B iv g∧(Value.slice a n c).ownBlock≠some g) (.agg #[.bool b,.slice a1 n1 c1,.bool b2,.slice a2 n2 c2]) q)
  (r:Rel H nx iv B w O w') (hS:∀g,S g->g<B):
  ∃g,a=some ⟨g,0,none⟩∧((⟨g,0,none⟩:Addr).add ((j:Int).toNat*4)).spot=none∧
   (∀k,k<4->(w'.cell? (((⟨g,0,none⟩:Addr).add ((j:Int).toNat*4)).add k)).isSome=true∧w'.frozen? (((⟨g,0,none⟩:Addr).add ((j:Int).toNat*4)).add k)=false)∧
   (∀id b,dA H id=some b->(O id).nil=false->(O id).g≠((⟨g,0,none⟩:Addr).add ((j:Int).toNat*4)).block)∧Cv (fun _=>False) B iv g∧
   ∀w2,w2=setCells w' ((⟨g,0,none⟩:Addr).add ((j:Int).toNat*4)) [.bool b,.slice a1 n1 c1,.bool b2,.slice a2 n2 c2]->dS w2 S B iv (.slice a n c) n (qs.set j q)∧w'.grownBy w2 (some g)∧w2.heap.size=w'.heap.size:=by
 obtain⟨g,rfl,h1,h2,h3,h4⟩:=h.row.store hj hf (fun g hg hx=>hx.2 hg) (fun x hx=>Rel.old r hS x hx.1);refine⟨g,rfl,h1,h3,fun id b hb hn=>by rw[h2];exact Rel.not r hS (Av (h.new g rfl)) id b hb hn,h.new g rfl,fun w2 hw2=>?_⟩;obtain⟨k1,k2,k3⟩:=h4 w2 hw2;exact⟨⟨k1,h.new⟩,k2,k3⟩
end
end Go.Ex
namespace Go.Sx
open Go Go.Ex Go.Proofs
variable{cs:List Value}{O:Nat->Sx.df}
theorem Sub.oN{B:Nat}{l tl:Env}{nx:Nat}{H tH:Hp}{iv:Iv}{w w':World}{id t n c:Nat}{e:TypeId}(r:Rel H nx iv B w O w')(hid:dA H id=some (.arr e cs))(ht:fF l t=some (.o (.s id 0 n c)))
  (hs:vq H tH) (ho:Ci id tH=true) (h1:Ce l tl) (h2:jn nx tl):
  Sub B l nx O w' ⟨(t,.o (.v (.slice (some ⟨(O id).g,0,none⟩) n c)))::tl,tH,nx,((O id).g,(O id).g+1)::iv,w'⟩:=by
 refine⟨O,r.free hid (by simp) (r.fits hid).1 hs ho,fun u v hv=>?_⟩;rw[eU]at hv;split at hv
 ·rename_i e;subst e;injection hv with hv;subst hv;exact⟨trivial,_,ht,rfl⟩
 ·exact⟨h2.get u v hv,v,h1.get u v hv,rfl⟩
end Go.Sx
namespace Go.Ex
open Go Go.Sx Go.Proofs
end Go.Ex
namespace Go.Ex
open Go Go.Sx Go.Proofs
variable{H:Hp}{iv:Iv}{css:List (List Value)}{ps:List Nat}{qs:List Rat}{cs:List Value}{B nx:Nat}{S:Nat->Prop}{O:Nat->Sx.df}{v:Value}{w w':World}
theorem LY{x:Nat}(hS:Old S w)(h:dF w S v ps):
  dm PG N.Ar #[v,.int .i64 x] w (eB w fun v' _=>v'= .bool (decide (x∈ps))):=by
 obtain⟨h0,h1,h2,a,c,rfl,hc,hcell⟩:=h;unfold maxLen at h0;refine Bt (by simp) ?_
 refine⟨Nat×World,fun z=>⟨[(0,.o (.v (.slice a ps.length c))),(1,.o (.v (.int .i64 x))),(5,.o (.v (.int .i64 ((z.1:Nat):Int))))],[],0,[],z.2⟩,fun z=>ps.length-z.1,
  fun z=>z.1<=ps.length∧cV w.heap.size w z.2∧∀(j:Nat) y,j<z.1->ps[j]? =some y->y≠x,?_,?_⟩
 ·intro O w' r;exact⟨(0,w'),⟨by simp,r.cM,fun j y hj=>by dsimp only at hj;omega⟩,Sub.gn [] r⟩
 rintro⟨i,w1⟩ ⟨hi,hw,ht⟩;dsimp only at hi hw ht ⊢;refine dI.mk (fun hib=>?_) (fun hib=>?_)
 ·have hib:i<ps.length:=by simpa using hib
  obtain⟨y,hy⟩:∃y,ps[i]? =some y:=⟨_,aB hib⟩
  obtain⟨ad,rfl,q1,q2⟩:=hcell i (.int .i64 (y:Int)) (by rw[aN,hy];rfl);refine⟨ad,rfl,by omega,.int .i64 (y:Int),fun O w' r=>by rw[aF,aU];exact jX hS hw r q1 q2,?_⟩;refine dI.mk (fun he=>?_) (fun he=>?_)
  ·have he1:(y:Int)=x:=by simpa using he
   have he2:y=x:=by omega
   intro O w2 r;exact⟨_,rfl,hw.tr r.cM,by rw[bR (by rw[<-he2];exact aD hy)];rfl⟩
  have he1:¬(y:Int)=x:=by simpa using he
  refine⟨((i+1:Nat):Int),wo,?_⟩;intro ρ3 w3 r3
  exact⟨(i+1,w3),⟨hib,hw.tr r3.cM,fun j z hj hz=>by
   by_cases hji:j=i
   ·subst hji;rw[hy]at hz;injection hz with hz;omega
   ·exact ht j z (by dsimp only at hj;omega) hz⟩,Sub.gn [] r3,by dsimp only;omega⟩
 have hib:i=ps.length:=aR hi (by simpa using hib);intro O w2 r;refine⟨_,rfl,hw.tr r.cM,?_⟩
 rw[bF (fun hm=>by
  obtain⟨j,hj,e⟩:=List.mem_iff_getElem.1 hm
  exact ht j _ (by omega) (aB hj) e)]
 rfl
def dU(w:World)(S:Nat->Prop)(rv:List Value)(K:List (List Rat)):Prop:=rv.length=K.length∧(∀u∈rv,u.oneCell'=true)∧∀(i:Nat) u r,rv[i]? =some u->K[i]? =some r->cO w S u r
section
variable{S S':Nat->Prop}{H:Hp}{nx:Nat}{iv iv':Iv}{B:Nat}{w w' w2:World}{O:Nat->Sx.df}{rv:List Value}{K:List (List Rat)}
theorem dU.cG(h:dU w S rv K)(hk:∀g,S g->w2.heap[g]? =w.heap[g]?):dU w2 S rv K:=⟨h.1,h.2.1,fun i u x h1 h2=>cO.cG (h.2.2 i u x h1 h2) hk⟩
theorem dU.cI(h:dU w S rv K)(hk:∀g,S g->S' g):dU w S' rv K:=⟨h.1,h.2.1,fun i u x h1 h2=>cO.cI (h.2.2 i u x h1 h2) hk⟩
theorem dU.rel(h:dU w (Cv S B iv) rv K)(r:Rel H nx iv B w O w')(hS:∀g,S g->g<B):dU w' (Cv S B iv) rv K:=h.cG fun _ hg=>Rel.same r hS hg
theorem dU.cF(h:dU w (Cv S B iv) rv K)(r:Rel H nx iv B w O w')(hS:∀g,S g->g<B)(he:Ext w' w2)(hm:∀p,p∈iv->p∈iv'):dU w2 (Cv S B iv') rv K:=
 ((h.rel r hS).cG fun g hg=>he.block g (Rel.old r hS g hg)).cI fun _ hg=>hg.mono hm
theorem dU.push{u:Value}{x:List Rat}(h:dU w S rv K)(hu:u.oneCell'=true)(hx:cO w S u x):dU w S (rv++[u]) (K++[x]):=by
 refine⟨by simp[h.1],fun v hv=>?_,fun i v y h1 h2=>?_⟩
 ·rcases bQ.1 hv with hv|hv
  ·exact h.2.1 v hv
  ·simp at hv;subst hv;exact hu
 ·rcases aQ i rv.length with hi|hi
  ·rw[aM hi]at h1;rw[aM (by rw[<-h.1];exact hi)]at h2;exact h.2.2 i v y h1 h2
  ·have hi0:i=rv.length:=by have:=(aE.1 h1).1;simp at this;omega
   subst hi0;rw[aO (aG _),bM]at h1;rw[h.1,aO (aG _),bM]at h2;simp at h1 h2;subst h1 h2;exact hx
end
theorem Ln(r:Rel H nx iv B w O w'){id n:Nat}(h:dA H id=some (.arr T.Rat css.flatten))(hl:css.length=n)(h4:∀cs∈css,cs.length=4)(hn:n<=maxLen):
  w'.ownsRow 0 T.Rat 4 (.slice (some ⟨(O id).g,0,none⟩) n n) n css.flatten:=by
 have hf:=e9 h4;rw[hl]at hf;exact⟨hf,.inr ⟨(O id).g,n,css.flatten.toArray,rfl,aP _,r.arr id _ _ h,aG _,hn,by simpa using hf,by rw[<-hf];exact bE⟩⟩
theorem dS.oN(r:Rel H nx iv B w O w'){id n:Nat}(h:dA H id=some (.arr T.Rat css.flatten))(hl:css.length=n)(hn:n<=maxLen)(hc:Fc w (Cv (fun _=>False) B iv) css qs):
  dS w' S B (((O id).g,(O id).g+1)::iv) (.slice (some ⟨(O id).g,0,none⟩) n n) n qs:=by
 refine⟨⟨css,Ln r h hl hc.wW hn,hl,(hc.cG fun g hg=>Rel.same r (fz B) hg).cI fun g hg=>⟨?_,fun e=>?_⟩⟩,fun g hg=>?_⟩
 ·exact Av (hg.mono fun p hp=>aC _ hp)
 ·injection e with e;exact Rel.not r (fz B) hg id _ h (r.fits h).1 e
 ·injection hg with hg;subst hg;exact .inr ⟨(r.low id _ h (r.fits h).1).1,_,_,aJ,aG _,bf _⟩
theorem dS.Mj{n:Nat}(h:dS w S B iv v n qs):cO w (Cv S B iv) v qs:=by
 obtain⟨css,h1,h2⟩:=h.read;exact⟨css,h1,h2.1,h2.wW,h2.2⟩
def iq(w:World)(S:Nat->Prop)(css:List (List Value))(k:Nat):Prop:=∀(j:Nat) cs,j<k->css[j]? =some cs->gg w S cs 0
theorem iq.rel{k:Nat}(h:iq w (Cv S B iv) css k)(r:Rel H nx iv B w O w')(hS:∀g,S g->g<B):iq w' (Cv S B iv) css k:=fun j cs h1 h2=>(h j cs h1 h2).cG fun _ hg=>Rel.same r hS hg
theorem iq.cF{iv':Iv}{w2:World}{k:Nat}(h:iq w (Cv S B iv) css k)(r:Rel H nx iv B w O w')(hS:∀g,S g->g<B)(he:Ext w' w2)(hm:∀p,p∈iv->p∈iv'):iq w2 (Cv S B iv') css k:=fun j cs h1 h2=>
 (((h.rel r hS) j cs h1 h2).cG fun g hg=>he.block g (Rel.old r hS g hg)).cI fun _ hg=>hg.mono hm
theorem iq.push{k:Nat}(h:iq w S css k)(hc:gg w S cs 0):iq w S (css.set k cs) (k+1):=fun j x hj hx=>by
 rw[List.getElem?_set]at hx;split at hx
 ·split at hx
  ·injection hx with hx;subst hx;exact hc
  ·cases hx
 ·exact h j x (by omega) hx
theorem Ip{k:Nat}(h:∀x∈css,x.length=4)(hc:cs.length=4):∀x∈css.set k cs,x.length=4:=fun x hx=>by
 rcases bI hx with h1|h1
 ·exact h x h1
 ·rw[h1];exact hc
theorem iq.one{c n:Nat}(h:iq w S css n)(hl:css.length=n)(hc:gg w S cs 1):Fc w S (css.set c cs) ((List.replicate n 0).set c 1):=by
 refine⟨by simp[hl],fun j x q h1 h2=>?_⟩;rw[List.getElem?_set]at h1 h2;by_cases hj:c=j
 ·rw[if_pos hj]at h1 h2;split at h1
  ·split at h2
   ·injection h1 with h1;injection h2 with h2;subst h1 h2;exact hc
   ·cases h2
  ·cases h1
 ·rw[aK hj]at h1 h2;have hjn:j<n:=by have:=(aE.1 h1).1;omega
  rw[List.getElem?_replicate,if_pos hjn]at h2;injection h2 with h2;subst h2;exact h j x hjn h1
end Go.Ex
namespace Go.Ex
theorem Hc(s:List (List Rat)×List Nat)(c:Nat):(dW s c).2=s.2∨(dW s c).2=s.2++[c]:=by
 unfold dW;split
 ·dsimp only
  split
  ·exact .inl rfl
  ·exact .inr rfl
 ·exact .inl rfl
theorem iN(M:List (List Rat)):∀c:Nat,(∀p∈((List.range c).foldl dW (M,[])).2,p<c)∧(((List.range c).foldl dW (M,[])).2).Pairwise (· < ·)∧((List.range c).filter fun j=>decide (j∉((List.range c).foldl dW (M,[])).2)).length+((List.range c).foldl dW (M,[])).2.length=c:=by
 intro c
 induction c with
 |zero=>simp
 |succ c ih=>
  rw[bN,List.foldl_append,List.foldl_cons,List.foldl_nil];generalize (List.range c).foldl dW (M,[])=s at*
  obtain⟨h1,h2,h3⟩:=ih;have hc:c∉s.2:=fun h=>by have:=h1 c h;omega
  rcases Hc s c with e|e
  ·rw[e];refine⟨fun p hp=>by have:=h1 p hp;omega,h2,?_⟩;rw[List.filter_append,List.length_append];simp only[List.filter_cons,hc,not_false_eq_true,decide_true,if_true,List.filter_nil,List.length_singleton]
   omega
  ·rw[e];refine⟨fun p hp=>?_,?_,?_⟩
   ·rcases bQ.1 hp with hp|hp
    ·have:=h1 p hp;omega
    ·simp at hp;omega
   ·rw[List.pairwise_append];exact⟨h2,by simp,fun a ha b hb=>by simp at hb;subst hb;exact h1 a ha⟩
   ·rw[List.filter_append,List.length_append];have:(List.range c).filter (fun j=>decide (j∉s.2++[c]))=(List.range c).filter (fun j=>decide (j∉s.2)):=List.filter_congr fun j hj=>by
     have:=List.mem_range.1 hj;have hne:j≠c:=by omega
     simp[hne]
    have h0:(([c]:List Nat).filter fun j=>decide (j∉s.2++[c])).length=0:=by simp
    rw[this,List.length_append,List.length_singleton,h0];omega
end Go.Ex
namespace Go.Ex
open Go Go.Sx Go.Proofs
variable{cs:List Value}{O:Nat->Sx.df}
section
variable{S S':Nat->Prop}{H:Hp}{nx:Nat}{iv iv':Iv}{B:Nat}{w w' w2:World}{O:Nat->Sx.df}{v:Value}{M:List (List (Int×Int))}
end
def eH(xs ys:List Rat):Nat->Rat
 |0=>0
 |i+1=>eH xs ys i+xs.getD i 0*ys.getD i 0
theorem ki{xs ys:List Rat}{h:Nat}(hx:∀q∈xs,rl q+1<=h)(hy:∀q∈ys,rl q+1<=h)(h2:2<=h):∀i:Nat,rl (eH xs ys i)<=2*h*i+2
 |0=>by rw[eH];exact a9 (by decide:rl 0<=2) (by omega)
 |i+1=>by
  have h3:=ki hx hy h2 i;have h4:=nL (eH xs ys i) (xs.getD i 0*ys.getD i 0);have h5:=iF (xs.getD i 0) (ys.getD i 0);have h6:=Fu hx h2 i;have h7:=Fu hy h2 i;rw[eH,bS];omega
section
variable{S S':Nat->Prop}{H:Hp}{nx:Nat}{iv iv':Iv}{B:Nat}{w w' w2:World}{O:Nat->Sx.df}{v:Value}{qs:List Rat}
end
section
variable{S S':Nat->Prop}{H:Hp}{nx:Nat}{iv iv':Iv}{B:Nat}{w w' w2:World}{O:Nat->Sx.df}{v:Value}{M:List (List Rat)}
end
section
variable{S S':Nat->Prop}{H:Hp}{nx:Nat}{iv iv':Iv}{B:Nat}{w w' w2:World}{O:Nat->Sx.df}{v:List Value}{M:List (List Rat)}
end
theorem mQ(w:World)(t e:TypeId)(a:Option Addr)(n c n' c':Nat)(h:PG.underlying t=some (.slice e)):
  (binOp .eql t (.slice a n c) (.slice none n' c')).run PG w= .ok (.bool a.isNone) w:=by
 have:∀d,(Op.equalIn (d+1) t (.slice a n c) (.slice none n' c')).run PG w= .ok a.isNone w:=fun d=>by cases a<;>simp[Op.equalIn,run_underlying h]
 simp only[binOp]
 cases a<;>simp[Op.equal,Op.maxDepth,this 9999]
abbrev MV(gm R:Nat):Value:=.slice (some ⟨gm,0,none⟩) R R
def Mz(S:Nat->Prop)(B:Nat)(iv:Iv)(gm R:Nat)(rv:List Value)(g:Nat):Prop:=Cv S B iv g∧¬Mb (MV gm R) rv g
structure Ma(w:World)(S:Nat->Prop)(B:Nat)(iv:Iv)(gm R n:Nat)(rv:List Value)(M:List (List Rat)):Prop where
 mat:MD w (Mz S B iv gm R rv) (MV gm R) rv n M
 AR:∀g,Mb (MV gm R) rv g->Cv (fun _=>False) B iv g
 rows:rv.length=R
section
variable{S S':Nat->Prop}{H:Hp}{nx gm R n:Nat}{iv iv':Iv}{B:Nat}{w w' w2:World}{O:Nat->Sx.df}{rv:List Value}{M:List (List Rat)}
structure aAE(w:World)(S:Nat->Prop)(B:Nat)(iv:Iv)(gm R n:Nat)(rv:List Value)(M:List (List Rat))(i:Nat)(vb:Value):Prop where
 out:w.ownsRow 0 T.row 1 (MV gm R) R (rv.set i vb)
 was:∃w0,Ma w0 S B iv gm R n rv M∧∀g,Cv S B iv g->g≠gm->w.heap[g]? =w0.heap[g]?
end
section
variable{S:Nat->Prop}{H:Hp}{nx gm R:Nat}{iv iv':Iv}{B:Nat}{w w' w2:World}{O:Nat->Sx.df}{rv:List Value}{css:List (List Value)}{qs:List Rat}
end
inductive Tp where
 |nil
 |x (i:Nat) (t:Tp)
 |two (i:Nat) (t:Tp) (j:Nat) (u:Tp)
 |oN (id:Nat) (t:Tp)
section
variable{P:Program}{τ:mL}{ops:Array Oper}{B n nx:Nat}{l:Env}{H:Hp}{iv:Iv}{w w':World}{O:Nat->Sx.df}{a:Act}
end
theorem tQ{l tl:Env}{nx t id n:Nat}(hn:(O id).nil=false)(ht:fF l t=some (.o (.w id n)))(h1:Ce l tl)(h2:jn nx tl):∀u v,fF ((t,.o (.v (.slice (some ⟨(O id).g,0,none⟩) n (O id).cap)))::tl) u=some v->v.sc nx∧∃v',fF l u=some v'∧v'.den O=v.den O:=fun u v hv=>by
 rw[eU]at hv;split at hv
 ·rename_i e;subst e;injection hv with hv;subst hv;exact⟨trivial,_,ht,by simp[SV.den,At.den,hn]⟩
 ·exact⟨h2.get u v hv,v,h1.get u v hv,rfl⟩
theorem Js{H:Hp}{nx:Nat}{iv:Iv}{B:Nat}{w w':World}(r:Rel H nx iv B w O w'){id t m sz:Nat}(h:dA H id=some (.vec t sz cs))(hm:cs.length=m*sz)(hm1:m<=maxLen)(hs:0<sz)(h0:0<m)(h1:∀u∈cs,u.oneCell'=true):
  (O id).nil=false∧B<=(O id).g∧ig w' (fun g=>g=(O id).g) sz (.slice (some ⟨(O id).g,0,none⟩) m (O id).cap) cs m:=by
 rcases r.vec id t sz _ h with⟨hn,rfl⟩|⟨hn,spare,hb,hc,hcap⟩
 ·have:=Nat.mul_pos h0 hs;simp at hm;omega
 ·refine⟨hn,(r.low id _ h hn).1,hm1,hm,h1,some ⟨(O id).g,0,none⟩,(O id).cap,rfl,?_,fun j x hx=>⟨_,rfl,rfl,?_⟩⟩
  ·have h1:(cs++spare).length=cs.length+spare.length:=List.length_append;have h2:m*sz<=(O id).cap*sz:=by omega
   exact bo h2 hs
  ·rw[dP,cell_of hb,aV,aM (aE.1 hx).1];exact hx
end Go.Ex
namespace Go.Ex
section
variable{M:List (List Rat)}{b:List Rat}{n:Nat}
def dq(M:List (List Rat))(b:List Rat):List (List Rat):=M.mapIdx fun i r=>r++[b.getD i 0]
theorem iw(hl:fe n M):fe (n+1) (dq M b):=fun r hr=>by
 obtain⟨i,hi⟩:=aS hr;unfold dq at hi;rw[List.getElem?_mapIdx]at hi
 cases hx:M[i]? with
 |none=>rw[hx]at hi;cases hi
 |some x=>
  rw[hx]at hi;injection hi with hi;subst hi;rw[List.length_append,hl x (aD hx)];rfl
theorem ef:(dq M b).length=M.length:=by simp[dq]
end
end Go.Ex
namespace Go.Ex
open Go Go.Sx Go.Proofs
variable{q:Rat}
section
variable{S:Nat->Prop}{H:Hp}{nx:Nat}{iv0:Iv}{B:Nat}{w w' w2:World}{O:Nat->Sx.df}{v:Value}{xs:List Rat}
end
theorem kp:rs q<0↔q<0:=by rw[rs,Int.sign_neg_iff,<-Int.not_le,Rat.num_nonneg,Rat.not_le]
theorem ko:0<rs q↔0<q:=by
 have h:=kp (q:= -q);rw[Kp]at h;constructor
 ·intro k;have:=h.1 (by omega);grind
 ·intro k;have:=h.2 (by grind);omega
end Go.Ex
namespace Go.Ex
variable{M:List (List Rat)}{pv:List Nat}{l:List Rat}{E F m:Mx}{B C j r:Nat}{p σ:Nat->Nat}{u v:Nat->Rat}{d q:Rat}
def jZ:List Nat->(Nat->Rat)->Rat
 |[],_=>0
 |t::l,g=>g t+jZ l g
theorem xm{g h:Nat->Rat}:∀{l:List Nat},(∀t∈l,g t=h t)->jZ l g=jZ l h
 |[],_=>rfl
 |t::l,e=>by show g t+_=h t+_;rw[e t aJ,xm fun s hs=>e s (aC _ hs)]
theorem A4{g:Nat->Rat}:∀{l:List Nat},(∀t∈l,g t=0)->jZ l g=0
 |[],_=>rfl
 |t::l,e=>by show g t+_=0;rw[e t aJ,A4 fun s hs=>e s (aC _ hs),bX]
theorem uz(g:Nat->Rat):∀l k:List Nat,jZ (l++k) g=jZ l g+jZ k g
 |[],k=>(Rat.zero_add _).symm
 |t::l,k=>by show g t+jZ (l++k) g=g t+jZ l g+jZ k g;rw[uz g l k,Rat.add_assoc]
theorem Cw(g:Nat->Rat):∀l:List Nat,jZ l (fun t=> -g t)= -jZ l g
 |[]=>rfl
 |t::l=>by show -g t+jZ l _= -(g t+jZ l g);rw[Cw g l,Rat.neg_add]
theorem vA(p:Nat->Bool)(g:Nat->Rat):∀l:List Nat,jZ l g=jZ (l.filter p) g+jZ (l.filter fun t=> !p t) g
 |[]=>(bX 0).symm
 |t::l=>by
  show g t+jZ l g=_;rw[vA p g l,List.filter_cons,List.filter_cons]
  cases p t with
  |true=>show _=g t+_+_;rw[Rat.add_assoc];rfl
  |false=>
   show _=jZ (l.filter p) g+(g t+_)
   rw[<-Rat.add_assoc,Rat.add_comm (g t),Rat.add_assoc]
theorem xn{g:Nat->Rat}{s:Nat}:∀{l:List Nat},l.Nodup->s∈l->(∀t∈l,t≠s->g t=0)->jZ l g=g s
 |[],_,hm,_=>by cases hm
 |t::l,hn,hm,h=>by
  show g t+jZ l g=g s;have hn2:=List.nodup_cons.1 hn;rcases List.mem_cons.1 hm with rfl|hm
  ·rw[A4 fun u hu=>h u (aC _ hu) fun e=>hn2.1 (e▸hu),bX]
  ·rw[h t aJ (fun e=>hn2.1 (e▸hm)),Rat.zero_add,xn hn2.2 hm fun u hu=>h u (aC _ hu)]
theorem xo{i t:Nat}{v:Rat}:(l.set i v).getD t 0=if i=t∧i<l.length then v else l.getD t 0:=by
 simp only[List.getD,List.getElem?_set]
 by_cases h:i=t
 ·subst h;by_cases hl:i<l.length
  ·simp[hl]
  ·simp[hl]
 ·simp[h]
theorem xp{F:Nat->List Rat}{pv:List Nat}{f:Nat->Rat}(hF:∀i,F (i+1)=(F i).set (pv.getD i 0) (f i)){t:Nat}(ht:t∉pv):∀i,i<=pv.length->(F i).getD t 0=(F 0).getD t 0
 |0,_=>rfl
 |i+1,h=>by
  rw[hF,xo,aK fun e=>ht (by rw[<-e.1,List.getD,aB (by omega)];exact aX _)];exact xp hF ht i (by omega)
theorem Hd(hp:pv.Pairwise (· < ·)){i:Nat}(hij:j<i)(hi:i<pv.length):pv.getD j 0<pv.getD i 0:=by
 rw[List.getD,List.getD,aB hi,aB (by omega)];exact List.pairwise_iff_getElem.1 hp j i _ _ hij
theorem nE{F:Nat->List Rat}{pv:List Nat}{f:Nat->Rat}{n:Nat}(hF:∀i,F (i+1)=(F i).set (pv.getD i 0) (f i))(hl:∀i,(F i).length=n)(hp:pv.Pairwise (· < ·))(hn:∀p∈pv,p<n){j:Nat}:∀i,i<=pv.length->j<i->(F i).getD (pv.getD j 0) 0=f j
 |0,_,h=>by omega
 |i+1,h,hj=>by
  rw[hF,xo];rcases aQ j i with h1|h1
  ·have:=Hd hp h1 (by omega);rw[aK (by omega)];exact nE hF hl hp hn i (by omega) h1
  ·have e:j=i:=by omega
   subst e;have hm:pv.getD j 0<(F j).length:=by rw[hl];exact hn _ (by rw[List.getD,aB (by omega)];exact aX _)
   rw[if_pos ⟨rfl,hm⟩]
abbrev iS(pv:List Nat)(n:Nat):List Nat:=(List.range n).filter fun c=>decide (c∉pv)
section
variable{M:List (List Rat)}{x:List Rat}{n:Nat}
end
structure Diff(A:List (List Rat))(pv:List Nat)(n:Nat)(x:List Rat):Prop where
 up:pv.Pairwise (· < ·)
 lt:∀p∈pv,p<n
 le:pv.length<=A.length
 unit:∀i j,i<pv.length->j<A.length->dG A j (pv.getD i 0)=if j=i then 1 else 0
 sum:∀j,j<A.length->jZ (List.range n) (fun t=>dG A j t*x.getD t 0)=dG A j n
section
variable{A:List (List Rat)}{pv:List Nat}{n:Nat}{x:List Rat}
theorem rK{t:Nat}(h:t∈pv):∃j,j<pv.length∧pv.getD j 0=t:=by
 obtain⟨j,hj,rfl⟩:=List.mem_iff_getElem.1 h;exact⟨j,hj,by rw[List.getD,aB hj];rfl⟩
theorem o7{c t:Nat}(ht:t∉pv)(hc:c<n):(fK A pv n c pv.length).getD t 0=if t=c then 1 else 0:=by
 rw[xp (F:=fK A pv n c) (fun i=>fq A pv n c i) ht _ (aG _)];show((List.replicate n (0:Rat)).set c 1).getD t 0=_;rw[xo,bH];by_cases h:c=t
 ·rw[if_pos ⟨h,hc⟩,if_pos h.symm]
 ·rw[aK (fun e=>h e.1),aK (fun e=>h e.symm)];simp only[List.getD,List.getElem?_replicate]
  split<;>rfl
theorem Diff.Mu(h:Diff A pv n x){c:Nat}(hj:j<pv.length):(fK A pv n c pv.length).getD (pv.getD j 0) 0= -(dG A j c):=
 nE (F:=fK A pv n c) (f:=fun i=> -(dG A i c)) (fun i=>fq A pv n c i) (j4 A pv n c) h.up h.lt _ (aG _) hj
theorem sP{t:Nat}(ht:t∉pv):(gK A pv n pv.length).getD t 0=0:=by
 rw[xp (F:=gK A pv n) (fun i=>gQ A pv n i) ht _ (aG _)];show(List.replicate n (0:Rat)).getD t 0=0;simp only[List.getD,List.getElem?_replicate]
 split<;>rfl
theorem Diff.Mq(h:Diff A pv n x)(hj:j<pv.length):(gK A pv n pv.length).getD (pv.getD j 0) 0=dG A j n:=
 nE (F:=gK A pv n) (f:=fun i=>dG A i n) (fun i=>gQ A pv n i) (j5 A pv n) h.up h.lt _ (aG _) hj
theorem rL:(iS pv n).Nodup:=List.Pairwise.filter _ List.nodup_range
theorem kW{c:Nat}:c∈iS pv n↔c<n∧c∉pv:=by
 unfold iS;rw[List.mem_filter,List.mem_range,decide_eq_true_eq]
theorem Diff.rest(h:Diff A pv n x){t:Nat}(ht:t<n):x.getD t 0+(gK A pv n pv.length).getD t 0* -1=jZ (iS pv n) fun c=>x.getD c 0*(fK A pv n c pv.length).getD t 0:=by
 by_cases hp:t∈pv
 ·obtain⟨j,hj,rfl⟩:=rK hp;have hs:=h.sum j (Nat.lt_of_lt_of_le hj h.le);rw[vA (fun c=>decide (c∉pv)),xn (s:=pv.getD j 0) (l:=(List.range n).filter fun t=> !decide (t∉pv)) (List.Pairwise.filter _ List.nodup_range) (List.mem_filter.2 ⟨List.mem_range.2 ht,by rw[bF fun e=>e hp];rfl⟩) (fun s hs hne=>?_),h.unit j j hj (Nat.lt_of_lt_of_le hj h.le),if_pos rfl,bu]at hs
  ·rw[h.Mq hj,xm (h:=fun c=> -(dG A j c*x.getD c 0)) fun c hc=>by rw[h.Mu hj,Rat.mul_neg,bl],Cw,<-hs];generalize x.getD (pv.getD j 0) 0=q;generalize jZ _ _=s;rw[Rat.mul_neg,Rat.mul_one,Rat.neg_add,<-Rat.add_assoc,Rat.add_comm q,Rat.add_assoc,Rat.add_neg_cancel,bX]
  ·have hs2:s∈pv:=by simpa using(List.mem_filter.1 hs).2
   obtain⟨i,hi,rfl⟩:=rK hs2;rw[h.unit i j hi (Nat.lt_of_lt_of_le hj h.le),aK (fun e=>hne (by rw[e])),bG]
 ·rw[sP hp,bG,bX,xn (s:=t) rL (kW.2 ⟨ht,hp⟩) fun c hc hne=>by rw[o7 hp (kW.1 hc).1,aK (Ne.symm hne),bC],o7 hp ht,if_pos rfl,Rat.mul_one]
theorem o8{k:Nat}(hk:k<(iS pv n).length):(iS pv n).getD k 0∈iS pv n:=by rw[List.getD,aB hk];exact aX hk
theorem nF{k:Nat}{r:List Rat}(h:(du A pv n n)[k]? =some r):k<(iS pv n).length∧r=fK A pv n ((iS pv n).getD k 0) pv.length:=by
 unfold du at h;rw[aN]at h;obtain⟨c,hc,rfl⟩:=Option.map_eq_some_iff.1 h;refine⟨(aE.1 hc).1,?_⟩;rw[List.getD,hc];rfl
theorem He{i k:Nat}(hi:i<(iS pv n).length)(hk:k<(iS pv n).length)(e:(iS pv n).getD i 0=(iS pv n).getD k 0):i=k:=by
 rw[List.getD,List.getD,aB hi,aB hk]at e;rcases bq i k with h|h|h
 ·exact absurd e (List.pairwise_iff_getElem.1 rL i k hi hk h)
 ·exact h
 ·exact absurd e.symm (List.pairwise_iff_getElem.1 rL k i hk hi h)
theorem xq{k i:Nat}{r s:List Rat}(hr:(du A pv n n)[k]? =some r)(hs:(du A pv n n)[i]? =some s):s.getD ((iS pv n).getD k 0) 0=if i=k then 1 else 0:=by
 obtain⟨hk,-⟩:=nF hr;obtain⟨hi,rfl⟩:=nF hs;have hm:=kW.1 (o8 hk);rw[o7 hm.2 (kW.1 (o8 hi)).1];by_cases h:i=k
 ·rw[h,if_pos rfl,if_pos rfl]
 ·rw[aK (fun e=>h (He hi hk e.symm)),aK h]
end
theorem o9(f:Nat->Nat->Rat)(m:Nat):∀n,cZ (fun i=>cZ (f i) m) n=cZ (fun j=>cZ (fun i=>f i j) n) m
 |0=>(dx m).symm
 |n+1=>by
  show cZ (fun i=>cZ (f i) m) n+cZ (f n) m=cZ (fun j=>cZ (fun i=>f i j) n+f n j) m;rw[fY,o9 f m n]
theorem nH(x y:List Rat):∀n,eH x y n=cZ (fun t=>x.getD t 0*y.getD t 0) n
 |0=>rfl
 |n+1=>by rw[eH,nH x y n];rfl
theorem oa{f:Nat->Rat}:∀{n:Nat},(∀k,k<n->0<=f k)->0<=cZ f n
 |0,_=>Rat.le_refl
 |n+1,h=>by
  have h1:=oa (n:=n) fun k hk=>h k (by omega);have h2:=h n (by omega);show 0<=cZ f n+f n;grind
theorem vC{f:Nat->Rat}:∀{n:Nat},(∀k,k<n->0<=f k)->cZ f n<=0->∀k,k<n->f k=0
 |0,_,_,k,hk=>by omega
 |n+1,h,h0,k,hk=>by
  have h1:=oa (n:=n) fun k hk=>h k (by omega);have h2:=h n (by omega);have h3:cZ f n+f n<=0:=h0;rcases aQ k n with h4|h4
  ·exact vC (fun k hk=>h k (by omega)) (by grind) k h4
  ·rw[show k=n by omega];grind
section
variable{m m':Mx}{n w p:Nat}{κ:Rat}{q:Nat->Rat}
end
def eC(E:Mx)(r n:Nat)(v:Nat->Rat):Prop:=∃c:Nat->Rat,∀t,t<n->v t=cZ (fun i=>c i*E i t) r
structure Rf(E:Mx)(p:Nat->Nat)(r n:Nat):Prop where
 lt:∀i,i<r->p i<n
 mono:∀i j,i<j->j<r->p i<p j
 unit:∀i j,i<r->j<r->E j (p i)=if j=i then 1 else 0
 lead:∀i t,i<r->t<p i->E i t=0
section
variable{E F:Mx}{p q:Nat->Nat}{r s n:Nat}{v:Nat->Rat}
theorem Rf.coeff(h:Rf E p r n)(hv:eC E r n v):∀t,t<n->v t=cZ (fun i=>v (p i)*E i t) r:=by
 obtain⟨c,hc⟩:=hv;intro t ht;rw[hc t ht];refine cK fun i hi=>?_;rw[hc (p i) (h.lt i hi),fP hi fun k hk hne=>by rw[h.unit i k hi hk,aK hne,bC],h.unit i i hi hi,if_pos rfl,Rat.mul_one]
theorem Rf.J6(h:Rf E p r n)(hv:eC E r n v){t:Nat}(ht:t<n)(h0:v t≠0)(hz:∀k,k<t->v k=0):∃i,i<r∧p i=t:=by
 refine Decidable.byContradiction fun hno=>h0 ?_;rw[h.coeff hv t ht,cK (g:=fun _=>0) fun i hi=>?_,dx];rcases bq (p i) t with h1|h1|h1
 ·rw[hz _ h1,bG]
 ·exact absurd ⟨i,hi,h1⟩ hno
 ·rw[h.lead i t hi h1,bC]
theorem Rf.KW(h:Rf E p r n)(k:Rf F q s n)(hE:∀i,i<r->eC F s n (E i)){i:Nat}(hi:i<r):∃j,j<s∧q j=p i:=
 k.J6 (hE i hi) (h.lt i hi) (by rw[h.unit i i hi hi,if_pos rfl];decide) fun t ht=>h.lead i t hi ht
theorem Rf.Hg(h:Rf E p r n)(k:Rf F q s n)(hE:∀i,i<r->eC F s n (E i))(hF:∀j,j<s->eC E r n (F j)):∀i,i<r->i<s∧p i=q i:=by
 intro i
 induction i using Nat.strongRecOn with
 |ind i ih=>
  intro hi;obtain⟨j,hj,e1⟩:=h.KW k hE hi;have hji:i<=j:=by
   refine Nat.le_of_not_lt fun hlt=>?_;have h1:=(ih j hlt (by omega)).2;have h2:=h.mono j i hlt hi;omega
  have his:i<s:=by omega
  refine⟨his,?_⟩;obtain⟨l,hl,e2⟩:=k.KW h hF his;have hli:i<=l:=by
   refine Nat.le_of_not_lt fun hlt=>?_;have h1:=(ih l hlt hl).2;have h2:=k.mono l i hlt his;omega
  have h3:q i<=q j:=by
   rcases aQ i j with h4|h4
   ·exact Nat.le_of_lt (k.mono i j h4 hj)
   ·rw[show i=j by omega];exact aG _
  have h5:p i<=p l:=by
   rcases aQ i l with h4|h4
   ·exact Nat.le_of_lt (h.mono i l h4 hl)
   ·rw[show i=l by omega];exact aG _
  omega
theorem Rf.one(h:Rf E p r n)(k:Rf F q s n)(hE:∀i,i<r->eC F s n (E i))(hF:∀j,j<s->eC E r n (F j)):r=s∧(∀i,i<r->p i=q i)∧∀i t,i<r->t<n->E i t=F i t:=by
 have h1:=h.Hg k hE hF;have h2:=k.Hg h hF hE;have hrs:r=s:=by
  rcases bq r s with h3|h3|h3
  ·have:=(h2 r h3).1;omega
  ·exact h3
  ·have:=(h1 s h3).1;omega
 refine⟨hrs,fun i hi=>(h1 i hi).2,fun i t hi ht=>?_⟩;rw[k.coeff (hE i hi) t ht,fP (i:=i) (by omega) fun j hj hne=>by rw[<-(h1 j (by omega)).2,h.unit j i (by omega) hi,aK (Ne.symm hne),bG],<-(h1 i hi).2,h.unit i i hi hi,if_pos rfl,bu]
end
theorem eC.row{n i:Nat}(hi:i<r):eC E r n (E i):=⟨fun k=>if k=i then 1 else 0,fun t _=>by
 rw[fP hi fun k _ hne=>by simp only[aK hne,bG]]
 simp only[if_pos,bu]⟩
theorem eC.add{n:Nat}(h:eC E r n u)(k:eC E r n v)(x:Rat):eC E r n fun t=>u t+x*v t:=by
 obtain⟨c,hc⟩:=h;obtain⟨d,hd⟩:=k;refine⟨fun i=>c i+x*d i,fun t ht=>?_⟩;show u t+x*v t=cZ (fun i=>(c i+x*d i)*E i t) r;rw[hc t ht,hd t ht,<-eN,<-fY];exact cK fun i _=>by grind
theorem eC.mul{n:Nat}(h:eC E r n u)(x:Rat):eC E r n fun t=>u t*x:=by
 obtain⟨c,hc⟩:=h;refine⟨fun i=>c i*x,fun t ht=>?_⟩;show u t*x=cZ (fun i=>(c i*x)*E i t) r;rw[hc t ht,<-pq];exact cK fun i _=>by grind
theorem eC.congr{n:Nat}(h:eC E r n u)(e:∀t,t<n->v t=u t):eC E r n v:=by
 obtain⟨c,hc⟩:=h;exact⟨c,fun t ht=>by rw[e t ht,hc t ht]⟩
theorem eC.trans{s n:Nat}(h:eC E r n v)(k:∀i,i<r->eC F s n (E i)):eC F s n v:=by
 obtain⟨c,hc⟩:=h;have key:∀m,m<=r->eC F s n fun t=>cZ (fun i=>c i*E i t) m:=by
  intro m
  induction m with
  |zero=>intro _;exact⟨fun _=>0,fun t _=>by rw[cK (g:=fun _=>0) fun i _=>bG _,dx];rfl⟩
  |succ m ih=>
   intro hm;exact(ih (by omega)).add (k m (by omega)) (c m)
 exact(key r (aG _)).congr fun t ht=>hc t ht
def Hh(s:List (List Rat)×List Nat):Prop:=(∀i j,i<j->j<s.2.length->s.2.getD i 0<s.2.getD j 0)∧∀i t,i<s.2.length->t<s.2.getD i 0->dG s.1 i t=0
theorem Hh.step{n c:Nat}{s:List (List Rat)×List Nat}(h:Hh s)(hr:Lp n c s)(hc:c<n):Hh (dW s c):=by
 obtain⟨hl,hle,hz,hpc,hu⟩:=hr;rcases jg c hle with⟨e,-⟩|⟨k,h1,h2,h3,e⟩
 ·rw[e];exact h
 ·obtain⟨r1,r2⟩:=nD hl h1 h2 h3 e;have e2:(dW s c).2=s.2++[c]:=by rw[e]
  have hold:∀i,i<s.2.length->(dW s c).2.getD i 0=s.2.getD i 0:=fun i hi=>by rw[e2,List.getD,aM hi,<-List.getD]
  have hnew:(dW s c).2.getD s.2.length 0=c:=by rw[e2,List.getD,aO (aG _),bM];rfl
  have hlt:∀i,i<s.2.length->s.2.getD i 0<c:=fun i hi=>hpc _ (by rw[List.getD,aB hi];exact aX _);have hlen:(dW s c).2.length=s.2.length+1:=by rw[e2];simp
  refine⟨fun i j hij hj=>?_,fun i t hi ht=>?_⟩
  ·rw[hlen]at hj;rcases aQ j s.2.length with h4|h4
   ·rw[hold i (by omega),hold j h4];exact h.1 i j hij h4
   ·rw[show j=s.2.length by omega,hnew,hold i (by omega)];exact hlt i (by omega)
  ·rw[hlen]at hi;rcases aQ i s.2.length with h4|h4
   ·rw[hold i h4]at ht;have h5:=hlt i h4;rw[r2 i (by omega) (by omega) t (by omega),hz k t h1 h2 (by omega),aK (by omega),h.2 i t h4 ht,bG,bC,Rat.zero_add]
   ·rw[show i=s.2.length by omega]at ht ⊢;rw[hnew]at ht;rw[r1,hz k t h1 h2 ht,bG]
theorem sQ{M:List (List Rat)}{n:Nat}(hl:fe n M):∀cols,cols<=n->Hh (cN M cols)
 |0,_=>⟨fun _ _ _ h=>(by cases h),fun _ _ h=>(by cases h)⟩
 |c+1,h=>by
  have ih:=sQ hl c (by omega);have hr:=eA hl c (by omega);unfold cN at ih hr ⊢;rw[bN,List.foldl_append];exact ih.step hr (by omega)
theorem EZ{n:Nat}(hl:fe n M):Rf (dG (cN M n).1) (fun i=>(cN M n).2.getD i 0) (cN M n).2.length n:=by
 obtain⟨h1,h2,h3,h4,h5⟩:=eA hl n (aG _);obtain⟨k1,k2⟩:=sQ hl n (aG _);refine⟨fun i hi=>h4 _ (by rw[List.getD,aB hi];exact aX _),k1,fun i j hi hj=>h5 i j hi (by omega),k2⟩
theorem J7{s:List (List Rat)×List Nat}{c n:Nat}(hl:fe n s.1)(hle:s.2.length<=s.1.length):(∀j,j<s.1.length->eC (dG s.1) s.1.length n (dG (dW s c).1 j))∧∀j,j<s.1.length->eC (dG (dW s c).1) s.1.length n (dG s.1 j):=by
 rcases jg c hle with⟨e,-⟩|⟨k,h1,h2,h3,e⟩
 ·rw[e];exact⟨fun j hj=>eC.row hj,fun j hj=>eC.row hj⟩
 ·obtain⟨r1,r2⟩:=nD hl h1 h2 h3 e;have hp:s.2.length<s.1.length:=by omega
  have a1:eC (dG s.1) s.1.length n (dG (dW s c).1 s.2.length):=((eC.row h2).mul (1 / dG s.1 k c)).congr fun t _=>r1 t;have b1:eC (dG (dW s c).1) s.1.length n (dG s.1 k):=((eC.row hp).mul (dG s.1 k c)).congr fun t _=>by rw[r1,Rat.mul_assoc,bl (1 / _),xl h3,Rat.mul_one]
  refine⟨fun j hj=>?_,fun j hj=>?_⟩
  ·by_cases h4:j=s.2.length
   ·rw[h4];exact a1
   ·exact((eC.row (show (if j=k then s.2.length else j)<s.1.length by split<;>omega)).add (eC.row h2) (-(dG s.1 (if j=k then s.2.length else j) c)*(1 / dG s.1 k c))).congr fun t ht=>by rw[r2 j hj h4 t ht];grind
  ·by_cases h4:j=k
   ·rw[h4];exact b1
   ·obtain⟨i,hi,hne,hij⟩:∃i,i<s.1.length∧i≠s.2.length∧(if i=k then s.2.length else i)=j:=by
     by_cases h5:j=s.2.length
     ·exact⟨k,h2,fun e6=>h4 (h5.trans e6.symm),by rw[if_pos rfl,h5]⟩
     ·exact⟨j,hj,h5,aK h4⟩
    refine((eC.row hi).add (eC.row hp) (dG s.1 j c)).congr fun t ht=>?_;rw[r2 i hi hne t ht,hij,r1];grind
theorem kX{M:List (List Rat)}{n:Nat}(hl:fe n M):∀cols,cols<=n->(∀j,j<M.length->eC (dG M) M.length n (dG (cN M cols).1 j))∧∀j,j<M.length->eC (dG (cN M cols).1) M.length n (dG M j)
 |0,_=>⟨fun j hj=>eC.row hj,fun j hj=>eC.row hj⟩
 |c+1,h=>by
  obtain⟨i1,i2⟩:=kX hl c (by omega);have hr:=eA hl c (by omega);have h1:=eW M c;have h2:=J7 (c:=c) hr.1 hr.2.1;rw[h1]at h2;have e:(cN M (c+1))=dW (cN M c) c:=by unfold cN;rw[bN,List.foldl_append];rfl
  rw[e];exact⟨fun j hj=>(h2.1 j hj).trans i1,fun j hj=>(i2 j hj).trans h2.2⟩
theorem eC.cut{m n:Nat}(h:eC E m n v)(hz:∀i t,r<=i->i<m->t<n->E i t=0):eC E r n v:=by
 refine h.trans fun i hi=>?_;rcases aQ i r with h1|h1
 ·exact eC.row h1
 ·exact⟨fun _=>0,fun t ht=>by rw[hz i t h1 hi ht,cK (g:=fun _=>0) fun k _=>bG _,dx]⟩
theorem DA{n:Nat}{q:Nat->Nat}(hl:fe n M)(k:Rf F q r n)(h1:∀i,i<r->eC (dG M) M.length n (F i))(h2:∀j,j<M.length->eC F r n (dG M j)):
  (cN M n).2.length=r∧(∀i,i<r->(cN M n).2.getD i 0=q i)∧∀i t,i<r->t<n->dG (cN M n).1 i t=F i t:=by
 obtain⟨a1,a2⟩:=kX hl n (aG _);obtain⟨-,hle,hz,-,-⟩:=eA hl n (aG _);rw[eW]at hle hz;have h:=EZ hl;obtain⟨e1,e2,e3⟩:=h.one k (fun i hi=>(a1 i (by omega)).trans h2) fun j hj=>((h1 j hj).trans a2).cut fun i t hi hm ht=>hz i t hi hm ht;exact⟨e1,fun i hi=>e2 i (by omega),fun i t hi ht=>e3 i t (by omega) ht⟩
structure Ru(E:Mx)(p:Nat->Nat)(r n:Nat):Prop where
 lt:∀i,i<r->p i<n
 inj:∀i j,i<r->j<r->p i=p j->i=j
 unit:∀i j,i<r->j<r->E j (p i)=if j=i then 1 else 0
 lead:∀i t,i<r->t<p i->E i t=0
def lE(E:Mx)(p:Nat->Nat)(r:Nat)(v:Nat->Rat)(k t:Nat):Rat:=v t-cZ (fun i=>if p i<k then v (p i)*E i t else 0) r
theorem Hi(E:Mx)(p:Nat->Nat)(r:Nat)(v:Nat->Rat)(t:Nat):lE E p r v 0 t=v t:=by
 unfold lE;rw[cK (g:=fun _=>0) fun i _=>aK (by omega),dx];grind
section
variable{E:Mx}{p:Nat->Nat}{r n:Nat}{v:Nat->Rat}
theorem Hj{k t:Nat}(h:∀i,i<r->p i≠k):lE E p r v (k+1) t=lE E p r v k t:=by
 unfold lE;rw[cK fun i hi=>?_];have:=h i hi;by_cases h1:p i<k
 ·rw[if_pos h1,if_pos (by omega)]
 ·rw[aK h1,aK (by omega)]
theorem Kq(h:Ru E p r n){i:Nat}(hi:i<r):lE E p r v (p i) (p i)=v (p i):=by
 unfold lE;rw[cK (g:=fun _=>0) fun j hj=>?_,dx]
 ·grind
 ·by_cases h1:p j<p i
  ·rw[if_pos h1,h.unit i j hi hj,aK (fun e=>by rw[e]at h1;omega),bC]
  ·rw[aK h1]
theorem Hk(h:Ru E p r n){i t:Nat}(hi:i<r):lE E p r v (p i+1) t=lE E p r v (p i) t+ -(lE E p r v (p i) (p i))*E i t:=by
 rw[Kq h hi];unfold lE;have e:cZ (fun j=>if p j<p i+1 then v (p j)*E j t else 0) r=cZ (fun j=>(if p j<p i then v (p j)*E j t else 0)+(if j=i then v (p i)*E i t else 0)) r:=by
  refine cK fun j hj=>?_;by_cases h1:j=i
  ·subst h1;rw[if_pos (by omega),aK (by omega),if_pos rfl,Rat.zero_add]
  ·have h2:p j≠p i:=fun e=>h1 (h.inj j i hj hi e);rw[aK h1,bX];by_cases h3:p j<p i
   ·rw[if_pos h3,if_pos (by omega)]
   ·rw[aK h3,aK (by omega)]
 rw[e,fY,fP hi fun k _ hne=>aK hne,if_pos rfl];grind
theorem F8(h:Ru E p r n){i:Nat}(hi:i<r):lE E p r v n (p i)=0:=by
 unfold lE;rw[fP hi fun k hk hne=>?_,if_pos (h.lt i hi),h.unit i i hi hi,if_pos rfl]
 ·grind
 ·rw[if_pos (h.lt k hk),h.unit i k hi hk,aK hne,bC]
end
def jr(E:Mx)(r:Nat)(u:Nat->Rat)(k:Nat):Mx:=fun i t=>if i=r then u t / u k else E i t+ -(E i k)*(u t / u k)
theorem Ru.push{n k:Nat}(h:Ru E p r n)(hk:k<n)(hu:∀i,i<r->u (p i)=0)(h0:u k≠0)(hz:∀t,t<k->u t=0):
  Ru (jr E r u k) (fun i=>if i=r then k else p i) (r+1) n:=by
 have hne:∀i,i<r->p i≠k:=fun i hi e=>h0 (e▸hu i hi);have hone:u k / u k=1:=by rw[bc,Rat.mul_inv_cancel _ h0]
 have hz0:∀i,i<r->u (p i) / u k=0:=fun i hi=>by rw[hu i hi,bc,bG]
 refine⟨fun i hi=>?_,fun i j hi hj e=>?_,fun i j hi hj=>?_,fun i t hi ht=>?_⟩
 ·split
  ·exact hk
  ·exact h.lt i (by omega)
 ·by_cases h1:i=r
  ·by_cases h2:j=r
   ·omega
   ·rw[if_pos h1,aK h2]at e;exact absurd e.symm (hne j (by omega))
  ·by_cases h2:j=r
   ·rw[aK h1,if_pos h2]at e;exact absurd e (hne i (by omega))
   ·rw[aK h1,aK h2]at e;exact h.inj i j (by omega) (by omega) e
 ·unfold jr;by_cases h1:i=r
  ·rw[if_pos h1];by_cases h2:j=r
   ·rw[if_pos h2,if_pos (by omega),hone]
   ·rw[aK h2,aK (by omega),hone];grind
  ·rw[aK h1];by_cases h2:j=r
   ·rw[if_pos h2,aK (by omega),hz0 i (by omega)]
   ·rw[aK h2,hz0 i (by omega),bC,bX];exact h.unit i j (by omega) (by omega)
 ·unfold jr;by_cases h1:i=r
  ·rw[if_pos h1]at ht;rw[if_pos h1,hz t ht,bc,bG]
  ·rw[aK h1]at ht;rw[aK h1,h.lead i t (by omega) ht,Rat.zero_add];rcases aQ t k with h2|h2
   ·rw[hz t h2,bc,bG,bC]
   ·rw[h.lead i k (by omega) (by omega)];grind
def jV(E:Mx)(r:Nat)(v:Nat->Rat):Mx:=fun i t=>if i=r then v t else E i t
section
variable{E:Mx}{p:Nat->Nat}{r n k:Nat}{u v:Nat->Rat}
theorem G7(i:Nat)(hi:i<r):eC (jV E r v) (r+1) n (E i):=(eC.row (show i<r+1 by omega)).congr fun t _=>by unfold jV;rw[aK (by omega)]
theorem Kr(hu:∀t,t<n->u t=lE E p r v n t)(hl:∀i,i<r->p i<n):eC (jV E r v) (r+1) n u:=by
 refine⟨fun i=>if i=r then 1 else -(v (p i)),fun t ht=>?_⟩;rw[hu t ht];show lE E p r v n t=cZ (fun i=>(if i=r then 1 else -(v (p i)))*jV E r v i t) r+(if r=r then 1 else -(v (p r)))*jV E r v r t;rw[if_pos rfl,cK (g:=fun i=> -(v (p i)*E i t)) fun i hi=>by unfold jV;rw[aK (by omega),aK (by omega),Rat.neg_mul],mS];unfold lE jV;rw[if_pos rfl,cK (g:=fun i=>v (p i)*E i t) fun i hi=>if_pos (hl i hi)];grind
theorem Hl(hu:eC (jV E r v) (r+1) n u):∀i,i<r+1->eC (jV E r v) (r+1) n (jr E r u k i):=fun i hi=>by
 by_cases h1:i=r
 ·exact(hu.mul (1 / u k)).congr fun t _=>by unfold jr;rw[if_pos h1,bc,bc,bu]
 ·exact((G7 i (by omega)).add hu (-(E i k)*(1 / u k))).congr fun t _=>by unfold jr;rw[aK h1,bc,bc];grind
theorem F9(h0:u k≠0):eC (jr E r u k) (r+1) n u:=((eC.row (show r<r+1 by omega)).mul (u k)).congr fun t _=>by
 unfold jr;rw[if_pos rfl,Rat.div_mul_cancel h0]
theorem pr(h0:u k≠0)(i:Nat)(hi:i<r):eC (jr E r u k) (r+1) n (E i):=((eC.row (show i<r+1 by omega)).add (F9 h0) (E i k / u k)).congr fun t _=>by
 unfold jr;rw[aK (by omega),bc,bc];grind
theorem A5(h0:u k≠0)(hu:∀t,t<n->u t=lE E p r v n t)(hl:∀i,i<r->p i<n):eC (jr E r u k) (r+1) n v:=by
 have h1:eC (jV E r u) (r+1) n v:=by
  refine⟨fun i=>if i=r then 1 else v (p i),fun t ht=>?_⟩;show v t=cZ (fun i=>(if i=r then 1 else v (p i))*jV E r u i t) r+(if r=r then 1 else v (p r))*jV E r u r t;rw[if_pos rfl,cK (g:=fun i=>v (p i)*E i t) fun i hi=>by unfold jV;rw[aK (by omega),aK (by omega)]];unfold jV;rw[if_pos rfl,hu t ht];unfold lE;rw[cK (g:=fun i=>v (p i)*E i t) fun i hi=>if_pos (hl i hi)];grind
 refine h1.trans fun i hi=>?_;by_cases h2:i=r
 ·exact(F9 h0).congr fun t _=>by unfold jV;rw[if_pos h2]
 ·exact(pr h0 i (by omega)).congr fun t _=>by unfold jV;rw[aK h2]
end
def lJ(row tk:List Rat)(by_:Rat):List Rat:=row.mapIdx (rH (-by_) tk)
theorem sR(row tk:List Rat)(b:Rat):(lJ row tk b).length=row.length:=List.length_mapIdx
theorem xx(row tk:List Rat):lJ row tk 0=row:=by
 refine bK fun j=>?_;rw[lJ,List.getElem?_mapIdx]
 cases row[j]? with
 |none=>rfl
 |some q=>exact congrArg some (by rw[rH,Rat.neg_zero,bG,bX])
def nu(row:List Rat):Nat->Nat->Nat
 |0,k=>k
 |f+1,k=>if row.getD k 0=0 then nu row f (k+1)else k
def sS(row:List Rat)(cols:Nat):Nat:=nu row cols 0
theorem Hn{row:List Rat}{k:Nat}:∀(f j:Nat),(∀i,j<=i->i<j+k->row.getD i 0=0)->k<=f->(k<f->row.getD (j+k) 0≠0)->nu row f j=j+k:=by
 induction k with
 |zero=>
  intro f j _ _ h
  cases f with
  |zero=>rfl
  |succ f=>rw[nu,aK (by have:=h (by omega);rwa [bw]at this)];rfl
 |succ k ih=>
  intro f j h0 hf h
  cases f with
  |zero=>omega
  |succ f=>
   rw[nu,if_pos (h0 j (aG _) (by omega)),ih f (j+1) (fun i h1 h2=>h0 i (by omega) (by omega)) (by omega) (fun h1=>by rw[Nat.add_assoc,Nat.add_comm 1 k];exact h (by omega))];omega
theorem Fa{row:List Rat}{cols k:Nat}(h0:∀i,i<k->row.getD i 0=0)(hk:k<=cols)(h:k<cols->row.getD k 0≠0):sS row cols=k:=by
 rw[sS,Hn (k:=k) cols 0 (fun i _ h2=>h0 i (by omega)) hk (fun h1=>by rw[aV];exact h h1),aV]
abbrev vz:=List (List Rat)×List (Option Nat)×List Nat
def fI(E:List (List Rat))(at_:List (Option Nat))(row:List Rat):Nat->List Rat
 |0=>row
 |k+1=>match at_.getD k none with
  |some j=>lJ (fI E at_ row k) (E.getD j []) ((fI E at_ row k).getD k 0)
  |none=>fI E at_ row k
theorem gW(E:List (List Rat))(at_:List (Option Nat))(row:List Rat):∀k,(fI E at_ row k).length=row.length
 |0=>rfl
 |k+1=>by
  rw[fI];split
  ·rw[sR,gW E at_ row k]
  ·exact gW E at_ row k
def fh(E:List (List Rat))(u:List Rat)(p i:Nat):List (List Rat):=E.mapIdx fun j r=>if j<i then lJ r u (r.getD p 0)else r
def j6(cols:Nat)(s:vz)(i:Nat)(row:List Rat):vz:=
 let r:=fI s.1 s.2.1 row cols
 let p:=sS r cols
 if p=cols then s else
  let u:=r.map (· / r.getD p 0)
  (fh s.1 u p s.1.length++[u],s.2.1.set p (some s.1.length),s.2.2++[i])
def fu(M:List (List Rat))(cols:Nat):Nat->vz
 |0=>([],List.replicate cols none,[])
 |i+1=>j6 cols (fu M cols i) i (M.getD i [])
def cd(s:vz):Nat->List (List Rat)×List Nat×List Nat
 |0=>([],[],[])
 |k+1=>match s.2.1.getD k none with
  |some r=>((cd s k).1++[s.1.getD r []],(cd s k).2.1++[k],(cd s k).2.2++[s.2.2.getD r 0])
  |none=>cd s k
def dR(M:List (List Rat))(cols:Nat):List (List Rat)×List Nat×List Nat:=cd (fu M cols M.length) cols
structure sT(n cols i:Nat)(s:vz):Prop where
 len:fe n s.1
 at_:s.2.1.length=cols
 tk:s.2.2.length=s.1.length
 lt:∀(k r:Nat),s.2.1[k]? =some (some r)->r<s.1.length
 le:s.1.length<=i
 fr:∀j∈s.2.2,j<i
theorem fS(E:List (List Rat))(u:List Rat)(p i:Nat):(fh E u p i).length=E.length:=List.length_mapIdx
theorem E0(E:List (List Rat))(u:List Rat)(p:Nat):fh E u p 0=E:=by
 refine bK fun j=>?_;rw[fh,List.getElem?_mapIdx]
 cases E[j]? <;>rfl
theorem DC{E:List (List Rat)}{u:List Rat}{p i:Nat}{r:List Rat}(h:E[i]? =some r):(fh E u p i)[i]? =some r:=by
 rw[fh,List.getElem?_mapIdx,h];exact congrArg some (aK (Nat.lt_irrefl i))
theorem xy{E:List (List Rat)}{u:List Rat}{p i:Nat}{r:List Rat}(h:E[i]? =some r):fh E u p (i+1)=(fh E u p i).set i (lJ r u (r.getD p 0)):=by
 refine bK fun j=>?_;have hi:=(aE.1 h).1;by_cases hj:i=j
 ·subst hj;rw[aW (by rw[fS];exact hi),fh,List.getElem?_mapIdx,h];exact congrArg some (if_pos (bf i))
 ·rw[bA hj,fh,fh,List.getElem?_mapIdx,List.getElem?_mapIdx]
  cases E[j]? with
  |none=>rfl
  |some r=>
   have e:(j<i+1)↔(j<i):=by omega
   simp only[Option.map_some,e]
theorem Ga{E:List (List Rat)}{u:List Rat}{p i n:Nat}(h:fe n E):fe n (fh E u p i):=fun r hr=>by
 obtain⟨j,hj⟩:=aS hr;rw[fh,List.getElem?_mapIdx]at hj
 cases hE:E[j]? with
 |none=>rw[hE]at hj;cases hj
 |some x=>
  rw[hE]at hj;have hx:=h x (aD hE);simp only[Option.map_some,Option.some.injEq]at hj;subst hj;split
  ·rw[sR];exact hx
  ·exact hx
theorem sT.start(n cols:Nat):sT n cols 0 ([],List.replicate cols none,[]):=
 ⟨(fun r hr=>by cases hr),bH ..,rfl,(fun (k r:Nat) h=>by rw[List.getElem?_replicate]at h;split at h<;>cases h),aG _,fun j hj=>by cases hj⟩
theorem sT.step{n cols i:Nat}{s:vz}(h:sT n cols i s){row:List Rat}(hr:row.length=n):sT n cols (i+1) (j6 cols s i row):=by
 unfold j6;dsimp only
 split
 ·exact⟨h.len,h.at_,h.tk,h.lt,Nat.le_succ_of_le h.le,fun j hj=>Nat.lt_succ_of_lt (h.fr j hj)⟩
 ·refine⟨fun r hm=>?_,by simp[h.at_],by simp[h.tk,fS],fun k r hk=>?_,?_,fun j hj=>?_⟩
  ·rcases bQ.1 hm with hm|hm
   ·exact Ga h.len r hm
   ·rw[bD]at hm;subst hm;rw[aL,gW,hr]
  ·dsimp only at hk ⊢;rw[List.length_append,fS,List.length_singleton];rw[List.getElem?_set]at hk;split at hk
   ·split at hk
    ·injection hk with hk;injection hk with hk;omega
    ·cases hk
   ·have:=h.lt k r hk;omega
  ·dsimp only
   rw[List.length_append,fS,List.length_singleton];have:=h.le;omega
  ·rcases bQ.1 hj with hj|hj
   ·exact Nat.lt_succ_of_lt (h.fr j hj)
   ·rw[bD]at hj;omega
theorem xz{M:List (List Rat)}{n:Nat}(cols:Nat)(hM:fe n M):∀i,i<=M.length->sT n cols i (fu M cols i)
 |0,_=>sT.start n cols
 |i+1,hi=>by
  have hm:=aB (l:=M) (show i<M.length by omega);refine(xz cols hM i (by omega)).step ?_;rw[List.getD,hm];exact hM _ (aD hm)
structure eh where
 nodes:List (Int×Int×Int)
 bars:List (Int×Int×Rat)
 cU:List (Int×Int×Rat)
def eh.cols(f:eh):Nat:=f.bars.length+f.cU.length
def eh.node(f:eh)(n:Int):Int×Int×Int:=f.nodes.getD n.toNat (0,0,0)
def rN(f:eh)(b:Int×Int×Rat):List Int:=[(f.node b.2.1).1-(f.node b.1).1,(f.node b.2.1).2.1-(f.node b.1).2.1,(f.node b.2.1).2.2-(f.node b.1).2.2]
def sU(M:List (List Int))(r c:Nat)(d:Int):List (List Int):=M.set r ((M.getD r []).set c ((M.getD r []).getD c 0+d))
def putAt(M:List (List Int))(r c:Nat)(d:Int):List (List Int):=M.set r ((M.getD r []).set c d)
def eL(f:eh)(M:List (List Int))(i:Nat):Nat->List (List Int)
 |0=>M
 |k+1=>
  let b:=f.bars.getD i (0,0,0)
  let d:=(rN f b).getD k 0
  sU (sU (eL f M i k) (3*b.1+k).toNat i d) (3*b.2.1+k).toNat i (-d)
def dZ(f:eh):Nat->List (List Int)
 |0=>List.replicate (3*f.nodes.length) (List.replicate f.cols 0)
 |i+1=>eL f (dZ f i) i 3
def ee(f:eh):Nat->List (List Int)
 |0=>dZ f f.bars.length
 |i+1=>
  let s:=f.cU.getD i (0,0,0)
  putAt (ee f i) (3*s.1+s.2.1).toNat (f.bars.length+i) 1
def gw(f:eh):List (List Int):=ee f f.cU.length
def dK(l:List Int):List Rat:=l.map fun(n:Int)=>(n:Rat)
def cQ(f:eh):List (List Rat):=(gw f).map dK
def fL(M:List (List Rat))(cols:Nat):List (List Rat):=(List.range cols).map fun k=>M.map fun r=>r.getD k 0
abbrev Ld:=Int×Int×Int×Int
def Fb(s:List Int)(r:Nat)(d:Int):List Int:=s.set r (s.getD r 0+d)
def da(l:List Rat)(b:Rat):List Rat:=l.map (· *b)
def eJ(a b:List Rat):List Rat:=a.mapIdx fun i x=>x*b.getD i 0
def cW(f:eh):List Rat:=f.bars.map (·.2.2)++f.cU.map (·.2.2)
def iz(M:List (List Rat))(b:List Rat):List (List Rat):=M.mapIdx fun i r=>r++[b.getD i 0]
def j7(M:List (List Rat))(cols:Nat):List (List Rat):=du (dR M cols).1 (dR M cols).2.1 cols cols
def iU(M:List (List Rat))(b:List Rat)(cols:Nat):Option (List Rat):=
 let e:=dR (iz M b) (cols+1)
 if cols∈e.2.1 then none else some (gK e.1 e.2.1 cols e.2.1.length)
def eM(st:List (List Rat))(fl:List Rat):List (List Rat):=st.map fun s=>st.map fun r=>eH (eJ s fl) r s.length
def gE(st:List (List Rat))(fl x:List Rat):List Rat:=st.map fun s=> -(eH (eJ s fl) x s.length)
def js(st:List (List Rat))(c x:List Rat):Nat->List Rat
 |0=>x
 |i+1=>(js st c x i).mapIdx fun k q=>q+c.getD i 0*(st.getD i []).getD k 0
def fQ:eh:=⟨[(0,0,0),(0,0,4),(3,0,0)],[(0,2,1),(1,2,1)],[(0,0,0),(0,1,0),(0,2,0),(1,0,0),(1,1,0),(1,2,0),(2,1,0)]⟩
def Ib(B:Nat)(q:Rat):Prop:=∃z:Int,q=(z:Rat)∧z.natAbs<=B
theorem Ib.mono(h:Ib B q)(k:B<=C):Ib C q:=let⟨z,e,b⟩:=h;⟨z,e,a9 b k⟩
theorem Ib.add{p:Rat}(h:Ib B p)(k:Ib C q):Ib (B+C) (p+q):=by
 obtain⟨z,rfl,b⟩:=h;obtain⟨y,rfl,c⟩:=k;exact⟨z+y,by rw[Rat.intCast_add],by omega⟩
theorem Ib.mul{p:Rat}(h:Ib B p)(k:Ib C q):Ib (B*C) (p*q):=by
 obtain⟨z,rfl,b⟩:=h;obtain⟨y,rfl,c⟩:=k;exact⟨z*y,by rw[Rat.intCast_mul],by rw[Int.natAbs_mul];exact Nat.mul_le_mul b c⟩
theorem Ib.neg{p:Rat}(h:Ib B p):Ib B (-p):=by
 obtain⟨z,rfl,b⟩:=h;exact⟨-z,by rw[Rat.intCast_neg],by omega⟩
theorem Ib.sub{p:Rat}(h:Ib B p)(k:Ib C q):Ib (B+C) (p-q):=by rw[Rat.sub_eq_add_neg];exact h.add k.neg
theorem Ib.zero(B:Nat):Ib B 0:=⟨0,rfl,aP _⟩
theorem Ib.one(h:1<=B):Ib B 1:=⟨1,rfl,h⟩
theorem Ib.int{z:Int}(h:z.natAbs<=B):Ib B (z:Rat):=⟨z,rfl,h⟩
theorem Ib.sum{B:Nat}{f:Nat->Rat}:∀(n:Nat),(∀k,k<n->Ib B (f k))->Ib (n*B) (cZ f n)
 |0,_=>Ib.zero _
 |n+1,h=>by rw[cZ,Nat.succ_mul];exact(Ib.sum n fun k hk=>h k (by omega)).add (h n (by omega))
def fB(B:Nat):Nat->Nat
 |0=>1
 |n+1=>(n+1)*(B*fB B n)
theorem Ib.rM{k:Nat}(h:Ib B q):Ib B (rM k*q):=by
 unfold Go.Ex.rM;split
 ·rw[show (-1:Rat)*q= -q by grind];exact h.neg
 ·rw[bu];exact h
theorem Ib.M4{B:Nat}:∀(n:Nat) {m:Mx},(∀i j,i<n->j<n->Ib B (m i j))->Ib (fB B n) (fO n m)
 |0,_,_=>Ib.one (aG _)
 |n+1,m,h=>by
  unfold fO fB;exact Ib.sum (n+1) fun k hk=>((h 0 k (by omega) hk).mul (Ib.M4 n fun i j hi hj=>h (i+1) (skip k j) (by omega) (F7 hj))).rM
theorem Fe(B n:Nat):B*fB B n<=fB B (n+1):=Nat.le_mul_of_pos_left _ (Nat.succ_pos n)
theorem Ja(h:1<=B)(n:Nat):fB B n<=fB B (n+1):=a9 (Nat.le_mul_of_pos_left _ h) (Fe B n)
theorem pt{B a:Nat}(h:1<=B):∀{b:Nat},a<=b->fB B a<=fB B b
 |0,k=>by rw[Nat.le_zero.1 k];exact aG _
 |b+1,k=>by
  rcases aQ b a with h1|h1
  ·rw[show a=b+1 by omega];exact aG _
  ·exact a9 (pt h h1) (Ja h b)
theorem KX{B R:Nat}:∀{n:Nat},n<=R->fB B n<=(R*B)^n
 |0,_=>aG _
 |n+1,h=>by
  rw[fB,Nat.pow_succ,<-bh,bT _ (R*B)];exact Nat.mul_le_mul (Nat.mul_le_mul_right B h) (KX (by omega))
theorem KY{R l n:Nat}(hn:n<=R)(h:R*B<=wt l):ln (fB B n)<=l*n+1:=by
 rw[fg,iL];have h1:=a9 (KX (B:=B) hn) (Nat.pow_le_pow_left h n);rw[tw,<-Nat.pow_mul]at h1;have h2:=tw (l*n);have h3:=xc (l*n);rw[show 32*l*n=32*(l*n) by rw[bh]]at h1;omega
theorem xB{K:Nat}{D:Rat}(h0:D≠0)(hD:Ib K D)(hq:Ib K (D*q)):rl q<=ln K:=by
 obtain⟨d,rfl,b⟩:=hD;obtain⟨z,e,c⟩:=hq;have hd:d≠0:=fun e=>h0 (by rw[e];rfl);have e2:q=Rat.divInt z d:=by
  rw[Rat.divInt_eq_div,<-e,bc,bl (d:Rat) q,Rat.mul_assoc,Rat.mul_inv_cancel _ h0,Rat.mul_one]
 have:=j0 (a:=z) hd;have:=eu b;have:=eu c;rw[e2];omega
theorem Gc{n:Nat}(h:r<n):fO n (gI m r fun _=>0)=0:=by
 have h1:=mT 1 n r m h (fun _=>0) fun _=>0;rw[show (fun _:Nat=>(0:Rat)+1*0)=fun _=>0 from funext fun _=>by grind]at h1;grind
theorem yC{n r:Nat}{m:Mx}(h:r<n)(c:Nat->Rat)(v:Nat->Nat->Rat):∀s,fO n (gI m r fun j=>cZ (fun k=>c k*v k j) s)=cZ (fun k=>c k*fO n (gI m r (v k))) s
 |0=>Gc h
 |s+1=>by
  have h1:=mT (c s) n r m h (fun j=>cZ (fun k=>c k*v k j) s) (v s);rw[yC h c v s]at h1;exact h1
theorem Ff{n a b:Nat}(hb:b<n)(hab:a<b)(he:∀j,j<n->m a j=m b j):fO n m=0:=by
 obtain⟨b,rfl⟩:∃k,b=k+1:=⟨b-1,by omega⟩
 cases a with
 |zero=>exact nG b n m hb he
 |succ a=>
  have h1:=G6 (m:=m) (k:=a) (n:=n) (by omega);rw[nG b n _ hb fun j hj=>?_]at h1
  ·grind
  ·rw[show vB 0 (a+1) 0=a+1 by unfold vB;rw[if_pos rfl],show vB 0 (a+1) (b+1)=b+1 by unfold vB;rw[aK (by omega),aK (by omega)]];exact he j hj
theorem DD{n a b:Nat}(ha:a<n)(hb:b<n)(hab:a≠b)(he:∀j,j<n->m a j=m b j):fO n m=0:=by
 rcases Nat.lt_or_gt_of_ne hab with h|h
 ·exact Ff hb h he
 ·exact Ff ha h fun j hj=>(he j hj).symm
section
variable{E Z:Mx}{p:Nat->Nat}{r n:Nat}{v:Nat->Rat}
theorem Ru.coeff(h:Ru E p r n)(hv:eC E r n v):∀t,t<n->v t=cZ (fun i=>v (p i)*E i t) r:=by
 obtain⟨c,hc⟩:=hv;intro t ht;rw[hc t ht];refine cK fun i hi=>?_;rw[hc (p i) (h.lt i hi),fP hi fun k hk hne=>by rw[h.unit i k hi hk,aK hne,bC],h.unit i i hi hi,if_pos rfl,Rat.mul_one]
def sV(Z:Mx)(p:Nat->Nat)(r:Nat):Rat:=fO r fun j i=>Z (r-1-i) (p (r-1-j))
theorem Ks(h:Ru E p r n)(hZ:∀i,i<r->eC E r n (Z i)){k t:Nat}(hk:k<r)(ht:t<n):
  sV Z p r*E k t=fO r (gI (fun j i=>Z (r-1-i) (p (r-1-j))) (r-1-k) fun i=>Z (r-1-i) t):=by
 have e:∀i j,i<r->j<r->gI (fun j i=>Z (r-1-i) (p (r-1-j))) (r-1-k) (fun i=>Z (r-1-i) t) i j=gI (fun j i=>Z (r-1-i) (p (r-1-j))) (r-1-k) (fun i=>cZ (fun j=>E j t*Z (r-1-i) (p j)) r) i j:=fun i j hi hj=>by
  unfold gI;split
  ·show Z (r-1-j) t=cZ (fun l=>E l t*Z (r-1-j) (p l)) r;rw[h.coeff (hZ (r-1-j) (by omega)) t ht];exact cK fun l _=>bl _ _
  ·rfl
 rw[iB e,yC (v:=fun k i=>Z (r-1-i) (p k)) (by omega),fP hk fun j hj hne=>?_]
 ·rw[show gI (fun j i=>Z (r-1-i) (p (r-1-j))) (r-1-k) (fun i=>Z (r-1-i) (p k))=fun j i=>Z (r-1-i) (p (r-1-j))from ?_]
  ·rw[sV,bl]
  ·funext i j
   unfold gI;split
   ·rename_i hi;rw[hi,show r-1-(r-1-k)=k by omega]
   ·rfl
 ·rw[DD (a:=r-1-k) (b:=r-1-j) (by omega) (by omega) (by omega) fun i hi=>?_,bC];unfold gI;rw[if_pos rfl,aK (by omega)];show Z (r-1-i) (p j)=Z (r-1-i) (p (r-1-(r-1-j)));rw[show r-1-(r-1-j)=j by omega]
theorem Kt(h:Ru E p r n)(hZ:∀i,i<r->eC E r n (Z i)){t:Nat}(ht:t<n):
  fO (r+1) (fun j i=>if j=0 then Z (r-i) t else Z (r-i) (p (r-j)))=lE E p r (Z r) n t*sV Z p r:=by
 obtain⟨m,hm⟩:∃m:Mx,m=fun j i=>if j=0 then Z (r-i) t else Z (r-i) (p (r-j)):=⟨_,rfl⟩
 obtain⟨w,hw⟩:∃w:Nat->Rat,w=fun i=>if i=0 then lE E p r (Z r) n t else 0:=⟨_,rfl⟩
 rw[<-hm];have hrow:∀j,j<r->∀i,m (r-j) i=Z (r-i) (p j):=fun j hj i=>by rw[hm];simp only;rw[aK (by omega),show r-(r-j)=j by omega]
 have e:∀i j,i<r+1->j<r+1->m i j=gI m 0 (fun i=>w i+1*cZ (fun j=>E j t*m (r-j) i) r) i j:=fun i j hi hj=>by
  unfold gI;split
  ·rename_i h0;subst h0;show m 0 j=w j+1*cZ (fun l=>E l t*m (r-l) j) r;rw[cK (g:=fun l=>E l t*Z (r-j) (p l)) fun l hl=>by rw[hrow l hl],bu,hw];simp only
   by_cases hj0:j=0
   ·rw[if_pos hj0,hj0,hm];simp only[if_pos,Nat.sub_zero]
    unfold lE;rw[cK (f:=fun i=>if p i<n then Z r (p i)*E i t else 0) (g:=fun i=>E i t*Z r (p i)) fun l hl=>by rw[if_pos (h.lt l hl),bl]];grind
   ·rw[aK hj0,Rat.zero_add,hm];simp only[if_pos]
    rw[h.coeff (hZ (r-j) (by omega)) t ht];exact cK fun l _=>bl _ _
  ·rfl
 rw[iB e,mT 1 (r+1) 0 m (by omega),yC (v:=fun k i=>m (r-k) i) (by omega),cK (g:=fun _=>0) fun j hj=>?_,dx,bC,bX]
 ·rw[fO,fP (i:=0) (by omega) fun k hk hne=>?_]
  ·unfold gI;rw[if_pos rfl,hw];simp only[if_pos]
   rw[show rM 0=1 by decide,bu,sV,iB fun i j hi hj=>?_];rw[aK (by omega),hm];simp only
   rw[aK (by omega),show skip 0 j=j+1 by unfold skip;rw[aK (by omega)],show r-(j+1)=r-1-j by omega,show r-(i+1)=r-1-i by omega]
  ·unfold gI;rw[if_pos rfl,hw];simp only
   rw[aK hne,bG,bC]
 ·rw[DD (a:=0) (b:=r-j) (by omega) (by omega) (by omega) fun i _=>?_,bC];unfold gI;rw[if_pos rfl,aK (by omega)]
theorem Jb(d:Rat)(k t:Nat):lE E p r (fun t=>d*v t) k t=d*lE E p r v k t:=by
 unfold lE;rw[cK (g:=fun i=>d*if p i<k then v (p i)*E i t else 0) fun i _=>?_,eN]
 ·grind
 ·split
  ·rw[Rat.mul_assoc]
  ·rw[bC]
theorem Jc(h:Ru E p r n){x:Nat->Rat}(hx:eC E r n fun t=>v t+ -(x t))(h0:∀i,i<r->x (p i)=0){t:Nat}(ht:t<n):x t=lE E p r v n t:=by
 have h1:=h.coeff hx t ht;unfold lE;rw[cK (g:=fun i=>v (p i)*E i t) fun i hi=>if_pos (h.lt i hi)];rw[cK (g:=fun i=>v (p i)*E i t) fun i hi=>by rw[h0 i hi];grind]at h1;grind
end
structure yD(E:Mx)(p:Nat->Nat)(r n B:Nat)(Z:Mx):Prop where
 ru:Ru E p r n
 sp:∀i,i<r->eC E r n (Z i)
 ib:∀i t,i<r->t<n->Ib B (Z i t)
 nz:sV Z p r≠0
section
variable{E Z:Mx}{p:Nat->Nat}{r n B k:Nat}{v u:Nat->Rat}
theorem yD.start(E Z:Mx)(p:Nat->Nat)(n B:Nat):yD E p 0 n B Z:=
 ⟨⟨fun _ h=>(by omega),fun _ _ h=>(by omega),fun _ _ h=>(by omega),fun _ _ h=>(by omega)⟩,fun _ h=>(by omega),fun _ _ h=>(by omega),by show(1:Rat)≠0;decide⟩
theorem yD.push(h:yD E p r n B Z)(hd:d≠0)(hz:∀t,t<n->Ib B (d*v t))(hu:∀t,t<n->u t=lE E p r v n t)(hk:k<n)(h0:u k≠0)(hl:∀t,t<k->u t=0):
  yD (jr E r u k) (fun i=>if i=r then k else p i) (r+1) n B fun i t=>if i=r then d*v t else Z i t:=by
 refine⟨h.ru.push hk (fun i hi=>by rw[hu _ (h.ru.lt i hi),F8 h.ru hi]) h0 hl,fun i hi=>?_,fun i t hi ht=>?_,?_⟩
 ·by_cases h1:i=r
  ·exact((A5 h0 hu h.ru.lt).mul d).congr fun t _=>by simp only[if_pos h1];rw[bl]
  ·exact((h.sp i (by omega)).trans fun j hj=>pr h0 j hj).congr fun t _=>by simp only[aK h1]
 ·by_cases h1:i=r
  ·simp only[if_pos h1];exact hz t ht
  ·simp only[aK h1];exact h.ib i t (by omega) ht
 ·have hb:=Kt (Z:=fun i t=>if i=r then d*v t else Z i t) h.ru (fun i hi=>(h.sp i hi).congr fun t _=>by simp only[aK (Nat.ne_of_lt hi)]) hk;have e1:sV (fun i t=>if i=r then d*v t else Z i t) p r=sV Z p r:=iB fun i j hi hj=>by simp only;rw[aK (by omega)]
  simp only[if_pos]at hb;rw[Jb,<-hu k hk,e1]at hb;have e2:sV (fun i t=>if i=r then d*v t else Z i t) (fun i=>if i=r then k else p i) (r+1)=d*u k*sV Z p r:=by
   rw[<-hb];refine iB fun i j hi hj=>?_;by_cases h1:i=0
   ·subst h1;simp only[if_true]
    rw[if_pos (show r+1-1-0=r by omega),show r+1-1-j=r-j by omega]
   ·simp only[aK h1]
    rw[aK (show ¬r+1-1-i=r by omega),show r+1-1-j=r-j by omega,show r+1-1-i=r-i by omega]
  rw[e2];have hz1:∀{a b:Rat},a≠0->b≠0->a*b≠0:=fun ha hb e=>by
   rcases Rat.mul_eq_zero.1 e with h|h
   ·exact ha h
   ·exact hb h
  exact hz1 (hz1 hd h0) h.nz
theorem yD.den(h:yD E p r n B Z):Ib (fB B r) (sV Z p r):=Ib.M4 r fun i j hi hj=>h.ib _ _ (by omega) (h.ru.lt _ (by omega))
theorem yD.M5(h:yD E p r n B Z){i t:Nat}(hi:i<r)(ht:t<n):Ib (fB B r) (sV Z p r*E i t):=by
 rw[Ks h.ru h.sp hi ht];refine Ib.M4 r fun j l hj hl=>?_;unfold gI;split
 ·exact h.ib _ _ (by omega) ht
 ·exact h.ib _ _ (by omega) (h.ru.lt _ (by omega))
theorem yD.Ho(h:yD E p r n B Z){i t:Nat}(hi:i<r)(ht:t<n):rl (E i t)<=ln (fB B r):=xB h.nz h.den (h.M5 hi ht)
theorem yD.lE(h:yD E p r n B Z)(hz:∀t,t<n->Ib B (d*v t))(k:Nat){t:Nat}(ht:t<n):Ib (fB B (r+1)) (d*sV Z p r*lE E p r v k t):=by
 unfold Go.Ex.lE;rw[show ∀a b c s:Rat,a*b*(c-s)=b*(a*c)-(a*b)*s from fun a b c s=>by grind,<-eN,fB,Nat.succ_mul,Nat.add_comm];refine Ib.sub (by rw[bT B];exact h.den.mul (hz t ht)) (Ib.sum r fun i hi=>?_);split
 ·rw[show ∀a b c s:Rat,a*b*(c*s)=(a*c)*(b*s)from fun a b c s=>by grind];exact(hz _ (h.ru.lt i hi)).mul (h.M5 hi ht)
 ·rw[bC];exact Ib.zero _
theorem yD.Hq(h:yD E p r n B Z)(hB:1<=B)(hd:d≠0)(hdB:Ib B d)(hz:∀t,t<n->Ib B (d*v t))(k:Nat){t:Nat}(ht:t<n):Go.Ex.rl (Go.Ex.lE E p r v k t)<=ln (fB B (r+1)):=
 xB (fun e=>by rcases Rat.mul_eq_zero.1 e with e|e;exact hd e;exact h.nz e) ((hdB.mul h.den).mono (Fe B r)) (h.lE hz k ht)
end
def C3(M:List (List Rat))(n B:Nat):Prop:=∀j,j<M.length->∃d:Rat,d≠0∧Ib B d∧∀t,t<n->Ib B (d*dG M j t)
theorem eC.E1{n:Nat}(h:eC E r n v)(e:∀i t,i<r->t<n->F i t=E i t):eC F r n v:=by
 obtain⟨c,hc⟩:=h;exact⟨c,fun t ht=>by rw[hc t ht];exact cK fun i hi=>by rw[e i t hi ht]⟩
theorem eC.more{s n:Nat}(h:eC E r n v)(k:r<=s):eC E s n v:=h.trans fun i hi=>eC.row (Nat.lt_of_lt_of_le hi k)
theorem Ru.congr{q:Nat->Nat}{n:Nat}(h:Ru E p r n)(e:∀i t,i<r->t<n->F i t=E i t)(ep:∀i,i<r->q i=p i):Ru F q r n:=
 ⟨fun i hi=>by rw[ep i hi];exact h.lt i hi,fun i j hi hj k=>h.inj i j hi hj (by rw[<-ep i hi,<-ep j hj];exact k),fun i j hi hj=>by rw[ep i hi,e j _ hj (h.lt i hi)];exact h.unit i j hi hj,
  fun i t hi ht=>by rw[ep i hi]at ht;rw[e i t hi (by have:=h.lt i hi;omega)];exact h.lead i t hi ht⟩
theorem yD.congr{Z Y:Mx}{q:Nat->Nat}{n:Nat}(h:yD E p r n B Z)(e:∀i t,i<r->t<n->F i t=E i t)(ep:∀i,i<r->q i=p i)(eZ:∀i t,i<r->t<n->Y i t=Z i t):yD F q r n B Y:=by
 refine⟨h.ru.congr e ep,fun i hi=>((h.sp i hi).congr fun t ht=>eZ i t hi ht).E1 e,fun i t hi ht=>by rw[eZ i t hi ht];exact h.ib i t hi ht,?_⟩;rw[show sV Y q r=sV Z p r from iB fun i j hi hj=>by rw[ep _ (by omega),eZ _ _ (by omega) (h.ru.lt _ (by omega))]];exact h.nz
theorem yE(row:List Rat):∀f k,k<=nu row f k∧nu row f k<=k+f∧(∀t,k<=t->t<nu row f k->row.getD t 0=0)∧(nu row f k<k+f->row.getD (nu row f k) 0≠0)
 |0,k=>by
  unfold nu;exact⟨aG _,aG _,fun t h1 h2=>by omega,fun h=>by omega⟩
 |f+1,k=>by
  unfold nu;split
  ·rename_i h;obtain⟨h1,h2,h3,h4⟩:=yE row f (k+1);refine⟨by omega,by omega,fun t k1 k2=>?_,fun h5=>h4 (by omega)⟩;rcases aQ k t with h5|h5
   ·exact h3 t h5 k2
   ·rw[show t=k by omega];exact h
  ·rename_i h;exact⟨aG _,by omega,fun t h1 h2=>by omega,fun _=>h⟩
theorem Gd(row:List Rat)(n:Nat):sS row n<=n∧(∀t,t<sS row n->row.getD t 0=0)∧(sS row n≠n->row.getD (sS row n) 0≠0):=by
 obtain⟨_,h2,h3,h4⟩:=yE row n 0;unfold sS;exact⟨by omega,fun t h=>h3 t (aP _) h,fun h=>h4 (by omega)⟩
theorem Ge(y:List Rat)(q:Rat)(t:Nat):(y.map (· / q)).getD t 0=y.getD t 0 / q:=by
 simp only[List.getD,aN]
 cases y[t]? with
 |none=>show(0:Rat)=0 / q;rw[bc,bG]
 |some x=>rfl
structure E2(M:List (List Rat))(n B i:Nat)(s:vz)(p:Nat->Nat)(Z:Mx):Prop where
 ok:sT n n i s
 Lq:∀k,k<n->∀r:Nat,s.2.1[k]? =some (some r)↔r<s.1.length∧p r=k
 yF:yD (dG s.1) p s.1.length n B Z
 up:∀r,r<s.1.length->eC (dG M) i n (dG s.1 r)
 dn:∀j,j<i->eC (dG s.1) s.1.length n (dG M j)
section
variable{M:List (List Rat)}{n B i:Nat}{s:vz}{p:Nat->Nat}{Z:Mx}
theorem E2.lE(h:E2 M n B i s p Z){x:List Rat}(hx:x.length=n):∀k,k<=n->∀t,t<n->(fI s.1 s.2.1 x k).getD t 0=lE (dG s.1) p s.1.length (fun t=>x.getD t 0) k t
 |0,_,t,ht=>by rw[Hi];rfl
 |k+1,hk,t,ht=>by
  have ih:=E2.lE h hx k (by omega);obtain⟨o,ho⟩:∃o,s.2.1[k]? =some o:=⟨_,aB (by rw[h.ok.at_];omega)⟩
  have hd:s.2.1.getD k none=o:=by rw[List.getD,ho];rfl
  rw[fI,hd]
  cases o with
  |none=>
   simp only
   rw[ih t ht,Hj fun r hr e=>?_];have:=(h.Lq k (by omega) r).2 ⟨hr,e⟩;rw[ho]at this
   cases this
  |some r=>
   simp only
   obtain⟨hr,e⟩:=(h.Lq k (by omega) r).1 ho;rw[lJ,tx (by rw[gW,hx];exact ht),ih t ht,ih k (by omega),<-e,Hk h.yF.ru hr];rfl
theorem E2.step(h:E2 M n B i s p Z)(hM:fe n M)(hi:i<M.length)(hd:d≠0)(hz:∀t,t<n->Ib B (d*dG M i t)):
  ∃p' Z',E2 M n B (i+1) (j6 n s i (M.getD i [])) p' Z':=by
 have hx:(M.getD i []).length=n:=hM.getD hi;have hok:=h.ok.step hx;obtain⟨y,hy⟩:∃y,fI s.1 s.2.1 (M.getD i []) n=y:=⟨_,rfl⟩
 have hu:∀t,t<n->y.getD t 0=Go.Ex.lE (dG s.1) p s.1.length (dG M i) n t:=fun t ht=>by rw[<-hy];exact h.lE hx n (aG _) t ht
 have hyl:y.length=n:=by rw[<-hy,gW,hx]
 obtain⟨q1,q2,q3⟩:=Gd y n;by_cases hq:sS y n=n
 ·have e:j6 n s i (M.getD i [])=s:=by unfold j6;simp only[hy,hq,if_true]
  rw[e]at hok ⊢;refine⟨p,Z,hok,h.Lq,h.yF,fun r hr=>(h.up r hr).more (Nat.le_succ i),fun j hj=>?_⟩;rcases aQ j i with h1|h1
  ·exact h.dn j h1
  ·rw[show j=i by omega];refine⟨fun j=>dG M i (p j),fun t ht=>?_⟩;have h2:=hu t ht;rw[q2 t (by omega)]at h2;unfold Go.Ex.lE at h2;rw[cK (g:=fun j=>dG M i (p j)*dG s.1 j t) fun j hj=>if_pos (h.yF.ru.lt j hj)]at h2;grind
 ·have h0:=q3 hq;obtain⟨k,hk⟩:∃k,sS y n=k:=⟨_,rfl⟩
  rw[hk]at hq h0 q1 q2;have hkn:k<n:=by omega
  have e:j6 n s i (M.getD i [])=(fh s.1 (y.map (· / y.getD k 0)) k s.1.length++[y.map (· / y.getD k 0)],s.2.1.set k (some s.1.length),s.2.2++[i]):=by
   unfold j6;simp only[hy,hk,aK hq]
  rw[e]at hok ⊢;have hl:(fh s.1 (y.map (· / y.getD k 0)) k s.1.length).length=s.1.length:=fS ..;have hnl:(fh s.1 (y.map (· / y.getD k 0)) k s.1.length++[y.map (· / y.getD k 0)]).length=s.1.length+1:=by rw[List.length_append,hl];rfl
  have hdv:∀t,t<n->(y.map (· / y.getD k 0)).getD t 0=y.getD t 0 / y.getD k 0:=fun t _=>Ge y _ t;have hE:∀a t,a<s.1.length+1->t<n->dG (fh s.1 (y.map (· / y.getD k 0)) k s.1.length++[y.map (· / y.getD k 0)]) a t=jr (dG s.1) s.1.length (fun t=>y.getD t 0) k a t:=fun a t ha ht=>by
   unfold jr;by_cases h1:a=s.1.length
   ·rw[if_pos h1,<-hdv t ht,dG];congr 1;rw[List.getD,aO (by omega),hl,h1,bM];rfl
   ·have ha2:a<s.1.length:=by omega
    have hr:=aB ha2;have hrl:(s.1[a]).length=n:=h.ok.len _ (aX ha2);have hg:s.1.getD a []=s.1[a]:=by rw[List.getD,hr];rfl
    have hrow:(fh s.1 (y.map (· / y.getD k 0)) k s.1.length++[y.map (· / y.getD k 0)]).getD a []=lJ s.1[a] (y.map (· / y.getD k 0)) ((s.1[a]).getD k 0):=by
     rw[List.getD,aM (by omega),fh,List.getElem?_mapIdx,hr];simp only[Option.map_some,Option.getD_some,if_pos ha2]
    rw[aK h1,dG,hrow,lJ,tx (by omega),hdv t ht];unfold dG;rw[hg]
  have hC:=h.yF.push hd hz hu hkn h0 q2;have hu2:=Kr (v:=dG M i) hu h.yF.ru.lt;refine⟨fun i=>if i=s.1.length then k else p i,fun a t=>if a=s.1.length then d*dG M i t else Z a t,hok,?_,?_,?_,?_⟩
  ·intro c hc r;dsimp only
   rw[hnl];have hne:∀j,j<s.1.length->p j≠k:=fun j hj e=>h0 (by rw[hu k hkn,<-e];exact F8 h.yF.ru hj);by_cases h1:c=k
   ·rw[h1,aW (by rw[h.ok.at_];exact hkn)];constructor
    ·intro e;injection e with e;injection e with e;exact⟨by omega,by rw[if_pos e.symm]⟩
    ·rintro⟨h2,h3⟩;by_cases h4:r=s.1.length
     ·rw[h4]
     ·rw[aK h4]at h3;exact absurd h3 (hne r (by omega))
   ·rw[bA (Ne.symm h1),h.Lq c hc r];constructor
    ·rintro⟨h2,h3⟩;exact⟨by omega,by rw[aK (by omega)];exact h3⟩
    ·rintro⟨h2,h3⟩;by_cases h4:r=s.1.length
     ·rw[if_pos h4]at h3;exact absurd h3.symm h1
     ·rw[aK h4]at h3;exact⟨by omega,h3⟩
  ·dsimp only
   rw[hnl];exact hC.congr hE (fun _ _=>rfl) fun _ _ _ _=>rfl
  ·dsimp only
   rw[hnl];intro a ha;refine((Hl (k:=k) hu2 a ha).trans fun b hb=>?_).congr fun t ht=>hE a t ha ht;by_cases h1:b=s.1.length
   ·exact(eC.row (show i<i+1 by omega)).congr fun t _=>by unfold jV;rw[if_pos h1]
   ·exact((h.up b (by omega)).more (Nat.le_succ i)).congr fun t _=>by unfold jV;rw[aK h1]
  ·dsimp only
   rw[hnl];intro j hj;refine eC.E1 ?_ hE;rcases aQ j i with h1|h1
   ·exact(h.dn j h1).trans fun b hb=>pr h0 b hb
   ·rw[show j=i by omega];exact A5 h0 hu h.yF.ru.lt
end
theorem pw{M:List (List Rat)}{n B:Nat}(hM:fe n M)(hW:C3 M n B):∀i,i<=M.length->∃p Z,E2 M n B i (fu M n i) p Z
 |0,_=>⟨fun _=>0,fun _ _=>0,sT.start n n,fun k _ r=>⟨fun h=>(by
   simp only[fu,List.getElem?_replicate]at h
   split at h<;>cases h),fun h=>(by have:=h.1;simp[fu]at this)⟩,yD.start _ _ _ _ _,fun r h=>(by simp[fu]at h),fun j h=>by omega⟩
 |i+1,hi=>by
  obtain⟨p,Z,h⟩:=pw hM hW i (by omega);obtain⟨d,hd,-,hz⟩:=hW i (by omega);exact h.step hM (by omega) hd hz
theorem Hr{n:Nat}(hM:fe n M)(hW:C3 M n B)(hB:1<=B){i:Nat}(hi:i<=M.length):∀r∈(fu M n i).1,∀q∈r,rl q<=ln (fB B M.length):=fun r hr q hq=>by
 obtain⟨p,Z,h⟩:=pw hM hW i hi;obtain⟨a,ha⟩:=aS hr;obtain⟨t,ht⟩:=aS hq;have ha2:=(aE.1 ha).1;have ht2:=(aE.1 ht).1;rw[h.ok.len r hr]at ht2;have h1:=h.yF.Ho ha2 ht2;rw[dG,show(fu M n i).1.getD a []=r by rw[List.getD,ha];rfl,show r.getD t 0=q by rw[List.getD,ht];rfl]at h1;exact a9 h1 (eu (pt hB (a9 h.ok.le hi)))
theorem Hs{n:Nat}(hM:fe n M)(hW:C3 M n B)(hB:1<=B){i k:Nat}(hi:i<M.length)(hk:k<=n):∀q∈fI (fu M n i).1 (fu M n i).2.1 (M.getD i []) k,rl q<=ln (fB B M.length):=fun q hq=>by
 obtain⟨p,Z,h⟩:=pw hM hW i (by omega);have hx:(M.getD i []).length=n:=hM.getD hi;obtain⟨t,ht⟩:=aS hq;have ht2:=(aE.1 ht).1;rw[gW,hx]at ht2;have h1:=h.lE hx k hk t ht2;rw[show (fI (fu M n i).1 (fu M n i).2.1 (M.getD i []) k).getD t 0=q by rw[List.getD,ht];rfl]at h1;obtain⟨d,hd,hdB,hz⟩:=hW i hi;rw[h1];exact a9 (h.yF.Hq hB hd hdB hz k ht2) (eu (pt hB (by have:=h.ok.le;omega)))
theorem A6{s:vz}:∀k,(cd s k).1.length=(cd s k).2.1.length∧(∀i,i<(cd s k).2.1.length->∃r:Nat,s.2.1[(cd s k).2.1.getD i 0]? =some (some r)∧(cd s k).1.getD i []=s.1.getD r []∧(cd s k).2.1.getD i 0<k)∧
  (∀i j,i<j->j<(cd s k).2.1.length->(cd s k).2.1.getD i 0<(cd s k).2.1.getD j 0)∧∀q,q<k->∀r:Nat,s.2.1[q]? =some (some r)->∃i,i<(cd s k).2.1.length∧(cd s k).2.1.getD i 0=q
 |0=>⟨rfl,fun i h=>(by cases h),fun i j _ h=>(by cases h),fun q h=>by omega⟩
 |k+1=>by
  obtain⟨h1,h2,h3,h4⟩:=A6 (s:=s) k;have step:(∃r:Nat,s.2.1[k]? =some (some r)∧cd s (k+1)=((cd s k).1++[s.1.getD r []],(cd s k).2.1++[k],(cd s k).2.2++[s.2.2.getD r 0]))∨((∀r:Nat,s.2.1[k]? ≠some (some r))∧cd s (k+1)=cd s k):=by
   rw[cd]
   cases ho:s.2.1[k]? with
   |none=>exact .inr ⟨fun r e=>(by cases e),by rw[show s.2.1.getD k none=none by rw[List.getD,ho];rfl]⟩
   |some o=>cases o with
    |none=>exact .inr ⟨fun r e=>(by cases e),by rw[show s.2.1.getD k none=none by rw[List.getD,ho];rfl]⟩
    |some r=>exact .inl ⟨r,rfl,by rw[show s.2.1.getD k none=some r by rw[List.getD,ho];rfl]⟩
  rcases step with⟨r,hr,e⟩|⟨hr,e⟩
  ·rw[e];have old:∀i,i<(cd s k).2.1.length->((cd s k).2.1++[k]).getD i 0=(cd s k).2.1.getD i 0:=fun i hi=>by rw[List.getD,aM hi,<-List.getD]
   have new:((cd s k).2.1++[k]).getD (cd s k).2.1.length 0=k:=by rw[List.getD,aO (aG _),bM];rfl
   have hlen:((cd s k).2.1++[k]).length=(cd s k).2.1.length+1:=by simp
   dsimp only
   rw[hlen];refine⟨by simp[h1],fun i hi=>?_,fun i j hij hj=>?_,fun q hq x hx=>?_⟩
   ·rcases aQ i (cd s k).2.1.length with h5|h5
    ·obtain⟨x,x1,x2,x3⟩:=h2 i h5;rw[old i h5];refine⟨x,x1,?_,by omega⟩;rw[List.getD,aM (by omega),<-List.getD];exact x2
    ·rw[show i=(cd s k).2.1.length by omega,new];refine⟨r,hr,?_,by omega⟩;rw[List.getD,aO (by omega),h1,bM];rfl
   ·rcases aQ j (cd s k).2.1.length with h5|h5
    ·rw[old i (by omega),old j h5];exact h3 i j hij h5
    ·rw[show j=(cd s k).2.1.length by omega,new,old i (by omega)];obtain⟨_,_,_,x3⟩:=h2 i (by omega);exact x3
   ·rcases aQ q k with h5|h5
    ·obtain⟨i,i1,i2⟩:=h4 q h5 x hx;exact⟨i,by omega,by rw[old i i1];exact i2⟩
    ·exact⟨(cd s k).2.1.length,by omega,by rw[new];omega⟩
  ·rw[e];refine⟨h1,fun i hi=>?_,h3,fun q hq x hx=>?_⟩
   ·obtain⟨x,x1,x2,x3⟩:=h2 i hi;exact⟨x,x1,x2,by omega⟩
   ·rcases aQ q k with h5|h5
    ·exact h4 q h5 x hx
    ·rw[show q=k by omega]at hx;exact absurd hx (hr x)
theorem j8{α:Type}{a b:List α}(d:α)(hl:a.length=b.length)(h:∀i,i<a.length->a.getD i d=b.getD i d):a=b:=by
 refine List.ext_getElem hl fun i h1 h2=>?_;have:=h i h1
 rwa [List.getD,List.getD,aB h1,aB h2]at this
theorem rO{n:Nat}(hM:fe n M)(hW:C3 M n B):(dR M n).2.1=(cN M n).2∧(dR M n).1=(cN M n).1.take (cN M n).2.length:=by
 obtain⟨p,Z,h⟩:=pw hM hW M.length (aG _);obtain⟨h1,h2,h3,h4⟩:=A6 (s:=fu M n M.length) n;unfold dR;generalize fu M n M.length=s at*
 obtain⟨F,hF⟩:∃F,cd s n=F:=⟨_,rfl⟩
 rw[hF]at h1 h2 h3 h4 ⊢;have hrow:∀i,i<F.2.1.length->∃r,r<s.1.length∧p r=F.2.1.getD i 0∧F.1.getD i []=s.1.getD r []∧F.2.1.getD i 0<n:=fun i hi=>by
  obtain⟨r,r1,r2,r3⟩:=h2 i hi;obtain⟨k1,k2⟩:=(h.Lq _ r3 r).1 r1;exact⟨r,k1,k2,r2,r3⟩
 have inj:∀i j,i<F.2.1.length->j<F.2.1.length->F.2.1.getD i 0=F.2.1.getD j 0->i=j:=fun i j hi hj e=>by
  rcases bq i j with h5|h5|h5
  ·have:=h3 i j h5 hj;omega
  ·exact h5
  ·have:=h3 j i h5 hi;omega
 have hrf:Rf (dG F.1) (fun i=>F.2.1.getD i 0) F.2.1.length n:=by
  refine⟨fun i hi=>?_,h3,fun i j hi hj=>?_,fun i t hi ht=>?_⟩
  ·obtain⟨_,_,_,_,h5⟩:=hrow i hi;exact h5
  ·obtain⟨a,a1,a2,a3,_⟩:=hrow i hi;obtain⟨b,b1,b2,b3,_⟩:=hrow j hj;rw[dG,b3,<-a2];have:=h.yF.ru.unit a b a1 b1;unfold dG at this;rw[this];by_cases h5:j=i
   ·rw[if_pos h5,if_pos (h.yF.ru.inj b a b1 a1 (by rw[a2,b2,h5]))]
   ·rw[aK h5,aK fun e=>h5 (inj j i hj hi (by rw[<-a2,<-b2,e]))]
  ·obtain⟨a,a1,a2,a3,_⟩:=hrow i hi;rw[dG,a3];have:=h.yF.ru.lead a t a1 (by rw[a2];exact ht);unfold dG at this;exact this
 have hsp:∀r,r<s.1.length->eC (dG F.1) F.2.1.length n (dG s.1 r):=fun r hr=>by
  have hp:=h.yF.ru.lt r hr;obtain⟨i,i1,i2⟩:=h4 (p r) hp r ((h.Lq _ hp r).2 ⟨hr,rfl⟩);obtain⟨a,a1,a2,a3,_⟩:=hrow i i1;have e:a=r:=h.yF.ru.inj a r a1 hr (by rw[a2,i2]);exact(eC.row i1).congr fun t _=>by rw[dG,dG,a3,e]
 obtain⟨e1,e2,e3⟩:=DA hM hrf (fun i hi=>by
  obtain⟨a,a1,a2,a3,_⟩:=hrow i hi
  exact(h.up a a1).congr fun t _=>by rw[dG,dG,a3]) fun j hj=>(h.dn j hj).trans hsp
 obtain⟨g1,g2,-,-,-⟩:=eA hM n (aG _);refine⟨j8 0 e1.symm fun i hi=>(e2 i hi).symm,j8 [] ?_ fun i hi=>?_⟩
 ·rw[aY,e1,h1];omega
 ·rw[h1]at hi;have hi2:i<(cN M n).2.length:=by omega
  obtain⟨a,a1,a2,a3,_⟩:=hrow i hi;have hl1:(F.1.getD i []).length=n:=by rw[a3];exact h.ok.len.getD a1
  have hg:((cN M n).1.take (cN M n).2.length).getD i []=(cN M n).1.getD i []:=by rw[List.getD,bP hi2,<-List.getD]
  rw[hg];refine j8 0 (by rw[hl1,g1.getD (by omega)]) fun t ht=>?_;rw[hl1]at ht;exact(e3 i t hi ht).symm
structure MS(M:List (List Rat))(n B c:Nat)(s:List (List Rat)×List Nat)(σ:Nat->Nat)(Z:Mx):Prop where
 red:Lp n c s
 Mv:Hh s
 len:s.1.length=M.length
 yF:yD (dG s.1) (fun i=>s.2.getD i 0) s.2.length n B Z
 Lx:∀j,j<M.length->σ j<M.length
 rest:∀j,s.2.length<=j->j<M.length->∀t,t<n->dG s.1 j t=lE (dG s.1) (fun i=>s.2.getD i 0) s.2.length (dG M (σ j)) n t
theorem MS.step{n c:Nat}{s:List (List Rat)×List Nat}{Z:Mx}(h:MS M n B c s σ Z)(hW:C3 M n B)(hc:c<n):∃σ' Z',MS M n B (c+1) (dW s c) σ' Z':=by
 have hred:=h.red.step hc;have hmon:=h.Mv.step h.red hc;have hlen:(dW s c).1.length=M.length:=by rw[nC,h.len]
 obtain⟨hl,hle,hz,hpc,hu⟩:=h.red;rcases jg c hle with⟨e,h0⟩|⟨k,h1,h2,h3,e⟩
 ·rw[e]at hred hmon hlen ⊢;exact⟨σ,Z,hred,hmon,hlen,h.yF,h.Lx,h.rest⟩
 ·obtain⟨r1,r2⟩:=nD hl h1 h2 h3 e;have e2:(dW s c).2=s.2++[c]:=by rw[e]
  have e3:(dW s c).2.length=s.2.length+1:=by rw[e2];simp
  have hkM:k<M.length:=by rw[<-h.len];exact h2
  have hk:=h.rest k h1 hkM;obtain⟨d,hd,-,hdz⟩:=hW (σ k) (h.Lx k hkM);have hC:=h.yF.push (u:=dG s.1 k) hd hdz hk hc h3 fun t ht=>hz k t h1 h2 ht;have hold:∀i,i<s.2.length->(dW s c).2.getD i 0=s.2.getD i 0:=fun i hi=>by rw[e2,List.getD,aM hi,<-List.getD]
  have hnew:(dW s c).2.getD s.2.length 0=c:=by rw[e2,List.getD,aO (aG _),bM];rfl
  have hE:∀i t,i<s.2.length+1->t<n->dG (dW s c).1 i t=jr (dG s.1) s.2.length (dG s.1 k) c i t:=fun i t hi ht=>by
   unfold jr;by_cases hir:i=s.2.length
   ·rw[if_pos hir,hir,r1,bc,bc,bu]
   ·rw[aK hir,r2 i (by omega) hir t ht,aK (by omega),bc,bc,bu]
  have hC2:yD (dG (dW s c).1) (fun i=>(dW s c).2.getD i 0) (dW s c).2.length n B fun i t=>if i=s.2.length then d*dG M (σ k) t else Z i t:=by
   rw[e3];refine hC.congr hE (fun i hi=>?_) fun _ _ _ _=>rfl;by_cases hir:i=s.2.length
   ·rw[if_pos hir,hir,hnew]
   ·rw[aK hir,hold i (by omega)]
  refine⟨fun j=>if j=k then σ s.2.length else σ j,_,hred,hmon,hlen,hC2,fun j hj=>?_,fun j hj hjM t ht=>?_⟩
  ·split
   ·exact h.Lx _ (by omega)
   ·exact h.Lx j hj
  ·rw[e3]at hj;have hjs:j<s.1.length:=by rw[h.len];exact hjM
   obtain⟨jj,hjj⟩:∃jj,(if j=k then s.2.length else j)=jj:=⟨_,rfl⟩
   have hjr:s.2.length<=jj:=by rw[<-hjj];split<;>omega
   have hjl:jj<M.length:=by rw[<-hjj];split<;>omega
   have hσ:(if j=k then σ s.2.length else σ j)=σ jj:=by rw[<-hjj];split<;>rfl
   rw[hσ];refine Jc hC2.ru ?_ (fun i hi=>?_) ht
   ·have hr:eC (dG (dW s c).1) (dW s c).2.length n (dG (dW s c).1 s.2.length):=eC.row (by omega);have h5:eC (dG s.1) s.2.length n fun t=>cZ (fun i=>dG M (σ jj) (s.2.getD i 0)*dG s.1 i t) s.2.length:=⟨_,fun t _=>rfl⟩
    have h6:eC (dG (dW s c).1) (dW s c).2.length n fun t=>cZ (fun i=>dG M (σ jj) (s.2.getD i 0)*dG s.1 i t) s.2.length:=h5.trans fun i hi=>by
     rw[e3];exact eC.E1 (pr h3 i hi) hE
    refine(h6.add hr (dG s.1 jj c)).congr fun t ht=>?_;have h7:=h.rest jj hjr hjl t ht;unfold lE at h7;rw[cK (g:=fun i=>dG M (σ jj) (s.2.getD i 0)*dG s.1 i t) fun i hi=>if_pos (h.yF.ru.lt i hi)]at h7;rw[r2 j hjs (by omega) t ht,hjj,r1,h7];grind
   ·rw[hred.2.2.2.2 i j hi (by rw[hlen];exact hjM),aK (by omega)]
theorem oc{M:List (List Rat)}{n B:Nat}(hM:fe n M)(hW:C3 M n B):∀c,c<=n->∃σ Z,MS M n B c (cN M c) σ Z
 |0,_=>⟨fun j=>j,fun _ _=>0,⟨hM,aP _,fun _ _ _ _ h=>by omega,fun p hp=>(by cases hp),fun _ _ h=>(by cases h)⟩,⟨fun _ _ _ h=>(by cases h),fun _ _ h=>(by cases h)⟩,rfl,yD.start _ _ _ _ _,fun j hj=>hj,fun j _ hj t ht=>by
   show dG M j t=lE (dG M) _ 0 (dG M j) n t;unfold lE;show _=_-0
   grind⟩
 |c+1,hc=>by
  obtain⟨σ,Z,h⟩:=oc hM hW c (by omega);unfold cN at h ⊢;rw[bN,List.foldl_append];exact h.step hW (by omega)
theorem yG{n:Nat}(hM:fe n M)(hW:C3 M n B)(hB:1<=B){c:Nat}(hc:c<=n):∀r∈(cN M c).1,∀q∈r,rl q<=ln (fB B M.length):=fun r hr q hq=>by
 obtain⟨σ,Z,h⟩:=oc hM hW c hc;obtain⟨a,ha⟩:=aS hr;obtain⟨t,ht⟩:=aS hq;have ha2:=(aE.1 ha).1;have ht2:=(aE.1 ht).1;rw[h.red.1 r hr]at ht2;have hle:=h.red.2.1;have e:q=dG (cN M c).1 a t:=by rw[dG,show(cN M c).1.getD a []=r by rw[List.getD,ha];rfl,List.getD,ht];rfl
 rw[h.len]at ha2 hle;rw[e];rcases aQ a (cN M c).2.length with h1|h1
 ·exact a9 (h.yF.Ho h1 ht2) (eu (pt hB hle))
 ·obtain⟨d,hd,hdB,hz⟩:=hW _ (h.Lx a ha2);rw[h.rest a h1 ha2 t ht2];exact a9 (h.yF.Hq hB hd hdB hz n ht2) (eu (pt hB (by omega)))
end Go.Ex
