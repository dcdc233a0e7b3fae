/- Texts X78 to L40: lemmas, each with its conditions. -/
import Derived.Test.YtkdcaknoaeicdaaGreatP7
namespace Go.Ex
open Go Go.Sx Go.Proofs
variable{cs:List Value}{j:Nat}{S:Nat->Prop}{a a1 a2:Option Addr}{q:Rat}
theorem iK.len{w:World}(h:iK w S cs q):cs.length=4:=by obtain⟨_,_,_,_,_,_,_,_,rfl,_⟩:=h;rfl
def Fc(w:World)(S:Nat->Prop)(css:List (List Value))(qs:List Rat):Prop:=css.length=qs.length∧∀(j:Nat) cs q,css[j]? =some cs->qs[j]? =some q->iK w S cs q
section
variable{S S':Nat->Prop}{w w2:World}{cs:List Value}{css:List (List Value)}{q:Rat}{qs:List Rat}
theorem Fc.cH(h:Fc w S css qs)(hk:∀g,S g->w2.heap[g]? =w.heap[g]?):Fc w2 S css qs:=⟨h.1,fun j cs q h1 h2=>(h.2 j cs q h1 h2).cH hk⟩
theorem Fc.cI(h:Fc w S css qs)(hk:∀g,S g->S' g):Fc w S' css qs:=⟨h.1,fun j cs q h1 h2=>(h.2 j cs q h1 h2).cI hk⟩
theorem Fc.vq(h:Fc w S css qs):∀cs∈css,cs.length=4:=fun cs hc=>by
 obtain⟨j,hj⟩:=aS hc;have hl:=(aD.1 hj).1;exact(h.2 j cs _ hj (aB (by rw[<-h.1];exact hl))).len
theorem Fc.one(h:Fc w S css qs):∀u∈css.flatten,u.oneCell'=true:=fun u hu=>by
 obtain⟨cs,hc,hu⟩:=List.mem_flatten.1 hu;obtain⟨j,hj⟩:=aS hc;have hl:=(aD.1 hj).1;obtain⟨_,_,_,_,_,_,_,_,rfl,_⟩:=h.2 j cs _ hj (aB (by rw[<-h.1];exact hl));simp at hu;rcases hu with rfl|rfl|rfl|rfl<;>rfl
theorem Fc.set(h:Fc w S css qs)(hq:iK w S cs q):Fc w S (css.set j cs) (qs.set j q):=by
 refine⟨by simp[h.1],fun i c p h1 h2=>?_⟩;by_cases Pm:j=i
 ·subst Pm;have hl:=(aD.1 h1).1;rw[aV (by simpa using hl)]at h1;rw[aV (by have:=h.1;simp at hl;omega)]at h2;injection h1 with h1;injection h2 with h2;subst h1 h2;exact hq
 ·rw[aY Pm]at h1 h2;exact h.2 i c p h1 h2
end
def gL(w:World)(C S:Nat->Prop)(v:Value)(qs:List Rat):Prop:=∃css,iM w C 4 v css.flatten qs.length∧Fc w S css qs
section
variable{C C' S S':Nat->Prop}{H:Hp}{nx:Nat}{iv iv':Iv}{B:Nat}{w w' w2:World}{O:Nat->Sx.dg}{v:Value}{qs:List Rat}
theorem gL.cH(h:gL w C S v qs)(hk:∀g,C g∨S g->w2.heap[g]? =w.heap[g]?):gL w2 C S v qs:=by
 obtain⟨css,h1,h2⟩:=h;exact⟨css,h1.cH fun g hg=>hk g (.inl hg),h2.cH fun g hg=>hk g (.inr hg)⟩
theorem gL.cI(h:gL w C S v qs)(hk:∀g,C g->C' g)(VN:∀g,S g->S' g):gL w C' S' v qs:=by
 obtain⟨css,h1,h2⟩:=h;exact⟨css,h1.cI hk,h2.cI VN⟩
end
def iV(w:World)(S:Nat->Prop)(v:Value)(n:Nat)(qs:List Rat):Prop:=∃css,w.ownsRow 0 T.Rat 4 v n css.flatten∧css.length=n∧Fc w S css qs
section
variable{S S' C:Nat->Prop}{H:Hp}{nx n:Nat}{iv iv':Iv}{B:Nat}{w w' w2:World}{O:Nat->Sx.dg}{v:Value}{qs:List Rat}
theorem iV.cH(h:iV w S v n qs)(hk:∀g,S g∨v.ownBlock=some g->w2.heap[g]? =w.heap[g]?):iV w2 S v n qs:=by
 obtain⟨css,h1,h2,h3⟩:=h;exact⟨css,ownsRow.cH h1 fun g hg=>hk g (.inr hg),h2,h3.cH fun g hg=>hk g (.inl hg)⟩
theorem iV.cI(h:iV w S v n qs)(hk:∀g,S g->S' g):iV w S' v n qs:=by
 obtain⟨css,h1,h2,h3⟩:=h;exact⟨css,h1,h2,h3.cI hk⟩
theorem iV.len(h:iV w S v n qs):qs.length=n:=by
 obtain⟨css,h1,h2,h3⟩:=h;rw[<-h3.1,h2]
theorem iV.form(h:iV w S v n qs):∃a c,v= .slice a n c∧n<=c:=by
 obtain⟨css,h1,h2,h3⟩:=h;exact jk h1
theorem iV.le(h:iV w S v n qs):n<=maxLen:=by
 obtain⟨css,h1,h2,h3⟩:=h;rcases h1.2 with⟨_,h0⟩|⟨_,_,_,_,_,_,h1,h2,_⟩
 ·omega
 ·omega
theorem iV.read(h:iV w S v n qs):gL w (fun g=>v.ownBlock=some g) S v qs:=by
 have hl:=h.len;have hn:=h.le;obtain⟨css,h1,h2,h3⟩:=h;refine⟨css,?_,h3⟩;rw[hl];rcases h1.2 with⟨rfl,rfl⟩|⟨g,cap,cur,rfl,hb,hc,hmc,Qb,OX,Ry⟩
 ·refine⟨hn,h1.1,h3.one,none,0,rfl,aF _,fun j u hu=>?_⟩;have:=h1.1;rw[Nat.zero_mul]at this;rw[List.eq_nil_of_length_eq_zero this]at hu
  cases hu
 ·refine⟨hn,h1.1,h3.one,_,cap,rfl,hmc,fun j u hu=>⟨_,rfl,rfl,?_⟩⟩;exact h1.cells (g:=g) rfl j u hu
theorem iV.store{c n1 c1 n2 c2:Nat}{b b2:Bool}(h:iV w S (.slice a n c) n qs)(hj:j<n)(hf:cU w S (.agg #[.bool b,.slice a1 n1 c1,.bool b2,.slice a2 n2 c2]) q)(hoff:∀g,(Value.slice a n c).ownBlock=some g->¬S g)(hS:Old S w):
  ∃g,a=some ⟨g,0,none⟩∧((⟨g,0,none⟩:Addr).add ((j:Int).toNat*4)).spot=none∧((⟨g,0,none⟩:Addr).add ((j:Int).toNat*4)).block=g∧
   (∀k,k<4->(w.cell? (((⟨g,0,none⟩:Addr).add ((j:Int).toNat*4)).add k)).isSome=true∧w.frozen? (((⟨g,0,none⟩:Addr).add ((j:Int).toNat*4)).add k)=false)∧
   ∀w2,w2=setCells w ((⟨g,0,none⟩:Addr).add ((j:Int).toNat*4)) [.bool b,.slice a1 n1 c1,.bool b2,.slice a2 n2 c2]->iV w2 S (.slice a n c) n (qs.set j q)∧w.grownBy w2 (some g)∧w2.heap.size=w.heap.size:=by
 obtain⟨css,h1,h2,h3⟩:=h;obtain⟨g,rfl,OI,QD,PW,OX⟩:=pV (nv:=[.bool b,.slice a1 n1 c1,.bool b2,.slice a2 n2 c2]) h1 rfl hj rfl (by decide);have OW:(⟨g,0,none⟩:Addr).add ((j:Int).toNat*4)=⟨g,j*4,none⟩:=by rw[aE,dW,aR]
 refine⟨g,rfl,by rw[OW],by rw[OW],fun k hk=>by rw[OW];exact OI k hk,fun w2 PE=>?_⟩;rw[OW]at PE;subst PE;have UT:=iL (cs:=[.bool b,.slice a1 n1 c1,.bool b2,.slice a2 n2 c2]) h3.vq (show j<css.length by omega);rw[UT]at QD;have Pk:∀x,S x->(setCells w ⟨g,j*4,none⟩ [.bool b,.slice a1 n1 c1,.bool b2,.slice a2 n2 c2]).heap[x]? =w.heap[x]? :=fun x hx=>
  PW.block x (hS x hx) fun e=>hoff g rfl (by injection e with e;rw[<-e];exact hx)
 exact⟨⟨_,QD,by simpa using h2,(h3.cH Pk).set (hf.cH Pk).pD⟩,PW,OX⟩
structure dP(w:World)(S:Nat->Prop)(B:Nat)(iv:Iv)(v:Value)(n:Nat)(qs:List Rat):Prop where
 row:iV w (fun g=>Cv S B iv g∧v.ownBlock≠some g) v n qs
 new:∀g,v.ownBlock=some g->Cv FF B iv g
theorem dP.cH(h:dP w S B iv v n qs)(hk:∀g,Cv S B iv g->w2.heap[g]? =w.heap[g]?):dP w2 S B iv v n qs:=
 ⟨h.row.cH fun g hg=>hk g (hg.elim (fun h=>h.1) fun hg=>(h.new g hg).elim (fun h=>h.elim) .inr),h.new⟩
theorem dP.rel(h:dP w S B iv v n qs)(r:Rel H nx iv B w O w')(hS:∀g,S g->g<B):dP w' S B iv v n qs:=h.cH fun _ hg=>Rel.same r hS hg
theorem dP.cF(h:dP w S B iv v n qs)(r:Rel H nx iv B w O w')(hS:∀g,S g->g<B)(he:Ext w' w2)(hm:∀p,p∈iv->p∈iv'):dP w2 S B iv' v n qs:=
 have h2:=(h.rel r hS).cH fun g hg=>he.block g (Rel.old r hS g hg)
 ⟨h2.row.cI fun _ hg=>⟨hg.1.mono hm,hg.2⟩,fun g hg=>(h2.new g hg).mono hm⟩
theorem dP.dA(h:dP w2 FF w'.heap.size [(w'.heap.size,w2.heap.size)] v n qs)(hB:B<=w'.heap.size)(hm:(w'.heap.size,w2.heap.size)∈iv):dP w2 S B iv v n qs:=by
 have key:∀g {X:Nat->Prop},Cv FF w'.heap.size [(w'.heap.size,w2.heap.size)] g->Cv X B iv g:=fun g X hg=>by
  rcases hg with hg|⟨h1,lo,hi,h2,h3,h4⟩
  ·exact hg.elim
  ·simp at h2;obtain⟨rfl,rfl⟩:=h2;exact .inr ⟨by omega,_,_,hm,h3,h4⟩
 exact⟨h.row.cI fun g hg=>⟨key g hg.1,hg.2⟩,fun g hg=>key g (h.new g hg)⟩
theorem dP.out{w0 w1:World}(h:dP w1 FF w0.heap.size iv v n qs)(r:Rel H nx iv w0.heap.size w1 O w'):dP w' FF w0.heap.size [(w0.heap.size,w'.heap.size)] v n qs:=by
 have h2:=h.rel r (cB w0);have key:∀g,Cf w0 iv g->Cf w0 [(w0.heap.size,w'.heap.size)] g:=fun g hg=>by
  rcases hg with hg|⟨h1,lo,hi,h2,h3,h4⟩
  ·exact hg.elim
  ·exact .inr ⟨h1,_,_,bB.2 rfl,h1,by have:=r.qd lo hi h2;have:=r.size;omega⟩
 exact⟨h2.row.cI fun g hg=>⟨key g hg.1,hg.2⟩,fun g hg=>key g (h2.new g hg)⟩
theorem dP.read(h:dP w S B iv v n qs):gL w (Cv S B iv) (Cv S B iv) v qs:=
 h.row.read.cI (fun g hg=>(h.new g hg).elim (fun h=>h.elim) .inr) fun _ hg=>hg.1
end
section
variable{S S':Nat->Prop}{H:Hp}{nx n:Nat}{iv iv':Iv}{B:Nat}{w w' w2:World}{O:Nat->Sx.dg}{v:Value}{qs:List Rat}
theorem dP.store{c n1 c1 n2 c2:Nat}{b b2:Bool}(h:dP w' S B iv (.slice a n c) n qs)(hj:j<n)(hf:cU w' (fun g=>Cv S B iv g∧(Value.slice a n c).ownBlock≠some g) (.agg #[.bool b,.slice a1 n1 c1,.bool b2,.slice a2 n2 c2]) q)
  (r:Rel H nx iv B w O w') (hS:∀g,S g->g<B):
  ∃g,a=some ⟨g,0,none⟩∧((⟨g,0,none⟩:Addr).add ((j:Int).toNat*4)).spot=none∧
   (∀k,k<4->(w'.cell? (((⟨g,0,none⟩:Addr).add ((j:Int).toNat*4)).add k)).isSome=true∧w'.frozen? (((⟨g,0,none⟩:Addr).add ((j:Int).toNat*4)).add k)=false)∧
   (∀id b,dC H id=some b->(O id).nil=false->(O id).g≠((⟨g,0,none⟩:Addr).add ((j:Int).toNat*4)).block)∧Cv FF B iv g∧
   ∀w2,w2=setCells w' ((⟨g,0,none⟩:Addr).add ((j:Int).toNat*4)) [.bool b,.slice a1 n1 c1,.bool b2,.slice a2 n2 c2]->dP w2 S B iv (.slice a n c) n (qs.set j q)∧w'.grownBy w2 (some g)∧w2.heap.size=w'.heap.size:=by
 obtain⟨g,rfl,h1,h2,h3,h4⟩:=h.row.store hj hf (fun g hg hx=>hx.2 hg) (fun x hx=>Rel.old r hS x hx.1);refine⟨g,rfl,h1,h3,fun id b hb hn=>by rw[h2];exact Rel.not r hS (ui (h.new g rfl)) id b hb hn,h.new g rfl,fun w2 PE=>?_⟩;obtain⟨k1,k2,k3⟩:=h4 w2 PE;exact⟨⟨k1,h.new⟩,k2,k3⟩
end
end Go.Ex
namespace Go.Sx
open Go Go.Ex Go.Proofs
variable{cs:List Value}{O:Nat->Sx.dg}
theorem Sub.jl{B:Nat}{l tl:Env}{nx:Nat}{H tH:Hp}{iv:Iv}{w w':World}{id t n c:Nat}{e:TypeId}(r:Rel H nx iv B w O w')(Om:dC H id=some (.arr e cs))(ht:fM l t=some (.o (.s id 0 n c)))
  (hs:uo H tH) (ho:Dz id tH=true) (h1:EK l tl) (h2:jX nx tl):
  Sub B l nx O w' ⟨(t,.o (.v (.slice (some ⟨(O id).g,0,none⟩) n c)))::tl,tH,nx,((O id).g,(O id).g+1)::iv,w'⟩:=by
 refine⟨O,r.free Om (by simp) (r.fits Om).1 hs ho,fun u v hv=>?_⟩;rw[eS]at hv;split at hv
 ·rename_i e;subst e;injection hv with hv;subst hv;exact⟨trivial,_,ht,rfl⟩
 ·exact⟨h2.get u v hv,v,h1.get u v hv,rfl⟩
end Go.Sx
namespace Go.Ex
open Go Go.Sx Go.Proofs
end Go.Ex
namespace Go.Ex
open Go Go.Sx Go.Proofs
variable{H:Hp}{iv:Iv}{css:List (List Value)}{ps:List Nat}{qs:List Rat}{cs:List Value}{B nx:Nat}{S:Nat->Prop}{O:Nat->Sx.dg}{v:Value}{w w':World}
theorem OB{x:Nat}(hS:Old S w)(h:dH w S v ps):
  di PG N.CG #[v,.int .i64 x] w (dw w fun v' _=>v'= .bool (decide (x∈ps))):=by
 obtain⟨h0,h1,h2,a,c,rfl,hc,OS⟩:=h;unfold maxLen at h0;refine DR (by simp) ?_
 refine⟨Nat×World,fun z=>⟨[(0,sV a ps.length c),(1,iZ x),(5,iN z.1)],[],0,[],z.2⟩,fun z=>ps.length-z.1,
  fun z=>z.1<=ps.length∧dm w.heap.size w z.2∧∀(j:Nat) y,j<z.1->ps[j]? =some y->y≠x,?_,?_⟩
 ·intro O w' r;exact⟨(0,w'),⟨by simp,r.cP,fun j y hj=>by dsimp only at hj;omega⟩,Sub.gn [] r⟩
 rintro⟨i,w1⟩ ⟨hi,hw,ht⟩;dsimp only at hi hw ht ⊢;refine dM.mk ?_ ?_<;>intro OF
 ·have OF:i<ps.length:=by simpa using OF
  obtain⟨y,hy⟩:∃y,ps[i]? =some y:=⟨_,aB OF⟩
  obtain⟨ad,rfl,q1,q2⟩:=OS i (.int .i64 (y:Int)) (by rw[aM,hy];rfl);refine⟨ad,rfl,by omega,.int .i64 (y:Int),fun O w' r=>by rw[aE,aT];exact jv hS hw r q1 q2,?_⟩;refine dM.mk ?_ ?_<;>intro he
  ·have Tb:(y:Int)=x:=by simpa using he
   have Ub:y=x:=by omega
   intro O w2 r;exact⟨_,rfl,hw.tr r.cP,by rw[bS (by rw[<-Ub];exact aC hy)];rfl⟩
  have Tb:¬(y:Int)=x:=by simpa using he
  refine⟨((i+1:Nat):Int),wo,?_⟩;intro ρ3 w3 r3
  exact⟨(i+1,w3),⟨OF,hw.tr r3.cP,fun j z hj hz=>by
   by_cases Oy:j=i
   ·subst Oy;rw[hy]at hz;injection hz with hz;omega
   ·exact ht j z (by dsimp only at hj;omega) hz⟩,Sub.gn [] r3,by dsimp only;omega⟩
 have OF:i=ps.length:=aQ hi (by simpa using OF);intro O w2 r;refine⟨_,rfl,hw.tr r.cP,?_⟩
 rw[bI (fun hm=>by
  obtain⟨j,hj,e⟩:=List.mem_iff_getElem.1 hm
  exact ht j _ (by omega) (aB hj) e)]
 rfl
def dR(w:World)(S:Nat->Prop)(rv:List Value)(K:List (List Rat)):Prop:=rv.length=K.length∧(∀u∈rv,u.oneCell'=true)∧∀(i:Nat) u r,rv[i]? =some u->K[i]? =some r->cJ w S u r
section
variable{S S':Nat->Prop}{H:Hp}{nx:Nat}{iv iv':Iv}{B:Nat}{w w' w2:World}{O:Nat->Sx.dg}{rv:List Value}{K:List (List Rat)}
theorem dR.cH(h:dR w S rv K)(hk:∀g,S g->w2.heap[g]? =w.heap[g]?):dR w2 S rv K:=⟨h.1,h.2.1,fun i u x h1 h2=>cJ.cH (h.2.2 i u x h1 h2) hk⟩
theorem dR.cI(h:dR w S rv K)(hk:∀g,S g->S' g):dR w S' rv K:=⟨h.1,h.2.1,fun i u x h1 h2=>cJ.cI (h.2.2 i u x h1 h2) hk⟩
theorem dR.rel(h:dR w (Cv S B iv) rv K)(r:Rel H nx iv B w O w')(hS:∀g,S g->g<B):dR w' (Cv S B iv) rv K:=h.cH fun _ hg=>Rel.same r hS hg
theorem dR.cF(h:dR w (Cv S B iv) rv K)(r:Rel H nx iv B w O w')(hS:∀g,S g->g<B)(he:Ext w' w2)(hm:∀p,p∈iv->p∈iv'):dR w2 (Cv S B iv') rv K:=
 ((h.rel r hS).cH fun g hg=>he.block g (Rel.old r hS g hg)).cI fun _ hg=>hg.mono hm
theorem dR.push{u:Value}{x:List Rat}(h:dR w S rv K)(hu:u.oneCell'=true)(hx:cJ w S u x):dR w S (rv++[u]) (K++[x]):=by
 refine⟨by simp[h.1],fun v hv=>?_,fun i v y h1 h2=>?_⟩
 ·rcases bG.1 hv with hv|hv
  ·exact h.2.1 v hv
  ·simp at hv;subst hv;exact hu
 ·rcases aO i rv.length with hi|hi
  ·rw[aK hi]at h1;rw[aK (by rw[<-h.1];exact hi)]at h2;exact h.2.2 i v y h1 h2
  ·have RW:i=rv.length:=by have:=(aD.1 h1).1;simp at this;omega
   subst RW;rw[aN (aF _),bH]at h1;rw[h.1,aN (aF _),bH]at h2;simp at h1 h2;subst h1 h2;exact hx
end
theorem aAO(r:Rel H nx iv B w O w'){id n:Nat}(h:dC H id=some (.arr T.Rat css.flatten))(hl:css.length=n)(h4:∀cs∈css,cs.length=4)(hn:n<=maxLen):
  w'.ownsRow 0 T.Rat 4 (.slice (some ⟨(O id).g,0,none⟩) n n) n css.flatten:=by
 have hf:=eN h4;rw[hl]at hf;exact⟨hf,.inr ⟨(O id).g,n,css.flatten.toArray,rfl,aP _,r.arr id _ _ h,aF _,hn,by simpa using hf,by rw[<-hf];exact bC⟩⟩
theorem dP.jl(r:Rel H nx iv B w O w'){id n:Nat}(h:dC H id=some (.arr T.Rat css.flatten))(hl:css.length=n)(hn:n<=maxLen)(hc:Fc w (Cv FF B iv) css qs):
  dP w' S B (((O id).g,(O id).g+1)::iv) (.slice (some ⟨(O id).g,0,none⟩) n n) n qs:=by
 refine⟨⟨css,aAO r h hl hc.vq hn,hl,(hc.cH fun g hg=>Rel.same r (gV B) hg).cI fun g hg=>⟨?_,fun e=>?_⟩⟩,fun g hg=>?_⟩
 ·exact ui (hg.mono fun p hp=>List.mem_cons_of_mem _ hp)
 ·injection e with e;exact Rel.not r (gV B) hg id _ h (r.fits h).1 e
 ·injection hg with hg;subst hg;exact .inr ⟨(r.low id _ h (r.fits h).1).1,_,_,aG,aF _,bZ _⟩
theorem dP.aA6{n:Nat}(h:dP w S B iv v n qs):cJ w (Cv S B iv) v qs:=by
 obtain⟨css,h1,h2⟩:=h.read;exact⟨css,h1,h2.1,h2.vq,h2.2⟩
def jE(w:World)(S:Nat->Prop)(css:List (List Value))(k:Nat):Prop:=∀(j:Nat) cs,j<k->css[j]? =some cs->iK w S cs 0
theorem jE.rel{k:Nat}(h:jE w (Cv S B iv) css k)(r:Rel H nx iv B w O w')(hS:∀g,S g->g<B):jE w' (Cv S B iv) css k:=fun j cs h1 h2=>(h j cs h1 h2).cH fun _ hg=>Rel.same r hS hg
theorem jE.cF{iv':Iv}{w2:World}{k:Nat}(h:jE w (Cv S B iv) css k)(r:Rel H nx iv B w O w')(hS:∀g,S g->g<B)(he:Ext w' w2)(hm:∀p,p∈iv->p∈iv'):jE w2 (Cv S B iv') css k:=fun j cs h1 h2=>
 (((h.rel r hS) j cs h1 h2).cH fun g hg=>he.block g (Rel.old r hS g hg)).cI fun _ hg=>hg.mono hm
theorem jE.push{k:Nat}(h:jE w S css k)(hc:iK w S cs 0):jE w S (css.set k cs) (k+1):=fun j x hj hx=>by
 rw[List.getElem?_set]at hx;split at hx
 ·split at hx
  ·injection hx with hx;subst hx;exact hc
  ·cases hx
 ·exact h j x (by omega) hx
theorem Fg{k:Nat}(h:∀x∈css,x.length=4)(hc:cs.length=4):∀x∈css.set k cs,x.length=4:=fun x hx=>by
 rcases bJ hx with h1|h1
 ·exact h x h1
 ·rw[h1];exact hc
theorem jE.one{c n:Nat}(h:jE w S css n)(hl:css.length=n)(hc:iK w S cs 1):Fc w S (css.set c cs) ((List.replicate n 0).set c 1):=by
 refine⟨by simp[hl],fun j x q h1 h2=>?_⟩;rw[List.getElem?_set]at h1 h2;by_cases hj:c=j
 ·rw[if_pos hj]at h1 h2;split at h1
  ·split at h2
   ·injection h1 with h1;injection h2 with h2;subst h1 h2;exact hc
   ·cases h2
  ·cases h1
 ·rw[aL hj]at h1 h2;have hjn:j<n:=by have:=(aD.1 h1).1;omega
  rw[List.getElem?_replicate,if_pos hjn]at h2;injection h2 with h2;subst h2;exact h j x hjn h1
end Go.Ex
namespace Go.Ex
theorem Jx(s:List (List Rat)×List Nat)(c:Nat):(da s c).2=s.2∨(da s c).2=s.2++[c]:=by
 unfold da;split
 ·dsimp only
  split
  ·exact .inl rfl
  ·exact .inr rfl
 ·exact .inl rfl
theorem jA(M:List (List Rat)):∀c:Nat,(∀p∈((List.range c).foldl da (M,[])).2,p<c)∧(((List.range c).foldl da (M,[])).2).Pairwise (· < ·)∧((List.range c).filter fun j=>decide (j∉((List.range c).foldl da (M,[])).2)).length+((List.range c).foldl da (M,[])).2.length=c:=by
 intro c
 induction c with
 |zero=>simp
 |succ c ih=>
  rw[bT,List.foldl_append,List.foldl_cons,List.foldl_nil];generalize (List.range c).foldl da (M,[])=s at*
  obtain⟨h1,h2,h3⟩:=ih;have hc:c∉s.2:=fun h=>by have:=h1 c h;omega
  rcases Jx s c with e|e
  ·rw[e];refine⟨fun p hp=>by have:=h1 p hp;omega,h2,?_⟩;rw[List.filter_append,List.length_append];simp only[List.filter_cons,hc,not_false_eq_true,decide_true,if_true,List.filter_nil,List.length_singleton]
   omega
  ·rw[e];refine⟨fun p hp=>?_,?_,?_⟩
   ·rcases bG.1 hp with hp|hp
    ·have:=h1 p hp;omega
    ·simp at hp;omega
   ·rw[List.pairwise_append];exact⟨h2,by simp,fun a ha b hb=>by simp at hb;subst hb;exact h1 a ha⟩
   ·rw[List.filter_append,List.length_append];have:(List.range c).filter (fun j=>decide (j∉s.2++[c]))=(List.range c).filter (fun j=>decide (j∉s.2)):=List.filter_congr fun j hj=>by
     have:=List.mem_range.1 hj;have OH:j≠c:=by omega
     simp[OH]
    have h0:(([c]:List Nat).filter fun j=>decide (j∉s.2++[c])).length=0:=by simp
    rw[this,List.length_append,List.length_singleton,h0];omega
end Go.Ex
namespace Go.Ex
open Go Go.Sx Go.Proofs
variable{next:Act->World->Prop}{Q:Exit->Act->World->Prop}{K:KT}{cs:List Value}{O:Nat->Sx.dg}
section
variable{S S':Nat->Prop}{H:Hp}{nx:Nat}{iv iv':Iv}{B:Nat}{w w' w2:World}{O:Nat->Sx.dg}{v:Value}{M:List (List (Int×Int))}
end
theorem H7(x y:Rat):x-y+y=x:=by rw[Rat.sub_eq_add_neg,Rat.add_assoc,Rat.neg_add_cancel,bX]
theorem Dt(p q:Rat):p-q=0↔p=q:=by
 constructor
 ·intro h;have:=congrArg (· +q) h;simpa [H7,Rat.zero_add]using this
 ·intro h;rw[h,Rat.sub_self]
theorem NF{p q:Rat}:rs (p-q)=0↔p=q:=by rw[lD,Dt]
def eF(xs ys:List Rat):Nat->Rat
 |0=>0
 |i+1=>eF xs ys i+xs.getD i 0*ys.getD i 0
theorem qS{xs ys:List Rat}{h:Nat}(hx:∀q∈xs,rl q+1<=h)(hy:∀q∈ys,rl q+1<=h)(h2:2<=h):∀i:Nat,rl (eF xs ys i)<=2*h*i+2
 |0=>by rw[eF];exact aZ (by decide:rl 0<=2) (by omega)
 |i+1=>by
  have h3:=qS hx hy h2 i;have h4:=oO (eF xs ys i) (xs.getD i 0*ys.getD i 0);have h5:=j0 (xs.getD i 0) (ys.getD i 0);have h6:=Hz hx h2 i;have h7:=Hz hy h2 i;rw[eF,bV];omega
section
variable{S S':Nat->Prop}{H:Hp}{nx:Nat}{iv iv':Iv}{B:Nat}{w w' w2:World}{O:Nat->Sx.dg}{v:Value}{qs:List Rat}
end
section
variable{S S':Nat->Prop}{H:Hp}{nx:Nat}{iv iv':Iv}{B:Nat}{w w' w2:World}{O:Nat->Sx.dg}{v:Value}{M:List (List Rat)}
end
section
variable{S S':Nat->Prop}{H:Hp}{nx:Nat}{iv iv':Iv}{B:Nat}{w w' w2:World}{O:Nat->Sx.dg}{v:List Value}{M:List (List Rat)}
end
theorem nM(w:World)(t e:TypeId)(a:Option Addr)(n c n' c':Nat)(h:PG.underlying t=some (.slice e)):
  (binOp .eql t (.slice a n c) (.slice none n' c')).run PG w= .ok (.bool a.isNone) w:=by
 have:∀d,(Op.equalIn (d+1) t (.slice a n c) (.slice none n' c')).run PG w= .ok a.isNone w:=fun d=>by cases a<;>simp[Op.equalIn,run_underlying h]
 simp only[binOp]
 cases a<;>simp[Op.equal,Op.maxDepth,this 9999]
abbrev vmO(gm R:Nat):Value:=.slice (some ⟨gm,0,none⟩) R R
def Lm'(S:Nat->Prop)(B:Nat)(iv:Iv)(gm R:Nat)(rv:List Value)(g:Nat):Prop:=Cv S B iv g∧¬Mb (vmO gm R) rv g
structure aAi(w:World)(S:Nat->Prop)(B:Nat)(iv:Iv)(gm R n:Nat)(rv:List Value)(M:List (List Rat)):Prop where
 mat:aAZ w (Lm' S B iv gm R rv) (vmO gm R) rv n M
 yX:∀g,Mb (vmO gm R) rv g->Cv FF B iv g
 rows:rv.length=R
section
variable{S S':Nat->Prop}{H:Hp}{nx gm R n:Nat}{iv iv':Iv}{B:Nat}{w w' w2:World}{O:Nat->Sx.dg}{rv:List Value}{M:List (List Rat)}
structure aAs(w:World)(S:Nat->Prop)(B:Nat)(iv:Iv)(gm R n:Nat)(rv:List Value)(M:List (List Rat))(i:Nat)(vb:Value):Prop where
 out:w.ownsRow 0 T.row 1 (vmO gm R) R (rv.set i vb)
 was:∃w0,aAi w0 S B iv gm R n rv M∧∀g,Cv S B iv g->g≠gm->w.heap[g]? =w0.heap[g]?
end
section
variable{S:Nat->Prop}{H:Hp}{nx gm R:Nat}{iv iv':Iv}{B:Nat}{w w' w2:World}{O:Nat->Sx.dg}{rv:List Value}{css:List (List Value)}{qs:List Rat}
end
inductive Tp where
 |nil
 |x (i:Nat) (t:Tp)
 |two (i:Nat) (t:Tp) (j:Nat) (u:Tp)
 |jl (id:Nat) (t:Tp)
def ue(ops:Array Oper):Tp->Array Bool->Bool
 | .nil,lx=>(Region.ready .any ops lx).isEmpty
 | .x i t,lx=>match ops[i]? with
  |none=>false
  |some o=>(Region.ready .any ops lx).contains i&&((Region.ready .any ops lx).all (fun j=>Nat.beq j i)||sw o.op&&EC ops (iS lx.toList 0) [] i o)&&ue ops t (lx.setIfInBounds i true)
 | .two i t j u,lx=>match Region.ready .any ops lx with
  |[a,b]=>Nat.beq a i&&(Nat.beq b j&&(ue ops t (lx.setIfInBounds i true)&&ue ops u (lx.setIfInBounds j true)))
  |_=>false
 | .jl _ t,lx=>ue ops t lx
def Jb(P:Program)(τ:nH)(B:Nat)(all:List Oper):Tp->Env->Hp->Nat->Iv->World->KT->Prop
 | .nil,l,H,nx,iv,w,K=>K l H nx iv w
 | .x i t,l,H,nx,iv,w,K=>nm all i (fun o=>fX (!fC o) P τ B all o l H nx iv w (fun l' H' OL iv' w'=>Jb P τ B all t l' H' OL iv' w' K))
 | .two i t j u,l,H,nx,iv,w,K=>nm all i (fun o=>fX (!fC o) P τ B all o l H nx iv w (fun l' H' OL iv' w'=>Jb P τ B all t l' H' OL iv' w' K))∧
   nm all j (fun o=>fX (!fC o) P τ B all o l H nx iv w (fun l' H' OL iv' w'=>Jb P τ B all u l' H' OL iv' w' K))
 | .jl id t,l,H,nx,iv,w,K=>∃H' b,dC H id=some b∧b≠ .dead∧uo H H'∧Dz id H'=true∧∀O w',Rel H nx iv B w O w'->(O id).nil=false∧∃l',(∀u v,fM l' u=some v->v.sc nx∧∃v',fM l u=some v'∧v'.den O=v.den O)∧Jb P τ B all t l' H' nx (((O id).g,(O id).g+1)::iv) w' K
section
variable{P:Program}{τ:nH}{ops:Array Oper}{B n nx:Nat}{l:Env}{H:Hp}{iv:Iv}{w w':World}{O:Nat->Sx.dg}{a:Act}
theorem Lq(hτ:fJ P τ)(OI:∀(j:Nat) o,ops[j]? =some o->∀d,o.dst=some d->d<n){i:Nat}
  (h:nm ops.toList i (fun o=>fX (!fC o) P τ B ops.toList o l H nx iv w K)) (sat:Sat n l H nx iv B w O a w')
  (hn:∀l' H' OL iv' w2 ρ' a' w3,K l' H' OL iv' w2->Sat n l' H' OL iv' B w2 ρ' a' w3->next a' w3):
  wpOp P ops Q i (fun a' w2=>((∀o,ops[i]? =some o->pE o=false)->Ext w' w2)∧next a' w2) a w':=by
 obtain⟨o,ho,h1⟩:=gA h;rw[bA]at ho;have hd:=OI i o ho;unfold fX at h1;refine mL ho ?_;rcases ix sat h1 with⟨hw,l1,h2,sat1⟩|⟨hw,l1,h2,sat1⟩
 ·refine .inl ⟨hw,?_⟩
  cases hR:sw o.op with
  |true=>
   obtain⟨v,hK,Q8,ON⟩:=(j3 hτ h2 sat1 hR).resolve_right (fun hh=>by have:=hh.1;rw[lK hR]at this;cases this);obtain⟨l2,h3,sat2⟩:=ei sat1 hK hd Q8;exact k9 (ON w' (.inr sat1.rel)) ⟨fun _=>Ext.refl _,hn _ _ _ _ _ _ _ _ h3 sat2⟩
  |false=>
   cases hA:Jg o.op with
   |true=>
    obtain⟨b,v,mk,obj,hK,Oe,hb,hv,TU,Pn,UB⟩:=lJ hτ h2 sat1 hA;have Ol:Rel ((nx,b)::H) (nx+1) iv B w (Sx.gO O nx ⟨w'.heap.size,0,false⟩) (w'.alloc obj):=
     sat1.rel.push b _ rfl rfl rfl (by simp) (fun k hk=>heap_alloc_old _ _ hk) (fun _=>⟨aF _,by simp⟩) (Pn _ _ (heap_alloc_new _ _)) hb
    obtain⟨l2,h3,sat2⟩:=ei (sat1.next Ol (Nat.le_succ _) (fun id Om=>gC id Om)) hK hd hv;rw[TU]at sat2;exact k9 (v:=mk w'.heap.size) (w2:=w'.alloc obj) (UB w') ⟨fun _=>Ext.alloc _ _,hn _ _ _ _ _ _ _ _ h3 sat2⟩
   |false=>
    cases hH:pE o with
    |false=>
     rw[mr hH]at h2;refine sB h2 sat1 hR hA hH fun v w2 hK he hs=>⟨fun _=>he,?_⟩
     obtain⟨l2,h3,sat2⟩:=ei (v:=.o (.v v)) hs hK hd trivial;exact hn _ _ _ _ _ _ _ _ h3 sat2
    |true=>
     refine lL hτ h2 sat1 fun v H' OL iv' w2 ρ' w3 hK sat2 hv=>⟨fun hs=>(by rw[hs o ho]at hH;cases hH),?_⟩
     obtain⟨l2,h3,sat3⟩:=ei sat2 hK hd hv;exact hn _ _ _ _ _ _ _ _ h3 sat3
 ·obtain⟨l2,h4,sat3⟩:=ei sat1 h2 hd trivial;exact .inr ⟨hw,fun _=>Ext.refl _,hn _ _ _ _ _ _ _ _ h4 sat3⟩
theorem mH(hτ:fJ P τ)(OI:∀(j:Nat) o,ops[j]? =some o->∀d,o.dst=some d->d<n)(OV:∀(j:Nat) (o:Oper) cs b,ops[j]? =some o->o.op≠ .select cs b){K:KT}{Q0:Act->World->Prop}
  (hQ:∀l' H' OL iv' w2 ρ' a' w3,K l' H' OL iv' w2->Sat n l' H' OL iv' B w2 ρ' a' w3->Q0 a' w3):
  ∀(t:Tp) (fuel:Nat) (la:Array Bool) (l:Env) (H:Hp) (nx:Nat) (iv:Iv) (w:World) (O:Nat->Sx.dg) (a:Act) (w':World),Lz la<=fuel->la.size=ops.size->ue ops t la=true->Jb P τ B ops.toList t l H nx iv w K->Sat n l H nx iv B w O a w'->sA P .any ops (QN Q0) fuel la a w'
 | .nil,fuel,la,l,H,nx,iv,w,O,a,w',_,_,hc,h,s=>by
  simp only[ue,List.isEmpty_iff]at hc;exact wN hc ⟨rfl,hQ _ _ _ _ _ _ _ _ h s⟩ fuel
 | .x i t,fuel,la,l,H,nx,iv,w,O,a,w',hf,hz,hc,h,s=>by
  unfold ue at hc;obtain⟨o,ho,h1⟩:=gA h;rw[bA]at ho;simp only[ho,a9,Bool.or_eq_true]at hc;obtain⟨⟨c1,c2⟩,c3⟩:=hc;have c1:i∈Region.ready .any ops la:=by simpa using c1
  obtain⟨Pc,-⟩:=eH.1 c1;have Tt:=jU Pc;obtain⟨f,rfl⟩:∃f,fuel=f+1:=⟨fuel-1,by omega⟩
  have Ox:(la.setIfInBounds i true).size=ops.size:=by rw[bO,hz]
  rcases c2 with c2|⟨hR,c4⟩
  ·refine⟨fun h0=>(by rw[h0]at c1;cases c1),fun j hj=>?_⟩;have Oy:j=i:=eI (List.all_eq_true.1 c2 j hj);subst Oy;exact Lq hτ OI h s fun _ _ _ _ _ _ _ _ hk hs=>mH hτ OI OV hQ t f _ _ _ _ _ _ _ _ _ (by omega) Ox c3 hk hs
  ·obtain⟨yX,Of,QI,hb3,RV⟩:=yW c4 hz;unfold fX at h1;have hd:=OI i o ho;rcases ix s h1 with⟨hw,l1,h2,sat1⟩|⟨hw,l1,h2,sat1⟩
   ·obtain⟨v,hK,Q8,ON⟩:=(j3 hτ h2 sat1 hR).resolve_right (fun hh=>by have:=hh.1;rw[lK hR]at this;cases this);obtain⟨l2,h3,sat2⟩:=ei sat1 hK hd Q8;refine kv (pu:=GL o.op) (v:=v.den O) ho OV (fun c a w hq=>absurd hq.1 (by simp)) yX Of f la a w' QI RV c1 (.inl ⟨hw,fun w3 he=>ON w3 (he.imp id fun he=>sat1.rel.ext he)⟩) ?_;exact mH hτ OI OV hQ t f _ _ _ _ _ _ _ _ _ (by omega) Ox c3 h3 sat2
   ·obtain⟨l2,h3,sat2⟩:=ei (v:=.o (.v undef)) sat1 h2 hd trivial;refine kv (pu:=GL o.op) (v:=undef) ho OV (fun c a w hq=>absurd hq.1 (by simp)) yX Of f la a w' QI RV c1 (.inr ⟨hw,rfl⟩) ?_;exact mH hτ OI OV hQ t f _ _ _ _ _ _ _ _ _ (by omega) Ox c3 h3 sat2
 | .two i t k u,fuel,la,l,H,nx,iv,w,O,a,w',hf,hz,hc,h,s=>by
  simp only[ue]at hc;split at hc
  ·rename_i x y hr;simp only[a9]at hc;obtain⟨c1,c2,c3,c4⟩:=hc;have hx:=bQ c1;have hy:=bQ c2;subst hx;subst hy;obtain⟨h1,h2⟩:=h;have Ri:x∈Region.ready .any ops la:=by rw[hr];simp
   have Tf:y∈Region.ready .any ops la:=by rw[hr];simp
   have u1:=jU (eH.1 Ri).1;have u2:=jU (eH.1 Tf).1;obtain⟨f,rfl⟩:∃f,fuel=f+1:=⟨fuel-1,by omega⟩
   refine⟨fun h0=>(by rw[hr]at h0;cases h0),fun j hj=>?_⟩;rw[hr,List.mem_cons,bB]at hj;rcases hj with rfl|rfl
   ·exact Lq hτ OI h1 s fun _ _ _ _ _ _ _ _ hk hs=>mH hτ OI OV hQ t f _ _ _ _ _ _ _ _ _ (by omega) (by rw[bO,hz]) c3 hk hs
   ·exact Lq hτ OI h2 s fun _ _ _ _ _ _ _ _ hk hs=>mH hτ OI OV hQ u f _ _ _ _ _ _ _ _ _ (by omega) (by rw[bO,hz]) c4 hk hs
  ·cases hc
 | .jl id t,fuel,la,l,H,nx,iv,w,O,a,w',hf,hz,hc,h,s=>by
  obtain⟨H',b,Om,hd,hs,ho,h⟩:=h;obtain⟨hn,l',hl,h⟩:=h _ _ s.rel;exact mH hτ OI OV hQ t fuel la l' H' nx _ w' O a w' hf hz hc h ⟨s.rel.free Om hd hn hs ho,s.size,s.defers,fun u v hv=>by obtain⟨-,v',h1,h2⟩:=hl u v hv;rw[<-h2];exact s.env u v' h1,fun u v hv=>(hl u v hv).1⟩
theorem GD(hτ:fJ P τ)(hm:P.follows .mixedOrders=true)(t:Tp)(hs:Region.noSelect ops=true)(hc:ue ops t (Array.replicate ops.size false)=true)
  (h:Jb P τ B ops.toList t l H nx iv w K):uj P B ops l H nx iv w K:=by
 refine⟨fun n O a w' OI sat Q hQ id=>?_⟩;refine wp_mono (Q':=Q) (c:=.region id ops true) (wp_region_any (Q:=QN (Q .normal)) hm (sC _ _ _ _ ?_)) (fun e a w hq=>by obtain⟨rfl,hq⟩:=hq;exact hq);refine mH hτ (fun j o ho d hd=>?_) (Region.noSelect_spec hs) hQ t _ _ _ _ _ _ _ O _ _ ?_ (by simp) hc h ⟨sat.rel.drew,sat.size,sat.defers,sat.env,sat.sc⟩
 ·have:=List.all_eq_true.1 OI o (aC (by rw[bA];exact ho));rw[hd]at this;have h5:d+1<=n:=by simpa [Nat.blt]using this
  exact h5
 ·unfold Lz;refine aZ List.countP_le_length ?_;simp
end
theorem jR{l tl:Env}{nx t id n:Nat}(hn:(O id).nil=false)(ht:fM l t=some (.o (.w id n)))(h1:EK l tl)(h2:jX nx tl):∀u v,fM ((t,.o (.v (.slice (some ⟨(O id).g,0,none⟩) n (O id).cap)))::tl) u=some v->v.sc nx∧∃v',fM l u=some v'∧v'.den O=v.den O:=fun u v hv=>by
 rw[eS]at hv;split at hv
 ·rename_i e;subst e;injection hv with hv;subst hv;exact⟨trivial,_,ht,by simp[SV.den,At.den,hn]⟩
 ·exact⟨h2.get u v hv,v,h1.get u v hv,rfl⟩
theorem oa{H:Hp}{nx:Nat}{iv:Iv}{B:Nat}{w w':World}(r:Rel H nx iv B w O w'){id t m sz:Nat}(h:dC H id=some (.vec t sz cs))(hm:cs.length=m*sz)(Ri:m<=maxLen)(hs:0<sz)(h0:0<m)(h1:∀u∈cs,u.oneCell'=true):
  (O id).nil=false∧B<=(O id).g∧iM w' (fun g=>g=(O id).g) sz (.slice (some ⟨(O id).g,0,none⟩) m (O id).cap) cs m:=by
 rcases r.vec id t sz _ h with⟨hn,rfl⟩|⟨hn,spare,hb,hc,Qb⟩
 ·have:=Nat.mul_pos h0 hs;simp at hm;omega
 ·refine⟨hn,(r.low id _ h hn).1,Ri,hm,h1,some ⟨(O id).g,0,none⟩,(O id).cap,rfl,?_,fun j x hx=>⟨_,rfl,rfl,?_⟩⟩
  ·have h1:(cs++spare).length=cs.length+spare.length:=List.length_append;have h2:m*sz<=(O id).cap*sz:=by omega
   exact bm h2 hs
  ·rw[dW,cell_of hb,aR,aK (aD.1 hx).1];exact hx
end Go.Ex
namespace Go.Ex
section
variable{M:List (List Rat)}{b:List Rat}{n:Nat}
def dJ(M:List (List Rat))(b:List Rat):List (List Rat):=M.mapIdx fun i r=>r++[b.getD i 0]
theorem ga(hl:fg n M):fg (n+1) (dJ M b):=fun r hr=>by
 obtain⟨i,hi⟩:=aS hr;unfold dJ at hi;rw[List.getElem?_mapIdx]at hi
 cases hx:M[i]? with
 |none=>rw[hx]at hi;cases hi
 |some x=>
  rw[hx]at hi;injection hi with hi;subst hi;rw[List.length_append,hl x (aC hx)];rfl
theorem eB:(dJ M b).length=M.length:=by simp[dJ]
end
end Go.Ex
namespace Go.Ex
open Go Go.Sx Go.Proofs
variable{K M:List (List Rat)}{rv:List Value}{S:Nat->Prop}{q:Rat}{u:Value}{w:World}
theorem gX.cI{S':Nat->Prop}(h:gX w S rv K)(hk:∀g,S g->S' g):gX w S' rv K:=⟨h.1,h.2.1,fun i u x h1 h2=>cR.cI (h.2.2 i u x h1 h2) hk⟩
theorem gX.push{x:List Rat}(h:gX w S rv K)(hu:u.oneCell'=true)(hx:cR w S u x):gX w S (rv++[u]) (K++[x]):=by
 refine⟨by simp[h.1],fun v hv=>?_,fun i v y h1 h2=>?_⟩
 ·rcases bG.1 hv with hv|hv
  ·exact h.2.1 v hv
  ·simp at hv;subst hv;exact hu
 ·rcases aO i rv.length with hi|hi
  ·rw[aK hi]at h1;rw[aK (by rw[<-h.1];exact hi)]at h2;exact h.2.2 i v y h1 h2
  ·have RW:i=rv.length:=by have:=(aD.1 h1).1;simp at this;omega
   subst RW;rw[aN (aF _),bH]at h1;rw[h.1,aN (aF _),bH]at h2;simp at h1 h2;subst h1 h2;exact hx
theorem LP{v:Value}{b:List Rat}(hS:Old S w)(h:dF w S v M)(hu:cR w S u b)(Pg:b.length=M.length)(OG:∀r∈M,r.length<=1000)(hR:M.length<=1000):
  di PG N.xG #[v,u] w (dw w fun v' w2=>dF w2 (Nw S w w2) v' (dJ M b)):=by
 have hw:=bR w;replace h:=dF.arg h [];replace hu:=cR.arg hu [];obtain⟨am,cm,rfl,Rb,-⟩:=dD.shape h;obtain⟨ab,cb,rfl,Pv,-⟩:=cY.shape hu;refine AJ (by simp) ?_
 refine⟨Nat×List Value×World×Iv,fun z=>⟨[(0,sV am M.length cm),(1,sV ab b.length cb),(5,.o (.w 0 z.2.1.length)),(6,iN z.1)],[(0,.vec T.fU 1 z.2.1)],1,z.2.2.2,z.2.2.1⟩,fun z=>M.length-z.1,
  fun z=>z.1<=M.length∧dm w.heap.size w z.2.2.1∧dF z.2.2.1 (Cv S w.heap.size z.2.2.2) (.slice am M.length cm) M∧cR z.2.2.1 (Cv S w.heap.size z.2.2.2) (.slice ab b.length cb) b∧gX z.2.2.1 (Cv S w.heap.size z.2.2.2) z.2.1 ((dJ M b).take z.1),?_,?_⟩
 ·intro O w' r
  exact⟨(0,[],w',[]),⟨aP _,hw.tr r.cP,dF.rel h r hS,cR.rel hu r hS,by simp[gX]⟩,Sub.nil 5 T.fU 1 rfl (by simp[jX,SV.sc,At.sc,fT]) r fun ρ1 r1=>
   Sub.gn [] r1⟩
 rintro⟨i,rv,w1,iv⟩ ⟨hi,hw,h,hu,hK⟩;dsimp only at hi hw h hu hK ⊢;have Ok:rv.length=i:=by rw[hK.1,aW,eB];omega
 refine dM.mk ?_ ?_<;>intro OF
 ·have OF:i<M.length:=by simpa using OF
  obtain⟨x,hx⟩:∃r,M[i]? =some r:=⟨_,aB OF⟩
  have PO:=OG x (aC hx);obtain⟨q,hq⟩:∃r,b[i]? =some r:=⟨_,aB (by omega)⟩
  have Tx:b.getD i 0=q:=by rw[List.getD,hq];rfl
  have OO:(dJ M b).take (i+1)=(dJ M b).take i++[x++[q]]:=by
   rw[List.take_add_one,show(dJ M b)[i]? =some (x++[q]) by rw[dJ,List.getElem?_mapIdx,hx,<-Tx];rfl];rfl
  obtain⟨adm,um,Qs,PK,km1,km2⟩:=dD.load h hx;obtain⟨css,⟨-,g1,g2,a0,c0,rfl,g4,g5⟩,PV,Qt,Ov⟩:=PK;have OY:=eN Qt;obtain⟨adq,cs,Sm,hF,_,hl⟩:=cY.load hu hq;obtain⟨b3,a3,n3,c3,b4,a4,n4,c4,rfl,hF⟩:=hF;have SE:([]++css.flatten++([.bool b3,.slice a3 n3 c3,.bool b4,.slice a4 n4 c4]:List Value)).length=(x.length+1)*4:=by rw[List.nil_append,List.length_append,g1];simp;omega
  have SF:∀u∈[]++css.flatten++([.bool b3,.slice a3 n3 c3,.bool b4,.slice a4 n4 c4]:List Value),u.oneCell'=true:=fun u hu=>by
   rw[List.nil_append]at hu;rcases bG.1 hu with hu|hu
   ·exact g2 u hu
   ·simp at hu;rcases hu with rfl|rfl|rfl|rfl<;>rfl
  have SG:∀{H nx O w' g c OJ},Rel H nx iv w.heap.size w1 O w'->w.heap.size<=g->iM w' (fun y=>y=g) 4 (.slice (some ⟨g,0,none⟩) (x.length+1) c) ([]++css.flatten++([.bool b3,.slice a3 n3 c3,.bool b4,.slice a4 n4 c4]:List Value)) (x.length+1)->(g,g+1)∈OJ::iv->
    cR w' (Cv S w.heap.size (OJ::iv)) (.slice (some ⟨g,0,none⟩) (x.length+1) c) (x++[q]):=by
   intro H nx O w' g c OJ r hg hs hm;have hk:∀y,Cv S w.heap.size iv y->Cv S w.heap.size (OJ::iv) y:=fun y hy=>hy.mono fun p hp=>List.mem_cons_of_mem _ hp;refine⟨css++[[.bool b3,.slice a3 n3 c3,.bool b4,.slice a4 n4 c4]],?_,by simp[PV],fun cs hc=>?_,fun j cs y k1 k2=>?_⟩
   ·rw[List.nil_append]at hs;rw[List.length_append,List.length_singleton,List.flatten_append];simp only[List.flatten_cons,List.flatten_nil,List.append_nil]
    exact hs.cI fun y hy=>.inr ⟨by omega,g,g+1,hm,by omega,by omega⟩
   ·rcases bG.1 hc with hc|hc
    ·exact Qt cs hc
    ·rw[bB.1 hc];rfl
   ·rcases aO j css.length with hj|hj
    ·rw[aK hj]at k1;rw[aK (by omega)]at k2;exact((Ov j cs y k1 k2).cH fun y hy=>Rel.same r hS hy).cI hk
    ·have Uv:j=css.length:=by have:=(aD.1 k1).1;simp at this;omega
     rw[Uv,aN (aF _),bH]at k1;rw[Uv,PV,aN (aF _),bH]at k2;simp at k1 k2;rw[<-k1,<-k2];exact⟨_,_,_,_,_,_,_,_,rfl,(hF.cH fun y hy=>Rel.same r hS hy).cI hk⟩
  refine GD hτ dZ (.x 0 (.x 2 (.x 3 (.x 4 (.x 5 (.x 7 (.x 8 (.x 9 (.two 1 (.two 6 (.x 10 (.x 11 (.x 12 (.jl 4 (.x 13 (.x 14 (.x 15 .nil))))))) 10 (.two 6 (.x 11 (.x 12 (.jl 4 (.x 13 (.x 14 (.x 15 .nil)))))) 11 (.x 6 (.x 12 (.jl 4 (.x 13 (.x 14 (.x 15 .nil)))))))) 10 (.two 1 (.two 6 (.x 11 (.x 12 (.jl 4 (.x 13 (.x 14 (.x 15 .nil)))))) 11 (.x 6 (.x 12 (.jl 4 (.x 13 (.x 14 (.x 15 .nil))))))) 11 (.x 1 (.x 6 (.x 12 (.jl 4 (.x 13 (.x 14 (.x 15 .nil))))))))))))))))) (by kernel_rfl) (by kernel_rfl) ?_;refine⟨adm,Qs,by omega,.slice a0 x.length c0,fun O w' r=>?_,?_⟩
  ·rw[aE,cG (w:=w1) (w2:=w') (by rw[dE];exact Rel.same r hS km1)];exact km2
  refine⟨adq,Sm,by omega,?_,?_⟩
  ·refine⟨?_,?_⟩
   ·refine .inl ?_;refine⟨css.flatten,g1,g2,fun O w' r Ot=>?_,?_⟩
    ·obtain⟨u0,Rl⟩:∃u,css.flatten[0]? =some u:=⟨_,aB (by omega)⟩
     obtain⟨ad,ha,_,_⟩:=g5 0 u0 Rl;refine⟨ad,ha,fun j u hj=>?_⟩;obtain⟨ad2,Oq,q1,q2⟩:=g5 j u hj;rw[ha]at Oq;injection Oq with Oq;subst Oq;rw[cG (w:=w1) (w2:=w') (by rw[dE];exact Rel.same r hS q1)];exact q2
    refine⟨rfl,by omega,by unfold maxLen;omega,?_⟩;rw[aR x.length];refine⟨[.bool b3,.slice a3 n3 c3,.bool b4,.slice a4 n4 c4],rfl,fun O w' r j u hu=>?_,?_⟩
    ·obtain⟨k1,k2⟩:=hl j u hu;rw[aE,cG (w:=w1) (w2:=w') (by rw[dE,dE];exact Rel.same r hS k1)];exact k2
    refine .inl ?_;refine⟨by rw[<-g1];rfl,by omega,by unfold maxLen;omega,[(0,.vec T.fU 1 rv)],_,rfl,by simp,⟨rfl,trivial⟩,rfl,fun O w' r=>?_⟩;have hv:=oa r (id:=4) (sz:=4) (m:=x.length+1) rfl SE (by unfold maxLen;omega) (by decide) (by omega) SF;refine⟨hv.1,_,jR (tl:=[(13,.o (.w 0 rv.length)),(0,sV am M.length cm),(1,sV ab b.length cb),(6,iN i)]) hv.1 (t:=25) (n:=x.length+1) rfl ⟨rfl,rfl,rfl,rfl,trivial⟩ (by simp[jX,SV.sc,At.sc]),?_⟩;have Ps:=SG r hv.2.1 hv.2.2 aG;replace hK:=(gX.cI (hK.rel r hS) (fun g hg=>hg.mono fun p hp=>List.mem_cons_of_mem _ hp)).push rfl Ps;replace h:=dF.cI (dF.rel h r hS) fun g hg=>hg.mono fun p hp=>List.mem_cons_of_mem ((O 4).g,(O 4).g+1) hp;replace hu:=cR.cI (cR.rel hu r hS) fun g hg=>hg.mono fun p hp=>List.mem_cons_of_mem ((O 4).g,(O 4).g+1) hp;rw[<-OO]at hK;replace hw:=hw.tr r.cP;generalize (O 4).g=gx at*
    generalize (O 4).cap=cx at*
    generalize (gx,gx+1)::iv=OJ at*
    refine .inl ?_;refine⟨by simp,by omega,by unfold maxLen;omega,((i+1:Nat):Int),wo,?_⟩;intro ρ3 w3 r3;exact⟨(i+1,rv++[.slice (some ⟨gx,0,none⟩) (x.length+1) cx],w3,_),⟨OF,hw.tr r3.cP,dF.rel h r3 hS,cR.rel hu r3 hS,hK.rel r3 hS⟩,Sub.gn [(0,6)] r3 (hE:=⟨rfl,rfl,by dsimp only;rw[List.length_append,List.length_singleton];rfl,rfl,trivial⟩),by dsimp only;omega⟩
   ·refine⟨[.bool b3,.slice a3 n3 c3,.bool b4,.slice a4 n4 c4],rfl,fun O w' r j u hu=>?_,?_⟩
    ·obtain⟨k1,k2⟩:=hl j u hu;rw[aE,cG (w:=w1) (w2:=w') (by rw[dE,dE];exact Rel.same r hS k1)];exact k2
    refine⟨?_,?_⟩
    ·refine .inl ?_;refine⟨css.flatten,g1,g2,fun O w' r Ot=>?_,?_⟩
     ·obtain⟨u0,Rl⟩:∃u,css.flatten[0]? =some u:=⟨_,aB (by omega)⟩
      obtain⟨ad,ha,_,_⟩:=g5 0 u0 Rl;refine⟨ad,ha,fun j u hj=>?_⟩;obtain⟨ad2,Oq,q1,q2⟩:=g5 j u hj;rw[ha]at Oq;injection Oq with Oq;subst Oq;rw[cG (w:=w1) (w2:=w') (by rw[dE];exact Rel.same r hS q1)];exact q2
     refine⟨rfl,by omega,by unfold maxLen;omega,?_⟩;rw[aR x.length];refine .inl ?_;refine⟨by rw[<-g1];rfl,by omega,by unfold maxLen;omega,[(0,.vec T.fU 1 rv)],_,rfl,by simp,⟨rfl,trivial⟩,rfl,fun O w' r=>?_⟩;have hv:=oa r (id:=4) (sz:=4) (m:=x.length+1) rfl SE (by unfold maxLen;omega) (by decide) (by omega) SF;refine⟨hv.1,_,jR (tl:=[(13,.o (.w 0 rv.length)),(0,sV am M.length cm),(1,sV ab b.length cb),(6,iN i)]) hv.1 (t:=25) (n:=x.length+1) rfl ⟨rfl,rfl,rfl,rfl,trivial⟩ (by simp[jX,SV.sc,At.sc]),?_⟩;have Ps:=SG r hv.2.1 hv.2.2 aG;replace hK:=(gX.cI (hK.rel r hS) (fun g hg=>hg.mono fun p hp=>List.mem_cons_of_mem _ hp)).push rfl Ps;replace h:=dF.cI (dF.rel h r hS) fun g hg=>hg.mono fun p hp=>List.mem_cons_of_mem ((O 4).g,(O 4).g+1) hp;replace hu:=cR.cI (cR.rel hu r hS) fun g hg=>hg.mono fun p hp=>List.mem_cons_of_mem ((O 4).g,(O 4).g+1) hp;rw[<-OO]at hK;replace hw:=hw.tr r.cP;generalize (O 4).g=gx at*
     generalize (O 4).cap=cx at*
     generalize (gx,gx+1)::iv=OJ at*
     refine .inl ?_;refine⟨by simp,by omega,by unfold maxLen;omega,((i+1:Nat):Int),wo,?_⟩;intro ρ3 w3 r3;exact⟨(i+1,rv++[.slice (some ⟨gx,0,none⟩) (x.length+1) cx],w3,_),⟨OF,hw.tr r3.cP,dF.rel h r3 hS,cR.rel hu r3 hS,hK.rel r3 hS⟩,Sub.gn [(0,6)] r3 (hE:=⟨rfl,rfl,by dsimp only;rw[List.length_append,List.length_singleton];rfl,rfl,trivial⟩),by dsimp only;omega⟩
    ·refine .inl ?_;refine⟨css.flatten,g1,g2,fun O w' r Ot=>?_,?_⟩
     ·obtain⟨u0,Rl⟩:∃u,css.flatten[0]? =some u:=⟨_,aB (by omega)⟩
      obtain⟨ad,ha,_,_⟩:=g5 0 u0 Rl;refine⟨ad,ha,fun j u hj=>?_⟩;obtain⟨ad2,Oq,q1,q2⟩:=g5 j u hj;rw[ha]at Oq;injection Oq with Oq;subst Oq;rw[cG (w:=w1) (w2:=w') (by rw[dE];exact Rel.same r hS q1)];exact q2
     refine⟨rfl,by omega,by unfold maxLen;omega,?_⟩;rw[aR x.length];refine .inl ?_;refine⟨by rw[<-g1];rfl,by omega,by unfold maxLen;omega,[(0,.vec T.fU 1 rv)],_,rfl,by simp,⟨rfl,trivial⟩,rfl,fun O w' r=>?_⟩;have hv:=oa r (id:=4) (sz:=4) (m:=x.length+1) rfl SE (by unfold maxLen;omega) (by decide) (by omega) SF;refine⟨hv.1,_,jR (tl:=[(13,.o (.w 0 rv.length)),(0,sV am M.length cm),(1,sV ab b.length cb),(6,iN i)]) hv.1 (t:=25) (n:=x.length+1) rfl ⟨rfl,rfl,rfl,rfl,trivial⟩ (by simp[jX,SV.sc,At.sc]),?_⟩;have Ps:=SG r hv.2.1 hv.2.2 aG;replace hK:=(gX.cI (hK.rel r hS) (fun g hg=>hg.mono fun p hp=>List.mem_cons_of_mem _ hp)).push rfl Ps;replace h:=dF.cI (dF.rel h r hS) fun g hg=>hg.mono fun p hp=>List.mem_cons_of_mem ((O 4).g,(O 4).g+1) hp;replace hu:=cR.cI (cR.rel hu r hS) fun g hg=>hg.mono fun p hp=>List.mem_cons_of_mem ((O 4).g,(O 4).g+1) hp;rw[<-OO]at hK;replace hw:=hw.tr r.cP;generalize (O 4).g=gx at*
     generalize (O 4).cap=cx at*
     generalize (gx,gx+1)::iv=OJ at*
     refine .inl ?_;refine⟨by simp,by omega,by unfold maxLen;omega,((i+1:Nat):Int),wo,?_⟩;intro ρ3 w3 r3;exact⟨(i+1,rv++[.slice (some ⟨gx,0,none⟩) (x.length+1) cx],w3,_),⟨OF,hw.tr r3.cP,dF.rel h r3 hS,cR.rel hu r3 hS,hK.rel r3 hS⟩,Sub.gn [(0,6)] r3 (hE:=⟨rfl,rfl,by dsimp only;rw[List.length_append,List.length_singleton];rfl,rfl,trivial⟩),by dsimp only;omega⟩
  ·refine⟨[.bool b3,.slice a3 n3 c3,.bool b4,.slice a4 n4 c4],rfl,fun O w' r j u hu=>?_,?_⟩
   ·obtain⟨k1,k2⟩:=hl j u hu;rw[aE,cG (w:=w1) (w2:=w') (by rw[dE,dE];exact Rel.same r hS k1)];exact k2
   refine⟨?_,?_⟩
   ·refine⟨?_,?_⟩
    ·refine .inl ?_;refine⟨css.flatten,g1,g2,fun O w' r Ot=>?_,?_⟩
     ·obtain⟨u0,Rl⟩:∃u,css.flatten[0]? =some u:=⟨_,aB (by omega)⟩
      obtain⟨ad,ha,_,_⟩:=g5 0 u0 Rl;refine⟨ad,ha,fun j u hj=>?_⟩;obtain⟨ad2,Oq,q1,q2⟩:=g5 j u hj;rw[ha]at Oq;injection Oq with Oq;subst Oq;rw[cG (w:=w1) (w2:=w') (by rw[dE];exact Rel.same r hS q1)];exact q2
     refine⟨rfl,by omega,by unfold maxLen;omega,?_⟩;rw[aR x.length];refine .inl ?_;refine⟨by rw[<-g1];rfl,by omega,by unfold maxLen;omega,[(0,.vec T.fU 1 rv)],_,rfl,by simp,⟨rfl,trivial⟩,rfl,fun O w' r=>?_⟩;have hv:=oa r (id:=4) (sz:=4) (m:=x.length+1) rfl SE (by unfold maxLen;omega) (by decide) (by omega) SF;refine⟨hv.1,_,jR (tl:=[(13,.o (.w 0 rv.length)),(0,sV am M.length cm),(1,sV ab b.length cb),(6,iN i)]) hv.1 (t:=25) (n:=x.length+1) rfl ⟨rfl,rfl,rfl,rfl,trivial⟩ (by simp[jX,SV.sc,At.sc]),?_⟩;have Ps:=SG r hv.2.1 hv.2.2 aG;replace hK:=(gX.cI (hK.rel r hS) (fun g hg=>hg.mono fun p hp=>List.mem_cons_of_mem _ hp)).push rfl Ps;replace h:=dF.cI (dF.rel h r hS) fun g hg=>hg.mono fun p hp=>List.mem_cons_of_mem ((O 4).g,(O 4).g+1) hp;replace hu:=cR.cI (cR.rel hu r hS) fun g hg=>hg.mono fun p hp=>List.mem_cons_of_mem ((O 4).g,(O 4).g+1) hp;rw[<-OO]at hK;replace hw:=hw.tr r.cP;generalize (O 4).g=gx at*
     generalize (O 4).cap=cx at*
     generalize (gx,gx+1)::iv=OJ at*
     refine .inl ?_;refine⟨by simp,by omega,by unfold maxLen;omega,((i+1:Nat):Int),wo,?_⟩;intro ρ3 w3 r3;exact⟨(i+1,rv++[.slice (some ⟨gx,0,none⟩) (x.length+1) cx],w3,_),⟨OF,hw.tr r3.cP,dF.rel h r3 hS,cR.rel hu r3 hS,hK.rel r3 hS⟩,Sub.gn [(0,6)] r3 (hE:=⟨rfl,rfl,by dsimp only;rw[List.length_append,List.length_singleton];rfl,rfl,trivial⟩),by dsimp only;omega⟩
    ·refine .inl ?_;refine⟨css.flatten,g1,g2,fun O w' r Ot=>?_,?_⟩
     ·obtain⟨u0,Rl⟩:∃u,css.flatten[0]? =some u:=⟨_,aB (by omega)⟩
      obtain⟨ad,ha,_,_⟩:=g5 0 u0 Rl;refine⟨ad,ha,fun j u hj=>?_⟩;obtain⟨ad2,Oq,q1,q2⟩:=g5 j u hj;rw[ha]at Oq;injection Oq with Oq;subst Oq;rw[cG (w:=w1) (w2:=w') (by rw[dE];exact Rel.same r hS q1)];exact q2
     refine⟨rfl,by omega,by unfold maxLen;omega,?_⟩;rw[aR x.length];refine .inl ?_;refine⟨by rw[<-g1];rfl,by omega,by unfold maxLen;omega,[(0,.vec T.fU 1 rv)],_,rfl,by simp,⟨rfl,trivial⟩,rfl,fun O w' r=>?_⟩;have hv:=oa r (id:=4) (sz:=4) (m:=x.length+1) rfl SE (by unfold maxLen;omega) (by decide) (by omega) SF;refine⟨hv.1,_,jR (tl:=[(13,.o (.w 0 rv.length)),(0,sV am M.length cm),(1,sV ab b.length cb),(6,iN i)]) hv.1 (t:=25) (n:=x.length+1) rfl ⟨rfl,rfl,rfl,rfl,trivial⟩ (by simp[jX,SV.sc,At.sc]),?_⟩;have Ps:=SG r hv.2.1 hv.2.2 aG;replace hK:=(gX.cI (hK.rel r hS) (fun g hg=>hg.mono fun p hp=>List.mem_cons_of_mem _ hp)).push rfl Ps;replace h:=dF.cI (dF.rel h r hS) fun g hg=>hg.mono fun p hp=>List.mem_cons_of_mem ((O 4).g,(O 4).g+1) hp;replace hu:=cR.cI (cR.rel hu r hS) fun g hg=>hg.mono fun p hp=>List.mem_cons_of_mem ((O 4).g,(O 4).g+1) hp;rw[<-OO]at hK;replace hw:=hw.tr r.cP;generalize (O 4).g=gx at*
     generalize (O 4).cap=cx at*
     generalize (gx,gx+1)::iv=OJ at*
     refine .inl ?_;refine⟨by simp,by omega,by unfold maxLen;omega,((i+1:Nat):Int),wo,?_⟩;intro ρ3 w3 r3;exact⟨(i+1,rv++[.slice (some ⟨gx,0,none⟩) (x.length+1) cx],w3,_),⟨OF,hw.tr r3.cP,dF.rel h r3 hS,cR.rel hu r3 hS,hK.rel r3 hS⟩,Sub.gn [(0,6)] r3 (hE:=⟨rfl,rfl,by dsimp only;rw[List.length_append,List.length_singleton];rfl,rfl,trivial⟩),by dsimp only;omega⟩
   ·refine .inl ?_;refine⟨css.flatten,g1,g2,fun O w' r Ot=>?_,?_⟩
    ·obtain⟨u0,Rl⟩:∃u,css.flatten[0]? =some u:=⟨_,aB (by omega)⟩
     obtain⟨ad,ha,_,_⟩:=g5 0 u0 Rl;refine⟨ad,ha,fun j u hj=>?_⟩;obtain⟨ad2,Oq,q1,q2⟩:=g5 j u hj;rw[ha]at Oq;injection Oq with Oq;subst Oq;rw[cG (w:=w1) (w2:=w') (by rw[dE];exact Rel.same r hS q1)];exact q2
    refine⟨rfl,by omega,by unfold maxLen;omega,?_⟩;rw[aR x.length];refine .inl ?_;refine⟨by rw[<-g1];rfl,by omega,by unfold maxLen;omega,[(0,.vec T.fU 1 rv)],_,rfl,by simp,⟨rfl,trivial⟩,rfl,fun O w' r=>?_⟩;have hv:=oa r (id:=4) (sz:=4) (m:=x.length+1) rfl SE (by unfold maxLen;omega) (by decide) (by omega) SF;refine⟨hv.1,_,jR (tl:=[(13,.o (.w 0 rv.length)),(0,sV am M.length cm),(1,sV ab b.length cb),(6,iN i)]) hv.1 (t:=25) (n:=x.length+1) rfl ⟨rfl,rfl,rfl,rfl,trivial⟩ (by simp[jX,SV.sc,At.sc]),?_⟩;have Ps:=SG r hv.2.1 hv.2.2 aG;replace hK:=(gX.cI (hK.rel r hS) (fun g hg=>hg.mono fun p hp=>List.mem_cons_of_mem _ hp)).push rfl Ps;replace h:=dF.cI (dF.rel h r hS) fun g hg=>hg.mono fun p hp=>List.mem_cons_of_mem ((O 4).g,(O 4).g+1) hp;replace hu:=cR.cI (cR.rel hu r hS) fun g hg=>hg.mono fun p hp=>List.mem_cons_of_mem ((O 4).g,(O 4).g+1) hp;rw[<-OO]at hK;replace hw:=hw.tr r.cP;generalize (O 4).g=gx at*
    generalize (O 4).cap=cx at*
    generalize (gx,gx+1)::iv=OJ at*
    refine .inl ?_;refine⟨by simp,by omega,by unfold maxLen;omega,((i+1:Nat):Int),wo,?_⟩;intro ρ3 w3 r3;exact⟨(i+1,rv++[.slice (some ⟨gx,0,none⟩) (x.length+1) cx],w3,_),⟨OF,hw.tr r3.cP,dF.rel h r3 hS,cR.rel hu r3 hS,hK.rel r3 hS⟩,Sub.gn [(0,6)] r3 (hE:=⟨rfl,rfl,by dsimp only;rw[List.length_append,List.length_singleton];rfl,rfl,trivial⟩),by dsimp only;omega⟩
 have OF:i=M.length:=aQ hi (by simpa using OF);rw[OF,List.take_of_length_le (by rw[eB];omega)]at hK;intro ρe we re;refine⟨_,rfl,hw.tr re.cP,rv,?_,hK.1,fun i u x h1 h2=>cR.out (hK.2.2 i u x h1 h2) re hS⟩;have:=re.iR (id:=0) (sz:=1) (m:=rv.length) rfl (by rw[aT]) (by unfold maxLen;omega) (by decide) hK.2.1;rw[<-hK.1];exact this.cI fun g hg=>.inr hg
section
variable{S:Nat->Prop}{H:Hp}{nx:Nat}{iv0:Iv}{B:Nat}{w w' w2:World}{O:Nat->Sx.dg}{v:Value}{xs:List Rat}
end
theorem lu:rs q<0↔q<0:=by rw[rs,Int.sign_neg_iff,<-Int.not_le,Rat.num_nonneg,Rat.not_le]
theorem oc:0<rs q↔0<q:=by
 have h:=lu (q:= -q);rw[NV]at h;constructor
 ·intro k;have:=h.1 (by omega);grind
 ·intro k;have:=h.2 (by grind);omega
end Go.Ex
namespace Go.Ex
variable{E M:List (List Rat)}{pv:List Nat}{l r:List Rat}{m:Mx}{B C j:Nat}{u v:Nat->Rat}{d p q:Rat}
def jw:List Nat->(Nat->Rat)->Rat
 |[],_=>0
 |t::l,g=>g t+jw l g
theorem yw{g h:Nat->Rat}:∀{l:List Nat},(∀t∈l,g t=h t)->jw l g=jw l h
 |[],_=>rfl
 |t::l,e=>by show g t+_=h t+_;rw[e t aG,yw fun s hs=>e s (List.mem_cons_of_mem _ hs)]
theorem Bg{g:Nat->Rat}:∀{l:List Nat},(∀t∈l,g t=0)->jw l g=0
 |[],_=>rfl
 |t::l,e=>by show g t+_=0;rw[e t aG,Bg fun s hs=>e s (List.mem_cons_of_mem _ hs),bX]
theorem wT(g:Nat->Rat):∀l k:List Nat,jw (l++k) g=jw l g+jw k g
 |[],k=>(Rat.zero_add _).symm
 |t::l,k=>by show g t+jw (l++k) g=g t+jw l g+jw k g;rw[wT g l k,Rat.add_assoc]
theorem Ea(g:Nat->Rat):∀l:List Nat,jw l (fun t=> -g t)= -jw l g
 |[]=>rfl
 |t::l=>by show -g t+jw l _= -(g t+jw l g);rw[Ea g l,Rat.neg_add]
theorem wU(p:Nat->Bool)(g:Nat->Rat):∀l:List Nat,jw l g=jw (l.filter p) g+jw (l.filter fun t=> !p t) g
 |[]=>(bX 0).symm
 |t::l=>by
  show g t+jw l g=_;rw[wU p g l,List.filter_cons,List.filter_cons]
  cases p t with
  |true=>show _=g t+_+_;rw[Rat.add_assoc];rfl
  |false=>
   show _=jw (l.filter p) g+(g t+_)
   rw[<-Rat.add_assoc,Rat.add_comm (g t),Rat.add_assoc]
theorem yx{g:Nat->Rat}{s:Nat}:∀{l:List Nat},l.Nodup->s∈l->(∀t∈l,t≠s->g t=0)->jw l g=g s
 |[],_,hm,_=>by cases hm
 |t::l,hn,hm,h=>by
  show g t+jw l g=g s;have RY:=List.nodup_cons.1 hn;rcases List.mem_cons.1 hm with rfl|hm
  ·rw[Bg fun u hu=>h u (List.mem_cons_of_mem _ hu) fun e=>RY.1 (e▸hu),bX]
  ·rw[h t aG (fun e=>RY.1 (e▸hm)),Rat.zero_add,yx RY.2 hm fun u hu=>h u (List.mem_cons_of_mem _ hu)]
theorem yz{i t:Nat}{v:Rat}:(l.set i v).getD t 0=if i=t∧i<l.length then v else l.getD t 0:=by
 simp only[List.getD,List.getElem?_set]
 by_cases h:i=t
 ·subst h;by_cases hl:i<l.length
  ·simp[hl]
  ·simp[hl]
 ·simp[h]
theorem zA{F:Nat->List Rat}{pv:List Nat}{f:Nat->Rat}(hF:∀i,F (i+1)=(F i).set (pv.getD i 0) (f i)){t:Nat}(ht:t∉pv):∀i,i<=pv.length->(F i).getD t 0=(F 0).getD t 0
 |0,_=>rfl
 |i+1,h=>by
  rw[hF,yz,aL fun e=>ht (by rw[<-e.1,List.getD,aB (by omega)];exact aX _)];exact zA hF ht i (by omega)
theorem Jy(hp:pv.Pairwise (· < ·)){i:Nat}(Pm:j<i)(hi:i<pv.length):pv.getD j 0<pv.getD i 0:=by
 rw[List.getD,List.getD,aB hi,aB (by omega)];exact List.pairwise_iff_getElem.1 hp j i _ _ Pm
theorem oH{F:Nat->List Rat}{pv:List Nat}{f:Nat->Rat}{n:Nat}(hF:∀i,F (i+1)=(F i).set (pv.getD i 0) (f i))(hl:∀i,(F i).length=n)(hp:pv.Pairwise (· < ·))(hn:∀p∈pv,p<n){j:Nat}:∀i,i<=pv.length->j<i->(F i).getD (pv.getD j 0) 0=f j
 |0,_,h=>by omega
 |i+1,h,hj=>by
  rw[hF,yz];rcases aO j i with h1|h1
  ·have:=Jy hp h1 (by omega);rw[aL (by omega)];exact oH hF hl hp hn i (by omega) h1
  ·have e:j=i:=by omega
   subst e;have hm:pv.getD j 0<(F j).length:=by rw[hl];exact hn _ (by rw[List.getD,aB (by omega)];exact aX _)
   rw[if_pos ⟨rfl,hm⟩]
def jg(M:List (List Rat))(x:List Rat):List Rat:=M.map fun r=>eF r x r.length
abbrev jH(pv:List Nat)(n:Nat):List Nat:=(List.range n).filter fun c=>decide (c∉pv)
section
variable{M:List (List Rat)}{x:List Rat}{n:Nat}
end
structure Diff(A:List (List Rat))(pv:List Nat)(n:Nat)(x:List Rat):Prop where
 up:pv.Pairwise (· < ·)
 lt:∀p∈pv,p<n
 le:pv.length<=A.length
 unit:∀i j,i<pv.length->j<A.length->dL A j (pv.getD i 0)=if j=i then 1 else 0
 sum:∀j,j<A.length->jw (List.range n) (fun t=>dL A j t*x.getD t 0)=dL A j n
section
variable{A:List (List Rat)}{pv:List Nat}{n:Nat}{x:List Rat}
theorem sM{t:Nat}(h:t∈pv):∃j,j<pv.length∧pv.getD j 0=t:=by
 obtain⟨j,hj,rfl⟩:=List.mem_iff_getElem.1 h;exact⟨j,hj,by rw[List.getD,aB hj];rfl⟩
theorem pZ{c t:Nat}(ht:t∉pv)(hc:c<n):(fZ A pv n c pv.length).getD t 0=if t=c then 1 else 0:=by
 rw[zA (F:=fZ A pv n c) (fun i=>gP A pv n c i) ht _ (aF _)];show((List.replicate n (0:Rat)).set c 1).getD t 0=_;rw[yz,bF];by_cases h:c=t
 ·rw[if_pos ⟨h,hc⟩,if_pos h.symm]
 ·rw[aL (fun e=>h e.1),aL (fun e=>h e.symm)];simp only[List.getD,List.getElem?_replicate]
  split<;>rfl
theorem Diff.kin(h:Diff A pv n x){c:Nat}(hj:j<pv.length):(fZ A pv n c pv.length).getD (pv.getD j 0) 0= -(dL A j c):=
 oH (F:=fZ A pv n c) (f:=fun i=> -(dL A i c)) (fun i=>gP A pv n c i) (kH A pv n c) h.up h.lt _ (aF _) hj
theorem tO{t:Nat}(ht:t∉pv):(fp A pv n pv.length).getD t 0=0:=by
 rw[zA (F:=fp A pv n) (fun i=>gQ A pv n i) ht _ (aF _)];show(List.replicate n (0:Rat)).getD t 0=0;simp only[List.getD,List.getElem?_replicate]
 split<;>rfl
theorem Diff.xin(h:Diff A pv n x)(hj:j<pv.length):(fp A pv n pv.length).getD (pv.getD j 0) 0=dL A j n:=
 oH (F:=fp A pv n) (f:=fun i=>dL A i n) (fun i=>gQ A pv n i) (jO A pv n) h.up h.lt _ (aF _) hj
theorem sN:(jH pv n).Nodup:=List.Pairwise.filter _ List.nodup_range
theorem lS{c:Nat}:c∈jH pv n↔c<n∧c∉pv:=by
 unfold jH;rw[List.mem_filter,List.mem_range,decide_eq_true_eq]
theorem Diff.rest(h:Diff A pv n x){t:Nat}(ht:t<n):x.getD t 0+(fp A pv n pv.length).getD t 0* -1=jw (jH pv n) fun c=>x.getD c 0*(fZ A pv n c pv.length).getD t 0:=by
 by_cases hp:t∈pv
 ·obtain⟨j,hj,rfl⟩:=sM hp;have hs:=h.sum j (Nat.lt_of_lt_of_le hj h.le);rw[wU (fun c=>decide (c∉pv)),yx (s:=pv.getD j 0) (l:=(List.range n).filter fun t=> !decide (t∉pv)) (List.Pairwise.filter _ List.nodup_range) (List.mem_filter.2 ⟨List.mem_range.2 ht,by rw[bI fun e=>e hp];rfl⟩) (fun s hs OH=>?_),h.unit j j hj (Nat.lt_of_lt_of_le hj h.le),if_pos rfl,bu]at hs
  ·rw[h.xin hj,yw (h:=fun c=> -(dL A j c*x.getD c 0)) fun c hc=>by rw[h.kin hj,Rat.mul_neg,bo],Ea,<-hs];generalize x.getD (pv.getD j 0) 0=q;generalize jw _ _=s;rw[Rat.mul_neg,Rat.mul_one,Rat.neg_add,<-Rat.add_assoc,Rat.add_comm q,Rat.add_assoc,Rat.add_neg_cancel,bX]
  ·have Q9:s∈pv:=by simpa using(List.mem_filter.1 hs).2
   obtain⟨i,hi,rfl⟩:=sM Q9;rw[h.unit i j hi (Nat.lt_of_lt_of_le hj h.le),aL (fun e=>OH (by rw[e])),bL]
 ·rw[tO hp,bL,bX,yx (s:=t) sN (lS.2 ⟨ht,hp⟩) fun c hc OH=>by rw[pZ hp (lS.1 hc).1,aL (Ne.symm OH),bD],pZ hp ht,if_pos rfl,Rat.mul_one]
theorem p8{k:Nat}(hk:k<(jH pv n).length):(jH pv n).getD k 0∈jH pv n:=by rw[List.getD,aB hk];exact aX hk
theorem oI{k:Nat}(h:(dy A pv n n)[k]? =some r):k<(jH pv n).length∧r=fZ A pv n ((jH pv n).getD k 0) pv.length:=by
 unfold dy at h;rw[aM]at h;obtain⟨c,hc,rfl⟩:=Option.map_eq_some_iff.1 h;refine⟨(aD.1 hc).1,?_⟩;rw[List.getD,hc];rfl
theorem Jz{i k:Nat}(hi:i<(jH pv n).length)(hk:k<(jH pv n).length)(e:(jH pv n).getD i 0=(jH pv n).getD k 0):i=k:=by
 rw[List.getD,List.getD,aB hi,aB hk]at e;rcases bq i k with h|h|h
 ·exact absurd e (List.pairwise_iff_getElem.1 sN i k hi hk h)
 ·exact h
 ·exact absurd e.symm (List.pairwise_iff_getElem.1 sN k i hk hi h)
theorem zB{k i:Nat}{s:List Rat}(hr:(dy A pv n n)[k]? =some r)(hs:(dy A pv n n)[i]? =some s):s.getD ((jH pv n).getD k 0) 0=if i=k then 1 else 0:=by
 obtain⟨hk,-⟩:=oI hr;obtain⟨hi,rfl⟩:=oI hs;have hm:=lS.1 (p8 hk);rw[pZ hm.2 (lS.1 (p8 hi)).1];by_cases h:i=k
 ·rw[h,if_pos rfl,if_pos rfl]
 ·rw[aL (fun e=>h (Jz hi hk e.symm)),aL h]
end
theorem p9(f:Nat->Nat->Rat)(m:Nat):∀n,cd (fun i=>cd (f i) m) n=cd (fun j=>cd (fun i=>f i j) n) m
 |0=>(eC m).symm
 |n+1=>by
  show cd (fun i=>cd (f i) m) n+cd (f n) m=cd (fun j=>cd (fun i=>f i j) n+f n j) m;rw[gj,p9 f m n]
theorem oK(x y:List Rat):∀n,eF x y n=cd (fun t=>x.getD t 0*y.getD t 0) n
 |0=>rfl
 |n+1=>by rw[eF,oK x y n];rfl
theorem wW{f:Nat->Rat}:∀{n:Nat},(∀k,k<n->0<=f k)->0<=cd f n
 |0,_=>Rat.le_refl
 |n+1,h=>by
  have h1:=wW (n:=n) fun k hk=>h k (by omega);have h2:=h n (by omega);show 0<=cd f n+f n;grind
theorem wX{f:Nat->Rat}:∀{n:Nat},(∀k,k<n->0<=f k)->cd f n<=0->∀k,k<n->f k=0
 |0,_,_,k,hk=>by omega
 |n+1,h,h0,k,hk=>by
  have h1:=wW (n:=n) fun k hk=>h k (by omega);have h2:=h n (by omega);have h3:cd f n+f n<=0:=h0;rcases aO k n with h4|h4
  ·exact wX (fun k hk=>h k (by omega)) (by grind) k h4
  ·rw[show k=n by omega];grind
section
variable{m m':Mx}{n w p:Nat}{κ:Rat}{q:Nat->Rat}
end
def eG(E:Mx)(r n:Nat)(v:Nat->Rat):Prop:=∃c:Nat->Rat,∀t,t<n->v t=cd (fun i=>c i*E i t) r
structure Rf(E:Mx)(p:Nat->Nat)(r n:Nat):Prop where
 lt:∀i,i<r->p i<n
 mono:∀i j,i<j->j<r->p i<p j
 unit:∀i j,i<r->j<r->E j (p i)=if j=i then 1 else 0
 lead:∀i t,i<r->t<p i->E i t=0
section
variable{E F:Mx}{p q:Nat->Nat}{r s n:Nat}{v:Nat->Rat}
theorem Rf.coeff(h:Rf E p r n)(hv:eG E r n v):∀t,t<n->v t=cd (fun i=>v (p i)*E i t) r:=by
 obtain⟨c,hc⟩:=hv;intro t ht;rw[hc t ht];refine cL fun i hi=>?_;rw[hc (p i) (h.lt i hi),gE hi fun k hk OH=>by rw[h.unit i k hi hk,aL OH,bD],h.unit i i hi hi,if_pos rfl,Rat.mul_one]
theorem Rf.MF(h:Rf E p r n)(hv:eG E r n v){t:Nat}(ht:t<n)(h0:v t≠0)(hz:∀k,k<t->v k=0):∃i,i<r∧p i=t:=by
 refine Decidable.byContradiction fun R9=>h0 ?_;rw[h.coeff hv t ht,cL (g:=fun _=>0) fun i hi=>?_,eC];rcases bq (p i) t with h1|h1|h1
 ·rw[hz _ h1,bL]
 ·exact absurd ⟨i,hi,h1⟩ R9
 ·rw[h.lead i t hi h1,bD]
theorem Rf.Mt(h:Rf E p r n)(k:Rf F q s n)(hE:∀i,i<r->eG F s n (E i)){i:Nat}(hi:i<r):∃j,j<s∧q j=p i:=
 k.MF (hE i hi) (h.lt i hi) (by rw[h.unit i i hi hi,if_pos rfl];decide) fun t ht=>h.lead i t hi ht
theorem Rf.KB(h:Rf E p r n)(k:Rf F q s n)(hE:∀i,i<r->eG F s n (E i))(hF:∀j,j<s->eG E r n (F j)):∀i,i<r->i<s∧p i=q i:=by
 intro i
 induction i using Nat.strongRecOn with
 |ind i ih=>
  intro hi;obtain⟨j,hj,e1⟩:=h.Mt k hE hi;have Oy:i<=j:=by
   refine Nat.le_of_not_lt fun Od=>?_;have h1:=(ih j Od (by omega)).2;have h2:=h.mono j i Od hi;omega
  have his:i<s:=by omega
  refine⟨his,?_⟩;obtain⟨l,hl,e2⟩:=k.Mt h hF his;have hli:i<=l:=by
   refine Nat.le_of_not_lt fun Od=>?_;have h1:=(ih l Od hl).2;have h2:=k.mono l i Od his;omega
  have h3:q i<=q j:=by
   rcases aO i j with h4|h4
   ·exact Nat.le_of_lt (k.mono i j h4 hj)
   ·rw[show i=j by omega];exact aF _
  have h5:p i<=p l:=by
   rcases aO i l with h4|h4
   ·exact Nat.le_of_lt (h.mono i l h4 hl)
   ·rw[show i=l by omega];exact aF _
  omega
theorem Rf.one(h:Rf E p r n)(k:Rf F q s n)(hE:∀i,i<r->eG F s n (E i))(hF:∀j,j<s->eG E r n (F j)):r=s∧(∀i,i<r->p i=q i)∧∀i t,i<r->t<n->E i t=F i t:=by
 have h1:=h.KB k hE hF;have h2:=k.KB h hF hE;have VO:r=s:=by
  rcases bq r s with h3|h3|h3
  ·have:=(h2 r h3).1;omega
  ·exact h3
  ·have:=(h1 s h3).1;omega
 refine⟨VO,fun i hi=>(h1 i hi).2,fun i t hi ht=>?_⟩;rw[k.coeff (hE i hi) t ht,gE (i:=i) (by omega) fun j hj OH=>by rw[<-(h1 j (by omega)).2,h.unit j i (by omega) hi,aL (Ne.symm OH),bL],<-(h1 i hi).2,h.unit i i hi hi,if_pos rfl,bu]
end
theorem eG.row{E:Mx}{r n i:Nat}(hi:i<r):eG E r n (E i):=⟨fun k=>if k=i then 1 else 0,fun t _=>by
 rw[gE hi fun k _ OH=>by simp only[aL OH,bL]]
 simp only[if_pos,bu]⟩
theorem eG.add{E:Mx}{r n:Nat}(h:eG E r n u)(k:eG E r n v)(x:Rat):eG E r n fun t=>u t+x*v t:=by
 obtain⟨c,hc⟩:=h;obtain⟨d,hd⟩:=k;refine⟨fun i=>c i+x*d i,fun t ht=>?_⟩;show u t+x*v t=cd (fun i=>(c i+x*d i)*E i t) r;rw[hc t ht,hd t ht,<-ek,<-gj];exact cL fun i _=>by grind
theorem eG.mul{E:Mx}{r n:Nat}(h:eG E r n u)(x:Rat):eG E r n fun t=>u t*x:=by
 obtain⟨c,hc⟩:=h;refine⟨fun i=>c i*x,fun t ht=>?_⟩;show u t*x=cd (fun i=>(c i*x)*E i t) r;rw[hc t ht,<-qj];exact cL fun i _=>by grind
theorem eG.congr{E:Mx}{r n:Nat}(h:eG E r n u)(e:∀t,t<n->v t=u t):eG E r n v:=by
 obtain⟨c,hc⟩:=h;exact⟨c,fun t ht=>by rw[e t ht,hc t ht]⟩
theorem eG.trans{E F:Mx}{r s n:Nat}(h:eG E r n v)(k:∀i,i<r->eG F s n (E i)):eG F s n v:=by
 obtain⟨c,hc⟩:=h;have key:∀m,m<=r->eG F s n fun t=>cd (fun i=>c i*E i t) m:=by
  intro m
  induction m with
  |zero=>intro _;exact⟨fun _=>0,fun t _=>by rw[cL (g:=fun _=>0) fun i _=>bL _,eC];rfl⟩
  |succ m ih=>
   intro hm;exact(ih (by omega)).add (k m (by omega)) (c m)
 exact(key r (aF _)).congr fun t ht=>hc t ht
def KC(s:List (List Rat)×List Nat):Prop:=(∀i j,i<j->j<s.2.length->s.2.getD i 0<s.2.getD j 0)∧∀i t,i<s.2.length->t<s.2.getD i 0->dL s.1 i t=0
theorem KC.step{n c:Nat}{s:List (List Rat)×List Nat}(h:KC s)(hr:Red n c s)(hc:c<n):KC (da s c):=by
 obtain⟨hl,hle,hz,Qy,hu⟩:=hr;rcases kT c hle with⟨e,-⟩|⟨k,h1,h2,h3,e⟩
 ·rw[e];exact h
 ·obtain⟨r1,r2⟩:=oG hl h1 h2 h3 e;have e2:(da s c).2=s.2++[c]:=by rw[e]
  have hold:∀i,i<s.2.length->(da s c).2.getD i 0=s.2.getD i 0:=fun i hi=>by rw[e2,List.getD,aK hi,<-List.getD]
  have Ps:(da s c).2.getD s.2.length 0=c:=by rw[e2,List.getD,aN (aF _),bH];rfl
  have Od:∀i,i<s.2.length->s.2.getD i 0<c:=fun i hi=>Qy _ (by rw[List.getD,aB hi];exact aX _);have hlen:(da s c).2.length=s.2.length+1:=by rw[e2];simp
  refine⟨fun i j Pm hj=>?_,fun i t hi ht=>?_⟩
  ·rw[hlen]at hj;rcases aO j s.2.length with h4|h4
   ·rw[hold i (by omega),hold j h4];exact h.1 i j Pm h4
   ·rw[show j=s.2.length by omega,Ps,hold i (by omega)];exact Od i (by omega)
  ·rw[hlen]at hi;rcases aO i s.2.length with h4|h4
   ·rw[hold i h4]at ht;have h5:=Od i h4;rw[r2 i (by omega) (by omega) t (by omega),hz k t h1 h2 (by omega),aL (by omega),h.2 i t h4 ht,bL,bD,Rat.zero_add]
   ·rw[show i=s.2.length by omega]at ht ⊢;rw[Ps]at ht;rw[r1,hz k t h1 h2 ht,bL]
theorem tP{M:List (List Rat)}{n:Nat}(hl:fg n M):∀cols,cols<=n->KC (cN M cols)
 |0,_=>⟨fun _ _ _ h=>(by cases h),fun _ _ h=>(by cases h)⟩
 |c+1,h=>by
  have ih:=tP hl c (by omega);have hr:=dx hl c (by omega);unfold cN at ih hr ⊢;rw[bT,List.foldl_append];exact ih.step hr (by omega)
theorem Gb{n:Nat}(hl:fg n M):Rf (dL (cN M n).1) (fun i=>(cN M n).2.getD i 0) (cN M n).2.length n:=by
 obtain⟨h1,h2,h3,h4,h5⟩:=dx hl n (aF _);obtain⟨k1,k2⟩:=tP hl n (aF _);refine⟨fun i hi=>h4 _ (by rw[List.getD,aB hi];exact aX _),k1,fun i j hi hj=>h5 i j hi (by omega),k2⟩
theorem MG{s:List (List Rat)×List Nat}{c n:Nat}(hl:fg n s.1)(hle:s.2.length<=s.1.length):(∀j,j<s.1.length->eG (dL s.1) s.1.length n (dL (da s c).1 j))∧∀j,j<s.1.length->eG (dL (da s c).1) s.1.length n (dL s.1 j):=by
 rcases kT c hle with⟨e,-⟩|⟨k,h1,h2,h3,e⟩
 ·rw[e];exact⟨fun j hj=>eG.row hj,fun j hj=>eG.row hj⟩
 ·obtain⟨r1,r2⟩:=oG hl h1 h2 h3 e;have hp:s.2.length<s.1.length:=by omega
  have a1:eG (dL s.1) s.1.length n (dL (da s c).1 s.2.length):=((eG.row h2).mul (1 / dL s.1 k c)).congr fun t _=>r1 t;have b1:eG (dL (da s c).1) s.1.length n (dL s.1 k):=((eG.row hp).mul (dL s.1 k c)).congr fun t _=>by rw[r1,Rat.mul_assoc,bo (1 / _),yv h3,Rat.mul_one]
  refine⟨fun j hj=>?_,fun j hj=>?_⟩
  ·by_cases h4:j=s.2.length
   ·rw[h4];exact a1
   ·exact((eG.row (show (if j=k then s.2.length else j)<s.1.length by split<;>omega)).add (eG.row h2) (-(dL s.1 (if j=k then s.2.length else j) c)*(1 / dL s.1 k c))).congr fun t ht=>by rw[r2 j hj h4 t ht];grind
  ·by_cases h4:j=k
   ·rw[h4];exact b1
   ·obtain⟨i,hi,OH,Pm⟩:∃i,i<s.1.length∧i≠s.2.length∧(if i=k then s.2.length else i)=j:=by
     by_cases h5:j=s.2.length
     ·exact⟨k,h2,fun e6=>h4 (h5.trans e6.symm),by rw[if_pos rfl,h5]⟩
     ·exact⟨j,hj,h5,aL h4⟩
    refine((eG.row hi).add (eG.row hp) (dL s.1 j c)).congr fun t ht=>?_;rw[r2 i hi OH t ht,Pm,r1];grind
theorem lT{M:List (List Rat)}{n:Nat}(hl:fg n M):∀cols,cols<=n->(∀j,j<M.length->eG (dL M) M.length n (dL (cN M cols).1 j))∧∀j,j<M.length->eG (dL (cN M cols).1) M.length n (dL M j)
 |0,_=>⟨fun j hj=>eG.row hj,fun j hj=>eG.row hj⟩
 |c+1,h=>by
  obtain⟨i1,i2⟩:=lT hl c (by omega);have hr:=dx hl c (by omega);have h1:=eQ M c;have h2:=MG (c:=c) hr.1 hr.2.1;rw[h1]at h2;have e:(cN M (c+1))=da (cN M c) c:=by unfold cN;rw[bT,List.foldl_append];rfl
  rw[e];exact⟨fun j hj=>(h2.1 j hj).trans i1,fun j hj=>(i2 j hj).trans h2.2⟩
theorem eG.cut{E:Mx}{r m n:Nat}(h:eG E m n v)(hz:∀i t,r<=i->i<m->t<n->E i t=0):eG E r n v:=by
 refine h.trans fun i hi=>?_;rcases aO i r with h1|h1
 ·exact eG.row h1
 ·exact⟨fun _=>0,fun t ht=>by rw[hz i t h1 hi ht,cL (g:=fun _=>0) fun k _=>bL _,eC]⟩
theorem Ee{n r:Nat}{F:Mx}{q:Nat->Nat}(hl:fg n M)(k:Rf F q r n)(h1:∀i,i<r->eG (dL M) M.length n (F i))(h2:∀j,j<M.length->eG F r n (dL M j)):
  (cN M n).2.length=r∧(∀i,i<r->(cN M n).2.getD i 0=q i)∧∀i t,i<r->t<n->dL (cN M n).1 i t=F i t:=by
 obtain⟨a1,a2⟩:=lT hl n (aF _);obtain⟨-,hle,hz,-,-⟩:=dx hl n (aF _);rw[eQ]at hle hz;have h:=Gb hl;obtain⟨e1,e2,e3⟩:=h.one k (fun i hi=>(a1 i (by omega)).trans h2) fun j hj=>((h1 j hj).trans a2).cut fun i t hi hm ht=>hz i t hi hm ht;exact⟨e1,fun i hi=>e2 i (by omega),fun i t hi ht=>e3 i t (by omega) ht⟩
structure Ru(E:Mx)(p:Nat->Nat)(r n:Nat):Prop where
 lt:∀i,i<r->p i<n
 inj:∀i j,i<r->j<r->p i=p j->i=j
 unit:∀i j,i<r->j<r->E j (p i)=if j=i then 1 else 0
 lead:∀i t,i<r->t<p i->E i t=0
def mJ(E:Mx)(p:Nat->Nat)(r:Nat)(v:Nat->Rat)(k t:Nat):Rat:=v t-cd (fun i=>if p i<k then v (p i)*E i t else 0) r
theorem KD(E:Mx)(p:Nat->Nat)(r:Nat)(v:Nat->Rat)(t:Nat):mJ E p r v 0 t=v t:=by
 unfold mJ;rw[cL (g:=fun _=>0) fun i _=>aL (by omega),eC];grind
section
variable{E:Mx}{p:Nat->Nat}{r n:Nat}{v:Nat->Rat}
theorem KE{k t:Nat}(h:∀i,i<r->p i≠k):mJ E p r v (k+1) t=mJ E p r v k t:=by
 unfold mJ;rw[cL fun i hi=>?_];have:=h i hi;by_cases h1:p i<k
 ·rw[if_pos h1,if_pos (by omega)]
 ·rw[aL h1,aL (by omega)]
theorem NW(h:Ru E p r n){i:Nat}(hi:i<r):mJ E p r v (p i) (p i)=v (p i):=by
 unfold mJ;rw[cL (g:=fun _=>0) fun j hj=>?_,eC]
 ·grind
 ·by_cases h1:p j<p i
  ·rw[if_pos h1,h.unit i j hi hj,aL (fun e=>by rw[e]at h1;omega),bD]
  ·rw[aL h1]
theorem KF(h:Ru E p r n){i t:Nat}(hi:i<r):mJ E p r v (p i+1) t=mJ E p r v (p i) t+ -(mJ E p r v (p i) (p i))*E i t:=by
 rw[NW h hi];unfold mJ;have e:cd (fun j=>if p j<p i+1 then v (p j)*E j t else 0) r=cd (fun j=>(if p j<p i then v (p j)*E j t else 0)+(if j=i then v (p i)*E i t else 0)) r:=by
  refine cL fun j hj=>?_;by_cases h1:j=i
  ·subst h1;rw[if_pos (by omega),aL (by omega),if_pos rfl,Rat.zero_add]
  ·have h2:p j≠p i:=fun e=>h1 (h.inj j i hj hi e);rw[aL h1,bX];by_cases h3:p j<p i
   ·rw[if_pos h3,if_pos (by omega)]
   ·rw[aL h3,aL (by omega)]
 rw[e,gj,gE hi fun k _ OH=>aL OH,if_pos rfl];grind
theorem Hh(h:Ru E p r n){i:Nat}(hi:i<r):mJ E p r v n (p i)=0:=by
 unfold mJ;rw[gE hi fun k hk OH=>?_,if_pos (h.lt i hi),h.unit i i hi hi,if_pos rfl]
 ·grind
 ·rw[if_pos (h.lt k hk),h.unit i k hi hk,aL OH,bD]
end
def kf(E:Mx)(r:Nat)(u:Nat->Rat)(k:Nat):Mx:=fun i t=>if i=r then u t / u k else E i t+ -(E i k)*(u t / u k)
theorem Ru.push{E:Mx}{p:Nat->Nat}{r n k:Nat}(h:Ru E p r n)(hk:k<n)(hu:∀i,i<r->u (p i)=0)(h0:u k≠0)(hz:∀t,t<k->u t=0):
  Ru (kf E r u k) (fun i=>if i=r then k else p i) (r+1) n:=by
 have OH:∀i,i<r->p i≠k:=fun i hi e=>h0 (e▸hu i hi);have QQ:u k / u k=1:=by rw[bg,Rat.mul_inv_cancel _ h0]
 have OQ:∀i,i<r->u (p i) / u k=0:=fun i hi=>by rw[hu i hi,bg,bL]
 refine⟨fun i hi=>?_,fun i j hi hj e=>?_,fun i j hi hj=>?_,fun i t hi ht=>?_⟩
 ·split
  ·exact hk
  ·exact h.lt i (by omega)
 ·by_cases h1:i=r
  ·by_cases h2:j=r
   ·omega
   ·rw[if_pos h1,aL h2]at e;exact absurd e.symm (OH j (by omega))
  ·by_cases h2:j=r
   ·rw[aL h1,if_pos h2]at e;exact absurd e (OH i (by omega))
   ·rw[aL h1,aL h2]at e;exact h.inj i j (by omega) (by omega) e
 ·unfold kf;by_cases h1:i=r
  ·rw[if_pos h1];by_cases h2:j=r
   ·rw[if_pos h2,if_pos (by omega),QQ]
   ·rw[aL h2,aL (by omega),QQ];grind
  ·rw[aL h1];by_cases h2:j=r
   ·rw[if_pos h2,aL (by omega),OQ i (by omega)]
   ·rw[aL h2,OQ i (by omega),bD,bX];exact h.unit i j (by omega) (by omega)
 ·unfold kf;by_cases h1:i=r
  ·rw[if_pos h1]at ht;rw[if_pos h1,hz t ht,bg,bL]
  ·rw[aL h1]at ht;rw[aL h1,h.lead i t (by omega) ht,Rat.zero_add];rcases aO t k with h2|h2
   ·rw[hz t h2,bg,bL,bD]
   ·rw[h.lead i k (by omega) (by omega)];grind
def js(E:Mx)(r:Nat)(v:Nat->Rat):Mx:=fun i t=>if i=r then v t else E i t
section
variable{E:Mx}{p:Nat->Nat}{r n k:Nat}{u v:Nat->Rat}
theorem Ih(i:Nat)(hi:i<r):eG (js E r v) (r+1) n (E i):=(eG.row (show i<r+1 by omega)).congr fun t _=>by unfold js;rw[aL (by omega)]
theorem NX(hu:∀t,t<n->u t=mJ E p r v n t)(hl:∀i,i<r->p i<n):eG (js E r v) (r+1) n u:=by
 refine⟨fun i=>if i=r then 1 else -(v (p i)),fun t ht=>?_⟩;rw[hu t ht];show mJ E p r v n t=cd (fun i=>(if i=r then 1 else -(v (p i)))*js E r v i t) r+(if r=r then 1 else -(v (p r)))*js E r v r t;rw[if_pos rfl,cL (g:=fun i=> -(v (p i)*E i t)) fun i hi=>by unfold js;rw[aL (by omega),aL (by omega),Rat.neg_mul],nO];unfold mJ js;rw[if_pos rfl,cL (g:=fun i=>v (p i)*E i t) fun i hi=>if_pos (hl i hi)];grind
theorem KG(hu:eG (js E r v) (r+1) n u):∀i,i<r+1->eG (js E r v) (r+1) n (kf E r u k i):=fun i hi=>by
 by_cases h1:i=r
 ·exact(hu.mul (1 / u k)).congr fun t _=>by unfold kf;rw[if_pos h1,bg,bg,bu]
 ·exact((Ih i (by omega)).add hu (-(E i k)*(1 / u k))).congr fun t _=>by unfold kf;rw[aL h1,bg,bg];grind
theorem Hi(h0:u k≠0):eG (kf E r u k) (r+1) n u:=((eG.row (show r<r+1 by omega)).mul (u k)).congr fun t _=>by
 unfold kf;rw[if_pos rfl,Rat.div_mul_cancel h0]
theorem qk(h0:u k≠0)(i:Nat)(hi:i<r):eG (kf E r u k) (r+1) n (E i):=((eG.row (show i<r+1 by omega)).add (Hi h0) (E i k / u k)).congr fun t _=>by
 unfold kf;rw[aL (by omega),bg,bg];grind
theorem Bh(h0:u k≠0)(hu:∀t,t<n->u t=mJ E p r v n t)(hl:∀i,i<r->p i<n):eG (kf E r u k) (r+1) n v:=by
 have h1:eG (js E r u) (r+1) n v:=by
  refine⟨fun i=>if i=r then 1 else v (p i),fun t ht=>?_⟩;show v t=cd (fun i=>(if i=r then 1 else v (p i))*js E r u i t) r+(if r=r then 1 else v (p r))*js E r u r t;rw[if_pos rfl,cL (g:=fun i=>v (p i)*E i t) fun i hi=>by unfold js;rw[aL (by omega),aL (by omega)]];unfold js;rw[if_pos rfl,hu t ht];unfold mJ;rw[cL (g:=fun i=>v (p i)*E i t) fun i hi=>if_pos (hl i hi)];grind
 refine h1.trans fun i hi=>?_;by_cases h2:i=r
 ·exact(Hi h0).congr fun t _=>by unfold js;rw[if_pos h2]
 ·exact(qk h0 i (by omega)).congr fun t _=>by unfold js;rw[aL h2]
end
def mP(row uh:List Rat)(by_:Rat):List Rat:=row.mapIdx (sJ (-by_) uh)
theorem tQ(row uh:List Rat)(b:Rat):(mP row uh b).length=row.length:=List.length_mapIdx
theorem zF(row uh:List Rat):mP row uh 0=row:=by
 refine bM fun j=>?_;rw[mP,List.getElem?_mapIdx]
 cases row[j]? with
 |none=>rfl
 |some q=>exact congrArg some (by rw[sJ,Rat.neg_zero,bL,bX])
def ov(row:List Rat):Nat->Nat->Nat
 |0,k=>k
 |f+1,k=>if row.getD k 0=0 then ov row f (k+1)else k
def tR(row:List Rat)(cols:Nat):Nat:=ov row cols 0
theorem KI{row:List Rat}{k:Nat}:∀(f j:Nat),(∀i,j<=i->i<j+k->row.getD i 0=0)->k<=f->(k<f->row.getD (j+k) 0≠0)->ov row f j=j+k:=by
 induction k with
 |zero=>
  intro f j _ _ h
  cases f with
  |zero=>rfl
  |succ f=>rw[ov,aL (by have:=h (by omega);rwa [bw]at this)];rfl
 |succ k ih=>
  intro f j h0 hf h
  cases f with
  |zero=>omega
  |succ f=>
   rw[ov,if_pos (h0 j (aF _) (by omega)),ih f (j+1) (fun i h1 h2=>h0 i (by omega) (by omega)) (by omega) (fun h1=>by rw[Nat.add_assoc,Nat.add_comm 1 k];exact h (by omega))];omega
theorem Hj{row:List Rat}{cols k:Nat}(h0:∀i,i<k->row.getD i 0=0)(hk:k<=cols)(h:k<cols->row.getD k 0≠0):tR row cols=k:=by
 rw[tR,KI (k:=k) cols 0 (fun i _ h2=>h0 i (by omega)) hk (fun h1=>by rw[aR];exact h h1),aR]
abbrev xU:=List (List Rat)×List (Option Nat)×List Nat
def fW(E:List (List Rat))(at_:List (Option Nat))(row:List Rat):Nat->List Rat
 |0=>row
 |k+1=>match at_.getD k none with
  |some j=>mP (fW E at_ row k) (E.getD j []) ((fW E at_ row k).getD k 0)
  |none=>fW E at_ row k
theorem iA(E:List (List Rat))(at_:List (Option Nat))(row:List Rat):∀k,(fW E at_ row k).length=row.length
 |0=>rfl
 |k+1=>by
  rw[fW];split
  ·rw[tQ,iA E at_ row k]
  ·exact iA E at_ row k
def gJ(E:List (List Rat))(u:List Rat)(p i:Nat):List (List Rat):=E.mapIdx fun j r=>if j<i then mP r u (r.getD p 0)else r
def kI(cols:Nat)(s:xU)(i:Nat)(row:List Rat):xU:=
 let r:=fW s.1 s.2.1 row cols
 let p:=tR r cols
 if p=cols then s else
  let u:=r.map (· / r.getD p 0)
  (gJ s.1 u p s.1.length++[u],s.2.1.set p (some s.1.length),s.2.2++[i])
def gR(M:List (List Rat))(cols:Nat):Nat->xU
 |0=>([],List.replicate cols none,[])
 |i+1=>kI cols (gR M cols i) i (M.getD i [])
def dG(s:xU):Nat->List (List Rat)×List Nat×List Nat
 |0=>([],[],[])
 |k+1=>match s.2.1.getD k none with
  |some r=>((dG s k).1++[s.1.getD r []],(dG s k).2.1++[k],(dG s k).2.2++[s.2.2.getD r 0])
  |none=>dG s k
def dX(M:List (List Rat))(cols:Nat):List (List Rat)×List Nat×List Nat:=dG (gR M cols M.length) cols
structure tS(n cols i:Nat)(s:xU):Prop where
 len:fg n s.1
 at_:s.2.1.length=cols
 uh:s.2.2.length=s.1.length
 lt:∀(k r:Nat),s.2.1[k]? =some (some r)->r<s.1.length
 le:s.1.length<=i
 fr:∀j∈s.2.2,j<i
theorem fq(E:List (List Rat))(u:List Rat)(p i:Nat):(gJ E u p i).length=E.length:=List.length_mapIdx
theorem Gc(E:List (List Rat))(u:List Rat)(p:Nat):gJ E u p 0=E:=by
 refine bM fun j=>?_;rw[gJ,List.getElem?_mapIdx]
 cases E[j]? <;>rfl
theorem Eg{u:List Rat}{p i:Nat}(h:E[i]? =some r):(gJ E u p i)[i]? =some r:=by
 rw[gJ,List.getElem?_mapIdx,h];exact congrArg some (aL (Nat.lt_irrefl i))
theorem zG{u:List Rat}{p i:Nat}(h:E[i]? =some r):gJ E u p (i+1)=(gJ E u p i).set i (mP r u (r.getD p 0)):=by
 refine bM fun j=>?_;have hi:=(aD.1 h).1;by_cases hj:i=j
 ·subst hj;rw[aV (by rw[fq];exact hi),gJ,List.getElem?_mapIdx,h];exact congrArg some (if_pos (bZ i))
 ·rw[aY hj,gJ,gJ,List.getElem?_mapIdx,List.getElem?_mapIdx]
  cases E[j]? with
  |none=>rfl
  |some r=>
   have e:(j<i+1)↔(j<i):=by omega
   simp only[Option.map_some,e]
theorem Ik{u:List Rat}{p i n:Nat}(h:fg n E):fg n (gJ E u p i):=fun r hr=>by
 obtain⟨j,hj⟩:=aS hr;rw[gJ,List.getElem?_mapIdx]at hj
 cases hE:E[j]? with
 |none=>rw[hE]at hj;cases hj
 |some x=>
  rw[hE]at hj;have hx:=h x (aC hE);simp only[Option.map_some,Option.some.injEq]at hj;subst hj;split
  ·rw[tQ];exact hx
  ·exact hx
theorem tS.start(n cols:Nat):tS n cols 0 ([],List.replicate cols none,[]):=
 ⟨(fun r hr=>by cases hr),bF ..,rfl,(fun (k r:Nat) h=>by rw[List.getElem?_replicate]at h;split at h<;>cases h),aF _,fun j hj=>by cases hj⟩
theorem tS.step{n cols i:Nat}{s:xU}(h:tS n cols i s){row:List Rat}(hr:row.length=n):tS n cols (i+1) (kI cols s i row):=by
 unfold kI;dsimp only
 split
 ·exact⟨h.len,h.at_,h.uh,h.lt,Nat.le_succ_of_le h.le,fun j hj=>Nat.lt_succ_of_lt (h.fr j hj)⟩
 ·refine⟨fun r hm=>?_,by simp[h.at_],by simp[h.uh,fq],fun k r hk=>?_,?_,fun j hj=>?_⟩
  ·rcases bG.1 hm with hm|hm
   ·exact Ik h.len r hm
   ·rw[bB]at hm;subst hm;rw[aJ,iA,hr]
  ·dsimp only at hk ⊢;rw[List.length_append,fq,List.length_singleton];rw[List.getElem?_set]at hk;split at hk
   ·split at hk
    ·injection hk with hk;injection hk with hk;omega
    ·cases hk
   ·have:=h.lt k r hk;omega
  ·dsimp only
   rw[List.length_append,fq,List.length_singleton];have:=h.le;omega
  ·rcases bG.1 hj with hj|hj
   ·exact Nat.lt_succ_of_lt (h.fr j hj)
   ·rw[bB]at hj;omega
theorem zH{M:List (List Rat)}{n:Nat}(cols:Nat)(hM:fg n M):∀i,i<=M.length->tS n cols i (gR M cols i)
 |0,_=>tS.start n cols
 |i+1,hi=>by
  have hm:=aB (l:=M) (show i<M.length by omega);refine(zH cols hM i (by omega)).step ?_;rw[List.getD,hm];exact hM _ (aC hm)
structure eh where
 nodes:List (Int×Int×Int)
 bars:List (Int×Int×Rat)
 cV:List (Int×Int×Rat)
def eh.cols(f:eh):Nat:=f.bars.length+f.cV.length
def eh.node(f:eh)(n:Int):Int×Int×Int:=f.nodes.getD n.toNat (0,0,0)
def sP(f:eh)(b:Int×Int×Rat):List Int:=[(f.node b.2.1).1-(f.node b.1).1,(f.node b.2.1).2.1-(f.node b.1).2.1,(f.node b.2.1).2.2-(f.node b.1).2.2]
def tT(M:List (List Int))(r c:Nat)(d:Int):List (List Int):=M.set r ((M.getD r []).set c ((M.getD r []).getD c 0+d))
def putAt(M:List (List Int))(r c:Nat)(d:Int):List (List Int):=M.set r ((M.getD r []).set c d)
def eR(f:eh)(M:List (List Int))(i:Nat):Nat->List (List Int)
 |0=>M
 |k+1=>
  let b:=f.bars.getD i (0,0,0)
  let d:=(sP f b).getD k 0
  tT (tT (eR f M i k) (3*b.1+k).toNat i d) (3*b.2.1+k).toNat i (-d)
def df(f:eh):Nat->List (List Int)
 |0=>List.replicate (3*f.nodes.length) (List.replicate f.cols 0)
 |i+1=>eR f (df f i) i 3
def fA(f:eh):Nat->List (List Int)
 |0=>df f f.bars.length
 |i+1=>
  let s:=f.cV.getD i (0,0,0)
  putAt (fA f i) (3*s.1+s.2.1).toNat (f.bars.length+i) 1
def gu(f:eh):List (List Int):=fA f f.cV.length
def dN(l:List Int):List Rat:=l.map fun(n:Int)=>(n:Rat)
def cO(f:eh):List (List Rat):=(gu f).map dN
def fa(M:List (List Rat))(cols:Nat):List (List Rat):=(List.range cols).map fun k=>M.map fun r=>r.getD k 0
abbrev Ld:=Int×Int×Int×Int
def Hk(s:List Int)(r:Nat)(d:Int):List Int:=s.set r (s.getD r 0+d)
def cX(l:List Rat)(b:Rat):List Rat:=l.map (· *b)
def eO(a b:List Rat):List Rat:=a.mapIdx fun i x=>x*b.getD i 0
def cW(f:eh):List Rat:=f.bars.map (·.2.2)++f.cV.map (·.2.2)
def j5(M:List (List Rat))(b:List Rat):List (List Rat):=M.mapIdx fun i r=>r++[b.getD i 0]
def kJ(M:List (List Rat))(cols:Nat):List (List Rat):=dy (dX M cols).1 (dX M cols).2.1 cols cols
def jK(M:List (List Rat))(b:List Rat)(cols:Nat):Option (List Rat):=
 let e:=dX (j5 M b) (cols+1)
 if cols∈e.2.1 then none else some (fp e.1 e.2.1 cols e.2.1.length)
def eU(st:List (List Rat))(fl:List Rat):List (List Rat):=st.map fun s=>st.map fun r=>eF (eO s fl) r s.length
def gf(st:List (List Rat))(fl x:List Rat):List Rat:=st.map fun s=> -(eF (eO s fl) x s.length)
def kU(st:List (List Rat))(c x:List Rat):Nat->List Rat
 |0=>x
 |i+1=>(kU st c x i).mapIdx fun k q=>q+c.getD i 0*(st.getD i []).getD k 0
def fk:eh:=⟨[(0,0,0),(0,0,4),(3,0,0)],[(0,2,1),(1,2,1)],[(0,0,0),(0,1,0),(0,2,0),(1,0,0),(1,1,0),(1,2,0),(2,1,0)]⟩
def Ib(B:Nat)(q:Rat):Prop:=∃z:Int,q=(z:Rat)∧z.natAbs<=B
theorem Ib.mono(h:Ib B q)(k:B<=C):Ib C q:=let⟨z,e,b⟩:=h;⟨z,e,aZ b k⟩
theorem Ib.add(h:Ib B p)(k:Ib C q):Ib (B+C) (p+q):=by
 obtain⟨z,rfl,b⟩:=h;obtain⟨y,rfl,c⟩:=k;exact⟨z+y,by rw[Rat.intCast_add],by omega⟩
theorem Ib.mul(h:Ib B p)(k:Ib C q):Ib (B*C) (p*q):=by
 obtain⟨z,rfl,b⟩:=h;obtain⟨y,rfl,c⟩:=k;exact⟨z*y,by rw[Rat.intCast_mul],by rw[Int.natAbs_mul];exact Nat.mul_le_mul b c⟩
theorem Ib.neg(h:Ib B p):Ib B (-p):=by
 obtain⟨z,rfl,b⟩:=h;exact⟨-z,by rw[Rat.intCast_neg],by omega⟩
theorem Ib.sub(h:Ib B p)(k:Ib C q):Ib (B+C) (p-q):=by rw[Rat.sub_eq_add_neg];exact h.add k.neg
theorem Ib.zero(B:Nat):Ib B 0:=⟨0,rfl,aP _⟩
theorem Ib.one(h:1<=B):Ib B 1:=⟨1,rfl,h⟩
theorem Ib.int{z:Int}(h:z.natAbs<=B):Ib B (z:Rat):=⟨z,rfl,h⟩
theorem Ib.sum{B:Nat}{f:Nat->Rat}:∀(n:Nat),(∀k,k<n->Ib B (f k))->Ib (n*B) (cd f n)
 |0,_=>Ib.zero _
 |n+1,h=>by rw[cd,Nat.succ_mul];exact(Ib.sum n fun k hk=>h k (by omega)).add (h n (by omega))
def fB(B:Nat):Nat->Nat
 |0=>1
 |n+1=>(n+1)*(B*fB B n)
theorem Ib.sO{k:Nat}(h:Ib B q):Ib B (sO k*q):=by
 unfold Go.Ex.sO;split
 ·rw[show (-1:Rat)*q= -q by grind];exact h.neg
 ·rw[bu];exact h
theorem Ib.det{B:Nat}:∀(n:Nat) {m:Mx},(∀i j,i<n->j<n->Ib B (m i j))->Ib (fB B n) (fh n m)
 |0,_,_=>Ib.one (aF _)
 |n+1,m,h=>by
  unfold fh fB;exact Ib.sum (n+1) fun k hk=>((h 0 k (by omega) hk).mul (Ib.det n fun i j hi hj=>h (i+1) (skip k j) (by omega) (Hg hj))).sO
theorem Hl(B n:Nat):B*fB B n<=fB B (n+1):=Nat.le_mul_of_pos_left _ (Nat.succ_pos n)
theorem MJ(h:1<=B)(n:Nat):fB B n<=fB B (n+1):=aZ (Nat.le_mul_of_pos_left _ h) (Hl B n)
theorem ql{B a:Nat}(h:1<=B):∀{b:Nat},a<=b->fB B a<=fB B b
 |0,k=>by rw[Nat.le_zero.1 k];exact aF _
 |b+1,k=>by
  rcases aO b a with h1|h1
  ·rw[show a=b+1 by omega];exact aF _
  ·exact aZ (ql h h1) (MJ h b)
theorem Mu{B R:Nat}:∀{n:Nat},n<=R->fB B n<=(R*B)^n
 |0,_=>aF _
 |n+1,h=>by
  rw[fB,Nat.pow_succ,<-bf,bW _ (R*B)];exact Nat.mul_le_mul (Nat.mul_le_mul_right B h) (Mu (by omega))
theorem Mv{R l n:Nat}(hn:n<=R)(h:R*B<=wt l):ln (fB B n)<=l*n+1:=by
 rw[gI,iy];have h1:=aZ (Mu (B:=B) hn) (Nat.pow_le_pow_left h n);rw[uy,<-Nat.pow_mul]at h1;have h2:=uy (l*n);have h3:=yn (l*n);rw[show 32*l*n=32*(l*n) by rw[bf]]at h1;omega
theorem yJ{K:Nat}{D:Rat}(h0:D≠0)(hD:Ib K D)(hq:Ib K (D*q)):rl q<=ln K:=by
 obtain⟨d,rfl,b⟩:=hD;obtain⟨z,e,c⟩:=hq;have hd:d≠0:=fun e=>h0 (by rw[e];rfl);have e2:q=Rat.divInt z d:=by
  rw[Rat.divInt_eq_div,<-e,bg,bo (d:Rat) q,Rat.mul_assoc,Rat.mul_inv_cancel _ h0,Rat.mul_one]
 have:=jx (a:=z) hd;have:=fI b;have:=fI c;rw[e2];omega
theorem Im{n r:Nat}(h:r<n):fh n (gO m r fun _=>0)=0:=by
 have h1:=nP 1 n r m h (fun _=>0) fun _=>0;rw[show (fun _:Nat=>(0:Rat)+1*0)=fun _=>0 from funext fun _=>by grind]at h1;grind
theorem zK{n r:Nat}{m:Mx}(h:r<n)(c:Nat->Rat)(v:Nat->Nat->Rat):∀s,fh n (gO m r fun j=>cd (fun k=>c k*v k j) s)=cd (fun k=>c k*fh n (gO m r (v k))) s
 |0=>Im h
 |s+1=>by
  have h1:=nP (c s) n r m h (fun j=>cd (fun k=>c k*v k j) s) (v s);rw[zK h c v s]at h1;exact h1
theorem Hm{n a b:Nat}(hb:b<n)(PY:a<b)(he:∀j,j<n->m a j=m b j):fh n m=0:=by
 obtain⟨b,rfl⟩:∃k,b=k+1:=⟨b-1,by omega⟩
 cases a with
 |zero=>exact oJ b n m hb he
 |succ a=>
  have h1:=Ig (m:=m) (k:=a) (n:=n) (by omega);rw[oJ b n _ hb fun j hj=>?_]at h1
  ·grind
  ·rw[show wV 0 (a+1) 0=a+1 by unfold wV;rw[if_pos rfl],show wV 0 (a+1) (b+1)=b+1 by unfold wV;rw[aL (by omega),aL (by omega)]];exact he j hj
theorem Eh{n a b:Nat}(ha:a<n)(hb:b<n)(PY:a≠b)(he:∀j,j<n->m a j=m b j):fh n m=0:=by
 rcases Nat.lt_or_gt_of_ne PY with h|h
 ·exact Hm hb h he
 ·exact Hm ha h fun j hj=>(he j hj).symm
section
variable{E Z:Mx}{p:Nat->Nat}{r n:Nat}{v:Nat->Rat}
theorem Ru.coeff(h:Ru E p r n)(hv:eG E r n v):∀t,t<n->v t=cd (fun i=>v (p i)*E i t) r:=by
 obtain⟨c,hc⟩:=hv;intro t ht;rw[hc t ht];refine cL fun i hi=>?_;rw[hc (p i) (h.lt i hi),gE hi fun k hk OH=>by rw[h.unit i k hi hk,aL OH,bD],h.unit i i hi hi,if_pos rfl,Rat.mul_one]
def tU(Z:Mx)(p:Nat->Nat)(r:Nat):Rat:=fh r fun j i=>Z (r-1-i) (p (r-1-j))
theorem NY(h:Ru E p r n)(hZ:∀i,i<r->eG E r n (Z i)){k t:Nat}(hk:k<r)(ht:t<n):
  tU Z p r*E k t=fh r (gO (fun j i=>Z (r-1-i) (p (r-1-j))) (r-1-k) fun i=>Z (r-1-i) t):=by
 have e:∀i j,i<r->j<r->gO (fun j i=>Z (r-1-i) (p (r-1-j))) (r-1-k) (fun i=>Z (r-1-i) t) i j=gO (fun j i=>Z (r-1-i) (p (r-1-j))) (r-1-k) (fun i=>cd (fun j=>E j t*Z (r-1-i) (p j)) r) i j:=fun i j hi hj=>by
  unfold gO;split
  ·show Z (r-1-j) t=cd (fun l=>E l t*Z (r-1-j) (p l)) r;rw[h.coeff (hZ (r-1-j) (by omega)) t ht];exact cL fun l _=>bo _ _
  ·rfl
 rw[ia e,zK (v:=fun k i=>Z (r-1-i) (p k)) (by omega),gE hk fun j hj OH=>?_]
 ·rw[show gO (fun j i=>Z (r-1-i) (p (r-1-j))) (r-1-k) (fun i=>Z (r-1-i) (p k))=fun j i=>Z (r-1-i) (p (r-1-j))from ?_]
  ·rw[tU,bo]
  ·funext i j
   unfold gO;split
   ·rename_i hi;rw[hi,show r-1-(r-1-k)=k by omega]
   ·rfl
 ·rw[Eh (a:=r-1-k) (b:=r-1-j) (by omega) (by omega) (by omega) fun i hi=>?_,bD];unfold gO;rw[if_pos rfl,aL (by omega)];show Z (r-1-i) (p j)=Z (r-1-i) (p (r-1-(r-1-j)));rw[show r-1-(r-1-j)=j by omega]
theorem NZ(h:Ru E p r n)(hZ:∀i,i<r->eG E r n (Z i)){t:Nat}(ht:t<n):
  fh (r+1) (fun j i=>if j=0 then Z (r-i) t else Z (r-i) (p (r-j)))=mJ E p r (Z r) n t*tU Z p r:=by
 obtain⟨m,hm⟩:∃m:Mx,m=fun j i=>if j=0 then Z (r-i) t else Z (r-i) (p (r-j)):=⟨_,rfl⟩
 obtain⟨w,hw⟩:∃w:Nat->Rat,w=fun i=>if i=0 then mJ E p r (Z r) n t else 0:=⟨_,rfl⟩
 rw[<-hm];have OG:∀j,j<r->∀i,m (r-j) i=Z (r-i) (p j):=fun j hj i=>by rw[hm];simp only;rw[aL (by omega),show r-(r-j)=j by omega]
 have e:∀i j,i<r+1->j<r+1->m i j=gO m 0 (fun i=>w i+1*cd (fun j=>E j t*m (r-j) i) r) i j:=fun i j hi hj=>by
  unfold gO;split
  ·rename_i h0;subst h0;show m 0 j=w j+1*cd (fun l=>E l t*m (r-l) j) r;rw[cL (g:=fun l=>E l t*Z (r-j) (p l)) fun l hl=>by rw[OG l hl],bu,hw];simp only
   by_cases Uv:j=0
   ·rw[if_pos Uv,Uv,hm];simp only[if_pos,Nat.sub_zero]
    unfold mJ;rw[cL (f:=fun i=>if p i<n then Z r (p i)*E i t else 0) (g:=fun i=>E i t*Z r (p i)) fun l hl=>by rw[if_pos (h.lt l hl),bo]];grind
   ·rw[aL Uv,Rat.zero_add,hm];simp only[if_pos]
    rw[h.coeff (hZ (r-j) (by omega)) t ht];exact cL fun l _=>bo _ _
  ·rfl
 rw[ia e,nP 1 (r+1) 0 m (by omega),zK (v:=fun k i=>m (r-k) i) (by omega),cL (g:=fun _=>0) fun j hj=>?_,eC,bD,bX]
 ·rw[fh,gE (i:=0) (by omega) fun k hk OH=>?_]
  ·unfold gO;rw[if_pos rfl,hw];simp only[if_pos]
   rw[show sO 0=1 by decide,bu,tU,ia fun i j hi hj=>?_];rw[aL (by omega),hm];simp only
   rw[aL (by omega),show skip 0 j=j+1 by unfold skip;rw[aL (by omega)],show r-(j+1)=r-1-j by omega,show r-(i+1)=r-1-i by omega]
  ·unfold gO;rw[if_pos rfl,hw];simp only
   rw[aL OH,bL,bD]
 ·rw[Eh (a:=0) (b:=r-j) (by omega) (by omega) (by omega) fun i _=>?_,bD];unfold gO;rw[if_pos rfl,aL (by omega)]
theorem MK(d:Rat)(k t:Nat):mJ E p r (fun t=>d*v t) k t=d*mJ E p r v k t:=by
 unfold mJ;rw[cL (g:=fun i=>d*if p i<k then v (p i)*E i t else 0) fun i _=>?_,ek]
 ·grind
 ·split
  ·rw[Rat.mul_assoc]
  ·rw[bD]
theorem ML(h:Ru E p r n){x:Nat->Rat}(hx:eG E r n fun t=>v t+ -(x t))(h0:∀i,i<r->x (p i)=0){t:Nat}(ht:t<n):x t=mJ E p r v n t:=by
 have h1:=h.coeff hx t ht;unfold mJ;rw[cL (g:=fun i=>v (p i)*E i t) fun i hi=>if_pos (h.lt i hi)];rw[cL (g:=fun i=>v (p i)*E i t) fun i hi=>by rw[h0 i hi];grind]at h1;grind
end
structure zL(E:Mx)(p:Nat->Nat)(r n B:Nat)(Z:Mx):Prop where
 ru:Ru E p r n
 sp:∀i,i<r->eG E r n (Z i)
 ib:∀i t,i<r->t<n->Ib B (Z i t)
 nz:tU Z p r≠0
section
variable{E Z:Mx}{p:Nat->Nat}{r n B k:Nat}{v u:Nat->Rat}
theorem zL.start(E Z:Mx)(p:Nat->Nat)(n B:Nat):zL E p 0 n B Z:=
 ⟨⟨fun _ h=>(by omega),fun _ _ h=>(by omega),fun _ _ h=>(by omega),fun _ _ h=>(by omega)⟩,fun _ h=>(by omega),fun _ _ h=>(by omega),by show(1:Rat)≠0;decide⟩
theorem zL.push(h:zL E p r n B Z)(hd:d≠0)(hz:∀t,t<n->Ib B (d*v t))(hu:∀t,t<n->u t=mJ E p r v n t)(hk:k<n)(h0:u k≠0)(hl:∀t,t<k->u t=0):
  zL (kf E r u k) (fun i=>if i=r then k else p i) (r+1) n B fun i t=>if i=r then d*v t else Z i t:=by
 refine⟨h.ru.push hk (fun i hi=>by rw[hu _ (h.ru.lt i hi),Hh h.ru hi]) h0 hl,fun i hi=>?_,fun i t hi ht=>?_,?_⟩
 ·by_cases h1:i=r
  ·exact((Bh h0 hu h.ru.lt).mul d).congr fun t _=>by simp only[if_pos h1];rw[bo]
  ·exact((h.sp i (by omega)).trans fun j hj=>qk h0 j hj).congr fun t _=>by simp only[aL h1]
 ·by_cases h1:i=r
  ·simp only[if_pos h1];exact hz t ht
  ·simp only[aL h1];exact h.ib i t (by omega) ht
 ·have hb:=NZ (Z:=fun i t=>if i=r then d*v t else Z i t) h.ru (fun i hi=>(h.sp i hi).congr fun t _=>by simp only[aL (Nat.ne_of_lt hi)]) hk;have e1:tU (fun i t=>if i=r then d*v t else Z i t) p r=tU Z p r:=ia fun i j hi hj=>by simp only;rw[aL (by omega)]
  simp only[if_pos]at hb;rw[MK,<-hu k hk,e1]at hb;have e2:tU (fun i t=>if i=r then d*v t else Z i t) (fun i=>if i=r then k else p i) (r+1)=d*u k*tU Z p r:=by
   rw[<-hb];refine ia fun i j hi hj=>?_;by_cases h1:i=0
   ·subst h1;simp only[if_true]
    rw[if_pos (show r+1-1-0=r by omega),show r+1-1-j=r-j by omega]
   ·simp only[aL h1]
    rw[aL (show ¬r+1-1-i=r by omega),show r+1-1-j=r-j by omega,show r+1-1-i=r-i by omega]
  rw[e2];have OU:∀{a b:Rat},a≠0->b≠0->a*b≠0:=fun ha hb e=>by
   rcases Rat.mul_eq_zero.1 e with h|h
   ·exact ha h
   ·exact hb h
  exact OU (OU hd h0) h.nz
theorem zL.den(h:zL E p r n B Z):Ib (fB B r) (tU Z p r):=Ib.det r fun i j hi hj=>h.ib _ _ (by omega) (h.ru.lt _ (by omega))
theorem zL.ent(h:zL E p r n B Z){i t:Nat}(hi:i<r)(ht:t<n):Ib (fB B r) (tU Z p r*E i t):=by
 rw[NY h.ru h.sp hi ht];refine Ib.det r fun j l hj hl=>?_;unfold gO;split
 ·exact h.ib _ _ (by omega) ht
 ·exact h.ib _ _ (by omega) (h.ru.lt _ (by omega))
theorem zL.KJ(h:zL E p r n B Z){i t:Nat}(hi:i<r)(ht:t<n):rl (E i t)<=ln (fB B r):=yJ h.nz h.den (h.ent hi ht)
theorem zL.mJ(h:zL E p r n B Z)(hz:∀t,t<n->Ib B (d*v t))(k:Nat){t:Nat}(ht:t<n):Ib (fB B (r+1)) (d*tU Z p r*mJ E p r v k t):=by
 unfold Go.Ex.mJ;rw[show ∀a b c s:Rat,a*b*(c-s)=b*(a*c)-(a*b)*s from fun a b c s=>by grind,<-ek,fB,Nat.succ_mul,Nat.add_comm];refine Ib.sub (by rw[bW B];exact h.den.mul (hz t ht)) (Ib.sum r fun i hi=>?_);split
 ·rw[show ∀a b c s:Rat,a*b*(c*s)=(a*c)*(b*s)from fun a b c s=>by grind];exact(hz _ (h.ru.lt i hi)).mul (h.ent hi ht)
 ·rw[bD];exact Ib.zero _
theorem zL.KK(h:zL E p r n B Z)(hB:1<=B)(hd:d≠0)(hdB:Ib B d)(hz:∀t,t<n->Ib B (d*v t))(k:Nat){t:Nat}(ht:t<n):Go.Ex.rl (Go.Ex.mJ E p r v k t)<=ln (fB B (r+1)):=
 yJ (fun e=>by rcases Rat.mul_eq_zero.1 e with e|e;exact hd e;exact h.nz e) ((hdB.mul h.den).mono (Hl B r)) (h.mJ hz k ht)
end
def Bi(M:List (List Rat))(n B:Nat):Prop:=∀j,j<M.length->∃d:Rat,d≠0∧Ib B d∧∀t,t<n->Ib B (d*dL M j t)
end Go.Ex
