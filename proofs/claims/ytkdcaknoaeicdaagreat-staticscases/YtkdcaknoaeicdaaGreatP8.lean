/- Texts X79 to L40: lemmas, each with its conditions. -/
import Derived.Test.YtkdcaknoaeicdaaGreatP7
namespace Go.Ex
open Go Go.Sx Go.Proofs
variable{H:Hp}{iv:Iv}{css:List (List Value)}{ps:List Nat}{qs:List Rat}{cs:List Value}{B nx:Nat}{S:Nat->Prop}{O:Nat->Sx.di}{v:Value}{w w':World}
theorem aA7{x:Nat}(hS:Old S w)(h:dC w S v ps):
  eD PG N.DE #[v,.int .i64 x] w (eG w fun v' _=>v'= .bool (decide (x∈ps))):=by
 obtain⟨h0,h1,h2,a,c,rfl,hc,Oy⟩:=h;unfold maxLen at h0;refine EO (by simp) ?_
 refine⟨Nat×World,fun z=>⟨[(0,sV a ps.length c),(1,iZ x),(5,iN z.1)],[],0,[],z.2⟩,fun z=>ps.length-z.1,
  fun z=>z.1<=ps.length∧dm w.heap.size w z.2∧∀(j:Nat) y,j<z.1->ps[j]? =some y->y≠x,?_,?_⟩
 ·intro O w' r;exact⟨(0,w'),⟨by simp,r.cQ,fun j y hj=>by dsimp only at hj;omega⟩,Sub.gn [] r⟩
 rintro⟨i,w1⟩ ⟨hi,hw,ht⟩;dsimp only at hi hw ht ⊢;refine dI.mk ?_ ?_<;>intro OI
 ·have OI:i<ps.length:=by simpa using OI
  obtain⟨y,hy⟩:∃y,ps[i]? =some y:=⟨_,aB OI⟩
  obtain⟨ad,rfl,q1,q2⟩:=Oy i (.int .i64 (y:Int)) (by rw[aM,hy];rfl);refine⟨ad,rfl,by omega,.int .i64 (y:Int),fun O w' r=>by rw[aE,aU];exact kR hS hw r q1 q2,?_⟩;refine dI.mk ?_ ?_<;>intro he
  ·have US:(y:Int)=x:=by simpa using he
   have VA:y=x:=by omega
   intro O w2 r;exact⟨_,rfl,hw.tr r.cQ,by rw[bS (by rw[<-VA];exact aC hy)];rfl⟩
  have US:¬(y:Int)=x:=by simpa using he
  refine⟨((i+1:Nat):Int),wo,?_⟩;intro ρ3 w3 r3
  exact⟨(i+1,w3),⟨OI,hw.tr r3.cQ,fun j z hj hz=>by
   by_cases PH:j=i
   ·subst PH;rw[hy]at hz;injection hz with hz;omega
   ·exact ht j z (by dsimp only at hj;omega) hz⟩,Sub.gn [] r3,by dsimp only;omega⟩
 have OI:i=ps.length:=aP hi (by simpa using OI);intro O w2 r;refine⟨_,rfl,hw.tr r.cQ,?_⟩
 rw[bN (fun hm=>by
  obtain⟨j,hj,e⟩:=List.mem_iff_getElem.1 hm
  exact ht j _ (by omega) (aB hj) e)]
 rfl
def dQ(w:World)(S:Nat->Prop)(rv:List Value)(K:List (List Rat)):Prop:=rv.length=K.length∧(∀u∈rv,u.oneCell'=true)∧∀(i:Nat) u r,rv[i]? =some u->K[i]? =some r->cN w S u r
section
variable{S S':Nat->Prop}{H:Hp}{nx:Nat}{iv iv':Iv}{B:Nat}{w w' w2:World}{O:Nat->Sx.di}{rv:List Value}{K:List (List Rat)}
theorem dQ.cI(h:dQ w S rv K)(hk:∀g,S g->w2.heap[g]? =w.heap[g]?):dQ w2 S rv K:=⟨h.1,h.2.1,fun i u x h1 h2=>cN.cI (h.2.2 i u x h1 h2) hk⟩
theorem dQ.cJ(h:dQ w S rv K)(hk:∀g,S g->S' g):dQ w S' rv K:=⟨h.1,h.2.1,fun i u x h1 h2=>cN.cJ (h.2.2 i u x h1 h2) hk⟩
theorem dQ.rel(h:dQ w (Cv S B iv) rv K)(r:Rel H nx iv B w O w')(hS:∀g,S g->g<B):dQ w' (Cv S B iv) rv K:=h.cI fun _ hg=>Rel.same r hS hg
theorem dQ.cG(h:dQ w (Cv S B iv) rv K)(r:Rel H nx iv B w O w')(hS:∀g,S g->g<B)(he:Ext w' w2)(hm:∀p,p∈iv->p∈iv'):dQ w2 (Cv S B iv') rv K:=
 ((h.rel r hS).cI fun g hg=>he.block g (Rel.old r hS g hg)).cJ fun _ hg=>hg.mono hm
theorem dQ.push{u:Value}{x:List Rat}(h:dQ w S rv K)(hu:u.oneCell'=true)(hx:cN w S u x):dQ w S (rv++[u]) (K++[x]):=by
 refine⟨by simp[h.1],fun v hv=>?_,fun i v y h1 h2=>?_⟩
 ·rcases bK.1 hv with hv|hv
  ·exact h.2.1 v hv
  ·simp at hv;subst hv;exact hu
 ·rcases aQ i rv.length with hi|hi
  ·rw[aL hi]at h1;rw[aL (by rw[<-h.1];exact hi)]at h2;exact h.2.2 i v y h1 h2
  ·have Rp:i=rv.length:=by have:=(aD.1 h1).1;simp at this;omega
   subst Rp;rw[aN (aF _),bL]at h1;rw[h.1,aN (aF _),bL]at h2;simp at h1 h2;subst h1 h2;exact hx
end
theorem aAl(r:Rel H nx iv B w O w'){id n:Nat}(h:dE H id=some (.arr T.Rat css.flatten))(hl:css.length=n)(h4:∀cs∈css,cs.length=4)(hn:n<=maxLen):
  w'.ownsRow 0 T.Rat 4 (.slice (some ⟨(O id).g,0,none⟩) n n) n css.flatten:=by
 have hf:=eK h4;rw[hl]at hf;exact⟨hf,.inr ⟨(O id).g,n,css.flatten.toArray,rfl,aO _,r.arr id _ _ h,aF _,hn,by simpa using hf,by rw[<-hf];exact bG⟩⟩
theorem df.kD(r:Rel H nx iv B w O w'){id n:Nat}(h:dE H id=some (.arr T.Rat css.flatten))(hl:css.length=n)(hn:n<=maxLen)(hc:Fc w (Cv FF B iv) css qs):
  df w' S B (((O id).g,(O id).g+1)::iv) (.slice (some ⟨(O id).g,0,none⟩) n n) n qs:=by
 refine⟨⟨css,aAl r h hl hc.xC hn,hl,(hc.cI fun g hg=>Rel.same r (gg B) hg).cJ fun g hg=>⟨?_,fun e=>?_⟩⟩,fun g hg=>?_⟩
 ·exact yE (hg.mono fun p hp=>List.mem_cons_of_mem _ hp)
 ·injection e with e;exact Rel.not r (gg B) hg id _ h (r.fits h).1 e
 ·injection hg with hg;subst hg;exact .inr ⟨(r.low id _ h (r.fits h).1).1,_,_,aG,aF _,b9 _⟩
theorem df.aBD{n:Nat}(h:df w S B iv v n qs):cN w (Cv S B iv) v qs:=by
 obtain⟨css,h1,h2⟩:=h.read;exact⟨css,h1,h2.1,h2.xC,h2.2⟩
def jM(w:World)(S:Nat->Prop)(css:List (List Value))(k:Nat):Prop:=∀(j:Nat) cs,j<k->css[j]? =some cs->iB w S cs 0
theorem jM.rel{k:Nat}(h:jM w (Cv S B iv) css k)(r:Rel H nx iv B w O w')(hS:∀g,S g->g<B):jM w' (Cv S B iv) css k:=fun j cs h1 h2=>(h j cs h1 h2).cI fun _ hg=>Rel.same r hS hg
theorem jM.cG{iv':Iv}{w2:World}{k:Nat}(h:jM w (Cv S B iv) css k)(r:Rel H nx iv B w O w')(hS:∀g,S g->g<B)(he:Ext w' w2)(hm:∀p,p∈iv->p∈iv'):jM w2 (Cv S B iv') css k:=fun j cs h1 h2=>
 (((h.rel r hS) j cs h1 h2).cI fun g hg=>he.block g (Rel.old r hS g hg)).cJ fun _ hg=>hg.mono hm
theorem jM.push{k:Nat}(h:jM w S css k)(hc:iB w S cs 0):jM w S (css.set k cs) (k+1):=fun j x hj hx=>by
 rw[List.getElem?_set]at hx;split at hx
 ·split at hx
  ·injection hx with hx;subst hx;exact hc
  ·cases hx
 ·exact h j x (by omega) hx
theorem GV{k:Nat}(h:∀x∈css,x.length=4)(hc:cs.length=4):∀x∈css.set k cs,x.length=4:=fun x hx=>by
 rcases bF hx with h1|h1
 ·exact h x h1
 ·rw[h1];exact hc
theorem jM.one{c n:Nat}(h:jM w S css n)(hl:css.length=n)(hc:iB w S cs 1):Fc w S (css.set c cs) ((List.replicate n 0).set c 1):=by
 refine⟨by simp[hl],fun j x q h1 h2=>?_⟩;rw[List.getElem?_set]at h1 h2;by_cases hj:c=j
 ·rw[if_pos hj]at h1 h2;split at h1
  ·split at h2
   ·injection h1 with h1;injection h2 with h2;subst h1 h2;exact hc
   ·cases h2
  ·cases h1
 ·rw[aK hj]at h1 h2;have hjn:j<n:=by have:=(aD.1 h1).1;omega
  rw[List.getElem?_replicate,if_pos hjn]at h2;injection h2 with h2;subst h2;exact h j x hjn h1
end Go.Ex
namespace Go.Ex
theorem Kt(s:List (List Rat)×List Nat)(c:Nat):(db s c).2=s.2∨(db s c).2=s.2++[c]:=by
 unfold db;split
 ·dsimp only
  split
  ·exact .inl rfl
  ·exact .inr rfl
 ·exact .inl rfl
theorem iK(M:List (List Rat)):∀c:Nat,(∀p∈((List.range c).foldl db (M,[])).2,p<c)∧(((List.range c).foldl db (M,[])).2).Pairwise (· < ·)∧((List.range c).filter fun j=>decide (j∉((List.range c).foldl db (M,[])).2)).length+((List.range c).foldl db (M,[])).2.length=c:=by
 intro c
 induction c with
 |zero=>simp
 |succ c ih=>
  rw[bT,List.foldl_append,List.foldl_cons,List.foldl_nil];generalize (List.range c).foldl db (M,[])=s at*
  obtain⟨h1,h2,h3⟩:=ih;have hc:c∉s.2:=fun h=>by have:=h1 c h;omega
  rcases Kt s c with e|e
  ·rw[e];refine⟨fun p hp=>by have:=h1 p hp;omega,h2,?_⟩;rw[List.filter_append,List.length_append];simp only[List.filter_cons,hc,not_false_eq_true,decide_true,if_true,List.filter_nil,List.length_singleton]
   omega
  ·rw[e];refine⟨fun p hp=>?_,?_,?_⟩
   ·rcases bK.1 hp with hp|hp
    ·have:=h1 p hp;omega
    ·simp at hp;omega
   ·rw[List.pairwise_append];exact⟨h2,by simp,fun a ha b hb=>by simp at hb;subst hb;exact h1 a ha⟩
   ·rw[List.filter_append,List.length_append];have:(List.range c).filter (fun j=>decide (j∉s.2++[c]))=(List.range c).filter (fun j=>decide (j∉s.2)):=List.filter_congr fun j hj=>by
     have:=List.mem_range.1 hj;have OJ:j≠c:=by omega
     simp[OJ]
    have h0:(([c]:List Nat).filter fun j=>decide (j∉s.2++[c])).length=0:=by simp
    rw[this,List.length_append,List.length_singleton,h0];omega
end Go.Ex
namespace Go.Ex
open Go Go.Sx Go.Proofs
variable{next:Act->World->Prop}{Q:Exit->Act->World->Prop}{K:KT}{cs:List Value}{O:Nat->Sx.di}
section
variable{S S':Nat->Prop}{H:Hp}{nx:Nat}{iv iv':Iv}{B:Nat}{w w' w2:World}{O:Nat->Sx.di}{v:Value}{M:List (List (Int×Int))}
end
def fQ(xs ys:List Rat):Nat->Rat
 |0=>0
 |i+1=>fQ xs ys i+xs.getD i 0*ys.getD i 0
theorem BM{xs ys:List Rat}{h:Nat}(hx:∀q∈xs,rl q+1<=h)(hy:∀q∈ys,rl q+1<=h)(h2:2<=h):∀i:Nat,rl (fQ xs ys i)<=2*h*i+2
 |0=>by rw[fQ];exact aY (by decide:rl 0<=2) (by omega)
 |i+1=>by
  have h3:=BM hx hy h2 i;have h4:=nP (fQ xs ys i) (xs.getD i 0*ys.getD i 0);have h5:=j9 (xs.getD i 0) (ys.getD i 0);have h6:=Io hx h2 i;have h7:=Io hy h2 i;rw[fQ,bW];omega
section
variable{S S':Nat->Prop}{H:Hp}{nx:Nat}{iv iv':Iv}{B:Nat}{w w' w2:World}{O:Nat->Sx.di}{v:Value}{qs:List Rat}
end
section
variable{S S':Nat->Prop}{H:Hp}{nx:Nat}{iv iv':Iv}{B:Nat}{w w' w2:World}{O:Nat->Sx.di}{v:Value}{M:List (List Rat)}
end
section
variable{S S':Nat->Prop}{H:Hp}{nx:Nat}{iv iv':Iv}{B:Nat}{w w' w2:World}{O:Nat->Sx.di}{v:List Value}{M:List (List Rat)}
end
theorem nd(w:World)(t e:TypeId)(a:Option Addr)(n c n' c':Nat)(h:PG.underlying t=some (.slice e)):
  (binOp .eql t (.slice a n c) (.slice none n' c')).run PG w= .ok (.bool a.isNone) w:=by
 have:∀d,(Op.equalIn (d+1) t (.slice a n c) (.slice none n' c')).run PG w= .ok a.isNone w:=fun d=>by cases a<;>simp[Op.equalIn,run_underlying h]
 simp only[binOp]
 cases a<;>simp[Op.equal,Op.maxDepth,this 9999]
abbrev vmO(gm R:Nat):Value:=.slice (some ⟨gm,0,none⟩) R R
def Lm'(S:Nat->Prop)(B:Nat)(iv:Iv)(gm R:Nat)(rv:List Value)(g:Nat):Prop:=Cv S B iv g∧¬Mb (vmO gm R) rv g
structure aBT(w:World)(S:Nat->Prop)(B:Nat)(iv:Iv)(gm R n:Nat)(rv:List Value)(M:List (List Rat)):Prop where
 mat:aAx w (Lm' S B iv gm R rv) (vmO gm R) rv n M
 zU:∀g,Mb (vmO gm R) rv g->Cv FF B iv g
 rows:rv.length=R
section
variable{S S':Nat->Prop}{H:Hp}{nx gm R n:Nat}{iv iv':Iv}{B:Nat}{w w' w2:World}{O:Nat->Sx.di}{rv:List Value}{M:List (List Rat)}
structure aB3(w:World)(S:Nat->Prop)(B:Nat)(iv:Iv)(gm R n:Nat)(rv:List Value)(M:List (List Rat))(i:Nat)(vb:Value):Prop where
 out:w.ownsRow 0 T.row 1 (vmO gm R) R (rv.set i vb)
 was:∃w0,aBT w0 S B iv gm R n rv M∧∀g,Cv S B iv g->g≠gm->w.heap[g]? =w0.heap[g]?
end
section
variable{S:Nat->Prop}{H:Hp}{nx gm R:Nat}{iv iv':Iv}{B:Nat}{w w' w2:World}{O:Nat->Sx.di}{rv:List Value}{css:List (List Value)}{qs:List Rat}
end
inductive Tp where
 |nil
 |x (i:Nat) (t:Tp)
 |two (i:Nat) (t:Tp) (j:Nat) (u:Tp)
 |kD (id:Nat) (t:Tp)
def vX(ops:Array Oper):Tp->Array Bool->Bool
 | .nil,lx=>(Region.ready .any ops lx).isEmpty
 | .x i t,lx=>match ops[i]? with
  |none=>false
  |some o=>(Region.ready .any ops lx).contains i&&((Region.ready .any ops lx).all (fun j=>Nat.beq j i)||tn o.op&&Et ops (ia lx.toList 0) [] i o)&&vX ops t (lx.setIfInBounds i true)
 | .two i t j u,lx=>match Region.ready .any ops lx with
  |[a,b]=>Nat.beq a i&&(Nat.beq b j&&(vX ops t (lx.setIfInBounds i true)&&vX ops u (lx.setIfInBounds j true)))
  |_=>false
 | .kD _ t,lx=>vX ops t lx
def KW(P:Program)(τ:nW)(B:Nat)(all:List Oper):Tp->Env->Hp->Nat->Iv->World->KT->Prop
 | .nil,l,H,nx,iv,w,K=>K l H nx iv w
 | .x i t,l,H,nx,iv,w,K=>oT all i (fun o=>fk (!fH o) P τ B all o l H nx iv w (fun l' H' OO iv' w'=>KW P τ B all t l' H' OO iv' w' K))
 | .two i t j u,l,H,nx,iv,w,K=>oT all i (fun o=>fk (!fH o) P τ B all o l H nx iv w (fun l' H' OO iv' w'=>KW P τ B all t l' H' OO iv' w' K))∧
   oT all j (fun o=>fk (!fH o) P τ B all o l H nx iv w (fun l' H' OO iv' w'=>KW P τ B all u l' H' OO iv' w' K))
 | .kD id t,l,H,nx,iv,w,K=>∃H' b,dE H id=some b∧b≠ .dead∧vq H H'∧Er id H'=true∧∀O w',Rel H nx iv B w O w'->(O id).nil=false∧∃l',(∀u v,fT l' u=some v->v.sc nx∧∃v',fT l u=some v'∧v'.den O=v.den O)∧KW P τ B all t l' H' nx (((O id).g,(O id).g+1)::iv) w' K
section
variable{P:Program}{τ:nW}{ops:Array Oper}{B n nx:Nat}{l:Env}{H:Hp}{iv:Iv}{w w':World}{O:Nat->Sx.di}{a:Act}
theorem Mi(hτ:fO P τ)(OM:∀(j:Nat) o,ops[j]? =some o->∀d,o.dst=some d->d<n){i:Nat}
  (h:oT ops.toList i (fun o=>fk (!fH o) P τ B ops.toList o l H nx iv w K)) (sat:Sat n l H nx iv B w O a w')
  (hn:∀l' H' OO iv' w2 ρ' a' w3,K l' H' OO iv' w2->Sat n l' H' OO iv' B w2 ρ' a' w3->next a' w3):
  wpOp P ops Q i (fun a' w2=>((∀o,ops[i]? =some o->pX o=false)->Ext w' w2)∧next a' w2) a w':=by
 obtain⟨o,ho,h1⟩:=gE h;rw[bC]at ho;have hd:=OM i o ho;unfold fk at h1;refine me ho ?_;rcases jF sat h1 with⟨hw,l1,h2,sat1⟩|⟨hw,l1,h2,sat1⟩
 ·refine .inl ⟨hw,?_⟩
  cases hR:tn o.op with
  |true=>
   obtain⟨v,hK,Qp,OQ⟩:=(jf hτ h2 sat1 hR).resolve_right (fun hh=>by have:=hh.1;rw[ll hR]at this;cases this);obtain⟨l2,h3,sat2⟩:=fD sat1 hK hd Qp;exact lA (OQ w' (.inr sat1.rel)) ⟨fun _=>Ext.refl _,hn _ _ _ _ _ _ _ _ h3 sat2⟩
  |false=>
   cases hA:Kb o.op with
   |true=>
    obtain⟨b,v,mk,obj,hK,Ok,hb,hv,Uc,Pu,UR⟩:=lk hτ h2 sat1 hA;have Ow:Rel ((nx,b)::H) (nx+1) iv B w (Sx.gW O nx ⟨w'.heap.size,0,false⟩) (w'.alloc obj):=
     sat1.rel.push b _ rfl rfl rfl (by simp) (fun k hk=>heap_alloc_old _ _ hk) (fun _=>⟨aF _,by simp⟩) (Pu _ _ (heap_alloc_new _ _)) hb
    obtain⟨l2,h3,sat2⟩:=fD (sat1.next Ow (Nat.le_succ _) (fun id Ox=>gG id Ox)) hK hd hv;rw[Uc]at sat2;exact lA (v:=mk w'.heap.size) (w2:=w'.alloc obj) (UR w') ⟨fun _=>Ext.alloc _ _,hn _ _ _ _ _ _ _ _ h3 sat2⟩
   |false=>
    cases hH:pX o with
    |false=>
     rw[nJ hH]at h2;refine se h2 sat1 hR hA hH fun v w2 hK he hs=>⟨fun _=>he,?_⟩
     obtain⟨l2,h3,sat2⟩:=fD (v:=.o (.v v)) hs hK hd trivial;exact hn _ _ _ _ _ _ _ _ h3 sat2
    |true=>
     refine lr hτ h2 sat1 fun v H' OO iv' w2 ρ' w3 hK sat2 hv=>⟨fun hs=>(by rw[hs o ho]at hH;cases hH),?_⟩
     obtain⟨l2,h3,sat3⟩:=fD sat2 hK hd hv;exact hn _ _ _ _ _ _ _ _ h3 sat3
 ·obtain⟨l2,h4,sat3⟩:=fD sat1 h2 hd trivial;exact .inr ⟨hw,fun _=>Ext.refl _,hn _ _ _ _ _ _ _ _ h4 sat3⟩
theorem mZ(hτ:fO P τ)(OM:∀(j:Nat) o,ops[j]? =some o->∀d,o.dst=some d->d<n)(OZ:∀(j:Nat) (o:Oper) cs b,ops[j]? =some o->o.op≠ .select cs b){K:KT}{Q0:Act->World->Prop}
  (hQ:∀l' H' OO iv' w2 ρ' a' w3,K l' H' OO iv' w2->Sat n l' H' OO iv' B w2 ρ' a' w3->Q0 a' w3):
  ∀(t:Tp) (fuel:Nat) (la:Array Bool) (l:Env) (H:Hp) (nx:Nat) (iv:Iv) (w:World) (O:Nat->Sx.di) (a:Act) (w':World),Mp la<=fuel->la.size=ops.size->vX ops t la=true->KW P τ B ops.toList t l H nx iv w K->Sat n l H nx iv B w O a w'->sd P .any ops (QN Q0) fuel la a w'
 | .nil,fuel,la,l,H,nx,iv,w,O,a,w',_,_,hc,h,s=>by
  simp only[vX,List.isEmpty_iff]at hc;exact xU hc ⟨rfl,hQ _ _ _ _ _ _ _ _ h s⟩ fuel
 | .x i t,fuel,la,l,H,nx,iv,w,O,a,w',hf,hz,hc,h,s=>by
  unfold vX at hc;obtain⟨o,ho,h1⟩:=gE h;rw[bC]at ho;simp only[ho,a9,Bool.or_eq_true]at hc;obtain⟨⟨c1,c2⟩,c3⟩:=hc;have c1:i∈Region.ready .any ops la:=by simpa using c1
  obtain⟨QC,-⟩:=eL.1 c1;have UQ:=j2 QC;obtain⟨f,rfl⟩:∃f,fuel=f+1:=⟨fuel-1,by omega⟩
  have Ot:(la.setIfInBounds i true).size=ops.size:=by rw[bP,hz]
  rcases c2 with c2|⟨hR,c4⟩
  ·refine⟨fun h0=>(by rw[h0]at c1;cases c1),fun j hj=>?_⟩;have PH:j=i:=eM (List.all_eq_true.1 c2 j hj);subst PH;exact Mi hτ OM h s fun _ _ _ _ _ _ _ _ hk hs=>mZ hτ OM OZ hQ t f _ _ _ _ _ _ _ _ _ (by omega) Ot c3 hk hs
  ·obtain⟨zU,PL,QY,hb3,Rn⟩:=zT c4 hz;unfold fk at h1;have hd:=OM i o ho;rcases jF s h1 with⟨hw,l1,h2,sat1⟩|⟨hw,l1,h2,sat1⟩
   ·obtain⟨v,hK,Qp,OQ⟩:=(jf hτ h2 sat1 hR).resolve_right (fun hh=>by have:=hh.1;rw[ll hR]at this;cases this);obtain⟨l2,h3,sat2⟩:=fD sat1 hK hd Qp;refine lO (pu:=HD o.op) (v:=v.den O) ho OZ (fun c a w hq=>absurd hq.1 (by simp)) zU PL f la a w' QY Rn c1 (.inl ⟨hw,fun w3 he=>OQ w3 (he.imp id fun he=>sat1.rel.ext he)⟩) ?_;exact mZ hτ OM OZ hQ t f _ _ _ _ _ _ _ _ _ (by omega) Ot c3 h3 sat2
   ·obtain⟨l2,h3,sat2⟩:=fD (v:=.o (.v undef)) sat1 h2 hd trivial;refine lO (pu:=HD o.op) (v:=undef) ho OZ (fun c a w hq=>absurd hq.1 (by simp)) zU PL f la a w' QY Rn c1 (.inr ⟨hw,rfl⟩) ?_;exact mZ hτ OM OZ hQ t f _ _ _ _ _ _ _ _ _ (by omega) Ot c3 h3 sat2
 | .two i t k u,fuel,la,l,H,nx,iv,w,O,a,w',hf,hz,hc,h,s=>by
  simp only[vX]at hc;split at hc
  ·rename_i x y hr;simp only[a9]at hc;obtain⟨c1,c2,c3,c4⟩:=hc;have hx:=bQ c1;have hy:=bQ c2;subst hx;subst hy;obtain⟨h1,h2⟩:=h;have SK:x∈Region.ready .any ops la:=by rw[hr];simp
   have UE:y∈Region.ready .any ops la:=by rw[hr];simp
   have u1:=j2 (eL.1 SK).1;have u2:=j2 (eL.1 UE).1;obtain⟨f,rfl⟩:∃f,fuel=f+1:=⟨fuel-1,by omega⟩
   refine⟨fun h0=>(by rw[hr]at h0;cases h0),fun j hj=>?_⟩;rw[hr,List.mem_cons,bB]at hj;rcases hj with rfl|rfl
   ·exact Mi hτ OM h1 s fun _ _ _ _ _ _ _ _ hk hs=>mZ hτ OM OZ hQ t f _ _ _ _ _ _ _ _ _ (by omega) (by rw[bP,hz]) c3 hk hs
   ·exact Mi hτ OM h2 s fun _ _ _ _ _ _ _ _ hk hs=>mZ hτ OM OZ hQ u f _ _ _ _ _ _ _ _ _ (by omega) (by rw[bP,hz]) c4 hk hs
  ·cases hc
 | .kD id t,fuel,la,l,H,nx,iv,w,O,a,w',hf,hz,hc,h,s=>by
  obtain⟨H',b,Ox,hd,hs,ho,h⟩:=h;obtain⟨hn,l',hl,h⟩:=h _ _ s.rel;exact mZ hτ OM OZ hQ t fuel la l' H' nx _ w' O a w' hf hz hc h ⟨s.rel.free Ox hd hn hs ho,s.size,s.defers,fun u v hv=>by obtain⟨-,v',h1,h2⟩:=hl u v hv;rw[<-h2];exact s.env u v' h1,fun u v hv=>(hl u v hv).1⟩
theorem Gw(hτ:fO P τ)(hm:P.follows .mixedOrders=true)(t:Tp)(hs:Region.noSelect ops=true)(hc:vX ops t (Array.replicate ops.size false)=true)
  (h:KW P τ B ops.toList t l H nx iv w K):vo P B ops l H nx iv w K:=by
 refine⟨fun n O a w' OM sat Q hQ id=>?_⟩;refine wp_mono (Q':=Q) (c:=.region id ops true) (wp_region_any (Q:=QN (Q .normal)) hm (sf _ _ _ _ ?_)) (fun e a w hq=>by obtain⟨rfl,hq⟩:=hq;exact hq);refine mZ hτ (fun j o ho d hd=>?_) (Region.noSelect_spec hs) hQ t _ _ _ _ _ _ _ O _ _ ?_ (by simp) hc h ⟨sat.rel.drew,sat.size,sat.defers,sat.env,sat.sc⟩
 ·have:=List.all_eq_true.1 OM o (aC (by rw[bC];exact ho));rw[hd]at this;have h5:d+1<=n:=by simpa [Nat.blt]using this
  exact h5
 ·unfold Mp;refine aY List.countP_le_length ?_;simp
end
theorem jX{l tl:Env}{nx t id n:Nat}(hn:(O id).nil=false)(ht:fT l t=some (.o (.w id n)))(h1:FB l tl)(h2:jQ nx tl):∀u v,fT ((t,.o (.v (.slice (some ⟨(O id).g,0,none⟩) n (O id).cap)))::tl) u=some v->v.sc nx∧∃v',fT l u=some v'∧v'.den O=v.den O:=fun u v hv=>by
 rw[eX]at hv;split at hv
 ·rename_i e;subst e;injection hv with hv;subst hv;exact⟨trivial,_,ht,by simp[SV.den,At.den,hn]⟩
 ·exact⟨h2.get u v hv,v,h1.get u v hv,rfl⟩
theorem pD{H:Hp}{nx:Nat}{iv:Iv}{B:Nat}{w w':World}(r:Rel H nx iv B w O w'){id t m sz:Nat}(h:dE H id=some (.vec t sz cs))(hm:cs.length=m*sz)(SK:m<=maxLen)(hs:0<sz)(h0:0<m)(h1:∀u∈cs,u.oneCell'=true):
  (O id).nil=false∧B<=(O id).g∧gO w' (fun g=>g=(O id).g) sz (.slice (some ⟨(O id).g,0,none⟩) m (O id).cap) cs m:=by
 rcases r.vec id t sz _ h with⟨hn,rfl⟩|⟨hn,spare,hb,hc,Qs⟩
 ·have:=Nat.mul_pos h0 hs;simp at hm;omega
 ·refine⟨hn,(r.low id _ h hn).1,SK,hm,h1,some ⟨(O id).g,0,none⟩,(O id).cap,rfl,?_,fun j x hx=>⟨_,rfl,rfl,?_⟩⟩
  ·have h1:(cs++spare).length=cs.length+spare.length:=List.length_append;have h2:m*sz<=(O id).cap*sz:=by omega
   exact bp h2 hs
  ·rw[dZ,cell_of hb,aS,aL (aD.1 hx).1];exact hx
end Go.Ex
namespace Go.Ex
section
variable{M:List (List Rat)}{b:List Rat}{n:Nat}
def dL(M:List (List Rat))(b:List Rat):List (List Rat):=M.mapIdx fun i r=>r++[b.getD i 0]
theorem gI(hl:fZ n M):fZ (n+1) (dL M b):=fun r hr=>by
 obtain⟨i,hi⟩:=aR hr;unfold dL at hi;rw[List.getElem?_mapIdx]at hi
 cases hx:M[i]? with
 |none=>rw[hx]at hi;cases hi
 |some x=>
  rw[hx]at hi;injection hi with hi;subst hi;rw[List.length_append,hl x (aC hx)];rfl
theorem dy:(dL M b).length=M.length:=by simp[dL]
end
end Go.Ex
namespace Go.Ex
open Go Go.Sx Go.Proofs
variable{K M:List (List Rat)}{rv:List Value}{S:Nat->Prop}{q:Rat}{u:Value}{w:World}
theorem gh.cJ{S':Nat->Prop}(h:gh w S rv K)(hk:∀g,S g->S' g):gh w S' rv K:=⟨h.1,h.2.1,fun i u x h1 h2=>cX.cJ (h.2.2 i u x h1 h2) hk⟩
theorem gh.push{x:List Rat}(h:gh w S rv K)(hu:u.oneCell'=true)(hx:cX w S u x):gh w S (rv++[u]) (K++[x]):=by
 refine⟨by simp[h.1],fun v hv=>?_,fun i v y h1 h2=>?_⟩
 ·rcases bK.1 hv with hv|hv
  ·exact h.2.1 v hv
  ·simp at hv;subst hv;exact hu
 ·rcases aQ i rv.length with hi|hi
  ·rw[aL hi]at h1;rw[aL (by rw[<-h.1];exact hi)]at h2;exact h.2.2 i v y h1 h2
  ·have Rp:i=rv.length:=by have:=(aD.1 h1).1;simp at this;omega
   subst Rp;rw[aN (aF _),bL]at h1;rw[h.1,aN (aF _),bL]at h2;simp at h1 h2;subst h1 h2;exact hx
theorem ML{v:Value}{b:List Rat}(hS:Old S w)(h:dK w S v M)(hu:cX w S u b)(Pr:b.length=M.length)(OK:∀r∈M,r.length<=1000)(hR:M.length<=1000):
  eD PG N.xy #[v,u] w (eG w fun v' w2=>dK w2 (Nw S w w2) v' (dL M b)):=by
 have hw:=bR w;replace h:=dK.arg h [];replace hu:=cX.arg hu [];obtain⟨am,cm,rfl,SC,-⟩:=c9.shape h;obtain⟨ab,cb,rfl,QG,-⟩:=dH.shape hu;refine BG (by simp) ?_
 refine⟨Nat×List Value×World×Iv,fun z=>⟨[(0,sV am M.length cm),(1,sV ab b.length cb),(5,.o (.w 0 z.2.1.length)),(6,iN z.1)],[(0,.vec T.fc 1 z.2.1)],1,z.2.2.2,z.2.2.1⟩,fun z=>M.length-z.1,
  fun z=>z.1<=M.length∧dm w.heap.size w z.2.2.1∧dK z.2.2.1 (Cv S w.heap.size z.2.2.2) (.slice am M.length cm) M∧cX z.2.2.1 (Cv S w.heap.size z.2.2.2) (.slice ab b.length cb) b∧gh z.2.2.1 (Cv S w.heap.size z.2.2.2) z.2.1 ((dL M b).take z.1),?_,?_⟩
 ·intro O w' r
  exact⟨(0,[],w',[]),⟨aO _,hw.tr r.cQ,dK.rel h r hS,cX.rel hu r hS,by simp[gh]⟩,Sub.nil 5 T.fc 1 rfl (by simp[jQ,SV.sc,At.sc,fP]) r fun ρ1 r1=>
   Sub.gn [] r1⟩
 rintro⟨i,rv,w1,iv⟩ ⟨hi,hw,h,hu,hK⟩;dsimp only at hi hw h hu hK ⊢;have Ou:rv.length=i:=by rw[hK.1,aW,dy];omega
 refine dI.mk ?_ ?_<;>intro OI
 ·have OI:i<M.length:=by simpa using OI
  obtain⟨x,hx⟩:∃r,M[i]? =some r:=⟨_,aB OI⟩
  have Pk:=OK x (aC hx);obtain⟨q,hq⟩:∃r,b[i]? =some r:=⟨_,aB (by omega)⟩
  have UX:b.getD i 0=q:=by rw[List.getD,hq];rfl
  have OR:(dL M b).take (i+1)=(dL M b).take i++[x++[q]]:=by
   rw[List.take_add_one,show(dL M b)[i]? =some (x++[q]) by rw[dL,List.getElem?_mapIdx,hx,<-UX];rfl];rfl
  obtain⟨adm,um,QE,Oj,km1,km2⟩:=c9.load h hx;obtain⟨css,⟨-,g1,g2,a0,c0,rfl,g4,g5⟩,PQ,RL,PE⟩:=Oj;have OY:=eK RL;obtain⟨adq,cs,RP,hF,_,hl⟩:=dH.load hu hq;obtain⟨b3,a3,n3,c3,b4,a4,n4,c4,rfl,hF⟩:=hF;have S6:([]++css.flatten++([.bool b3,.slice a3 n3 c3,.bool b4,.slice a4 n4 c4]:List Value)).length=(x.length+1)*4:=by rw[List.nil_append,List.length_append,g1];simp;omega
  have S7:∀u∈[]++css.flatten++([.bool b3,.slice a3 n3 c3,.bool b4,.slice a4 n4 c4]:List Value),u.oneCell'=true:=fun u hu=>by
   rw[List.nil_append]at hu;rcases bK.1 hu with hu|hu
   ·exact g2 u hu
   ·simp at hu;rcases hu with rfl|rfl|rfl|rfl<;>rfl
  have S8:∀{H nx O w' g c ON},Rel H nx iv w.heap.size w1 O w'->w.heap.size<=g->gO w' (fun y=>y=g) 4 (.slice (some ⟨g,0,none⟩) (x.length+1) c) ([]++css.flatten++([.bool b3,.slice a3 n3 c3,.bool b4,.slice a4 n4 c4]:List Value)) (x.length+1)->(g,g+1)∈ON::iv->
    cX w' (Cv S w.heap.size (ON::iv)) (.slice (some ⟨g,0,none⟩) (x.length+1) c) (x++[q]):=by
   intro H nx O w' g c ON r hg hs hm;have hk:∀y,Cv S w.heap.size iv y->Cv S w.heap.size (ON::iv) y:=fun y hy=>hy.mono fun p hp=>List.mem_cons_of_mem _ hp;refine⟨css++[[.bool b3,.slice a3 n3 c3,.bool b4,.slice a4 n4 c4]],?_,by simp[PQ],fun cs hc=>?_,fun j cs y k1 k2=>?_⟩
   ·rw[List.nil_append]at hs;rw[List.length_append,List.length_singleton,List.flatten_append];simp only[List.flatten_cons,List.flatten_nil,List.append_nil]
    exact hs.cJ fun y hy=>.inr ⟨by omega,g,g+1,hm,by omega,by omega⟩
   ·rcases bK.1 hc with hc|hc
    ·exact RL cs hc
    ·rw[bB.1 hc];rfl
   ·rcases aQ j css.length with hj|hj
    ·rw[aL hj]at k1;rw[aL (by omega)]at k2;exact((PE j cs y k1 k2).cI fun y hy=>Rel.same r hS hy).cJ hk
    ·have Vb:j=css.length:=by have:=(aD.1 k1).1;simp at this;omega
     rw[Vb,aN (aF _),bL]at k1;rw[Vb,PQ,aN (aF _),bL]at k2;simp at k1 k2;rw[<-k1,<-k2];exact⟨_,_,_,_,_,_,_,_,rfl,(hF.cI fun y hy=>Rel.same r hS hy).cJ hk⟩
  refine Gw hτ da (.x 0 (.x 2 (.x 3 (.x 4 (.x 5 (.x 7 (.x 8 (.x 9 (.two 1 (.two 6 (.x 10 (.x 11 (.x 12 (.kD 4 (.x 13 (.x 14 (.x 15 .nil))))))) 10 (.two 6 (.x 11 (.x 12 (.kD 4 (.x 13 (.x 14 (.x 15 .nil)))))) 11 (.x 6 (.x 12 (.kD 4 (.x 13 (.x 14 (.x 15 .nil)))))))) 10 (.two 1 (.two 6 (.x 11 (.x 12 (.kD 4 (.x 13 (.x 14 (.x 15 .nil)))))) 11 (.x 6 (.x 12 (.kD 4 (.x 13 (.x 14 (.x 15 .nil))))))) 11 (.x 1 (.x 6 (.x 12 (.kD 4 (.x 13 (.x 14 (.x 15 .nil))))))))))))))))) (by kernel_rfl) (by kernel_rfl) ?_;refine⟨adm,QE,by omega,.slice a0 x.length c0,fun O w' r=>?_,?_⟩
  ·rw[aE,cH (w:=w1) (w2:=w') (by rw[dD];exact Rel.same r hS km1)];exact km2
  refine⟨adq,RP,by omega,?_,?_⟩
  ·refine⟨?_,?_⟩
   ·refine .inl ?_;refine⟨css.flatten,g1,g2,fun O w' r Od=>?_,?_⟩
    ·obtain⟨u0,SP⟩:∃u,css.flatten[0]? =some u:=⟨_,aB (by omega)⟩
     obtain⟨ad,ha,_,_⟩:=g5 0 u0 SP;refine⟨ad,ha,fun j u hj=>?_⟩;obtain⟨ad2,PC,q1,q2⟩:=g5 j u hj;rw[ha]at PC;injection PC with PC;subst PC;rw[cH (w:=w1) (w2:=w') (by rw[dD];exact Rel.same r hS q1)];exact q2
    refine⟨rfl,by omega,by unfold maxLen;omega,?_⟩;rw[aS x.length];refine⟨[.bool b3,.slice a3 n3 c3,.bool b4,.slice a4 n4 c4],rfl,fun O w' r j u hu=>?_,?_⟩
    ·obtain⟨k1,k2⟩:=hl j u hu;rw[aE,cH (w:=w1) (w2:=w') (by rw[dD,dD];exact Rel.same r hS k1)];exact k2
    refine .inl ?_;refine⟨by rw[<-g1];rfl,by omega,by unfold maxLen;omega,[(0,.vec T.fc 1 rv)],_,rfl,by simp,⟨rfl,trivial⟩,rfl,fun O w' r=>?_⟩;have hv:=pD r (id:=4) (sz:=4) (m:=x.length+1) rfl S6 (by unfold maxLen;omega) (by decide) (by omega) S7;refine⟨hv.1,_,jX (tl:=[(13,.o (.w 0 rv.length)),(0,sV am M.length cm),(1,sV ab b.length cb),(6,iN i)]) hv.1 (t:=25) (n:=x.length+1) rfl ⟨rfl,rfl,rfl,rfl,trivial⟩ (by simp[jQ,SV.sc,At.sc]),?_⟩;have QD:=S8 r hv.2.1 hv.2.2 aG;replace hK:=(gh.cJ (hK.rel r hS) (fun g hg=>hg.mono fun p hp=>List.mem_cons_of_mem _ hp)).push rfl QD;replace h:=dK.cJ (dK.rel h r hS) fun g hg=>hg.mono fun p hp=>List.mem_cons_of_mem ((O 4).g,(O 4).g+1) hp;replace hu:=cX.cJ (cX.rel hu r hS) fun g hg=>hg.mono fun p hp=>List.mem_cons_of_mem ((O 4).g,(O 4).g+1) hp;rw[<-OR]at hK;replace hw:=hw.tr r.cQ;generalize (O 4).g=gx at*
    generalize (O 4).cap=cx at*
    generalize (gx,gx+1)::iv=ON at*
    refine .inl ?_;refine⟨by simp,by omega,by unfold maxLen;omega,((i+1:Nat):Int),wo,?_⟩;intro ρ3 w3 r3;exact⟨(i+1,rv++[.slice (some ⟨gx,0,none⟩) (x.length+1) cx],w3,_),⟨OI,hw.tr r3.cQ,dK.rel h r3 hS,cX.rel hu r3 hS,hK.rel r3 hS⟩,Sub.gn [(0,6)] r3 (hE:=⟨rfl,rfl,by dsimp only;rw[List.length_append,List.length_singleton];rfl,rfl,trivial⟩),by dsimp only;omega⟩
   ·refine⟨[.bool b3,.slice a3 n3 c3,.bool b4,.slice a4 n4 c4],rfl,fun O w' r j u hu=>?_,?_⟩
    ·obtain⟨k1,k2⟩:=hl j u hu;rw[aE,cH (w:=w1) (w2:=w') (by rw[dD,dD];exact Rel.same r hS k1)];exact k2
    refine⟨?_,?_⟩
    ·refine .inl ?_;refine⟨css.flatten,g1,g2,fun O w' r Od=>?_,?_⟩
     ·obtain⟨u0,SP⟩:∃u,css.flatten[0]? =some u:=⟨_,aB (by omega)⟩
      obtain⟨ad,ha,_,_⟩:=g5 0 u0 SP;refine⟨ad,ha,fun j u hj=>?_⟩;obtain⟨ad2,PC,q1,q2⟩:=g5 j u hj;rw[ha]at PC;injection PC with PC;subst PC;rw[cH (w:=w1) (w2:=w') (by rw[dD];exact Rel.same r hS q1)];exact q2
     refine⟨rfl,by omega,by unfold maxLen;omega,?_⟩;rw[aS x.length];refine .inl ?_;refine⟨by rw[<-g1];rfl,by omega,by unfold maxLen;omega,[(0,.vec T.fc 1 rv)],_,rfl,by simp,⟨rfl,trivial⟩,rfl,fun O w' r=>?_⟩;have hv:=pD r (id:=4) (sz:=4) (m:=x.length+1) rfl S6 (by unfold maxLen;omega) (by decide) (by omega) S7;refine⟨hv.1,_,jX (tl:=[(13,.o (.w 0 rv.length)),(0,sV am M.length cm),(1,sV ab b.length cb),(6,iN i)]) hv.1 (t:=25) (n:=x.length+1) rfl ⟨rfl,rfl,rfl,rfl,trivial⟩ (by simp[jQ,SV.sc,At.sc]),?_⟩;have QD:=S8 r hv.2.1 hv.2.2 aG;replace hK:=(gh.cJ (hK.rel r hS) (fun g hg=>hg.mono fun p hp=>List.mem_cons_of_mem _ hp)).push rfl QD;replace h:=dK.cJ (dK.rel h r hS) fun g hg=>hg.mono fun p hp=>List.mem_cons_of_mem ((O 4).g,(O 4).g+1) hp;replace hu:=cX.cJ (cX.rel hu r hS) fun g hg=>hg.mono fun p hp=>List.mem_cons_of_mem ((O 4).g,(O 4).g+1) hp;rw[<-OR]at hK;replace hw:=hw.tr r.cQ;generalize (O 4).g=gx at*
     generalize (O 4).cap=cx at*
     generalize (gx,gx+1)::iv=ON at*
     refine .inl ?_;refine⟨by simp,by omega,by unfold maxLen;omega,((i+1:Nat):Int),wo,?_⟩;intro ρ3 w3 r3;exact⟨(i+1,rv++[.slice (some ⟨gx,0,none⟩) (x.length+1) cx],w3,_),⟨OI,hw.tr r3.cQ,dK.rel h r3 hS,cX.rel hu r3 hS,hK.rel r3 hS⟩,Sub.gn [(0,6)] r3 (hE:=⟨rfl,rfl,by dsimp only;rw[List.length_append,List.length_singleton];rfl,rfl,trivial⟩),by dsimp only;omega⟩
    ·refine .inl ?_;refine⟨css.flatten,g1,g2,fun O w' r Od=>?_,?_⟩
     ·obtain⟨u0,SP⟩:∃u,css.flatten[0]? =some u:=⟨_,aB (by omega)⟩
      obtain⟨ad,ha,_,_⟩:=g5 0 u0 SP;refine⟨ad,ha,fun j u hj=>?_⟩;obtain⟨ad2,PC,q1,q2⟩:=g5 j u hj;rw[ha]at PC;injection PC with PC;subst PC;rw[cH (w:=w1) (w2:=w') (by rw[dD];exact Rel.same r hS q1)];exact q2
     refine⟨rfl,by omega,by unfold maxLen;omega,?_⟩;rw[aS x.length];refine .inl ?_;refine⟨by rw[<-g1];rfl,by omega,by unfold maxLen;omega,[(0,.vec T.fc 1 rv)],_,rfl,by simp,⟨rfl,trivial⟩,rfl,fun O w' r=>?_⟩;have hv:=pD r (id:=4) (sz:=4) (m:=x.length+1) rfl S6 (by unfold maxLen;omega) (by decide) (by omega) S7;refine⟨hv.1,_,jX (tl:=[(13,.o (.w 0 rv.length)),(0,sV am M.length cm),(1,sV ab b.length cb),(6,iN i)]) hv.1 (t:=25) (n:=x.length+1) rfl ⟨rfl,rfl,rfl,rfl,trivial⟩ (by simp[jQ,SV.sc,At.sc]),?_⟩;have QD:=S8 r hv.2.1 hv.2.2 aG;replace hK:=(gh.cJ (hK.rel r hS) (fun g hg=>hg.mono fun p hp=>List.mem_cons_of_mem _ hp)).push rfl QD;replace h:=dK.cJ (dK.rel h r hS) fun g hg=>hg.mono fun p hp=>List.mem_cons_of_mem ((O 4).g,(O 4).g+1) hp;replace hu:=cX.cJ (cX.rel hu r hS) fun g hg=>hg.mono fun p hp=>List.mem_cons_of_mem ((O 4).g,(O 4).g+1) hp;rw[<-OR]at hK;replace hw:=hw.tr r.cQ;generalize (O 4).g=gx at*
     generalize (O 4).cap=cx at*
     generalize (gx,gx+1)::iv=ON at*
     refine .inl ?_;refine⟨by simp,by omega,by unfold maxLen;omega,((i+1:Nat):Int),wo,?_⟩;intro ρ3 w3 r3;exact⟨(i+1,rv++[.slice (some ⟨gx,0,none⟩) (x.length+1) cx],w3,_),⟨OI,hw.tr r3.cQ,dK.rel h r3 hS,cX.rel hu r3 hS,hK.rel r3 hS⟩,Sub.gn [(0,6)] r3 (hE:=⟨rfl,rfl,by dsimp only;rw[List.length_append,List.length_singleton];rfl,rfl,trivial⟩),by dsimp only;omega⟩
  ·refine⟨[.bool b3,.slice a3 n3 c3,.bool b4,.slice a4 n4 c4],rfl,fun O w' r j u hu=>?_,?_⟩
   ·obtain⟨k1,k2⟩:=hl j u hu;rw[aE,cH (w:=w1) (w2:=w') (by rw[dD,dD];exact Rel.same r hS k1)];exact k2
   refine⟨?_,?_⟩
   ·refine⟨?_,?_⟩
    ·refine .inl ?_;refine⟨css.flatten,g1,g2,fun O w' r Od=>?_,?_⟩
     ·obtain⟨u0,SP⟩:∃u,css.flatten[0]? =some u:=⟨_,aB (by omega)⟩
      obtain⟨ad,ha,_,_⟩:=g5 0 u0 SP;refine⟨ad,ha,fun j u hj=>?_⟩;obtain⟨ad2,PC,q1,q2⟩:=g5 j u hj;rw[ha]at PC;injection PC with PC;subst PC;rw[cH (w:=w1) (w2:=w') (by rw[dD];exact Rel.same r hS q1)];exact q2
     refine⟨rfl,by omega,by unfold maxLen;omega,?_⟩;rw[aS x.length];refine .inl ?_;refine⟨by rw[<-g1];rfl,by omega,by unfold maxLen;omega,[(0,.vec T.fc 1 rv)],_,rfl,by simp,⟨rfl,trivial⟩,rfl,fun O w' r=>?_⟩;have hv:=pD r (id:=4) (sz:=4) (m:=x.length+1) rfl S6 (by unfold maxLen;omega) (by decide) (by omega) S7;refine⟨hv.1,_,jX (tl:=[(13,.o (.w 0 rv.length)),(0,sV am M.length cm),(1,sV ab b.length cb),(6,iN i)]) hv.1 (t:=25) (n:=x.length+1) rfl ⟨rfl,rfl,rfl,rfl,trivial⟩ (by simp[jQ,SV.sc,At.sc]),?_⟩;have QD:=S8 r hv.2.1 hv.2.2 aG;replace hK:=(gh.cJ (hK.rel r hS) (fun g hg=>hg.mono fun p hp=>List.mem_cons_of_mem _ hp)).push rfl QD;replace h:=dK.cJ (dK.rel h r hS) fun g hg=>hg.mono fun p hp=>List.mem_cons_of_mem ((O 4).g,(O 4).g+1) hp;replace hu:=cX.cJ (cX.rel hu r hS) fun g hg=>hg.mono fun p hp=>List.mem_cons_of_mem ((O 4).g,(O 4).g+1) hp;rw[<-OR]at hK;replace hw:=hw.tr r.cQ;generalize (O 4).g=gx at*
     generalize (O 4).cap=cx at*
     generalize (gx,gx+1)::iv=ON at*
     refine .inl ?_;refine⟨by simp,by omega,by unfold maxLen;omega,((i+1:Nat):Int),wo,?_⟩;intro ρ3 w3 r3;exact⟨(i+1,rv++[.slice (some ⟨gx,0,none⟩) (x.length+1) cx],w3,_),⟨OI,hw.tr r3.cQ,dK.rel h r3 hS,cX.rel hu r3 hS,hK.rel r3 hS⟩,Sub.gn [(0,6)] r3 (hE:=⟨rfl,rfl,by dsimp only;rw[List.length_append,List.length_singleton];rfl,rfl,trivial⟩),by dsimp only;omega⟩
    ·refine .inl ?_;refine⟨css.flatten,g1,g2,fun O w' r Od=>?_,?_⟩
     ·obtain⟨u0,SP⟩:∃u,css.flatten[0]? =some u:=⟨_,aB (by omega)⟩
      obtain⟨ad,ha,_,_⟩:=g5 0 u0 SP;refine⟨ad,ha,fun j u hj=>?_⟩;obtain⟨ad2,PC,q1,q2⟩:=g5 j u hj;rw[ha]at PC;injection PC with PC;subst PC;rw[cH (w:=w1) (w2:=w') (by rw[dD];exact Rel.same r hS q1)];exact q2
     refine⟨rfl,by omega,by unfold maxLen;omega,?_⟩;rw[aS x.length];refine .inl ?_;refine⟨by rw[<-g1];rfl,by omega,by unfold maxLen;omega,[(0,.vec T.fc 1 rv)],_,rfl,by simp,⟨rfl,trivial⟩,rfl,fun O w' r=>?_⟩;have hv:=pD r (id:=4) (sz:=4) (m:=x.length+1) rfl S6 (by unfold maxLen;omega) (by decide) (by omega) S7;refine⟨hv.1,_,jX (tl:=[(13,.o (.w 0 rv.length)),(0,sV am M.length cm),(1,sV ab b.length cb),(6,iN i)]) hv.1 (t:=25) (n:=x.length+1) rfl ⟨rfl,rfl,rfl,rfl,trivial⟩ (by simp[jQ,SV.sc,At.sc]),?_⟩;have QD:=S8 r hv.2.1 hv.2.2 aG;replace hK:=(gh.cJ (hK.rel r hS) (fun g hg=>hg.mono fun p hp=>List.mem_cons_of_mem _ hp)).push rfl QD;replace h:=dK.cJ (dK.rel h r hS) fun g hg=>hg.mono fun p hp=>List.mem_cons_of_mem ((O 4).g,(O 4).g+1) hp;replace hu:=cX.cJ (cX.rel hu r hS) fun g hg=>hg.mono fun p hp=>List.mem_cons_of_mem ((O 4).g,(O 4).g+1) hp;rw[<-OR]at hK;replace hw:=hw.tr r.cQ;generalize (O 4).g=gx at*
     generalize (O 4).cap=cx at*
     generalize (gx,gx+1)::iv=ON at*
     refine .inl ?_;refine⟨by simp,by omega,by unfold maxLen;omega,((i+1:Nat):Int),wo,?_⟩;intro ρ3 w3 r3;exact⟨(i+1,rv++[.slice (some ⟨gx,0,none⟩) (x.length+1) cx],w3,_),⟨OI,hw.tr r3.cQ,dK.rel h r3 hS,cX.rel hu r3 hS,hK.rel r3 hS⟩,Sub.gn [(0,6)] r3 (hE:=⟨rfl,rfl,by dsimp only;rw[List.length_append,List.length_singleton];rfl,rfl,trivial⟩),by dsimp only;omega⟩
   ·refine .inl ?_;refine⟨css.flatten,g1,g2,fun O w' r Od=>?_,?_⟩
    ·obtain⟨u0,SP⟩:∃u,css.flatten[0]? =some u:=⟨_,aB (by omega)⟩
     obtain⟨ad,ha,_,_⟩:=g5 0 u0 SP;refine⟨ad,ha,fun j u hj=>?_⟩;obtain⟨ad2,PC,q1,q2⟩:=g5 j u hj;rw[ha]at PC;injection PC with PC;subst PC;rw[cH (w:=w1) (w2:=w') (by rw[dD];exact Rel.same r hS q1)];exact q2
    refine⟨rfl,by omega,by unfold maxLen;omega,?_⟩;rw[aS x.length];refine .inl ?_;refine⟨by rw[<-g1];rfl,by omega,by unfold maxLen;omega,[(0,.vec T.fc 1 rv)],_,rfl,by simp,⟨rfl,trivial⟩,rfl,fun O w' r=>?_⟩;have hv:=pD r (id:=4) (sz:=4) (m:=x.length+1) rfl S6 (by unfold maxLen;omega) (by decide) (by omega) S7;refine⟨hv.1,_,jX (tl:=[(13,.o (.w 0 rv.length)),(0,sV am M.length cm),(1,sV ab b.length cb),(6,iN i)]) hv.1 (t:=25) (n:=x.length+1) rfl ⟨rfl,rfl,rfl,rfl,trivial⟩ (by simp[jQ,SV.sc,At.sc]),?_⟩;have QD:=S8 r hv.2.1 hv.2.2 aG;replace hK:=(gh.cJ (hK.rel r hS) (fun g hg=>hg.mono fun p hp=>List.mem_cons_of_mem _ hp)).push rfl QD;replace h:=dK.cJ (dK.rel h r hS) fun g hg=>hg.mono fun p hp=>List.mem_cons_of_mem ((O 4).g,(O 4).g+1) hp;replace hu:=cX.cJ (cX.rel hu r hS) fun g hg=>hg.mono fun p hp=>List.mem_cons_of_mem ((O 4).g,(O 4).g+1) hp;rw[<-OR]at hK;replace hw:=hw.tr r.cQ;generalize (O 4).g=gx at*
    generalize (O 4).cap=cx at*
    generalize (gx,gx+1)::iv=ON at*
    refine .inl ?_;refine⟨by simp,by omega,by unfold maxLen;omega,((i+1:Nat):Int),wo,?_⟩;intro ρ3 w3 r3;exact⟨(i+1,rv++[.slice (some ⟨gx,0,none⟩) (x.length+1) cx],w3,_),⟨OI,hw.tr r3.cQ,dK.rel h r3 hS,cX.rel hu r3 hS,hK.rel r3 hS⟩,Sub.gn [(0,6)] r3 (hE:=⟨rfl,rfl,by dsimp only;rw[List.length_append,List.length_singleton];rfl,rfl,trivial⟩),by dsimp only;omega⟩
 have OI:i=M.length:=aP hi (by simpa using OI);rw[OI,List.take_of_length_le (by rw[dy];omega)]at hK;intro ρe we re;refine⟨_,rfl,hw.tr re.cQ,rv,?_,hK.1,fun i u x h1 h2=>cX.out (hK.2.2 i u x h1 h2) re hS⟩;have:=re.iC (id:=0) (sz:=1) (m:=rv.length) rfl (by rw[aU]) (by unfold maxLen;omega) (by decide) hK.2.1;rw[<-hK.1];exact this.cJ fun g hg=>.inr hg
section
variable{S:Nat->Prop}{H:Hp}{nx:Nat}{iv0:Iv}{B:Nat}{w w' w2:World}{O:Nat->Sx.di}{v:Value}{xs:List Rat}
end
theorem ja:rs q<0↔q<0:=by rw[rs,Int.sign_neg_iff,<-Int.not_le,Rat.num_nonneg,Rat.not_le]
theorem k6:0<rs q↔0<q:=by
 have h:=ja (q:= -q);rw[aAN]at h;constructor
 ·intro k;have:=h.1 (by omega);grind
 ·intro k;have:=h.2 (by grind);omega
end Go.Ex
namespace Go.Ex
variable{E M:List (List Rat)}{pv:List Nat}{l r:List Rat}{m:Mx}{B C a j:Nat}{u v:Nat->Rat}{d p q:Rat}
def kV:List Nat->(Nat->Rat)->Rat
 |[],_=>0
 |t::l,g=>g t+kV l g
theorem zp{g h:Nat->Rat}:∀{l:List Nat},(∀t∈l,g t=h t)->kV l g=kV l h
 |[],_=>rfl
 |t::l,e=>by show g t+_=h t+_;rw[e t aG,zp fun s hs=>e s (List.mem_cons_of_mem _ hs)]
theorem Cg{g:Nat->Rat}:∀{l:List Nat},(∀t∈l,g t=0)->kV l g=0
 |[],_=>rfl
 |t::l,e=>by show g t+_=0;rw[e t aG,Cg fun s hs=>e s (List.mem_cons_of_mem _ hs),bY]
theorem x6(g:Nat->Rat):∀l k:List Nat,kV (l++k) g=kV l g+kV k g
 |[],k=>(Rat.zero_add _).symm
 |t::l,k=>by show g t+kV (l++k) g=g t+kV l g+kV k g;rw[x6 g l k,Rat.add_assoc]
theorem FU(g:Nat->Rat):∀l:List Nat,kV l (fun t=> -g t)= -kV l g
 |[]=>rfl
 |t::l=>by show -g t+kV l _= -(g t+kV l g);rw[FU g l,Rat.neg_add]
theorem x7(p:Nat->Bool)(g:Nat->Rat):∀l:List Nat,kV l g=kV (l.filter p) g+kV (l.filter fun t=> !p t) g
 |[]=>(bY 0).symm
 |t::l=>by
  show g t+kV l g=_;rw[x7 p g l,List.filter_cons,List.filter_cons]
  cases p t with
  |true=>show _=g t+_+_;rw[Rat.add_assoc];rfl
  |false=>
   show _=kV (l.filter p) g+(g t+_)
   rw[<-Rat.add_assoc,Rat.add_comm (g t),Rat.add_assoc]
theorem zq{g:Nat->Rat}{s:Nat}:∀{l:List Nat},l.Nodup->s∈l->(∀t∈l,t≠s->g t=0)->kV l g=g s
 |[],_,hm,_=>by cases hm
 |t::l,hn,hm,h=>by
  show g t+kV l g=g s;have Rr:=List.nodup_cons.1 hn;rcases List.mem_cons.1 hm with rfl|hm
  ·rw[Cg fun u hu=>h u (List.mem_cons_of_mem _ hu) fun e=>Rr.1 (e▸hu),bY]
  ·rw[h t aG (fun e=>Rr.1 (e▸hm)),Rat.zero_add,zq Rr.2 hm fun u hu=>h u (List.mem_cons_of_mem _ hu)]
theorem zt{i t:Nat}{v:Rat}:(l.set i v).getD t 0=if i=t∧i<l.length then v else l.getD t 0:=by
 simp only[List.getD,List.getElem?_set]
 by_cases h:i=t
 ·subst h;by_cases hl:i<l.length
  ·simp[hl]
  ·simp[hl]
 ·simp[h]
theorem zu{F:Nat->List Rat}{pv:List Nat}{f:Nat->Rat}(hF:∀i,F (i+1)=(F i).set (pv.getD i 0) (f i)){t:Nat}(ht:t∉pv):∀i,i<=pv.length->(F i).getD t 0=(F 0).getD t 0
 |0,_=>rfl
 |i+1,h=>by
  rw[hF,zt,aK fun e=>ht (by rw[<-e.1,List.getD,aB (by omega)];exact aX _)];exact zu hF ht i (by omega)
theorem Ku(hp:pv.Pairwise (· < ·)){i:Nat}(Pt:j<i)(hi:i<pv.length):pv.getD j 0<pv.getD i 0:=by
 rw[List.getD,List.getD,aB hi,aB (by omega)];exact List.pairwise_iff_getElem.1 hp j i _ _ Pt
theorem o9{F:Nat->List Rat}{pv:List Nat}{f:Nat->Rat}{n:Nat}(hF:∀i,F (i+1)=(F i).set (pv.getD i 0) (f i))(hl:∀i,(F i).length=n)(hp:pv.Pairwise (· < ·))(hn:∀p∈pv,p<n){j:Nat}:∀i,i<=pv.length->j<i->(F i).getD (pv.getD j 0) 0=f j
 |0,_,h=>by omega
 |i+1,h,hj=>by
  rw[hF,zt];rcases aQ j i with h1|h1
  ·have:=Ku hp h1 (by omega);rw[aK (by omega)];exact o9 hF hl hp hn i (by omega) h1
  ·have e:j=i:=by omega
   subst e;have hm:pv.getD j 0<(F j).length:=by rw[hl];exact hn _ (by rw[List.getD,aB (by omega)];exact aX _)
   rw[if_pos ⟨rfl,hm⟩]
abbrev jO(pv:List Nat)(n:Nat):List Nat:=(List.range n).filter fun c=>decide (c∉pv)
section
variable{M:List (List Rat)}{x:List Rat}{n:Nat}
end
structure Diff(A:List (List Rat))(pv:List Nat)(n:Nat)(x:List Rat):Prop where
 up:pv.Pairwise (· < ·)
 lt:∀p∈pv,p<n
 le:pv.length<=A.length
 unit:∀i j,i<pv.length->j<A.length->dF A j (pv.getD i 0)=if j=i then 1 else 0
 sum:∀j,j<A.length->kV (List.range n) (fun t=>dF A j t*x.getD t 0)=dF A j n
section
variable{A:List (List Rat)}{pv:List Nat}{n:Nat}{x:List Rat}
theorem tB{t:Nat}(h:t∈pv):∃j,j<pv.length∧pv.getD j 0=t:=by
 obtain⟨j,hj,rfl⟩:=List.mem_iff_getElem.1 h;exact⟨j,hj,by rw[List.getD,aB hj];rfl⟩
theorem qF{c t:Nat}(ht:t∉pv)(hc:c<n):(fo A pv n c pv.length).getD t 0=if t=c then 1 else 0:=by
 rw[zu (F:=fo A pv n c) (fun i=>gX A pv n c i) ht _ (aF _)];show((List.replicate n (0:Rat)).set c 1).getD t 0=_;rw[zt,bE];by_cases h:c=t
 ·rw[if_pos ⟨h,hc⟩,if_pos h.symm]
 ·rw[aK (fun e=>h e.1),aK (fun e=>h e.symm)];simp only[List.getD,List.getElem?_replicate]
  split<;>rfl
theorem Diff.kin(h:Diff A pv n x){c:Nat}(hj:j<pv.length):(fo A pv n c pv.length).getD (pv.getD j 0) 0= -(dF A j c):=
 o9 (F:=fo A pv n c) (f:=fun i=> -(dF A i c)) (fun i=>gX A pv n c i) (k9 A pv n c) h.up h.lt _ (aF _) hj
theorem uF{t:Nat}(ht:t∉pv):(gA A pv n pv.length).getD t 0=0:=by
 rw[zu (F:=gA A pv n) (fun i=>gY A pv n i) ht _ (aF _)];show(List.replicate n (0:Rat)).getD t 0=0;simp only[List.getD,List.getElem?_replicate]
 split<;>rfl
theorem Diff.xin(h:Diff A pv n x)(hj:j<pv.length):(gA A pv n pv.length).getD (pv.getD j 0) 0=dF A j n:=
 o9 (F:=gA A pv n) (f:=fun i=>dF A i n) (fun i=>gY A pv n i) (jU A pv n) h.up h.lt _ (aF _) hj
theorem tC:(jO pv n).Nodup:=List.Pairwise.filter _ List.nodup_range
theorem mF{c:Nat}:c∈jO pv n↔c<n∧c∉pv:=by
 unfold jO;rw[List.mem_filter,List.mem_range,decide_eq_true_eq]
theorem Diff.rest(h:Diff A pv n x){t:Nat}(ht:t<n):x.getD t 0+(gA A pv n pv.length).getD t 0* -1=kV (jO pv n) fun c=>x.getD c 0*(fo A pv n c pv.length).getD t 0:=by
 by_cases hp:t∈pv
 ·obtain⟨j,hj,rfl⟩:=tB hp;have hs:=h.sum j (Nat.lt_of_lt_of_le hj h.le);rw[x7 (fun c=>decide (c∉pv)),zq (s:=pv.getD j 0) (l:=(List.range n).filter fun t=> !decide (t∉pv)) (List.Pairwise.filter _ List.nodup_range) (List.mem_filter.2 ⟨List.mem_range.2 ht,by rw[bN fun e=>e hp];rfl⟩) (fun s hs OJ=>?_),h.unit j j hj (Nat.lt_of_lt_of_le hj h.le),if_pos rfl,bq]at hs
  ·rw[h.xin hj,zp (h:=fun c=> -(dF A j c*x.getD c 0)) fun c hc=>by rw[h.kin hj,Rat.mul_neg,bl],FU,<-hs];generalize x.getD (pv.getD j 0) 0=q;generalize kV _ _=s;rw[Rat.mul_neg,Rat.mul_one,Rat.neg_add,<-Rat.add_assoc,Rat.add_comm q,Rat.add_assoc,Rat.add_neg_cancel,bY]
  ·have Qq:s∈pv:=by simpa using(List.mem_filter.1 hs).2
   obtain⟨i,hi,rfl⟩:=tB Qq;rw[h.unit i j hi (Nat.lt_of_lt_of_le hj h.le),aK (fun e=>OJ (by rw[e])),bI]
 ·rw[uF hp,bI,bY,zq (s:=t) tC (mF.2 ⟨ht,hp⟩) fun c hc OJ=>by rw[qF hp (mF.1 hc).1,aK (Ne.symm OJ),bD],qF hp ht,if_pos rfl,Rat.mul_one]
theorem qG{k:Nat}(hk:k<(jO pv n).length):(jO pv n).getD k 0∈jO pv n:=by rw[List.getD,aB hk];exact aX hk
theorem oa{k:Nat}(h:(eE A pv n n)[k]? =some r):k<(jO pv n).length∧r=fo A pv n ((jO pv n).getD k 0) pv.length:=by
 unfold eE at h;rw[aM]at h;obtain⟨c,hc,rfl⟩:=Option.map_eq_some_iff.1 h;refine⟨(aD.1 hc).1,?_⟩;rw[List.getD,hc];rfl
theorem Kv{i k:Nat}(hi:i<(jO pv n).length)(hk:k<(jO pv n).length)(e:(jO pv n).getD i 0=(jO pv n).getD k 0):i=k:=by
 rw[List.getD,List.getD,aB hi,aB hk]at e;rcases bs i k with h|h|h
 ·exact absurd e (List.pairwise_iff_getElem.1 tC i k hi hk h)
 ·exact h
 ·exact absurd e.symm (List.pairwise_iff_getElem.1 tC k i hk hi h)
theorem zw{k i:Nat}{s:List Rat}(hr:(eE A pv n n)[k]? =some r)(hs:(eE A pv n n)[i]? =some s):s.getD ((jO pv n).getD k 0) 0=if i=k then 1 else 0:=by
 obtain⟨hk,-⟩:=oa hr;obtain⟨hi,rfl⟩:=oa hs;have hm:=mF.1 (qG hk);rw[qF hm.2 (mF.1 (qG hi)).1];by_cases h:i=k
 ·rw[h,if_pos rfl,if_pos rfl]
 ·rw[aK (fun e=>h (Kv hi hk e.symm)),aK h]
end
theorem nk(f:Nat->Nat->Rat)(m:Nat):∀n,cZ (fun i=>cZ (f i) m) n=cZ (fun j=>cZ (fun i=>f i j) n) m
 |0=>(dw m).symm
 |n+1=>by
  show cZ (fun i=>cZ (f i) m) n+cZ (f n) m=cZ (fun j=>cZ (fun i=>f i j) n+f n j) m;rw[gJ,nk f m n]
theorem tE(x y:List Rat):∀n,fQ x y n=cZ (fun t=>x.getD t 0*y.getD t 0) n
 |0=>rfl
 |n+1=>by rw[fQ,tE x y n];rfl
theorem x8{f:Nat->Rat}:∀{n:Nat},(∀k,k<n->0<=f k)->0<=cZ f n
 |0,_=>Rat.le_refl
 |n+1,h=>by
  have h1:=x8 (n:=n) fun k hk=>h k (by omega);have h2:=h n (by omega);show 0<=cZ f n+f n;grind
theorem x9{f:Nat->Rat}:∀{n:Nat},(∀k,k<n->0<=f k)->cZ f n<=0->∀k,k<n->f k=0
 |0,_,_,k,hk=>by omega
 |n+1,h,h0,k,hk=>by
  have h1:=x8 (n:=n) fun k hk=>h k (by omega);have h2:=h n (by omega);have h3:cZ f n+f n<=0:=h0;rcases aQ k n with h4|h4
  ·exact x9 (fun k hk=>h k (by omega)) (by grind) k h4
  ·rw[show k=n by omega];grind
def Dl(m:Mx)(n w:Nat):Prop:=∀x:Nat->Rat,(∀t,t<w->cZ (fun i=>x i*m i t) n=0)->∀i,i<n->x i=0
theorem Kx(f:Nat->Rat){n b:Nat}(ha:a<n)(hb:b<n):cZ (fun i=>f (lf a b i)) n=cZ f n:=by
 have h1:cZ (fun i=>(if i=a then f b-f a else 0)+(if i=b then f a-f b else 0)) n=0:=by
  rw[gJ,eu ha fun k _ OJ=>aK OJ,eu hb fun k _ OJ=>aK OJ,if_pos rfl,if_pos rfl];grind
 have h2:cZ (fun i=>f (lf a b i)) n-cZ f n=0:=by
  rw[<-uG,<-h1];refine cL fun k _=>?_;unfold lf;by_cases h3:k=a
  ·subst h3;rw[if_pos rfl,if_pos rfl];by_cases h4:k=b
   ·subst h4;rw[if_pos rfl];grind
   ·rw[aK h4];grind
  ·rw[aK h3,aK h3];by_cases h4:k=b
   ·subst h4;rw[if_pos rfl,if_pos rfl];grind
   ·rw[aK h4,aK h4];grind
 grind
theorem Dm(a b i:Nat):lf a b (lf a b i)=i:=by
 unfold lf;by_cases h1:i=a
 ·rw[if_pos h1];by_cases h2:b=a
  ·rw[if_pos h2];omega
  ·rw[aK h2,if_pos rfl];omega
 ·rw[aK h1];by_cases h2:i=b
  ·rw[if_pos h2,if_pos rfl];omega
  ·rw[aK h2,aK h1,aK h2]
theorem aAO{b i n:Nat}(ha:a<n)(hb:b<n)(hi:i<n):lf a b i<n:=by unfold lf;split<;>(try split)<;>omega
theorem Dl.lf{n w b:Nat}(h:Dl m n w)(ha:a<n)(hb:b<n):Dl (fun i t=>m (lf a b i) t) n w:=fun x hx i hi=>by
 have h1:=h (fun i=>x (Go.Ex.lf a b i)) (fun t ht=>by
  rw[<-hx t ht,<-Kx (fun i=>x i*m (Go.Ex.lf a b i) t) ha hb]
  exact cL fun k _=>by simp only[Dm]) (Go.Ex.lf a b i) (aAO ha hb hi)
 simp only[Dm]at h1;exact h1
section
variable{m m':Mx}{n w p:Nat}{κ:Rat}{q:Nat->Rat}
def mh(p:Nat)(q x:Nat->Rat)(n:Nat):Rat:=cZ (fun j=>if j=p then 0 else x j*q j) n
theorem I0(hp:p<n)(h1:∀t,t<w->m' p t=κ*m p t)(h2:∀j t,j<n->j≠p->t<w->m' j t=m j t+q j*m' p t)(x:Nat->Rat){t:Nat}(ht:t<w):
  cZ (fun j=>x j*m' j t) n=cZ (fun j=>(if j=p then κ*(x p+mh p q x n)else x j)*m j t) n:=by
 have h3:cZ (fun j=>x j*m' j t) n-cZ (fun j=>(if j=p then κ*(x p+mh p q x n)else x j)*m j t) n=0:=by
  rw[<-uG];have h4:∀j,j<n->x j*m' j t-(if j=p then κ*(x p+mh p q x n)else x j)*m j t=(if j=p then 0 else x j*q j)*(κ*m p t)+(if j=p then -(mh p q x n*(κ*m p t))else 0):=fun j hj=>by
   by_cases h5:j=p
   ·subst h5;rw[if_pos rfl,if_pos rfl,if_pos rfl,h1 t ht];grind
   ·rw[aK h5,aK h5,aK h5,h2 j t hj h5 ht,h1 t ht];grind
  rw[cL h4,gJ,lg,eu hp fun k _ OJ=>aK OJ,if_pos rfl];unfold mh;grind
 grind
theorem Dl.mix(hi:Dl m n w)(hκ:κ≠0)(hp:p<n)(h1:∀t,t<w->m' p t=κ*m p t)(h2:∀j t,j<n->j≠p->t<w->m' j t=m j t+q j*m' p t):Dl m' n w:=fun x hx=>by
 have h3:=hi _ fun t ht=>(I0 hp h1 h2 x ht).symm.trans (hx t ht);have h4:∀j,j<n->j≠p->x j=0:=fun j hj OJ=>by have:=h3 j hj;rwa [aK OJ]at this
 have h5:mh p q x n=0:=by
  unfold mh;rw[cL (g:=fun _=>0) fun j hj=>?_,dw];by_cases h6:j=p
  ·rw[if_pos h6]
  ·rw[aK h6,h4 j hj h6,bI]
 have h6:=h3 p hp;rw[if_pos rfl,h5,bY]at h6;intro i hi;by_cases h7:i=p
 ·rw[h7];exact(Rat.mul_eq_zero.1 h6).resolve_left hκ
 ·exact h4 i hi h7
theorem Dl.aAp(hi:Dl m' n w)(hκ:κ≠0)(hp:p<n)(h1:∀t,t<w->m' p t=κ*m p t)(h2:∀j t,j<n->j≠p->t<w->m' j t=m j t+q j*m' p t):Dl m n w:=fun y hy=>by
 have hk:κ*κ⁻¹=1:=Rat.mul_inv_cancel _ hκ;have h3:=hi (fun j=>if j=p then y p*κ⁻¹-mh p q y n else y j) fun t ht=>by
  rw[I0 hp h1 h2 _ ht,<-hy t ht];refine cL fun j hj=>?_;have h5:mh p q (fun j=>if j=p then y p*κ⁻¹-mh p q y n else y j) n=mh p q y n:=by
   unfold mh;refine cL fun i _=>?_;by_cases h6:i=p
   ·rw[if_pos h6,if_pos h6]
   ·rw[aK h6,aK h6];simp only[aK h6]
  rw[h5,if_pos rfl];by_cases h6:j=p
  ·rw[if_pos h6,h6];grind
  ·rw[aK h6,aK h6]
 have h4:∀j,j<n->j≠p->y j=0:=fun j hj OJ=>by have:=h3 j hj;rwa [aK OJ]at this
 have h5:mh p q y n=0:=by
  unfold mh;rw[cL (g:=fun _=>0) fun j hj=>?_,dw];by_cases h6:j=p
  ·rw[if_pos h6]
  ·rw[aK h6,h4 j hj h6,bI]
 have h6:=h3 p hp;rw[if_pos rfl,h5]at h6;intro i hi;by_cases h7:i=p
 ·rw[h7];grind
 ·exact h4 i hi h7
end
theorem Dl.congr{m':Mx}{n w:Nat}(h:Dl m n w)(e:∀i t,i<n->t<w->m' i t=m i t):Dl m' n w:=fun x hx=>h x fun t ht=>by
 rw[<-hx t ht];exact cL fun i hi=>by rw[e i t hi ht]
theorem Ky{s:List (List Rat)×List Nat}{c w:Nat}(hl:fZ w s.1)(hle:s.2.length<=s.1.length):Dl (dF (db s c).1) s.1.length w↔Dl (dF s.1) s.1.length w:=by
 rcases jh c hle with⟨e,-⟩|⟨k,h1,h2,h3,e⟩
 ·rw[e]
 ·obtain⟨r1,r2⟩:=mE hl h1 h2 h3 e;have hp:s.2.length<s.1.length:=by omega
  have hs:lf s.2.length k s.2.length=k:=by unfold lf;rw[if_pos rfl]
  have hκ:(1 / dF s.1 k c)≠0:=fun e=>by have:=uE h3;rw[e,bD]at this;exact absurd this (by decide)
  have q1:∀t,t<w->dF (db s c).1 s.2.length t=(1 / dF s.1 k c)*(fun i t=>dF s.1 (lf s.2.length k i) t) s.2.length t:=fun t _=>by
   simp only[hs]
   rw[r1,bl]
  have q2:∀j t,j<s.1.length->j≠s.2.length->t<w->dF (db s c).1 j t=(fun i t=>dF s.1 (lf s.2.length k i) t) j t+(fun j=> -(dF s.1 (lf s.2.length k j) c)) j*dF (db s c).1 s.2.length t:=fun j t hj OJ ht=>by
   rw[r2 j hj OJ t ht,r1];have:lf s.2.length k j=if j=k then s.2.length else j:=by unfold lf;rw[aK OJ]
   simp only[this]
  constructor
  ·intro h;have h4:=(Dl.aAp h hκ hp q1 q2).lf hp h2;exact h4.congr fun i t _ _=>by simp only[Dm]
  ·intro h;exact Dl.mix (h.lf hp h2) hκ hp q1 q2
theorem xa{M:List (List Rat)}{w:Nat}(hl:fZ w M):∀cols,cols<=w->(Dl (dF (cM M cols).1) M.length w↔Dl (dF M) M.length w)
 |0,_=>Iff.rfl
 |c+1,h=>by
  have ih:=xa hl c (by omega);have hr:=dV hl c (by omega);have h1:=dq M c;rw[<-ih];have h2:=Ky (c:=c) hr.1 hr.2.1;rw[h1]at h2;rw[<-h2];unfold cM;rw[bT,List.foldl_append];exact Iff.rfl
def eI(E:Mx)(r n:Nat)(v:Nat->Rat):Prop:=∃c:Nat->Rat,∀t,t<n->v t=cZ (fun i=>c i*E i t) r
structure Rf(E:Mx)(p:Nat->Nat)(r n:Nat):Prop where
 lt:∀i,i<r->p i<n
 mono:∀i j,i<j->j<r->p i<p j
 unit:∀i j,i<r->j<r->E j (p i)=if j=i then 1 else 0
 lead:∀i t,i<r->t<p i->E i t=0
section
variable{E F:Mx}{p q:Nat->Nat}{r s n:Nat}{v:Nat->Rat}
theorem Rf.coeff(h:Rf E p r n)(hv:eI E r n v):∀t,t<n->v t=cZ (fun i=>v (p i)*E i t) r:=by
 obtain⟨c,hc⟩:=hv;intro t ht;rw[hc t ht];refine cL fun i hi=>?_;rw[hc (p i) (h.lt i hi),eu hi fun k hk OJ=>by rw[h.unit i k hi hk,aK OJ,bD],h.unit i i hi hi,if_pos rfl,Rat.mul_one]
theorem Rf.Mv(h:Rf E p r n)(hv:eI E r n v){t:Nat}(ht:t<n)(h0:v t≠0)(hz:∀k,k<t->v k=0):∃i,i<r∧p i=t:=by
 refine Decidable.byContradiction fun SB=>h0 ?_;rw[h.coeff hv t ht,cL (g:=fun _=>0) fun i hi=>?_,dw];rcases bs (p i) t with h1|h1|h1
 ·rw[hz _ h1,bI]
 ·exact absurd ⟨i,hi,h1⟩ SB
 ·rw[h.lead i t hi h1,bD]
theorem Rf.Nq(h:Rf E p r n)(k:Rf F q s n)(hE:∀i,i<r->eI F s n (E i)){i:Nat}(hi:i<r):∃j,j<s∧q j=p i:=
 k.Mv (hE i hi) (h.lt i hi) (by rw[h.unit i i hi hi,if_pos rfl];decide) fun t ht=>h.lead i t hi ht
theorem Rf.Kz(h:Rf E p r n)(k:Rf F q s n)(hE:∀i,i<r->eI F s n (E i))(hF:∀j,j<s->eI E r n (F j)):∀i,i<r->i<s∧p i=q i:=by
 intro i
 induction i using Nat.strongRecOn with
 |ind i ih=>
  intro hi;obtain⟨j,hj,e1⟩:=h.Nq k hE hi;have PH:i<=j:=by
   refine Nat.le_of_not_lt fun Oc=>?_;have h1:=(ih j Oc (by omega)).2;have h2:=h.mono j i Oc hi;omega
  have his:i<s:=by omega
  refine⟨his,?_⟩;obtain⟨l,hl,e2⟩:=k.Nq h hF his;have hli:i<=l:=by
   refine Nat.le_of_not_lt fun Oc=>?_;have h1:=(ih l Oc hl).2;have h2:=k.mono l i Oc his;omega
  have h3:q i<=q j:=by
   rcases aQ i j with h4|h4
   ·exact Nat.le_of_lt (k.mono i j h4 hj)
   ·rw[show i=j by omega];exact aF _
  have h5:p i<=p l:=by
   rcases aQ i l with h4|h4
   ·exact Nat.le_of_lt (h.mono i l h4 hl)
   ·rw[show i=l by omega];exact aF _
  omega
theorem Rf.one(h:Rf E p r n)(k:Rf F q s n)(hE:∀i,i<r->eI F s n (E i))(hF:∀j,j<s->eI E r n (F j)):r=s∧(∀i,i<r->p i=q i)∧∀i t,i<r->t<n->E i t=F i t:=by
 have h1:=h.Kz k hE hF;have h2:=k.Kz h hF hE;have Vx:r=s:=by
  rcases bs r s with h3|h3|h3
  ·have:=(h2 r h3).1;omega
  ·exact h3
  ·have:=(h1 s h3).1;omega
 refine⟨Vx,fun i hi=>(h1 i hi).2,fun i t hi ht=>?_⟩;rw[k.coeff (hE i hi) t ht,eu (i:=i) (by omega) fun j hj OJ=>by rw[<-(h1 j (by omega)).2,h.unit j i (by omega) hi,aK (Ne.symm OJ),bI],<-(h1 i hi).2,h.unit i i hi hi,if_pos rfl,bq]
end
theorem eI.row{E:Mx}{r n i:Nat}(hi:i<r):eI E r n (E i):=⟨fun k=>if k=i then 1 else 0,fun t _=>by
 rw[eu hi fun k _ OJ=>by simp only[aK OJ,bI]]
 simp only[if_pos,bq]⟩
theorem eI.add{E:Mx}{r n:Nat}(h:eI E r n u)(k:eI E r n v)(x:Rat):eI E r n fun t=>u t+x*v t:=by
 obtain⟨c,hc⟩:=h;obtain⟨d,hd⟩:=k;refine⟨fun i=>c i+x*d i,fun t ht=>?_⟩;show u t+x*v t=cZ (fun i=>(c i+x*d i)*E i t) r;rw[hc t ht,hd t ht,<-eo,<-gJ];exact cL fun i _=>by grind
theorem eI.mul{E:Mx}{r n:Nat}(h:eI E r n u)(x:Rat):eI E r n fun t=>u t*x:=by
 obtain⟨c,hc⟩:=h;refine⟨fun i=>c i*x,fun t ht=>?_⟩;show u t*x=cZ (fun i=>(c i*x)*E i t) r;rw[hc t ht,<-lg];exact cL fun i _=>by grind
theorem eI.congr{E:Mx}{r n:Nat}(h:eI E r n u)(e:∀t,t<n->v t=u t):eI E r n v:=by
 obtain⟨c,hc⟩:=h;exact⟨c,fun t ht=>by rw[e t ht,hc t ht]⟩
theorem eI.trans{E F:Mx}{r s n:Nat}(h:eI E r n v)(k:∀i,i<r->eI F s n (E i)):eI F s n v:=by
 obtain⟨c,hc⟩:=h;have key:∀m,m<=r->eI F s n fun t=>cZ (fun i=>c i*E i t) m:=by
  intro m
  induction m with
  |zero=>intro _;exact⟨fun _=>0,fun t _=>by rw[cL (g:=fun _=>0) fun i _=>bI _,dw];rfl⟩
  |succ m ih=>
   intro hm;exact(ih (by omega)).add (k m (by omega)) (c m)
 exact(key r (aF _)).congr fun t ht=>hc t ht
def LB(s:List (List Rat)×List Nat):Prop:=(∀i j,i<j->j<s.2.length->s.2.getD i 0<s.2.getD j 0)∧∀i t,i<s.2.length->t<s.2.getD i 0->dF s.1 i t=0
theorem LB.step{n c:Nat}{s:List (List Rat)×List Nat}(h:LB s)(hr:Red n c s)(hc:c<n):LB (db s c):=by
 obtain⟨hl,hle,hz,RQ,hu⟩:=hr;rcases jh c hle with⟨e,-⟩|⟨k,h1,h2,h3,e⟩
 ·rw[e];exact h
 ·obtain⟨r1,r2⟩:=mE hl h1 h2 h3 e;have e2:(db s c).2=s.2++[c]:=by rw[e]
  have hold:∀i,i<s.2.length->(db s c).2.getD i 0=s.2.getD i 0:=fun i hi=>by rw[e2,List.getD,aL hi,<-List.getD]
  have QD:(db s c).2.getD s.2.length 0=c:=by rw[e2,List.getD,aN (aF _),bL];rfl
  have Oc:∀i,i<s.2.length->s.2.getD i 0<c:=fun i hi=>RQ _ (by rw[List.getD,aB hi];exact aX _);have hlen:(db s c).2.length=s.2.length+1:=by rw[e2];simp
  refine⟨fun i j Pt hj=>?_,fun i t hi ht=>?_⟩
  ·rw[hlen]at hj;rcases aQ j s.2.length with h4|h4
   ·rw[hold i (by omega),hold j h4];exact h.1 i j Pt h4
   ·rw[show j=s.2.length by omega,QD,hold i (by omega)];exact Oc i (by omega)
  ·rw[hlen]at hi;rcases aQ i s.2.length with h4|h4
   ·rw[hold i h4]at ht;have h5:=Oc i h4;rw[r2 i (by omega) (by omega) t (by omega),hz k t h1 h2 (by omega),aK (by omega),h.2 i t h4 ht,bI,bD,Rat.zero_add]
   ·rw[show i=s.2.length by omega]at ht ⊢;rw[QD]at ht;rw[r1,hz k t h1 h2 ht,bI]
theorem uH{M:List (List Rat)}{n:Nat}(hl:fZ n M):∀cols,cols<=n->LB (cM M cols)
 |0,_=>⟨fun _ _ _ h=>(by cases h),fun _ _ h=>(by cases h)⟩
 |c+1,h=>by
  have ih:=uH hl c (by omega);have hr:=dV hl c (by omega);unfold cM at ih hr ⊢;rw[bT,List.foldl_append];exact ih.step hr (by omega)
theorem AA{n:Nat}(hl:fZ n M):Rf (dF (cM M n).1) (fun i=>(cM M n).2.getD i 0) (cM M n).2.length n:=by
 obtain⟨h1,h2,h3,h4,h5⟩:=dV hl n (aF _);obtain⟨k1,k2⟩:=uH hl n (aF _);refine⟨fun i hi=>h4 _ (by rw[List.getD,aB hi];exact aX _),k1,fun i j hi hj=>h5 i j hi (by omega),k2⟩
theorem Mw{s:List (List Rat)×List Nat}{c n:Nat}(hl:fZ n s.1)(hle:s.2.length<=s.1.length):(∀j,j<s.1.length->eI (dF s.1) s.1.length n (dF (db s c).1 j))∧∀j,j<s.1.length->eI (dF (db s c).1) s.1.length n (dF s.1 j):=by
 rcases jh c hle with⟨e,-⟩|⟨k,h1,h2,h3,e⟩
 ·rw[e];exact⟨fun j hj=>eI.row hj,fun j hj=>eI.row hj⟩
 ·obtain⟨r1,r2⟩:=mE hl h1 h2 h3 e;have hp:s.2.length<s.1.length:=by omega
  have a1:eI (dF s.1) s.1.length n (dF (db s c).1 s.2.length):=((eI.row h2).mul (1 / dF s.1 k c)).congr fun t _=>r1 t;have b1:eI (dF (db s c).1) s.1.length n (dF s.1 k):=((eI.row hp).mul (dF s.1 k c)).congr fun t _=>by rw[r1,Rat.mul_assoc,bl (1 / _),uE h3,Rat.mul_one]
  refine⟨fun j hj=>?_,fun j hj=>?_⟩
  ·by_cases h4:j=s.2.length
   ·rw[h4];exact a1
   ·exact((eI.row (show (if j=k then s.2.length else j)<s.1.length by split<;>omega)).add (eI.row h2) (-(dF s.1 (if j=k then s.2.length else j) c)*(1 / dF s.1 k c))).congr fun t ht=>by rw[r2 j hj h4 t ht];grind
  ·by_cases h4:j=k
   ·rw[h4];exact b1
   ·obtain⟨i,hi,OJ,Pt⟩:∃i,i<s.1.length∧i≠s.2.length∧(if i=k then s.2.length else i)=j:=by
     by_cases h5:j=s.2.length
     ·exact⟨k,h2,fun e6=>h4 (h5.trans e6.symm),by rw[if_pos rfl,h5]⟩
     ·exact⟨j,hj,h5,aK h4⟩
    refine((eI.row hi).add (eI.row hp) (dF s.1 j c)).congr fun t ht=>?_;rw[r2 i hi OJ t ht,Pt,r1];grind
theorem j6{M:List (List Rat)}{n:Nat}(hl:fZ n M):∀cols,cols<=n->(∀j,j<M.length->eI (dF M) M.length n (dF (cM M cols).1 j))∧∀j,j<M.length->eI (dF (cM M cols).1) M.length n (dF M j)
 |0,_=>⟨fun j hj=>eI.row hj,fun j hj=>eI.row hj⟩
 |c+1,h=>by
  obtain⟨i1,i2⟩:=j6 hl c (by omega);have hr:=dV hl c (by omega);have h1:=dq M c;have h2:=Mw (c:=c) hr.1 hr.2.1;rw[h1]at h2;have e:(cM M (c+1))=db (cM M c) c:=by unfold cM;rw[bT,List.foldl_append];rfl
  rw[e];exact⟨fun j hj=>(h2.1 j hj).trans i1,fun j hj=>(i2 j hj).trans h2.2⟩
theorem eI.cut{E:Mx}{r m n:Nat}(h:eI E m n v)(hz:∀i t,r<=i->i<m->t<n->E i t=0):eI E r n v:=by
 refine h.trans fun i hi=>?_;rcases aQ i r with h1|h1
 ·exact eI.row h1
 ·exact⟨fun _=>0,fun t ht=>by rw[hz i t h1 hi ht,cL (g:=fun _=>0) fun k _=>bI _,dw]⟩
theorem FX{n r:Nat}{F:Mx}{q:Nat->Nat}(hl:fZ n M)(k:Rf F q r n)(h1:∀i,i<r->eI (dF M) M.length n (F i))(h2:∀j,j<M.length->eI F r n (dF M j)):
  (cM M n).2.length=r∧(∀i,i<r->(cM M n).2.getD i 0=q i)∧∀i t,i<r->t<n->dF (cM M n).1 i t=F i t:=by
 obtain⟨a1,a2⟩:=j6 hl n (aF _);obtain⟨-,hle,hz,-,-⟩:=dV hl n (aF _);rw[dq]at hle hz;have h:=AA hl;obtain⟨e1,e2,e3⟩:=h.one k (fun i hi=>(a1 i (by omega)).trans h2) fun j hj=>((h1 j hj).trans a2).cut fun i t hi hm ht=>hz i t hi hm ht;exact⟨e1,fun i hi=>e2 i (by omega),fun i t hi ht=>e3 i t (by omega) ht⟩
structure Ru(E:Mx)(p:Nat->Nat)(r n:Nat):Prop where
 lt:∀i,i<r->p i<n
 inj:∀i j,i<r->j<r->p i=p j->i=j
 unit:∀i j,i<r->j<r->E j (p i)=if j=i then 1 else 0
 lead:∀i t,i<r->t<p i->E i t=0
def mb(E:Mx)(p:Nat->Nat)(r:Nat)(v:Nat->Rat)(k t:Nat):Rat:=v t-cZ (fun i=>if p i<k then v (p i)*E i t else 0) r
theorem LC(E:Mx)(p:Nat->Nat)(r:Nat)(v:Nat->Rat)(t:Nat):mb E p r v 0 t=v t:=by
 unfold mb;rw[cL (g:=fun _=>0) fun i _=>aK (by omega),dw];grind
section
variable{E:Mx}{p:Nat->Nat}{r n:Nat}{v:Nat->Rat}
theorem LD{k t:Nat}(h:∀i,i<r->p i≠k):mb E p r v (k+1) t=mb E p r v k t:=by
 unfold mb;rw[cL fun i hi=>?_];have:=h i hi;by_cases h1:p i<k
 ·rw[if_pos h1,if_pos (by omega)]
 ·rw[aK h1,aK (by omega)]
theorem aAP(h:Ru E p r n){i:Nat}(hi:i<r):mb E p r v (p i) (p i)=v (p i):=by
 unfold mb;rw[cL (g:=fun _=>0) fun j hj=>?_,dw]
 ·grind
 ·by_cases h1:p j<p i
  ·rw[if_pos h1,h.unit i j hi hj,aK (fun e=>by rw[e]at h1;omega),bD]
  ·rw[aK h1]
theorem LF(h:Ru E p r n){i t:Nat}(hi:i<r):mb E p r v (p i+1) t=mb E p r v (p i) t+ -(mb E p r v (p i) (p i))*E i t:=by
 rw[aAP h hi];unfold mb;have e:cZ (fun j=>if p j<p i+1 then v (p j)*E j t else 0) r=cZ (fun j=>(if p j<p i then v (p j)*E j t else 0)+(if j=i then v (p i)*E i t else 0)) r:=by
  refine cL fun j hj=>?_;by_cases h1:j=i
  ·subst h1;rw[if_pos (by omega),aK (by omega),if_pos rfl,Rat.zero_add]
  ·have h2:p j≠p i:=fun e=>h1 (h.inj j i hj hi e);rw[aK h1,bY];by_cases h3:p j<p i
   ·rw[if_pos h3,if_pos (by omega)]
   ·rw[aK h3,aK (by omega)]
 rw[e,gJ,eu hi fun k _ OJ=>aK OJ,if_pos rfl];grind
theorem I1(h:Ru E p r n){i:Nat}(hi:i<r):mb E p r v n (p i)=0:=by
 unfold mb;rw[eu hi fun k hk OJ=>?_,if_pos (h.lt i hi),h.unit i i hi hi,if_pos rfl]
 ·grind
 ·rw[if_pos (h.lt k hk),h.unit i k hi hk,aK OJ,bD]
end
def lG(E:Mx)(r:Nat)(u:Nat->Rat)(k:Nat):Mx:=fun i t=>if i=r then u t / u k else E i t+ -(E i k)*(u t / u k)
theorem Ru.push{E:Mx}{p:Nat->Nat}{r n k:Nat}(h:Ru E p r n)(hk:k<n)(hu:∀i,i<r->u (p i)=0)(h0:u k≠0)(hz:∀t,t<k->u t=0):
  Ru (lG E r u k) (fun i=>if i=r then k else p i) (r+1) n:=by
 have OJ:∀i,i<r->p i≠k:=fun i hi e=>h0 (e▸hu i hi);have QI:u k / u k=1:=by rw[bj,Rat.mul_inv_cancel _ h0]
 have OT:∀i,i<r->u (p i) / u k=0:=fun i hi=>by rw[hu i hi,bj,bI]
 refine⟨fun i hi=>?_,fun i j hi hj e=>?_,fun i j hi hj=>?_,fun i t hi ht=>?_⟩
 ·split
  ·exact hk
  ·exact h.lt i (by omega)
 ·by_cases h1:i=r
  ·by_cases h2:j=r
   ·omega
   ·rw[if_pos h1,aK h2]at e;exact absurd e.symm (OJ j (by omega))
  ·by_cases h2:j=r
   ·rw[aK h1,if_pos h2]at e;exact absurd e (OJ i (by omega))
   ·rw[aK h1,aK h2]at e;exact h.inj i j (by omega) (by omega) e
 ·unfold lG;by_cases h1:i=r
  ·rw[if_pos h1];by_cases h2:j=r
   ·rw[if_pos h2,if_pos (by omega),QI]
   ·rw[aK h2,aK (by omega),QI];grind
  ·rw[aK h1];by_cases h2:j=r
   ·rw[if_pos h2,aK (by omega),OT i (by omega)]
   ·rw[aK h2,OT i (by omega),bD,bY];exact h.unit i j (by omega) (by omega)
 ·unfold lG;by_cases h1:i=r
  ·rw[if_pos h1]at ht;rw[if_pos h1,hz t ht,bj,bI]
  ·rw[aK h1]at ht;rw[aK h1,h.lead i t (by omega) ht,Rat.zero_add];rcases aQ t k with h2|h2
   ·rw[hz t h2,bj,bI,bD]
   ·rw[h.lead i k (by omega) (by omega)];grind
def kO(E:Mx)(r:Nat)(v:Nat->Rat):Mx:=fun i t=>if i=r then v t else E i t
section
variable{E:Mx}{p:Nat->Nat}{r n k:Nat}{u v:Nat->Rat}
theorem Je(i:Nat)(hi:i<r):eI (kO E r v) (r+1) n (E i):=(eI.row (show i<r+1 by omega)).congr fun t _=>by unfold kO;rw[aK (by omega)]
theorem aAQ(hu:∀t,t<n->u t=mb E p r v n t)(hl:∀i,i<r->p i<n):eI (kO E r v) (r+1) n u:=by
 refine⟨fun i=>if i=r then 1 else -(v (p i)),fun t ht=>?_⟩;rw[hu t ht];show mb E p r v n t=cZ (fun i=>(if i=r then 1 else -(v (p i)))*kO E r v i t) r+(if r=r then 1 else -(v (p r)))*kO E r v r t;rw[if_pos rfl,cL (g:=fun i=> -(v (p i)*E i t)) fun i hi=>by unfold kO;rw[aK (by omega),aK (by omega),Rat.neg_mul],nh];unfold mb kO;rw[if_pos rfl,cL (g:=fun i=>v (p i)*E i t) fun i hi=>if_pos (hl i hi)];grind
theorem LG(hu:eI (kO E r v) (r+1) n u):∀i,i<r+1->eI (kO E r v) (r+1) n (lG E r u k i):=fun i hi=>by
 by_cases h1:i=r
 ·exact(hu.mul (1 / u k)).congr fun t _=>by unfold lG;rw[if_pos h1,bj,bj,bq]
 ·exact((Je i (by omega)).add hu (-(E i k)*(1 / u k))).congr fun t _=>by unfold lG;rw[aK h1,bj,bj];grind
theorem I2(h0:u k≠0):eI (lG E r u k) (r+1) n u:=((eI.row (show r<r+1 by omega)).mul (u k)).congr fun t _=>by
 unfold lG;rw[if_pos rfl,Rat.div_mul_cancel h0]
theorem rK(h0:u k≠0)(i:Nat)(hi:i<r):eI (lG E r u k) (r+1) n (E i):=((eI.row (show i<r+1 by omega)).add (I2 h0) (E i k / u k)).congr fun t _=>by
 unfold lG;rw[aK (by omega),bj,bj];grind
theorem Ch(h0:u k≠0)(hu:∀t,t<n->u t=mb E p r v n t)(hl:∀i,i<r->p i<n):eI (lG E r u k) (r+1) n v:=by
 have h1:eI (kO E r u) (r+1) n v:=by
  refine⟨fun i=>if i=r then 1 else v (p i),fun t ht=>?_⟩;show v t=cZ (fun i=>(if i=r then 1 else v (p i))*kO E r u i t) r+(if r=r then 1 else v (p r))*kO E r u r t;rw[if_pos rfl,cL (g:=fun i=>v (p i)*E i t) fun i hi=>by unfold kO;rw[aK (by omega),aK (by omega)]];unfold kO;rw[if_pos rfl,hu t ht];unfold mb;rw[cL (g:=fun i=>v (p i)*E i t) fun i hi=>if_pos (hl i hi)];grind
 refine h1.trans fun i hi=>?_;by_cases h2:i=r
 ·exact(I2 h0).congr fun t _=>by unfold kO;rw[if_pos h2]
 ·exact(rK h0 i (by omega)).congr fun t _=>by unfold kO;rw[aK h2]
end
def mi(row vg:List Rat)(by_:Rat):List Rat:=row.mapIdx (ss (-by_) vg)
theorem uI(row vg:List Rat)(b:Rat):(mi row vg b).length=row.length:=List.length_mapIdx
theorem AB(row vg:List Rat):mi row vg 0=row:=by
 refine bM fun j=>?_;rw[mi,List.getElem?_mapIdx]
 cases row[j]? with
 |none=>rfl
 |some q=>exact congrArg some (by rw[ss,Rat.neg_zero,bI,bY])
def pO(row:List Rat):Nat->Nat->Nat
 |0,k=>k
 |f+1,k=>if row.getD k 0=0 then pO row f (k+1)else k
def uJ(row:List Rat)(cols:Nat):Nat:=pO row cols 0
theorem LI{row:List Rat}{k:Nat}:∀(f j:Nat),(∀i,j<=i->i<j+k->row.getD i 0=0)->k<=f->(k<f->row.getD (j+k) 0≠0)->pO row f j=j+k:=by
 induction k with
 |zero=>
  intro f j _ _ h
  cases f with
  |zero=>rfl
  |succ f=>rw[pO,aK (by have:=h (by omega);rwa [bz]at this)];rfl
 |succ k ih=>
  intro f j h0 hf h
  cases f with
  |zero=>omega
  |succ f=>
   rw[pO,if_pos (h0 j (aF _) (by omega)),ih f (j+1) (fun i h1 h2=>h0 i (by omega) (by omega)) (by omega) (fun h1=>by rw[Nat.add_assoc,Nat.add_comm 1 k];exact h (by omega))];omega
theorem I4{row:List Rat}{cols k:Nat}(h0:∀i,i<k->row.getD i 0=0)(hk:k<=cols)(h:k<cols->row.getD k 0≠0):uJ row cols=k:=by
 rw[uJ,LI (k:=k) cols 0 (fun i _ h2=>h0 i (by omega)) hk (fun h1=>by rw[aS];exact h h1),aS]
abbrev yR:=List (List Rat)×List (Option Nat)×List Nat
def fy(E:List (List Rat))(at_:List (Option Nat))(row:List Rat):Nat->List Rat
 |0=>row
 |k+1=>match at_.getD k none with
  |some j=>mi (fy E at_ row k) (E.getD j []) ((fy E at_ row k).getD k 0)
  |none=>fy E at_ row k
theorem iL(E:List (List Rat))(at_:List (Option Nat))(row:List Rat):∀k,(fy E at_ row k).length=row.length
 |0=>rfl
 |k+1=>by
  rw[fy];split
  ·rw[uI,iL E at_ row k]
  ·exact iL E at_ row k
def gQ(E:List (List Rat))(u:List Rat)(p i:Nat):List (List Rat):=E.mapIdx fun j r=>if j<i then mi r u (r.getD p 0)else r
def kc(cols:Nat)(s:yR)(i:Nat)(row:List Rat):yR:=
 let r:=fy s.1 s.2.1 row cols
 let p:=uJ r cols
 if p=cols then s else
  let u:=r.map (· / r.getD p 0)
  (gQ s.1 u p s.1.length++[u],s.2.1.set p (some s.1.length),s.2.2++[i])
def iG(M:List (List Rat))(cols:Nat):Nat->yR
 |0=>([],List.replicate cols none,[])
 |i+1=>kc cols (iG M cols i) i (M.getD i [])
def dJ(s:yR):Nat->List (List Rat)×List Nat×List Nat
 |0=>([],[],[])
 |k+1=>match s.2.1.getD k none with
  |some r=>((dJ s k).1++[s.1.getD r []],(dJ s k).2.1++[k],(dJ s k).2.2++[s.2.2.getD r 0])
  |none=>dJ s k
def dS(M:List (List Rat))(cols:Nat):List (List Rat)×List Nat×List Nat:=dJ (iG M cols M.length) cols
structure uK(n cols i:Nat)(s:yR):Prop where
 len:fZ n s.1
 at_:s.2.1.length=cols
 vg:s.2.2.length=s.1.length
 lt:∀(k r:Nat),s.2.1[k]? =some (some r)->r<s.1.length
 le:s.1.length<=i
 fr:∀j∈s.2.2,j<i
theorem gB(E:List (List Rat))(u:List Rat)(p i:Nat):(gQ E u p i).length=E.length:=List.length_mapIdx
theorem HS(E:List (List Rat))(u:List Rat)(p:Nat):gQ E u p 0=E:=by
 refine bM fun j=>?_;rw[gQ,List.getElem?_mapIdx]
 cases E[j]? <;>rfl
theorem FZ{u:List Rat}{p i:Nat}(h:E[i]? =some r):(gQ E u p i)[i]? =some r:=by
 rw[gQ,List.getElem?_mapIdx,h];exact congrArg some (aK (Nat.lt_irrefl i))
theorem AD{u:List Rat}{p i:Nat}(h:E[i]? =some r):gQ E u p (i+1)=(gQ E u p i).set i (mi r u (r.getD p 0)):=by
 refine bM fun j=>?_;have hi:=(aD.1 h).1;by_cases hj:i=j
 ·subst hj;rw[aV (by rw[gB];exact hi),gQ,List.getElem?_mapIdx,h];exact congrArg some (if_pos (b9 i))
 ·rw[aZ hj,gQ,gQ,List.getElem?_mapIdx,List.getElem?_mapIdx]
  cases E[j]? with
  |none=>rfl
  |some r=>
   have e:(j<i+1)↔(j<i):=by omega
   simp only[Option.map_some,e]
theorem Jh{u:List Rat}{p i n:Nat}(h:fZ n E):fZ n (gQ E u p i):=fun r hr=>by
 obtain⟨j,hj⟩:=aR hr;rw[gQ,List.getElem?_mapIdx]at hj
 cases hE:E[j]? with
 |none=>rw[hE]at hj;cases hj
 |some x=>
  rw[hE]at hj;have hx:=h x (aC hE);simp only[Option.map_some,Option.some.injEq]at hj;subst hj;split
  ·rw[uI];exact hx
  ·exact hx
theorem uK.start(n cols:Nat):uK n cols 0 ([],List.replicate cols none,[]):=
 ⟨(fun r hr=>by cases hr),bE ..,rfl,(fun (k r:Nat) h=>by rw[List.getElem?_replicate]at h;split at h<;>cases h),aF _,fun j hj=>by cases hj⟩
theorem uK.step{n cols i:Nat}{s:yR}(h:uK n cols i s){row:List Rat}(hr:row.length=n):uK n cols (i+1) (kc cols s i row):=by
 unfold kc;dsimp only
 split
 ·exact⟨h.len,h.at_,h.vg,h.lt,Nat.le_succ_of_le h.le,fun j hj=>Nat.lt_succ_of_lt (h.fr j hj)⟩
 ·refine⟨fun r hm=>?_,by simp[h.at_],by simp[h.vg,gB],fun k r hk=>?_,?_,fun j hj=>?_⟩
  ·rcases bK.1 hm with hm|hm
   ·exact Jh h.len r hm
   ·rw[bB]at hm;subst hm;rw[aJ,iL,hr]
  ·dsimp only at hk ⊢;rw[List.length_append,gB,List.length_singleton];rw[List.getElem?_set]at hk;split at hk
   ·split at hk
    ·injection hk with hk;injection hk with hk;omega
    ·cases hk
   ·have:=h.lt k r hk;omega
  ·dsimp only
   rw[List.length_append,gB,List.length_singleton];have:=h.le;omega
  ·rcases bK.1 hj with hj|hj
   ·exact Nat.lt_succ_of_lt (h.fr j hj)
   ·rw[bB]at hj;omega
theorem AE{M:List (List Rat)}{n:Nat}(cols:Nat)(hM:fZ n M):∀i,i<=M.length->uK n cols i (iG M cols i)
 |0,_=>uK.start n cols
 |i+1,hi=>by
  have hm:=aB (l:=M) (show i<M.length by omega);refine(AE cols hM i (by omega)).step ?_;rw[List.getD,hm];exact hM _ (aC hm)
structure ew where
 nodes:List (Int×Int×Int)
 bars:List (Int×Int×Rat)
 cV:List (Int×Int×Rat)
def ew.cols(f:ew):Nat:=f.bars.length+f.cV.length
def ew.node(f:ew)(n:Int):Int×Int×Int:=f.nodes.getD n.toNat (0,0,0)
def tF(f:ew)(b:Int×Int×Rat):List Int:=[(f.node b.2.1).1-(f.node b.1).1,(f.node b.2.1).2.1-(f.node b.1).2.1,(f.node b.2.1).2.2-(f.node b.1).2.2]
def uL(M:List (List Int))(r c:Nat)(d:Int):List (List Int):=M.set r ((M.getD r []).set c ((M.getD r []).getD c 0+d))
def putAt(M:List (List Int))(r c:Nat)(d:Int):List (List Int):=M.set r ((M.getD r []).set c d)
def eV(f:ew)(M:List (List Int))(i:Nat):Nat->List (List Int)
 |0=>M
 |k+1=>
  let b:=f.bars.getD i (0,0,0)
  let d:=(tF f b).getD k 0
  uL (uL (eV f M i k) (3*b.1+k).toNat i d) (3*b.2.1+k).toNat i (-d)
def dh(f:ew):Nat->List (List Int)
 |0=>List.replicate (3*f.nodes.length) (List.replicate f.cols 0)
 |i+1=>eV f (dh f i) i 3
def fG(f:ew):Nat->List (List Int)
 |0=>dh f f.bars.length
 |i+1=>
  let s:=f.cV.getD i (0,0,0)
  putAt (fG f i) (3*s.1+s.2.1).toNat (f.bars.length+i) 1
def iD(f:ew):List (List Int):=fG f f.cV.length
def dM(l:List Int):List Rat:=l.map fun(n:Int)=>(n:Rat)
def cP(f:ew):List (List Rat):=(iD f).map dM
def ee(M:List (List Rat))(cols:Nat):List (List Rat):=(List.range cols).map fun k=>M.map fun r=>r.getD k 0
abbrev Ld:=Int×Int×Int×Int
def I5(s:List Int)(r:Nat)(d:Int):List Int:=s.set r (s.getD r 0+d)
def cW(l:List Rat)(b:Rat):List Rat:=l.map (· *b)
def fR(a b:List Rat):List Rat:=a.mapIdx fun i x=>x*b.getD i 0
def cY(f:ew):List Rat:=f.bars.map (·.2.2)++f.cV.map (·.2.2)
def kP(M:List (List Rat))(b:List Rat):List (List Rat):=M.mapIdx fun i r=>r++[b.getD i 0]
def lQ(M:List (List Rat))(cols:Nat):List (List Rat):=eE (dS M cols).1 (dS M cols).2.1 cols cols
def od(M:List (List Rat))(b:List Rat)(cols:Nat):Option (List Rat):=
 let e:=dS (kP M b) (cols+1)
 if cols∈e.2.1 then none else some (gA e.1 e.2.1 cols e.2.1.length)
def eY(st:List (List Rat))(fl:List Rat):List (List Rat):=st.map fun s=>st.map fun r=>fQ (fR s fl) r s.length
def gl(st:List (List Rat))(fl x:List Rat):List Rat:=st.map fun s=> -(fQ (fR s fl) x s.length)
def jx(st:List (List Rat))(c x:List Rat):Nat->List Rat
 |0=>x
 |i+1=>(jx st c x i).mapIdx fun k q=>q+c.getD i 0*(st.getD i []).getD k 0
def fb:ew:=⟨[(0,0,0),(0,0,4),(3,0,0)],[(0,2,1),(1,2,1)],[(0,0,0),(0,1,0),(0,2,0),(1,0,0),(1,1,0),(1,2,0),(2,1,0)]⟩
def Ib(B:Nat)(q:Rat):Prop:=∃z:Int,q=(z:Rat)∧z.natAbs<=B
theorem Ib.mono(h:Ib B q)(k:B<=C):Ib C q:=let⟨z,e,b⟩:=h;⟨z,e,aY b k⟩
theorem Ib.add(h:Ib B p)(k:Ib C q):Ib (B+C) (p+q):=by
 obtain⟨z,rfl,b⟩:=h;obtain⟨y,rfl,c⟩:=k;exact⟨z+y,by rw[Rat.intCast_add],by omega⟩
theorem Ib.mul(h:Ib B p)(k:Ib C q):Ib (B*C) (p*q):=by
 obtain⟨z,rfl,b⟩:=h;obtain⟨y,rfl,c⟩:=k;exact⟨z*y,by rw[Rat.intCast_mul],by rw[Int.natAbs_mul];exact Nat.mul_le_mul b c⟩
theorem Ib.neg(h:Ib B p):Ib B (-p):=by
 obtain⟨z,rfl,b⟩:=h;exact⟨-z,by rw[Rat.intCast_neg],by omega⟩
theorem Ib.sub(h:Ib B p)(k:Ib C q):Ib (B+C) (p-q):=by rw[Rat.sub_eq_add_neg];exact h.add k.neg
theorem Ib.zero(B:Nat):Ib B 0:=⟨0,rfl,aO _⟩
theorem Ib.one(h:1<=B):Ib B 1:=⟨1,rfl,h⟩
theorem Ib.int{z:Int}(h:z.natAbs<=B):Ib B (z:Rat):=⟨z,rfl,h⟩
theorem Ib.sum{B:Nat}{f:Nat->Rat}:∀(n:Nat),(∀k,k<n->Ib B (f k))->Ib (n*B) (cZ f n)
 |0,_=>Ib.zero _
 |n+1,h=>by rw[cZ,Nat.succ_mul];exact(Ib.sum n fun k hk=>h k (by omega)).add (h n (by omega))
def fB(B:Nat):Nat->Nat
 |0=>1
 |n+1=>(n+1)*(B*fB B n)
theorem Ib.tD{k:Nat}(h:Ib B q):Ib B (tD k*q):=by
 unfold Go.Ex.tD;split
 ·rw[show (-1:Rat)*q= -q by grind];exact h.neg
 ·rw[bq];exact h
theorem Ib.det{B:Nat}:∀(n:Nat) {m:Mx},(∀i j,i<n->j<n->Ib B (m i j))->Ib (fB B n) (fw n m)
 |0,_,_=>Ib.one (aF _)
 |n+1,m,h=>by
  unfold fw fB;exact Ib.sum (n+1) fun k hk=>((h 0 k (by omega) hk).mul (Ib.det n fun i j hi hj=>h (i+1) (skip k j) (by omega) (IY hj))).tD
theorem I6(B n:Nat):B*fB B n<=fB B (n+1):=Nat.le_mul_of_pos_left _ (Nat.succ_pos n)
theorem NA(h:1<=B)(n:Nat):fB B n<=fB B (n+1):=aY (Nat.le_mul_of_pos_left _ h) (I6 B n)
theorem rL{B a:Nat}(h:1<=B):∀{b:Nat},a<=b->fB B a<=fB B b
 |0,k=>by rw[Nat.le_zero.1 k];exact aF _
 |b+1,k=>by
  rcases aQ b a with h1|h1
  ·rw[show a=b+1 by omega];exact aF _
  ·exact aY (rL h h1) (NA h b)
theorem Nr{B R:Nat}:∀{n:Nat},n<=R->fB B n<=(R*B)^n
 |0,_=>aF _
 |n+1,h=>by
  rw[fB,Nat.pow_succ,<-bg,bX _ (R*B)];exact Nat.mul_le_mul (Nat.mul_le_mul_right B h) (Nr (by omega))
theorem Ns{R l n:Nat}(hn:n<=R)(h:R*B<=wt l):ln (fB B n)<=l*n+1:=by
 rw[gP,jG];have h1:=aY (Nr (B:=B) hn) (Nat.pow_le_pow_left h n);rw[wD,<-Nat.pow_mul]at h1;have h2:=wD (l*n);have h3:=zi (l*n);rw[show 32*l*n=32*(l*n) by rw[bg]]at h1;omega
theorem zF{K:Nat}{D:Rat}(h0:D≠0)(hD:Ib K D)(hq:Ib K (D*q)):rl q<=ln K:=by
 obtain⟨d,rfl,b⟩:=hD;obtain⟨z,e,c⟩:=hq;have hd:d≠0:=fun e=>h0 (by rw[e];rfl);have e2:q=Rat.divInt z d:=by
  rw[Rat.divInt_eq_div,<-e,bj,bl (d:Rat) q,Rat.mul_assoc,Rat.mul_inv_cancel _ h0,Rat.mul_one]
 have:=kW (a:=z) hd;have:=fM b;have:=fM c;rw[e2];omega
theorem Jj{n r:Nat}(h:r<n):fw n (gW m r fun _=>0)=0:=by
 have h1:=ni 1 n r m h (fun _=>0) fun _=>0;rw[show (fun _:Nat=>(0:Rat)+1*0)=fun _=>0 from funext fun _=>by grind]at h1;grind
theorem AH{n r:Nat}{m:Mx}(h:r<n)(c:Nat->Rat)(v:Nat->Nat->Rat):∀s,fw n (gW m r fun j=>cZ (fun k=>c k*v k j) s)=cZ (fun k=>c k*fw n (gW m r (v k))) s
 |0=>Jj h
 |s+1=>by
  have h1:=ni (c s) n r m h (fun j=>cZ (fun k=>c k*v k j) s) (v s);rw[AH h c v s]at h1;exact h1
theorem I7{n b:Nat}(hb:b<n)(Py:a<b)(he:∀j,j<n->m a j=m b j):fw n m=0:=by
 obtain⟨b,rfl⟩:∃k,b=k+1:=⟨b-1,by omega⟩
 cases a with
 |zero=>exact oc b n m hb he
 |succ a=>
  have h1:=Jd (m:=m) (k:=a) (n:=n) (by omega);rw[oc b n _ hb fun j hj=>?_]at h1
  ·grind
  ·rw[show lf 0 (a+1) 0=a+1 by unfold lf;rw[if_pos rfl],show lf 0 (a+1) (b+1)=b+1 by unfold lf;rw[aK (by omega),aK (by omega)]];exact he j hj
theorem Fa{n b:Nat}(ha:a<n)(hb:b<n)(Py:a≠b)(he:∀j,j<n->m a j=m b j):fw n m=0:=by
 rcases Nat.lt_or_gt_of_ne Py with h|h
 ·exact I7 hb h he
 ·exact I7 ha h fun j hj=>(he j hj).symm
section
variable{E Z:Mx}{p:Nat->Nat}{r n:Nat}{v:Nat->Rat}
theorem Ru.coeff(h:Ru E p r n)(hv:eI E r n v):∀t,t<n->v t=cZ (fun i=>v (p i)*E i t) r:=by
 obtain⟨c,hc⟩:=hv;intro t ht;rw[hc t ht];refine cL fun i hi=>?_;rw[hc (p i) (h.lt i hi),eu hi fun k hk OJ=>by rw[h.unit i k hi hk,aK OJ,bD],h.unit i i hi hi,if_pos rfl,Rat.mul_one]
def uM(Z:Mx)(p:Nat->Nat)(r:Nat):Rat:=fw r fun j i=>Z (r-1-i) (p (r-1-j))
theorem aAR(h:Ru E p r n)(hZ:∀i,i<r->eI E r n (Z i)){k t:Nat}(hk:k<r)(ht:t<n):
  uM Z p r*E k t=fw r (gW (fun j i=>Z (r-1-i) (p (r-1-j))) (r-1-k) fun i=>Z (r-1-i) t):=by
 have e:∀i j,i<r->j<r->gW (fun j i=>Z (r-1-i) (p (r-1-j))) (r-1-k) (fun i=>Z (r-1-i) t) i j=gW (fun j i=>Z (r-1-i) (p (r-1-j))) (r-1-k) (fun i=>cZ (fun j=>E j t*Z (r-1-i) (p j)) r) i j:=fun i j hi hj=>by
  unfold gW;split
  ·show Z (r-1-j) t=cZ (fun l=>E l t*Z (r-1-j) (p l)) r;rw[h.coeff (hZ (r-1-j) (by omega)) t ht];exact cL fun l _=>bl _ _
  ·rfl
 rw[ir e,AH (v:=fun k i=>Z (r-1-i) (p k)) (by omega),eu hk fun j hj OJ=>?_]
 ·rw[show gW (fun j i=>Z (r-1-i) (p (r-1-j))) (r-1-k) (fun i=>Z (r-1-i) (p k))=fun j i=>Z (r-1-i) (p (r-1-j))from ?_]
  ·rw[uM,bl]
  ·funext i j
   unfold gW;split
   ·rename_i hi;rw[hi,show r-1-(r-1-k)=k by omega]
   ·rfl
 ·rw[Fa (a:=r-1-k) (b:=r-1-j) (by omega) (by omega) (by omega) fun i hi=>?_,bD];unfold gW;rw[if_pos rfl,aK (by omega)];show Z (r-1-i) (p j)=Z (r-1-i) (p (r-1-(r-1-j)));rw[show r-1-(r-1-j)=j by omega]
theorem aAS(h:Ru E p r n)(hZ:∀i,i<r->eI E r n (Z i)){t:Nat}(ht:t<n):
  fw (r+1) (fun j i=>if j=0 then Z (r-i) t else Z (r-i) (p (r-j)))=mb E p r (Z r) n t*uM Z p r:=by
 obtain⟨m,hm⟩:∃m:Mx,m=fun j i=>if j=0 then Z (r-i) t else Z (r-i) (p (r-j)):=⟨_,rfl⟩
 obtain⟨w,hw⟩:∃w:Nat->Rat,w=fun i=>if i=0 then mb E p r (Z r) n t else 0:=⟨_,rfl⟩
 rw[<-hm];have OK:∀j,j<r->∀i,m (r-j) i=Z (r-i) (p j):=fun j hj i=>by rw[hm];simp only;rw[aK (by omega),show r-(r-j)=j by omega]
 have e:∀i j,i<r+1->j<r+1->m i j=gW m 0 (fun i=>w i+1*cZ (fun j=>E j t*m (r-j) i) r) i j:=fun i j hi hj=>by
  unfold gW;split
  ·rename_i h0;subst h0;show m 0 j=w j+1*cZ (fun l=>E l t*m (r-l) j) r;rw[cL (g:=fun l=>E l t*Z (r-j) (p l)) fun l hl=>by rw[OK l hl],bq,hw];simp only
   by_cases Vb:j=0
   ·rw[if_pos Vb,Vb,hm];simp only[if_pos,Nat.sub_zero]
    unfold mb;rw[cL (f:=fun i=>if p i<n then Z r (p i)*E i t else 0) (g:=fun i=>E i t*Z r (p i)) fun l hl=>by rw[if_pos (h.lt l hl),bl]];grind
   ·rw[aK Vb,Rat.zero_add,hm];simp only[if_pos]
    rw[h.coeff (hZ (r-j) (by omega)) t ht];exact cL fun l _=>bl _ _
  ·rfl
 rw[ir e,ni 1 (r+1) 0 m (by omega),AH (v:=fun k i=>m (r-k) i) (by omega),cL (g:=fun _=>0) fun j hj=>?_,dw,bD,bY]
 ·rw[fw,eu (i:=0) (by omega) fun k hk OJ=>?_]
  ·unfold gW;rw[if_pos rfl,hw];simp only[if_pos]
   rw[show tD 0=1 by decide,bq,uM,ir fun i j hi hj=>?_];rw[aK (by omega),hm];simp only
   rw[aK (by omega),show skip 0 j=j+1 by unfold skip;rw[aK (by omega)],show r-(j+1)=r-1-j by omega,show r-(i+1)=r-1-i by omega]
  ·unfold gW;rw[if_pos rfl,hw];simp only
   rw[aK OJ,bI,bD]
 ·rw[Fa (a:=0) (b:=r-j) (by omega) (by omega) (by omega) fun i _=>?_,bD];unfold gW;rw[if_pos rfl,aK (by omega)]
theorem NB(d:Rat)(k t:Nat):mb E p r (fun t=>d*v t) k t=d*mb E p r v k t:=by
 unfold mb;rw[cL (g:=fun i=>d*if p i<k then v (p i)*E i t else 0) fun i _=>?_,eo]
 ·grind
 ·split
  ·rw[Rat.mul_assoc]
  ·rw[bD]
theorem NC(h:Ru E p r n){x:Nat->Rat}(hx:eI E r n fun t=>v t+ -(x t))(h0:∀i,i<r->x (p i)=0){t:Nat}(ht:t<n):x t=mb E p r v n t:=by
 have h1:=h.coeff hx t ht;unfold mb;rw[cL (g:=fun i=>v (p i)*E i t) fun i hi=>if_pos (h.lt i hi)];rw[cL (g:=fun i=>v (p i)*E i t) fun i hi=>by rw[h0 i hi];grind]at h1;grind
end
structure AI(E:Mx)(p:Nat->Nat)(r n B:Nat)(Z:Mx):Prop where
 ru:Ru E p r n
 sp:∀i,i<r->eI E r n (Z i)
 ib:∀i t,i<r->t<n->Ib B (Z i t)
 nz:uM Z p r≠0
section
variable{E Z:Mx}{p:Nat->Nat}{r n B k:Nat}{v u:Nat->Rat}
theorem AI.start(E Z:Mx)(p:Nat->Nat)(n B:Nat):AI E p 0 n B Z:=
 ⟨⟨fun _ h=>(by omega),fun _ _ h=>(by omega),fun _ _ h=>(by omega),fun _ _ h=>(by omega)⟩,fun _ h=>(by omega),fun _ _ h=>(by omega),by show(1:Rat)≠0;decide⟩
theorem AI.push(h:AI E p r n B Z)(hd:d≠0)(hz:∀t,t<n->Ib B (d*v t))(hu:∀t,t<n->u t=mb E p r v n t)(hk:k<n)(h0:u k≠0)(hl:∀t,t<k->u t=0):
  AI (lG E r u k) (fun i=>if i=r then k else p i) (r+1) n B fun i t=>if i=r then d*v t else Z i t:=by
 refine⟨h.ru.push hk (fun i hi=>by rw[hu _ (h.ru.lt i hi),I1 h.ru hi]) h0 hl,fun i hi=>?_,fun i t hi ht=>?_,?_⟩
 ·by_cases h1:i=r
  ·exact((Ch h0 hu h.ru.lt).mul d).congr fun t _=>by simp only[if_pos h1];rw[bl]
  ·exact((h.sp i (by omega)).trans fun j hj=>rK h0 j hj).congr fun t _=>by simp only[aK h1]
 ·by_cases h1:i=r
  ·simp only[if_pos h1];exact hz t ht
  ·simp only[aK h1];exact h.ib i t (by omega) ht
 ·have hb:=aAS (Z:=fun i t=>if i=r then d*v t else Z i t) h.ru (fun i hi=>(h.sp i hi).congr fun t _=>by simp only[aK (Nat.ne_of_lt hi)]) hk;have e1:uM (fun i t=>if i=r then d*v t else Z i t) p r=uM Z p r:=ir fun i j hi hj=>by simp only;rw[aK (by omega)]
  simp only[if_pos]at hb;rw[NB,<-hu k hk,e1]at hb;have e2:uM (fun i t=>if i=r then d*v t else Z i t) (fun i=>if i=r then k else p i) (r+1)=d*u k*uM Z p r:=by
   rw[<-hb];refine ir fun i j hi hj=>?_;by_cases h1:i=0
   ·subst h1;simp only[if_true]
    rw[if_pos (show r+1-1-0=r by omega),show r+1-1-j=r-j by omega]
   ·simp only[aK h1]
    rw[aK (show ¬r+1-1-i=r by omega),show r+1-1-j=r-j by omega,show r+1-1-i=r-i by omega]
  rw[e2];have OV:∀{a b:Rat},a≠0->b≠0->a*b≠0:=fun ha hb e=>by
   rcases Rat.mul_eq_zero.1 e with h|h
   ·exact ha h
   ·exact hb h
  exact OV (OV hd h0) h.nz
theorem AI.den(h:AI E p r n B Z):Ib (fB B r) (uM Z p r):=Ib.det r fun i j hi hj=>h.ib _ _ (by omega) (h.ru.lt _ (by omega))
theorem AI.ent(h:AI E p r n B Z){i t:Nat}(hi:i<r)(ht:t<n):Ib (fB B r) (uM Z p r*E i t):=by
 rw[aAR h.ru h.sp hi ht];refine Ib.det r fun j l hj hl=>?_;unfold gW;split
 ·exact h.ib _ _ (by omega) ht
 ·exact h.ib _ _ (by omega) (h.ru.lt _ (by omega))
theorem AI.LJ(h:AI E p r n B Z){i t:Nat}(hi:i<r)(ht:t<n):rl (E i t)<=ln (fB B r):=zF h.nz h.den (h.ent hi ht)
theorem AI.mb(h:AI E p r n B Z)(hz:∀t,t<n->Ib B (d*v t))(k:Nat){t:Nat}(ht:t<n):Ib (fB B (r+1)) (d*uM Z p r*mb E p r v k t):=by
 unfold Go.Ex.mb;rw[show ∀a b c s:Rat,a*b*(c-s)=b*(a*c)-(a*b)*s from fun a b c s=>by grind,<-eo,fB,Nat.succ_mul,Nat.add_comm];refine Ib.sub (by rw[bX B];exact h.den.mul (hz t ht)) (Ib.sum r fun i hi=>?_);split
 ·rw[show ∀a b c s:Rat,a*b*(c*s)=(a*c)*(b*s)from fun a b c s=>by grind];exact(hz _ (h.ru.lt i hi)).mul (h.ent hi ht)
 ·rw[bD];exact Ib.zero _
theorem AI.LK(h:AI E p r n B Z)(hB:1<=B)(hd:d≠0)(hdB:Ib B d)(hz:∀t,t<n->Ib B (d*v t))(k:Nat){t:Nat}(ht:t<n):Go.Ex.rl (Go.Ex.mb E p r v k t)<=ln (fB B (r+1)):=
 zF (fun e=>by rcases Rat.mul_eq_zero.1 e with e|e;exact hd e;exact h.nz e) ((hdB.mul h.den).mono (I6 B r)) (h.mb hz k ht)
end
def Bp(M:List (List Rat))(n B:Nat):Prop:=∀j,j<M.length->∃d:Rat,d≠0∧Ib B d∧∀t,t<n->Ib B (d*dF M j t)
end Go.Ex
