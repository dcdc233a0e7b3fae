/- Texts X79 to L40: lemmas, each with its conditions. -/
import Derived.Test.YtkdcaknoaeicdaaGreatP7
namespace Go.Ex
open Go Go.Sx Go.Proofs
variable{H:Hp}{iv:Iv}{css:List (List Value)}{qs:List Rat}{cs:List Value}{B nx:Nat}{S:Nat->Prop}{O:Nat->Sx.dg}{w w':World}
def dV(w:World)(S:Nat->Prop)(rv:List Value)(K:List (List Rat)):Prop:=rv.length=K.length∧(∀u∈rv,u.oneCell'=true)∧∀(i:Nat) u r,rv[i]? =some u->K[i]? =some r->cL w S u r
section
variable{S S':Nat->Prop}{H:Hp}{nx:Nat}{iv iv':Iv}{B:Nat}{w w' w2:World}{O:Nat->Sx.dg}{rv:List Value}{K:List (List Rat)}
theorem dV.cI(h:dV w S rv K)(hk:∀g,S g->w2.heap[g]? =w.heap[g]?):dV w2 S rv K:=⟨h.1,h.2.1,fun i u x h1 h2=>cL.cI (h.2.2 i u x h1 h2) hk⟩
theorem dV.cJ(h:dV w S rv K)(hk:∀g,S g->S' g):dV w S' rv K:=⟨h.1,h.2.1,fun i u x h1 h2=>cL.cJ (h.2.2 i u x h1 h2) hk⟩
theorem dV.rel(h:dV w (Cv S B iv) rv K)(r:Rel H nx iv B w O w')(hS:∀g,S g->g<B):dV w' (Cv S B iv) rv K:=h.cI fun _ hg=>Rel.same r hS hg
theorem dV.cG(h:dV w (Cv S B iv) rv K)(r:Rel H nx iv B w O w')(hS:∀g,S g->g<B)(he:Ext w' w2)(hm:∀p,p∈iv->p∈iv'):dV w2 (Cv S B iv') rv K:=
 ((h.rel r hS).cI fun g hg=>he.block g (Rel.old r hS g hg)).cJ fun _ hg=>hg.mono hm
theorem dV.push{u:Value}{x:List Rat}(h:dV w S rv K)(hu:u.oneCell'=true)(hx:cL w S u x):dV w S (rv++[u]) (K++[x]):=by
 refine⟨by simp[h.1],fun v hv=>?_,fun i v y h1 h2=>?_⟩
 ·rcases bG.1 hv with hv|hv
  ·exact h.2.1 v hv
  ·simp at hv;subst hv;exact hu
 ·rcases aP i rv.length with hi|hi
  ·rw[aL hi]at h1;rw[aL (by rw[<-h.1];exact hi)]at h2;exact h.2.2 i v y h1 h2
  ·have RV:i=rv.length:=by have:=(aD.1 h1).1;simp at this;omega
   subst RV;rw[aM (aF _),bK]at h1;rw[h.1,aM (aF _),bK]at h2;simp at h1 h2;subst h1 h2;exact hx
end
theorem NR(r:Rel H nx iv B w O w'){id n:Nat}(h:dB H id=some (.arr T.Rat css.flatten))(hl:css.length=n)(h4:∀cs∈css,cs.length=4)(hn:n<=maxLen):
  w'.ownsRow 0 T.Rat 4 (.slice (some ⟨(O id).g,0,none⟩) n n) n css.flatten:=by
 have hf:=eH h4;rw[hl]at hf;exact⟨hf,.inr ⟨(O id).g,n,css.flatten.toArray,rfl,aO _,r.arr id _ _ h,aF _,hn,by simpa using hf,by rw[<-hf];exact bF⟩⟩
theorem da.jw(r:Rel H nx iv B w O w'){id n:Nat}(h:dB H id=some (.arr T.Rat css.flatten))(hl:css.length=n)(hn:n<=maxLen)(hc:Fc w (Cv FF B iv) css qs):
  da w' S B (((O id).g,(O id).g+1)::iv) (.slice (some ⟨(O id).g,0,none⟩) n n) n qs:=by
 refine⟨⟨css,NR r h hl hc.tv hn,hl,(hc.cI fun g hg=>Rel.same r (gH B) hg).cJ fun g hg=>⟨?_,fun e=>?_⟩⟩,fun g hg=>?_⟩
 ·exact Aj (hg.mono fun p hp=>List.mem_cons_of_mem _ hp)
 ·injection e with e;exact Rel.not r (gH B) hg id _ h (r.fits h).1 e
 ·injection hg with hg;subst hg;exact .inr ⟨(r.low id _ h (r.fits h).1).1,_,_,aG,aF _,bY _⟩
theorem da.aAO{n:Nat}{v:Value}(h:da w S B iv v n qs):cL w (Cv S B iv) v qs:=by
 obtain⟨css,h1,h2⟩:=h.read;exact⟨css,h1,h2.1,h2.tv,h2.2⟩
def kE(w:World)(S:Nat->Prop)(css:List (List Value))(k:Nat):Prop:=∀(j:Nat) cs,j<k->css[j]? =some cs->iM w S cs 0
theorem kE.rel{k:Nat}(h:kE w (Cv S B iv) css k)(r:Rel H nx iv B w O w')(hS:∀g,S g->g<B):kE w' (Cv S B iv) css k:=fun j cs h1 h2=>(h j cs h1 h2).cI fun _ hg=>Rel.same r hS hg
theorem kE.cG{iv':Iv}{w2:World}{k:Nat}(h:kE w (Cv S B iv) css k)(r:Rel H nx iv B w O w')(hS:∀g,S g->g<B)(he:Ext w' w2)(hm:∀p,p∈iv->p∈iv'):kE w2 (Cv S B iv') css k:=fun j cs h1 h2=>
 (((h.rel r hS) j cs h1 h2).cI fun g hg=>he.block g (Rel.old r hS g hg)).cJ fun _ hg=>hg.mono hm
theorem kE.push{k:Nat}(h:kE w S css k)(hc:iM w S cs 0):kE w S (css.set k cs) (k+1):=fun j x hj hx=>by
 rw[List.getElem?_set]at hx;split at hx
 ·split at hx
  ·injection hx with hx;subst hx;exact hc
  ·cases hx
 ·exact h j x (by omega) hx
theorem KR{k:Nat}(h:∀x∈css,x.length=4)(hc:cs.length=4):∀x∈css.set k cs,x.length=4:=fun x hx=>by
 rcases bJ hx with h1|h1
 ·exact h x h1
 ·rw[h1];exact hc
end Go.Ex
namespace Go.Ex
theorem JC(s:List (List Rat)×List Nat)(c:Nat):(dX s c).2=s.2∨(dX s c).2=s.2++[c]:=by
 unfold dX;split
 ·dsimp only
  split
  ·exact .inl rfl
  ·exact .inr rfl
 ·exact .inl rfl
theorem gz(M:List (List Rat)):∀c:Nat,(∀p∈((List.range c).foldl dX (M,[])).2,p<c)∧(((List.range c).foldl dX (M,[])).2).Pairwise (· < ·)∧((List.range c).filter fun j=>decide (j∉((List.range c).foldl dX (M,[])).2)).length+((List.range c).foldl dX (M,[])).2.length=c:=by
 intro c
 induction c with
 |zero=>simp
 |succ c ih=>
  rw[bO,List.foldl_append,List.foldl_cons,List.foldl_nil];generalize (List.range c).foldl dX (M,[])=s at*
  obtain⟨h1,h2,h3⟩:=ih;have hc:c∉s.2:=fun h=>by have:=h1 c h;omega
  rcases JC s c with e|e
  ·rw[e];refine⟨fun p hp=>by have:=h1 p hp;omega,h2,?_⟩;rw[List.filter_append,List.length_append];simp only[List.filter_cons,hc,not_false_eq_true,decide_true,if_true,List.filter_nil,List.length_singleton]
   omega
  ·rw[e];refine⟨fun p hp=>?_,?_,?_⟩
   ·rcases bG.1 hp with hp|hp
    ·have:=h1 p hp;omega
    ·simp at hp;omega
   ·rw[List.pairwise_append];exact⟨h2,by simp,fun a ha b hb=>by simp at hb;subst hb;exact h1 a ha⟩
   ·rw[List.filter_append,List.length_append];have:(List.range c).filter (fun j=>decide (j∉s.2++[c]))=(List.range c).filter (fun j=>decide (j∉s.2)):=List.filter_congr fun j hj=>by
     have:=List.mem_range.1 hj;have OG:j≠c:=by omega
     simp[OG]
    have h0:(([c]:List Nat).filter fun j=>decide (j∉s.2++[c])).length=0:=by simp
    rw[this,List.length_append,List.length_singleton,h0];omega
end Go.Ex
namespace Go.Ex
open Go Go.Sx Go.Proofs
variable{next:Act->World->Prop}{Q:Exit->Act->World->Prop}{K:KT}{cs:List Value}{O:Nat->Sx.dg}
section
variable{S S':Nat->Prop}{H:Hp}{nx:Nat}{iv iv':Iv}{B:Nat}{w w' w2:World}{O:Nat->Sx.dg}{v:Value}{M:List (List (Int×Int))}
end
def fI(xs ys:List Rat):Nat->Rat
 |0=>0
 |i+1=>fI xs ys i+xs.getD i 0*ys.getD i 0
theorem zm{xs ys:List Rat}{h:Nat}(hx:∀q∈xs,rl q+1<=h)(hy:∀q∈ys,rl q+1<=h)(h2:2<=h):∀i:Nat,rl (fI xs ys i)<=2*h*i+2
 |0=>by rw[fI];exact ah (by decide:rl 0<=2) (by omega)
 |i+1=>by
  have h3:=zm hx hy h2 i;have h4:=pE (fI xs ys i) (xs.getD i 0*ys.getD i 0);have h5:=j9 (xs.getD i 0) (ys.getD i 0);have h6:=HF hx h2 i;have h7:=HF hy h2 i;rw[fI,bV];omega
section
variable{S S':Nat->Prop}{H:Hp}{nx:Nat}{iv iv':Iv}{B:Nat}{w w' w2:World}{O:Nat->Sx.dg}{v:Value}{qs:List Rat}
end
section
variable{S S':Nat->Prop}{H:Hp}{nx:Nat}{iv iv':Iv}{B:Nat}{w w' w2:World}{O:Nat->Sx.dg}{v:Value}{M:List (List Rat)}
end
section
variable{S S':Nat->Prop}{H:Hp}{nx:Nat}{iv iv':Iv}{B:Nat}{w w' w2:World}{O:Nat->Sx.dg}{v:List Value}{M:List (List Rat)}
end
theorem mm(w:World)(t e:TypeId)(a:Option Addr)(n c n' c':Nat)(h:PG.underlying t=some (.slice e)):
  (binOp .eql t (.slice a n c) (.slice none n' c')).run PG w= .ok (.bool a.isNone) w:=by
 have:∀d,(Op.equalIn (d+1) t (.slice a n c) (.slice none n' c')).run PG w= .ok a.isNone w:=fun d=>by cases a<;>simp[Op.equalIn,run_underlying h]
 simp only[binOp]
 cases a<;>simp[Op.equal,Op.maxDepth,this 9999]
abbrev OD(gm R:Nat):Value:=.slice (some ⟨gm,0,none⟩) R R
def Lm'(S:Nat->Prop)(B:Nat)(iv:Iv)(gm R:Nat)(rv:List Value)(g:Nat):Prop:=Cv S B iv g∧¬Mb (OD gm R) rv g
structure aAI(w:World)(S:Nat->Prop)(B:Nat)(iv:Iv)(gm R n:Nat)(rv:List Value)(M:List (List Rat)):Prop where
 mat:Ni w (Lm' S B iv gm R rv) (OD gm R) rv n M
 xw:∀g,Mb (OD gm R) rv g->Cv FF B iv g
 rows:rv.length=R
section
variable{S S':Nat->Prop}{H:Hp}{nx gm R n:Nat}{iv iv':Iv}{B:Nat}{w w' w2:World}{O:Nat->Sx.dg}{rv:List Value}{M:List (List Rat)}
structure aAT(w:World)(S:Nat->Prop)(B:Nat)(iv:Iv)(gm R n:Nat)(rv:List Value)(M:List (List Rat))(i:Nat)(vb:Value):Prop where
 out:w.ownsRow 0 T.row 1 (OD gm R) R (rv.set i vb)
 was:∃w0,aAI w0 S B iv gm R n rv M∧∀g,Cv S B iv g->g≠gm->w.heap[g]? =w0.heap[g]?
end
section
variable{S:Nat->Prop}{H:Hp}{nx gm R:Nat}{iv iv':Iv}{B:Nat}{w w' w2:World}{O:Nat->Sx.dg}{rv:List Value}{css:List (List Value)}{qs:List Rat}
end
inductive Tp where
 |nil
 |x (i:Nat) (t:Tp)
 |two (i:Nat) (t:Tp) (j:Nat) (u:Tp)
 |jw (id:Nat) (t:Tp)
def uL(ops:Array Oper):Tp->Array Bool->Bool
 | .nil,lx=>(Region.ready .any ops lx).isEmpty
 | .x i t,lx=>match ops[i]? with
  |none=>false
  |some o=>(Region.ready .any ops lx).contains i&&((Region.ready .any ops lx).all (fun j=>Nat.beq j i)||sS o.op&&DT ops (iI lx.toList 0) [] i o)&&uL ops t (lx.setIfInBounds i true)
 | .two i t j u,lx=>match Region.ready .any ops lx with
  |[a,b]=>Nat.beq a i&&(Nat.beq b j&&(uL ops t (lx.setIfInBounds i true)&&uL ops u (lx.setIfInBounds j true)))
  |_=>false
 | .jw _ t,lx=>uL ops t lx
def I8(P:Program)(τ:mg)(B:Nat)(all:List Oper):Tp->Env->Hp->Nat->Iv->World->KT->Prop
 | .nil,l,H,nx,iv,w,K=>K l H nx iv w
 | .x i t,l,H,nx,iv,w,K=>nM all i (fun o=>fc (!fA o) P τ B all o l H nx iv w (fun l' H' OL iv' w'=>I8 P τ B all t l' H' OL iv' w' K))
 | .two i t j u,l,H,nx,iv,w,K=>nM all i (fun o=>fc (!fA o) P τ B all o l H nx iv w (fun l' H' OL iv' w'=>I8 P τ B all t l' H' OL iv' w' K))∧
   nM all j (fun o=>fc (!fA o) P τ B all o l H nx iv w (fun l' H' OL iv' w'=>I8 P τ B all u l' H' OL iv' w' K))
 | .jw id t,l,H,nx,iv,w,K=>∃H' b,dB H id=some b∧b≠ .dead∧uR H H'∧DQ id H'=true∧∀O w',Rel H nx iv B w O w'->(O id).nil=false∧∃l',(∀u v,fL l' u=some v->v.sc nx∧∃v',fL l u=some v'∧v'.den O=v.den O)∧I8 P τ B all t l' H' nx (((O id).g,(O id).g+1)::iv) w' K
section
variable{P:Program}{τ:mg}{ops:Array Oper}{B n nx:Nat}{l:Env}{H:Hp}{iv:Iv}{w w':World}{O:Nat->Sx.dg}{a:Act}
theorem LD(hτ:fH P τ)(OJ:∀(j:Nat) o,ops[j]? =some o->∀d,o.dst=some d->d<n){i:Nat}
  (h:nM ops.toList i (fun o=>fc (!fA o) P τ B ops.toList o l H nx iv w K)) (sat:Sat n l H nx iv B w O a w')
  (hn:∀l' H' OL iv' w2 ρ' a' w3,K l' H' OL iv' w2->Sat n l' H' OL iv' B w2 ρ' a' w3->next a' w3):
  wpOp P ops Q i (fun a' w2=>((∀o,ops[i]? =some o->o6 o=false)->Ext w' w2)∧next a' w2) a w':=by
 obtain⟨o,ho,h1⟩:=fy h;rw[bB]at ho;have hd:=OJ i o ho;unfold fc at h1;refine lf ho ?_;rcases iq sat h1 with⟨hw,l1,h2,sat1⟩|⟨hw,l1,h2,sat1⟩
 ·refine .inl ⟨hw,?_⟩
  cases hR:sS o.op with
  |true=>
   obtain⟨v,hK,QU,ON⟩:=(jV hτ h2 sat1 hR).resolve_right (fun hh=>by have:=hh.1;rw[kr hR]at this;cases this);obtain⟨l2,h3,sat2⟩:=eh sat1 hK hd QU;exact kQ (ON w' (.inr sat1.rel)) ⟨fun _=>Ext.refl _,hn _ _ _ _ _ _ _ _ h3 sat2⟩
  |false=>
   cases hA:Ih o.op with
   |true=>
    obtain⟨b,v,mk,obj,hK,Oc,hb,hv,Tw,Pc,Tx⟩:=kp hτ h2 sat1 hA;have Oi:Rel ((nx,b)::H) (nx+1) iv B w (Sx.gP O nx ⟨w'.heap.size,0,false⟩) (w'.alloc obj):=
     sat1.rel.push b _ rfl rfl rfl (by simp) (fun k hk=>heap_alloc_old _ _ hk) (fun _=>⟨aF _,by simp⟩) (Pc _ _ (heap_alloc_new _ _)) hb
    obtain⟨l2,h3,sat2⟩:=eh (sat1.next Oi (Nat.le_succ _) (fun id Oj=>gA id Oj)) hK hd hv;rw[Tw]at sat2;exact kQ (v:=mk w'.heap.size) (w2:=w'.alloc obj) (Tx w') ⟨fun _=>Ext.alloc _ _,hn _ _ _ _ _ _ _ _ h3 sat2⟩
   |false=>
    cases hH:o6 o with
    |false=>
     rw[mS hH]at h2;refine rL h2 sat1 hR hA hH fun v w2 hK he hs=>⟨fun _=>he,?_⟩
     obtain⟨l2,h3,sat2⟩:=eh (v:=.o (.v v)) hs hK hd trivial;exact hn _ _ _ _ _ _ _ _ h3 sat2
    |true=>
     refine ku hτ h2 sat1 fun v H' OL iv' w2 ρ' w3 hK sat2 hv=>⟨fun hs=>(by rw[hs o ho]at hH;cases hH),?_⟩
     obtain⟨l2,h3,sat3⟩:=eh sat2 hK hd hv;exact hn _ _ _ _ _ _ _ _ h3 sat3
 ·obtain⟨l2,h4,sat3⟩:=eh sat1 h2 hd trivial;exact .inr ⟨hw,fun _=>Ext.refl _,hn _ _ _ _ _ _ _ _ h4 sat3⟩
theorem l5(hτ:fH P τ)(OJ:∀(j:Nat) o,ops[j]? =some o->∀d,o.dst=some d->d<n)(OT:∀(j:Nat) (o:Oper) cs b,ops[j]? =some o->o.op≠ .select cs b){K:KT}{Q0:Act->World->Prop}
  (hQ:∀l' H' OL iv' w2 ρ' a' w3,K l' H' OL iv' w2->Sat n l' H' OL iv' B w2 ρ' a' w3->Q0 a' w3):
  ∀(t:Tp) (fuel:Nat) (la:Array Bool) (l:Env) (H:Hp) (nx:Nat) (iv:Iv) (w:World) (O:Nat->Sx.dg) (a:Act) (w':World),LL la<=fuel->la.size=ops.size->uL ops t la=true->I8 P τ B ops.toList t l H nx iv w K->Sat n l H nx iv B w O a w'->rK P .any ops (QN Q0) fuel la a w'
 | .nil,fuel,la,l,H,nx,iv,w,O,a,w',_,_,hc,h,s=>by
  simp only[uL,List.isEmpty_iff]at hc;exact vV hc ⟨rfl,hQ _ _ _ _ _ _ _ _ h s⟩ fuel
 | .x i t,fuel,la,l,H,nx,iv,w,O,a,w',hf,hz,hc,h,s=>by
  unfold uL at hc;obtain⟨o,ho,h1⟩:=fy h;rw[bB]at ho;simp only[ho,aZ,Bool.or_eq_true]at hc;obtain⟨⟨c1,c2⟩,c3⟩:=hc;have c1:i∈Region.ready .any ops la:=by simpa using c1
  obtain⟨Pj,-⟩:=eI.1 c1;have SP:=jK Pj;obtain⟨f,rfl⟩:∃f,fuel=f+1:=⟨fuel-1,by omega⟩
  have Ov:(la.setIfInBounds i true).size=ops.size:=by rw[bQ,hz]
  rcases c2 with c2|⟨hR,c4⟩
  ·refine⟨fun h0=>(by rw[h0]at c1;cases c1),fun j hj=>?_⟩;have PA:j=i:=eJ (List.all_eq_true.1 c2 j hj);subst PA;exact LD hτ OJ h s fun _ _ _ _ _ _ _ _ hk hs=>l5 hτ OJ OT hQ t f _ _ _ _ _ _ _ _ _ (by omega) Ov c3 hk hs
  ·obtain⟨xw,PB,QH,hb3,RU⟩:=xu c4 hz;unfold fc at h1;have hd:=OJ i o ho;rcases iq s h1 with⟨hw,l1,h2,sat1⟩|⟨hw,l1,h2,sat1⟩
   ·obtain⟨v,hK,QU,ON⟩:=(jV hτ h2 sat1 hR).resolve_right (fun hh=>by have:=hh.1;rw[kr hR]at this;cases this);obtain⟨l2,h3,sat2⟩:=eh sat1 hK hd QU;refine k5 (pu:=FI o.op) (v:=v.den O) ho OT (fun c a w hq=>absurd hq.1 (by simp)) xw PB f la a w' QH RU c1 (.inl ⟨hw,fun w3 he=>ON w3 (he.imp id fun he=>sat1.rel.ext he)⟩) ?_;exact l5 hτ OJ OT hQ t f _ _ _ _ _ _ _ _ _ (by omega) Ov c3 h3 sat2
   ·obtain⟨l2,h3,sat2⟩:=eh (v:=.o (.v undef)) sat1 h2 hd trivial;refine k5 (pu:=FI o.op) (v:=undef) ho OT (fun c a w hq=>absurd hq.1 (by simp)) xw PB f la a w' QH RU c1 (.inr ⟨hw,rfl⟩) ?_;exact l5 hτ OJ OT hQ t f _ _ _ _ _ _ _ _ _ (by omega) Ov c3 h3 sat2
 | .two i t k u,fuel,la,l,H,nx,iv,w,O,a,w',hf,hz,hc,h,s=>by
  simp only[uL]at hc;split at hc
  ·rename_i x y hr;simp only[aZ]at hc;obtain⟨c1,c2,c3,c4⟩:=hc;have hx:=bS c1;have hy:=bS c2;subst hx;subst hy;obtain⟨h1,h2⟩:=h;have Rb:x∈Region.ready .any ops la:=by rw[hr];simp
   have Ta:y∈Region.ready .any ops la:=by rw[hr];simp
   have u1:=jK (eI.1 Rb).1;have u2:=jK (eI.1 Ta).1;obtain⟨f,rfl⟩:∃f,fuel=f+1:=⟨fuel-1,by omega⟩
   refine⟨fun h0=>(by rw[hr]at h0;cases h0),fun j hj=>?_⟩;rw[hr,List.mem_cons,aw]at hj;rcases hj with rfl|rfl
   ·exact LD hτ OJ h1 s fun _ _ _ _ _ _ _ _ hk hs=>l5 hτ OJ OT hQ t f _ _ _ _ _ _ _ _ _ (by omega) (by rw[bQ,hz]) c3 hk hs
   ·exact LD hτ OJ h2 s fun _ _ _ _ _ _ _ _ hk hs=>l5 hτ OJ OT hQ u f _ _ _ _ _ _ _ _ _ (by omega) (by rw[bQ,hz]) c4 hk hs
  ·cases hc
 | .jw id t,fuel,la,l,H,nx,iv,w,O,a,w',hf,hz,hc,h,s=>by
  obtain⟨H',b,Oj,hd,hs,ho,h⟩:=h;obtain⟨hn,l',hl,h⟩:=h _ _ s.rel;exact l5 hτ OJ OT hQ t fuel la l' H' nx _ w' O a w' hf hz hc h ⟨s.rel.free Oj hd hn hs ho,s.size,s.defers,fun u v hv=>by obtain⟨-,v',h1,h2⟩:=hl u v hv;rw[<-h2];exact s.env u v' h1,fun u v hv=>(hl u v hv).1⟩
theorem Ez(hτ:fH P τ)(hm:P.follows .mixedOrders=true)(t:Tp)(hs:Region.noSelect ops=true)(hc:uL ops t (Array.replicate ops.size false)=true)
  (h:I8 P τ B ops.toList t l H nx iv w K):uQ P B ops l H nx iv w K:=by
 refine⟨fun n O a w' OJ sat Q hQ id=>?_⟩;refine wp_mono (Q':=Q) (c:=.region id ops true) (wp_region_any (Q:=QN (Q .normal)) hm (rM _ _ _ _ ?_)) (fun e a w hq=>by obtain⟨rfl,hq⟩:=hq;exact hq);refine l5 hτ (fun j o ho d hd=>?_) (Region.noSelect_spec hs) hQ t _ _ _ _ _ _ _ O _ _ ?_ (by simp) hc h ⟨sat.rel.drew,sat.size,sat.defers,sat.env,sat.sc⟩
 ·have:=List.all_eq_true.1 OJ o (aC (by rw[bB];exact ho));rw[hd]at this;have h5:d+1<=n:=by simpa [Nat.blt]using this
  exact h5
 ·unfold LL;refine ah List.countP_le_length ?_;simp
end
theorem jG{l tl:Env}{nx t id n:Nat}(hn:(O id).nil=false)(ht:fL l t=some (.o (.w id n)))(h1:D3 l tl)(h2:jN nx tl):∀u v,fL ((t,.o (.v (.slice (some ⟨(O id).g,0,none⟩) n (O id).cap)))::tl) u=some v->v.sc nx∧∃v',fL l u=some v'∧v'.den O=v.den O:=fun u v hv=>by
 rw[eS]at hv;split at hv
 ·rename_i e;subst e;injection hv with hv;subst hv;exact⟨trivial,_,ht,by simp[SV.den,At.den,hn]⟩
 ·exact⟨h2.get u v hv,v,h1.get u v hv,rfl⟩
theorem oF{H:Hp}{nx:Nat}{iv:Iv}{B:Nat}{w w':World}(r:Rel H nx iv B w O w'){id t m sz:Nat}(h:dB H id=some (.vec t sz cs))(hm:cs.length=m*sz)(Rb:m<=maxLen)(hs:0<sz)(h0:0<m)(h1:∀u∈cs,u.oneCell'=true):
  (O id).nil=false∧B<=(O id).g∧iB w' (fun g=>g=(O id).g) sz (.slice (some ⟨(O id).g,0,none⟩) m (O id).cap) cs m:=by
 rcases r.vec id t sz _ h with⟨hn,rfl⟩|⟨hn,spare,hb,hc,Q5⟩
 ·have:=Nat.mul_pos h0 hs;simp at hm;omega
 ·refine⟨hn,(r.low id _ h hn).1,Rb,hm,h1,some ⟨(O id).g,0,none⟩,(O id).cap,rfl,?_,fun j x hx=>⟨_,rfl,rfl,?_⟩⟩
  ·have h1:(cs++spare).length=cs.length+spare.length:=List.length_append;have h2:m*sz<=(O id).cap*sz:=by omega
   exact bp h2 hs
  ·rw[dQ,cell_of hb,aQ,aL (aD.1 hx).1];exact hx
end Go.Ex
namespace Go.Ex
section
variable{M:List (List Rat)}{b:List Rat}{n:Nat}
def dF(M:List (List Rat))(b:List Rat):List (List Rat):=M.mapIdx fun i r=>r++[b.getD i 0]
theorem gX(hl:fX n M):fX (n+1) (dF M b):=fun r hr=>by
 obtain⟨i,hi⟩:=aU hr;unfold dF at hi;rw[List.getElem?_mapIdx]at hi
 cases hx:M[i]? with
 |none=>rw[hx]at hi;cases hi
 |some x=>
  rw[hx]at hi;injection hi with hi;subst hi;rw[List.length_append,hl x (aC hx)];rfl
theorem eA:(dF M b).length=M.length:=by simp[dF]
end
end Go.Ex
namespace Go.Ex
open Go Go.Sx Go.Proofs
variable{K M:List (List Rat)}{rv:List Value}{S:Nat->Prop}{q:Rat}{u:Value}{w:World}
theorem fR.cJ{S':Nat->Prop}(h:fR w S rv K)(hk:∀g,S g->S' g):fR w S' rv K:=⟨h.1,h.2.1,fun i u x h1 h2=>cV.cJ (h.2.2 i u x h1 h2) hk⟩
theorem fR.push{x:List Rat}(h:fR w S rv K)(hu:u.oneCell'=true)(hx:cV w S u x):fR w S (rv++[u]) (K++[x]):=by
 refine⟨by simp[h.1],fun v hv=>?_,fun i v y h1 h2=>?_⟩
 ·rcases bG.1 hv with hv|hv
  ·exact h.2.1 v hv
  ·simp at hv;subst hv;exact hu
 ·rcases aP i rv.length with hi|hi
  ·rw[aL hi]at h1;rw[aL (by rw[<-h.1];exact hi)]at h2;exact h.2.2 i v y h1 h2
  ·have RV:i=rv.length:=by have:=(aD.1 h1).1;simp at this;omega
   subst RV;rw[aM (aF _),bK]at h1;rw[h.1,aM (aF _),bK]at h2;simp at h1 h2;subst h1 h2;exact hx
theorem KQ{v:Value}{b:List Rat}(hS:Old S w)(h:dO w S v M)(hu:cV w S u b)(Pf:b.length=M.length)(OH:∀r∈M,r.length<=1000)(hR:M.length<=1000):
  eD PG N.wR #[v,u] w (eG w fun v' w2=>dO w2 (Nw S w w2) v' (dF M b)):=by
 have hw:=bR w;replace h:=dO.arg h [];replace hu:=cV.arg hu [];obtain⟨am,cm,rfl,SR,-⟩:=db.shape h;obtain⟨ab,cb,rfl,Pu,-⟩:=dM.shape hu;refine zg (by simp) ?_
 refine⟨Nat×List Value×World×Iv,fun z=>⟨[(0,sV am M.length cm),(1,sV ab b.length cb),(5,.o (.w 0 z.2.1.length)),(6,iN z.1)],[(0,.vec T.fa 1 z.2.1)],1,z.2.2.2,z.2.2.1⟩,fun z=>M.length-z.1,
  fun z=>z.1<=M.length∧eB w.heap.size w z.2.2.1∧dO z.2.2.1 (Cv S w.heap.size z.2.2.2) (.slice am M.length cm) M∧cV z.2.2.1 (Cv S w.heap.size z.2.2.2) (.slice ab b.length cb) b∧fR z.2.2.1 (Cv S w.heap.size z.2.2.2) z.2.1 ((dF M b).take z.1),?_,?_⟩
 ·intro O w' r
  exact⟨(0,[],w',[]),⟨aO _,hw.tr r.cQ,dO.rel h r hS,cV.rel hu r hS,by simp[fR]⟩,Sub.nil 5 T.fa 1 rfl (by simp[jN,SV.sc,At.sc,fW]) r fun ρ1 r1=>
   Sub.gn [] r1⟩
 rintro⟨i,rv,w1,iv⟩ ⟨hi,hw,h,hu,hK⟩;dsimp only at hi hw h hu hK ⊢;have Oh:rv.length=i:=by rw[hK.1,aV,eA];omega
 refine dN.mk ?_ ?_<;>intro OF
 ·have OF:i<M.length:=by simpa using OF
  obtain⟨x,hx⟩:∃r,M[i]? =some r:=⟨_,aB OF⟩
  have PW:=OH x (aC hx);obtain⟨q,hq⟩:∃r,b[i]? =some r:=⟨_,aB (by omega)⟩
  have Tt:b.getD i 0=q:=by rw[List.getD,hq];rfl
  have OO:(dF M b).take (i+1)=(dF M b).take i++[x++[q]]:=by
   rw[List.take_add_one,show(dF M b)[i]? =some (x++[q]) by rw[dF,List.getElem?_mapIdx,hx,<-Tt];rfl];rfl
  obtain⟨adm,um,RL,PS,km1,km2⟩:=db.load h hx;obtain⟨css,⟨-,g1,g2,a0,c0,rfl,g4,g5⟩,Po,R4,Om⟩:=PS;have OX:=eH R4;obtain⟨adq,cs,TM,hF,_,hl⟩:=dM.load hu hq;obtain⟨b3,a3,n3,c3,b4,a4,n4,c4,rfl,hF⟩:=hF;have Rs:([]++css.flatten++([.bool b3,.slice a3 n3 c3,.bool b4,.slice a4 n4 c4]:List Value)).length=(x.length+1)*4:=by rw[List.nil_append,List.length_append,g1];simp;omega
  have Rt:∀u∈[]++css.flatten++([.bool b3,.slice a3 n3 c3,.bool b4,.slice a4 n4 c4]:List Value),u.oneCell'=true:=fun u hu=>by
   rw[List.nil_append]at hu;rcases bG.1 hu with hu|hu
   ·exact g2 u hu
   ·simp at hu;rcases hu with rfl|rfl|rfl|rfl<;>rfl
  have Rv:∀{H nx O w' g c OK},Rel H nx iv w.heap.size w1 O w'->w.heap.size<=g->iB w' (fun y=>y=g) 4 (.slice (some ⟨g,0,none⟩) (x.length+1) c) ([]++css.flatten++([.bool b3,.slice a3 n3 c3,.bool b4,.slice a4 n4 c4]:List Value)) (x.length+1)->(g,g+1)∈OK::iv->
    cV w' (Cv S w.heap.size (OK::iv)) (.slice (some ⟨g,0,none⟩) (x.length+1) c) (x++[q]):=by
   intro H nx O w' g c OK r hg hs hm;have hk:∀y,Cv S w.heap.size iv y->Cv S w.heap.size (OK::iv) y:=fun y hy=>hy.mono fun p hp=>List.mem_cons_of_mem _ hp;refine⟨css++[[.bool b3,.slice a3 n3 c3,.bool b4,.slice a4 n4 c4]],?_,by simp[Po],fun cs hc=>?_,fun j cs y k1 k2=>?_⟩
   ·rw[List.nil_append]at hs;rw[List.length_append,List.length_singleton,List.flatten_append];simp only[List.flatten_cons,List.flatten_nil,List.append_nil]
    exact hs.cJ fun y hy=>.inr ⟨by omega,g,g+1,hm,by omega,by omega⟩
   ·rcases bG.1 hc with hc|hc
    ·exact R4 cs hc
    ·rw[aw.1 hc];rfl
   ·rcases aP j css.length with hj|hj
    ·rw[aL hj]at k1;rw[aL (by omega)]at k2;exact((Om j cs y k1 k2).cI fun y hy=>Rel.same r hS hy).cJ hk
    ·have Ud:j=css.length:=by have:=(aD.1 k1).1;simp at this;omega
     rw[Ud,aM (aF _),bK]at k1;rw[Ud,Po,aM (aF _),bK]at k2;simp at k1 k2;rw[<-k1,<-k2];exact⟨_,_,_,_,_,_,_,_,rfl,(hF.cI fun y hy=>Rel.same r hS hy).cJ hk⟩
  refine Ez hτ dm (.x 0 (.x 2 (.x 3 (.x 4 (.x 5 (.x 7 (.x 8 (.x 9 (.two 1 (.two 6 (.x 10 (.x 11 (.x 12 (.jw 4 (.x 13 (.x 14 (.x 15 .nil))))))) 10 (.two 6 (.x 11 (.x 12 (.jw 4 (.x 13 (.x 14 (.x 15 .nil)))))) 11 (.x 6 (.x 12 (.jw 4 (.x 13 (.x 14 (.x 15 .nil)))))))) 10 (.two 1 (.two 6 (.x 11 (.x 12 (.jw 4 (.x 13 (.x 14 (.x 15 .nil)))))) 11 (.x 6 (.x 12 (.jw 4 (.x 13 (.x 14 (.x 15 .nil))))))) 11 (.x 1 (.x 6 (.x 12 (.jw 4 (.x 13 (.x 14 (.x 15 .nil))))))))))))))))) (by kernel_rfl) (by kernel_rfl) ?_;refine⟨adm,RL,by omega,.slice a0 x.length c0,fun O w' r=>?_,?_⟩
  ·rw[aE,cH (w:=w1) (w2:=w') (by rw[dH];exact Rel.same r hS km1)];exact km2
  refine⟨adq,TM,by omega,?_,?_⟩
  ·refine⟨?_,?_⟩
   ·refine .inl ?_;refine⟨css.flatten,g1,g2,fun O w' r Oo=>?_,?_⟩
    ·obtain⟨u0,RY⟩:∃u,css.flatten[0]? =some u:=⟨_,aB (by omega)⟩
     obtain⟨ad,ha,_,_⟩:=g5 0 u0 RY;refine⟨ad,ha,fun j u hj=>?_⟩;obtain⟨ad2,On,q1,q2⟩:=g5 j u hj;rw[ha]at On;injection On with On;subst On;rw[cH (w:=w1) (w2:=w') (by rw[dH];exact Rel.same r hS q1)];exact q2
    refine⟨rfl,by omega,by unfold maxLen;omega,?_⟩;rw[aQ x.length];refine⟨[.bool b3,.slice a3 n3 c3,.bool b4,.slice a4 n4 c4],rfl,fun O w' r j u hu=>?_,?_⟩
    ·obtain⟨k1,k2⟩:=hl j u hu;rw[aE,cH (w:=w1) (w2:=w') (by rw[dH,dH];exact Rel.same r hS k1)];exact k2
    refine .inl ?_;refine⟨by rw[<-g1];rfl,by omega,by unfold maxLen;omega,[(0,.vec T.fa 1 rv)],_,rfl,by simp,⟨rfl,trivial⟩,rfl,fun O w' r=>?_⟩;have hv:=oF r (id:=4) (sz:=4) (m:=x.length+1) rfl Rs (by unfold maxLen;omega) (by decide) (by omega) Rt;refine⟨hv.1,_,jG (tl:=[(13,.o (.w 0 rv.length)),(0,sV am M.length cm),(1,sV ab b.length cb),(6,iN i)]) hv.1 (t:=25) (n:=x.length+1) rfl ⟨rfl,rfl,rfl,rfl,trivial⟩ (by simp[jN,SV.sc,At.sc]),?_⟩;have Pk:=Rv r hv.2.1 hv.2.2 aG;replace hK:=(fR.cJ (hK.rel r hS) (fun g hg=>hg.mono fun p hp=>List.mem_cons_of_mem _ hp)).push rfl Pk;replace h:=dO.cJ (dO.rel h r hS) fun g hg=>hg.mono fun p hp=>List.mem_cons_of_mem ((O 4).g,(O 4).g+1) hp;replace hu:=cV.cJ (cV.rel hu r hS) fun g hg=>hg.mono fun p hp=>List.mem_cons_of_mem ((O 4).g,(O 4).g+1) hp;rw[<-OO]at hK;replace hw:=hw.tr r.cQ;generalize (O 4).g=gx at*
    generalize (O 4).cap=cx at*
    generalize (gx,gx+1)::iv=OK at*
    refine .inl ?_;refine⟨by simp,by omega,by unfold maxLen;omega,((i+1:Nat):Int),wo,?_⟩;intro ρ3 w3 r3;exact⟨(i+1,rv++[.slice (some ⟨gx,0,none⟩) (x.length+1) cx],w3,_),⟨OF,hw.tr r3.cQ,dO.rel h r3 hS,cV.rel hu r3 hS,hK.rel r3 hS⟩,Sub.gn [(0,6)] r3 (hE:=⟨rfl,rfl,by dsimp only;rw[List.length_append,List.length_singleton];rfl,rfl,trivial⟩),by dsimp only;omega⟩
   ·refine⟨[.bool b3,.slice a3 n3 c3,.bool b4,.slice a4 n4 c4],rfl,fun O w' r j u hu=>?_,?_⟩
    ·obtain⟨k1,k2⟩:=hl j u hu;rw[aE,cH (w:=w1) (w2:=w') (by rw[dH,dH];exact Rel.same r hS k1)];exact k2
    refine⟨?_,?_⟩
    ·refine .inl ?_;refine⟨css.flatten,g1,g2,fun O w' r Oo=>?_,?_⟩
     ·obtain⟨u0,RY⟩:∃u,css.flatten[0]? =some u:=⟨_,aB (by omega)⟩
      obtain⟨ad,ha,_,_⟩:=g5 0 u0 RY;refine⟨ad,ha,fun j u hj=>?_⟩;obtain⟨ad2,On,q1,q2⟩:=g5 j u hj;rw[ha]at On;injection On with On;subst On;rw[cH (w:=w1) (w2:=w') (by rw[dH];exact Rel.same r hS q1)];exact q2
     refine⟨rfl,by omega,by unfold maxLen;omega,?_⟩;rw[aQ x.length];refine .inl ?_;refine⟨by rw[<-g1];rfl,by omega,by unfold maxLen;omega,[(0,.vec T.fa 1 rv)],_,rfl,by simp,⟨rfl,trivial⟩,rfl,fun O w' r=>?_⟩;have hv:=oF r (id:=4) (sz:=4) (m:=x.length+1) rfl Rs (by unfold maxLen;omega) (by decide) (by omega) Rt;refine⟨hv.1,_,jG (tl:=[(13,.o (.w 0 rv.length)),(0,sV am M.length cm),(1,sV ab b.length cb),(6,iN i)]) hv.1 (t:=25) (n:=x.length+1) rfl ⟨rfl,rfl,rfl,rfl,trivial⟩ (by simp[jN,SV.sc,At.sc]),?_⟩;have Pk:=Rv r hv.2.1 hv.2.2 aG;replace hK:=(fR.cJ (hK.rel r hS) (fun g hg=>hg.mono fun p hp=>List.mem_cons_of_mem _ hp)).push rfl Pk;replace h:=dO.cJ (dO.rel h r hS) fun g hg=>hg.mono fun p hp=>List.mem_cons_of_mem ((O 4).g,(O 4).g+1) hp;replace hu:=cV.cJ (cV.rel hu r hS) fun g hg=>hg.mono fun p hp=>List.mem_cons_of_mem ((O 4).g,(O 4).g+1) hp;rw[<-OO]at hK;replace hw:=hw.tr r.cQ;generalize (O 4).g=gx at*
     generalize (O 4).cap=cx at*
     generalize (gx,gx+1)::iv=OK at*
     refine .inl ?_;refine⟨by simp,by omega,by unfold maxLen;omega,((i+1:Nat):Int),wo,?_⟩;intro ρ3 w3 r3;exact⟨(i+1,rv++[.slice (some ⟨gx,0,none⟩) (x.length+1) cx],w3,_),⟨OF,hw.tr r3.cQ,dO.rel h r3 hS,cV.rel hu r3 hS,hK.rel r3 hS⟩,Sub.gn [(0,6)] r3 (hE:=⟨rfl,rfl,by dsimp only;rw[List.length_append,List.length_singleton];rfl,rfl,trivial⟩),by dsimp only;omega⟩
    ·refine .inl ?_;refine⟨css.flatten,g1,g2,fun O w' r Oo=>?_,?_⟩
     ·obtain⟨u0,RY⟩:∃u,css.flatten[0]? =some u:=⟨_,aB (by omega)⟩
      obtain⟨ad,ha,_,_⟩:=g5 0 u0 RY;refine⟨ad,ha,fun j u hj=>?_⟩;obtain⟨ad2,On,q1,q2⟩:=g5 j u hj;rw[ha]at On;injection On with On;subst On;rw[cH (w:=w1) (w2:=w') (by rw[dH];exact Rel.same r hS q1)];exact q2
     refine⟨rfl,by omega,by unfold maxLen;omega,?_⟩;rw[aQ x.length];refine .inl ?_;refine⟨by rw[<-g1];rfl,by omega,by unfold maxLen;omega,[(0,.vec T.fa 1 rv)],_,rfl,by simp,⟨rfl,trivial⟩,rfl,fun O w' r=>?_⟩;have hv:=oF r (id:=4) (sz:=4) (m:=x.length+1) rfl Rs (by unfold maxLen;omega) (by decide) (by omega) Rt;refine⟨hv.1,_,jG (tl:=[(13,.o (.w 0 rv.length)),(0,sV am M.length cm),(1,sV ab b.length cb),(6,iN i)]) hv.1 (t:=25) (n:=x.length+1) rfl ⟨rfl,rfl,rfl,rfl,trivial⟩ (by simp[jN,SV.sc,At.sc]),?_⟩;have Pk:=Rv r hv.2.1 hv.2.2 aG;replace hK:=(fR.cJ (hK.rel r hS) (fun g hg=>hg.mono fun p hp=>List.mem_cons_of_mem _ hp)).push rfl Pk;replace h:=dO.cJ (dO.rel h r hS) fun g hg=>hg.mono fun p hp=>List.mem_cons_of_mem ((O 4).g,(O 4).g+1) hp;replace hu:=cV.cJ (cV.rel hu r hS) fun g hg=>hg.mono fun p hp=>List.mem_cons_of_mem ((O 4).g,(O 4).g+1) hp;rw[<-OO]at hK;replace hw:=hw.tr r.cQ;generalize (O 4).g=gx at*
     generalize (O 4).cap=cx at*
     generalize (gx,gx+1)::iv=OK at*
     refine .inl ?_;refine⟨by simp,by omega,by unfold maxLen;omega,((i+1:Nat):Int),wo,?_⟩;intro ρ3 w3 r3;exact⟨(i+1,rv++[.slice (some ⟨gx,0,none⟩) (x.length+1) cx],w3,_),⟨OF,hw.tr r3.cQ,dO.rel h r3 hS,cV.rel hu r3 hS,hK.rel r3 hS⟩,Sub.gn [(0,6)] r3 (hE:=⟨rfl,rfl,by dsimp only;rw[List.length_append,List.length_singleton];rfl,rfl,trivial⟩),by dsimp only;omega⟩
  ·refine⟨[.bool b3,.slice a3 n3 c3,.bool b4,.slice a4 n4 c4],rfl,fun O w' r j u hu=>?_,?_⟩
   ·obtain⟨k1,k2⟩:=hl j u hu;rw[aE,cH (w:=w1) (w2:=w') (by rw[dH,dH];exact Rel.same r hS k1)];exact k2
   refine⟨?_,?_⟩
   ·refine⟨?_,?_⟩
    ·refine .inl ?_;refine⟨css.flatten,g1,g2,fun O w' r Oo=>?_,?_⟩
     ·obtain⟨u0,RY⟩:∃u,css.flatten[0]? =some u:=⟨_,aB (by omega)⟩
      obtain⟨ad,ha,_,_⟩:=g5 0 u0 RY;refine⟨ad,ha,fun j u hj=>?_⟩;obtain⟨ad2,On,q1,q2⟩:=g5 j u hj;rw[ha]at On;injection On with On;subst On;rw[cH (w:=w1) (w2:=w') (by rw[dH];exact Rel.same r hS q1)];exact q2
     refine⟨rfl,by omega,by unfold maxLen;omega,?_⟩;rw[aQ x.length];refine .inl ?_;refine⟨by rw[<-g1];rfl,by omega,by unfold maxLen;omega,[(0,.vec T.fa 1 rv)],_,rfl,by simp,⟨rfl,trivial⟩,rfl,fun O w' r=>?_⟩;have hv:=oF r (id:=4) (sz:=4) (m:=x.length+1) rfl Rs (by unfold maxLen;omega) (by decide) (by omega) Rt;refine⟨hv.1,_,jG (tl:=[(13,.o (.w 0 rv.length)),(0,sV am M.length cm),(1,sV ab b.length cb),(6,iN i)]) hv.1 (t:=25) (n:=x.length+1) rfl ⟨rfl,rfl,rfl,rfl,trivial⟩ (by simp[jN,SV.sc,At.sc]),?_⟩;have Pk:=Rv r hv.2.1 hv.2.2 aG;replace hK:=(fR.cJ (hK.rel r hS) (fun g hg=>hg.mono fun p hp=>List.mem_cons_of_mem _ hp)).push rfl Pk;replace h:=dO.cJ (dO.rel h r hS) fun g hg=>hg.mono fun p hp=>List.mem_cons_of_mem ((O 4).g,(O 4).g+1) hp;replace hu:=cV.cJ (cV.rel hu r hS) fun g hg=>hg.mono fun p hp=>List.mem_cons_of_mem ((O 4).g,(O 4).g+1) hp;rw[<-OO]at hK;replace hw:=hw.tr r.cQ;generalize (O 4).g=gx at*
     generalize (O 4).cap=cx at*
     generalize (gx,gx+1)::iv=OK at*
     refine .inl ?_;refine⟨by simp,by omega,by unfold maxLen;omega,((i+1:Nat):Int),wo,?_⟩;intro ρ3 w3 r3;exact⟨(i+1,rv++[.slice (some ⟨gx,0,none⟩) (x.length+1) cx],w3,_),⟨OF,hw.tr r3.cQ,dO.rel h r3 hS,cV.rel hu r3 hS,hK.rel r3 hS⟩,Sub.gn [(0,6)] r3 (hE:=⟨rfl,rfl,by dsimp only;rw[List.length_append,List.length_singleton];rfl,rfl,trivial⟩),by dsimp only;omega⟩
    ·refine .inl ?_;refine⟨css.flatten,g1,g2,fun O w' r Oo=>?_,?_⟩
     ·obtain⟨u0,RY⟩:∃u,css.flatten[0]? =some u:=⟨_,aB (by omega)⟩
      obtain⟨ad,ha,_,_⟩:=g5 0 u0 RY;refine⟨ad,ha,fun j u hj=>?_⟩;obtain⟨ad2,On,q1,q2⟩:=g5 j u hj;rw[ha]at On;injection On with On;subst On;rw[cH (w:=w1) (w2:=w') (by rw[dH];exact Rel.same r hS q1)];exact q2
     refine⟨rfl,by omega,by unfold maxLen;omega,?_⟩;rw[aQ x.length];refine .inl ?_;refine⟨by rw[<-g1];rfl,by omega,by unfold maxLen;omega,[(0,.vec T.fa 1 rv)],_,rfl,by simp,⟨rfl,trivial⟩,rfl,fun O w' r=>?_⟩;have hv:=oF r (id:=4) (sz:=4) (m:=x.length+1) rfl Rs (by unfold maxLen;omega) (by decide) (by omega) Rt;refine⟨hv.1,_,jG (tl:=[(13,.o (.w 0 rv.length)),(0,sV am M.length cm),(1,sV ab b.length cb),(6,iN i)]) hv.1 (t:=25) (n:=x.length+1) rfl ⟨rfl,rfl,rfl,rfl,trivial⟩ (by simp[jN,SV.sc,At.sc]),?_⟩;have Pk:=Rv r hv.2.1 hv.2.2 aG;replace hK:=(fR.cJ (hK.rel r hS) (fun g hg=>hg.mono fun p hp=>List.mem_cons_of_mem _ hp)).push rfl Pk;replace h:=dO.cJ (dO.rel h r hS) fun g hg=>hg.mono fun p hp=>List.mem_cons_of_mem ((O 4).g,(O 4).g+1) hp;replace hu:=cV.cJ (cV.rel hu r hS) fun g hg=>hg.mono fun p hp=>List.mem_cons_of_mem ((O 4).g,(O 4).g+1) hp;rw[<-OO]at hK;replace hw:=hw.tr r.cQ;generalize (O 4).g=gx at*
     generalize (O 4).cap=cx at*
     generalize (gx,gx+1)::iv=OK at*
     refine .inl ?_;refine⟨by simp,by omega,by unfold maxLen;omega,((i+1:Nat):Int),wo,?_⟩;intro ρ3 w3 r3;exact⟨(i+1,rv++[.slice (some ⟨gx,0,none⟩) (x.length+1) cx],w3,_),⟨OF,hw.tr r3.cQ,dO.rel h r3 hS,cV.rel hu r3 hS,hK.rel r3 hS⟩,Sub.gn [(0,6)] r3 (hE:=⟨rfl,rfl,by dsimp only;rw[List.length_append,List.length_singleton];rfl,rfl,trivial⟩),by dsimp only;omega⟩
   ·refine .inl ?_;refine⟨css.flatten,g1,g2,fun O w' r Oo=>?_,?_⟩
    ·obtain⟨u0,RY⟩:∃u,css.flatten[0]? =some u:=⟨_,aB (by omega)⟩
     obtain⟨ad,ha,_,_⟩:=g5 0 u0 RY;refine⟨ad,ha,fun j u hj=>?_⟩;obtain⟨ad2,On,q1,q2⟩:=g5 j u hj;rw[ha]at On;injection On with On;subst On;rw[cH (w:=w1) (w2:=w') (by rw[dH];exact Rel.same r hS q1)];exact q2
    refine⟨rfl,by omega,by unfold maxLen;omega,?_⟩;rw[aQ x.length];refine .inl ?_;refine⟨by rw[<-g1];rfl,by omega,by unfold maxLen;omega,[(0,.vec T.fa 1 rv)],_,rfl,by simp,⟨rfl,trivial⟩,rfl,fun O w' r=>?_⟩;have hv:=oF r (id:=4) (sz:=4) (m:=x.length+1) rfl Rs (by unfold maxLen;omega) (by decide) (by omega) Rt;refine⟨hv.1,_,jG (tl:=[(13,.o (.w 0 rv.length)),(0,sV am M.length cm),(1,sV ab b.length cb),(6,iN i)]) hv.1 (t:=25) (n:=x.length+1) rfl ⟨rfl,rfl,rfl,rfl,trivial⟩ (by simp[jN,SV.sc,At.sc]),?_⟩;have Pk:=Rv r hv.2.1 hv.2.2 aG;replace hK:=(fR.cJ (hK.rel r hS) (fun g hg=>hg.mono fun p hp=>List.mem_cons_of_mem _ hp)).push rfl Pk;replace h:=dO.cJ (dO.rel h r hS) fun g hg=>hg.mono fun p hp=>List.mem_cons_of_mem ((O 4).g,(O 4).g+1) hp;replace hu:=cV.cJ (cV.rel hu r hS) fun g hg=>hg.mono fun p hp=>List.mem_cons_of_mem ((O 4).g,(O 4).g+1) hp;rw[<-OO]at hK;replace hw:=hw.tr r.cQ;generalize (O 4).g=gx at*
    generalize (O 4).cap=cx at*
    generalize (gx,gx+1)::iv=OK at*
    refine .inl ?_;refine⟨by simp,by omega,by unfold maxLen;omega,((i+1:Nat):Int),wo,?_⟩;intro ρ3 w3 r3;exact⟨(i+1,rv++[.slice (some ⟨gx,0,none⟩) (x.length+1) cx],w3,_),⟨OF,hw.tr r3.cQ,dO.rel h r3 hS,cV.rel hu r3 hS,hK.rel r3 hS⟩,Sub.gn [(0,6)] r3 (hE:=⟨rfl,rfl,by dsimp only;rw[List.length_append,List.length_singleton];rfl,rfl,trivial⟩),by dsimp only;omega⟩
 have OF:i=M.length:=aR hi (by simpa using OF);rw[OF,List.take_of_length_le (by rw[eA];omega)]at hK;intro ρe we re;refine⟨_,rfl,hw.tr re.cQ,rv,?_,hK.1,fun i u x h1 h2=>cV.out (hK.2.2 i u x h1 h2) re hS⟩;have:=re.ie (id:=0) (sz:=1) (m:=rv.length) rfl (by rw[aS]) (by unfold maxLen;omega) (by decide) hK.2.1;rw[<-hK.1];exact this.cJ fun g hg=>.inr hg
section
variable{S:Nat->Prop}{H:Hp}{nx:Nat}{iv0:Iv}{B:Nat}{w w' w2:World}{O:Nat->Sx.dg}{v:Value}{xs:List Rat}
end
theorem lS:rs q<0↔q<0:=by rw[rs,Int.sign_neg_iff,<-Int.not_le,Rat.num_nonneg,Rat.not_le]
theorem oH:0<rs q↔0<q:=by
 have h:=lS (q:= -q);rw[Me]at h;constructor
 ·intro k;have:=h.1 (by omega);grind
 ·intro k;have:=h.2 (by grind);omega
end Go.Ex
namespace Go.Ex
variable{E M:List (List Rat)}{pv:List Nat}{l r:List Rat}{m:Mx}{B C a j:Nat}{u v:Nat->Rat}{d p q:Rat}
def jr:List Nat->(Nat->Rat)->Rat
 |[],_=>0
 |t::l,g=>g t+jr l g
theorem yT{g h:Nat->Rat}:∀{l:List Nat},(∀t∈l,g t=h t)->jr l g=jr l h
 |[],_=>rfl
 |t::l,e=>by show g t+_=h t+_;rw[e t aG,yT fun s hs=>e s (List.mem_cons_of_mem _ hs)]
theorem BN{g:Nat->Rat}:∀{l:List Nat},(∀t∈l,g t=0)->jr l g=0
 |[],_=>rfl
 |t::l,e=>by show g t+_=0;rw[e t aG,BN fun s hs=>e s (List.mem_cons_of_mem _ hs),bX]
theorem vg(g:Nat->Rat):∀l k:List Nat,jr (l++k) g=jr l g+jr k g
 |[],k=>(Rat.zero_add _).symm
 |t::l,k=>by show g t+jr (l++k) g=g t+jr l g+jr k g;rw[vg g l k,Rat.add_assoc]
theorem Dj(g:Nat->Rat):∀l:List Nat,jr l (fun t=> -g t)= -jr l g
 |[]=>rfl
 |t::l=>by show -g t+jr l _= -(g t+jr l g);rw[Dj g l,Rat.neg_add]
theorem vh(p:Nat->Bool)(g:Nat->Rat):∀l:List Nat,jr l g=jr (l.filter p) g+jr (l.filter fun t=> !p t) g
 |[]=>(bX 0).symm
 |t::l=>by
  show g t+jr l g=_;rw[vh p g l,List.filter_cons,List.filter_cons]
  cases p t with
  |true=>show _=g t+_+_;rw[Rat.add_assoc];rfl
  |false=>
   show _=jr (l.filter p) g+(g t+_)
   rw[<-Rat.add_assoc,Rat.add_comm (g t),Rat.add_assoc]
theorem yU{g:Nat->Rat}{s:Nat}:∀{l:List Nat},l.Nodup->s∈l->(∀t∈l,t≠s->g t=0)->jr l g=g s
 |[],_,hm,_=>by cases hm
 |t::l,hn,hm,h=>by
  show g t+jr l g=g s;have Qj:=List.nodup_cons.1 hn;rcases List.mem_cons.1 hm with rfl|hm
  ·rw[BN fun u hu=>h u (List.mem_cons_of_mem _ hu) fun e=>Qj.1 (e▸hu),bX]
  ·rw[h t aG (fun e=>Qj.1 (e▸hm)),Rat.zero_add,yU Qj.2 hm fun u hu=>h u (List.mem_cons_of_mem _ hu)]
theorem yV{i t:Nat}{v:Rat}:(l.set i v).getD t 0=if i=t∧i<l.length then v else l.getD t 0:=by
 simp only[List.getD,List.getElem?_set]
 by_cases h:i=t
 ·subst h;by_cases hl:i<l.length
  ·simp[hl]
  ·simp[hl]
 ·simp[h]
theorem yW{F:Nat->List Rat}{pv:List Nat}{f:Nat->Rat}(hF:∀i,F (i+1)=(F i).set (pv.getD i 0) (f i)){t:Nat}(ht:t∉pv):∀i,i<=pv.length->(F i).getD t 0=(F 0).getD t 0
 |0,_=>rfl
 |i+1,h=>by
  rw[hF,yV,aK fun e=>ht (by rw[<-e.1,List.getD,aB (by omega)];exact aY _)];exact yW hF ht i (by omega)
theorem JD(hp:pv.Pairwise (· < ·)){i:Nat}(Pb:j<i)(hi:i<pv.length):pv.getD j 0<pv.getD i 0:=by
 rw[List.getD,List.getD,aB hi,aB (by omega)];exact List.pairwise_iff_getElem.1 hp j i _ _ Pb
theorem nW{F:Nat->List Rat}{pv:List Nat}{f:Nat->Rat}{n:Nat}(hF:∀i,F (i+1)=(F i).set (pv.getD i 0) (f i))(hl:∀i,(F i).length=n)(hp:pv.Pairwise (· < ·))(hn:∀p∈pv,p<n){j:Nat}:∀i,i<=pv.length->j<i->(F i).getD (pv.getD j 0) 0=f j
 |0,_,h=>by omega
 |i+1,h,hj=>by
  rw[hF,yV];rcases aP j i with h1|h1
  ·have:=JD hp h1 (by omega);rw[aK (by omega)];exact nW hF hl hp hn i (by omega) h1
  ·have e:j=i:=by omega
   subst e;have hm:pv.getD j 0<(F j).length:=by rw[hl];exact hn _ (by rw[List.getD,aB (by omega)];exact aY _)
   rw[if_pos ⟨rfl,hm⟩]
abbrev iy(pv:List Nat)(n:Nat):List Nat:=(List.range n).filter fun c=>decide (c∉pv)
section
variable{M:List (List Rat)}{x:List Rat}{n:Nat}
end
structure Diff(A:List (List Rat))(pv:List Nat)(n:Nat)(x:List Rat):Prop where
 up:pv.Pairwise (· < ·)
 lt:∀p∈pv,p<n
 le:pv.length<=A.length
 unit:∀i j,i<pv.length->j<A.length->dD A j (pv.getD i 0)=if j=i then 1 else 0
 sum:∀j,j<A.length->jr (List.range n) (fun t=>dD A j t*x.getD t 0)=dD A j n
section
variable{A:List (List Rat)}{pv:List Nat}{n:Nat}{x:List Rat}
theorem rW{t:Nat}(h:t∈pv):∃j,j<pv.length∧pv.getD j 0=t:=by
 obtain⟨j,hj,rfl⟩:=List.mem_iff_getElem.1 h;exact⟨j,hj,by rw[List.getD,aB hj];rfl⟩
theorem pA{c t:Nat}(ht:t∉pv)(hc:c<n):(gC A pv n c pv.length).getD t 0=if t=c then 1 else 0:=by
 rw[yW (F:=gC A pv n c) (fun i=>gp A pv n c i) ht _ (aF _)];show((List.replicate n (0:Rat)).set c 1).getD t 0=_;rw[yV,bC];by_cases h:c=t
 ·rw[if_pos ⟨h,hc⟩,if_pos h.symm]
 ·rw[aK (fun e=>h e.1),aK (fun e=>h e.symm)];simp only[List.getD,List.getElem?_replicate]
  split<;>rfl
theorem Diff.kin(h:Diff A pv n x){c:Nat}(hj:j<pv.length):(gC A pv n c pv.length).getD (pv.getD j 0) 0= -(dD A j c):=
 nW (F:=gC A pv n c) (f:=fun i=> -(dD A i c)) (fun i=>gp A pv n c i) (kA A pv n c) h.up h.lt _ (aF _) hj
theorem sf{t:Nat}(ht:t∉pv):(fp A pv n pv.length).getD t 0=0:=by
 rw[yW (F:=fp A pv n) (fun i=>gR A pv n i) ht _ (aF _)];show(List.replicate n (0:Rat)).getD t 0=0;simp only[List.getD,List.getElem?_replicate]
 split<;>rfl
theorem Diff.xin(h:Diff A pv n x)(hj:j<pv.length):(fp A pv n pv.length).getD (pv.getD j 0) 0=dD A j n:=
 nW (F:=fp A pv n) (f:=fun i=>dD A i n) (fun i=>gR A pv n i) (jD A pv n) h.up h.lt _ (aF _) hj
theorem rX:(iy pv n).Nodup:=List.Pairwise.filter _ List.nodup_range
theorem lD{c:Nat}:c∈iy pv n↔c<n∧c∉pv:=by
 unfold iy;rw[List.mem_filter,List.mem_range,decide_eq_true_eq]
theorem Diff.rest(h:Diff A pv n x){t:Nat}(ht:t<n):x.getD t 0+(fp A pv n pv.length).getD t 0* -1=jr (iy pv n) fun c=>x.getD c 0*(gC A pv n c pv.length).getD t 0:=by
 by_cases hp:t∈pv
 ·obtain⟨j,hj,rfl⟩:=rW hp;have hs:=h.sum j (Nat.lt_of_lt_of_le hj h.le);rw[vh (fun c=>decide (c∉pv)),yU (s:=pv.getD j 0) (l:=(List.range n).filter fun t=> !decide (t∉pv)) (List.Pairwise.filter _ List.nodup_range) (List.mem_filter.2 ⟨List.mem_range.2 ht,by rw[bN fun e=>e hp];rfl⟩) (fun s hs OG=>?_),h.unit j j hj (Nat.lt_of_lt_of_le hj h.le),if_pos rfl,bw]at hs
  ·rw[h.xin hj,yT (h:=fun c=> -(dD A j c*x.getD c 0)) fun c hc=>by rw[h.kin hj,Rat.mul_neg,bg],Dj,<-hs];generalize x.getD (pv.getD j 0) 0=q;generalize jr _ _=s;rw[Rat.mul_neg,Rat.mul_one,Rat.neg_add,<-Rat.add_assoc,Rat.add_comm q,Rat.add_assoc,Rat.add_neg_cancel,bX]
  ·have QW:s∈pv:=by simpa using(List.mem_filter.1 hs).2
   obtain⟨i,hi,rfl⟩:=rW QW;rw[h.unit i j hi (Nat.lt_of_lt_of_le hj h.le),aK (fun e=>OG (by rw[e])),bH]
 ·rw[sf hp,bH,bX,yU (s:=t) rX (lD.2 ⟨ht,hp⟩) fun c hc OG=>by rw[pA hp (lD.1 hc).1,aK (Ne.symm OG),bD],pA hp ht,if_pos rfl,Rat.mul_one]
theorem pB{k:Nat}(hk:k<(iy pv n).length):(iy pv n).getD k 0∈iy pv n:=by rw[List.getD,aB hk];exact aY hk
theorem nX{k:Nat}(h:(eP A pv n n)[k]? =some r):k<(iy pv n).length∧r=gC A pv n ((iy pv n).getD k 0) pv.length:=by
 unfold eP at h;rw[aN]at h;obtain⟨c,hc,rfl⟩:=Option.map_eq_some_iff.1 h;refine⟨(aD.1 hc).1,?_⟩;rw[List.getD,hc];rfl
theorem JE{i k:Nat}(hi:i<(iy pv n).length)(hk:k<(iy pv n).length)(e:(iy pv n).getD i 0=(iy pv n).getD k 0):i=k:=by
 rw[List.getD,List.getD,aB hi,aB hk]at e;rcases bs i k with h|h|h
 ·exact absurd e (List.pairwise_iff_getElem.1 rX i k hi hk h)
 ·exact h
 ·exact absurd e.symm (List.pairwise_iff_getElem.1 rX k i hk hi h)
theorem yX{k i:Nat}{s:List Rat}(hr:(eP A pv n n)[k]? =some r)(hs:(eP A pv n n)[i]? =some s):s.getD ((iy pv n).getD k 0) 0=if i=k then 1 else 0:=by
 obtain⟨hk,-⟩:=nX hr;obtain⟨hi,rfl⟩:=nX hs;have hm:=lD.1 (pB hk);rw[pA hm.2 (lD.1 (pB hi)).1];by_cases h:i=k
 ·rw[h,if_pos rfl,if_pos rfl]
 ·rw[aK (fun e=>h (JE hi hk e.symm)),aK h]
end
theorem mq(f:Nat->Nat->Rat)(m:Nat):∀n,cY (fun i=>cY (f i) m) n=cY (fun j=>cY (fun i=>f i j) n) m
 |0=>(di m).symm
 |n+1=>by
  show cY (fun i=>cY (f i) m) n+cY (f n) m=cY (fun j=>cY (fun i=>f i j) n+f n j) m;rw[gD,mq f m n]
theorem rZ(x y:List Rat):∀n,fI x y n=cY (fun t=>x.getD t 0*y.getD t 0) n
 |0=>rfl
 |n+1=>by rw[fI,rZ x y n];rfl
theorem vo{f:Nat->Rat}:∀{n:Nat},(∀k,k<n->0<=f k)->0<=cY f n
 |0,_=>Rat.le_refl
 |n+1,h=>by
  have h1:=vo (n:=n) fun k hk=>h k (by omega);have h2:=h n (by omega);show 0<=cY f n+f n;grind
theorem vq{f:Nat->Rat}:∀{n:Nat},(∀k,k<n->0<=f k)->cY f n<=0->∀k,k<n->f k=0
 |0,_,_,k,hk=>by omega
 |n+1,h,h0,k,hk=>by
  have h1:=vo (n:=n) fun k hk=>h k (by omega);have h2:=h n (by omega);have h3:cY f n+f n<=0:=h0;rcases aP k n with h4|h4
  ·exact vq (fun k hk=>h k (by omega)) (by grind) k h4
  ·rw[show k=n by omega];grind
def CM(m:Mx)(n w:Nat):Prop:=∀x:Nat->Rat,(∀t,t<w->cY (fun i=>x i*m i t) n=0)->∀i,i<n->x i=0
theorem JG(f:Nat->Rat){n b:Nat}(ha:a<n)(hb:b<n):cY (fun i=>f (kk a b i)) n=cY f n:=by
 have h1:cY (fun i=>(if i=a then f b-f a else 0)+(if i=b then f a-f b else 0)) n=0:=by
  rw[gD,ec ha fun k _ OG=>aK OG,ec hb fun k _ OG=>aK OG,if_pos rfl,if_pos rfl];grind
 have h2:cY (fun i=>f (kk a b i)) n-cY f n=0:=by
  rw[<-sh,<-h1];refine cK fun k _=>?_;unfold kk;by_cases h3:k=a
  ·subst h3;rw[if_pos rfl,if_pos rfl];by_cases h4:k=b
   ·subst h4;rw[if_pos rfl];grind
   ·rw[aK h4];grind
  ·rw[aK h3,aK h3];by_cases h4:k=b
   ·subst h4;rw[if_pos rfl,if_pos rfl];grind
   ·rw[aK h4,aK h4];grind
 grind
theorem CN(a b i:Nat):kk a b (kk a b i)=i:=by
 unfold kk;by_cases h1:i=a
 ·rw[if_pos h1];by_cases h2:b=a
  ·rw[if_pos h2];omega
  ·rw[aK h2,if_pos rfl];omega
 ·rw[aK h1];by_cases h2:i=b
  ·rw[if_pos h2,if_pos rfl];omega
  ·rw[aK h2,aK h1,aK h2]
theorem Mf{b i n:Nat}(ha:a<n)(hb:b<n)(hi:i<n):kk a b i<n:=by unfold kk;split<;>(try split)<;>omega
theorem CM.kk{n w b:Nat}(h:CM m n w)(ha:a<n)(hb:b<n):CM (fun i t=>m (kk a b i) t) n w:=fun x hx i hi=>by
 have h1:=h (fun i=>x (Go.Ex.kk a b i)) (fun t ht=>by
  rw[<-hx t ht,<-JG (fun i=>x i*m (Go.Ex.kk a b i) t) ha hb]
  exact cK fun k _=>by simp only[CN]) (Go.Ex.kk a b i) (Mf ha hb hi)
 simp only[CN]at h1;exact h1
section
variable{m m':Mx}{n w p:Nat}{κ:Rat}{q:Nat->Rat}
def lj(p:Nat)(q x:Nat->Rat)(n:Nat):Rat:=cY (fun j=>if j=p then 0 else x j*q j) n
theorem Gk(hp:p<n)(h1:∀t,t<w->m' p t=κ*m p t)(h2:∀j t,j<n->j≠p->t<w->m' j t=m j t+q j*m' p t)(x:Nat->Rat){t:Nat}(ht:t<w):
  cY (fun j=>x j*m' j t) n=cY (fun j=>(if j=p then κ*(x p+lj p q x n)else x j)*m j t) n:=by
 have h3:cY (fun j=>x j*m' j t) n-cY (fun j=>(if j=p then κ*(x p+lj p q x n)else x j)*m j t) n=0:=by
  rw[<-sh];have h4:∀j,j<n->x j*m' j t-(if j=p then κ*(x p+lj p q x n)else x j)*m j t=(if j=p then 0 else x j*q j)*(κ*m p t)+(if j=p then -(lj p q x n*(κ*m p t))else 0):=fun j hj=>by
   by_cases h5:j=p
   ·subst h5;rw[if_pos rfl,if_pos rfl,if_pos rfl,h1 t ht];grind
   ·rw[aK h5,aK h5,aK h5,h2 j t hj h5 ht,h1 t ht];grind
  rw[cK h4,gD,kl,ec hp fun k _ OG=>aK OG,if_pos rfl];unfold lj;grind
 grind
theorem CM.mix(hi:CM m n w)(hκ:κ≠0)(hp:p<n)(h1:∀t,t<w->m' p t=κ*m p t)(h2:∀j t,j<n->j≠p->t<w->m' j t=m j t+q j*m' p t):CM m' n w:=fun x hx=>by
 have h3:=hi _ fun t ht=>(Gk hp h1 h2 x ht).symm.trans (hx t ht);have h4:∀j,j<n->j≠p->x j=0:=fun j hj OG=>by have:=h3 j hj;rwa [aK OG]at this
 have h5:lj p q x n=0:=by
  unfold lj;rw[cK (g:=fun _=>0) fun j hj=>?_,di];by_cases h6:j=p
  ·rw[if_pos h6]
  ·rw[aK h6,h4 j hj h6,bH]
 have h6:=h3 p hp;rw[if_pos rfl,h5,bX]at h6;intro i hi;by_cases h7:i=p
 ·rw[h7];exact(Rat.mul_eq_zero.1 h6).resolve_left hκ
 ·exact h4 i hi h7
theorem CM.NZ(hi:CM m' n w)(hκ:κ≠0)(hp:p<n)(h1:∀t,t<w->m' p t=κ*m p t)(h2:∀j t,j<n->j≠p->t<w->m' j t=m j t+q j*m' p t):CM m n w:=fun y hy=>by
 have hk:κ*κ⁻¹=1:=Rat.mul_inv_cancel _ hκ;have h3:=hi (fun j=>if j=p then y p*κ⁻¹-lj p q y n else y j) fun t ht=>by
  rw[Gk hp h1 h2 _ ht,<-hy t ht];refine cK fun j hj=>?_;have h5:lj p q (fun j=>if j=p then y p*κ⁻¹-lj p q y n else y j) n=lj p q y n:=by
   unfold lj;refine cK fun i _=>?_;by_cases h6:i=p
   ·rw[if_pos h6,if_pos h6]
   ·rw[aK h6,aK h6];simp only[aK h6]
  rw[h5,if_pos rfl];by_cases h6:j=p
  ·rw[if_pos h6,h6];grind
  ·rw[aK h6,aK h6]
 have h4:∀j,j<n->j≠p->y j=0:=fun j hj OG=>by have:=h3 j hj;rwa [aK OG]at this
 have h5:lj p q y n=0:=by
  unfold lj;rw[cK (g:=fun _=>0) fun j hj=>?_,di];by_cases h6:j=p
  ·rw[if_pos h6]
  ·rw[aK h6,h4 j hj h6,bH]
 have h6:=h3 p hp;rw[if_pos rfl,h5]at h6;intro i hi;by_cases h7:i=p
 ·rw[h7];grind
 ·exact h4 i hi h7
end
theorem CM.congr{m':Mx}{n w:Nat}(h:CM m n w)(e:∀i t,i<n->t<w->m' i t=m i t):CM m' n w:=fun x hx=>h x fun t ht=>by
 rw[<-hx t ht];exact cK fun i hi=>by rw[e i t hi ht]
theorem JH{s:List (List Rat)×List Nat}{c w:Nat}(hl:fX w s.1)(hle:s.2.length<=s.1.length):CM (dD (dX s c).1) s.1.length w↔CM (dD s.1) s.1.length w:=by
 rcases jX c hle with⟨e,-⟩|⟨k,h1,h2,h3,e⟩
 ·rw[e]
 ·obtain⟨r1,r2⟩:=lC hl h1 h2 h3 e;have hp:s.2.length<s.1.length:=by omega
  have hs:kk s.2.length k s.2.length=k:=by unfold kk;rw[if_pos rfl]
  have hκ:(1 / dD s.1 k c)≠0:=fun e=>by have:=se h3;rw[e,bD]at this;exact absurd this (by decide)
  have q1:∀t,t<w->dD (dX s c).1 s.2.length t=(1 / dD s.1 k c)*(fun i t=>dD s.1 (kk s.2.length k i) t) s.2.length t:=fun t _=>by
   simp only[hs]
   rw[r1,bg]
  have q2:∀j t,j<s.1.length->j≠s.2.length->t<w->dD (dX s c).1 j t=(fun i t=>dD s.1 (kk s.2.length k i) t) j t+(fun j=> -(dD s.1 (kk s.2.length k j) c)) j*dD (dX s c).1 s.2.length t:=fun j t hj OG ht=>by
   rw[r2 j hj OG t ht,r1];have:kk s.2.length k j=if j=k then s.2.length else j:=by unfold kk;rw[aK OG]
   simp only[this]
  constructor
  ·intro h;have h4:=(CM.NZ h hκ hp q1 q2).kk hp h2;exact h4.congr fun i t _ _=>by simp only[CN]
  ·intro h;exact CM.mix (h.kk hp h2) hκ hp q1 q2
theorem vv{M:List (List Rat)}{w:Nat}(hl:fX w M):∀cols,cols<=w->(CM (dD (cM M cols).1) M.length w↔CM (dD M) M.length w)
 |0,_=>Iff.rfl
 |c+1,h=>by
  have ih:=vv hl c (by omega);have hr:=dY hl c (by omega);have h1:=dh M c;rw[<-ih];have h2:=JH (c:=c) hr.1 hr.2.1;rw[h1]at h2;rw[<-h2];unfold cM;rw[bO,List.foldl_append];exact Iff.rfl
def eF(E:Mx)(r n:Nat)(v:Nat->Rat):Prop:=∃c:Nat->Rat,∀t,t<n->v t=cY (fun i=>c i*E i t) r
structure Rf(E:Mx)(p:Nat->Nat)(r n:Nat):Prop where
 lt:∀i,i<r->p i<n
 mono:∀i j,i<j->j<r->p i<p j
 unit:∀i j,i<r->j<r->E j (p i)=if j=i then 1 else 0
 lead:∀i t,i<r->t<p i->E i t=0
section
variable{E F:Mx}{p q:Nat->Nat}{r s n:Nat}{v:Nat->Rat}
theorem Rf.coeff(h:Rf E p r n)(hv:eF E r n v):∀t,t<n->v t=cY (fun i=>v (p i)*E i t) r:=by
 obtain⟨c,hc⟩:=hv;intro t ht;rw[hc t ht];refine cK fun i hi=>?_;rw[hc (p i) (h.lt i hi),ec hi fun k hk OG=>by rw[h.unit i k hi hk,aK OG,bD],h.unit i i hi hi,if_pos rfl,Rat.mul_one]
theorem Rf.LR(h:Rf E p r n)(hv:eF E r n v){t:Nat}(ht:t<n)(h0:v t≠0)(hz:∀k,k<t->v k=0):∃i,i<r∧p i=t:=by
 refine Decidable.byContradiction fun SK=>h0 ?_;rw[h.coeff hv t ht,cK (g:=fun _=>0) fun i hi=>?_,di];rcases bs (p i) t with h1|h1|h1
 ·rw[hz _ h1,bH]
 ·exact absurd ⟨i,hi,h1⟩ SK
 ·rw[h.lead i t hi h1,bD]
theorem Rf.MM(h:Rf E p r n)(k:Rf F q s n)(hE:∀i,i<r->eF F s n (E i)){i:Nat}(hi:i<r):∃j,j<s∧q j=p i:=
 k.LR (hE i hi) (h.lt i hi) (by rw[h.unit i i hi hi,if_pos rfl];decide) fun t ht=>h.lead i t hi ht
theorem Rf.JI(h:Rf E p r n)(k:Rf F q s n)(hE:∀i,i<r->eF F s n (E i))(hF:∀j,j<s->eF E r n (F j)):∀i,i<r->i<s∧p i=q i:=by
 intro i
 induction i using Nat.strongRecOn with
 |ind i ih=>
  intro hi;obtain⟨j,hj,e1⟩:=h.MM k hE hi;have PA:i<=j:=by
   refine Nat.le_of_not_lt fun OU=>?_;have h1:=(ih j OU (by omega)).2;have h2:=h.mono j i OU hi;omega
  have his:i<s:=by omega
  refine⟨his,?_⟩;obtain⟨l,hl,e2⟩:=k.MM h hF his;have Ub:i<=l:=by
   refine Nat.le_of_not_lt fun OU=>?_;have h1:=(ih l OU hl).2;have h2:=k.mono l i OU his;omega
  have h3:q i<=q j:=by
   rcases aP i j with h4|h4
   ·exact Nat.le_of_lt (k.mono i j h4 hj)
   ·rw[show i=j by omega];exact aF _
  have h5:p i<=p l:=by
   rcases aP i l with h4|h4
   ·exact Nat.le_of_lt (h.mono i l h4 hl)
   ·rw[show i=l by omega];exact aF _
  omega
theorem Rf.one(h:Rf E p r n)(k:Rf F q s n)(hE:∀i,i<r->eF F s n (E i))(hF:∀j,j<s->eF E r n (F j)):r=s∧(∀i,i<r->p i=q i)∧∀i t,i<r->t<n->E i t=F i t:=by
 have h1:=h.JI k hE hF;have h2:=k.JI h hF hE;have VB:r=s:=by
  rcases bs r s with h3|h3|h3
  ·have:=(h2 r h3).1;omega
  ·exact h3
  ·have:=(h1 s h3).1;omega
 refine⟨VB,fun i hi=>(h1 i hi).2,fun i t hi ht=>?_⟩;rw[k.coeff (hE i hi) t ht,ec (i:=i) (by omega) fun j hj OG=>by rw[<-(h1 j (by omega)).2,h.unit j i (by omega) hi,aK (Ne.symm OG),bH],<-(h1 i hi).2,h.unit i i hi hi,if_pos rfl,bw]
end
theorem eF.row{E:Mx}{r n i:Nat}(hi:i<r):eF E r n (E i):=⟨fun k=>if k=i then 1 else 0,fun t _=>by
 rw[ec hi fun k _ OG=>by simp only[aK OG,bH]]
 simp only[if_pos,bw]⟩
theorem eF.add{E:Mx}{r n:Nat}(h:eF E r n u)(k:eF E r n v)(x:Rat):eF E r n fun t=>u t+x*v t:=by
 obtain⟨c,hc⟩:=h;obtain⟨d,hd⟩:=k;refine⟨fun i=>c i+x*d i,fun t ht=>?_⟩;show u t+x*v t=cY (fun i=>(c i+x*d i)*E i t) r;rw[hc t ht,hd t ht,<-e9,<-gD];exact cK fun i _=>by grind
theorem eF.mul{E:Mx}{r n:Nat}(h:eF E r n u)(x:Rat):eF E r n fun t=>u t*x:=by
 obtain⟨c,hc⟩:=h;refine⟨fun i=>c i*x,fun t ht=>?_⟩;show u t*x=cY (fun i=>(c i*x)*E i t) r;rw[hc t ht,<-kl];exact cK fun i _=>by grind
theorem eF.congr{E:Mx}{r n:Nat}(h:eF E r n u)(e:∀t,t<n->v t=u t):eF E r n v:=by
 obtain⟨c,hc⟩:=h;exact⟨c,fun t ht=>by rw[e t ht,hc t ht]⟩
theorem eF.trans{E F:Mx}{r s n:Nat}(h:eF E r n v)(k:∀i,i<r->eF F s n (E i)):eF F s n v:=by
 obtain⟨c,hc⟩:=h;have key:∀m,m<=r->eF F s n fun t=>cY (fun i=>c i*E i t) m:=by
  intro m
  induction m with
  |zero=>intro _;exact⟨fun _=>0,fun t _=>by rw[cK (g:=fun _=>0) fun i _=>bH _,di];rfl⟩
  |succ m ih=>
   intro hm;exact(ih (by omega)).add (k m (by omega)) (c m)
 exact(key r (aF _)).congr fun t ht=>hc t ht
def JJ(s:List (List Rat)×List Nat):Prop:=(∀i j,i<j->j<s.2.length->s.2.getD i 0<s.2.getD j 0)∧∀i t,i<s.2.length->t<s.2.getD i 0->dD s.1 i t=0
theorem JJ.step{n c:Nat}{s:List (List Rat)×List Nat}(h:JJ s)(hr:NT n c s)(hc:c<n):JJ (dX s c):=by
 obtain⟨hl,hle,hz,RH,hu⟩:=hr;rcases jX c hle with⟨e,-⟩|⟨k,h1,h2,h3,e⟩
 ·rw[e];exact h
 ·obtain⟨r1,r2⟩:=lC hl h1 h2 h3 e;have e2:(dX s c).2=s.2++[c]:=by rw[e]
  have hold:∀i,i<s.2.length->(dX s c).2.getD i 0=s.2.getD i 0:=fun i hi=>by rw[e2,List.getD,aL hi,<-List.getD]
  have Pk:(dX s c).2.getD s.2.length 0=c:=by rw[e2,List.getD,aM (aF _),bK];rfl
  have OU:∀i,i<s.2.length->s.2.getD i 0<c:=fun i hi=>RH _ (by rw[List.getD,aB hi];exact aY _);have hlen:(dX s c).2.length=s.2.length+1:=by rw[e2];simp
  refine⟨fun i j Pb hj=>?_,fun i t hi ht=>?_⟩
  ·rw[hlen]at hj;rcases aP j s.2.length with h4|h4
   ·rw[hold i (by omega),hold j h4];exact h.1 i j Pb h4
   ·rw[show j=s.2.length by omega,Pk,hold i (by omega)];exact OU i (by omega)
  ·rw[hlen]at hi;rcases aP i s.2.length with h4|h4
   ·rw[hold i h4]at ht;have h5:=OU i h4;rw[r2 i (by omega) (by omega) t (by omega),hz k t h1 h2 (by omega),aK (by omega),h.2 i t h4 ht,bH,bD,Rat.zero_add]
   ·rw[show i=s.2.length by omega]at ht ⊢;rw[Pk]at ht;rw[r1,hz k t h1 h2 ht,bH]
theorem si{M:List (List Rat)}{n:Nat}(hl:fX n M):∀cols,cols<=n->JJ (cM M cols)
 |0,_=>⟨fun _ _ _ h=>(by cases h),fun _ _ h=>(by cases h)⟩
 |c+1,h=>by
  have ih:=si hl c (by omega);have hr:=dY hl c (by omega);unfold cM at ih hr ⊢;rw[bO,List.foldl_append];exact ih.step hr (by omega)
theorem y9{n:Nat}(hl:fX n M):Rf (dD (cM M n).1) (fun i=>(cM M n).2.getD i 0) (cM M n).2.length n:=by
 obtain⟨h1,h2,h3,h4,h5⟩:=dY hl n (aF _);obtain⟨k1,k2⟩:=si hl n (aF _);refine⟨fun i hi=>h4 _ (by rw[List.getD,aB hi];exact aY _),k1,fun i j hi hj=>h5 i j hi (by omega),k2⟩
theorem LS{s:List (List Rat)×List Nat}{c n:Nat}(hl:fX n s.1)(hle:s.2.length<=s.1.length):(∀j,j<s.1.length->eF (dD s.1) s.1.length n (dD (dX s c).1 j))∧∀j,j<s.1.length->eF (dD (dX s c).1) s.1.length n (dD s.1 j):=by
 rcases jX c hle with⟨e,-⟩|⟨k,h1,h2,h3,e⟩
 ·rw[e];exact⟨fun j hj=>eF.row hj,fun j hj=>eF.row hj⟩
 ·obtain⟨r1,r2⟩:=lC hl h1 h2 h3 e;have hp:s.2.length<s.1.length:=by omega
  have a1:eF (dD s.1) s.1.length n (dD (dX s c).1 s.2.length):=((eF.row h2).mul (1 / dD s.1 k c)).congr fun t _=>r1 t;have b1:eF (dD (dX s c).1) s.1.length n (dD s.1 k):=((eF.row hp).mul (dD s.1 k c)).congr fun t _=>by rw[r1,Rat.mul_assoc,bg (1 / _),se h3,Rat.mul_one]
  refine⟨fun j hj=>?_,fun j hj=>?_⟩
  ·by_cases h4:j=s.2.length
   ·rw[h4];exact a1
   ·exact((eF.row (show (if j=k then s.2.length else j)<s.1.length by split<;>omega)).add (eF.row h2) (-(dD s.1 (if j=k then s.2.length else j) c)*(1 / dD s.1 k c))).congr fun t ht=>by rw[r2 j hj h4 t ht];grind
  ·by_cases h4:j=k
   ·rw[h4];exact b1
   ·obtain⟨i,hi,OG,Pb⟩:∃i,i<s.1.length∧i≠s.2.length∧(if i=k then s.2.length else i)=j:=by
     by_cases h5:j=s.2.length
     ·exact⟨k,h2,fun e6=>h4 (h5.trans e6.symm),by rw[if_pos rfl,h5]⟩
     ·exact⟨j,hj,h5,aK h4⟩
    refine((eF.row hi).add (eF.row hp) (dD s.1 j c)).congr fun t ht=>?_;rw[r2 i hi OG t ht,Pb,r1];grind
theorem jQ{M:List (List Rat)}{n:Nat}(hl:fX n M):∀cols,cols<=n->(∀j,j<M.length->eF (dD M) M.length n (dD (cM M cols).1 j))∧∀j,j<M.length->eF (dD (cM M cols).1) M.length n (dD M j)
 |0,_=>⟨fun j hj=>eF.row hj,fun j hj=>eF.row hj⟩
 |c+1,h=>by
  obtain⟨i1,i2⟩:=jQ hl c (by omega);have hr:=dY hl c (by omega);have h1:=dh M c;have h2:=LS (c:=c) hr.1 hr.2.1;rw[h1]at h2;have e:(cM M (c+1))=dX (cM M c) c:=by unfold cM;rw[bO,List.foldl_append];rfl
  rw[e];exact⟨fun j hj=>(h2.1 j hj).trans i1,fun j hj=>(i2 j hj).trans h2.2⟩
theorem eF.cut{E:Mx}{r m n:Nat}(h:eF E m n v)(hz:∀i t,r<=i->i<m->t<n->E i t=0):eF E r n v:=by
 refine h.trans fun i hi=>?_;rcases aP i r with h1|h1
 ·exact eF.row h1
 ·exact⟨fun _=>0,fun t ht=>by rw[hz i t h1 hi ht,cK (g:=fun _=>0) fun k _=>bH _,di]⟩
theorem Dm{n r:Nat}{F:Mx}{q:Nat->Nat}(hl:fX n M)(k:Rf F q r n)(h1:∀i,i<r->eF (dD M) M.length n (F i))(h2:∀j,j<M.length->eF F r n (dD M j)):
  (cM M n).2.length=r∧(∀i,i<r->(cM M n).2.getD i 0=q i)∧∀i t,i<r->t<n->dD (cM M n).1 i t=F i t:=by
 obtain⟨a1,a2⟩:=jQ hl n (aF _);obtain⟨-,hle,hz,-,-⟩:=dY hl n (aF _);rw[dh]at hle hz;have h:=y9 hl;obtain⟨e1,e2,e3⟩:=h.one k (fun i hi=>(a1 i (by omega)).trans h2) fun j hj=>((h1 j hj).trans a2).cut fun i t hi hm ht=>hz i t hi hm ht;exact⟨e1,fun i hi=>e2 i (by omega),fun i t hi ht=>e3 i t (by omega) ht⟩
structure Ru(E:Mx)(p:Nat->Nat)(r n:Nat):Prop where
 lt:∀i,i<r->p i<n
 inj:∀i j,i<r->j<r->p i=p j->i=j
 unit:∀i j,i<r->j<r->E j (p i)=if j=i then 1 else 0
 lead:∀i t,i<r->t<p i->E i t=0
def l7(E:Mx)(p:Nat->Nat)(r:Nat)(v:Nat->Rat)(k t:Nat):Rat:=v t-cY (fun i=>if p i<k then v (p i)*E i t else 0) r
theorem JK(E:Mx)(p:Nat->Nat)(r:Nat)(v:Nat->Rat)(t:Nat):l7 E p r v 0 t=v t:=by
 unfold l7;rw[cK (g:=fun _=>0) fun i _=>aK (by omega),di];grind
section
variable{E:Mx}{p:Nat->Nat}{r n:Nat}{v:Nat->Rat}
theorem JL{k t:Nat}(h:∀i,i<r->p i≠k):l7 E p r v (k+1) t=l7 E p r v k t:=by
 unfold l7;rw[cK fun i hi=>?_];have:=h i hi;by_cases h1:p i<k
 ·rw[if_pos h1,if_pos (by omega)]
 ·rw[aK h1,aK (by omega)]
theorem Mg(h:Ru E p r n){i:Nat}(hi:i<r):l7 E p r v (p i) (p i)=v (p i):=by
 unfold l7;rw[cK (g:=fun _=>0) fun j hj=>?_,di]
 ·grind
 ·by_cases h1:p j<p i
  ·rw[if_pos h1,h.unit i j hi hj,aK (fun e=>by rw[e]at h1;omega),bD]
  ·rw[aK h1]
theorem JM(h:Ru E p r n){i t:Nat}(hi:i<r):l7 E p r v (p i+1) t=l7 E p r v (p i) t+ -(l7 E p r v (p i) (p i))*E i t:=by
 rw[Mg h hi];unfold l7;have e:cY (fun j=>if p j<p i+1 then v (p j)*E j t else 0) r=cY (fun j=>(if p j<p i then v (p j)*E j t else 0)+(if j=i then v (p i)*E i t else 0)) r:=by
  refine cK fun j hj=>?_;by_cases h1:j=i
  ·subst h1;rw[if_pos (by omega),aK (by omega),if_pos rfl,Rat.zero_add]
  ·have h2:p j≠p i:=fun e=>h1 (h.inj j i hj hi e);rw[aK h1,bX];by_cases h3:p j<p i
   ·rw[if_pos h3,if_pos (by omega)]
   ·rw[aK h3,aK (by omega)]
 rw[e,gD,ec hi fun k _ OG=>aK OG,if_pos rfl];grind
theorem Gl(h:Ru E p r n){i:Nat}(hi:i<r):l7 E p r v n (p i)=0:=by
 unfold l7;rw[ec hi fun k hk OG=>?_,if_pos (h.lt i hi),h.unit i i hi hi,if_pos rfl]
 ·grind
 ·rw[if_pos (h.lt k hk),h.unit i k hi hk,aK OG,bD]
end
def kT(E:Mx)(r:Nat)(u:Nat->Rat)(k:Nat):Mx:=fun i t=>if i=r then u t / u k else E i t+ -(E i k)*(u t / u k)
theorem Ru.push{E:Mx}{p:Nat->Nat}{r n k:Nat}(h:Ru E p r n)(hk:k<n)(hu:∀i,i<r->u (p i)=0)(h0:u k≠0)(hz:∀t,t<k->u t=0):
  Ru (kT E r u k) (fun i=>if i=r then k else p i) (r+1) n:=by
 have OG:∀i,i<r->p i≠k:=fun i hi e=>h0 (e▸hu i hi);have PF:u k / u k=1:=by rw[bj,Rat.mul_inv_cancel _ h0]
 have OQ:∀i,i<r->u (p i) / u k=0:=fun i hi=>by rw[hu i hi,bj,bH]
 refine⟨fun i hi=>?_,fun i j hi hj e=>?_,fun i j hi hj=>?_,fun i t hi ht=>?_⟩
 ·split
  ·exact hk
  ·exact h.lt i (by omega)
 ·by_cases h1:i=r
  ·by_cases h2:j=r
   ·omega
   ·rw[if_pos h1,aK h2]at e;exact absurd e.symm (OG j (by omega))
  ·by_cases h2:j=r
   ·rw[aK h1,if_pos h2]at e;exact absurd e (OG i (by omega))
   ·rw[aK h1,aK h2]at e;exact h.inj i j (by omega) (by omega) e
 ·unfold kT;by_cases h1:i=r
  ·rw[if_pos h1];by_cases h2:j=r
   ·rw[if_pos h2,if_pos (by omega),PF]
   ·rw[aK h2,aK (by omega),PF];grind
  ·rw[aK h1];by_cases h2:j=r
   ·rw[if_pos h2,aK (by omega),OQ i (by omega)]
   ·rw[aK h2,OQ i (by omega),bD,bX];exact h.unit i j (by omega) (by omega)
 ·unfold kT;by_cases h1:i=r
  ·rw[if_pos h1]at ht;rw[if_pos h1,hz t ht,bj,bH]
  ·rw[aK h1]at ht;rw[aK h1,h.lead i t (by omega) ht,Rat.zero_add];rcases aP t k with h2|h2
   ·rw[hz t h2,bj,bH,bD]
   ·rw[h.lead i k (by omega) (by omega)];grind
def jk(E:Mx)(r:Nat)(v:Nat->Rat):Mx:=fun i t=>if i=r then v t else E i t
section
variable{E:Mx}{p:Nat->Nat}{r n k:Nat}{u v:Nat->Rat}
theorem Hl(i:Nat)(hi:i<r):eF (jk E r v) (r+1) n (E i):=(eF.row (show i<r+1 by omega)).congr fun t _=>by unfold jk;rw[aK (by omega)]
theorem Mh(hu:∀t,t<n->u t=l7 E p r v n t)(hl:∀i,i<r->p i<n):eF (jk E r v) (r+1) n u:=by
 refine⟨fun i=>if i=r then 1 else -(v (p i)),fun t ht=>?_⟩;rw[hu t ht];show l7 E p r v n t=cY (fun i=>(if i=r then 1 else -(v (p i)))*jk E r v i t) r+(if r=r then 1 else -(v (p r)))*jk E r v r t;rw[if_pos rfl,cK (g:=fun i=> -(v (p i)*E i t)) fun i hi=>by unfold jk;rw[aK (by omega),aK (by omega),Rat.neg_mul],lE];unfold l7 jk;rw[if_pos rfl,cK (g:=fun i=>v (p i)*E i t) fun i hi=>if_pos (hl i hi)];grind
theorem JN(hu:eF (jk E r v) (r+1) n u):∀i,i<r+1->eF (jk E r v) (r+1) n (kT E r u k i):=fun i hi=>by
 by_cases h1:i=r
 ·exact(hu.mul (1 / u k)).congr fun t _=>by unfold kT;rw[if_pos h1,bj,bj,bw]
 ·exact((Hl i (by omega)).add hu (-(E i k)*(1 / u k))).congr fun t _=>by unfold kT;rw[aK h1,bj,bj];grind
theorem Gm(h0:u k≠0):eF (kT E r u k) (r+1) n u:=((eF.row (show r<r+1 by omega)).mul (u k)).congr fun t _=>by
 unfold kT;rw[if_pos rfl,Rat.div_mul_cancel h0]
theorem qO(h0:u k≠0)(i:Nat)(hi:i<r):eF (kT E r u k) (r+1) n (E i):=((eF.row (show i<r+1 by omega)).add (Gm h0) (E i k / u k)).congr fun t _=>by
 unfold kT;rw[aK (by omega),bj,bj];grind
theorem BO(h0:u k≠0)(hu:∀t,t<n->u t=l7 E p r v n t)(hl:∀i,i<r->p i<n):eF (kT E r u k) (r+1) n v:=by
 have h1:eF (jk E r u) (r+1) n v:=by
  refine⟨fun i=>if i=r then 1 else v (p i),fun t ht=>?_⟩;show v t=cY (fun i=>(if i=r then 1 else v (p i))*jk E r u i t) r+(if r=r then 1 else v (p r))*jk E r u r t;rw[if_pos rfl,cK (g:=fun i=>v (p i)*E i t) fun i hi=>by unfold jk;rw[aK (by omega),aK (by omega)]];unfold jk;rw[if_pos rfl,hu t ht];unfold l7;rw[cK (g:=fun i=>v (p i)*E i t) fun i hi=>if_pos (hl i hi)];grind
 refine h1.trans fun i hi=>?_;by_cases h2:i=r
 ·exact(Gm h0).congr fun t _=>by unfold jk;rw[if_pos h2]
 ·exact(qO h0 i (by omega)).congr fun t _=>by unfold jk;rw[aK h2]
end
def lk(row uP:List Rat)(by_:Rat):List Rat:=row.mapIdx (rT (-by_) uP)
theorem sj(row uP:List Rat)(b:Rat):(lk row uP b).length=row.length:=List.length_mapIdx
theorem ya(row uP:List Rat):lk row uP 0=row:=by
 refine bM fun j=>?_;rw[lk,List.getElem?_mapIdx]
 cases row[j]? with
 |none=>rfl
 |some q=>exact congrArg some (by rw[rT,Rat.neg_zero,bH,bX])
def oT(row:List Rat):Nat->Nat->Nat
 |0,k=>k
 |f+1,k=>if row.getD k 0=0 then oT row f (k+1)else k
def sk(row:List Rat)(cols:Nat):Nat:=oT row cols 0
theorem JP{row:List Rat}{k:Nat}:∀(f j:Nat),(∀i,j<=i->i<j+k->row.getD i 0=0)->k<=f->(k<f->row.getD (j+k) 0≠0)->oT row f j=j+k:=by
 induction k with
 |zero=>
  intro f j _ _ h
  cases f with
  |zero=>rfl
  |succ f=>rw[oT,aK (by have:=h (by omega);rwa [bz]at this)];rfl
 |succ k ih=>
  intro f j h0 hf h
  cases f with
  |zero=>omega
  |succ f=>
   rw[oT,if_pos (h0 j (aF _) (by omega)),ih f (j+1) (fun i h1 h2=>h0 i (by omega) (by omega)) (by omega) (fun h1=>by rw[Nat.add_assoc,Nat.add_comm 1 k];exact h (by omega))];omega
theorem Gn{row:List Rat}{cols k:Nat}(h0:∀i,i<k->row.getD i 0=0)(hk:k<=cols)(h:k<cols->row.getD k 0≠0):sk row cols=k:=by
 rw[sk,JP (k:=k) cols 0 (fun i _ h2=>h0 i (by omega)) hk (fun h1=>by rw[aQ];exact h h1),aQ]
abbrev wy:=List (List Rat)×List (Option Nat)×List Nat
def fm(E:List (List Rat))(at_:List (Option Nat))(row:List Rat):Nat->List Rat
 |0=>row
 |k+1=>match at_.getD k none with
  |some j=>lk (fm E at_ row k) (E.getD j []) ((fm E at_ row k).getD k 0)
  |none=>fm E at_ row k
theorem hJ(E:List (List Rat))(at_:List (Option Nat))(row:List Rat):∀k,(fm E at_ row k).length=row.length
 |0=>rfl
 |k+1=>by
  rw[fm];split
  ·rw[sj,hJ E at_ row k]
  ·exact hJ E at_ row k
def gK(E:List (List Rat))(u:List Rat)(p i:Nat):List (List Rat):=E.mapIdx fun j r=>if j<i then lk r u (r.getD p 0)else r
def kB(cols:Nat)(s:wy)(i:Nat)(row:List Rat):wy:=
 let r:=fm s.1 s.2.1 row cols
 let p:=sk r cols
 if p=cols then s else
  let u:=r.map (· / r.getD p 0)
  (gK s.1 u p s.1.length++[u],s.2.1.set p (some s.1.length),s.2.2++[i])
def gq(M:List (List Rat))(cols:Nat):Nat->wy
 |0=>([],List.replicate cols none,[])
 |i+1=>kB cols (gq M cols i) i (M.getD i [])
def dC(s:wy):Nat->List (List Rat)×List Nat×List Nat
 |0=>([],[],[])
 |k+1=>match s.2.1.getD k none with
  |some r=>((dC s k).1++[s.1.getD r []],(dC s k).2.1++[k],(dC s k).2.2++[s.2.2.getD r 0])
  |none=>dC s k
def dR(M:List (List Rat))(cols:Nat):List (List Rat)×List Nat×List Nat:=dC (gq M cols M.length) cols
structure sn(n cols i:Nat)(s:wy):Prop where
 len:fX n s.1
 at_:s.2.1.length=cols
 uP:s.2.2.length=s.1.length
 lt:∀(k r:Nat),s.2.1[k]? =some (some r)->r<s.1.length
 le:s.1.length<=i
 fr:∀j∈s.2.2,j<i
theorem fq(E:List (List Rat))(u:List Rat)(p i:Nat):(gK E u p i).length=E.length:=List.length_mapIdx
theorem FY(E:List (List Rat))(u:List Rat)(p:Nat):gK E u p 0=E:=by
 refine bM fun j=>?_;rw[gK,List.getElem?_mapIdx]
 cases E[j]? <;>rfl
theorem Dp{u:List Rat}{p i:Nat}(h:E[i]? =some r):(gK E u p i)[i]? =some r:=by
 rw[gK,List.getElem?_mapIdx,h];exact congrArg some (aK (Nat.lt_irrefl i))
theorem yb{u:List Rat}{p i:Nat}(h:E[i]? =some r):gK E u p (i+1)=(gK E u p i).set i (lk r u (r.getD p 0)):=by
 refine bM fun j=>?_;have hi:=(aD.1 h).1;by_cases hj:i=j
 ·subst hj;rw[aW (by rw[fq];exact hi),gK,List.getElem?_mapIdx,h];exact congrArg some (if_pos (bY i))
 ·rw[aX hj,gK,gK,List.getElem?_mapIdx,List.getElem?_mapIdx]
  cases E[j]? with
  |none=>rfl
  |some r=>
   have e:(j<i+1)↔(j<i):=by omega
   simp only[Option.map_some,e]
theorem Ho{u:List Rat}{p i n:Nat}(h:fX n E):fX n (gK E u p i):=fun r hr=>by
 obtain⟨j,hj⟩:=aU hr;rw[gK,List.getElem?_mapIdx]at hj
 cases hE:E[j]? with
 |none=>rw[hE]at hj;cases hj
 |some x=>
  rw[hE]at hj;have hx:=h x (aC hE);simp only[Option.map_some,Option.some.injEq]at hj;subst hj;split
  ·rw[sj];exact hx
  ·exact hx
theorem sn.start(n cols:Nat):sn n cols 0 ([],List.replicate cols none,[]):=
 ⟨(fun r hr=>by cases hr),bC ..,rfl,(fun (k r:Nat) h=>by rw[List.getElem?_replicate]at h;split at h<;>cases h),aF _,fun j hj=>by cases hj⟩
theorem sn.step{n cols i:Nat}{s:wy}(h:sn n cols i s){row:List Rat}(hr:row.length=n):sn n cols (i+1) (kB cols s i row):=by
 unfold kB;dsimp only
 split
 ·exact⟨h.len,h.at_,h.uP,h.lt,Nat.le_succ_of_le h.le,fun j hj=>Nat.lt_succ_of_lt (h.fr j hj)⟩
 ·refine⟨fun r hm=>?_,by simp[h.at_],by simp[h.uP,fq],fun k r hk=>?_,?_,fun j hj=>?_⟩
  ·rcases bG.1 hm with hm|hm
   ·exact Ho h.len r hm
   ·rw[aw]at hm;subst hm;rw[aJ,hJ,hr]
  ·dsimp only at hk ⊢;rw[List.length_append,fq,List.length_singleton];rw[List.getElem?_set]at hk;split at hk
   ·split at hk
    ·injection hk with hk;injection hk with hk;omega
    ·cases hk
   ·have:=h.lt k r hk;omega
  ·dsimp only
   rw[List.length_append,fq,List.length_singleton];have:=h.le;omega
  ·rcases bG.1 hj with hj|hj
   ·exact Nat.lt_succ_of_lt (h.fr j hj)
   ·rw[aw]at hj;omega
theorem yc{M:List (List Rat)}{n:Nat}(cols:Nat)(hM:fX n M):∀i,i<=M.length->sn n cols i (gq M cols i)
 |0,_=>sn.start n cols
 |i+1,hi=>by
  have hm:=aB (l:=M) (show i<M.length by omega);refine(yc cols hM i (by omega)).step ?_;rw[List.getD,hm];exact hM _ (aC hm)
structure fM where
 nodes:List (Int×Int×Int)
 bars:List (Int×Int×Rat)
 cU:List (Int×Int×Rat)
def fM.cols(f:fM):Nat:=f.bars.length+f.cU.length
def fM.node(f:fM)(n:Int):Int×Int×Int:=f.nodes.getD n.toNat (0,0,0)
def r8(f:fM)(b:Int×Int×Rat):List Int:=[(f.node b.2.1).1-(f.node b.1).1,(f.node b.2.1).2.1-(f.node b.1).2.1,(f.node b.2.1).2.2-(f.node b.1).2.2]
def so(M:List (List Int))(r c:Nat)(d:Int):List (List Int):=M.set r ((M.getD r []).set c ((M.getD r []).getD c 0+d))
def putAt(M:List (List Int))(r c:Nat)(d:Int):List (List Int):=M.set r ((M.getD r []).set c d)
def eQ(f:fM)(M:List (List Int))(i:Nat):Nat->List (List Int)
 |0=>M
 |k+1=>
  let b:=f.bars.getD i (0,0,0)
  let d:=(r8 f b).getD k 0
  so (so (eQ f M i k) (3*b.1+k).toNat i d) (3*b.2.1+k).toNat i (-d)
def df(f:fM):Nat->List (List Int)
 |0=>List.replicate (3*f.nodes.length) (List.replicate f.cols 0)
 |i+1=>eQ f (df f i) i 3
def eu(f:fM):Nat->List (List Int)
 |0=>df f f.bars.length
 |i+1=>
  let s:=f.cU.getD i (0,0,0)
  putAt (eu f i) (3*s.1+s.2.1).toNat (f.bars.length+i) 1
def fD(f:fM):List (List Int):=eu f f.cU.length
def cd(l:List Int):List Rat:=l.map fun(n:Int)=>(n:Rat)
def cP(f:fM):List (List Rat):=(fD f).map cd
def eK(M:List (List Rat))(cols:Nat):List (List Rat):=(List.range cols).map fun k=>M.map fun r=>r.getD k 0
abbrev Ld:=Int×Int×Int×Int
def Gp(s:List Int)(r:Nat)(d:Int):List Int:=s.set r (s.getD r 0+d)
def cZ(l:List Rat)(b:Rat):List Rat:=l.map (· *b)
def ew(a b:List Rat):List Rat:=a.mapIdx fun i x=>x*b.getD i 0
def cX(f:fM):List Rat:=f.bars.map (·.2.2)++f.cU.map (·.2.2)
def jl(M:List (List Rat))(b:List Rat):List (List Rat):=M.mapIdx fun i r=>r++[b.getD i 0]
def k7(M:List (List Rat))(cols:Nat):List (List Rat):=eP (dR M cols).1 (dR M cols).2.1 cols cols
def nZ(M:List (List Rat))(b:List Rat)(cols:Nat):Option (List Rat):=
 let e:=dR (jl M b) (cols+1)
 if cols∈e.2.1 then none else some (fp e.1 e.2.1 cols e.2.1.length)
def eU(st:List (List Rat))(fl:List Rat):List (List Rat):=st.map fun s=>st.map fun r=>fI (ew s fl) r s.length
def gZ(st:List (List Rat))(fl x:List Rat):List Rat:=st.map fun s=> -(fI (ew s fl) x s.length)
def lF(st:List (List Rat))(c x:List Rat):Nat->List Rat
 |0=>x
 |i+1=>(lF st c x i).mapIdx fun k q=>q+c.getD i 0*(st.getD i []).getD k 0
def fY:fM:=⟨[(0,0,0),(0,0,4),(3,0,0)],[(0,2,1),(1,2,1)],[(0,0,0),(0,1,0),(0,2,0),(1,0,0),(1,1,0),(1,2,0),(2,1,0)]⟩
def Ib(B:Nat)(q:Rat):Prop:=∃z:Int,q=(z:Rat)∧z.natAbs<=B
theorem Ib.mono(h:Ib B q)(k:B<=C):Ib C q:=let⟨z,e,b⟩:=h;⟨z,e,ah b k⟩
theorem Ib.add(h:Ib B p)(k:Ib C q):Ib (B+C) (p+q):=by
 obtain⟨z,rfl,b⟩:=h;obtain⟨y,rfl,c⟩:=k;exact⟨z+y,by rw[Rat.intCast_add],by omega⟩
theorem Ib.mul(h:Ib B p)(k:Ib C q):Ib (B*C) (p*q):=by
 obtain⟨z,rfl,b⟩:=h;obtain⟨y,rfl,c⟩:=k;exact⟨z*y,by rw[Rat.intCast_mul],by rw[Int.natAbs_mul];exact Nat.mul_le_mul b c⟩
theorem Ib.neg(h:Ib B p):Ib B (-p):=by
 obtain⟨z,rfl,b⟩:=h;exact⟨-z,by rw[Rat.intCast_neg],by omega⟩
theorem Ib.sub(h:Ib B p)(k:Ib C q):Ib (B+C) (p-q):=by rw[Rat.sub_eq_add_neg];exact h.add k.neg
theorem Ib.zero(B:Nat):Ib B 0:=⟨0,rfl,aO _⟩
theorem Ib.one(h:1<=B):Ib B 1:=⟨1,rfl,h⟩
theorem Ib.int{z:Int}(h:z.natAbs<=B):Ib B (z:Rat):=⟨z,rfl,h⟩
theorem Ib.sum{B:Nat}{f:Nat->Rat}:∀(n:Nat),(∀k,k<n->Ib B (f k))->Ib (n*B) (cY f n)
 |0,_=>Ib.zero _
 |n+1,h=>by rw[cY,Nat.succ_mul];exact(Ib.sum n fun k hk=>h k (by omega)).add (h n (by omega))
def fB(B:Nat):Nat->Nat
 |0=>1
 |n+1=>(n+1)*(B*fB B n)
theorem Ib.rY{k:Nat}(h:Ib B q):Ib B (rY k*q):=by
 unfold Go.Ex.rY;split
 ·rw[show (-1:Rat)*q= -q by grind];exact h.neg
 ·rw[bw];exact h
theorem Ib.det{B:Nat}:∀(n:Nat) {m:Mx},(∀i j,i<n->j<n->Ib B (m i j))->Ib (fB B n) (fk n m)
 |0,_,_=>Ib.one (aF _)
 |n+1,m,h=>by
  unfold fk fB;exact Ib.sum (n+1) fun k hk=>((h 0 k (by omega) hk).mul (Ib.det n fun i j hi hj=>h (i+1) (skip k j) (by omega) (Gj hj))).rY
theorem Gq(B n:Nat):B*fB B n<=fB B (n+1):=Nat.le_mul_of_pos_left _ (Nat.succ_pos n)
theorem LW(h:1<=B)(n:Nat):fB B n<=fB B (n+1):=ah (Nat.le_mul_of_pos_left _ h) (Gq B n)
theorem qP{B a:Nat}(h:1<=B):∀{b:Nat},a<=b->fB B a<=fB B b
 |0,k=>by rw[Nat.le_zero.1 k];exact aF _
 |b+1,k=>by
  rcases aP b a with h1|h1
  ·rw[show a=b+1 by omega];exact aF _
  ·exact ah (qP h h1) (LW h b)
theorem MN{B R:Nat}:∀{n:Nat},n<=R->fB B n<=(R*B)^n
 |0,_=>aF _
 |n+1,h=>by
  rw[fB,Nat.pow_succ,<-bh,bW _ (R*B)];exact Nat.mul_le_mul (Nat.mul_le_mul_right B h) (MN (by omega))
theorem MO{R l n:Nat}(hn:n<=R)(h:R*B<=wt l):ln (fB B n)<=l*n+1:=by
 rw[gQ,ir];have h1:=ah (MN (B:=B) hn) (Nat.pow_le_pow_left h n);rw[uW,<-Nat.pow_mul]at h1;have h2:=uW (l*n);have h3:=yM (l*n);rw[show 32*l*n=32*(l*n) by rw[bh]]at h1;omega
theorem xc{K:Nat}{D:Rat}(h0:D≠0)(hD:Ib K D)(hq:Ib K (D*q)):rl q<=ln K:=by
 obtain⟨d,rfl,b⟩:=hD;obtain⟨z,e,c⟩:=hq;have hd:d≠0:=fun e=>h0 (by rw[e];rfl);have e2:q=Rat.divInt z d:=by
  rw[Rat.divInt_eq_div,<-e,bj,bg (d:Rat) q,Rat.mul_assoc,Rat.mul_inv_cancel _ h0,Rat.mul_one]
 have:=js (a:=z) hd;have:=fG b;have:=fG c;rw[e2];omega
theorem Hr{n r:Nat}(h:r<n):fk n (gP m r fun _=>0)=0:=by
 have h1:=mo 1 n r m h (fun _=>0) fun _=>0;rw[show (fun _:Nat=>(0:Rat)+1*0)=fun _=>0 from funext fun _=>by grind]at h1;grind
theorem yf{n r:Nat}{m:Mx}(h:r<n)(c:Nat->Rat)(v:Nat->Nat->Rat):∀s,fk n (gP m r fun j=>cY (fun k=>c k*v k j) s)=cY (fun k=>c k*fk n (gP m r (v k))) s
 |0=>Hr h
 |s+1=>by
  have h1:=mo (c s) n r m h (fun j=>cY (fun k=>c k*v k j) s) (v s);rw[yf h c v s]at h1;exact h1
theorem Gr{n b:Nat}(hb:b<n)(Pg:a<b)(he:∀j,j<n->m a j=m b j):fk n m=0:=by
 obtain⟨b,rfl⟩:∃k,b=k+1:=⟨b-1,by omega⟩
 cases a with
 |zero=>exact nY b n m hb he
 |succ a=>
  have h1:=Hk (m:=m) (k:=a) (n:=n) (by omega);rw[nY b n _ hb fun j hj=>?_]at h1
  ·grind
  ·rw[show kk 0 (a+1) 0=a+1 by unfold kk;rw[if_pos rfl],show kk 0 (a+1) (b+1)=b+1 by unfold kk;rw[aK (by omega),aK (by omega)]];exact he j hj
theorem Dq{n b:Nat}(ha:a<n)(hb:b<n)(Pg:a≠b)(he:∀j,j<n->m a j=m b j):fk n m=0:=by
 rcases Nat.lt_or_gt_of_ne Pg with h|h
 ·exact Gr hb h he
 ·exact Gr ha h fun j hj=>(he j hj).symm
section
variable{E Z:Mx}{p:Nat->Nat}{r n:Nat}{v:Nat->Rat}
theorem Ru.coeff(h:Ru E p r n)(hv:eF E r n v):∀t,t<n->v t=cY (fun i=>v (p i)*E i t) r:=by
 obtain⟨c,hc⟩:=hv;intro t ht;rw[hc t ht];refine cK fun i hi=>?_;rw[hc (p i) (h.lt i hi),ec hi fun k hk OG=>by rw[h.unit i k hi hk,aK OG,bD],h.unit i i hi hi,if_pos rfl,Rat.mul_one]
def ss(Z:Mx)(p:Nat->Nat)(r:Nat):Rat:=fk r fun j i=>Z (r-1-i) (p (r-1-j))
theorem Mi(h:Ru E p r n)(hZ:∀i,i<r->eF E r n (Z i)){k t:Nat}(hk:k<r)(ht:t<n):
  ss Z p r*E k t=fk r (gP (fun j i=>Z (r-1-i) (p (r-1-j))) (r-1-k) fun i=>Z (r-1-i) t):=by
 have e:∀i j,i<r->j<r->gP (fun j i=>Z (r-1-i) (p (r-1-j))) (r-1-k) (fun i=>Z (r-1-i) t) i j=gP (fun j i=>Z (r-1-i) (p (r-1-j))) (r-1-k) (fun i=>cY (fun j=>E j t*Z (r-1-i) (p j)) r) i j:=fun i j hi hj=>by
  unfold gP;split
  ·show Z (r-1-j) t=cY (fun l=>E l t*Z (r-1-j) (p l)) r;rw[h.coeff (hZ (r-1-j) (by omega)) t ht];exact cK fun l _=>bg _ _
  ·rfl
 rw[iT e,yf (v:=fun k i=>Z (r-1-i) (p k)) (by omega),ec hk fun j hj OG=>?_]
 ·rw[show gP (fun j i=>Z (r-1-i) (p (r-1-j))) (r-1-k) (fun i=>Z (r-1-i) (p k))=fun j i=>Z (r-1-i) (p (r-1-j))from ?_]
  ·rw[ss,bg]
  ·funext i j
   unfold gP;split
   ·rename_i hi;rw[hi,show r-1-(r-1-k)=k by omega]
   ·rfl
 ·rw[Dq (a:=r-1-k) (b:=r-1-j) (by omega) (by omega) (by omega) fun i hi=>?_,bD];unfold gP;rw[if_pos rfl,aK (by omega)];show Z (r-1-i) (p j)=Z (r-1-i) (p (r-1-(r-1-j)));rw[show r-1-(r-1-j)=j by omega]
theorem Mj(h:Ru E p r n)(hZ:∀i,i<r->eF E r n (Z i)){t:Nat}(ht:t<n):
  fk (r+1) (fun j i=>if j=0 then Z (r-i) t else Z (r-i) (p (r-j)))=l7 E p r (Z r) n t*ss Z p r:=by
 obtain⟨m,hm⟩:∃m:Mx,m=fun j i=>if j=0 then Z (r-i) t else Z (r-i) (p (r-j)):=⟨_,rfl⟩
 obtain⟨w,hw⟩:∃w:Nat->Rat,w=fun i=>if i=0 then l7 E p r (Z r) n t else 0:=⟨_,rfl⟩
 rw[<-hm];have OH:∀j,j<r->∀i,m (r-j) i=Z (r-i) (p j):=fun j hj i=>by rw[hm];simp only;rw[aK (by omega),show r-(r-j)=j by omega]
 have e:∀i j,i<r+1->j<r+1->m i j=gP m 0 (fun i=>w i+1*cY (fun j=>E j t*m (r-j) i) r) i j:=fun i j hi hj=>by
  unfold gP;split
  ·rename_i h0;subst h0;show m 0 j=w j+1*cY (fun l=>E l t*m (r-l) j) r;rw[cK (g:=fun l=>E l t*Z (r-j) (p l)) fun l hl=>by rw[OH l hl],bw,hw];simp only
   by_cases Ud:j=0
   ·rw[if_pos Ud,Ud,hm];simp only[if_pos,Nat.sub_zero]
    unfold l7;rw[cK (f:=fun i=>if p i<n then Z r (p i)*E i t else 0) (g:=fun i=>E i t*Z r (p i)) fun l hl=>by rw[if_pos (h.lt l hl),bg]];grind
   ·rw[aK Ud,Rat.zero_add,hm];simp only[if_pos]
    rw[h.coeff (hZ (r-j) (by omega)) t ht];exact cK fun l _=>bg _ _
  ·rfl
 rw[iT e,mo 1 (r+1) 0 m (by omega),yf (v:=fun k i=>m (r-k) i) (by omega),cK (g:=fun _=>0) fun j hj=>?_,di,bD,bX]
 ·rw[fk,ec (i:=0) (by omega) fun k hk OG=>?_]
  ·unfold gP;rw[if_pos rfl,hw];simp only[if_pos]
   rw[show rY 0=1 by decide,bw,ss,iT fun i j hi hj=>?_];rw[aK (by omega),hm];simp only
   rw[aK (by omega),show skip 0 j=j+1 by unfold skip;rw[aK (by omega)],show r-(j+1)=r-1-j by omega,show r-(i+1)=r-1-i by omega]
  ·unfold gP;rw[if_pos rfl,hw];simp only
   rw[aK OG,bH,bD]
 ·rw[Dq (a:=0) (b:=r-j) (by omega) (by omega) (by omega) fun i _=>?_,bD];unfold gP;rw[if_pos rfl,aK (by omega)]
theorem LX(d:Rat)(k t:Nat):l7 E p r (fun t=>d*v t) k t=d*l7 E p r v k t:=by
 unfold l7;rw[cK (g:=fun i=>d*if p i<k then v (p i)*E i t else 0) fun i _=>?_,e9]
 ·grind
 ·split
  ·rw[Rat.mul_assoc]
  ·rw[bD]
theorem LY(h:Ru E p r n){x:Nat->Rat}(hx:eF E r n fun t=>v t+ -(x t))(h0:∀i,i<r->x (p i)=0){t:Nat}(ht:t<n):x t=l7 E p r v n t:=by
 have h1:=h.coeff hx t ht;unfold l7;rw[cK (g:=fun i=>v (p i)*E i t) fun i hi=>if_pos (h.lt i hi)];rw[cK (g:=fun i=>v (p i)*E i t) fun i hi=>by rw[h0 i hi];grind]at h1;grind
end
structure yg(E:Mx)(p:Nat->Nat)(r n B:Nat)(Z:Mx):Prop where
 ru:Ru E p r n
 sp:∀i,i<r->eF E r n (Z i)
 ib:∀i t,i<r->t<n->Ib B (Z i t)
 nz:ss Z p r≠0
section
variable{E Z:Mx}{p:Nat->Nat}{r n B k:Nat}{v u:Nat->Rat}
theorem yg.start(E Z:Mx)(p:Nat->Nat)(n B:Nat):yg E p 0 n B Z:=
 ⟨⟨fun _ h=>(by omega),fun _ _ h=>(by omega),fun _ _ h=>(by omega),fun _ _ h=>(by omega)⟩,fun _ h=>(by omega),fun _ _ h=>(by omega),by show(1:Rat)≠0;decide⟩
theorem yg.push(h:yg E p r n B Z)(hd:d≠0)(hz:∀t,t<n->Ib B (d*v t))(hu:∀t,t<n->u t=l7 E p r v n t)(hk:k<n)(h0:u k≠0)(hl:∀t,t<k->u t=0):
  yg (kT E r u k) (fun i=>if i=r then k else p i) (r+1) n B fun i t=>if i=r then d*v t else Z i t:=by
 refine⟨h.ru.push hk (fun i hi=>by rw[hu _ (h.ru.lt i hi),Gl h.ru hi]) h0 hl,fun i hi=>?_,fun i t hi ht=>?_,?_⟩
 ·by_cases h1:i=r
  ·exact((BO h0 hu h.ru.lt).mul d).congr fun t _=>by simp only[if_pos h1];rw[bg]
  ·exact((h.sp i (by omega)).trans fun j hj=>qO h0 j hj).congr fun t _=>by simp only[aK h1]
 ·by_cases h1:i=r
  ·simp only[if_pos h1];exact hz t ht
  ·simp only[aK h1];exact h.ib i t (by omega) ht
 ·have hb:=Mj (Z:=fun i t=>if i=r then d*v t else Z i t) h.ru (fun i hi=>(h.sp i hi).congr fun t _=>by simp only[aK (Nat.ne_of_lt hi)]) hk;have e1:ss (fun i t=>if i=r then d*v t else Z i t) p r=ss Z p r:=iT fun i j hi hj=>by simp only;rw[aK (by omega)]
  simp only[if_pos]at hb;rw[LX,<-hu k hk,e1]at hb;have e2:ss (fun i t=>if i=r then d*v t else Z i t) (fun i=>if i=r then k else p i) (r+1)=d*u k*ss Z p r:=by
   rw[<-hb];refine iT fun i j hi hj=>?_;by_cases h1:i=0
   ·subst h1;simp only[if_true]
    rw[if_pos (show r+1-1-0=r by omega),show r+1-1-j=r-j by omega]
   ·simp only[aK h1]
    rw[aK (show ¬r+1-1-i=r by omega),show r+1-1-j=r-j by omega,show r+1-1-i=r-i by omega]
  rw[e2];have OV:∀{a b:Rat},a≠0->b≠0->a*b≠0:=fun ha hb e=>by
   rcases Rat.mul_eq_zero.1 e with h|h
   ·exact ha h
   ·exact hb h
  exact OV (OV hd h0) h.nz
theorem yg.den(h:yg E p r n B Z):Ib (fB B r) (ss Z p r):=Ib.det r fun i j hi hj=>h.ib _ _ (by omega) (h.ru.lt _ (by omega))
theorem yg.ent(h:yg E p r n B Z){i t:Nat}(hi:i<r)(ht:t<n):Ib (fB B r) (ss Z p r*E i t):=by
 rw[Mi h.ru h.sp hi ht];refine Ib.det r fun j l hj hl=>?_;unfold gP;split
 ·exact h.ib _ _ (by omega) ht
 ·exact h.ib _ _ (by omega) (h.ru.lt _ (by omega))
theorem yg.JQ(h:yg E p r n B Z){i t:Nat}(hi:i<r)(ht:t<n):rl (E i t)<=ln (fB B r):=xc h.nz h.den (h.ent hi ht)
theorem yg.l7(h:yg E p r n B Z)(hz:∀t,t<n->Ib B (d*v t))(k:Nat){t:Nat}(ht:t<n):Ib (fB B (r+1)) (d*ss Z p r*l7 E p r v k t):=by
 unfold Go.Ex.l7;rw[show ∀a b c s:Rat,a*b*(c-s)=b*(a*c)-(a*b)*s from fun a b c s=>by grind,<-e9,fB,Nat.succ_mul,Nat.add_comm];refine Ib.sub (by rw[bW B];exact h.den.mul (hz t ht)) (Ib.sum r fun i hi=>?_);split
 ·rw[show ∀a b c s:Rat,a*b*(c*s)=(a*c)*(b*s)from fun a b c s=>by grind];exact(hz _ (h.ru.lt i hi)).mul (h.ent hi ht)
 ·rw[bD];exact Ib.zero _
theorem yg.JR(h:yg E p r n B Z)(hB:1<=B)(hd:d≠0)(hdB:Ib B d)(hz:∀t,t<n->Ib B (d*v t))(k:Nat){t:Nat}(ht:t<n):Go.Ex.rl (Go.Ex.l7 E p r v k t)<=ln (fB B (r+1)):=
 xc (fun e=>by rcases Rat.mul_eq_zero.1 e with e|e;exact hd e;exact h.nz e) ((hdB.mul h.den).mono (Gq B r)) (h.l7 hz k ht)
end
def BP(M:List (List Rat))(n B:Nat):Prop:=∀j,j<M.length->∃d:Rat,d≠0∧Ib B d∧∀t,t<n->Ib B (d*dD M j t)
end Go.Ex
