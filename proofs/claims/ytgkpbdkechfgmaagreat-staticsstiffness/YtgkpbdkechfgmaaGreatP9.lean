/- Texts L14 to X87: lemmas, each with its conditions. -/
import Derived.Test.YtgkpbdkechfgmaaGreatP8
namespace Go.Ex
theorem Nv(s:List (List Rat)×List Nat)(c:Nat):(dm s c).2=s.2∨(dm s c).2=s.2++[c]:=by
 unfold dm;split
 ·dsimp only
  split
  ·exact .inl rfl
  ·exact .inr rfl
 ·exact .inl rfl
theorem jA(M:List (List Rat)):∀c:Nat,(∀p∈((List.range c).foldl dm (M,[])).2,p<c)∧(((List.range c).foldl dm (M,[])).2).Pairwise (· < ·)∧((List.range c).filter fun j=>decide (j∉((List.range c).foldl dm (M,[])).2)).length+((List.range c).foldl dm (M,[])).2.length=c:=by
 intro c
 induction c with
 |zero=>simp
 |succ c ih=>
  rw[bM,List.foldl_append,List.foldl_cons,List.foldl_nil];generalize (List.range c).foldl dm (M,[])=s at*
  obtain⟨h1,h2,h3⟩:=ih;have hc:c∉s.2:=fun h=>by have:=h1 c h;omega
  rcases Nv s c with e|e
  ·rw[e];refine⟨fun p hp=>by have:=h1 p hp;omega,h2,?_⟩;rw[List.filter_append,List.length_append];simp only[List.filter_cons,hc,not_false_eq_true,decide_true,if_true,List.filter_nil,List.length_singleton]
   omega
  ·rw[e];refine⟨fun p hp=>?_,?_,?_⟩
   ·rcases List.mem_append.1 hp with hp|hp
    ·have:=h1 p hp;omega
    ·simp at hp;omega
   ·rw[List.pairwise_append];exact⟨h2,by simp,fun a ha b hb=>by simp at hb;subst hb;exact h1 a ha⟩
   ·rw[List.filter_append,List.length_append];have:(List.range c).filter (fun j=>decide (j∉s.2++[c]))=(List.range c).filter (fun j=>decide (j∉s.2)):=List.filter_congr fun j hj=>by
     have:=List.mem_range.1 hj;have OZ:j≠c:=by omega
     simp[OZ]
    have h0:(([c]:List Nat).filter fun j=>decide (j∉s.2++[c])).length=0:=by simp
    rw[this,List.length_append,List.length_singleton,h0];omega
end Go.Ex
namespace Go.Ex
open Go Go.Sx Go.Proofs
variable{M:List (List Rat)}{qs r:List Rat}{rv:List Value}{n:Nat}{S S' S0:Nat->Prop}{a:Option Addr}{row:Option Nat}{p q:Rat}{v vb:Value}{w w2:World}
section
variable{S S':Nat->Prop}{H:Hp}{nx:Nat}{iv iv':Iv}{B:Nat}{w w' w2:World}{O:Nat->Sx.eE}{v:Value}{M:List (List (Int×Int))}
end
theorem Kk(x y:Rat):x-y+y=x:=by rw[Rat.sub_eq_add_neg,Rat.add_assoc,Rat.neg_add_cancel,bN]
theorem Gz(p q:Rat):p-q=0↔p=q:=by
 constructor
 ·intro h;have:=congrArg (· +q) h;simpa [Kk,Rat.zero_add]using this
 ·intro h;rw[h,Rat.sub_self]
theorem L0:rs (p-q)=0↔p=q:=by rw[lP,Gz]
def fnV(g:Nat):Value:=.func (.func g) #[] #[]
def eh(xs ys:List Rat):Nat->Rat
 |0=>0
 |i+1=>eh xs ys i+xs.getD i 0*ys.getD i 0
theorem s4{xs ys:List Rat}{h:Nat}(hx:∀q∈xs,rl q+1<=h)(hy:∀q∈ys,rl q+1<=h)(h2:2<=h):∀i:Nat,rl (eh xs ys i)<=2*h*i+2
 |0=>by rw[eh];exact aV (by decide:rl 0<=2) (by omega)
 |i+1=>by
  have h3:=s4 hx hy h2 i;have h4:=kz (eh xs ys i) (xs.getD i 0*ys.getD i 0);have h5:=fb (xs.getD i 0) (ys.getD i 0);have h6:=p9 hx h2 i;have h7:=p9 hy h2 i;rw[eh,b9];omega
def qL(w:World)(S:Nat->Prop)(v:Value)(qs:List Rat):Prop:=ie w S S v qs
def nU(w:World)(S:Nat->Prop)(v:Value)(M:List (List Rat)):Prop:=xX w S v M
theorem qL.cJ(h:qL w S v qs)(hk:∀g,S g->w2.heap[g]? =w.heap[g]?):qL w2 S v qs:=ie.cJ h fun g hg=>hk g (hg.elim id id)
theorem qL.cL(h:qL w S v qs)(hk:∀g,S g->S' g):qL w S' v qs:=ie.cL h hk hk
theorem qL.shape(h:qL w S v qs):∃a c,v= .slice a qs.length c:=by
 obtain⟨a,c,h,_⟩:=ie.shape h;exact⟨a,c,h⟩
theorem nU.cJ(h:nU w S v M)(hk:∀g,S g->w2.heap[g]? =w.heap[g]?):nU w2 S v M:=xX.cJ h hk
theorem nU.cL(h:nU w S v M)(hk:∀g,S g->S' g):nU w S' v M:=xX.cL h hk
theorem nU.shape(h:nU w S v M):∃a c,v= .slice a M.length c:=by
 obtain⟨a,c,h,_⟩:=dA.shape (show xX w S v M from h);exact⟨a,c,h⟩
def pL(w:World)(S:Nat->Prop)(rv:List Value)(K:List (List Rat)):Prop:=∀(i:Nat) u r,rv[i]? =some u->K[i]? =some r->qL w S u r
theorem pL.cJ{v:List Value}(h:pL w S v M)(hk:∀g,S g->w2.heap[g]? =w.heap[g]?):pL w2 S v M:=fun i u x h1 h2=>(h i u x h1 h2).cJ hk
theorem pL.cL{v:List Value}(h:pL w S v M)(hk:∀g,S g->S' g):pL w S' v M:=fun i u x h1 h2=>(h i u x h1 h2).cL hk
section
variable{S S':Nat->Prop}{H:Hp}{nx:Nat}{iv iv':Iv}{B:Nat}{w w' w2:World}{O:Nat->Sx.eE}{v:Value}{qs:List Rat}
theorem qL.rel(h:qL w (Cv S B iv) v qs)(r:Rel H nx iv B w O w')(hS:∀g,S g->g<B):qL w' (Cv S B iv) v qs:=h.cJ fun _ hg=>Rel.same r hS hg
theorem qL.dK(h:qL w2 (Nf w' w2) v qs)(hB:B<=w'.heap.size)(hm:(w'.heap.size,w2.heap.size)∈iv):qL w2 (Cv S B iv) v qs:=h.cL fun _ hg=>hg.dK hB hm
end
section
variable{S S':Nat->Prop}{H:Hp}{nx:Nat}{iv iv':Iv}{B:Nat}{w w' w2:World}{O:Nat->Sx.eE}{v:Value}{M:List (List Rat)}
theorem nU.rel(h:nU w (Cv S B iv) v M)(r:Rel H nx iv B w O w')(hS:∀g,S g->g<B):nU w' (Cv S B iv) v M:=h.cJ fun _ hg=>Rel.same r hS hg
theorem nU.cK(h:nU w (Cv S B iv) v M)(r:Rel H nx iv B w O w')(hS:∀g,S g->g<B)(he:Ext w' w2)(hm:∀p,p∈iv->p∈iv'):nU w2 (Cv S B iv') v M:=
 ((h.rel r hS).cJ fun g hg=>he.block g (Rel.old r hS g hg)).cL fun _ hg=>hg.mono hm
theorem nU.dK(h:nU w2 (Nf w' w2) v M)(hB:B<=w'.heap.size)(hm:(w'.heap.size,w2.heap.size)∈iv):nU w2 (Cv S B iv) v M:=h.cL fun _ hg=>hg.dK hB hm
end
section
variable{S S':Nat->Prop}{H:Hp}{nx:Nat}{iv iv':Iv}{B:Nat}{w w' w2:World}{O:Nat->Sx.eE}{v:List Value}{M:List (List Rat)}
theorem pL.rel(h:pL w (Cv S B iv) v M)(r:Rel H nx iv B w O w')(hS:∀g,S g->g<B):pL w' (Cv S B iv) v M:=h.cJ fun _ hg=>Rel.same r hS hg
theorem pL.cK(h:pL w (Cv S B iv) v M)(r:Rel H nx iv B w O w')(hS:∀g,S g->g<B)(he:Ext w' w2)(hm:∀p,p∈iv->p∈iv'):pL w2 (Cv S B iv') v M:=
 ((h.rel r hS).cJ fun g hg=>he.block g (Rel.old r hS g hg)).cL fun _ hg=>hg.mono hm
end
theorem Mp{M:List (List (Int×Int))}(hS:Old S w)(h:fC w S v M)(hf:∀r∈M,Few r)(hn:∀r∈M,r.length<=1000000)(hR:M.length<=1000000):
  eA PG N.wj #[v] w (eL w fun v' w2=>nU w2 (Nf w w2) v' (iu M)):=by
 replace h:=fC.arg h [];obtain⟨a,c,rfl,hc,-⟩:=dA.shape h;refine AN (by simp) ?_;conv=>whnf
 refine⟨M.length,M.length,rfl,rfl,Nat.le_refl _,by omega,by omega,?_⟩;conv=>whnf
 refine⟨List Value×Iv×World,fun z=>⟨[(3,.o (.s 0 0 M.length M.length)),(9,sV a M.length c),(10,iZ M.length),(11,iZ z.1.length)],[(0,.arr T.row (z.1++List.replicate (M.length-z.1.length) (.slice none 0 0)))],1,z.2.1,z.2.2⟩,fun z=>M.length-z.1.length,
  fun z=>z.1.length<=M.length∧dg w.heap.size w z.2.2∧fC z.2.2 (Cv S w.heap.size z.2.1) (.slice a M.length c) M∧pL z.2.2 (Cf w z.2.1) z.1 (iu M)∧∀u∈z.1,u.oneCell'=true,?_,?_⟩
 ·intro O w' r;exact⟨([],[],w'),⟨by simp,r.cS,fC.rel h r hS,fun i u r h=>by simp at h,by simp⟩,Sub.gn [] r⟩
 clear h;rintro⟨rv,iv,w1⟩ ⟨hi,hw,hX,hF,h1c⟩;dsimp only at hi hw hX hF h1c ⊢;conv=>whnf
 refine dG.mk ?_ ?_<;>intro h
 ·have h:rv.length<M.length:=by simpa using h
  obtain⟨x,hx⟩:∃x,M[rv.length]? =some x:=⟨_,aB h⟩
  obtain⟨ad,u,rfl,VH,QV,PU⟩:=dA.load hX hx;obtain⟨a2,c2,rfl⟩:=dA.xn VH;have Pr:=hn x (aD hx);conv=>whnf
  refine⟨ad,rfl,by omega,?_⟩;conv=>whnf
  refine⟨.slice a2 x.length c2,fun O w' r=>?_,?_⟩
  ·have:=Rel.same r hS QV;rw[aF,cM (w:=w1) (w2:=w') (by rw[dD];exact this)];exact PU
  conv=>whnf
  refine cH (cP (Φ:=fun _ w' v w2=>Gv w2 FF w'.heap.size [(w'.heap.size,w2.heap.size)] v x.length (x.map sf)) (fun O w' r=>aBO (Rel.old r hS) (fp.rel VH r hS) (hf x (aD hx)) Pr) ?_);rintro O wa v1 wb r he hb hO;have hON:qL wb (Cf w ((wa.heap.size,wb.heap.size)::iv)) v1 (x.map sf):=(Gv.dK (S:=FF) hO r.cI aI).read;replace hX:=fC.cK (iv':=(wa.heap.size,wb.heap.size)::iv) hX r hS he fun x hx=>aC _ hx;replace hF:=hF.cK (iv':=(wa.heap.size,wb.heap.size)::iv) r (cG w) he fun x hx=>aC _ hx;replace hw:=hw.tr hb;clear r he hb hO VH QV PU;generalize (wa.heap.size,wb.heap.size)::iv=Oa at*
  obtain⟨a3,c3,rfl⟩:=hON.shape;rw[aL]at hON ⊢;conv=>whnf
  refine⟨by omega,?_⟩;conv=>whnf
  refine⟨by simp;omega,(rv++[.slice a3 x.length c3])++List.replicate (M.length-(rv.length+1)) (.slice none 0 0),?_,?_⟩
  ·have h5:M.length-rv.length=(M.length-(rv.length+1))+1:=by omega
   simp[h5,List.replicate_succ]
  conv=>whnf
  refine⟨((rv.length+1:Nat):Int),wo,?_⟩;conv=>whnf
  intro ρ3 w3 r3;have QL:(rv++[Value.slice a3 x.length c3]).length=rv.length+1:=by simp
  refine⟨(rv++[.slice a3 x.length c3],Oa,w3),⟨by dsimp only;rw[QL];exact h,hw.tr r3.cS,fC.rel hX r3 hS,?_,?_⟩,Sub.gn [] r3 ⟨by dsimp only;rw[QL];rfl,trivial⟩ ⟨rfl,rfl,rfl,by dsimp only;rw[QL];rfl,trivial⟩,by dsimp only;rw[QL];omega⟩
  ·intro i u y h1 h2;refine qL.rel ?_ r3 (cG w);rcases aP i rv.length with Sq|Sq
   ·rw[aJ Sq]at h1;exact hF i u y h1 h2
   ·have Ra:i=rv.length:=by have:=(aE.1 h1).1;simp at this;omega
    subst Ra;rw[aM (Nat.le_refl _),bI]at h1;simp only[iu,aN,hx]at h2;simp at h1 h2;subst h1 h2;exact hON
  ·intro u hu;rcases List.mem_append.1 hu with hu|hu
   ·exact h1c u hu
   ·simp at hu;subst hu;rfl
 ·have h:rv.length=M.length:=by
   have:¬rv.length<M.length:=by simpa using h
   omega
  rw[h,bI,List.replicate_zero,List.append_nil];conv=>whnf
  intro ρe we re;refine⟨_,rfl,hw.tr re.cS,?_⟩;have On:=re.nn 0 _ rfl (by intros;simp) (by simp);have Ol:=re.low 0 _ rfl On;have hs:=re.DO (id:=0) (t:=T.row) (n:=M.length) (sz:=1) (cs:=rv) rfl (by omega) (by unfold maxLen;omega) h1c;have VA:(iu M).length=M.length:=by simp[iu]
  refine⟨rv,?_,by rw[VA,h],fun i u x h1 h2=>((hF.rel re (cG w)) i u x h1 h2).cL fun g hg=>Cv.nw hg re⟩;rw[VA];exact hs.cL fun g hg=>.inr (by subst hg;exact Ol)
theorem ko(w:World)(t e:TypeId)(a:Option Addr)(n c n' c':Nat)(h:PG.underlying t=some (.slice e)):
  (binOp .eql t (.slice a n c) (.slice none n' c')).run PG w= .ok (.bool a.isNone) w:=by
 have:∀d,(Op.equalIn (d+1) t (.slice a n c) (.slice none n' c')).run PG w= .ok a.isNone w:=fun d=>by cases a<;>simp[Op.equalIn,run_underlying h]
 simp only[binOp]
 cases a<;>simp[Op.equal,Op.maxDepth,this 9999]
abbrev HF(gm R:Nat):Value:=.slice (some ⟨gm,0,none⟩) R R
def kP(S:Nat->Prop)(B:Nat)(iv:Iv)(gm R:Nat)(rv:List Value)(g:Nat):Prop:=Cv S B iv g∧¬Mb (HF gm R) rv g
structure gG(w:World)(S:Nat->Prop)(B:Nat)(iv:Iv)(gm R n:Nat)(rv:List Value)(M:List (List Rat)):Prop where
 Mf:nD w (kP S B iv gm R rv) (HF gm R) rv n M
 rE:∀g,Mb (HF gm R) rv g->Cv FF B iv g
 rows:rv.length=R
section
variable{S S':Nat->Prop}{H:Hp}{nx gm R n:Nat}{iv iv':Iv}{B:Nat}{w w' w2:World}{O:Nat->Sx.eE}{rv:List Value}{M:List (List Rat)}
theorem gG.cJ(h:gG w S B iv gm R n rv M)(hk:∀g,Cv S B iv g->w2.heap[g]? =w.heap[g]?):gG w2 S B iv gm R n rv M:=
 ⟨h.Mf.cJ fun g hg=>hk g (hg.elim (fun h=>h.1) fun hg=>D3 (h.rE g hg)),h.rE,h.rows⟩
theorem gG.rel(h:gG w S B iv gm R n rv M)(r:Rel H nx iv B w O w')(hS:∀g,S g->g<B):gG w' S B iv gm R n rv M:=h.cJ fun _ hg=>Rel.same r hS hg
theorem gG.mono(h:gG w S B iv gm R n rv M)(hm:∀p,p∈iv->p∈iv'):gG w S B iv' gm R n rv M:=
 ⟨h.Mf.cL fun _ hg=>⟨hg.1.mono hm,hg.2⟩,fun g hg=>(h.rE g hg).mono hm,h.rows⟩
theorem gG.cK(h:gG w S B iv gm R n rv M)(r:Rel H nx iv B w O w')(hS:∀g,S g->g<B)(he:Ext w' w2)(hm:∀p,p∈iv->p∈iv'):gG w2 S B iv' gm R n rv M:=
 ((h.rel r hS).cJ fun g hg=>he.block g (Rel.old r hS g hg)).mono hm
theorem gG.out(h:gG w S B iv gm R n rv M):Cv FF B iv gm:=h.rE gm (.inl rfl)
theorem gG.len(h:gG w S B iv gm R n rv M):M.length=R:=h.Mf.len.symm.trans h.rows
theorem gG.cell(h:gG w S B iv gm R n rv M)(r:Rel H nx iv B w O w'){a:Addr}{x:Value}(hb:Mb (HF gm R) rv a.block)(hc:w.cell? a=some x):w'.cell? a=some x:=by
 rw[cM (Rel.same r (dN B) (h.rE _ hb))];exact hc
theorem c9.beside(h:c9 w2 (Nf w' w2) v q)(hM:gG w S B iv gm R n rv M)(r:Rel H nx iv B w O w'):c9 w2 (kP S0 B ((w'.heap.size,w2.heap.size)::iv) gm R rv) v q:=
 h.cL fun g hg=>by
  rcases hg with hg|hg
  ·exact hg.elim
  ·exact⟨.inr ⟨by have:=r.cI;omega,_,_,aI,hg.1,hg.2⟩,fun hm=>by have:=Rel.old r (dN B) g (hM.rE g hm);omega⟩
theorem c9.BA(h:c9 w2 (Nw (kP S0 B iv gm R rv) w' w2) v q)(hM:gG w S B iv gm R n rv M)(r:Rel H nx iv B w O w'):c9 w2 (kP S0 B ((w'.heap.size,w2.heap.size)::iv) gm R rv) v q:=
 h.cL fun g hg=>by
  rcases hg with hg|hg
  ·exact⟨hg.1.mono fun p hp=>aC _ hp,hg.2⟩
  ·exact⟨.inr ⟨by have:=r.cI;omega,_,_,aI,hg.1,hg.2⟩,fun hm=>by have:=Rel.old r (dN B) g (hM.rE g hm);omega⟩
theorem kP.old(r:Rel H nx iv B w O w')(hS:∀g,S g->g<B):Old (kP S B iv gm R rv) w':=fun g hg=>Rel.old r hS g hg.1
theorem c9.jL(h:c9 w (kP S B iv gm R rv) v q)(r:Rel H nx iv B w O w')(hS:∀g,S g->g<B):c9 w' (kP S B iv gm R rv) v q:=h.cJ fun _ hg=>Rel.same r hS hg.1
theorem c9.pB(h:c9 w (kP S B iv gm R rv) v q)(r:Rel H nx iv B w O w')(hS:∀g,S g->g<B)(he:Ext w' w2)(hm:∀p,p∈iv->p∈iv'):c9 w2 (kP S B iv' gm R rv) v q:=
 ((h.jL r hS).cJ fun g hg=>he.block g (Rel.old r hS g hg.1)).cL fun _ hg=>⟨hg.1.mono hm,hg.2⟩
theorem gG.IS(hM:gG w S B iv gm R n rv M)(r:Rel H nx iv B w O w')(hS:∀g,S g->g<B){i c:Nat}{vi vc vby:Value}{ri rc:List Rat}(hn:n<=maxLen)(hic:i≠c)(TP:rv[i]? =some vi)(hvc:rv[c]? =some vc)(Tc:M[i]? =some ri)(Ut:M[c]? =some rc)
  (PD:c9 w (kP S B iv gm R rv) vby p) (hq:∀q∈ri,rl q<=2000000000) (hqc:∀q∈rc,rl q<=2000000000) (hb:rl p<=2000000000):
  eA PG N.oU #[vi,vby,vc] w' (fun e w2=>e= .returned (.tuple #[])∧w'.grownBy w2 vi.ownBlock∧(∀g,vi.ownBlock=some g->Mb (HF gm R) rv g)∧gG w2 S B ((w'.heap.size,w2.heap.size)::iv) gm R n rv (M.set i (ri.mapIdx (oe p rc)))):=by
 have TD:=hM.rel r hS;obtain⟨css,TQ,Sc,hr3⟩:=TD.Mf.row i _ ri TP Tc;obtain⟨VH,QJ⟩:=TD.Mf.aDu hvc Ut hn;have Qx:∀g,vi.ownBlock=some g->Mb (HF gm R) rv g:=fun g hg=>.inr ⟨_,aD TP,hg⟩;refine(Go.Ex.IS (C:=fun g=>vc.ownBlock=some g) (fun x hx=>TD.Mf.low x (.inr ⟨_,aD hvc,hx⟩)) (kP.old r hS) TQ hr3 Sc (PD.jL r hS) VH QJ (fun x hx RI=>RI.2 (Qx x hx)) (fun x hx RI=>hic (TD.Mf.uF i c _ _ x TP hvc hx RI)) hq hqc hb).mono fun e w8 he=>?_;obtain⟨rfl,Oi,css',hr4,hr5,hr6⟩:=he;have hM3:=TD.Mf.setRow (S':=Nw (kP S B iv gm R rv) w' w8) (kP.old r hS) (fun x hx RI=>hx.2 RI) TP Oi (fun x hx=>.inl hx) ⟨css',hr4,hr5,hr6⟩;refine⟨rfl,Oi,Qx,hM3.cL fun g hg=>?_,fun g hg=>(hM.rE g hg).mono fun p hp=>aC _ hp,hM.rows⟩;rcases hg with hg|hg
 ·exact⟨hg.1.mono fun p hp=>aC _ hp,hg.2⟩
 ·exact⟨.inr ⟨by have:=r.cI;omega,_,_,aI,hg.1,hg.2⟩,fun hm=>by have:=Rel.old r (dN B) g (hM.rE g hm);omega⟩
theorem kP.grown(r:Rel H nx iv B w O w')(hS:∀g,S g->g<B)(hg:w'.grownBy w2 row)(OX:∀g,row=some g->Mb (HF gm R) rv g):∀g,kP S B iv gm R rv g->w2.heap[g]? =w.heap[g]? :=fun g h=>by
 rw[hg.block g (Rel.old r hS g h.1) fun e=>h.2 (OX g e.symm),Rel.same r hS h.1]
theorem gG.base(hM:gG w S B iv gm R n rv M){g:Nat}(h:Mb (HF gm R) rv g):B<=g:=(hM.rE g h).elim (fun h=>h.elim) fun h=>h.1
theorem gG.cS(hM:gG w S B iv gm R n rv M)(r:Rel H nx iv B w O w')(hg:w'.grownBy w2 row)(OX:∀g,row=some g->Mb (HF gm R) rv g):dg B w' w2:=
 dg.grown hg (fun g e=>hM.base (OX g e)) r.cI
structure xW(w:World)(S:Nat->Prop)(B:Nat)(iv:Iv)(gm R n:Nat)(rv:List Value)(M:List (List Rat))(i:Nat)(vb:Value):Prop where
 out:w.ownsRow 0 T.row 1 (HF gm R) R (rv.set i vb)
 was:∃w0,gG w0 S B iv gm R n rv M∧∀g,Cv S B iv g->g≠gm->w.heap[g]? =w0.heap[g]?
theorem xW.cJ{i:Nat}(h:xW w S B iv gm R n rv M i vb)(hk:∀g,Cv S B iv g->w2.heap[g]? =w.heap[g]?):xW w2 S B iv gm R n rv M i vb:=by
 obtain⟨w0,h1,h2⟩:=h.was;exact⟨ownsRow.cJ h.out fun g hg=>by injection hg with hg;subst hg;exact hk _ (D3 h1.out),w0,h1,fun g hg OZ=>(hk g hg).trans (h2 g hg OZ)⟩
theorem gG.aD8(hM:gG w S B iv gm R n rv M)(r:Rel H nx iv B w O w')(hS:∀g,S g->g<B){i:Nat}(hi:i<R):
  ((⟨gm,0,none⟩:Addr).add ((i:Int).toNat*1)).spot=none∧(∀k,k<1->(w'.cell? (((⟨gm,0,none⟩:Addr).add ((i:Int).toNat*1)).add k)).isSome=true∧w'.frozen? (((⟨gm,0,none⟩:Addr).add ((i:Int).toNat*1)).add k)=false)∧
  (∀id b,dM H id=some b->(O id).nil=false->(O id).g≠((⟨gm,0,none⟩:Addr).add ((i:Int).toNat*1)).block)∧
  ∀w4,w4=setCells w' ((⟨gm,0,none⟩:Addr).add ((i:Int).toNat*1)) [vb]->xW w4 S B iv gm R n rv M i vb∧w'.grownBy w4 (some gm):=by
 have TD:=hM.rel r hS;have Oy:(⟨gm,0,none⟩:Addr).add ((i:Int).toNat*1)=⟨gm,i*1,none⟩:=by rw[aF,dP,aW]
 have OX:w'.ownsRow 0 T.row 1 (HF gm R) R rv:=by have:=TD.Mf.out;rwa [hM.rows]at this
 obtain⟨g',e,Oc,Q4,Oi,Oo⟩:=lT (nv:=[vb]) OX rfl (show i<R from hi) rfl (by decide);injection e with e;injection e with e;subst e;rw[G0 (by rw[hM.rows];exact hi)]at Q4;rw[Oy];refine⟨rfl,Oc,Rel.not r (dN B) hM.out,fun w4 hw4=>?_⟩;rw[hw4];exact⟨⟨Q4,w',TD,fun g hg OZ=>Oi.block g (Rel.old r hS g hg) fun e=>OZ (by injection e)⟩,Oi⟩
theorem xW.rel{i:Nat}(h:xW w S B iv gm R n rv M i vb)(r:Rel H nx iv B w O w')(hS:∀g,S g->g<B):xW w' S B iv gm R n rv M i vb:=h.cJ fun _ hg=>Rel.same r hS hg
theorem xW.aD9{i j:Nat}{va:Value}(hH:xW w S B iv gm R n rv M i vb)(r:Rel H nx iv B w O w')(hS:∀g,S g->g<B)(hi:rv[i]? =some va)(hj:rv[j]? =some vb):
  ((⟨gm,0,none⟩:Addr).add ((j:Int).toNat*1)).spot=none∧(∀k,k<1->(w'.cell? (((⟨gm,0,none⟩:Addr).add ((j:Int).toNat*1)).add k)).isSome=true∧w'.frozen? (((⟨gm,0,none⟩:Addr).add ((j:Int).toNat*1)).add k)=false)∧
  (∀id b,dM H id=some b->(O id).nil=false->(O id).g≠((⟨gm,0,none⟩:Addr).add ((j:Int).toNat*1)).block)∧
  ∀w4,w4=setCells w' ((⟨gm,0,none⟩:Addr).add ((j:Int).toNat*1)) [va]->gG w4 S B iv gm R n ((rv.set i vb).set j va) (ef [] M i j)∧(∀g,Mb (HF gm R) ((rv.set i vb).set j va) g↔Mb (HF gm R) rv g)∧w'.grownBy w4 (some gm):=by
 have hHr:=hH.rel r hS;obtain⟨w0,hM,hwas⟩:=hHr.was;have Oy:(⟨gm,0,none⟩:Addr).add ((j:Int).toNat*1)=⟨gm,j*1,none⟩:=by rw[aF,dP,aW]
 have hjR:j<R:=by rw[<-hM.rows];exact(aE.1 hj).1
 obtain⟨g',e,Oc,Q4,Oi,Oo⟩:=lT (nv:=[va]) hHr.out rfl hjR rfl (by decide);injection e with e;injection e with e;subst e;rw[G0 (by rw[bW,hM.rows];exact hjR)]at Q4;rw[Oy];refine⟨rfl,Oc,Rel.not r (dN B) hM.out,fun w4 hw4=>?_⟩;rw[hw4];have RJ:∀g,Mb (HF gm R) ((rv.set i vb).set j va) g↔Mb (HF gm R) rv g:=fun g=>Mb.swap hi hj;have hst2:(setCells w' ⟨gm,j*1,none⟩ [va]).ownsRow 0 T.row 1 (HF gm R) rv.length ((rv.set i vb).set j va):=by rw[hM.rows];exact Q4
 have hsw:=hM.Mf.swap (w2:=setCells w' ⟨gm,j*1,none⟩ [va]) (fun g hg hm=>hg.2 hm) hi hj hst2 fun g hg OZ=>by
  have OZ:g≠gm:=fun e=>OZ (by rw[e];rfl);have hgc:Cv S B iv g:=hg.elim (fun h=>h.1) fun h=>D3 (hM.rE g h);rw[Oi.block g (Rel.old r hS g hgc) (fun e=>OZ (by injection e)),hwas g hgc OZ]
 have UN:∀g,kP S B iv gm R ((rv.set i vb).set j va) g↔kP S B iv gm R rv g:=fun g=>and_congr_right fun _=>not_congr (RJ g);exact⟨⟨hsw.cL fun g hg=>(UN g).2 hg,fun g hg=>hM.rE g ((RJ g).1 hg),by simp[hM.rows]⟩,RJ,Oi⟩
theorem jV.pC(h:jV w S B iv rv n M)(r:Rel H nx iv B w O w')(hS:∀g,S g->g<B){id:Nat}(hH:dM H id=some (.arr T.row rv))(On:(O id).nil=false)(hR:rv.length<=maxLen)(h1:∀u∈rv,u.oneCell'=true):
  gG w' S B (((O id).g,(O id).g+1)::iv) (O id).g rv.length n rv M:=by
 have hm:=h.Mf r hS hH On hR h1;refine⟨hm.cL fun g hg=>⟨hg.1.mono fun p hp=>aC _ hp,hg.2⟩,fun g hg=>?_,rfl⟩;rcases hg with hg|⟨u,hu,hg⟩
 ·injection hg with hg;subst hg;exact .inr ⟨(r.low id _ hH On).1,_,_,aI,Nat.le_refl _,bU _⟩
 ·exact(h.new u hu g hg).mono fun p hp=>aC _ hp
end
theorem ie.take{C:Nat->Prop}{m c:Nat}(h:ie w C S (.slice a m c) qs)(hn:n<=m):ie w C S (.slice a n c) (qs.take n):=by
 obtain⟨css,⟨h0,h1,h2,a',c',e,h3,h4⟩,hf⟩:=h;injection e with e1 e2 e3;subst e1 e2 e3;have hl:(css.take n).length=(qs.take n).length:=by rw[aZ,aZ,hf.1]
 have hq:(qs.take n).length=n:=by rw[aZ];omega
 have Vy:∀(j:Nat) u,(css.take n).flatten[j]? =some u->css.flatten[j]? =some u:=fun j u hu=>by
  have:css.flatten=(css.take n).flatten++(css.drop n).flatten:=by rw[<-List.flatten_append,List.take_append_drop]
  rw[this,aJ (aE.1 hu).1];exact hu
 refine⟨css.take n,⟨by rw[hq];omega,?_,fun u hu=>h2 u ?_,a,c,by rw[hq],by rw[hq];omega,fun j u hu=>h4 j u (Vy j u hu)⟩,hl,fun j cs q k1 k2=>hf.2 j cs q ?_ ?_⟩
 ·rw[eD fun cs hc=>hf.mV cs (bc hc),hl]
 ·obtain⟨j,hj⟩:=aS hu;exact aD (Vy j u hj)
 ·rw[List.getElem?_take]at k1;split at k1;exact k1;cases k1
 ·rw[List.getElem?_take]at k2;split at k2;exact k2;cases k2
theorem aA0{i j:Nat}(hl:fq n M)(hi:i<M.length)(hj:j<M.length):fq n (ef [] M i j):=fun r hr=>by
 unfold ef at hr;rcases bA hr with h1|h1
 ·rcases bA h1 with h2|h2
  ·exact hl r h2
  ·rw[h2];exact hl _ (H4 hj)
 ·rw[h1];exact hl _ (H4 hi)
theorem Mg{k:Nat}(h:M[k]? =some r)(hk:k<n):(tk n (M.take n)).take (k+1)=(tk n (M.take n)).take k++[r.take n]:=by
 rw[List.take_add_one,tk,aN,List.getElem?_take,if_pos hk,h];rfl
theorem gG.pD{B:Nat}{iv:Iv}{gm R k c:Nat}(h:gG w S B iv gm R n rv M)(hk:k<R)(hc:c<n):
  ∃g ck q d1 e1 m1 k1 d2 e2 m2 k2,aC2 w (kP S B iv gm R rv) rv n M gm k c g ck q d1 e1 m1 k1 d2 e2 m2 k2∧Mb (HF gm R) rv g:=by
 obtain⟨gm',g,ck,q,d1,e1,m1,k1,d2,e2,m2,k2,e,hE⟩:=h.Mf.elem (k:=k) (c:=c) (by rw[h.rows];exact hk) hc;injection e with e;injection e with e;subst e;exact⟨g,ck,q,d1,e1,m1,k1,d2,e2,m2,k2,hE,.inr ⟨_,aD hE.rv,rfl⟩⟩
theorem aDa{vm:Value}{R h:Nat}(hS0:Old S w)(TR:xX w S vm M)(OX:∀r∈M,r.length=R)(hnR:n<=R)(hnM:n<=M.length)(hR:R<=1000)(QO:Ht M h)(h2:2<=h)(PN:4^n*h<=800000000):
  eA PG N.En #[vm,.int .i64 n] w (eL w fun v' w2=>c9 w2 (Nf w w2) v' (kx M 0 n)):=by
 have hS:=hS0;have hw:=bR w;obtain⟨am,cm,rfl,Ri,Q9⟩:=dA.shape TR;unfold maxLen at Q9;refine GW (by simp) ?_;conv=>whnf
 refine⟨n,n,rfl,rfl,Nat.le_refl _,by omega,by omega,?_⟩;conv=>whnf
 refine⟨List Value×World×Iv,fun z=>⟨[(0,sV am M.length cm),(1,iZ n),(4,pP 0 0),(5,.o (.s 1 0 n n)),(14,iZ n),(15,.o (.v (.int .i64 (z.1.length:Nat))))],[(1,.arr T.row (z.1++List.replicate (n-z.1.length) (.slice none 0 0))),(0,.box T.eC [.v (.bool false),.v (.slice none 0 0),.v (.bool false),.v (.slice none 0 0)])],2,z.2.2,z.2.1⟩,fun z=>n-z.1.length,
  fun z=>z.1.length<=n∧dg w.heap.size w z.2.1∧jV z.2.1 S w.heap.size z.2.2 z.1 n ((tk n (M.take n)).take z.1.length)∧(∀u∈z.1,u.oneCell'=true),?_,?_⟩
 ·intro O w' r;exact⟨([],w',[]),⟨aO _,hw.tr r.cS,by simpa using jV.nil _ _ _ _ _,by simp⟩,Sub.gn [] r⟩
 clear hw;rintro⟨rv,w1,iv⟩ ⟨hi,hw,hF,h1c⟩;dsimp only at hi hw hF h1c ⊢;conv=>whnf
 refine dG.mk ?_ ?_<;>intro OW
 ·have OW:rv.length<n:=by simpa using OW
  obtain⟨ra,SM⟩:∃r,M[rv.length]? =some r:=⟨_,aB (by omega)⟩
  have UT:=OX ra (aD SM);obtain⟨adx,ux,rfl,Qc,Sb,RI⟩:=dA.load TR SM;obtain⟨aux,cux,rfl,hcux,-⟩:=Qc.shape;conv=>whnf
  refine⟨adx,rfl,by omega,?_⟩;conv=>whnf
  refine⟨.slice aux ra.length cux,rd1 RI hw (hS _ Sb),?_⟩;conv=>whnf
  have Vy:=ie.take (n:=n) (Qc.from (k:=0) (by omega)) (by omega);refine⟨⟨by omega,by omega,by omega⟩,(if (cux:Int)=((0:Nat):Int)then aux else aux.map (·.add (0*4))),n,cux-0,rfl,by omega,by omega,?_⟩;rw[List.drop_zero]at Vy;generalize (if (cux:Int)=((0:Nat):Int)then aux else aux.map (·.add (0*4)))=adp at*
  generalize cux-0=cdp at*
  have hprl:(ra.take n).length=n:=by rw[aZ];omega
  conv=>whnf
  refine cH (cP (Φ:=fun _ w' v w2=>nT w2 S v n (ra.take n)∧∀g,v.ownBlock=some g->w'.heap.size<=g∧g<w2.heap.size) (fun O w' r=>?_) ?_)
  ·have:=IT (w:=w') (oS hS r) (oS hS r) (Vy.cJ fun g hg=>(hw.tr r.cS).block g (hS g (hg.elim id id))) (by omega) (by omega);rw[hprl]at this;exact this
  rintro O Pa v1 PJ r he hb ⟨UC,RR⟩;have Rg:=hF.snoc r hS he (UC.cL fun g hg=>⟨.inl hg,fun e=>by have:=hS g hg;have:=RR g e;have:=r.cI;omega,fun⟨u,hu,e⟩=>(hF.new u hu g e).elim (fun h=>h.elim) fun h=>by have:=hS g hg;omega⟩) RR;rw[<-Mg SM OW]at Rg;replace hw:=hw.tr hb;obtain⟨a3,c3,rfl,-⟩:=UC.form;clear r he hb UC RR hF;generalize (Pa.heap.size,PJ.heap.size)::iv=Od at*
  conv=>whnf
  refine⟨by omega,?_⟩;conv=>whnf
  refine⟨by simp;omega,(rv++[.slice a3 n c3])++List.replicate (n-(rv.length+1)) (.slice none 0 0),?_,?_⟩
  ·have h5:n-rv.length=(n-(rv.length+1))+1:=by omega
   simp[h5,List.replicate_succ]
  conv=>whnf
  refine⟨((rv.length+1:Nat):Int),wo,?_⟩;conv=>whnf
  intro ρ3 w3 r3;have QL:(rv++[Value.slice a3 n c3]).length=rv.length+1:=by simp
  refine⟨(rv++[.slice a3 n c3],w3,Od),⟨by dsimp only;rw[QL];exact OW,hw.tr r3.cS,by dsimp only;rw[QL];exact Rg.rel r3 hS,fun u hu=>?_⟩,Sub.gn [] r3 ⟨by dsimp only;rw[QL];rfl,rfl,trivial⟩ ⟨rfl,rfl,rfl,rfl,rfl,by dsimp only;rw[QL];rfl,trivial⟩,by dsimp only;rw[QL];omega⟩;rcases List.mem_append.1 hu with hu|hu
  ·exact h1c u hu
  ·simp at hu;subst hu;rfl
 have OW:rv.length=n:=aQ hi (by simpa using OW);rw[OW,List.take_of_length_le (by rw[MM,aZ];exact Nat.min_le_left ..)]at hF;rw[OW,bI,List.replicate_zero,List.append_nil];conv=>whnf
 refine cH (cP (Φ:=fun _ w' v w2=>c9 w2 (Nf w' w2) v ((1:Int):Rat)) (fun O w' r=>BB 1 w' (by decide) (by decide)) ?_);rintro O Pa v1 PJ r he hb hn;replace hw:=hw.tr hb;have hO:=hn.lim (rv:=rv) r fun u hu g hg=>hF.new u hu g hg;replace hF:jV PJ S w.heap.size ((Pa.heap.size,PJ.heap.size)::iv) rv n (tk n (M.take n)):=hF.cK r hS he fun x hx=>aC _ hx;clear r he hb hn;generalize (Pa.heap.size,PJ.heap.size)::iv=Od at*
 obtain⟨A0,A1,A2,A3,A4,A5,A6,A7,rfl⟩:=hO.shape;rw[show ((1:Int):Rat)=1 by decide]at hO;conv=>whnf
 have Xv:fq n (tk n (M.take n)):=fun r hr=>by
  obtain⟨x,hx,rfl⟩:=aT.1 hr;rw[aZ,OX x (bc hx)];omega
 have hDht:Ht (tk n (M.take n)) h:=fun r hr q hq=>by
  obtain⟨x,hx,rfl⟩:=aT.1 hr;exact QO x (bc hx) q (bc hq)
 refine⟨Nat×(Nat×List Value×List (List Rat)×Rat)×((Bool×Bool)×(Option Addr×Option Addr)×(Nat×Nat×Nat×Nat))×World×Iv,fun z=>⟨[(5,.o (.v (.slice (some ⟨z.2.1.1,0,none⟩) n n))),(1,iZ n),(4,pP 0 0),(7,pP 2 0),(30,iZ n),(31,iN z.1)],[(2,.box T.eC [.v (.bool z.2.2.1.1.1),.v (.slice z.2.2.1.2.1.1 z.2.2.1.2.2.1 z.2.2.1.2.2.2.1),.v (.bool z.2.2.1.1.2),.v (.slice z.2.2.1.2.1.2 z.2.2.1.2.2.2.2.1 z.2.2.1.2.2.2.2.2)]),(0,.box T.eC [.v (.bool false),.v (.slice none 0 0),.v (.bool false),.v (.slice none 0 0)])],3,z.2.2.2.2,z.2.2.2.1⟩,fun z=>n-z.1,
  fun z=>z.1<=n∧dg w.heap.size w z.2.2.2.1∧gG z.2.2.2.1 S w.heap.size z.2.2.2.2 z.2.1.1 n n z.2.1.2.1 z.2.1.2.2.1∧c9 z.2.2.2.1 (kP FF w.heap.size z.2.2.2.2 z.2.1.1 n z.2.1.2.1) (.agg #[.bool z.2.2.1.1.1,.slice z.2.2.1.2.1.1 z.2.2.1.2.2.1 z.2.2.1.2.2.2.1,.bool z.2.2.1.1.2,.slice z.2.2.1.2.1.2 z.2.2.1.2.2.2.2.1 z.2.2.1.2.2.2.2.2]) z.2.1.2.2.2∧fq n z.2.1.2.2.1∧Ht z.2.1.2.2.1 (4^z.1*h)∧rl z.2.1.2.2.2<=4^z.1*h∧z.2.1.2.2.2*kx z.2.1.2.2.1 z.1 n=kx M 0 n,?_,?_⟩
 ·intro O w' r;have On:=r.nn 1 _ rfl (by intros;simp) (by simp);have hG:=hF.pC r hS (id:=1) rfl On (by unfold maxLen;omega) h1c;rw[OW]at hG;refine⟨(0,((O 1).g,rv,tk n (M.take n),1),((A0,A4),(A1,A5),(A2,A3,A6,A7)),w',((O 1).g,(O 1).g+1)::Od),⟨aO _,hw.tr r.cS,hG,(hO.cJ fun g hg=>Rel.same r (cG w) hg.1).cL fun g hg=>⟨hg.1.mono fun p hp=>aC _ hp,fun hm=>?_⟩,Xv,by rw[Nat.pow_zero,Nat.one_mul];exact hDht,by rw[GA,Nat.pow_zero];omega,by rw[H8,bf]⟩,Sub.pC r (id:=1) (t:=5) rfl rfl ⟨rfl,rfl,trivial⟩ rfl ⟨rfl,rfl,rfl,rfl,rfl,trivial⟩ (by simp[jw,SV.sc,At.sc])⟩;rcases hm with hm|⟨u,hu,hm⟩
  ·injection hm with hm;exact Rel.not r (cG w) hg.1 1 _ rfl On hm
  ·exact hg.2 ⟨u,hu,hm⟩
 clear hw hF hO Xv hDht OW hi h1c;rintro⟨c,⟨gm,rv1,M1,q0⟩,⟨⟨p0,p4⟩,⟨p1,p5⟩,⟨p2,p3,p6,p7⟩⟩,w1,iv⟩ ⟨hc,hw,hM,hO,hlen,Rk,Sd,hD⟩;dsimp only at hc hw hM hO hlen Rk Sd hD ⊢;conv=>whnf
 refine dG.mk ?_ ?_<;>intro PO
 ·have PO:c<n:=by simpa using PO
  have hHb:4^(c+1)*h<=800000000:=aV (Nat.mul_le_mul_right _ (Nat.pow_le_pow_right (by decide) PO)) PN;have SU:4^(c+1)*h=4*(4^c*h):=by rw[Nat.pow_succ,bX (4^c) 4,bj]
  have XG:2<=4^c*h:=aV h2 (Nat.le_mul_of_pos_left _ (Nat.pow_pos (by decide)));rw[SU]at hHb;obtain⟨hh,hhe⟩:∃x,x=4^c*h:=⟨_,rfl⟩
  rw[<-hhe]at Rk Sd XG hHb SU;have hM1l:=hM.len;conv=>whnf
  refine⟨Nat×World×Iv,fun z=>⟨[(5,.o (.v (.slice (some ⟨gm,0,none⟩) n n))),(1,iZ n),(4,pP 0 0),(7,pP 2 0),(30,iZ n),(31,iN c),(8,iN c),(9,iN z.1)],[(2,.box T.eC [.v (.bool p0),.v (.slice p1 p2 p3),.v (.bool p4),.v (.slice p5 p6 p7)]),(0,.box T.eC [.v (.bool false),.v (.slice none 0 0),.v (.bool false),.v (.slice none 0 0)])],3,z.2.2,z.2.1⟩,fun z=>n-z.1,
   fun z=>c<=z.1∧z.1<=n∧dg w.heap.size w z.2.1∧gG z.2.1 S w.heap.size z.2.2 gm n n rv1 M1∧c9 z.2.1 (kP FF w.heap.size z.2.2 gm n rv1) (.agg #[.bool p0,.slice p1 p2 p3,.bool p4,.slice p5 p6 p7]) q0∧∀j,c<=j->j<z.1->cY M1 j c=0,?_,?_⟩
  ·intro O w' r;exact⟨(c,w',iv),⟨Nat.le_refl _,Nat.le_of_lt PO,hw.tr r.cS,hM.rel r hS,hO.jL r (cG w),fun j h1 h2=>by dsimp only at h2;omega⟩,Sub.gn [] r⟩
  clear hw hM hO;rintro⟨k,w2,iv⟩ ⟨TN,hk,hw,hM,hO,hz⟩;dsimp only at TN hk hw hM hO hz ⊢;conv=>whnf
  refine dG.mk ?_ ?_<;>intro OY
  ·have OY:k<n:=by simpa using OY
   obtain⟨gk,cd,qd,d1,d2,d3,d4,d5,d6,d7,d8,Qm,QY⟩:=hM.pD (k:=k) (c:=c) (by omega) (by omega);conv=>whnf
   refine⟨⟨gm,0,none⟩,rfl,by omega,?_⟩;conv=>whnf
   refine⟨_,fun O w' r=>hM.cell r (.inl (by rw[dD];rfl)) Qm.outer,?_⟩;conv=>whnf
   refine⟨⟨gk,0,none⟩,rfl,by omega,?_⟩;conv=>whnf
   refine⟨[.bool d1,.slice d2 d3 d4,.bool d5,.slice d6 d7 d8],rfl,fun O w' r j x hx=>hM.cell r (by rw[dD,dD];exact QY) (Qm.cells j x hx),?_⟩;conv=>whnf
   have RC:=Qm.at_;refine cH (cE hw (fun _ w' v w2=>v= .int .i64 (rs qd)) (fun O w' r=>tN (kP.old r hS) (Qm.DA.jL r hS)) ?_);rintro O QP v11 QZ Pw r he hw h_ rfl;replace hM:=gG.cK hM r hS he (mC h_);replace hO:=c9.pB hO r (cG w) he (mC h_);clear r he;clear Qm QY;conv=>whnf
   refine dG.mk ?_ ?_<;>intro hs
   ·have hs:qd=0:=lP.1 (by simpa using hs);conv=>whnf
    refine⟨((k+1:Nat):Int),wo,?_⟩;conv=>whnf
    intro ρ3 w3 r3;refine⟨(k+1,w3,_),⟨by dsimp only;omega,OY,hw.tr r3.cS,hM.rel r3 hS,hO.jL r3 (cG w),fun j h1 h2=>?_⟩,Sub.gn [] r3,by dsimp only;omega⟩;rcases aP j k with h3|h3
    ·exact hz j h1 h3
    ·rw[show j=k by dsimp only at h2;omega,RC,hs]
   have hs:qd≠0:=fun e=>by rw[lP.2 e]at hs;simp at hs
   rw[<-RC]at hs;clear RC hz;conv=>whnf
   refine dG.mk (fun Vb=>absurd (eq_of_beq Vb) (by omega)) (fun _=>?_);conv=>whnf
   refine dG.mk ?_ ?_<;>intro VX
   ·have VX:k≠c:=fun e=>by rw[e]at VX;simp at VX
    obtain⟨gk,cd,qd,d1,d2,d3,d4,d5,d6,d7,d8,Qm,QY⟩:=hM.pD (k:=k) (c:=c) (by omega) (by omega);obtain⟨gc,ce,qe,e1,e2,e3,e4,e5,e6,e7,e8,Rl,UF⟩:=hM.pD (k:=c) (c:=c) (by omega) (by omega);have hvk:=Qm.rv;have hvc:=Rl.rv;have hgB:w.heap.size<=gm:=hM.base (.inl rfl);have hMbg:∀g,some gm=some g->Mb (HF gm n) rv1 g:=fun g e=>by injection e with e;subst e;exact .inl rfl
    conv=>whnf
    refine cO hτ dZ [.x 0,.x 1,.x 2,.x 3,.x 4,.x 5,.x 6,.x 7,.x 8,.x 9,.x 10,.x 11,.x 12,.x 13,.x 14,.x 15] (by kernel_rfl) (by kernel_rfl) ?_;conv=>whnf
    refine⟨⟨gm,0,none⟩,rfl,by omega,?_⟩;conv=>whnf
    refine⟨_,fun O w' r=>hM.cell r (.inl (by rw[dD];rfl)) Qm.outer,?_⟩;conv=>whnf
    refine⟨⟨gm,0,none⟩,rfl,by omega,?_⟩;conv=>whnf
    refine⟨_,fun O w' r=>hM.cell r (.inl (by rw[dD];rfl)) Rl.outer,?_⟩;conv=>whnf
    refine⟨⟨gm,0,none⟩,rfl,by omega,?_⟩;conv=>whnf
    intro O w' r;obtain⟨x1,x2,x3,x4⟩:=hM.aD8 r hS (i:=c) (vb:=.slice (some ⟨gk,0,none⟩) n cd) PO;replace hw:=hw.tr r.cS;refine⟨x1,x2,x3,fun w4 hw4=>?_⟩;obtain⟨hH,Oi⟩:=x4 w4 hw4;replace hO:=hO.cJ (kP.grown r (cG w) Oi hMbg);replace hw:=hw.tr (dg.grown Oi (fun g e=>by injection e with e;subst e;exact hgB) r.cI);clear r hM x1 x2 x3 x4 hw4 Oi Qm Rl QY UF;conv=>whnf
    refine⟨⟨gm,0,none⟩,rfl,by omega,?_⟩;conv=>whnf
    intro O w' r;obtain⟨x1,x2,x3,x4⟩:=hH.aD9 r hS hvc hvk;replace hw:=hw.tr r.cS;refine⟨x1,x2,x3,fun w6 hw6=>?_⟩;obtain⟨hM,UN,Oi⟩:=x4 w6 hw6;replace hO:=(hO.cJ (kP.grown r (cG w) Oi hMbg)).cL (S':=kP FF w.heap.size Pw gm n ((rv1.set c (.slice (some ⟨gk,0,none⟩) n cd)).set k (.slice (some ⟨gc,0,none⟩) n ce))) fun g hg=>⟨hg.1,fun hm=>hg.2 ((UN g).1 hm)⟩
    replace hw:=hw.tr (dg.grown Oi (fun g e=>by injection e with e;subst e;exact hgB) r.cI);have h0:cY (ef [] M1 c k) c c≠0:=by rw[B9 (by omega) (by omega)];exact hs
    replace Rk:=Rk.swap (i:=c) (j:=k) (by omega) (by omega);have XF: -q0*kx (ef [] M1 c k) c n=kx M 0 n:=by
     rw[MP (Nat.lt_of_le_of_ne TN (Ne.symm VX)) OY (by omega),<-hD];grind
    have Uu:fq n (ef [] M1 c k):=aA0 hlen (by omega) (by omega);have hM2l:=hM.len;clear r hH x1 x2 x3 x4 hw6 Oi UN hvk hvc hs hMbg hD hlen hM1l;generalize (rv1.set c (Value.slice (some ⟨gk,0,none⟩) n cd)).set k (Value.slice (some ⟨gc,0,none⟩) n ce)=rv2 at*
    generalize ef [] M1 c k=M2 at*
    conv=>whnf
    refine cH (cE hw (fun _ w' v w2=>c9 w2 (Nw (kP FF w.heap.size Pw gm n rv2) w' w2) v (-q0)) (fun O w' r=>sT (kP.old r (cG w)) (hO.jL r (cG w))) ?_);rintro O _ _ _ Q1 r he hw h_ hn;have UU:=hn.BA hM r;replace hM:=gG.cK hM r hS he (mC h_);clear r he hn;clear hO;have hql2:rl (-q0)<=hh:=by rw[jB];exact Sd
    obtain⟨C0,C1,C2,C3,C4,C5,C6,C7,rfl⟩:=UU.shape;conv=>whnf
    obtain⟨gf,cf,qf,f1,f2,f3,f4,f5,f6,f7,f8,Td,Wm⟩:=hM.pD (k:=c) (c:=c) (by omega) (by omega);have VI:qf=cY M2 c c:=Td.at_.symm;have Wn:=kU Rk XG c c;rw[<-VI]at Wn h0;have Ps:=fb (-q0) qf;conv=>whnf
    refine cO hτ dZ [.x 0,.x 1,.x 2,.x 3,.x 4,.x 5,.x 6,.x 7,.x 8,.x 9] (by kernel_rfl) (by kernel_rfl) ?_;conv=>whnf
    refine⟨⟨gm,0,none⟩,rfl,by omega,?_⟩;conv=>whnf
    refine⟨_,fun O w' r=>hM.cell r (.inl (by rw[dD];rfl)) Td.outer,?_⟩;conv=>whnf
    refine⟨⟨gf,0,none⟩,rfl,by omega,?_⟩;conv=>whnf
    refine⟨[.bool f1,.slice f2 f3 f4,.bool f5,.slice f6 f7 f8],rfl,fun O w' r j x hx=>hM.cell r (by rw[dD,dD];exact Wm) (Td.cells j x hx),?_⟩;conv=>whnf
    refine cE hw (fun _ w' v w2=>c9 w2 (Nf w' w2) v (-q0*qf)) (fun O w' r=>sU (kP.old r hS) (c9.cL (UU.jL r (cG w)) fun _ hg=>(⟨D3 hg.1,hg.2⟩:kP S _ _ _ _ _ _)) (Td.DA.jL r hS) (by omega) (by omega)) ?_;rintro O _ _ _ RS r he hw h_ hn;have Xw:=hn.beside (S0:=fun _=>False) hM r;replace hM:=gG.cK hM r hS he (mC h_);clear r he hn;clear Td Wm UU;have hO:=Xw;clear Xw;obtain⟨F0,F1,F2,F3,F4,F5,F6,F7,rfl⟩:=hO.shape;conv=>whnf
    refine⟨((c+1:Nat):Int),wo,?_⟩;conv=>whnf
    have QO:=Rk;rw[VI]at h0
    refine⟨Nat×World×Iv,fun z=>⟨[(5,.o (.v (.slice (some ⟨gm,0,none⟩) n n))),(1,iZ n),(4,pP 0 0),(7,pP 2 0),(30,iZ n),(31,iN c),(8,iN c),(10,iN z.1)],[(2,.box T.eC [.v (.bool F0),.v (.slice F1 F2 F3),.v (.bool F4),.v (.slice F5 F6 F7)]),(0,.box T.eC [.v (.bool false),.v (.slice none 0 0),.v (.bool false),.v (.slice none 0 0)])],3,z.2.2,z.2.1⟩,fun z=>n-z.1,
     fun z=>c<z.1∧z.1<=n∧dg w.heap.size w z.2.1∧gG z.2.1 S w.heap.size z.2.2 gm n n rv2 (eo M2 c z.1)∧c9 z.2.1 (kP FF w.heap.size z.2.2 gm n rv2) (.agg #[.bool F0,.slice F1 F2 F3,.bool F4,.slice F5 F6 F7]) (-q0*qf),?_,?_⟩
    ·intro O w' r
     exact⟨(c+1,w',_),⟨bU _,by dsimp only;omega,hw.tr r.cS,by rw[p8 _ _ _ (Nat.le_refl _)];exact hM.rel r hS,hO.jL r (cG w)⟩,
      Sub.gn [] r⟩
    clear hw hM hO;rintro⟨i,w7,iv⟩ ⟨UW,hi,hw,hM,hO⟩;dsimp only at UW hi hw hM hO ⊢;conv=>whnf
    refine dG.mk ?_ ?_<;>intro OW
    ·have OW:i<n:=by simpa using OW
     obtain⟨ri,Tc⟩:∃r,M2[i]? =some r:=⟨_,aB (by omega)⟩
     obtain⟨rc,Ut⟩:∃r,M2[c]? =some r:=⟨_,aB (by omega)⟩
     have Te:(eo M2 c i)[i]? =some ri:=by rw[ky _ _ _ _ (.inr (Nat.le_refl _))];exact Tc
     have Vz:(eo M2 c i)[c]? =some rc:=by rw[ky _ _ _ _ (.inl (Nat.le_refl _))];exact Ut
     obtain⟨gi,cd,qd,d1,d2,d3,d4,d5,d6,d7,d8,Qm,QY⟩:=hM.pD (k:=i) (c:=c) (by omega) (by omega);obtain⟨gc,ce,qe,e1,e2,e3,e4,e5,e6,e7,e8,Rl,UF⟩:=hM.pD (k:=c) (c:=c) (by omega) (by omega);have RC:qd=ri.getD c 0:=by
      rw[<-Qm.at_];unfold cY;rw[show (eo M2 c i).getD i []=ri by simp only[List.getD,Te,Option.getD_some]]
     have TS:qe=cY M2 c c:=by rw[<-Rl.at_,rR (.inl (Nat.le_refl _))]
     have Xx:=QO.at Tc;have Vf:=QO.at Ut;have QV:=p9 Xx (by omega) c;have PU:=kU QO (by omega) c c;rw[<-RC]at QV;rw[<-TS]at PU;have Tf:qe≠0:=TS▸h0;have QL:=pc qd Tf;have Us:=jB (qd / qe);have hvd:=Qm.rv;have hve:=Rl.rv;conv=>whnf
     refine cO hτ dZ [.x 0,.x 1,.x 2,.x 3,.x 4,.x 5,.x 6,.x 7,.x 8,.x 9,.x 10,.x 11,.x 12,.x 13,.x 14,.x 15,.x 16,.x 17,.x 20,.x 21,.x 22,.x 23,.x 18,.x 19,.x 24] (by kernel_rfl) (by kernel_rfl) ?_;conv=>whnf
     refine⟨⟨gm,0,none⟩,rfl,by omega,?_⟩;conv=>whnf
     refine⟨_,fun O w' r=>hM.cell r (.inl (by rw[dD];rfl)) Qm.outer,?_⟩;conv=>whnf
     refine⟨⟨gm,0,none⟩,rfl,by omega,?_⟩;conv=>whnf
     refine⟨_,fun O w' r=>hM.cell r (.inl (by rw[dD];rfl)) Qm.outer,?_⟩;conv=>whnf
     refine⟨⟨gi,0,none⟩,rfl,by omega,?_⟩;conv=>whnf
     refine⟨[.bool d1,.slice d2 d3 d4,.bool d5,.slice d6 d7 d8],rfl,fun O w' r j x hx=>hM.cell r (by rw[dD,dD];exact QY) (Qm.cells j x hx),?_⟩;conv=>whnf
     refine⟨⟨gm,0,none⟩,rfl,by omega,?_⟩;conv=>whnf
     refine⟨_,fun O w' r=>hM.cell r (.inl (by rw[dD];rfl)) Rl.outer,?_⟩;conv=>whnf
     refine⟨⟨gc,0,none⟩,rfl,by omega,?_⟩;conv=>whnf
     refine⟨[.bool e1,.slice e2 e3 e4,.bool e5,.slice e6 e7 e8],rfl,fun O w' r j x hx=>hM.cell r (by rw[dD,dD];exact UF) (Rl.cells j x hx),?_⟩;conv=>whnf
     refine⟨⟨gm,0,none⟩,rfl,by omega,?_⟩;conv=>whnf
     refine⟨_,fun O w' r=>hM.cell r (.inl (by rw[dD];rfl)) Rl.outer,?_⟩;conv=>whnf
     refine cE hw (fun _ w' v w2=>c9 w2 (Nf w' w2) v (qd / qe)) (fun O w' r=>LY (kP.old r hS) (Qm.DA.jL r hS) (Rl.DA.jL r hS) (by omega) (by omega) Tf) ?_;rintro O _ _ _ Rn r he hw h_ hn;have hB:=hn.beside (S0:=S) hM r;replace hM:=gG.cK hM r hS he (mC h_);replace hO:=c9.pB hO r (cG w) he (mC h_);clear r he hn;clear Qm Rl QY UF;obtain⟨J0,J1,J2,J3,J4,J5,J6,J7,rfl⟩:=hB.shape;conv=>whnf
     refine cE hw (fun _ w' v w2=>c9 w2 (Nw (kP S w.heap.size Rn gm n rv2) w' w2) v (-(qd / qe))) (fun O w' r=>sT (kP.old r hS) (hB.jL r hS)) ?_;rintro O _ _ _ XH r he hw h_ hn;have WA:=hn.BA hM r;replace hM:=gG.cK hM r hS he (mC h_);replace hO:=c9.pB hO r (cG w) he (mC h_);clear r he hn;clear hB;obtain⟨K0,K1,K2,K3,K4,K5,K6,K7,rfl⟩:=WA.shape;conv=>whnf
     refine⟨fun O w' r=>?_⟩;refine(hM.IS r hS (by unfold maxLen;omega) (Nat.ne_of_gt UW) hvd hve Te Vz WA (fun q hq=>by have:=Xx q hq;omega) (fun q hq=>by have:=Vf q hq;omega) (by omega)).mono fun e w8 he=>?_;obtain⟨rfl,Oi,Qx,Q2⟩:=he;have PI:=(hw.tr r.cS).tr (hM.cS r Oi Qx);have UU:=hO.cJ (kP.grown r (cG w) Oi Qx);replace UU:=UU.cL (S':=kP FF w.heap.size ((w'.heap.size,w8.heap.size)::XH) gm n rv2) fun _ hg=>⟨hg.1.mono fun p hp=>aC _ hp,hg.2⟩
     refine⟨.tuple #[],_,(w'.heap.size,w8.heap.size)::XH,rfl,r.pE (fun x hx=>Rel.not r (dN _) (hM.rE x (Qx x hx))) Oi,?_⟩;rw[RC,TS,show rc=M2.getD c [] by rw[List.getD,Ut];rfl,rQ Tc UW]at Q2;clear hM hO hw Oi Qx r WA;generalize (w'.heap.size,w8.heap.size)::XH=RD at*
     conv=>whnf
     refine⟨((i+1:Nat):Int),wo,?_⟩;conv=>whnf
     intro ρ3 w3 r3
     exact⟨(i+1,w3,_),⟨by dsimp only;omega,OW,PI.tr r3.cS,Q2.rel r3 hS,UU.jL r3 (cG w)⟩,
      Sub.gn [] r3,by dsimp only;omega⟩
    have OW:i=n:=aQ hi (by simpa using OW);rw[OW]at hM;conv=>whnf
    refine⟨((c+1:Nat):Int),wo,?_⟩;conv=>whnf
    intro ρ3 w3 r3;refine⟨(c+1,(gm,rv2,eo M2 c n,-q0*qf),((F0,F4),(F1,F5),(F2,F3,F6,F7)),w3,_),⟨PO,hw.tr r3.cS,hM.rel r3 hS,hO.jL r3 (cG w),ua Uu,by dsimp only;rw[SU];exact QO.elim XG h0,by dsimp only;rw[SU];omega,?_⟩,Sub.gn [] r3,by dsimp only;omega⟩;dsimp only
    rw[<-XF,tD (M:=M2) Uu (Nat.le_refl n) (by omega) PO h0 (Nat.le_refl n),VI,Rat.mul_assoc]
   have VX:c=k:=by
    have h4:((k:Int)==(c:Int))=true:=by simpa using VX
    have:=eq_of_beq h4;omega
   subst VX;have h0:=hs;clear hs;conv=>whnf
   obtain⟨gf,cf,qf,f1,f2,f3,f4,f5,f6,f7,f8,Td,Wm⟩:=hM.pD (k:=c) (c:=c) (by omega) (by omega);have VI:qf=cY M1 c c:=Td.at_.symm;have Wn:=kU Rk XG c c;rw[<-VI]at Wn h0;have Ps:=fb (q0) qf;conv=>whnf
   refine cO hτ dZ [.x 0,.x 1,.x 2,.x 3,.x 4,.x 5,.x 6,.x 7,.x 8,.x 9] (by kernel_rfl) (by kernel_rfl) ?_;conv=>whnf
   refine⟨⟨gm,0,none⟩,rfl,by omega,?_⟩;conv=>whnf
   refine⟨_,fun O w' r=>hM.cell r (.inl (by rw[dD];rfl)) Td.outer,?_⟩;conv=>whnf
   refine⟨⟨gf,0,none⟩,rfl,by omega,?_⟩;conv=>whnf
   refine⟨[.bool f1,.slice f2 f3 f4,.bool f5,.slice f6 f7 f8],rfl,fun O w' r j x hx=>hM.cell r (by rw[dD,dD];exact Wm) (Td.cells j x hx),?_⟩;conv=>whnf
   refine cE hw (fun _ w' v w2=>c9 w2 (Nf w' w2) v (q0*qf)) (fun O w' r=>sU (kP.old r hS) (c9.cL (hO.jL r (cG w)) fun _ hg=>(⟨D3 hg.1,hg.2⟩:kP S _ _ _ _ _ _)) (Td.DA.jL r hS) (by omega) (by omega)) ?_;rintro O _ _ _ iv31 r he hw h_ hn;have Xw:=hn.beside (S0:=fun _=>False) hM r;replace hM:=gG.cK hM r hS he (mC h_);clear r he hn;clear Td Wm hO;have hO:=Xw;clear Xw;obtain⟨N0,N1,N2,N3,N4,N5,N6,N7,rfl⟩:=hO.shape;conv=>whnf
   refine⟨((c+1:Nat):Int),wo,?_⟩;conv=>whnf
   have QO:=Rk;rw[VI]at h0
   refine⟨Nat×World×Iv,fun z=>⟨[(5,.o (.v (.slice (some ⟨gm,0,none⟩) n n))),(1,iZ n),(4,pP 0 0),(7,pP 2 0),(30,iZ n),(31,iN c),(8,iN c),(10,iN z.1)],[(2,.box T.eC [.v (.bool N0),.v (.slice N1 N2 N3),.v (.bool N4),.v (.slice N5 N6 N7)]),(0,.box T.eC [.v (.bool false),.v (.slice none 0 0),.v (.bool false),.v (.slice none 0 0)])],3,z.2.2,z.2.1⟩,fun z=>n-z.1,
    fun z=>c<z.1∧z.1<=n∧dg w.heap.size w z.2.1∧gG z.2.1 S w.heap.size z.2.2 gm n n rv1 (eo M1 c z.1)∧c9 z.2.1 (kP FF w.heap.size z.2.2 gm n rv1) (.agg #[.bool N0,.slice N1 N2 N3,.bool N4,.slice N5 N6 N7]) (q0*qf),?_,?_⟩
   ·intro O w' r
    exact⟨(c+1,w',_),⟨bU _,by dsimp only;omega,hw.tr r.cS,by rw[p8 _ _ _ (Nat.le_refl _)];exact hM.rel r hS,hO.jL r (cG w)⟩,
     Sub.gn [] r⟩
   clear hw hM hO;rintro⟨i,w7,iv⟩ ⟨UW,hi,hw,hM,hO⟩;dsimp only at UW hi hw hM hO ⊢;conv=>whnf
   refine dG.mk ?_ ?_<;>intro OW
   ·have OW:i<n:=by simpa using OW
    obtain⟨ri,Tc⟩:∃r,M1[i]? =some r:=⟨_,aB (by omega)⟩
    obtain⟨rc,Ut⟩:∃r,M1[c]? =some r:=⟨_,aB (by omega)⟩
    have Te:(eo M1 c i)[i]? =some ri:=by rw[ky _ _ _ _ (.inr (Nat.le_refl _))];exact Tc
    have Vz:(eo M1 c i)[c]? =some rc:=by rw[ky _ _ _ _ (.inl (Nat.le_refl _))];exact Ut
    obtain⟨gi,cd,qd,d1,d2,d3,d4,d5,d6,d7,d8,Qm,QY⟩:=hM.pD (k:=i) (c:=c) (by omega) (by omega);obtain⟨gc,ce,qe,e1,e2,e3,e4,e5,e6,e7,e8,Rl,UF⟩:=hM.pD (k:=c) (c:=c) (by omega) (by omega);have RC:qd=ri.getD c 0:=by
     rw[<-Qm.at_];unfold cY;rw[show (eo M1 c i).getD i []=ri by simp only[List.getD,Te,Option.getD_some]]
    have TS:qe=cY M1 c c:=by rw[<-Rl.at_,rR (.inl (Nat.le_refl _))]
    have Xx:=QO.at Tc;have Vf:=QO.at Ut;have QV:=p9 Xx (by omega) c;have PU:=kU QO (by omega) c c;rw[<-RC]at QV;rw[<-TS]at PU;have Tf:qe≠0:=TS▸h0;have QL:=pc qd Tf;have Us:=jB (qd / qe);have hvd:=Qm.rv;have hve:=Rl.rv;conv=>whnf
    refine cO hτ dZ [.x 0,.x 1,.x 2,.x 3,.x 4,.x 5,.x 6,.x 7,.x 8,.x 9,.x 10,.x 11,.x 12,.x 13,.x 14,.x 15,.x 16,.x 17,.x 20,.x 21,.x 22,.x 23,.x 18,.x 19,.x 24] (by kernel_rfl) (by kernel_rfl) ?_;conv=>whnf
    refine⟨⟨gm,0,none⟩,rfl,by omega,?_⟩;conv=>whnf
    refine⟨_,fun O w' r=>hM.cell r (.inl (by rw[dD];rfl)) Qm.outer,?_⟩;conv=>whnf
    refine⟨⟨gm,0,none⟩,rfl,by omega,?_⟩;conv=>whnf
    refine⟨_,fun O w' r=>hM.cell r (.inl (by rw[dD];rfl)) Qm.outer,?_⟩;conv=>whnf
    refine⟨⟨gi,0,none⟩,rfl,by omega,?_⟩;conv=>whnf
    refine⟨[.bool d1,.slice d2 d3 d4,.bool d5,.slice d6 d7 d8],rfl,fun O w' r j x hx=>hM.cell r (by rw[dD,dD];exact QY) (Qm.cells j x hx),?_⟩;conv=>whnf
    refine⟨⟨gm,0,none⟩,rfl,by omega,?_⟩;conv=>whnf
    refine⟨_,fun O w' r=>hM.cell r (.inl (by rw[dD];rfl)) Rl.outer,?_⟩;conv=>whnf
    refine⟨⟨gc,0,none⟩,rfl,by omega,?_⟩;conv=>whnf
    refine⟨[.bool e1,.slice e2 e3 e4,.bool e5,.slice e6 e7 e8],rfl,fun O w' r j x hx=>hM.cell r (by rw[dD,dD];exact UF) (Rl.cells j x hx),?_⟩;conv=>whnf
    refine⟨⟨gm,0,none⟩,rfl,by omega,?_⟩;conv=>whnf
    refine⟨_,fun O w' r=>hM.cell r (.inl (by rw[dD];rfl)) Rl.outer,?_⟩;conv=>whnf
    refine cE hw (fun _ w' v w2=>c9 w2 (Nf w' w2) v (qd / qe)) (fun O w' r=>LY (kP.old r hS) (Qm.DA.jL r hS) (Rl.DA.jL r hS) (by omega) (by omega) Tf) ?_;rintro O _ _ _ iv32 r he hw h_ hn;have hB:=hn.beside (S0:=S) hM r;replace hM:=gG.cK hM r hS he (mC h_);replace hO:=c9.pB hO r (cG w) he (mC h_);clear r he hn;clear Qm Rl QY UF;obtain⟨O0,O1,O2,O3,O4,O5,O6,O7,rfl⟩:=hB.shape;conv=>whnf
    refine cE hw (fun _ w' v w2=>c9 w2 (Nw (kP S w.heap.size iv32 gm n rv1) w' w2) v (-(qd / qe))) (fun O w' r=>sT (kP.old r hS) (hB.jL r hS)) ?_;rintro O _ _ _ iv33 r he hw h_ hn;have WA:=hn.BA hM r;replace hM:=gG.cK hM r hS he (mC h_);replace hO:=c9.pB hO r (cG w) he (mC h_);clear r he hn;clear hB;obtain⟨P0,P1,P2,P3,P4,P5,P6,P7,rfl⟩:=WA.shape;conv=>whnf
    refine⟨fun O w' r=>?_⟩;refine(hM.IS r hS (by unfold maxLen;omega) (Nat.ne_of_gt UW) hvd hve Te Vz WA (fun q hq=>by have:=Xx q hq;omega) (fun q hq=>by have:=Vf q hq;omega) (by omega)).mono fun e w8 he=>?_;obtain⟨rfl,Oi,Qx,Q2⟩:=he;have PI:=(hw.tr r.cS).tr (hM.cS r Oi Qx);have UU:=hO.cJ (kP.grown r (cG w) Oi Qx);replace UU:=UU.cL (S':=kP FF w.heap.size ((w'.heap.size,w8.heap.size)::iv33) gm n rv1) fun _ hg=>⟨hg.1.mono fun p hp=>aC _ hp,hg.2⟩
    refine⟨.tuple #[],_,(w'.heap.size,w8.heap.size)::iv33,rfl,r.pE (fun x hx=>Rel.not r (dN _) (hM.rE x (Qx x hx))) Oi,?_⟩;rw[RC,TS,show rc=M1.getD c [] by rw[List.getD,Ut];rfl,rQ Tc UW]at Q2;clear hM hO hw Oi Qx r WA;generalize (w'.heap.size,w8.heap.size)::iv33=RD at*
    conv=>whnf
    refine⟨((i+1:Nat):Int),wo,?_⟩;conv=>whnf
    intro ρ3 w3 r3
    exact⟨(i+1,w3,_),⟨by dsimp only;omega,OW,PI.tr r3.cS,Q2.rel r3 hS,UU.jL r3 (cG w)⟩,
     Sub.gn [] r3,by dsimp only;omega⟩
   have OW:i=n:=aQ hi (by simpa using OW);rw[OW]at hM;conv=>whnf
   refine⟨((c+1:Nat):Int),wo,?_⟩;conv=>whnf
   intro ρ3 w3 r3;refine⟨(c+1,(gm,rv1,eo M1 c n,q0*qf),((N0,N4),(N1,N5),(N2,N3,N6,N7)),w3,_),⟨PO,hw.tr r3.cS,hM.rel r3 hS,hO.jL r3 (cG w),ua hlen,by dsimp only;rw[SU];exact QO.elim XG h0,by dsimp only;rw[SU];omega,?_⟩,Sub.gn [] r3,by dsimp only;omega⟩;dsimp only
   rw[<-hD,tD (M:=M1) hlen (Nat.le_refl n) (by omega) PO h0 (Nat.le_refl n),VI,Rat.mul_assoc]
  have OY:k=n:=aQ hk (by simpa using OY);subst OY;conv=>whnf
  refine dG.mk (fun _=>?_) (fun OZ=>by simp at OZ);conv=>whnf
  refine cH (cE hw (fun _ w' v w2=>c9 w2 (Nf w' w2) v ((0:Int):Rat)) (fun O w' r=>BB 0 w' (by decide) (by decide)) ?_);rintro O _ _ _ Pw r he hw h_ hn;have hZ:=hn.dK (S:=FF) r.cI (mN h_);clear r he hn;obtain⟨T0,T1,T2,T3,T4,T5,T6,T7,rfl⟩:=hZ.shape;conv=>whnf
  intro ρe we re;refine⟨_,rfl,hw.tr re.cS,?_⟩;rw[<-hD,MQ PO hz,bB];exact hZ.out re (cG w)
 have PO:c=n:=aQ hc (by simpa using PO);subst PO;rw[E1,Rat.mul_one]at hD;conv=>whnf
 intro ρe we re;refine⟨_,rfl,hw.tr re.cS,?_⟩;rw[<-hD];exact(hO.jL re (cG w)).cL fun g hg=>Cv.nw hg.1 re
end Go.Ex
namespace Go.Sx
open Go Go.Ex Go.Proofs
variable{O:Nat->Sx.eE}
theorem Sub.trans{B nx:Nat}{l:Env}{w':World}{t t2:BT}(h:Sub B l nx O w' t)(k:∀ρ1,Rel t.H t.nx t.iv B t.w ρ1 w'->Sub B t.l t.nx ρ1 w' t2):Sub B l nx O w' t2:=by
 obtain⟨ρ1,r1,e1⟩:=h;obtain⟨ρ2,r2,e2⟩:=k ρ1 r1
 exact⟨ρ2,r2,fun u v hv=>by
  obtain⟨s,v1,g1,d1⟩:=e2 u v hv;obtain⟨_,v0,g0,d0⟩:=e1 u v1 g1
  exact⟨s,v0,g0,d0.trans d1⟩⟩
end Go.Sx
namespace Go.Ex
open Go Go.Sx Go.Proofs
variable{M:List (List Rat)}{cs:List Value}{S:Nat->Prop}
section
variable{S:Nat->Prop}{H:Hp}{nx gm R:Nat}{iv iv':Iv}{B:Nat}{w w' w2:World}{O:Nat->Sx.eE}{rv:List Value}{css:List (List Value)}{qs:List Rat}
theorem Fr.jL(h:Fr w (kP S B iv gm R rv) css qs)(r:Rel H nx iv B w O w')(hS:∀g,S g->g<B):Fr w' (kP S B iv gm R rv) css qs:=h.cJ fun _ hg=>Rel.same r hS hg.1
theorem Fr.pB(h:Fr w (kP S B iv gm R rv) css qs)(r:Rel H nx iv B w O w')(hS:∀g,S g->g<B)(he:Ext w' w2)(hm:∀p,p∈iv->p∈iv'):Fr w2 (kP S B iv' gm R rv) css qs:=
 ((h.jL r hS).cJ fun g hg=>he.block g (Rel.old r hS g hg.1)).cL fun _ hg=>⟨hg.1.mono hm,hg.2⟩
theorem Fr.push(h:Fr w S css qs){q:Rat}(hq:oD w S cs q):Fr w S (css++[cs]) (qs++[q]):=by
 refine⟨by simp[h.1],fun j c x h1 h2=>?_⟩;rcases aP j css.length with hj|hj
 ·rw[aJ hj]at h1;rw[aJ (by rw[<-h.1];exact hj)]at h2;exact h.2 j c x h1 h2
 ·rw[aM hj]at h1;rw[aM (by rw[<-h.1];exact hj),<-h.1]at h2;have:j-css.length=0:=by have:=(aE.1 h1).1;simp at this;omega
  rw[this]at h1 h2;injection h1 with h1;injection h2 with h2;subst h1 h2;exact hq
end
theorem aA1{w:World}{vm:Value}{h:Nat}(hS0:Old S w)(TR:xX w S vm M)(OX:∀r∈M,r.length=M.length)(hR:M.length<=1000)(QO:Ht M h)(h2:2<=h)(PN:4^M.length*h<=800000000):
  eA PG N.wk #[vm] w (eL w fun v' w2=>qL w2 (Nf w w2) v' (fc M)):=by
 have hw:=bR w;have hS:=hS0;obtain⟨am,cm,rfl,Ri,Q9⟩:=dA.shape TR;obtain⟨R,VJ⟩:∃R,R=M.length:=⟨_,rfl⟩
 rw[<-VJ]at Ri Q9 OX hR PN TR ⊢;unfold maxLen at Q9;refine AO (by simp) ?_;conv=>whnf
 refine⟨R,R,rfl,rfl,Nat.le_refl _,by omega,by omega,?_⟩;conv=>whnf
 refine⟨List Value×World×Iv,fun z=>⟨[(0,sV am R cm),(3,sV none 0 0),(4,.o (.s 0 0 R R)),(14,iZ R),(15,.o (.v (.int .i64 (z.1.length:Nat))))],[(0,.arr T.row (z.1++List.replicate (R-z.1.length) (.slice none 0 0)))],1,z.2.2,z.2.1⟩,fun z=>R-z.1.length,
  fun z=>z.1.length<=R∧dg w.heap.size w z.2.1∧jV z.2.1 S w.heap.size z.2.2 z.1 R (M.take z.1.length)∧(∀u∈z.1,u.oneCell'=true),?_,?_⟩
 ·intro O w' r;exact⟨([],w',[]),⟨aO _,hw.tr r.cS,by simpa using jV.nil _ _ _ _ _,by simp⟩,Sub.gn [] r⟩
 clear hw;rintro⟨rv,w1,iv⟩ ⟨hi,hw,hF,h1c⟩;dsimp only at hi hw hF h1c ⊢;conv=>whnf
 refine dG.mk ?_ ?_<;>intro OW
 ·have OW:rv.length<R:=by simpa using OW
  obtain⟨ra,SM⟩:∃r,M[rv.length]? =some r:=⟨_,aB (by omega)⟩
  have UT:=OX ra (aD SM);obtain⟨adx,ux,rfl,Qc,Sb,RI⟩:=dA.load TR SM;obtain⟨aux,cux,rfl,hcux,-⟩:=Qc.shape;conv=>whnf
  refine⟨adx,rfl,by omega,?_⟩;conv=>whnf
  refine⟨.slice aux ra.length cux,rd1 RI hw (hS _ Sb),?_⟩;conv=>whnf
  refine cH (cP (Φ:=fun _ w' v w2=>nT w2 S v R ra∧∀g,v.ownBlock=some g->w'.heap.size<=g∧g<w2.heap.size) (fun O w' r=>?_) ?_)
  ·have:=IT (w:=w') (oS hS r) (oS hS r) (Qc.cJ fun g hg=>(hw.tr r.cS).block g (hS g (hg.elim id id))) (by omega) (by omega);rw[UT]at this ⊢;exact this
  rintro O Pa v1 PJ r he hb ⟨UC,RR⟩;have Rg:=hF.snoc r hS he (UC.cL fun g hg=>⟨.inl hg,fun e=>by have:=hS g hg;have:=RR g e;have:=r.cI;omega,fun⟨u,hu,e⟩=>(hF.new u hu g e).elim (fun h=>h.elim) fun h=>by have:=hS g hg;omega⟩) RR;rw[show M.take rv.length++[ra]=M.take (rv.length+1) by rw[List.take_add_one,SM];rfl]at Rg;replace hw:=hw.tr hb;obtain⟨a3,c3,rfl,-⟩:=UC.form;clear r he hb UC RR hF;generalize (Pa.heap.size,PJ.heap.size)::iv=Od at*
  conv=>whnf
  refine⟨by omega,?_⟩;conv=>whnf
  refine⟨by simp;omega,(rv++[.slice a3 R c3])++List.replicate (R-(rv.length+1)) (.slice none 0 0),?_,?_⟩
  ·have h5:R-rv.length=(R-(rv.length+1))+1:=by omega
   simp[h5,List.replicate_succ]
  conv=>whnf
  refine⟨((rv.length+1:Nat):Int),wo,?_⟩;conv=>whnf
  intro ρ3 w3 r3;have QL:(rv++[Value.slice a3 R c3]).length=rv.length+1:=by simp
  refine⟨(rv++[.slice a3 R c3],w3,Od),⟨by dsimp only;rw[QL];exact OW,hw.tr r3.cS,by dsimp only;rw[QL];exact Rg.rel r3 hS,fun u hu=>?_⟩,Sub.gn [] r3 ⟨by dsimp only;rw[QL];rfl,trivial⟩ ⟨rfl,rfl,rfl,rfl,by dsimp only;rw[QL];rfl,trivial⟩,by dsimp only;rw[QL];omega⟩;rcases List.mem_append.1 hu with hu|hu
  ·exact h1c u hu
  ·simp at hu;subst hu;rfl
 have OW:rv.length=R:=aQ hi (by simpa using OW);rw[OW,List.take_of_length_le (by omega)]at hF;rw[OW,bI,List.replicate_zero,List.append_nil];conv=>whnf
 refine cH (cP (Φ:=fun _ w' v w2=>c9 w2 (Nf w' w2) v ((1:Int):Rat)) (fun O w' r=>BB 1 w' (by decide) (by decide)) ?_);rintro O Pa v1 PJ r he hb hn;replace hw:=hw.tr hb;have hO:=hn.lim (rv:=rv) r fun u hu g hg=>hF.new u hu g hg;replace hF:jV PJ S w.heap.size ((Pa.heap.size,PJ.heap.size)::iv) rv R M:=hF.cK r hS he fun x hx=>aC _ hx;clear r he hb hn;generalize (Pa.heap.size,PJ.heap.size)::iv=Od at*
 obtain⟨A0,A1,A2,A3,A4,A5,A6,A7,rfl⟩:=hO.shape;rw[show ((1:Int):Rat)=1 by decide]at hO;conv=>whnf
 refine⟨Nat×(Nat×List Value×List (List Rat)×Rat)×List (List Value)×((Bool×Bool)×(Option Addr×Option Addr)×(Nat×Nat×Nat×Nat))×World×Iv,fun z=>⟨[(4,.o (.v (.slice (some ⟨z.2.1.1,0,none⟩) R R))),(3,.o (.w 2 z.2.2.1.length)),(0,sV am R cm),(6,pP 1 0),(29,iZ R),(30,iN z.1)],[(2,.vec T.eC 4 z.2.2.1.flatten),(1,.box T.eC [.v (.bool z.2.2.2.1.1.1),.v (.slice z.2.2.2.1.2.1.1 z.2.2.2.1.2.2.1 z.2.2.2.1.2.2.2.1),.v (.bool z.2.2.2.1.1.2),.v (.slice z.2.2.2.1.2.1.2 z.2.2.2.1.2.2.2.2.1 z.2.2.2.1.2.2.2.2.2)])],3,z.2.2.2.2.2,z.2.2.2.2.1⟩,fun z=>R-z.1,
  fun z=>z.1<=R∧dg w.heap.size w z.2.2.2.2.1∧gG z.2.2.2.2.1 S w.heap.size z.2.2.2.2.2 z.2.1.1 R R z.2.1.2.1 z.2.1.2.2.1∧c9 z.2.2.2.2.1 (kP FF w.heap.size z.2.2.2.2.2 z.2.1.1 R z.2.1.2.1) (.agg #[.bool z.2.2.2.1.1.1,.slice z.2.2.2.1.2.1.1 z.2.2.2.1.2.2.1 z.2.2.2.1.2.2.2.1,.bool z.2.2.2.1.1.2,.slice z.2.2.2.1.2.1.2 z.2.2.2.1.2.2.2.2.1 z.2.2.2.1.2.2.2.2.2]) z.2.1.2.2.2∧Fr z.2.2.2.2.1 (kP FF w.heap.size z.2.2.2.2.2 z.2.1.1 R z.2.1.2.1) z.2.2.1 ((fc M).take z.1)∧fq R z.2.1.2.2.1∧Ht z.2.1.2.2.1 (4^z.1*h)∧rl z.2.1.2.2.2<=4^z.1*h∧∀k,z.1<=k->k<=R->z.2.1.2.2.2*kx z.2.1.2.2.1 z.1 k=kx M 0 k,?_,?_⟩
 ·intro O w' r;have On:=r.nn 0 _ rfl (by intros;simp) (by simp);have hG:=hF.pC r hS (id:=0) rfl On (by unfold maxLen;omega) h1c;rw[OW]at hG
  refine⟨(0,((O 0).g,rv,M,1),[],((A0,A4),(A1,A5),(A2,A3,A6,A7)),w',((O 0).g,(O 0).g+1)::Od),⟨aO _,hw.tr r.cS,hG,(hO.cJ fun g hg=>Rel.same r (cG w) hg.1).cL fun g hg=>⟨hg.1.mono fun p hp=>aC _ hp,fun hm=>?_⟩,by simp[Fr],OX,by rw[Nat.pow_zero,Nat.one_mul];exact QO,by rw[GA,Nat.pow_zero];omega,fun k _ _=>bf _⟩,
   Sub.trans (Sub.pC (tl:=[(3,sV none 0 0),(0,sV am R cm),(6,pP 1 0),(29,iZ R),(30,iN 0)]) (tH:=[(1,.box T.eC [.v (.bool A0),.v (.slice A1 A2 A3),.v (.bool A4),.v (.slice A5 A6 A7)])]) r (id:=0) (t:=4) rfl rfl ⟨rfl,trivial⟩ rfl ⟨rfl,rfl,rfl,rfl,rfl,trivial⟩ (by simp[jw,SV.sc,At.sc])) fun ρ1 r1=>
    Sub.nil 3 T.eC 4 rfl (by simp[jw,SV.sc,At.sc]) r1 fun ρ2 r2=>Sub.gn [] r2⟩
  rcases hm with hm|⟨u,hu,hm⟩
  ·injection hm with hm;exact Rel.not r (cG w) hg.1 0 _ rfl On hm
  ·exact hg.2 ⟨u,hu,hm⟩
 clear hw hF hO OW hi h1c;rintro⟨c,⟨gm,rv1,M1,q0⟩,css,⟨⟨p0,p4⟩,⟨p1,p5⟩,⟨p2,p3,p6,p7⟩⟩,w1,iv⟩ ⟨hc,hw,hM,hO,hC,hlen,Rk,Sd,hD⟩;dsimp only at hc hw hM hO hC hlen Rk Sd hD ⊢;have Ok:=eD hC.mV;have hmf:=kV M;have QB:css.length=c:=by rw[hC.1,aZ];omega
 rw[QB]at Ok;conv=>whnf
 refine dG.mk ?_ ?_<;>intro PO
 ·have PO:c<R:=by simpa using PO
  have hHb:4^(c+1)*h<=800000000:=aV (Nat.mul_le_mul_right _ (Nat.pow_le_pow_right (by decide) PO)) PN;have SU:4^(c+1)*h=4*(4^c*h):=by rw[Nat.pow_succ,bX (4^c) 4,bj]
  have XG:2<=4^c*h:=aV h2 (Nat.le_mul_of_pos_left _ (Nat.pow_pos (by decide)));rw[SU]at hHb;obtain⟨hh,hhe⟩:∃x,x=4^c*h:=⟨_,rfl⟩
  rw[<-hhe]at Rk Sd XG hHb SU;have hM1l:=hM.len;obtain⟨gk,cd,qd,d1,d2,d3,d4,d5,d6,d7,d8,Qm,QY⟩:=hM.pD (k:=c) (c:=c) (by omega) (by omega);conv=>whnf
  refine⟨⟨gm,0,none⟩,rfl,by omega,?_⟩;conv=>whnf
  refine⟨_,fun O w' r=>hM.cell r (.inl (by rw[dD];rfl)) Qm.outer,?_⟩;conv=>whnf
  refine⟨⟨gk,0,none⟩,rfl,by omega,?_⟩;conv=>whnf
  refine⟨[.bool d1,.slice d2 d3 d4,.bool d5,.slice d6 d7 d8],rfl,fun O w' r j x hx=>hM.cell r (by rw[dD,dD];exact QY) (Qm.cells j x hx),?_⟩;conv=>whnf
  have RC:=Qm.at_;refine cH (cE hw (fun _ w' v w2=>v= .int .i64 (rs qd)) (fun O w' r=>tN (kP.old r hS) (Qm.DA.jL r hS)) ?_);rintro O _ _ _ Pw r he hw h_ rfl;replace hM:=gG.cK hM r hS he (mC h_);replace hO:=c9.pB hO r (cG w) he (mC h_);replace hC:=Fr.pB hC r (cG w) he (mC h_);clear r he;clear Qm QY;conv=>whnf
  refine dG.mk ?_ ?_<;>intro hs
  ·clear hs RC;conv=>whnf
   refine⟨((c+1:Nat):Int),wo,?_⟩;conv=>whnf
   refine⟨Nat×List (List Value)×World×Iv,fun z=>⟨[(3,.o (.w 2 z.2.1.length)),(0,sV am R cm),(8,iN z.1)],[(2,.vec T.eC 4 z.2.1.flatten)],3,z.2.2.2,z.2.2.1⟩,fun z=>R+1-z.1,
    fun z=>c<z.1∧z.1<=R+1∧dg w.heap.size w z.2.2.1∧Fr z.2.2.1 (Cf w z.2.2.2) z.2.1 ((fc M).take (z.1-1)),?_,?_⟩
   ·intro O w' r;exact⟨(c+1,css,w',_),⟨bU _,by dsimp only;omega,hw.tr r.cS,by dsimp only;rw[Nat.add_sub_cancel];exact(Fr.jL hC r (cG w)).cL fun g hg=>hg.1⟩,Sub.gn [] r⟩
   clear hw hM hO hC Ok QB;rintro⟨k,css,w2,iv⟩ ⟨TN,hk,hw,hC⟩;dsimp only at TN hk hw hC ⊢;have Ok:=eD hC.mV;have QB:css.length=k-1:=by rw[hC.1,aZ];omega
   conv=>whnf
   refine dG.mk ?_ ?_<;>intro OY
   ·have OY:k<=R:=by have:(k:Int)<=R:=(by simpa using OY);omega
    conv=>whnf
    refine cH (cE hw (fun _ w' v w2=>c9 w2 (Nf w' w2) v (kx M 0 k)) (fun O w' r=>aDa (h:=h) (oS hS r) (nU.cJ TR ((kS hw r hS))) OX OY (by omega) (by omega) QO h2 (aV (Nat.mul_le_mul_right _ (Nat.pow_le_pow_right (by decide) OY)) PN)) ?_);rintro O _ _ RK Q1 r he hw h_ hn;replace hC:=hC.cK r (cG w) he (mC h_);have hd:=hn.dK (S:=FF) r.cI (mN h_);clear r he hn;obtain⟨C0,C1,C2,C3,C4,C5,C6,C7,rfl⟩:=hd.shape;conv=>whnf
    have Sr:Fr RK (Cf w Q1) (css++[[.bool C0,.slice C1 C2 C3,.bool C4,.slice C5 C6 C7]]) ((fc M).take k):=by
     obtain⟨d,rfl⟩:∃d,k=d+1:=⟨k-1,by omega⟩
     rw[List.take_add_one,lY (by omega)];exact hC.push hd.four
    have PR:css.flatten++([.bool C0,.slice C1 C2 C3,.bool C4,.slice C5 C6 C7]:List Value)=(css++([[.bool C0,.slice C1 C2 C3,.bool C4,.slice C5 C6 C7]]:List (List Value))).flatten:=by simp
    clear hC hd;refine .inl ?_;conv=>whnf
    refine⟨by omega,by omega,by unfold maxLen;omega,?_⟩;conv=>whnf
    refine⟨((k+1:Nat):Int),wo,?_⟩;conv=>whnf
    intro ρ3 w3 r3;exact⟨(k+1,css++[[.bool C0,.slice C1 C2 C3,.bool C4,.slice C5 C6 C7]],w3,_),⟨by dsimp only;omega,by dsimp only;omega,hw.tr r3.cS,by dsimp only;rw[Nat.add_sub_cancel];exact Sr.rel r3 (cG w)⟩,Sub.gn [(2,4)] r3 ⟨by dsimp only;rw[<-PR];rfl,trivial⟩ ⟨by dsimp only;rw[List.length_append,List.length_singleton];rfl,rfl,rfl,trivial⟩,by dsimp only;omega⟩
   have OY:k=R+1:=by have:¬(k:Int)<=R:=(by simpa using OY);omega
   conv=>whnf
   intro ρe we re;refine⟨_,rfl,hw.tr re.cS,?_⟩;have h5:=re.gz (id:=2) (sz:=4) (m:=css.length) rfl Ok (by unfold maxLen;omega) (by decide) hC.one;have h6:=hC.rel re (cG w);rw[List.take_of_length_le (by omega)]at h6;refine⟨css,?_,h6.cL fun _ hg=>Cv.nw hg re⟩;rw[<-h6.1];exact h5.cL fun g hg=>.inr hg
  have h0:cY M1 c c≠0:=fun e=>by rw[<-RC,lP.2 e]at hs;simp at hs
  clear hs RC;conv=>whnf
  obtain⟨gf,cf,qf,f1,f2,f3,f4,f5,f6,f7,f8,Td,Wm⟩:=hM.pD (k:=c) (c:=c) (by omega) (by omega);have VI:qf=cY M1 c c:=Td.at_.symm;have Wn:=kU Rk XG c c;rw[<-VI]at Wn h0;have Ps:=fb q0 qf;conv=>whnf
  refine cO hτ dZ [.x 0,.x 1,.x 2,.x 3,.x 4,.x 5,.x 6,.x 7,.x 8,.x 9] (by kernel_rfl) (by kernel_rfl) ?_;conv=>whnf
  refine⟨⟨gm,0,none⟩,rfl,by omega,?_⟩;conv=>whnf
  refine⟨_,fun O w' r=>hM.cell r (.inl (by rw[dD];rfl)) Td.outer,?_⟩;conv=>whnf
  refine⟨⟨gf,0,none⟩,rfl,by omega,?_⟩;conv=>whnf
  refine⟨[.bool f1,.slice f2 f3 f4,.bool f5,.slice f6 f7 f8],rfl,fun O w' r j x hx=>hM.cell r (by rw[dD,dD];exact Wm) (Td.cells j x hx),?_⟩;conv=>whnf
  refine cE hw (fun _ w' v w2=>c9 w2 (Nf w' w2) v (q0*qf)) (fun O w' r=>sU (kP.old r hS) (c9.cL (hO.jL r (cG w)) fun _ hg=>(⟨D3 hg.1,hg.2⟩:kP S _ _ _ _ _ _)) (Td.DA.jL r hS) (by omega) (by omega)) ?_;rintro O _ _ _ WB r he hw h_ hn;have Xw:=hn.beside (S0:=fun _=>False) hM r;replace hM:=gG.cK hM r hS he (mC h_);replace hC:=Fr.pB hC r (cG w) he (mC h_);clear r he hn;clear Td Wm hO;have hO:=Xw;clear Xw;obtain⟨F0,F1,F2,F3,F4,F5,F6,F7,rfl⟩:=hO.shape;conv=>whnf
  have Ro:q0*qf=kx M 0 (c+1):=by
   rw[<-hD (c+1) (by omega) (by omega),tD (M:=M1) hlen (n:=c+1) (by omega) (by omega) (by omega) (VI▸h0) (Nat.le_refl _),E1,Rat.mul_one,VI]
  obtain⟨VK,hcss⟩:∃x,x=css++[[.bool F0,.slice F1 F2 F3,.bool F4,.slice F5 F6 F7]]:=⟨_,rfl⟩
  have Sr:=hC.push hO.four;rw[<-hcss,Ro,show(fc M).take c++[kx M 0 (c+1)]=(fc M).take (c+1) by rw[List.take_add_one,lY (by omega)];rfl]at Sr;have PR:css.flatten++([.bool F0,.slice F1 F2 F3,.bool F4,.slice F5 F6 F7]:List Value)=VK.flatten:=by rw[hcss];simp
  have RT:VK.length=css.length+1:=by rw[hcss];simp
  clear hC;have hC:=Sr;clear Sr;refine .inl ?_;conv=>whnf
  refine⟨by omega,by omega,by unfold maxLen;omega,?_⟩;conv=>whnf
  refine⟨((c+1:Nat):Int),wo,?_⟩;conv=>whnf
  have QO:=Rk;rw[VI]at h0
  refine⟨Nat×World×Iv,fun z=>⟨[(4,.o (.v (.slice (some ⟨gm,0,none⟩) R R))),(3,.o (.w 2 VK.length)),(0,sV am R cm),(6,pP 1 0),(29,iZ R),(30,iN c),(7,iN c),(9,iN z.1)],[(2,.vec T.eC 4 VK.flatten),(1,.box T.eC [.v (.bool F0),.v (.slice F1 F2 F3),.v (.bool F4),.v (.slice F5 F6 F7)])],3,z.2.2,z.2.1⟩,fun z=>R-z.1,
   fun z=>c<z.1∧z.1<=R∧dg w.heap.size w z.2.1∧gG z.2.1 S w.heap.size z.2.2 gm R R rv1 (eo M1 c z.1)∧c9 z.2.1 (kP FF w.heap.size z.2.2 gm R rv1) (.agg #[.bool F0,.slice F1 F2 F3,.bool F4,.slice F5 F6 F7]) (q0*qf)∧Fr z.2.1 (kP FF w.heap.size z.2.2 gm R rv1) VK ((fc M).take (c+1)),?_,?_⟩
  ·intro O w' r
   exact⟨(c+1,w',_),⟨bU _,by dsimp only;omega,hw.tr r.cS,by rw[p8 _ _ _ (Nat.le_refl _)];exact hM.rel r hS,hO.jL r (cG w),Fr.jL hC r (cG w)⟩,
    Sub.gn [(2,4)] r ⟨by rw[<-PR];rfl,rfl,trivial⟩ ⟨rfl,by rw[RT];rfl,rfl,rfl,rfl,rfl,rfl,rfl,trivial⟩⟩
  clear hw hM hO hC;rintro⟨i,w7,iv⟩ ⟨UW,hi,hw,hM,hO,hC⟩;dsimp only at UW hi hw hM hO hC ⊢;conv=>whnf
  refine dG.mk ?_ ?_<;>intro OW
  ·have OW:i<R:=by simpa using OW
   obtain⟨ri,Tc⟩:∃r,M1[i]? =some r:=⟨_,aB (by omega)⟩
   obtain⟨rc,Ut⟩:∃r,M1[c]? =some r:=⟨_,aB (by omega)⟩
   have Te:(eo M1 c i)[i]? =some ri:=by rw[ky _ _ _ _ (.inr (Nat.le_refl _))];exact Tc
   have Vz:(eo M1 c i)[c]? =some rc:=by rw[ky _ _ _ _ (.inl (Nat.le_refl _))];exact Ut
   obtain⟨gi,cd,qd,d1,d2,d3,d4,d5,d6,d7,d8,Qm,QY⟩:=hM.pD (k:=i) (c:=c) (by omega) (by omega);obtain⟨gc,ce,qe,e1,e2,e3,e4,e5,e6,e7,e8,Rl,UF⟩:=hM.pD (k:=c) (c:=c) (by omega) (by omega);have RC:qd=ri.getD c 0:=by
    rw[<-Qm.at_];unfold cY;rw[show (eo M1 c i).getD i []=ri by simp only[List.getD,Te,Option.getD_some]]
   have TS:qe=cY M1 c c:=by rw[<-Rl.at_,rR (.inl (Nat.le_refl _))]
   have Xx:=QO.at Tc;have Vf:=QO.at Ut;have QV:=p9 Xx (by omega) c;have PU:=kU QO (by omega) c c;rw[<-RC]at QV;rw[<-TS]at PU;have Tf:qe≠0:=TS▸h0;have QL:=pc qd Tf;have Us:=jB (qd / qe);have hvd:=Qm.rv;have hve:=Rl.rv;conv=>whnf
   refine cO hτ dZ [.x 0,.x 1,.x 2,.x 3,.x 4,.x 5,.x 6,.x 7,.x 8,.x 9,.x 10,.x 11,.x 12,.x 13,.x 14,.x 15,.x 16,.x 17,.x 20,.x 21,.x 22,.x 23,.x 18,.x 19,.x 24] (by kernel_rfl) (by kernel_rfl) ?_;conv=>whnf
   refine⟨⟨gm,0,none⟩,rfl,by omega,?_⟩;conv=>whnf
   refine⟨_,fun O w' r=>hM.cell r (.inl (by rw[dD];rfl)) Qm.outer,?_⟩;conv=>whnf
   refine⟨⟨gm,0,none⟩,rfl,by omega,?_⟩;conv=>whnf
   refine⟨_,fun O w' r=>hM.cell r (.inl (by rw[dD];rfl)) Qm.outer,?_⟩;conv=>whnf
   refine⟨⟨gi,0,none⟩,rfl,by omega,?_⟩;conv=>whnf
   refine⟨[.bool d1,.slice d2 d3 d4,.bool d5,.slice d6 d7 d8],rfl,fun O w' r j x hx=>hM.cell r (by rw[dD,dD];exact QY) (Qm.cells j x hx),?_⟩;conv=>whnf
   refine⟨⟨gm,0,none⟩,rfl,by omega,?_⟩;conv=>whnf
   refine⟨_,fun O w' r=>hM.cell r (.inl (by rw[dD];rfl)) Rl.outer,?_⟩;conv=>whnf
   refine⟨⟨gc,0,none⟩,rfl,by omega,?_⟩;conv=>whnf
   refine⟨[.bool e1,.slice e2 e3 e4,.bool e5,.slice e6 e7 e8],rfl,fun O w' r j x hx=>hM.cell r (by rw[dD,dD];exact UF) (Rl.cells j x hx),?_⟩;conv=>whnf
   refine⟨⟨gm,0,none⟩,rfl,by omega,?_⟩;conv=>whnf
   refine⟨_,fun O w' r=>hM.cell r (.inl (by rw[dD];rfl)) Rl.outer,?_⟩;conv=>whnf
   refine cE hw (fun _ w' v w2=>c9 w2 (Nf w' w2) v (qd / qe)) (fun O w' r=>LY (kP.old r hS) (Qm.DA.jL r hS) (Rl.DA.jL r hS) (by omega) (by omega) Tf) ?_;rintro O _ _ _ UX r he hw h_ hn;have hB:=hn.beside (S0:=S) hM r;replace hM:=gG.cK hM r hS he (mC h_);replace hO:=c9.pB hO r (cG w) he (mC h_);replace hC:=Fr.pB hC r (cG w) he (mC h_);clear r he hn;clear Qm Rl QY UF;obtain⟨J0,J1,J2,J3,J4,J5,J6,J7,rfl⟩:=hB.shape;conv=>whnf
   refine cE hw (fun _ w' v w2=>c9 w2 (Nw (kP S w.heap.size UX gm R rv1) w' w2) v (-(qd / qe))) (fun O w' r=>sT (kP.old r hS) (hB.jL r hS)) ?_;rintro O _ _ _ VL r he hw h_ hn;have WA:=hn.BA hM r;replace hM:=gG.cK hM r hS he (mC h_);replace hO:=c9.pB hO r (cG w) he (mC h_);replace hC:=Fr.pB hC r (cG w) he (mC h_);clear r he hn;clear hB;obtain⟨K0,K1,K2,K3,K4,K5,K6,K7,rfl⟩:=WA.shape;conv=>whnf
   refine⟨fun O w' r=>?_⟩;refine(hM.IS r hS (by unfold maxLen;omega) (Nat.ne_of_gt UW) hvd hve Te Vz WA (fun q hq=>by have:=Xx q hq;omega) (fun q hq=>by have:=Vf q hq;omega) (by omega)).mono fun e w8 he=>?_;obtain⟨rfl,Oi,Qx,Q2⟩:=he;have PI:=(hw.tr r.cS).tr (hM.cS r Oi Qx);have UU:=hO.cJ (kP.grown r (cG w) Oi Qx);replace UU:=UU.cL (S':=kP FF w.heap.size ((w'.heap.size,w8.heap.size)::VL) gm R rv1) fun _ hg=>⟨hg.1.mono fun p hp=>aC _ hp,hg.2⟩
   have Sr:=(hC.cJ (kP.grown r (cG w) Oi Qx)).cL (S':=kP FF w.heap.size ((w'.heap.size,w8.heap.size)::VL) gm R rv1) fun _ hg=>⟨hg.1.mono fun p hp=>aC _ hp,hg.2⟩
   refine⟨.tuple #[],_,(w'.heap.size,w8.heap.size)::VL,rfl,r.pE (fun x hx=>Rel.not r (dN _) (hM.rE x (Qx x hx))) Oi,?_⟩;rw[RC,TS,show rc=M1.getD c [] by rw[List.getD,Ut];rfl,rQ Tc UW]at Q2;clear hM hO hw Oi Qx r WA hC;generalize (w'.heap.size,w8.heap.size)::VL=RD at*
   conv=>whnf
   refine⟨((i+1:Nat):Int),wo,?_⟩;conv=>whnf
   intro ρ3 w3 r3
   exact⟨(i+1,w3,_),⟨by dsimp only;omega,OW,PI.tr r3.cS,Q2.rel r3 hS,UU.jL r3 (cG w),Fr.jL Sr r3 (cG w)⟩,
    Sub.gn [] r3,by dsimp only;omega⟩
  have OW:i=R:=aQ hi (by simpa using OW);rw[OW]at hM;conv=>whnf
  refine⟨((c+1:Nat):Int),wo,?_⟩;conv=>whnf
  intro ρ3 w3 r3;refine⟨(c+1,(gm,rv1,eo M1 c R,q0*qf),VK,((F0,F4),(F1,F5),(F2,F3,F6,F7)),w3,_),⟨PO,hw.tr r3.cS,hM.rel r3 hS,hO.jL r3 (cG w),Fr.jL hC r3 (cG w),ua hlen,by dsimp only;rw[SU];exact QO.elim XG h0,by dsimp only;rw[SU];omega,fun k h3 h4=>?_⟩,Sub.gn [] r3,by dsimp only;omega⟩;dsimp only at h3 ⊢;rw[<-hD k (by omega) h4,tD (M:=M1) hlen h4 (by omega) h3 h0 h4,VI,Rat.mul_assoc]
 have PO:c=R:=aQ hc (by simpa using PO);replace hC:=hC.cL (S':=Cf w iv) fun g hg=>hg.1;rw[<-QB]at Ok;conv=>whnf
 intro ρe we re;refine⟨_,rfl,hw.tr re.cS,?_⟩;have h5:=re.gz (id:=2) (sz:=4) (m:=css.length) rfl Ok (by unfold maxLen;omega) (by decide) hC.one;have h6:=hC.rel re (cG w);rw[List.take_of_length_le (by omega)]at h6;refine⟨css,?_,h6.cL fun _ hg=>Cv.nw hg re⟩;rw[<-h6.1];exact h5.cL fun g hg=>.inr hg
end Go.Ex
namespace Go.Ex
open Go Go.Sx Go.Proofs
variable{cs:List Value}{O:Nat->Sx.eE}
inductive Tp where
 |nil
 |x (i:Nat) (t:Tp)
 |two (i:Nat) (t:Tp) (j:Nat) (u:Tp)
 |pC (id:Nat) (t:Tp)
section
variable{P:Program}{τ:o8}{ops:Array Oper}{B n nx:Nat}{l:Env}{H:Hp}{iv:Iv}{w w':World}{O:Nat->Sx.eE}{a:Act}
end
theorem x8{l tl:Env}{nx t id n:Nat}(hn:(O id).nil=false)(ht:gF l t=some (.o (.w id n)))(h1:HP l tl)(h2:jw nx tl):∀u v,gF ((t,.o (.v (.slice (some ⟨(O id).g,0,none⟩) n (O id).cap)))::tl) u=some v->v.sc nx∧∃v',gF l u=some v'∧v'.den O=v.den O:=fun u v hv=>by
 rw[fK]at hv;split at hv
 ·rename_i e;subst e;injection hv with hv;subst hv;exact⟨trivial,_,ht,by simp[SV.den,At.den,hn]⟩
 ·exact⟨h2.get u v hv,v,h1.get u v hv,rfl⟩
theorem aBy{H:Hp}{nx:Nat}{iv:Iv}{B:Nat}{w w':World}(r:Rel H nx iv B w O w'){id t m sz:Nat}(h:dM H id=some (.vec t sz cs))(hm:cs.length=m*sz)(SP:m<=maxLen)(hs:0<sz)(h0:0<m)(h1:∀u∈cs,u.oneCell'=true):
  (O id).nil=false∧B<=(O id).g∧jY w' (fun g=>g=(O id).g) sz (.slice (some ⟨(O id).g,0,none⟩) m (O id).cap) cs m:=by
 rcases r.vec id t sz _ h with⟨hn,rfl⟩|⟨hn,spare,hb,hc,Qb⟩
 ·have:=Nat.mul_pos h0 hs;simp at hm;omega
 ·refine⟨hn,(r.low id _ h hn).1,SP,hm,h1,some ⟨(O id).g,0,none⟩,(O id).cap,rfl,?_,fun j x hx=>⟨_,rfl,rfl,?_⟩⟩
  ·have h1:(cs++spare).length=cs.length+spare.length:=List.length_append;have h2:m*sz<=(O id).cap*sz:=by omega
   exact cB h2 hs
  ·rw[dP,cell_of hb,aW,aJ (aE.1 hx).1];exact hx
end Go.Ex
namespace Go.Ex
section
variable{M:List (List Rat)}{b:List Rat}{n:Nat}
def eN(M:List (List Rat))(b:List Rat):List (List Rat):=M.mapIdx fun i r=>r++[b.getD i 0]
theorem j1(hl:fq n M):fq (n+1) (eN M b):=fun r hr=>by
 obtain⟨i,hi⟩:=aS hr;unfold eN at hi;rw[List.getElem?_mapIdx]at hi
 cases hx:M[i]? with
 |none=>rw[hx]at hi;cases hi
 |some x=>
  rw[hx]at hi;injection hi with hi;subst hi;rw[List.length_append,hl x (aD hx)];rfl
theorem fA:(eN M b).length=M.length:=by simp[eN]
end
end Go.Ex
namespace Go.Ex
open Go Go.Sx Go.Proofs
variable{K:List (List Rat)}{rv:List Value}{S:Nat->Prop}{w:World}
theorem ir.cL{S':Nat->Prop}(h:ir w S rv K)(hk:∀g,S g->S' g):ir w S' rv K:=⟨h.1,h.2.1,fun i u x h1 h2=>dB.cL (h.2.2 i u x h1 h2) hk⟩
theorem ir.push{u:Value}{x:List Rat}(h:ir w S rv K)(hu:u.oneCell'=true)(hx:dB w S u x):ir w S (rv++[u]) (K++[x]):=by
 refine⟨by simp[h.1],fun v hv=>?_,fun i v y h1 h2=>?_⟩
 ·rcases List.mem_append.1 hv with hv|hv
  ·exact h.2.1 v hv
  ·simp at hv;subst hv;exact hu
 ·rcases aP i rv.length with hi|hi
  ·rw[aJ hi]at h1;rw[aJ (by rw[<-h.1];exact hi)]at h2;exact h.2.2 i v y h1 h2
  ·have Ra:i=rv.length:=by have:=(aE.1 h1).1;simp at this;omega
   subst Ra;rw[aM (Nat.le_refl _),bI]at h1;rw[h.1,aM (Nat.le_refl _),bI]at h2;simp at h1 h2;subst h1 h2;exact hx
end Go.Ex
