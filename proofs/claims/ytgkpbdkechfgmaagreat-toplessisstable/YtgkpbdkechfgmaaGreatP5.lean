/- Texts X24 to X45: lemmas, each with its conditions. -/
import Derived.Test.YtgkpbdkechfgmaaGreatP4
namespace Go.Ex
open Go Go.Sx Go.Proofs
end Go.Ex
namespace Go.Sx
open Go Go.Ex Go.Proofs
variable{O:Nat->Sx.dL}
theorem Rel.DG{H:Hp}{nx:Nat}{iv:Iv}{B:Nat}{w w':World}(r:Rel H nx iv B w O w'){id t sz n:Nat}{cs:List At}(h:cV H id=some (.box t cs))(hl:cs.length=n*sz)(hn:n<=maxLen)(h1:∀u∈cs,(u.den O).oneCell'=true):
  iu w' (fun g=>g=(O id).g) sz (.slice (some ⟨(O id).g,0,none⟩) n n) (cs.map (At.den O)) n:=by
 refine⟨hn,by simpa using hl,fun u hu=>?_,_,_,rfl,Nat.le_refl _,fun j u hu=>⟨_,rfl,rfl,?_⟩⟩
 ·obtain⟨x,hx,rfl⟩:=aR.1 hu;exact h1 x hx
 ·have h0:(⟨(O id).g,0,none⟩:Addr).add j=⟨(O id).g,j,none⟩:=by
   cases j with
   |zero=>rfl
   |succ j=>simp[Addr.add]
  rw[h0,cell_of (r.box id t _ h)];exact hu
end Go.Sx
namespace Go.Ex
open Go Go.Sx Go.Proofs
end Go.Ex
namespace Go.Sx
open Go Go.Ex Go.Proofs
variable{cs:List Value}{O:Nat->Sx.dL}
theorem Rel.AD{H:Hp}{nx:Nat}{iv:Iv}{B:Nat}{w w':World}(r:Rel H nx iv B w O w'){id t sz n:Nat}(h:cV H id=some (.arr t cs))(hl:cs.length=n*sz)(hn:n<=maxLen)(h1:∀u∈cs,u.oneCell'=true):
  iu w' (fun g=>g=(O id).g) sz (.slice (some ⟨(O id).g,0,none⟩) n n) cs n:=by
 refine⟨hn,hl,h1,_,_,rfl,Nat.le_refl _,fun j u hu=>⟨_,rfl,rfl,?_⟩⟩;have h0:(⟨(O id).g,0,none⟩:Addr).add j=⟨(O id).g,j,none⟩:=by
  cases j with
  |zero=>rfl
  |succ j=>simp[Addr.add]
 rw[h0,cell_of (r.arr id t _ h)];exact hu
end Go.Sx
namespace Go.Ex
open Go Go.Sx Go.Proofs
theorem LI{n:Nat}(h:n<=9223372036854775807):IntKind.i64.wrap (n:Int)=n:=by rw[wrap64]<;>omega
theorem M7{t b:Nat}(h:t<=9223372036854775807):IntKind.i64.wrap ((t:Int).tdiv (b:Int))=((t / b:Nat):Int):=by
 have h1:=Nat.div_le_self t b;rw[Int.tdiv_eq_ediv_of_nonneg (by omega),<-Int.natCast_ediv];exact LI (by omega)
end Go.Ex
namespace Go.Ex
open Go Go.Sx Go.Proofs
def Gf:Value:=.agg #[.bool false,.slice none 0 0,.bool false,.slice none 0 0]
theorem uU{n:Int}(h1: -9223372036854775808<=n)(h2:n<=9223372036854775807):ln n.natAbs<=2:=gD.2 (by show n.natAbs<4294967296^2;omega)
end Go.Ex
namespace Go.Sx
open Go Go.Ex Go.Proofs
variable{cs:List Value}{O:Nat->Sx.dL}
theorem Rel.kR{H:Hp}{nx:Nat}{iv:Iv}{B:Nat}{w w':World}(r:Rel H nx iv B w O w'){id t m sz:Nat}(h:cV H id=some (.vec t sz cs))(hm:cs.length=m*sz)(Sd:m<=maxLen)(hs:0<sz)(h1:∀u∈cs,u.oneCell'=true):
  iu w' (fun g=>B<=g∧g<w'.heap.size) sz ((At.w id m).den O) cs m:=by
 rcases r.vec id t sz _ h with⟨hn,rfl⟩|⟨hn,spare,hb,hc,QF⟩
 ·have Uj:m=0:=by
   rcases bJ m with h|h
   ·exact h
   ·have:=Nat.mul_pos h hs;simp at hm;omega
  subst Uj;refine⟨Sd,by simp,by simp,none,0,by simp[At.den,hn],Nat.le_refl _,by simp⟩
 ·refine⟨Sd,hm,h1,some ⟨(O id).g,0,none⟩,(O id).cap,by simp[At.den,hn],?_,fun j x hx=>⟨_,rfl,r.low id _ h hn,?_⟩⟩
  ·have h1:(cs++spare).length=cs.length+spare.length:=List.length_append;have h2:m*sz<=(O id).cap*sz:=by omega
   exact Nat.le_of_mul_le_mul_right h2 hs
  ·rw[dA,cell_of hb,aV,aJ (aD.1 hx).1];exact hx
end Go.Sx
namespace Go.Ex
open Go Go.Sx Go.Proofs
end Go.Ex
namespace Go.Ex
open Go Go.Sx Go.Proofs
variable{css:List (List Value)}{qs:List Rat}{cs xs:List Value}{i j n:Nat}{C S:Nat->Prop}{O:Nat->Sx.dL}{row:Option Nat}{q:Rat}{v:Value}{w:World}
def signed:Bool->ByteArray->ByteArray
 |true,s=>⟨#[45]⟩++s
 |false,s=>s
def mQ(w:World)(S:Nat->Prop)(cs:List Value)(q:Rat):Prop:=∃b a n c b2 a2 n2 c2,cs=[.bool b,.slice a n c,.bool b2,.slice a2 n2 c2]∧cP w S (.agg #[.bool b,.slice a n c,.bool b2,.slice a2 n2 c2]) q
def Fr(w:World)(S:Nat->Prop)(css:List (List Value))(qs:List Rat):Prop:=css.length=qs.length∧∀(j:Nat) cs q,css[j]? =some cs->qs[j]? =some q->mQ w S cs q
section
variable{S S':Nat->Prop}{w w2:World}{cs:List Value}{css:List (List Value)}{q:Rat}{qs:List Rat}
theorem mQ.cC(h:mQ w S cs q)(hk:∀g,S g->w2.heap[g]? =w.heap[g]?):mQ w2 S cs q:=by
 obtain⟨b,a,n,c,b2,a2,n2,c2,h1,h2⟩:=h;exact⟨b,a,n,c,b2,a2,n2,c2,h1,h2.cC hk⟩
theorem mQ.cF(h:mQ w S cs q)(hk:∀g,S g->S' g):mQ w S' cs q:=by
 obtain⟨b,a,n,c,b2,a2,n2,c2,h1,h2⟩:=h;exact⟨b,a,n,c,b2,a2,n2,c2,h1,h2.cF hk⟩
theorem mQ.len(h:mQ w S cs q):cs.length=4:=by obtain⟨_,_,_,_,_,_,_,_,rfl,_⟩:=h;rfl
theorem cP.four{b b2:Bool}{a a2:Option Addr}{c n2 c2:Nat}(h:cP w S (.agg #[.bool b,.slice a n c,.bool b2,.slice a2 n2 c2]) q):mQ w S [.bool b,.slice a n c,.bool b2,.slice a2 n2 c2] q:=⟨_,_,_,_,_,_,_,_,rfl,h⟩
theorem Fr.cC(h:Fr w S css qs)(hk:∀g,S g->w2.heap[g]? =w.heap[g]?):Fr w2 S css qs:=⟨h.1,fun j cs q h1 h2=>(h.2 j cs q h1 h2).cC hk⟩
theorem Fr.cF(h:Fr w S css qs)(hk:∀g,S g->S' g):Fr w S' css qs:=⟨h.1,fun j cs q h1 h2=>(h.2 j cs q h1 h2).cF hk⟩
theorem Fr.nH(h:Fr w S css qs):∀cs∈css,cs.length=4:=fun cs hc=>by
 obtain⟨j,hj⟩:=aQ hc;have hl:=(aD.1 hj).1;exact(h.2 j cs _ hj (aB (by rw[<-h.1];exact hl))).len
theorem Fr.one(h:Fr w S css qs):∀u∈css.flatten,u.oneCell'=true:=fun u hu=>by
 obtain⟨cs,hc,hu⟩:=List.mem_flatten.1 hu;obtain⟨j,hj⟩:=aQ hc;have hl:=(aD.1 hj).1;obtain⟨_,_,_,_,_,_,_,_,rfl,_⟩:=h.2 j cs _ hj (aB (by rw[<-h.1];exact hl));simp at hu;rcases hu with rfl|rfl|rfl|rfl<;>rfl
theorem Fr.set(h:Fr w S css qs)(hq:mQ w S cs q):Fr w S (css.set j cs) (qs.set j q):=by
 refine⟨by simp[h.1],fun i c p h1 h2=>?_⟩;by_cases PE:j=i
 ·subst PE;have hl:=(aD.1 h1).1;rw[aO (by simpa using hl)]at h1;rw[aO (by have:=h.1;simp at hl;omega)]at h2;injection h1 with h1;injection h2 with h2;subst h1 h2;exact hq
 ·rw[aT PE]at h1 h2;exact h.2 i c p h1 h2
end
section
variable{S S':Nat->Prop}{H:Hp}{nx:Nat}{iv iv':Iv}{B:Nat}{w w' w2:World}{O:Nat->Sx.dL}{css:List (List Value)}{qs:List Rat}
theorem Fr.rel(h:Fr w (Cv S B iv) css qs)(r:Rel H nx iv B w O w')(hS:∀g,S g->g<B):Fr w' (Cv S B iv) css qs:=h.cC fun _ hg=>Rel.same r hS hg
theorem Fr.cD(h:Fr w (Cv S B iv) css qs)(r:Rel H nx iv B w O w')(hS:∀g,S g->g<B)(he:Ext w' w2)(hm:∀p,p∈iv->p∈iv'):Fr w2 (Cv S B iv') css qs:=
 ((h.rel r hS).cC fun g hg=>he.block g (Rel.old r hS g hg)).cF fun _ hg=>hg.mono hm
theorem Fr.arg(h:Fr w S css qs)(iv:Iv):Fr w (Cv S w.heap.size iv) css qs:=h.cF fun _ h=>.inl h
end
theorem eo:∀{css:List (List Value)},(∀cs∈css,cs.length=4)->css.flatten.length=css.length*4
 |[],_=>rfl
 |c::r,h=>by
  rw[List.flatten_cons,List.length_append,eo (fun cs hc=>h cs (aC _ hc)),h c aG,List.length_cons];omega
theorem flat_get:∀{css:List (List Value)} {j:Nat} {cs:List Value},(∀cs∈css,cs.length=4)->css[j]? =some cs->∀k u,cs[k]? =some u->css.flatten[j*4+k]? =some u
 |[],j,cs,_,hj,_,_,_=>by simp at hj
 |c::r,0,cs,h,hj,k,u,hu=>by
  simp at hj;subst hj;rw[List.flatten_cons,aJ (by have:=(aD.1 hu).1;omega)];simpa using hu
 |c::r,j+1,cs,h,hj,k,u,hu=>by
  have hc:=h c aG;rw[List.flatten_cons,aN (by omega),hc,show(j+1)*4+k-4=j*4+k by omega];exact flat_get (fun cs hc=>h cs (aC _ hc)) (by simpa using hj) k u hu
theorem jI:∀{css:List (List Value)} {j:Nat} {cs:List Value},(∀cs∈css,cs.length=4)->j<css.length->css.flatten.take (j*4)++cs++css.flatten.drop (j*4+4)=(css.set j cs).flatten
 |[],j,cs,_,hj=>by simp at hj
 |c::r,0,cs,h,_=>by
  have hc:=h c aG;simp[List.flatten_cons,hc]
 |c::r,j+1,cs,h,hj=>by
  have hc:=h c aG
  rw[List.flatten_cons,show(j+1)*4=c.length+j*4 by omega,List.take_length_add_append,show c.length+j*4+4=c.length+(j*4+4) by omega,List.drop_length_add_append,List.set_cons_succ,List.flatten_cons,
   <-jI (fun cs hc=>h cs (aC _ hc)) (by simpa using hj),bf,bf,bf]
abbrev Out(B:Nat)(iv:Iv):Nat->Prop:=Cv (fun g=>g<B) B iv
theorem gg{H:Hp}{nx:Nat}{iv:Iv}{B Bc e sz m:Nat}{w':World}(h:w.ownsRow Bc e sz v m xs)(hc:∀g,v.ownBlock=some g->Out B iv g)(r:Rel H nx iv B w O w'):w'.ownsRow Bc e sz v m xs:=
 ownsRow.cC h fun b hb=>Rel.same r (fun _ h=>h) (hc b hb)
theorem AG{a:Option Addr}{c:Nat}(h:w.ownsRow 0 T.dK 4 (.slice a n c) n css.flatten)(hf:Fr w S css qs)(hj:css[j]? =some cs):
  ∃g,a=some ⟨g,0,none⟩∧∀k u,cs[k]? =some u->w.cell? ((Addr.add ⟨g,0,none⟩ (j*4)).add k)=some u:=by
 rcases h.2 with⟨h1,h0⟩|⟨g,cap,cur,RH,_⟩
 ·have:=h.1;rw[eo hf.nH]at this;have:=(aD.1 hj).1;omega
 ·injection RH with h1 h2 h3;subst h1;refine⟨g,rfl,fun k u hu=>?_⟩;have:=h.cells (g:=g) rfl (j*4+k) u (flat_get hf.nH hj k u hu);rw[dA,dA];rw[dA]at this;rw[Nat.add_assoc];exact this
theorem M8:PG.underlying T.row=some (.slice T.dK):=(hτ T.row _ rfl).i4 rfl
theorem dW{w1 w2:World}(h:w.grownBy w1 row)(k:dT w.heap.size w1 w2):w.grownBy w2 row:=
 ⟨k.os.trans h.os,k.tape.trans h.tape,k.output.trans h.output,aW h.size k.size,fun b hb hn=>(k.block b hb).trans (h.block b hb hn)⟩
def gb(i:Nat)(f:Nat->Rat->Rat)(qs:List Rat):List Rat:=qs.mapIdx fun j q=>if j<i then f j q else q
theorem oP(f:Nat->Rat->Rat)(qs:List Rat):gb 0 f qs=qs:=by
 apply bG;intro j;simp[gb]
theorem qq(f:Nat->Rat->Rat)(qs:List Rat):gb qs.length f qs=qs.mapIdx f:=by
 apply bG;intro j;simp only[gb,List.getElem?_mapIdx]
 cases h:qs[j]? with
 |none=>rfl
 |some q=>simp[(aD.1 h).1]
theorem lP{f:Nat->Rat->Rat}(h:qs[i]? =some q):(gb i f qs).set i (f i q)=gb (i+1) f qs:=by
 apply bG;intro j;have hi:=(aD.1 h).1;by_cases PE:i=j
 ·subst PE;rw[aO (by simp[gb];exact hi)];simp[gb,List.getElem?_mapIdx,h]
 ·rw[aT PE];simp only[gb,List.getElem?_mapIdx]
  have:(j<i)↔(j<i+1):=by omega
  simp[this]
theorem zn{f:Nat->Rat->Rat}(h:qs[i]? =some q)(hf:f i q=q):gb i f qs=gb (i+1) f qs:=by
 rw[<-lP h,hf];apply bG;intro j;have hi:=(aD.1 h).1;by_cases PE:i=j
 ·subst PE;rw[aO (by simp[gb];exact hi)];simp[gb,List.getElem?_mapIdx,h]
 ·rw[aT PE]
theorem uL{f:Nat->Rat->Rat}(h:qs[i]? =some q):(gb i f qs)[i]? =some q:=by
 simp only[gb,List.getElem?_mapIdx,h]
 simp
def gj(w:World)(C S:Nat->Prop)(v:Value)(qs:List Rat):Prop:=∃css,iu w C 4 v css.flatten qs.length∧Fr w S css qs
section
variable{C C' S S':Nat->Prop}{H:Hp}{nx:Nat}{iv iv':Iv}{B:Nat}{w w' w2:World}{O:Nat->Sx.dL}{v:Value}{qs:List Rat}
theorem gj.cC(h:gj w C S v qs)(hk:∀g,C g∨S g->w2.heap[g]? =w.heap[g]?):gj w2 C S v qs:=by
 obtain⟨css,h1,h2⟩:=h;exact⟨css,h1.cC fun g hg=>hk g (.inl hg),h2.cC fun g hg=>hk g (.inr hg)⟩
theorem gj.cF(h:gj w C S v qs)(hk:∀g,C g->C' g)(UK:∀g,S g->S' g):gj w C' S' v qs:=by
 obtain⟨css,h1,h2⟩:=h;exact⟨css,h1.cF hk,h2.cF UK⟩
theorem gj.rel(h:gj w (Cv C B iv) (Cv S B iv) v qs)(r:Rel H nx iv B w O w')(hC:∀g,C g->g<B)(hS:∀g,S g->g<B):gj w' (Cv C B iv) (Cv S B iv) v qs:=
 h.cC fun _ hg=>hg.elim (Rel.same r hC) (Rel.same r hS)
theorem gj.cD(h:gj w (Cv C B iv) (Cv S B iv) v qs)(r:Rel H nx iv B w O w')(hC:∀g,C g->g<B)(hS:∀g,S g->g<B)(he:Ext w' w2)(hm:∀p,p∈iv->p∈iv'):gj w2 (Cv C B iv') (Cv S B iv') v qs:=
 ((h.rel r hC hS).cC fun g hg=>he.block g (hg.elim (Rel.old r hC g) (Rel.old r hS g))).cF (fun _ hg=>hg.mono hm) (fun _ hg=>hg.mono hm)
theorem gj.arg(h:gj w C S v qs)(iv:Iv):gj w (Cv C w.heap.size iv) (Cv S w.heap.size iv) v qs:=h.cF (fun _ h=>.inl h) (fun _ h=>.inl h)
end
theorem gj.shape(h:gj w C S v qs):∃a c,v= .slice a qs.length c∧qs.length<=c∧qs.length<=maxLen:=by
 obtain⟨css,⟨h0,_,_,a,c,h1,h2,_⟩,_⟩:=h;exact⟨a,c,h1,h2,h0⟩
theorem gj.load{a:Option Addr}{c:Nat}(h:gj w C S (.slice a n c) qs)(hq:qs[j]? =some q):
  ∃ad cs,a=some ad∧mQ w S cs q∧∀k u,cs[k]? =some u->C ad.block∧w.cell? ((ad.add (j*4)).add k)=some u:=by
 obtain⟨css,⟨h0,h1,h2,a',c',e,h3,h4⟩,hf⟩:=h;injection e with e1 e2 e3;subst e1;obtain⟨cs,Ok⟩:∃cs,css[j]? =some cs:=⟨_,aB (by rw[hf.1];exact(aD.1 hq).1)⟩
 have hF:=hf.2 j cs q Ok hq;have hl:=hF.len;obtain⟨ad,k1,k2,k3⟩:=h4 (j*4+0) _ (flat_get hf.nH Ok 0 _ (aB (show 0<cs.length by omega)));refine⟨ad,cs,k1,hF,fun k u hu=>?_⟩;obtain⟨ad2,m1,m2,m3⟩:=h4 (j*4+k) u (flat_get hf.nH Ok k u hu);rw[k1]at m1;injection m1 with m1;subst m1;refine⟨m2,?_⟩;rw[<-m3];have:(ad.add (j*4)).add k=ad.add (j*4+k):=by
  unfold Addr.add;split<;>split<;>simp_all<;>omega
 rw[this]
def qP(p:Rat)(ps:List Rat)(j:Nat)(q:Rat):Rat:=q+p*ps.getD j 0
theorem Ez(ps qs:List Rat):qs.mapIdx (qP 0 ps)=qs:=by
 apply bG;intro j;rw[List.getElem?_mapIdx]
 cases qs[j]? with
 |none=>rfl
 |some q=>exact congrArg some (by rw[qP,bC,bD])
theorem Eb{vby vs:Value}{ps:List Rat}{p:Rat}(hC:Old C w)(hS:Old S w)(OR:w.ownsRow 0 T.dK 4 v n css.flatten)(Pa:Fr w S css qs)(PY:css.length=n)(Oq:cP w S vby p)
  (hs:gj w C S vs ps) (Ph:ps.length=n) (hdis:∀g,v.ownBlock=some g->¬S g) (Th:∀g,v.ownBlock=some g->¬C g) (hq:∀q∈qs,rl q<=2000000000) (hps:∀q∈ps,rl q<=2000000000) (hb:rl p<=2000000000):
  dx PG N.mf #[v,vby,vs] w (fun e w2=>e= .returned (.tuple #[])∧w.grownBy w2 v.ownBlock∧∃css',w2.ownsRow 0 T.dK 4 v n css'.flatten∧css'.length=n∧Fr w2 (Nw S w w2) css' (qs.mapIdx (qP p ps))):=by
 have Od:∀g,v.ownBlock=some g->g<w.heap.size:=fun g hg=>(ownsRow.low OR g hg).2;have PJ:∀iv g,v.ownBlock=some g->Out w.heap.size iv g:=fun iv g hg=>.inl (Od g hg);have Uk:∀iv g,v.ownBlock=some g->¬Cv S w.heap.size iv g:=fun iv g hg h=>by
  rcases h with h|⟨h,_⟩
  ·exact hdis g hg h
  ·have:=Od g hg;omega
 have Ul:∀iv g,v.ownBlock=some g->¬Cv C w.heap.size iv g:=fun iv g hg h=>by
  rcases h with h|⟨h,_⟩
  ·exact Th g hg h
  ·have:=Od g hg;omega
 have SA:qs.length=n:=by rw[<-Pa.1,PY]
 obtain⟨a,c,rfl,TY⟩:=ig OR;obtain⟨b1,a1,n1,c1,b2,a2,n2,c2,rfl⟩:=Oq.shape;obtain⟨asl,cs0,rfl,Re,UM⟩:=hs.shape;rw[Ph]at Re UM hs ⊢;unfold maxLen at UM;replace Pa:=Pa.arg [];replace Oq:=Oq.arg [];replace hs:=hs.arg [];refine vP (by simp) ?_;conv=>whnf
 refine cB (cI (Φ:=fun _ _ v _=>v= .int .i64 (rs p)) (fun O w' r=>qp (Rel.old r hS) (Oq.rel r hS)) ?_);rintro O wa v1 wb r he QL rfl;replace Oq:=Oq.cD (iv':=(wa.heap.size,wb.heap.size)::[]) r hS he fun x hx=>aC _ hx;replace Pa:=Pa.cD (iv':=(wa.heap.size,wb.heap.size)::[]) r hS he fun x hx=>aC _ hx;replace hs:=hs.cD (iv':=(wa.heap.size,wb.heap.size)::[]) r hC hS he fun x hx=>aC _ hx;have Pb:wb.ownsRow 0 T.dK 4 (.slice a n c) n css.flatten:=ownsRow.cC (gg OR (PJ []) r) fun b hb=>he.block b (by have:=Od b hb;have:=r.bz;omega);have hg:w.grownBy wb (Value.slice a n c).ownBlock:=qG QL;clear r he QL OR;generalize (wa.heap.size,wb.heap.size)::[]=iv at*
 conv=>whnf
 refine dB.mk ?_ ?_<;>intro h0
 ·have h0:p=0:=by
   have:rs p=0:=eq_of_beq h0;exact Rat.num_eq_zero.1 (bu.1 this)
  conv=>whnf
  intro ρ5 w5 r5;refine⟨rfl,dW hg r5.cL,css,gg Pb (PJ iv) r5,PY,?_⟩;have:=(Pa.rel r5 hS).cF (S':=Nw S w w5) fun g hg=>Cv.nw hg r5;rw[h0,Ez];exact this
 clear h0;conv=>whnf
 refine⟨Nat×List (List Value)×Iv×World,fun z=>⟨[(0,sV a n c),(4,pP 0 0),(11,sV asl n cs0),(12,iZ n),(13,iZ z.1)],
   [(0,.box T.dK [.v (.bool b1),.v (.slice a1 n1 c1),.v (.bool b2),.v (.slice a2 n2 c2)])],1,z.2.2.1,z.2.2.2⟩,fun z=>n-z.1,
  fun z=>z.1<=n∧w.grownBy z.2.2.2 (Value.slice a n c).ownBlock∧z.2.2.2.ownsRow 0 T.dK 4 (.slice a n c) n z.2.1.flatten∧z.2.1.length=n∧Fr z.2.2.2 (Cv S w.heap.size z.2.2.1) z.2.1 (gb z.1 (qP p ps) qs)∧
   cP z.2.2.2 (Cv S w.heap.size z.2.2.1) (.agg #[.bool b1,.slice a1 n1 c1,.bool b2,.slice a2 n2 c2]) p∧gj z.2.2.2 (Cv C w.heap.size z.2.2.1) (Cv S w.heap.size z.2.2.1) (.slice asl n cs0) ps,?_,?_⟩
 ·intro O w' r
  refine⟨(0,css,iv,w'),⟨by simp,dW hg r.cL,gg Pb (PJ iv) r,PY,by rw[oP];exact Pa.rel r hS,Oq.rel r hS,hs.rel r hC hS⟩,
   Sub.gn [] r⟩
 clear Pb Pa Oq PY hs hg;rintro⟨i,css,iv,w1⟩ ⟨hi,hg,OR,PY,Pa,Oq,hs⟩;dsimp only at hi hg OR PY Pa Oq hs ⊢;conv=>whnf
 refine dB.mk ?_ ?_<;>intro h
 ·have h:i<n:=by simpa using h
  obtain⟨cs,Ok⟩:∃cs,css[i]? =some cs:=⟨_,aB (by omega)⟩
  obtain⟨q,Vo⟩:∃q,qs[i]? =some q:=⟨_,aB (by omega)⟩
  obtain⟨f,TC⟩:∃f,ps[i]? =some f:=⟨_,aB (by omega)⟩
  have hF:=Pa.2 i cs q Ok (uL Vo);have TN:qP p ps i q=q+p*f:=by simp[qP,List.getD,TC]
  obtain⟨d1,e1,m1,k1,d2,e2,m2,k2,rfl,hF⟩:=hF;have hrlq:=hq q (aE Vo);have hrlf:=hps f (aE TC);obtain⟨ad,fcs,Om,Tj,Ot⟩:=hs.load TC;obtain⟨f1,g1,o1,u1,f2,g2,o2,u2,rfl,Tj⟩:=Tj;conv=>whnf
  refine⟨ad,Om,by omega,?_⟩;conv=>whnf
  refine⟨[.bool f1,.slice g1 o1 u1,.bool f2,.slice g2 o2 u2],rfl,fun O w' r j x hx=>?_,?_⟩
  ·have Q6:=hs.rel r hC hS;obtain⟨k2',k3⟩:=Ot j x hx;have:=Rel.same r hC k2';rw[aF,cJ (w:=w1) (w2:=w') (by rw[c9,c9];exact this)];exact k3
  conv=>whnf
  refine cB (cI (Φ:=fun _ _ v _=>v= .int .i64 (rs f)) (fun O w' r=>qp (Rel.old r hS) (Tj.rel r hS)) ?_);rintro O wa v1 wb r he QL rfl;replace Oq:=Oq.cD (iv':=(wa.heap.size,wb.heap.size)::iv) r hS he fun x hx=>aC _ hx;replace Pa:=Pa.cD (iv':=(wa.heap.size,wb.heap.size)::iv) r hS he fun x hx=>aC _ hx;replace hs:=hs.cD (iv':=(wa.heap.size,wb.heap.size)::iv) r hC hS he fun x hx=>aC _ hx;replace Tj:=Tj.cD (iv':=(wa.heap.size,wb.heap.size)::iv) r hS he fun x hx=>aC _ hx;replace hF:=hF.cD (iv':=(wa.heap.size,wb.heap.size)::iv) r hS he fun x hx=>aC _ hx;replace OR:wb.ownsRow 0 T.dK 4 (.slice a n c) n css.flatten:=ownsRow.cC (gg OR (PJ iv) r) fun b hb=>he.block b (by have:=Od b hb;have:=r.bz;omega);replace hg:w.grownBy wb _:=dW hg QL;clear r he QL Ot;generalize (wa.heap.size,wb.heap.size)::iv=OU at*
  conv=>whnf
  refine dB.mk ?_ ?_<;>intro hz
  ·conv=>whnf
   refine cH hτ dN [.x 0,.x 1,.x 2,.x 3,.x 4,.x 5,.x 6,.x 7,.x 8,.x 9,.x 10,.x 11] (by kernel_rfl) (by kernel_rfl) ?_;conv=>whnf
   obtain⟨g,rfl,Oo⟩:=AG OR Pa Ok;refine⟨⟨g,0,none⟩,rfl,by omega,?_⟩;conv=>whnf
   refine⟨[.bool d1,.slice e1 m1 k1,.bool d2,.slice e2 m2 k2],rfl,fun O w' r j x hx=>?_,?_⟩
   ·have:=AG (gg OR (PJ OU) r) (Pa.rel r hS) Ok;obtain⟨g',h1,h2⟩:=this;injection h1 with h1;rw[<-h1]at h2;exact h2 j x hx
   conv=>whnf
   have QT:=hJ p f;refine cI (Φ:=fun _ w' v w2=>cP w2 (Nf w' w2) v (p*f)) (fun O w' r=>qF (Rel.old r hS) (Oq.rel r hS) (Tj.rel r hS) (by omega) (by omega)) ?_;rintro O wa v1 wb r he QL hP;have hPN:=hP.dD (S:=S) r.bz (iv:=(wa.heap.size,wb.heap.size)::OU) aG;replace Oq:=Oq.cD (iv':=(wa.heap.size,wb.heap.size)::OU) r hS he fun x hx=>aC _ hx;replace Pa:=Pa.cD (iv':=(wa.heap.size,wb.heap.size)::OU) r hS he fun x hx=>aC _ hx;replace hs:=hs.cD (iv':=(wa.heap.size,wb.heap.size)::OU) r hC hS he fun x hx=>aC _ hx;replace hF:=hF.cD (iv':=(wa.heap.size,wb.heap.size)::OU) r hS he fun x hx=>aC _ hx;replace OR:wb.ownsRow 0 T.dK 4 (.slice (some ⟨g,0,none⟩) n c) n css.flatten:=ownsRow.cC (gg OR (PJ OU) r) fun b hb=>he.block b (by have:=Od b hb;have:=r.bz;omega);replace hg:w.grownBy wb _:=dW hg QL;clear r he QL hP Tj Oo;generalize (wa.heap.size,wb.heap.size)::OU=Oi at*
   obtain⟨b5,a5,n5,c5,b6,a6,n6,c6,rfl⟩:=hPN.shape;conv=>whnf
   refine cI (Φ:=fun _ w' v w2=>cP w2 (Nf w' w2) v (q+p*f)) (fun O w' r=>DD (Rel.old r hS) (hF.rel r hS) (hPN.rel r hS) (by omega) (by omega)) ?_;rintro O wc v2 wd r he QL hQ;have WV:=hQ.dD (S:=S) r.bz (iv:=(wc.heap.size,wd.heap.size)::Oi) aG;replace Oq:=Oq.cD (iv':=(wc.heap.size,wd.heap.size)::Oi) r hS he fun x hx=>aC _ hx;replace Pa:=Pa.cD (iv':=(wc.heap.size,wd.heap.size)::Oi) r hS he fun x hx=>aC _ hx;replace hs:=hs.cD (iv':=(wc.heap.size,wd.heap.size)::Oi) r hC hS he fun x hx=>aC _ hx;replace OR:wd.ownsRow 0 T.dK 4 (.slice (some ⟨g,0,none⟩) n c) n css.flatten:=ownsRow.cC (gg OR (PJ Oi) r) fun b hb=>he.block b (by have:=Od b hb;have:=r.bz;omega);replace hg:w.grownBy wd _:=dW hg QL;clear r he QL hQ hPN hF;generalize (wc.heap.size,wd.heap.size)::Oi=Ow at*
   obtain⟨b7,a7,n7,c7,b8,a8,n8,c8,rfl⟩:=WV.shape;rw[<-TN]at WV;conv=>whnf
   refine⟨⟨g,0,none⟩,rfl,by omega,?_⟩;conv=>whnf
   intro O w' r;have SB:=gg OR (PJ Ow) r;have hF5:=(WV.rel r hS).four;obtain⟨g',R4,OV,QA,Oc,Oj⟩:=kC (nv:=[.bool b7,.slice a7 n7 c7,.bool b8,.slice a8 n8 c8]) SB rfl h rfl (by decide);injection R4 with R4;injection R4 with R4;subst R4;have Se:=jI (cs:=[.bool b7,.slice a7 n7 c7,.bool b8,.slice a8 n8 c8]) Pa.nH (show i<css.length by omega);rw[Se]at QA;have Pc:∀x,Cv S w.heap.size Ow x->(setCells w' ⟨g,i*4,none⟩ [.bool b7,.slice a7 n7 c7,.bool b8,.slice a8 n8 c8]).heap[x]? =w'.heap[x]? :=fun x hx=>
    Oc.block x (Rel.old r hS x hx) fun e=>Uk Ow g rfl (by injection e with e;rw[<-e];exact hx)
   have PZ:(⟨g,0,none⟩:Addr).add ((i:Int).toNat*4)=⟨g,i*4,none⟩:=by rw[aF,dA,aV]
   have hF6:=((Pa.rel r hS).cC Pc).set (j:=i) (hF5.cC Pc);rw[lP (f:=qP p ps) Vo]at hF6;have Um:=(Oq.rel r hS).cC Pc;have SL:∀x,Cv C w.heap.size Ow x->(setCells w' ⟨g,i*4,none⟩ [.bool b7,.slice a7 n7 c7,.bool b8,.slice a8 n8 c8]).heap[x]? =w'.heap[x]? :=fun x hx=>
    Oc.block x (Rel.old r hC x hx) fun e=>Ul Ow g rfl (by injection e with e;rw[<-e];exact hx)
   have hs6:=(hs.rel r hC hS).cC fun x hx=>hx.elim (SL x) (Pc x);clear SL;replace hg:w.grownBy (setCells w' ⟨g,i*4,none⟩ [.bool b7,.slice a7 n7 c7,.bool b8,.slice a8 n8 c8]) (some g):=fg (dW hg r.cL) Oc;have Px:=fun id b hb hn=>Rel.not r (fun _ h=>h) (PJ Ow g rfl) id b hb hn;clear r Pa Oq WV OR SB hF5 Pc Se Oc hs;refine⟨by rw[PZ],fun k hk=>by rw[PZ];exact OV k hk,fun id b hb hn=>by rw[PZ];exact Px id b hb hn,fun w2 PO=>?_⟩;have PO:w2=setCells w' ⟨g,i*4,none⟩ [.bool b7,.slice a7 n7 c7,.bool b8,.slice a8 n8 c8]:=by rw[PO];exact congrArg (fun x=>setCells w' x _) PZ
   rw[<-PO]at hF6 Um QA hg Oj hs6;clear PO OV Px;conv=>whnf
   refine⟨((i+1:Nat):Int),wo,?_⟩;conv=>whnf
   intro ρ3 w3 r3
   exact⟨(i+1,css.set i [.bool b7,.slice a7 n7 c7,.bool b8,.slice a8 n8 c8],Ow,w3),⟨h,dW hg r3.cL,gg QA (PJ Ow) r3,by simpa using PY,hF6.rel r3 hS,Um.rel r3 hS,hs6.rel r3 hC hS⟩,
    Sub.gn [] r3,by dsimp only;omega⟩
  ·have hf0:f=0:=by
    have:rs f=0:=by
     have h1:(rs f==0)=true:=by simpa using hz
     exact eq_of_beq h1
    exact Rat.num_eq_zero.1 (bu.1 this)
   have RW:qP p ps i q=q:=by rw[TN,hf0,az,bD]
   conv=>whnf
   refine⟨((i+1:Nat):Int),wo,?_⟩;conv=>whnf
   intro ρ3 w3 r3
   exact⟨(i+1,css,OU,w3),⟨h,dW hg r3.cL,gg OR (PJ OU) r3,PY,by rw[<-zn Vo RW];exact Pa.rel r3 hS,Oq.rel r3 hS,hs.rel r3 hC hS⟩,
    Sub.gn [] r3,by dsimp only;omega⟩
 ·have h:i=n:=by
   have:¬i<n:=by simpa using h
   omega
  subst h;conv=>whnf
  intro ρ5 w5 r5;refine⟨rfl,dW hg r5.cL,css,gg OR (PJ iv) r5,PY,?_⟩;have:=(Pa.rel r5 hS).cF (S':=Nw S w w5) fun g hg=>Cv.nw hg r5
  rwa [<-SA,qq]at this
end Go.Ex
namespace Go.Ex
variable{M:List (List Rat)}{s:List (List Rat)×List Nat}{h i n:Nat}
def cW(M:List (List Rat))(i c:Nat):Rat:=(M.getD i []).getD c 0
def iO(M:List (List Rat))(c:Nat):Nat->Nat->Nat
 |0,k=>k
 |f+1,k=>if cW M k c=0 then iO M c f (k+1)else k
def fV{α:Type}(d:α)(l:List α)(i j:Nat):List α:=(l.set i (l.getD j d)).set j (l.getD i d)
def rE(p:Rat)(ps:List Rat)(j:Nat)(q:Rat):Rat:=q+p*ps.getD j 0
def iP(M:List (List Rat))(at_ c i:Nat):List (List Rat):=M.mapIdx fun j r=>if j<i∧j≠at_ then r.mapIdx (rE (-(r.getD c 0)) (M.getD at_ []))else r
def scaled(M:List (List Rat))(at_ c:Nat):List (List Rat):=M.set at_ ((M.getD at_ []).map (· *(1 / cW M at_ c)))
def dg(s:List (List Rat)×List Nat)(c:Nat):List (List Rat)×List Nat:=
 if s.2.length<s.1.length then
  let k:=iO s.1 c (s.1.length-s.2.length) s.2.length
  if k=s.1.length then s else
   let M1:=scaled (fV [] s.1 s.2.length k) s.2.length c
   (iP M1 s.2.length c M1.length,s.2++[c])
 else s
def cK(M:List (List Rat))(cols:Nat):List (List Rat)×List Nat:=(List.range cols).foldl dg (M,[])
theorem j8{α:Type}(d:α)(l:List α)(i j:Nat):(fV d l i j).length=l.length:=by simp[fV]
theorem zB(M:List (List Rat))(a c i:Nat):(iP M a c i).length=M.length:=by simp[iP]
theorem rO(M:List (List Rat))(a c:Nat):(scaled M a c).length=M.length:=by simp[scaled]
theorem n9(s:List (List Rat)×List Nat)(c:Nat):(dg s c).1.length=s.1.length:=by
 unfold dg;split
 ·dsimp only
  split
  ·rfl
  ·dsimp only
   rw[zB,rO,j8]
 ·rfl
theorem yO(M:List (List Rat))(c:Nat):∀f k,k<=iO M c f k∧iO M c f k<=k+f
 |0,k=>⟨Nat.le_refl _,Nat.le_refl _⟩
 |f+1,k=>by
  unfold iO;split
  ·have:=yO M c f (k+1);omega
  ·omega
theorem yP(M:List (List Rat))(c:Nat):∀f k,iO M c f k<k+f->cW M (iO M c f k) c≠0
 |0,k,h=>by simp[iO]at h
 |f+1,k,h=>by
  unfold iO at h ⊢;split
  ·rename_i h0;rw[if_pos h0]at h;exact yP M c f (k+1) (by omega)
  ·rename_i h0;exact h0
theorem Fa{c f k:Nat}(h:cW M k c=0):iO M c (f+1) k=iO M c f (k+1):=by rw[iO,if_pos h]
theorem Ff{c f k:Nat}(h:cW M k c≠0):iO M c (f+1) k=k:=by rw[iO,aI h]
theorem Fg(M:List (List Rat))(a c i:Nat):(iP M a c i)[a]? =M[a]? :=by
 simp only[iP,List.getElem?_mapIdx]
 cases M[a]? <;>simp
def Ht(M:List (List Rat))(h:Nat):Prop:=∀r∈M,∀q∈r,rl q+1<=h
theorem Ht.mono{h':Nat}(H:Ht M h)(k:h<=h'):Ht M h':=fun r hr q hq=>aW (H r hr q hq) k
theorem Ht.at{r:List Rat}(H:Ht M h)(hi:M[i]? =some r):∀q∈r,rl q+1<=h:=H r (aE hi)
theorem Ht.swap{j:Nat}(H:Ht M h)(hi:i<M.length)(hj:j<M.length):Ht (fV [] M i j) h:=by
 intro r hr;have:r∈M:=by
  unfold fV at hr;rcases a9 hr with h1|h1
  ·rcases a9 h1 with h2|h2
   ·exact h2
   ·rw[h2,List.getD,aB hj];exact aX hj
  ·rw[h1,List.getD,aB hi];exact aX hi
 exact H r this
theorem GA:rl 1=1:=by decide
theorem NZ{q:Rat}(h:q≠0):rl (1 / q)<=rl q+1:=by
 have:=pN 1 h;rw[GA]at this;omega
theorem nk{r:List Rat}(H:∀q∈r,rl q+1<=h)(h2:2<=h)(c:Nat):rl (r.getD c 0)+1<=h:=by
 rw[List.getD]
 cases hc:r[c]? with
 |none=>simp;exact aW (by decide) h2
 |some q=>simp;exact H q (aE hc)
theorem BJ{j:Nat}(hi:i<M.length)(hj:j<M.length):(fV [] M i j)[i]? =M[j]? :=by
 unfold fV;by_cases h:j=i
 ·subst h;rw[aO (by simpa using hi),List.getD,aB hi];rfl
 ·rw[aT h,aO hi,List.getD,aB hj];rfl
theorem Dj{j c:Nat}(hi:i<M.length)(hj:j<M.length):cW (fV [] M i j) i c=cW M j c:=by
 simp only[cW,List.getD,BJ hi hj]
def gh(n:Nat)(M:List (List Rat)):Prop:=∀r∈M,r.length=n
theorem gh.set{r:List Rat}(h:gh n M)(hr:r.length=n):gh n (M.set i r):=fun x hx=>by
 rcases a9 hx with h1|h1
 ·exact h x h1
 ·rw[h1];exact hr
theorem gh.getD(h:gh n M)(hi:i<M.length):(M.getD i []).length=n:=by
 rw[List.getD,aB hi];exact h _ (aX hi)
theorem gh.step{c:Nat}(h:gh n s.1):gh n (dg s c).1:=by
 unfold dg;split
 ·rename_i Ou;dsimp only
  split
  ·exact h
  ·rename_i hk;have hle:=yO s.1 c (s.1.length-s.2.length) s.2.length;have hkl:iO s.1 c (s.1.length-s.2.length) s.2.length<s.1.length:=by omega
   dsimp only
   generalize iO s.1 c (s.1.length-s.2.length) s.2.length=k at*
   have h1:gh n (fV [] s.1 s.2.length k):=(h.set (h.getD hkl)).set (h.getD Ou);have h2:gh n (scaled (fV [] s.1 s.2.length k) s.2.length c):=h1.set (by rw[aL];exact h1.getD (by rw[j8];exact Ou));intro r hr;obtain⟨j,hj⟩:=aQ hr;simp only[iP,List.getElem?_mapIdx,Option.map_eq_some_iff]at hj;obtain⟨r0,hr0,hj⟩:=hj;have h3:=h2 r0 (aE hr0);split at hj
   ·subst hj;rw[List.length_mapIdx];exact h3
   ·subst hj;exact h3
 ·exact h
end Go.Ex
namespace Go.Ex
open Go Go.Sx Go.Proofs
variable{qs':List Rat}{i:Nat}
structure lN(w:World)(S:Nat->Prop)(vm:Value)(rv:List Value)(n:Nat)(M:List (List Rat)):Prop where
 out:w.ownsRow 0 T.row 1 vm rv.length rv
 len:rv.length=M.length
 row:∀(i:Nat) v qs,rv[i]? =some v->M[i]? =some qs->∃css,w.ownsRow 0 T.dK 4 v n css.flatten∧css.length=n∧Fr w S css qs
 rW:∀(i j:Nat) a b g,rv[i]? =some a->rv[j]? =some b->a.ownBlock=some g->b.ownBlock=some g->i=j
 Iz:∀v∈rv,∀g,v.ownBlock=some g->vm.ownBlock≠some g
def Mb(vm:Value)(rv:List Value)(g:Nat):Prop:=vm.ownBlock=some g∨∃v∈rv,v.ownBlock=some g
structure Kept(w w2:World)(X:Nat->Prop):Prop where
 os:w2.os=w.os
 tape:w2.tape=w.tape
 output:w2.output=w.output
 size:w.heap.size<=w2.heap.size
 block:∀k,k<w.heap.size->¬X k->w2.heap[k]? =w.heap[k]?
section
variable{S S' X:Nat->Prop}{H:Hp}{nx n:Nat}{iv iv':Iv}{B:Nat}{w w' w2 w3:World}{O:Nat->Sx.dL}{vm:Value}{rv:List Value}{M:List (List Rat)}
theorem lN.cC(h:lN w S vm rv n M)(hk:∀g,S g∨Mb vm rv g->w2.heap[g]? =w.heap[g]?):lN w2 S vm rv n M:=by
 refine⟨ownsRow.cC h.out fun g hg=>hk g (.inr (.inl hg)),h.len,fun i v qs h1 h2=>?_,h.rW,h.Iz⟩;obtain⟨css,h3,h4,h5⟩:=h.row i v qs h1 h2;exact⟨css,ownsRow.cC h3 fun g hg=>hk g (.inr (.inr ⟨v,aE h1,hg⟩)),h4,h5.cC fun g hg=>hk g (.inl hg)⟩
theorem lN.cF(h:lN w S vm rv n M)(hk:∀g,S g->S' g):lN w S' vm rv n M:=
 ⟨h.out,h.len,fun i v qs h1 h2=>(h.row i v qs h1 h2).imp fun _ h=>⟨h.1,h.2.1,h.2.2.cF hk⟩,h.rW,h.Iz⟩
theorem lN.low(h:lN w S vm rv n M):∀g,Mb vm rv g->g<w.heap.size:=fun g hg=>by
 rcases hg with hg|⟨v,hv,hg⟩
 ·exact(ownsRow.low h.out g hg).2
 ·obtain⟨i,hi⟩:=aQ hv;have hl:=(aD.1 hi).1;obtain⟨css,h1,_⟩:=h.row i v _ hi (aB (by rw[<-h.len];exact hl));exact(ownsRow.low h1 g hg).2
theorem lN.setRow(h:lN w S vm rv n M)(hS:Old S w)(VB:∀g,S g->¬Mb vm rv g){v:Value}(hv:rv[i]? =some v)(hg:w.grownBy w2 v.ownBlock)(hSS:∀g,S g->S' g)
  (OR:∃css,w2.ownsRow 0 T.dK 4 v n css.flatten∧css.length=n∧Fr w2 S' css qs'):lN w2 S' vm rv n (M.set i qs'):=by
 have Od:=h.low;have QY:∀g,g<w.heap.size->v.ownBlock≠some g->w2.heap[g]? =w.heap[g]? :=fun g h1 h2=>hg.block g h1 (Ne.symm h2);refine⟨ownsRow.cC h.out fun g WZ=>QY g (Od g (.inl WZ)) (fun e=>h.Iz v (aE hv) g e WZ),by rw[h.len];simp,fun j u qs h1 h2=>?_,h.rW,h.Iz⟩;by_cases PE:i=j
 ·subst PE;rw[hv]at h1;injection h1 with h1;subst h1;have hl:=(aD.1 hv).1;rw[aO (by rw[<-h.len];exact hl)]at h2;injection h2 with h2;subst h2;exact OR
 ·rw[aT PE]at h2;obtain⟨css,h3,h4,h5⟩:=h.row j u qs h1 h2;refine⟨css,ownsRow.cC h3 fun g hgu=>QY g (ownsRow.low h3 g hgu).2 (fun e=>PE (h.rW i j v u g hv h1 e hgu)),h4,(h5.cC fun g hgs=>?_).cF hSS⟩;exact QY g (hS g hgs) fun e=>VB g hgs (.inr ⟨v,aE hv,e⟩)
theorem lN.swap(h:lN w S vm rv n M)(VB:∀g,S g->¬Mb vm rv g){j:Nat}{a b:Value}(hi:rv[i]? =some a)(hj:rv[j]? =some b)(PJ:w2.ownsRow 0 T.row 1 vm rv.length ((rv.set i b).set j a))(QY:∀g,S g∨Mb vm rv g->vm.ownBlock≠some g->w2.heap[g]? =w.heap[g]?):
  lN w2 S vm ((rv.set i b).set j a) n (fV [] M i j):=by
 have Sm:=(aD.1 hi).1;have Rv:=(aD.1 hj).1;have QZ:M.getD i []=M[i]'(by rw[<-h.len];exact Sm):=by rw[List.getD,aB (by rw[<-h.len];exact Sm)];rfl
 have hmj:M.getD j []=M[j]'(by rw[<-h.len];exact Rv):=by rw[List.getD,aB (by rw[<-h.len];exact Rv)];rfl
 have key:∀k v qs,((rv.set i b).set j a)[k]? =some v->(fV [] M i j)[k]? =some qs->∃k',rv[k']? =some v∧M[k']? =some qs∧k'=(if k=j then i else if k=i then j else k):=by
  intro k v qs h1 h2;unfold fV at h2;rw[QZ,hmj]at h2;by_cases Sz:j=k
  ·subst Sz;rw[aO (by simp;exact Rv)]at h1;rw[aO (by simp;rw[<-h.len];exact Rv)]at h2;injection h1 with h1;injection h2 with h2;subst h1 h2;exact⟨i,hi,aB _,by simp⟩
  ·rw[aT Sz]at h1 h2;by_cases VK:i=k
   ·subst VK;rw[aO Sm]at h1;rw[aO (by rw[<-h.len];exact Sm)]at h2;injection h1 with h1;injection h2 with h2;subst h1 h2;exact⟨j,hj,aB _,by rw[aI (Ne.symm Sz),if_pos rfl]⟩
   ·rw[aT VK]at h1 h2;exact⟨k,h1,h2,by rw[aI (Ne.symm Sz),aI (Ne.symm VK)]⟩
 have hlen:((rv.set i b).set j a).length=rv.length:=by simp
 have Wf:(fV [] M i j).length=rv.length:=by rw[j8,h.len]
 have keyv:∀k v,((rv.set i b).set j a)[k]? =some v->∃k',rv[k']? =some v∧k'=(if k=j then i else if k=i then j else k):=fun k v h1=>by
  have hl:=(aD.1 h1).1;obtain⟨k',h2,_,h3⟩:=key k v _ h1 (aB (by rw[Wf,<-hlen];exact hl));exact⟨k',h2,h3⟩
 refine⟨by rw[hlen];exact PJ,by rw[hlen,Wf],fun k v qs h1 h2=>?_,fun k1 k2 v1 v2 g h1 h2 e1 e2=>?_,fun v hv g hgv=>?_⟩
 ·obtain⟨k',h3,h4,_⟩:=key k v qs h1 h2;obtain⟨css,h5,h6,h7⟩:=h.row k' v qs h3 h4;have hvm:=h.Iz v (aE h3);exact⟨css,ownsRow.cC h5 fun g hgu=>QY g (.inr (.inr ⟨v,aE h3,hgu⟩)) (hvm g hgu),h6,h7.cC fun g hgs=>QY g (.inl hgs) fun e=>VB g hgs (.inl e)⟩
 ·obtain⟨k3,h3,h4⟩:=keyv k1 v1 h1;obtain⟨k5,h5,h6⟩:=keyv k2 v2 h2;have:=h.rW k3 k5 v1 v2 g h3 h5 e1 e2;split at h4<;>split at h6<;>(try split at h4)<;>(try split at h6)<;>omega
 ·obtain⟨k,hk⟩:=aQ hv;obtain⟨k',h3,_⟩:=keyv k v hk;exact h.Iz v (aE h3) g hgv
theorem Mb.swap{j:Nat}{a b:Value}(hi:rv[i]? =some a)(hj:rv[j]? =some b){g:Nat}:Mb vm ((rv.set i b).set j a) g↔Mb vm rv g:=by
 have Sm:=(aD.1 hi).1;have Rv:=(aD.1 hj).1;unfold Mb;refine or_congr Iff.rfl ⟨fun ⟨v,hv,h⟩=>⟨v,?_,h⟩,fun⟨v,hv,h⟩=>⟨v,?_,h⟩⟩
 ·rcases a9 hv with h1|h1
  ·rcases a9 h1 with h2|h2
   ·exact h2
   ·rw[h2];exact aE hj
  ·rw[h1];exact aE hi
 ·obtain⟨k,hk⟩:=aQ hv;by_cases Sz:k=j
  ·subst Sz;rw[hj]at hk;injection hk with hk;subst hk;by_cases hik:i=k
   ·subst hik;rw[hi]at hj;injection hj with hj;subst hj;exact aE (i:=i) (by rw[aO (by simp;exact Sm)])
   ·exact aE (i:=i) (by rw[aT (Ne.symm hik),aO Sm])
  ·by_cases VK:k=i
   ·subst VK;rw[hi]at hk;injection hk with hk;subst hk;exact aE (i:=j) (by rw[aO (by simp;exact Rv)])
   ·exact aE (i:=k) (by rw[aT (Ne.symm Sz),aT (Ne.symm VK)];exact hk)
end
end Go.Ex
namespace Go.Sx
open Go Go.Ex Go.Proofs
variable{O:Nat->Sx.dL}{row:Option Nat}
theorem Rel.nJ{H:Hp}{nx:Nat}{iv:Iv}{B:Nat}{w w' w2:World}(r:Rel H nx iv B w O w')(OS:∀g,row=some g->∀id b,cV H id=some b->(O id).nil=false->(O id).g≠g)(h:w'.grownBy w2 row):Rel H nx ((w'.heap.size,w2.heap.size)::iv) B w2 O w2:=
 r.D5 h.size (fun id b hb hn=>h.block _ (r.low id b hb hn).2 fun e=>OS _ e.symm id b hb hn rfl) fun lo hi hm=>by
  rcases List.mem_cons.1 hm with e|hm
  ·injection e with e1 e2;subst e1 e2;exact⟨Nat.le_refl _,fun id b hb hn=>by have:=(r.low id b hb hn).2;omega⟩
  ·exact⟨by have:=r.qW lo hi hm;have:=r.size;have:=h.size;omega,fun id b hb hn=>r.ji lo hi hm id b hb hn⟩
end Go.Sx
namespace Go.Ex
open Go Go.Sx Go.Proofs
end Go.Ex
namespace Go.Ex
open Go Go.Sx Go.Proofs
end Go.Ex
namespace Go.Sx
open Go Go.Ex Go.Proofs
variable{O:Nat->Sx.dL}
theorem Sub.nil{B nx:Nat}{l:Env}{H:Hp}{iv:Iv}{w w':World}{t:vt}(u e sz:Nat)(h9:fR l u=some (sV none 0 0))(Re:l6 nx l)(r:Rel H nx iv B w O w')
  (h:∀ρ1,Rel ((nx,.vec e sz [])::H) (nx+1) iv B w ρ1 w'->Sx.Sub B ((u,.o (.w nx 0))::l) (nx+1) ρ1 w' t):Sx.Sub B l nx O w' t:=by
 have r1:=r.push (.vec e sz []) ⟨0,0,true⟩ (w2:=w') rfl rfl rfl (Nat.le_refl _) (fun _ _=>rfl) (fun h=>by cases h) (.inl ⟨rfl,rfl⟩) trivial;obtain⟨ρ',h1,h2⟩:=h _ r1;refine⟨ρ',h1,fun x v hv=>?_⟩;obtain⟨h3,v0,h4,h5⟩:=h2 x v hv;refine⟨h3,?_⟩;rw[eW]at h4;split at h4
 ·rename_i e;subst e;injection h4 with h4;subst h4;refine⟨_,h9,?_⟩;rw[<-h5];simp[SV.den,At.den,dw]
 ·refine⟨v0,h4,?_⟩;rw[<-h5];exact SV.jU (fun id Oy=>fm id Oy) (Re.get _ _ h4)
end Go.Sx
namespace Go.Ex
open Go Go.Sx Go.Proofs
variable{M:List (List Rat)}{qs:List Rat}{rv:List Value}{n:Nat}{S:Nat->Prop}{am:Option Addr}{v:Value}{w:World}
structure Mm(w:World)(S:Nat->Prop)(rv:List Value)(n:Nat)(M:List (List Rat))(gm k c g ck:Nat)(q:Rat)(d1:Bool)(e1:Option Addr)(m1 k1:Nat)(d2:Bool)(e2:Option Addr)(m2 k2:Nat):Prop where
 rv:rv[k]? =some (.slice (some ⟨g,0,none⟩) n ck)
 at_:cW M k c=q
 zg:cP w S (.agg #[.bool d1,.slice e1 m1 k1,.bool d2,.slice e2 m2 k2]) q
 outer:w.cell? (Addr.add ⟨gm,0,none⟩ (k*1))=some (.slice (some ⟨g,0,none⟩) n ck)
 cells:∀j u,[Value.bool d1,.slice e1 m1 k1,.bool d2,.slice e2 m2 k2][j]? =some u->w.cell? ((Addr.add ⟨g,0,none⟩ (c*4)).add j)=some u
theorem lN.outer{R cm:Nat}{k:Nat}(h:lN w S (.slice am R cm) rv n M)(hk:rv[k]? =some v):
  ∃gm,am=some ⟨gm,0,none⟩∧w.cell? (Addr.add ⟨gm,0,none⟩ (k*1))=some v:=by
 rcases h.out.2 with⟨h1,h0⟩|⟨gm,cap,cur,e,_⟩
 ·have:=(aD.1 hk).1;omega
 ·injection e with e1 e2 e3;refine⟨gm,e1,?_⟩;have:=h.out.cells (g:=gm) (by rw[e1];rfl) k v hk;rw[aY];exact this
theorem lN.elem{R cm:Nat}(h:lN w S (.slice am R cm) rv n M){k c:Nat}(hk:k<rv.length)(hc:c<n):
  ∃gm g ck q d1 e1 m1 k1 d2 e2 m2 k2,am=some ⟨gm,0,none⟩∧Mm w S rv n M gm k c g ck q d1 e1 m1 k1 d2 e2 m2 k2:=by
 obtain⟨v,hv⟩:∃v,rv[k]? =some v:=⟨_,aB hk⟩
 obtain⟨qs,hqs⟩:∃qs,M[k]? =some qs:=⟨_,aB (by rw[<-h.len];exact hk)⟩
 obtain⟨css,OR,PY,Pa⟩:=h.row k v qs hv hqs;obtain⟨a,ck,rfl,_⟩:=ig OR;obtain⟨cs,Ok⟩:∃cs,css[c]? =some cs:=⟨_,aB (by omega)⟩
 obtain⟨q,hq⟩:∃q,qs[c]? =some q:=⟨_,aB (by rw[<-Pa.1];omega)⟩
 obtain⟨g,rfl,Oo⟩:=AG OR Pa Ok;obtain⟨d1,e1,m1,k1,d2,e2,m2,k2,rfl,hF⟩:=Pa.2 c cs q Ok hq;obtain⟨gm,rfl,ho⟩:=h.outer hv;exact⟨gm,g,ck,q,d1,e1,m1,k1,d2,e2,m2,k2,rfl,hv,by simp[cW,List.getD,hqs,hq],hF,ho,Oo⟩
theorem Ch{α:Type}{xs:List α}{j:Nat}{v:α}(h:j<xs.length):xs.take (j*1)++[v]++xs.drop (j*1+1)=xs.set j v:=by
 rw[aY,List.set_eq_take_append_cons_drop,if_pos h];simp
theorem lN.aAT{vm:Value}(h:lN w S vm rv n M){k:Nat}(hv:rv[k]? =some v)(hq:M[k]? =some qs)(hn:n<=maxLen):
  gj w (fun g=>v.ownBlock=some g) S v qs∧qs.length=n:=by
 obtain⟨css,h1,h2,h3⟩:=h.row k v qs hv hq;have hl:qs.length=n:=by rw[<-h3.1,h2]
 refine⟨⟨css,?_,h3⟩,hl⟩;rw[hl];rcases h1.2 with⟨rfl,rfl⟩|⟨g,cap,cur,rfl,hb,hc,Vb,QF,Oj,RI⟩
 ·refine⟨hn,h1.1,h3.one,none,0,rfl,Nat.le_refl _,fun j u hu=>?_⟩;have:=h1.1;rw[Nat.zero_mul]at this;rw[List.eq_nil_of_length_eq_zero this]at hu
  cases hu
 ·refine⟨hn,h1.1,h3.one,_,cap,rfl,Vb,fun j u hu=>⟨_,rfl,rfl,?_⟩⟩;exact h1.cells (g:=g) rfl j u hu
end Go.Ex
namespace Go.Ex
open Go Go.Sx Go.Proofs
variable{x:Int×Int}{xs:List (Int×Int)}{M:List (List (Int×Int))}{A:List (List Rat)}{ps pv:List Nat}{qs:List Rat}{cs:List Value}{id:Nat}{C S:Nat->Prop}{q:Rat}{v:Value}{w w0:World}
def lf(w:World)(S:Nat->Prop)(v:Value)(n:Nat)(qs:List Rat):Prop:=∃css,w.ownsRow 0 T.dK 4 v n css.flatten∧css.length=n∧Fr w S css qs
section
variable{S S' C:Nat->Prop}{H:Hp}{nx n:Nat}{iv iv':Iv}{B:Nat}{w w' w2:World}{O:Nat->Sx.dL}{v:Value}{qs:List Rat}
theorem lf.cC(h:lf w S v n qs)(hk:∀g,S g∨v.ownBlock=some g->w2.heap[g]? =w.heap[g]?):lf w2 S v n qs:=by
 obtain⟨css,h1,h2,h3⟩:=h;exact⟨css,ownsRow.cC h1 fun g hg=>hk g (.inr hg),h2,h3.cC fun g hg=>hk g (.inl hg)⟩
theorem lf.cF(h:lf w S v n qs)(hk:∀g,S g->S' g):lf w S' v n qs:=by
 obtain⟨css,h1,h2,h3⟩:=h;exact⟨css,h1,h2,h3.cF hk⟩
theorem lf.len(h:lf w S v n qs):qs.length=n:=by
 obtain⟨css,h1,h2,h3⟩:=h;rw[<-h3.1,h2]
theorem lf.form(h:lf w S v n qs):∃a c,v= .slice a n c∧n<=c:=by
 obtain⟨css,h1,h2,h3⟩:=h;exact ig h1
theorem lf.le(h:lf w S v n qs):n<=maxLen:=by
 obtain⟨css,h1,h2,h3⟩:=h;rcases h1.2 with⟨_,h0⟩|⟨_,_,_,_,_,_,h1,h2,_⟩
 ·omega
 ·omega
theorem lf.read(h:lf w S v n qs):gj w (fun g=>v.ownBlock=some g) S v qs:=by
 have hl:=h.len;have hn:=h.le;obtain⟨css,h1,h2,h3⟩:=h;refine⟨css,?_,h3⟩;rw[hl];rcases h1.2 with⟨rfl,rfl⟩|⟨g,cap,cur,rfl,hb,hc,Vb,QF,Oj,RI⟩
 ·refine⟨hn,h1.1,h3.one,none,0,rfl,Nat.le_refl _,fun j u hu=>?_⟩;have:=h1.1;rw[Nat.zero_mul]at this;rw[List.eq_nil_of_length_eq_zero this]at hu
  cases hu
 ·refine⟨hn,h1.1,h3.one,_,cap,rfl,Vb,fun j u hu=>⟨_,rfl,rfl,?_⟩⟩;exact h1.cells (g:=g) rfl j u hu
structure DH(w:World)(S:Nat->Prop)(B:Nat)(iv:Iv)(v:Value)(n:Nat)(qs:List Rat):Prop where
 row:lf w (fun g=>Cv S B iv g∧v.ownBlock≠some g) v n qs
 new:∀g,v.ownBlock=some g->Cv FF B iv g
theorem DH.dD(h:DH w2 FF w'.heap.size [(w'.heap.size,w2.heap.size)] v n qs)(hB:B<=w'.heap.size)(hm:(w'.heap.size,w2.heap.size)∈iv):DH w2 S B iv v n qs:=by
 have key:∀g {X:Nat->Prop},Cv FF w'.heap.size [(w'.heap.size,w2.heap.size)] g->Cv X B iv g:=fun g X hg=>by
  rcases hg with hg|⟨h1,lo,hi,h2,h3,h4⟩
  ·exact hg.elim
  ·simp at h2;obtain⟨rfl,rfl⟩:=h2;exact .inr ⟨by omega,_,_,hm,h3,h4⟩
 exact⟨h.row.cF fun g hg=>⟨key g hg.1,hg.2⟩,fun g hg=>key g (h.new g hg)⟩
theorem DH.read(h:DH w S B iv v n qs):gj w (Cv S B iv) (Cv S B iv) v qs:=
 h.row.read.cF (fun g hg=>(h.new g hg).elim (fun h=>h.elim) .inr) fun _ hg=>hg.1
def ve(w:World)(S:Nat->Prop)(cs:List Value)(x:Int×Int):Prop:=∃b a n c b2 a2 n2 c2,cs=[.bool b,.slice a n c,.bool b2,.slice a2 n2 c2]∧iD w S (.agg #[.bool b,.slice a n c,.bool b2,.slice a2 n2 c2]) x.1 x.2
theorem ve.cC(h:ve w S cs x)(hk:∀g,S g->w2.heap[g]? =w.heap[g]?):ve w2 S cs x:=by
 obtain⟨b,a,n,c,b2,a2,n2,c2,h1,h2⟩:=h;exact⟨b,a,n,c,b2,a2,n2,c2,h1,h2.cC hk⟩
theorem ve.cF(h:ve w S cs x)(hk:∀g,S g->S' g):ve w S' cs x:=by
 obtain⟨b,a,n,c,b2,a2,n2,c2,h1,h2⟩:=h;exact⟨b,a,n,c,b2,a2,n2,c2,h1,h2.cF hk⟩
def eD{α:Type}(P:World->(Nat->Prop)->List Value->α->Prop)(w:World)(S:Nat->Prop)(v:Value)(xs:List α):Prop:=
 ∃css:List (List Value),iu w S 4 v css.flatten xs.length∧css.length=xs.length∧(∀cs∈css,cs.length=4)∧∀(j:Nat) cs x,css[j]? =some cs->xs[j]? =some x->P w S cs x
abbrev fO:=eD ve
theorem fO.cC(h:fO w S v xs)(hk:∀g,S g->w2.heap[g]? =w.heap[g]?):fO w2 S v xs:=by
 obtain⟨css,h1,h2,h3,h4⟩:=h;exact⟨css,h1.cC hk,h2,h3,fun j cs x k1 k2=>(h4 j cs x k1 k2).cC hk⟩
theorem fO.cF(h:fO w S v xs)(hk:∀g,S g->S' g):fO w S' v xs:=by
 obtain⟨css,h1,h2,h3,h4⟩:=h;exact⟨css,h1.cF hk,h2,h3,fun j cs x k1 k2=>(h4 j cs x k1 k2).cF hk⟩
theorem eD.shape{α:Type}{P:World->(Nat->Prop)->List Value->α->Prop}{xs:List α}(h:eD P w S v xs):∃a c,v= .slice a xs.length c∧xs.length<=c∧xs.length<=maxLen:=by
 obtain⟨css,⟨h0,_,_,a,c,h1,h2,_⟩,_⟩:=h;exact⟨a,c,h1,h2,h0⟩
theorem eD.load{α:Type}{P:World->(Nat->Prop)->List Value->α->Prop}{xs:List α}{a:Option Addr}{m c j:Nat}{x:α}(h:eD P w S (.slice a m c) xs)(hq:xs[j]? =some x):
  ∃ad cs,a=some ad∧P w S cs x∧cs.length=4∧∀k u,cs[k]? =some u->S ad.block∧w.cell? ((ad.add (j*4)).add k)=some u:=by
 obtain⟨css,⟨h0,h1,h2,a',c',e,h3,h4⟩,hl,VP,hf⟩:=h;injection e with e1 e2 e3;subst e1;obtain⟨cs,Ok⟩:∃cs,css[j]? =some cs:=⟨_,aB (by rw[hl];exact(aD.1 hq).1)⟩
 have hF:=hf j cs x Ok hq;have TE:=VP cs (aE Ok);obtain⟨ad,k1,k2,k3⟩:=h4 (j*4+0) _ (flat_get VP Ok 0 _ (aB (show 0<cs.length by omega)));refine⟨ad,cs,k1,hF,TE,fun k u hu=>?_⟩;obtain⟨ad2,m1,m2,m3⟩:=h4 (j*4+k) u (flat_get VP Ok k u hu);rw[k1]at m1;injection m1 with m1;subst m1;refine⟨m2,?_⟩;rw[<-m3];have:(ad.add (j*4)).add k=ad.add (j*4+k):=by
  unfold Addr.add;split<;>split<;>simp_all<;>omega
 rw[this]
def dG{α:Type}(P:World->(Nat->Prop)->Value->α->Prop)(w:World)(S:Nat->Prop)(v:Value)(M:List α):Prop:=
 ∃rv,iu w S 1 v rv M.length∧rv.length=M.length∧∀(i:Nat) u x,rv[i]? =some u->M[i]? =some x->P w S u x
theorem dG.shape{α:Type}{P:World->(Nat->Prop)->Value->α->Prop}{xs:List α}(h:dG P w S v xs):∃a c,v= .slice a xs.length c∧xs.length<=c∧xs.length<=maxLen:=by
 obtain⟨rv,⟨h0,_,_,a,c,h1,h2,_⟩,_⟩:=h;exact⟨a,c,h1,h2,h0⟩
theorem dG.load{α:Type}{P:World->(Nat->Prop)->Value->α->Prop}{xs:List α}{a:Option Addr}{m c j:Nat}{x:α}(h:dG P w S (.slice a m c) xs)(hq:xs[j]? =some x):
  ∃ad u,a=some ad∧P w S u x∧S ad.block∧w.cell? (ad.add (j*1))=some u:=by
 obtain⟨rv,⟨h0,h1,h2,a',c',e,h3,h4⟩,hl,hf⟩:=h;injection e with e1 e2 e3;subst e1;obtain⟨u,hu⟩:∃u,rv[j]? =some u:=⟨_,aB (by rw[hl];exact(aD.1 hq).1)⟩
 obtain⟨ad,k1,k2,k3⟩:=h4 j u hu;exact⟨ad,u,k1,hf j u x hu hq,k2,by rw[aY];exact k3⟩
abbrev ee:=dG fO
theorem ee.cC(h:ee w S v M)(hk:∀g,S g->w2.heap[g]? =w.heap[g]?):ee w2 S v M:=by
 obtain⟨rv,h1,h2,h3⟩:=h;exact⟨rv,h1.cC hk,h2,fun i u x k1 k2=>fO.cC (h3 i u x k1 k2) hk⟩
theorem ee.cF(h:ee w S v M)(hk:∀g,S g->S' g):ee w S' v M:=by
 obtain⟨rv,h1,h2,h3⟩:=h;exact⟨rv,h1.cF hk,h2,fun i u x k1 k2=>fO.cF (h3 i u x k1 k2) hk⟩
abbrev uH:=dG (fun w S v qs=>gj w S S v qs)
theorem uH.cC{M:List (List Rat)}(h:uH w S v M)(hk:∀g,S g->w2.heap[g]? =w.heap[g]?):uH w2 S v M:=by
 obtain⟨rv,h1,h2,h3⟩:=h;exact⟨rv,h1.cC hk,h2,fun i u x k1 k2=>(h3 i u x k1 k2).cC fun g hg=>hk g (hg.elim id id)⟩
theorem uH.cF{M:List (List Rat)}(h:uH w S v M)(hk:∀g,S g->S' g):uH w S' v M:=by
 obtain⟨rv,h1,h2,h3⟩:=h;exact⟨rv,h1.cF hk,h2,fun i u x k1 k2=>(h3 i u x k1 k2).cF hk hk⟩
end
section
variable{S S':Nat->Prop}{H:Hp}{nx:Nat}{iv iv':Iv}{B:Nat}{w w' w2:World}{O:Nat->Sx.dL}{v:Value}{xs:List (Int×Int)}
theorem fO.rel(h:fO w (Cv S B iv) v xs)(r:Rel H nx iv B w O w')(hS:∀g,S g->g<B):fO w' (Cv S B iv) v xs:=fO.cC h fun _ hg=>Rel.same r hS hg
theorem fO.cD(h:fO w (Cv S B iv) v xs)(r:Rel H nx iv B w O w')(hS:∀g,S g->g<B)(he:Ext w' w2)(hm:∀p,p∈iv->p∈iv'):fO w2 (Cv S B iv') v xs:=
 fO.cF (fO.cC (fO.rel h r hS) fun g hg=>he.block g (Rel.old r hS g hg)) fun _ hg=>hg.mono hm
theorem fO.arg(h:fO w S v xs)(iv:Iv):fO w (Cv S w.heap.size iv) v xs:=fO.cF h fun _ h=>.inl h
end
section
variable{S S':Nat->Prop}{H:Hp}{nx:Nat}{iv iv':Iv}{B:Nat}{w w' w2:World}{O:Nat->Sx.dL}{v:Value}{M:List (List (Int×Int))}
theorem ee.rel(h:ee w (Cv S B iv) v M)(r:Rel H nx iv B w O w')(hS:∀g,S g->g<B):ee w' (Cv S B iv) v M:=ee.cC h fun _ hg=>Rel.same r hS hg
theorem ee.cD(h:ee w (Cv S B iv) v M)(r:Rel H nx iv B w O w')(hS:∀g,S g->g<B)(he:Ext w' w2)(hm:∀p,p∈iv->p∈iv'):ee w2 (Cv S B iv') v M:=
 ee.cF (ee.cC (ee.rel h r hS) fun g hg=>he.block g (Rel.old r hS g hg)) fun _ hg=>hg.mono hm
theorem ee.arg(h:ee w S v M)(iv:Iv):ee w (Cv S w.heap.size iv) v M:=ee.cF h fun _ h=>.inl h
end
section
variable{S S':Nat->Prop}{H:Hp}{nx:Nat}{iv iv':Iv}{B:Nat}{w w' w2:World}{O:Nat->Sx.dL}{v:Value}{M:List (List Rat)}
end
def iS{α:Type}:List (List α)->Nat
 |[]=>0
 |r::_=>r.length
def sZ{α:Type}(M:List (List α)):Nat:=if ∀r∈M,r.length=iS M then(if 60<M.length∨60<iS M then 8 else 0)else 11
theorem dG.AH(h:fO w S v xs):∃a c,v= .slice a xs.length c:=by
 obtain⟨a,c,h,_⟩:=eD.shape h;exact⟨a,c,h⟩
theorem vT(hS:Old S w)(h:ee w S v M):dx PG N.rS #[v] w (eH w fun v' _=>v'= .int .i64 (iS M)):=by
 have hn:=h;obtain⟨a,c,rfl,hc,hm⟩:=dG.shape h;refine vO (by simp) ?_
 cases M with
 |nil=>
  conv=>whnf
  intro ρe we re;exact⟨_,rfl,re.cL,rfl⟩
 |cons r t=>
  obtain⟨ad,u,rfl,hu,h1,h2⟩:=dG.load h (j:=0) (x:=r) rfl;obtain⟨a2,c2,rfl⟩:=dG.AH hu;conv=>whnf
  refine⟨ad,rfl,⟨by omega,by simp⟩,?_⟩;conv=>whnf
  refine⟨.slice a2 r.length c2,fun O w' r'=>by simpa using jl hS dT.refl r' h1 (by simpa using h2),?_⟩;conv=>whnf
  intro ρe we re;exact⟨_,rfl,re.cL,rfl⟩
theorem Aj(hS:Old S w)(h:ee w S v M):dx PG N.mL #[v] w (eH w fun v' _=>v'= .int .i64 (sZ M)):=by
 replace h:=ee.arg h [];obtain⟨a,c,rfl,hc,hm⟩:=dG.shape h;unfold maxLen at hm;refine qA (by simp) ?_;conv=>whnf
 refine⟨Nat×Iv×World,fun z=>⟨[(0,sV a M.length c),(5,sV a M.length c),(6,iZ M.length),(7,iZ z.1)],[],0,z.2.1,z.2.2⟩,fun z=>M.length-z.1,
  fun z=>z.1<=M.length∧dT w.heap.size w z.2.2∧ee z.2.2 (Cv S w.heap.size z.2.1) (.slice a M.length c) M∧∀(j:Nat) r,j<z.1->M[j]? =some r->r.length=iS M,?_,?_⟩
 ·intro O w' r;exact⟨(0,[],w'),⟨by simp,r.cL,ee.rel h r hS,by simp⟩,Sub.gn [] r⟩
 clear h;rintro⟨i,iv,w1⟩ ⟨hi,hw,hM,OR⟩;dsimp only at hi hw hM OR ⊢;conv=>whnf
 refine dB.mk ?_ ?_<;>intro h
 ·have h:i<M.length:=by simpa using h
  obtain⟨r,hr⟩:∃r,M[i]? =some r:=⟨_,aB h⟩
  obtain⟨ad,u,rfl,hu,h1,h2⟩:=dG.load hM hr;obtain⟨a2,c2,rfl⟩:=dG.AH hu;conv=>whnf
  refine⟨ad,rfl,by omega,?_⟩;conv=>whnf
  refine⟨.slice a2 r.length c2,fun O w' r'=>?_,?_⟩
  ·have h3:=Rel.same r' hS h1;rw[aF,cJ (w:=w1) (w2:=w') (by rw[c9];exact h3)];exact h2
  conv=>whnf
  refine cB (cI (Φ:=fun _ _ v _=>v= .int .i64 (iS M)) (fun O w' r=>vT (Rel.old r hS) (ee.rel hM r hS)) ?_);rintro O wa v1 wb r' he hb rfl;replace hw:=hw.tr hb;replace hM:=ee.cD (iv':=(wa.heap.size,wb.heap.size)::iv) hM r' hS he fun x hx=>aC _ hx;clear r' he hb;generalize (wa.heap.size,wb.heap.size)::iv=OU at*
  conv=>whnf
  refine dB.mk ?_ ?_<;>intro OS
  ·have OS:r.length≠iS M:=fun e=>by rw[e]at OS;simp at OS
   conv=>whnf
   intro ρe we re;refine⟨_,rfl,hw.tr re.cL,?_⟩;unfold sZ;rw[aI (fun Qd=>OS (Qd r (aE hr)))];rfl
  ·have heq:r.length=iS M:=by
    have h4:((r.length:Int)==(iS M:Int))=true:=by simpa using OS
    have:=eq_of_beq h4;omega
   conv=>whnf
   refine⟨((i+1:Nat):Int),wo,?_⟩;conv=>whnf
   intro ρ3 w3 r3;refine⟨(i+1,OU,w3),⟨h,hw.tr r3.cL,ee.rel hM r3 hS,fun j r' hj hr'=>?_⟩,Sub.gn [] r3,by dsimp only;omega⟩;by_cases PK:j=i
   ·subst PK;rw[hr]at hr';injection hr' with hr';rw[<-hr'];exact heq
   ·exact OR j r' (by dsimp only at hj;omega) hr'
 ·have h:i=M.length:=by
   have:¬i<M.length:=by simpa using h
   omega
  have Qd:∀r∈M,r.length=iS M:=fun r hr=>by
   obtain⟨j,hj⟩:=aQ hr;exact OR j r (by rw[h];exact(aD.1 hj).1) hj
  have PT:sZ M=if 60<M.length∨60<iS M then 8 else 0:=by unfold sZ;rw[if_pos Qd]
  conv=>whnf
  refine dB.mk ?_ ?_<;>intro hl
  ·have hl:60<M.length:=by
    have:(M.length:Int)>60:=aK hl;omega
   conv=>whnf
   exact rtn hw fun ρe we re=>by rw[PT,if_pos (.inl hl)];rfl
  ·have hl:¬60<M.length:=by
    have:¬(M.length:Int)>60:=aH hl;omega
   conv=>whnf
   refine cB (cI (Φ:=fun _ _ v _=>v= .int .i64 (iS M)) (fun O w' r=>vT (Rel.old r hS) (ee.rel hM r hS)) ?_);rintro O wa v1 wb r' he hb rfl;replace hw:=hw.tr hb;clear r' he hb;conv=>whnf
   refine dB.mk ?_ ?_<;>intro Ps
   ·have Ps:60<iS M:=by
     have:(iS M:Int)>60:=aK Ps;omega
    conv=>whnf
    exact rtn hw fun ρe we re=>by rw[PT,if_pos (.inr Ps)];rfl
   ·have Ps:¬60<iS M:=by
     have:¬(iS M:Int)>60:=aH Ps;omega
    conv=>whnf
    exact rtn hw fun ρe we re=>by rw[PT,aI (by omega)];rfl
def f0:List Value:=[.bool false,.slice none 0 0,.bool false,.slice none 0 0]
structure lZ(w:World)(S:Nat->Prop)(n i:Nat)(css:List (List Value))(qs:List Rat):Prop where
 len:css.length=n
 four:∀cs∈css,cs.length=4
 one:∀cs∈css,∀u∈cs,u.oneCell'=true
 at_:∀(j:Nat) cs q,j<i->css[j]? =some cs->qs[j]? =some q->mQ w S cs q
section
variable{S S':Nat->Prop}{H:Hp}{nx n i:Nat}{iv iv':Iv}{B:Nat}{w w1 w' w2:World}{O:Nat->Sx.dL}{css:List (List Value)}{qs:List Rat}
theorem lZ.cC(h:lZ w S n i css qs)(hk:∀g,S g->w2.heap[g]? =w.heap[g]?):lZ w2 S n i css qs:=⟨h.len,h.four,h.one,fun j cs q hj h1 h2=>(h.at_ j cs q hj h1 h2).cC hk⟩
theorem lZ.cF(h:lZ w S n i css qs)(hk:∀g,S g->S' g):lZ w S' n i css qs:=⟨h.len,h.four,h.one,fun j cs q hj h1 h2=>(h.at_ j cs q hj h1 h2).cF hk⟩
theorem lZ.rel(h:lZ w (Cv S B iv) n i css qs)(r:Rel H nx iv B w O w')(hS:∀g,S g->g<B):lZ w' (Cv S B iv) n i css qs:=h.cC fun _ hg=>Rel.same r hS hg
theorem lZ.cD(h:lZ w (Cv S B iv) n i css qs)(r:Rel H nx iv B w O w')(hS:∀g,S g->g<B)(he:Ext w' w2)(hm:∀p,p∈iv->p∈iv'):lZ w2 (Cv S B iv') n i css qs:=
 ((h.rel r hS).cC fun g hg=>he.block g (Rel.old r hS g hg)).cF fun _ hg=>hg.mono hm
theorem lZ.start(w:World)(S:Nat->Prop)(n:Nat)(qs:List Rat):lZ w S n 0 (List.replicate n f0) qs:=
 ⟨by simp,fun cs hc=>by rw[b9 hc];rfl,fun cs hc u hu=>by rw[b9 hc]at hu;simp[f0]at hu;rcases hu with rfl|rfl|rfl|rfl<;>rfl,fun j cs q hj=>by omega⟩
theorem lZ.next{b b2:Bool}{a a2:Option Addr}{m c m2 c2:Nat}(h:lZ w S n i css qs)(hi:i<n)(hq:qs[i]? =some q)(hf:cP w S (.agg #[.bool b,.slice a m c,.bool b2,.slice a2 m2 c2]) q):
  lZ w S n (i+1) (css.set i [.bool b,.slice a m c,.bool b2,.slice a2 m2 c2]) qs:=by
 refine⟨by simp[h.len],fun cs hc=>?_,fun cs hc u hu=>?_,fun j cs p hj h1 h2=>?_⟩
 ·rcases a9 hc with hc|rfl
  ·exact h.four cs hc
  ·rfl
 ·rcases a9 hc with hc|rfl
  ·exact h.one cs hc u hu
  ·simp at hu;rcases hu with rfl|rfl|rfl|rfl<;>rfl
 ·by_cases PE:i=j
  ·subst PE;rw[aO (by rw[h.len];exact hi)]at h1;rw[hq]at h2;injection h1 with h1;injection h2 with h2;subst h1 h2;exact hf.four
  ·rw[aT PE]at h1;exact h.at_ j cs p (by omega) h1 h2
theorem lZ.flat(h:lZ w S n i css qs):css.flatten.length=n*4:=by rw[eo h.four,h.len]
theorem lZ.done(h:lZ w1 (Cf w0 iv) n n css qs)(hl:qs.length=n)(hn:n<=maxLen)(r:Rel H nx iv w0.heap.size w1 O w')(hH:cV H id=some (.arr T.dK css.flatten))(Oe:(O id).nil=false):
  DH w' FF w0.heap.size [(w0.heap.size,w'.heap.size)] (.slice (some ⟨(O id).g,0,none⟩) n n) n qs:=by
 have h2:=h.rel r (bw w0);have Od:=r.low id _ hH Oe;refine⟨⟨css,⟨h.flat,.inr ⟨(O id).g,n,css.flatten.toArray,rfl,aS _,r.arr id _ _ hH,Nat.le_refl _,hn,by simpa using h.flat,?_⟩⟩,h.len,?_⟩,fun g hg=>?_⟩
 ·rw[<-h.flat];exact bH
 ·refine⟨by rw[h.len,hl],fun j cs q h3 h4=>?_⟩;refine(h2.at_ j cs q (by rw[<-hl];exact(aD.1 h4).1) h3 h4).cF fun g hg=>⟨?_,fun e=>?_⟩
  ·rcases hg with hg|⟨k1,lo,hi,k2,k3,k4⟩
   ·exact hg.elim
   ·exact .inr ⟨k1,_,_,bF.2 rfl,k1,by have:=r.qW lo hi k2;have:=r.size;omega⟩
  ·injection e with e;exact Rel.not r (bw w0) hg id _ hH Oe e
 ·injection hg with hg;subst hg;exact .inr ⟨Od.1,_,_,bF.2 rfl,Od.1,Od.2⟩
end
def qQ(x:Int×Int):Rat:=ratio x.1 x.2
def Few(xs:List (Int×Int)):Prop:=∀x∈xs,ln x.1.natAbs<=10000000000∧ln x.2.natAbs<=10000000000
theorem LJ(hS:Old S w)(h:fO w S v xs)(hf:Few xs)(hn:xs.length<=1000000):
  dx PG N.th #[v] w (eH w fun v' w2=>DH w2 FF w.heap.size [(w.heap.size,w2.heap.size)] v' xs.length (xs.map qQ)):=by
 replace h:=fO.arg h [];obtain⟨a,c,rfl,hc,-⟩:=eD.shape h;refine xL (by simp) ?_;conv=>whnf
 refine⟨xs.length,xs.length,rfl,rfl,Nat.le_refl _,by omega,by omega,?_⟩;conv=>whnf
 refine⟨Nat×List (List Value)×Iv×World,fun z=>⟨[(3,.o (.s 0 0 xs.length xs.length)),(9,sV a xs.length c),(10,iZ xs.length),(11,iZ z.1)],[(0,.arr T.dK z.2.1.flatten)],1,z.2.2.1,z.2.2.2⟩,fun z=>xs.length-z.1,
  fun z=>z.1<=xs.length∧dT w.heap.size w z.2.2.2∧fO z.2.2.2 (Cv S w.heap.size z.2.2.1) (.slice a xs.length c) xs∧lZ z.2.2.2 (Cf w z.2.2.1) xs.length z.1 z.2.1 (xs.map qQ),?_,?_⟩
 ·intro O w' r;exact⟨(0,List.replicate xs.length f0,[],w'),⟨by simp,r.cL,fO.rel h r hS,lZ.start _ _ _ _⟩,Sub.gn [] r⟩
 clear h;rintro⟨i,css,iv,w1⟩ ⟨hi,hw,hX,hF⟩;dsimp only at hi hw hX hF ⊢;conv=>whnf
 refine dB.mk ?_ ?_<;>intro h
 ·have h:i<xs.length:=by simpa using h
  obtain⟨x,hx⟩:∃x,xs[i]? =some x:=⟨_,aB h⟩
  obtain⟨ad,cs,rfl,hR,-,hl⟩:=eD.load hX hx;obtain⟨b3,a3,n3,c3,b4,a4,n4,c4,rfl,hR⟩:=hR;obtain⟨f1,f2⟩:=hf x (aE hx);conv=>whnf
  refine⟨ad,rfl,by omega,?_⟩;conv=>whnf
  refine⟨[.bool b3,.slice a3 n3 c3,.bool b4,.slice a4 n4 c4],rfl,fun O w' r j u hu=>?_,?_⟩
  ·obtain⟨k1,k2⟩:=hl j u hu;have:=Rel.same r hS k1;rw[aF,cJ (w:=w1) (w2:=w') (by rw[c9,c9];exact this)];exact k2
  conv=>whnf
  refine cB (cI (Φ:=fun _ w' v w2=>cP w2 (Nf w' w2) v (qQ x)) (fun O w' r=>je (Rel.old r hS) (hR.rel r hS) (by omega) (by omega)) ?_);rintro O wa v1 wb r he hb hO;have hON:=hO.dD (S:=FF) r.bz (iv:=(wa.heap.size,wb.heap.size)::iv) aG;replace hF:=hF.cD (iv':=(wa.heap.size,wb.heap.size)::iv) r (bw w) he fun x hx=>aC _ hx;replace hX:=fO.cD (iv':=(wa.heap.size,wb.heap.size)::iv) hX r hS he fun x hx=>aC _ hx;replace hw:=hw.tr hb;clear r he hb hO hl hR;generalize (wa.heap.size,wb.heap.size)::iv=OU at*
  obtain⟨b1,a1,n1,c1,b2,a2,n2,c2,rfl⟩:=hON.shape;have Oh:=hF.next h (q:=qQ x) (by rw[aM,hx];rfl) hON
  conv=>whnf
  refine⟨by omega,?_⟩;conv=>whnf
  refine⟨by have:=hF.flat;omega,(css.set i [.bool b1,.slice a1 n1 c1,.bool b2,.slice a2 n2 c2]).flatten,?_,?_⟩
  ·have:=jI (cs:=[.bool b1,.slice a1 n1 c1,.bool b2,.slice a2 n2 c2]) hF.four (show i<css.length by rw[hF.len];exact h);rw[<-this];simp
  conv=>whnf
  refine⟨((i+1:Nat):Int),wo,?_⟩;conv=>whnf
  intro ρ3 w3 r3;exact⟨(i+1,css.set i [.bool b1,.slice a1 n1 c1,.bool b2,.slice a2 n2 c2],OU,w3),⟨h,hw.tr r3.cL,fO.rel hX r3 hS,Oh.rel r3 (bw w)⟩,Sub.gn [] r3,by dsimp only;omega⟩
 ·have h:i=xs.length:=by
   have:¬i<xs.length:=by simpa using h
   omega
  subst h;conv=>whnf
  exact rtn hw fun ρe we re=>hF.done (by simp) (by unfold maxLen;omega) re (id:=0) rfl (re.nn 0 _ rfl (by intros;simp) (by simp))
structure iR(w:World)(S:Nat->Prop)(B:Nat)(iv:Iv)(rv:List Value)(n:Nat)(M:List (List Rat)):Prop where
 len:rv.length=M.length
 row:∀(i:Nat) v qs,rv[i]? =some v->M[i]? =some qs->lf w (fun g=>Cv S B iv g∧¬ ∃u∈rv,u.ownBlock=some g) v n qs
 rW:∀(i j:Nat) a b g,rv[i]? =some a->rv[j]? =some b->a.ownBlock=some g->b.ownBlock=some g->i=j
 new:∀v∈rv,∀g,v.ownBlock=some g->Cv FF B iv g
theorem eI(B:Nat):∀g,(fun _:Nat=>False) g->g<B:=fun _ h=>h.elim
theorem Cg{B:Nat}{iv:Iv}{g:Nat}(h:Cv FF B iv g):Cv S B iv g:=h.elim (fun h=>h.elim) .inr
section
variable{S S':Nat->Prop}{H:Hp}{nx n i:Nat}{iv iv':Iv}{B:Nat}{w w1 w' w2:World}{O:Nat->Sx.dL}{rv:List Value}{M:List (List Rat)}
theorem iR.cC(h:iR w S B iv rv n M)(hk:∀g,Cv S B iv g->w2.heap[g]? =w.heap[g]?):iR w2 S B iv rv n M:=
 ⟨h.len,fun i v qs h1 h2=>(h.row i v qs h1 h2).cC fun g hg=>hk g (hg.elim (fun h=>h.1) fun hg=>Cg (h.new v (aE h1) g hg)),h.rW,h.new⟩
theorem iR.rel(h:iR w S B iv rv n M)(r:Rel H nx iv B w O w')(hS:∀g,S g->g<B):iR w' S B iv rv n M:=h.cC fun _ hg=>Rel.same r hS hg
theorem iR.cD(h:iR w S B iv rv n M)(r:Rel H nx iv B w O w')(hS:∀g,S g->g<B)(he:Ext w' w2)(hm:∀p,p∈iv->p∈iv'):iR w2 S B iv' rv n M:=
 have h2:=(h.rel r hS).cC fun g hg=>he.block g (Rel.old r hS g hg)
 ⟨h2.len,fun i v qs k1 k2=>(h2.row i v qs k1 k2).cF fun _ hg=>⟨hg.1.mono hm,hg.2⟩,h2.rW,fun v hv g hg=>(h2.new v hv g hg).mono hm⟩
theorem iR.nil(w:World)(S:Nat->Prop)(B:Nat)(iv:Iv)(n:Nat):iR w S B iv [] n []:=⟨rfl,by simp,by simp,by simp⟩
theorem iR.snoc(h:iR w S B iv rv n M)(r:Rel H nx iv B w O w')(hS:∀g,S g->g<B)(he:Ext w' w2)(hv:lf w2 (fun g=>Cv S B ((w'.heap.size,w2.heap.size)::iv) g∧v.ownBlock≠some g∧¬ ∃u∈rv,u.ownBlock=some g) v n qs)
  (Q5:∀g,v.ownBlock=some g->w'.heap.size<=g∧g<w2.heap.size):iR w2 S B ((w'.heap.size,w2.heap.size)::iv) (rv++[v]) n (M++[qs]):=by
 have hold:∀g,Cv S B iv g->g<w'.heap.size:=Rel.old r hS;have h2:=h.cD (iv':=(w'.heap.size,w2.heap.size)::iv) r hS he fun x hx=>aC _ hx;have Wg:∀g,Cv S B iv g->v.ownBlock≠some g:=fun g hg e=>by have:=hold g hg;have:=(Q5 g e).1;omega
 refine⟨by simp[h.len],fun i u ps h3 h4=>?_,fun i j a b g h3 h4 h5 h6=>?_,fun u hu g hg=>?_⟩
 ·rcases aP i rv.length with hi|hi
  ·rw[aJ hi]at h3;rw[aJ (by rw[<-h.len];exact hi)]at h4;have h5:=((h.rel r hS).cC (w2:=w2) fun g hg=>he.block g (hold g hg)).row i u ps h3 h4;refine h5.cF fun g hg=>⟨hg.1.mono fun x hx=>aC _ hx,fun⟨x,hx,e⟩=>?_⟩
   rcases List.mem_append.1 hx with hx|hx
   ·exact hg.2 ⟨x,hx,e⟩
   ·simp at hx;subst hx;exact Wg g hg.1 e
  ·rw[aN hi]at h3;rw[aN (by rw[<-h.len];exact hi)]at h4;have h0:i-rv.length=0:=by
    have:=(aD.1 h3).1;simp at this;omega
   rw[h0]at h3;rw[<-h.len,h0]at h4;simp at h3 h4;subst h3 h4;refine hv.cF fun g hg=>⟨hg.1,fun⟨x,hx,e⟩=>?_⟩
   rcases List.mem_append.1 hx with hx|hx
   ·exact hg.2.2 ⟨x,hx,e⟩
   ·simp at hx;subst hx;exact hg.2.1 e
 ·have key:∀(i:Nat) a,(rv++[v])[i]? =some a->rv[i]? =some a∨(i=rv.length∧a=v):=fun i a ha=>by
   rcases aP i rv.length with hi|hi
   ·rw[aJ hi]at ha;exact .inl ha
   ·rw[aN hi]at ha;have:=(aD.1 ha).1;simp at this;rw[this]at ha;simp at ha;exact .inr ⟨by omega,ha.symm⟩
  have hvn:∀(i:Nat) a,rv[i]? =some a->a.ownBlock=some g->v.ownBlock≠some g:=fun i a ha e=>Wg g (Cg (h.new a (aE ha) g e));rcases key i a h3 with k1|⟨k1,rfl⟩<;>rcases key j b h4 with k2|⟨k2,rfl⟩
  ·exact h.rW i j a b g k1 k2 h5 h6
  ·exact absurd h6 (hvn i a k1 h5)
  ·exact absurd h5 (hvn j b k2 h6)
  ·omega
 ·rcases List.mem_append.1 hu with hu|hu
  ·exact(h.new u hu g hg).mono fun x hx=>aC _ hx
  ·simp at hu;subst hu;have:=Q5 g hg;exact .inr ⟨by have:=r.bz;omega,_,_,aG,this.1,this.2⟩
theorem iR.I6(h:iR w S B iv rv n M)(r:Rel H nx iv B w O w')(hS:∀g,S g->g<B)(hH:cV H id=some (.arr T.row rv))(Oe:(O id).nil=false)(hR:rv.length<=maxLen)(_h1:∀u∈rv,u.oneCell'=true):
  lN w' (fun g=>Cv S B iv g∧¬Mb (.slice (some ⟨(O id).g,0,none⟩) rv.length rv.length) rv g) (.slice (some ⟨(O id).g,0,none⟩) rv.length rv.length) rv n M:=by
 have h2:=h.rel r hS;have Px:∀g,Cv S B iv g->(O id).g≠g:=fun g hg=>Rel.not r hS hg id _ hH Oe;refine⟨⟨by simp,.inr ⟨(O id).g,rv.length,rv.toArray,rfl,aS _,r.arr id _ _ hH,Nat.le_refl _,hR,by simp,by simp⟩⟩,h.len,fun i v qs h3 h4=>?_,h.rW,fun v hv g hg e=>?_⟩
 ·refine(h2.row i v qs h3 h4).cF fun g hg=>⟨hg.1,fun hm=>?_⟩
  rcases hm with hm|hm
  ·injection hm with hm;exact Px g hg.1 hm
  ·exact hg.2 hm
 ·injection e with e;exact Px g (Cg (h.new v hv g hg)) e
structure aAa(w:World)(S:Nat->Prop)(B:Nat)(iv:Iv)(vm:Value)(n:Nat)(M:List (List Rat)):Prop where
 ex:∃rv,lN w (fun g=>Cv S B iv g∧¬Mb vm rv g) vm rv n M∧∀g,Mb vm rv g->Cv FF B iv g
end
def dS(w:World)(S:Nat->Prop)(v:Value)(ps:List Nat):Prop:=iu w S 1 v (ps.map fun c:Nat=>.int .i64 (c:Int)) ps.length
theorem dS.cC{w2:World}(h:dS w S v ps)(hk:∀g,S g->w2.heap[g]? =w.heap[g]?):dS w2 S v ps:=iu.cC h hk
theorem dS.cF{S':Nat->Prop}(h:dS w S v ps)(hk:∀g,S g->S' g):dS w S' v ps:=iu.cF h hk
section
variable{S S':Nat->Prop}{H:Hp}{nx:Nat}{iv iv':Iv}{B:Nat}{w w' w2:World}{O:Nat->Sx.dL}{v:Value}{ps:List Nat}
theorem dS.rel(h:dS w (Cv S B iv) v ps)(r:Rel H nx iv B w O w')(hS:∀g,S g->g<B):dS w' (Cv S B iv) v ps:=dS.cC h fun _ hg=>Rel.same r hS hg
theorem dS.dD(h:dS w2 (Nf w' w2) v ps)(hB:B<=w'.heap.size)(hm:(w'.heap.size,w2.heap.size)∈iv):dS w2 (Cv S B iv) v ps:=dS.cF h fun _ hg=>hg.dD hB hm
end
section
variable{S S':Nat->Prop}{H:Hp}{nx n:Nat}{iv iv':Iv}{B:Nat}{w w' w2:World}{O:Nat->Sx.dL}{v:Value}{qs:List Rat}
end
def fq(A:List (List Rat))(pv:List Nat)(cols c i:Nat):List Rat:=(List.range i).foldl (fun x i=>x.set (pv.getD i 0) (-(cW A i c))) ((List.replicate cols 0).set c 1)
def eL(A:List (List Rat))(pv:List Nat)(cols c:Nat):List (List Rat):=((List.range c).filter fun c=>decide (c∉pv)).map fun c=>fq A pv cols c pv.length
theorem gl(A:List (List Rat))(pv:List Nat)(cols c i:Nat):fq A pv cols c (i+1)=(fq A pv cols c i).set (pv.getD i 0) (-(cW A i c)):=by
 rw[fq,bW,List.foldl_append];rfl
theorem jv(A:List (List Rat))(pv:List Nat)(cols c i:Nat):(fq A pv cols c i).length=cols:=by
 induction i with
 |zero=>simp[fq]
 |succ i ih=>rw[gl,bX,ih]
theorem Ej{cols c:Nat}(h:c∈pv):eL A pv cols (c+1)=eL A pv cols c:=by
 rw[eL,bW,List.filter_append];simp[h,eL]
theorem Cp{cols c:Nat}(h:c∉pv):eL A pv cols (c+1)=eL A pv cols c++[fq A pv cols c pv.length]:=by
 rw[eL,bW,List.filter_append];simp[h,eL]
theorem dG.rowOf(h:gj w S S v qs):∃a c,v= .slice a qs.length c:=by
 obtain⟨a,c,h,_⟩:=h.shape;exact⟨a,c,h⟩
theorem gj.from{a:Option Addr}{n c k:Nat}(h:gj w C S (.slice a n c) qs)(hk:k<=n):
  gj w C S (.slice (if (c:Int)=(k:Int)then a else a.map (·.add (k*4))) (n-k) (c-k)) (qs.drop k):=by
 obtain⟨css,⟨h0,h1,h2,a',c',e,h3,h4⟩,hf⟩:=h;injection e with e1 e2 e3;subst e1 e2 e3;have hd:(css.drop k).flatten=css.flatten.drop (k*4):=by
  have:=eo (css:=css.take k) (fun cs hc=>hf.nH cs (bS hc));conv=>rhs;rw[<-List.take_append_drop k css,List.flatten_append]
  have hl:(css.take k).length=k:=by rw[aZ,hf.1];omega
  rw[hl]at this;rw[<-this,List.drop_left]
 refine⟨css.drop k,⟨?_,?_,?_,_,c-k,by rw[List.length_drop],by simp;omega,fun j u hu=>?_⟩,?_,fun j cs q hc hq=>?_⟩
 ·simp;omega
 ·rw[hd,List.length_drop,h1,List.length_drop,Nat.sub_mul]
 ·intro u hu;rw[hd]at hu;exact h2 u (List.mem_of_mem_drop hu)
 ·rw[hd,List.getElem?_drop]at hu;obtain⟨ad,k1,k2,k3⟩:=h4 (k*4+j) u hu;have Ou:=(aD.1 hu).1;subst k1;rw[aI (by omega)];refine⟨ad.add (k*4),rfl,by rw[c9];exact k2,?_⟩;rw[<-k3];have:(ad.add (k*4)).add j=ad.add (k*4+j):=by
   unfold Addr.add;split<;>split<;>simp_all<;>omega
  rw[this]
 ·rw[List.length_drop,List.length_drop,hf.1]
 ·rw[List.getElem?_drop]at hc hq;exact hf.2 _ cs q hc hq
theorem Ec(hC:Old C w)(hS:Old S w)(h:gj w C S v qs)(hn:0<qs.length)(hl:qs.length<=1000000):
  dx PG N.fC #[v] w (eH w fun v' w2=>lf w2 S v' qs.length qs∧(∀g,v'.ownBlock=some g->w.heap.size<=g∧g<w2.heap.size)):=by
 obtain⟨a,c,rfl,hc,hm⟩:=h.shape;obtain⟨css,⟨h0,h1,h2,a',c',e,h3,h4⟩,hf⟩:=h;injection e with e1 e2 e3;subst e1 e3;have PY:css.length=qs.length:=hf.1;obtain⟨ad,rfl⟩:∃ad,a=some ad:=by
  obtain⟨ad,k1,_⟩:=h4 0 _ (aB (show 0<css.flatten.length by omega));exact⟨ad,k1⟩
 refine gS (by simp) ?_;conv=>whnf
 refine⟨false,fun O w1 o1 o2=>by simp[eqGuard,SV.den,At.den,jm (P:=PG) w1 T.row T.dK (some ad) qs.length c 0 0 M8],?_⟩;conv=>whnf
 refine .inl ?_;conv=>whnf
 refine⟨css.flatten,h1,h2,fun O w1 r h0=>⟨ad,rfl,fun j u hu=>?_⟩,?_⟩
 ·obtain⟨ad2,k1,k2,k3⟩:=h4 j u hu;injection k1 with k1;subst k1;exact jl hC dT.refl r k2 k3
 conv=>whnf
 refine⟨rfl,by omega,by unfold maxLen;omega,?_⟩;conv=>whnf
 intro ρ3 w3 r3;refine⟨_,rfl,r3.cL,?_⟩;have hf3:Fr w3 S css qs:=hf.cC fun g hg=>r3.cL.block g (hS g hg);rcases r3.vec 1 T.dK 4 css.flatten rfl with⟨Oe,hemp⟩|⟨Oe,spare,hb,hcp,QF⟩
 ·rw[hemp]at h1;simp at h1;omega
 have Od:=r3.low 1 _ rfl Oe;have TL:((At.w 1 (0+qs.length)).den ρ3)= .slice (some ⟨(ρ3 1).g,0,none⟩) qs.length (ρ3 1).cap:=by simp[At.den,Oe]
 show lf w3 S ((At.w 1 (0+qs.length)).den ρ3) qs.length qs∧∀g,((At.w 1 (0+qs.length)).den ρ3).ownBlock=some g->_;rw[TL];have hls:(css.flatten++spare).length=css.flatten.length+spare.length:=List.length_append;refine⟨⟨css,⟨h1,.inr ⟨(ρ3 1).g,(ρ3 1).cap,(css.flatten++spare).toArray,rfl,aS _,hb,by omega,QF,by simpa using hcp,?_⟩⟩,PY,hf3⟩,fun g hg=>?_⟩
 ·rw[<-h1];simp
 ·injection hg with hg;subst hg;exact Od
abbrev kY(M:List (List (Int×Int))):List (List Rat):=M.map fun r=>r.map qQ
def gW(A:List (List Rat))(pv:List Nat)(cols i:Nat):List Rat:=(List.range i).foldl (fun x i=>x.set (pv.getD i 0) (cW A i cols)) (List.replicate cols 0)
theorem gp(A:List (List Rat))(pv:List Nat)(cols i:Nat):gW A pv cols (i+1)=(gW A pv cols i).set (pv.getD i 0) (cW A i cols):=by
 rw[gW,bW,List.foldl_append];rfl
structure aA8(w:World)(B:Nat)(iv:Iv)(rv:List Value)(v:Value)(n:Nat)(qs:List Rat):Prop where
 row:lf w (fun g=>(Cv FF B iv g∧¬ ∃u∈rv,u.ownBlock=some g)∧v.ownBlock≠some g) v n qs
 oz:∀g,v.ownBlock=some g->Cv FF B iv g
section
variable{H:Hp}{nx n:Nat}{iv iv':Iv}{B:Nat}{w w' w2:World}{O:Nat->Sx.dL}{v:Value}{qs:List Rat}{rv:List Value}
theorem cP.lim{u:Value}(h:cP w2 (Nf w' w2) u q)(r:Rel H nx iv B w O w')(OX:∀u∈rv,∀g,u.ownBlock=some g->Cv FF B iv g):
  cP w2 (fun g=>Cv FF B ((w'.heap.size,w2.heap.size)::iv) g∧¬ ∃u∈rv,u.ownBlock=some g) u q:=
 h.cF fun g hg=>by
  rcases hg with hg|hg
  ·exact hg.elim
  ·refine⟨.inr ⟨by have:=r.bz;omega,_,_,aG,hg.1,hg.2⟩,fun⟨u,hu,e⟩=>?_⟩;have:=Rel.old r (eI B) g (OX u hu g e);omega
end
def jA(w:World)(S:Nat->Prop)(cs:List Value)(q:Rat):Prop:=∃b a n c b2 a2 n2 c2,cs=[.bool b,.slice a n c,.bool b2,.slice a2 n2 c2]∧cN w S (.agg #[.bool b,.slice a n c,.bool b2,.slice a2 n2 c2]) q
abbrev cS:=eD jA
abbrev cT:=dG cS
section
variable{S S':Nat->Prop}{H:Hp}{nx:Nat}{iv iv':Iv}{B:Nat}{w w' w2:World}{O:Nat->Sx.dL}{v:Value}{qs:List Rat}{cs:List Value}{q:Rat}
theorem jA.cC(h:jA w S cs q)(hk:∀g,S g->w2.heap[g]? =w.heap[g]?):jA w2 S cs q:=by
 obtain⟨b,a,n,c,b2,a2,n2,c2,h1,h2⟩:=h;exact⟨b,a,n,c,b2,a2,n2,c2,h1,h2.cC hk⟩
theorem jA.cF(h:jA w S cs q)(hk:∀g,S g->S' g):jA w S' cs q:=by
 obtain⟨b,a,n,c,b2,a2,n2,c2,h1,h2⟩:=h;exact⟨b,a,n,c,b2,a2,n2,c2,h1,h2.cF hk⟩
theorem cS.cC(h:cS w S v qs)(hk:∀g,S g->w2.heap[g]? =w.heap[g]?):cS w2 S v qs:=by
 obtain⟨css,h1,h2,h3,h4⟩:=h;exact⟨css,h1.cC hk,h2,h3,fun j cs x k1 k2=>(h4 j cs x k1 k2).cC hk⟩
theorem cS.cF(h:cS w S v qs)(hk:∀g,S g->S' g):cS w S' v qs:=by
 obtain⟨css,h1,h2,h3,h4⟩:=h;exact⟨css,h1.cF hk,h2,h3,fun j cs x k1 k2=>(h4 j cs x k1 k2).cF hk⟩
theorem cT.cC{M:List (List Rat)}(h:cT w S v M)(hk:∀g,S g->w2.heap[g]? =w.heap[g]?):cT w2 S v M:=by
 obtain⟨rv,h1,h2,h3⟩:=h;exact⟨rv,h1.cC hk,h2,fun i u x k1 k2=>cS.cC (h3 i u x k1 k2) hk⟩
theorem cT.cF{M:List (List Rat)}(h:cT w S v M)(hk:∀g,S g->S' g):cT w S' v M:=by
 obtain⟨rv,h1,h2,h3⟩:=h;exact⟨rv,h1.cF hk,h2,fun i u x k1 k2=>cS.cF (h3 i u x k1 k2) hk⟩
end
section
variable{S S':Nat->Prop}{H:Hp}{nx:Nat}{iv iv':Iv}{B:Nat}{w w' w2:World}{O:Nat->Sx.dL}{v:Value}{qs:List Rat}
theorem cS.rel(h:cS w (Cv S B iv) v qs)(r:Rel H nx iv B w O w')(hS:∀g,S g->g<B):cS w' (Cv S B iv) v qs:=cS.cC h fun _ hg=>Rel.same r hS hg
theorem cS.cD(h:cS w (Cv S B iv) v qs)(r:Rel H nx iv B w O w')(hS:∀g,S g->g<B)(he:Ext w' w2)(hm:∀p,p∈iv->p∈iv'):cS w2 (Cv S B iv') v qs:=
 cS.cF (cS.cC (cS.rel h r hS) fun g hg=>he.block g (Rel.old r hS g hg)) fun _ hg=>hg.mono hm
theorem cS.dD(h:cS w2 (Nf w' w2) v qs)(hB:B<=w'.heap.size)(hm:(w'.heap.size,w2.heap.size)∈iv):cS w2 (Cv S B iv) v qs:=cS.cF h fun _ hg=>hg.dD hB hm
theorem cS.out{w1:World}(h:cS w1 (Cv S w0.heap.size iv) v qs)(r:Rel H nx iv w0.heap.size w1 O w')(hS:Old S w0):cS w' (Nw S w0 w') v qs:=
 cS.cF (cS.rel h r hS) fun _ hg=>Cv.nw hg r
end
section
variable{S S':Nat->Prop}{H:Hp}{nx:Nat}{iv iv':Iv}{B:Nat}{w w' w2:World}{O:Nat->Sx.dL}{v:Value}{M:List (List Rat)}
theorem cT.rel(h:cT w (Cv S B iv) v M)(r:Rel H nx iv B w O w')(hS:∀g,S g->g<B):cT w' (Cv S B iv) v M:=cT.cC h fun _ hg=>Rel.same r hS hg
theorem cT.cD(h:cT w (Cv S B iv) v M)(r:Rel H nx iv B w O w')(hS:∀g,S g->g<B)(he:Ext w' w2)(hm:∀p,p∈iv->p∈iv'):cT w2 (Cv S B iv') v M:=
 cT.cF (cT.cC (cT.rel h r hS) fun g hg=>he.block g (Rel.old r hS g hg)) fun _ hg=>hg.mono hm
theorem cT.dD(h:cT w2 (Nf w' w2) v M)(hB:B<=w'.heap.size)(hm:(w'.heap.size,w2.heap.size)∈iv):cT w2 (Cv S B iv) v M:=cT.cF h fun _ hg=>hg.dD hB hm
theorem cT.old(h:cT w2 (Nw (Cv S B iv) w' w2) v M)(hB:B<=w'.heap.size):cT w2 (Cv S B ((w'.heap.size,w2.heap.size)::iv)) v M:=cT.cF h fun _ hg=>Nw.cv hg hB
theorem cT.out{w1:World}(h:cT w1 (Cv S w0.heap.size iv) v M)(r:Rel H nx iv w0.heap.size w1 O w')(hS:Old S w0):cT w' (Nw S w0 w') v M:=
 cT.cF (cT.rel h r hS) fun _ hg=>Cv.nw hg r
end
theorem jw(A:List (List Rat))(pv:List Nat)(cols i:Nat):(gW A pv cols i).length=cols:=by
 induction i with
 |zero=>simp[gW]
 |succ i ih=>rw[gp,bX,ih]
theorem Ei(A:List (List Rat))(pv:List Nat)(cols c:Nat):(eL A pv cols c).length<=c:=by
 unfold eL;rw[aL];exact aW (List.length_filter_le _ _) (by simp)
end Go.Ex
namespace Go.Ex
variable{ds l:List Nat}
def dC:List Int->Int
 |[]=>0
 |c::r=>c+65536*dC r
def up(k:Nat):Int:=65536^k
theorem CN(k:Nat):up (k+1)=65536*up k:=by rw[up,Int.pow_succ,Int.mul_comm];rfl
theorem KM(k:Nat):0<up k:=Int.pow_pos (by decide)
theorem AW(a b:List Int):dC (a++b)=dC a+up a.length*dC b:=by
 induction a with
 |nil=>simp[dC,up]
 |cons c r ih=>rw[List.cons_append,dC,ih,dC,List.length_cons,CN,Int.mul_add,<-Int.mul_assoc];omega
theorem GB(a:List Int):dC (a.map (- ·))= -dC a:=by
 induction a with
 |nil=>rfl
 |cons c r ih=>rw[List.map_cons,dC,ih,dC];omega
def Dg(l:List Nat):Prop:=∀d∈l,d<65536
def l9(l:List Nat):Int:=dC (l.map fun d:Nat=>(d:Int))
theorem zC(h:Dg l):0<=l9 l∧l9 l<up l.length:=by
 induction l with
 |nil=>exact⟨Int.le_refl _,by decide⟩
 |cons d r ih=>
  have h1:=ih fun x hx=>h x (aC _ hx);have h2:=h d aG;have e:l9 (d::r)=(d:Int)+65536*l9 r:=rfl;rw[e,List.length_cons,CN];omega
def dH:List Int->Int->List Nat×Int
 |[],k=>([],k)
 |c::r,k=>(((c+k) % 65536).toNat::(dH r ((c+k) / 65536)).1,(dH r ((c+k) / 65536)).2)
theorem kg:∀(cs:List Int) (k:Int),dC cs+k=l9 (dH cs k).1+up cs.length*(dH cs k).2∧Dg (dH cs k).1∧(dH cs k).1.length=cs.length
 |[],k=>⟨by simp[dC,dH,l9,up],by simp[dH,Dg],rfl⟩
 |c::r,k=>by
  obtain⟨h1,h2,h3⟩:=kg r ((c+k) / 65536);have h4:0<=(c+k) % 65536:=Int.emod_nonneg _ (by decide);have h5:(c+k) % 65536<65536:=Int.emod_lt_of_pos _ (by decide);have h6:=Int.mul_ediv_add_emod (c+k) 65536;refine⟨?_,fun d hd=>?_,by simp[dH,h3]⟩
  ·have e:l9 (dH (c::r) k).1=(((c+k) % 65536).toNat:Int)+65536*l9 (dH r ((c+k) / 65536)).1:=rfl;have e2:(dH (c::r) k).2=(dH r ((c+k) / 65536)).2:=rfl;rw[e,e2,dC,List.length_cons,CN,Int.mul_assoc];omega
  ·have e:(dH (c::r) k).1=((c+k) % 65536).toNat::(dH r ((c+k) / 65536)).1:=rfl;rw[e]at hd;rcases List.mem_cons.1 hd with rfl|hd
   ·omega
   ·exact h2 d hd
theorem CO(cs:List Int)(c k:Int):dH (cs++[c]) k=((dH cs k).1++[((c+(dH cs k).2) % 65536).toNat],(c+(dH cs k).2) / 65536):=by
 induction cs generalizing k with
 |nil=>rfl
 |cons d r ih=>simp only[List.cons_append,dH,ih]
theorem jz:∀(cs:List Int) (k:Int),(∀c∈cs,-1152921504606846976<=c∧c<=1152921504606846976)-> -1152921504606846976<=k->k<=1152921504606846976-> -1152921504606846976<=(dH cs k).2∧(dH cs k).2<=1152921504606846976
 |[],k,_,h1,h2=>⟨h1,h2⟩
 |c::r,k,h,h1,h2=>by
  have hc:=h c aG;exact jz r _ (fun x hx=>h x (aC _ hx)) (by omega) (by omega)
def ct(n:Nat):List Nat:=if h:n=0 then []else n % 65536::ct (n / 65536)
termination_by n
decreasing_by omega
theorem kh:ct 0=[]:=by rw[ct];rfl
theorem pS{n:Nat}(h:0<n):ct n=n % 65536::ct (n / 65536):=by
 rw[ct,dif_neg (by omega)]
theorem ki(n:Nat):l9 (ct n)=n∧Dg (ct n):=by
 induction n using Nat.strongRecOn with
 |_ n ih=>
  rcases bJ n with h|h
  ·subst h;rw[kh];exact⟨rfl,by simp[Dg]⟩
  ·rw[pS h];obtain⟨h1,h2⟩:=ih (n / 65536) (by omega);refine⟨?_,fun d hd=>?_⟩
   ·have e:l9 (n % 65536::ct (n / 65536))=((n % 65536:Nat):Int)+65536*l9 (ct (n / 65536)):=rfl;rw[e,h1];omega
   ·rcases List.mem_cons.1 hd with rfl|hd
    ·omega
    ·exact h2 d hd
theorem jY{n:Nat}:∀{k:Nat},n<65536^k->(ct n).length<=k
 |0,h=>by
  have:n=0:=by simp at h;exact h
  subst this;rw[kh];simp
 |k+1,h=>by
  rcases bJ n with h0|h0
  ·subst h0;rw[kh];simp
  ·rw[pS h0,List.length_cons];have:=jY (n:=n / 65536) (k:=k) (by rw[Nat.pow_succ]at h;exact Nat.div_lt_of_lt_mul (by rw[bL];exact h));omega
def gZ:List Nat->List Nat
 |[]=>[]
 |[a]=>[a]
 |a::b::r=>(a+65536*b)::gZ r
theorem zD:∀(l:List Nat),Dg l->(val (gZ l):Int)=l9 l∧Lm (gZ l)∧(gZ l).length=(l.length+1) / 2
 |[],_=>⟨rfl,by simp[gZ,Lm],rfl⟩
 |[a],h=>by
  have:=h a (by simp);exact⟨by simp[gZ,val,l9,dC],fun x hx=>by simp[gZ]at hx;omega,by simp[gZ]⟩
 |a::b::r,h=>by
  obtain⟨h1,h2,h3⟩:=zD r fun x hx=>h x (aC _ (aC _ hx));have ha:=h a (by simp);have hb:=h b (by simp);refine⟨?_,fun x hx=>?_,?_⟩
  ·have e:l9 (a::b::r)=(a:Int)+65536*((b:Int)+65536*l9 r):=rfl;rw[e,<-h1,gZ,val];simp only[Int.natCast_add,Int.natCast_mul]
   omega
  ·rw[gZ]at hx;rcases List.mem_cons.1 hx with rfl|hx
   ·omega
   ·exact h2 x hx
  ·rw[gZ,List.length_cons,h3];simp only[List.length_cons]
   omega
def pk(ds:List Nat)(k:Nat):List Nat:=(List.range k).map fun i=>ds.getD (2*i) 0+65536*ds.getD (2*i+1) 0
theorem xk(ds:List Nat)(k:Nat):pk ds (k+1)=pk ds k++[ds.getD (2*k) 0+65536*ds.getD (2*k+1) 0]:=by simp[pk,bW]
theorem vC(ds:List Nat)(k:Nat):(pk ds k).length=k:=by simp[pk]
theorem KN:∀(ds:List Nat),pk ds ((ds.length+1) / 2)=gZ ds
 |[]=>rfl
 |[a]=>by simp[pk,gZ,bW]
 |a::b::r=>by
  have ih:=KN r;have e:((a::b::r).length+1) / 2=(r.length+1) / 2+1:=by simp only[List.length_cons];omega
  rw[e,gZ,<-ih,pk,List.range_succ_eq_map,List.map_cons,List.map_map,pk];congr 1
theorem KO(h:Dg ds)(k:Nat):Lm (pk ds k):=fun x hx=>by
 obtain⟨i,_,rfl⟩:=aR.1 hx;have key:∀j,ds.getD j 0<65536:=fun j=>by
  rw[List.getD]
  cases hj:ds[j]? with
  |none=>simp
  |some d=>simp;exact h d (aE hj)
 have h1:=key (2*i);have h2:=key (2*i+1);omega
end Go.Ex
namespace Go.Ex
open Go Go.Sx Go.Proofs
variable{cs:List Int}{S:Nat->Prop}{v:Value}{w:World}
def dR(w:World)(S:Nat->Prop)(v:Value)(cs:List Int):Prop:=iu w S 1 v (cs.map (Value.int .i64)) cs.length
theorem dR.cC{w2:World}(h:dR w S v cs)(hk:∀g,S g->w2.heap[g]? =w.heap[g]?):dR w2 S v cs:=iu.cC h hk
theorem dR.cF{S':Nat->Prop}(h:dR w S v cs)(hk:∀g,S g->S' g):dR w S' v cs:=iu.cF h hk
theorem dR.load{a:Option Addr}{n c j:Nat}{x:Int}(h:dR w S (.slice a n c) cs)(hx:cs[j]? =some x):∃ad,a=some ad∧S ad.block∧w.cell? (ad.add (j*1))=some (.int .i64 x):=by
 obtain⟨_,_,_,a',c',e,_,h4⟩:=h;injection e with e1 e2 e3;subst e1;obtain⟨ad,k1,k2,k3⟩:=h4 j (.int .i64 x) (by rw[aM,hx];rfl);exact⟨ad,k1,k2,by rw[aY];exact k3⟩
theorem dR.shape(h:dR w S v cs):∃a c,v= .slice a cs.length c∧cs.length<=c:=by
 obtain⟨_,_,_,a',c',e,h3,_⟩:=h;exact⟨a',c',e,h3⟩
def dZ(ds:List Nat):List Int:=ds.map fun d:Nat=>(d:Int)
theorem ec(ds:List Nat):(dZ ds).length=ds.length:=by simp[dZ]
end Go.Ex
namespace Go.Sx
open Go Go.Ex Go.Proofs
variable{cs:List Value}{O:Nat->Sx.dL}
theorem Rel.DI{H:Hp}{nx:Nat}{iv:Iv}{B:Nat}{w w':World}(r:Rel H nx iv B w O w'){id t m sz:Nat}(h:cV H id=some (.vec t sz cs))(hm:cs.length=m*sz)(hs:0<sz):
  w'.ownsRow B t sz ((At.w id m).den O) m cs:=by
 rcases r.vec id t sz _ h with⟨hn,rfl⟩|⟨hn,spare,hb,hc,QF⟩
 ·have Uj:m=0:=by
   rcases bJ m with h|h
   ·exact h
   ·have:=Nat.mul_pos h hs;simp at hm;omega
  subst Uj;have:(At.w id 0).den O= .slice none 0 0:=by simp[At.den,hn]
  rw[this];exact World.ownsRow_nil _ _ _ _
 ·have hv:(At.w id m).den O= .slice (some ⟨(O id).g,0,none⟩) m (O id).cap:=by simp[At.den,hn]
  have h1:(cs++spare).length=cs.length+spare.length:=List.length_append;rw[hv];refine⟨hm,.inr ⟨(O id).g,(O id).cap,_,rfl,(r.low id _ h hn).1,hb,?_,QF,by simpa using hc,?_⟩⟩
  ·have h2:m*sz<=(O id).cap*sz:=by omega
   exact Nat.le_of_mul_le_mul_right h2 hs
  ·rw[<-hm];simp
end Go.Sx
namespace Go.Ex
open Go Go.Sx Go.Proofs
theorem FA(n:Nat)(w:World)(hn:n<=9223372036854775807):dx PG N.tn #[.int .i64 n] w (eH w fun v w2=>dR w2 (Nf w w2) v (dZ (ct n))):=by
 refine xP (by simp) ?_
 refine⟨Nat×List Nat×World,fun z=>⟨[(0,iZ z.1),(3,.o (.w 0 z.2.1.length))],[(0,.vec T.int 1 ((dZ z.2.1).map (Value.int .i64)))],1,[],z.2.2⟩,fun z=>z.1,
  fun z=>dT w.heap.size w z.2.2∧z.1<=n∧z.2.1.length<=n-z.1∧z.2.1++ct z.1=ct n,?_,?_⟩
 ·intro O w' r
  exact⟨(n,[],w'),⟨r.cL,Nat.le_refl _,by simp,by simp⟩,Sub.nil 3 T.int 1 rfl (by simp[l6,SV.sc,At.sc,iW]) r fun ρ1 r1=>
   Sub.gn [] r1⟩
 rintro⟨k,ds,w1⟩ ⟨hw,hk,hl,hs⟩;dsimp only at hw hk hl hs ⊢;have Ro:=ec ds;refine dB.mk ?_ ?_<;>intro h
 ·have h:0<k:=by
   have:(k:Int)>0:=aK h;omega
  refine⟨by decide,((k % 65536:Nat):Int),LK k 65536,?_⟩;refine .inl ?_;refine⟨by simp[Ro],?_,by have h1:=congrArg List.length hs;rw[List.length_append]at h1;have h2:=jY (n:=n) (k:=4) (by omega);unfold maxLen;omega,?_⟩
  ·have h1:=congrArg List.length hs;rw[List.length_append]at h1;have h2:=jY (n:=n) (k:=4) (by omega);omega
  refine⟨by decide,((k / 65536:Nat):Int),M7 (by omega),?_⟩;intro ρ3 w3 r3;have hl5:(ds++[k % 65536]).length=ds.length+1:=by simp
  have TU:(dZ (ds++[k % 65536])).map (Value.int .i64)=(dZ ds).map (Value.int .i64)++[.int .i64 ((k % 65536:Nat):Int)]:=by simp[dZ]
  refine⟨(k / 65536,ds++[k % 65536],w3),⟨hw.tr r3.cL,by dsimp only;omega,by dsimp only;rw[hl5];omega,?_⟩,
   Sub.gn [(0,2)] r3 ⟨by rw[TU];rfl,trivial⟩ ⟨rfl,by dsimp only;rw[hl5];rfl,trivial⟩,by dsimp only;omega⟩
  dsimp only
  rw[<-hs,pS h];simp
 ·have h:k=0:=by
   have:¬(k:Int)>0:=aH h;omega
  subst h;rw[kh,List.append_nil]at hs;subst hs;intro ρe we re;refine⟨_,rfl,hw.tr re.cL,?_⟩;have:=re.kR (id:=0) (sz:=1) (m:=(ct n).length) rfl (by simp[Ro]) (by have h2:=jY (n:=n) (k:=4) (by omega);unfold maxLen;omega) (by decide) (by intro u hu;simp at hu;obtain⟨_,_,rfl⟩:=hu;rfl);unfold dR;rw[Ro];exact this.cF fun g hg=>.inr hg
end Go.Ex
