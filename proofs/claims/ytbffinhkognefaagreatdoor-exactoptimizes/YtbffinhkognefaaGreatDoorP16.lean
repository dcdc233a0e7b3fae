/- Texts X249 to XTw: lemmas, each with its conditions. -/
import Derived.Laws.OwnMore
import Derived.Test.YtbffinhkognefaaGreatDoorP15
namespace Go.Ex
open Go Go.Sx Go.Proofs
variable{B:Nat}{X:Nat->Prop}{O:Nat->Sx.eH}{w F:World}
theorem ta{H:Hp}{nx:Nat}{iv:Iv}{J:World}{v v':Value}(r:Rel H nx iv B w O J)(Po:∀g,v.ownBlock=some g->∀id b,dV H id=some b->(O id).nil=false->(O id).g≠g)(QK:J.heap.size<=F.heap.size)(S0:∀g,v'.ownBlock=some g->g<F.heap.size/\(v.ownBlock=some g\/g=J.heap.size)):
  ∀lo N,(lo,N)∈en v'++iv->N<=F.heap.size/\∀id b,dV H id=some b->(O id).nil=false->¬(lo<=(O id).g/\(O id).g<N):=fun lo N hm=>by
 rcases bB.1 hm with hm|hm
 .obtain⟨V,rfl⟩:=kX.1 hm;obtain⟨Y,I⟩:=S0 _ V;refine⟨be,fun id c hc U L=>?_⟩;rcases I with I|I
  .exact Po _ I id c hc U be
  .have:=(r.low id c hc U).2;omega
 .have:=r.oc lo N hm;have:=r.size;exact⟨be,fun id c hc U=>r.jU lo N hm id c hc U⟩
theorem Kept.gz{C9:Nat->Prop}{w0:World}(h:Kept w0 w X)(k:Kept w F C9)(hY:∀g,g<w0.heap.size->C9 g->X g):Kept w0 F X:=
 ⟨k.os.trans h.os,k.tape.trans h.tape,k.output.trans h.output,aR h.size k.size,fun j hj E=>(k.block j (Nat.lt_of_lt_of_le hj h.size) fun hy=>E (hY j hj hy)).trans (h.block j hj E)⟩
theorem Kept.toBel(h:Kept w F X)(hX:∀g,X g->B<=g)(hB:B<=w.heap.size):Bel B w F:=
 ⟨h.os,h.tape,h.output,h.size,fun k R=>h.block k be fun E=>by have:=hX k E;omega⟩
end Go.Ex
namespace Go.Sx
open Go Go.Ex Go.Proofs
variable{O:Nat->Sx.eH}
theorem Sub.aAu{B:Nat}{l tl:Env}{nx:Nat}{H tH:Hp}{iv:Iv}{w J:World}{id t:Nat}{e:TypeId}{cs:List At}(r:Rel H nx iv B w O J)(RE:dV H id=some (.box e cs))(ht:fZ l t=some (.o (.p id 0)))(U:(O id).nil=false)
  (hs:xN H tH) (ho:FM id tH=true) (Y:FZ l tl) (I:jn nx tl):
  Sub B l nx O J ⟨(t,.o (.v (.pointer (some ⟨(O id).g,0,none⟩))))::tl,tH,nx,((O id).g,(O id).g+1)::iv,J⟩:=by
 refine⟨O,r.free RE ce U hs ho,fun u v hv=>?_⟩;rw[fE]at hv;split at hv
 .rename_i e;subst e;injection hv with hv;subst hv;exact⟨trivial,_,ht,rfl⟩
 .exact⟨I.get u v hv,v,Y.get u v hv,rfl⟩
end Go.Sx
namespace Go.Ex
open Go Go.Sx Go.Proofs
section
variable{l:List Nat}{q:List Rat}{S:Nat->Prop}{v:Value}{w:World}
def Tx.hd(x:Tx):List Value:=[x.vb,x.vf,x.va,x.vB,x.vc]
def oH(hd rvx:List Value)(x:Tx)(t:Tb)(tp:List Value)(cb cc:List (List Value))(ca:List (List (List Value))):List Ow:=
 ⟨x.bx,T.table,1,9,hd++tp⟩::⟨x.vb,T.int,1,t.bs.length,ints t.bs⟩::⟨x.vf,T.int,1,t.fs.length,ints t.fs⟩::⟨x.va,T.row,1,rvx.length,rvx⟩::gK x.vB cb::gK x.vc cc::List.zipWith gK x.rv ca
structure Kb(w:World)(S:Nat->Prop)(hd rvx:List Value)(x:Tx)(t:Tb)(tp:List Value)(cb cc:List (List Value))(ca:List (List (List Value))):Prop where
 ows:kK w S (oH hd rvx x t tp cb cc ca)
 ft:jx w S tp t.top
 fb:Fr w S cb t.b
 fc:Fr w S cc t.c
 fl:ca.length=t.a.length
 fa:∀(i:Nat) Z q,ca[i]? =some Z->t.a[i]? =some q->Fr w S Z q
 rl:x.rv.length=t.a.length
 rx:rvx.length=x.rv.length
 h5:hd.length=5
def oz(w:World)(S:Nat->Prop)(hd rvx:List Value)(x:Tx)(t:Tb):Prop:=∃tp cb cc ca,Kb w S hd rvx x t tp cb cc ca
theorem fQ.toJ{x:Tx}{t:Tb}(h:fQ w S x t):oz w S x.hd x.rv x t:=by
 obtain⟨tp,cb,cc,ca,h⟩:=h;exact⟨tp,cb,cc,ca,h.ows,h.ft,h.fb,h.fc,h.fl,h.fa,h.rl,rfl,rfl⟩
theorem oz.toW{x:Tx}{t:Tb}(h:oz w S x.hd x.rv x t):fQ w S x t:=by
 obtain⟨tp,cb,cc,ca,h⟩:=h;exact⟨tp,cb,cc,ca,h.ows,h.ft,h.fb,h.fc,h.fl,h.fa,h.rl⟩
section
variable{w F:World}{S S':Nat->Prop}{hd rvx:List Value}{x:Tx}{t:Tb}{tp:List Value}{cb cc:List (List Value)}{ca:List (List (List Value))}
theorem Kb.dB(h:Kb w S hd rvx x t tp cb cc ca):(oH hd rvx x t tp cb cc ca).map Ow.v=x.dB:=by
 show _::_::_::_::_::_::(List.zipWith gK x.rv ca).map Ow.v=_;rw[j4 (by rw[h.rl,h.fl])];rfl
theorem Kb.cX(h:Kb w S hd rvx x t tp cb cc ca)(R:∀g,S g\/Bv x.dB g->F.heap[g]? =w.heap[g]?):Kb F S hd rvx x t tp cb cc ca:=
 ⟨h.ows.cX fun g V=>R g (.inr (by rw[h.dB]at V;exact V)),h.ft.cX fun g V=>R g (.inl V),h.fb.cX fun g V=>R g (.inl V),h.fc.cX fun g V=>R g (.inl V),h.fl,fun i Z q Y I=>(h.fa i Z q Y I).cX fun g V=>R g (.inl V),h.rl,h.rx,h.h5⟩
theorem oz.aB3(h:oz w S hd rvx x t)(Pp:∀g,g<w.heap.size->x.vb.ownBlock≠some g->F.heap[g]? =w.heap[g]?)(ho:F.ownsRow 0 T.int 1 v l.length (ints l))(A:∀g,v.ownBlock=some g->x.vb.ownBlock=some g\/w.heap.size<=g)
  (W:∀g,S g->g<w.heap.size) (hs:∀g,S g->S' g) (U:∀g,Bv (Tx.dB {x with vb:=v}) g->¬S' g):oz F S' hd rvx {x with vb:=v} {t with bs:=l}:=by
 obtain⟨tp,cb,cc,ca,h⟩:=h;have R:∀g,S g->F.heap[g]? =w.heap[g]? :=fun g V=>Pp g (W g V) fun e=>h.ows.off g (kK.bk (it:=⟨x.vb,T.int,1,t.bs.length,ints t.bs⟩) (by simp[oH]) e) V;have I:kK F FF (oH hd rvx {x with vb:=v} {t with bs:=l} tp cb cc ca):=h.ows.rep (k:=1) (it':=⟨v,T.int,1,l.length,ints l⟩) rfl Pp ho A fun _ _ h=>h;refine⟨tp,cb,cc,ca,I.HY fun g V=>U g ?_,(h.ft.cX R).cV hs,(h.fb.cX R).cV hs,(h.fc.cX R).cV hs,h.fl,fun i Z q Y I=>((h.fa i Z q Y I).cX R).cV hs,h.rl,h.rx,h.h5⟩;have e:(oH hd rvx {x with vb:=v} {t with bs:=l} tp cb cc ca).map Ow.v=Tx.dB {x with vb:=v}:=by
  show _::_::_::_::_::_::(List.zipWith gK x.rv ca).map Ow.v=_;rw[j4 (by rw[h.rl,h.fl])];rfl
 rw[<-e];exact V
theorem oz.aAv(h:oz w S hd rvx x t)(Pp:∀g,g<w.heap.size->x.vf.ownBlock≠some g->F.heap[g]? =w.heap[g]?)(ho:F.ownsRow 0 T.int 1 v l.length (ints l))(A:∀g,v.ownBlock=some g->x.vf.ownBlock=some g\/w.heap.size<=g)
  (W:∀g,S g->g<w.heap.size) (hs:∀g,S g->S' g) (U:∀g,Bv (Tx.dB {x with vf:=v}) g->¬S' g):oz F S' hd rvx {x with vf:=v} {t with fs:=l}:=by
 obtain⟨tp,cb,cc,ca,h⟩:=h;have R:∀g,S g->F.heap[g]? =w.heap[g]? :=fun g V=>Pp g (W g V) fun e=>h.ows.off g (kK.bk (it:=⟨x.vf,T.int,1,t.fs.length,ints t.fs⟩) (by simp[oH]) e) V;have I:kK F FF (oH hd rvx {x with vf:=v} {t with fs:=l} tp cb cc ca):=h.ows.rep (k:=2) (it':=⟨v,T.int,1,l.length,ints l⟩) rfl Pp ho A fun _ _ h=>h;refine⟨tp,cb,cc,ca,I.HY fun g V=>U g ?_,(h.ft.cX R).cV hs,(h.fb.cX R).cV hs,(h.fc.cX R).cV hs,h.fl,fun i Z q Y I=>((h.fa i Z q Y I).cX R).cV hs,h.rl,h.rx,h.h5⟩;have e:(oH hd rvx {x with vf:=v} {t with fs:=l} tp cb cc ca).map Ow.v=Tx.dB {x with vf:=v}:=by
  show _::_::_::_::_::_::(List.zipWith gK x.rv ca).map Ow.v=_;rw[j4 (by rw[h.rl,h.fl])];rfl
 rw[<-e];exact V
theorem oz.aAw(h:oz w S hd rvx x t)(Pp:∀g,g<w.heap.size->x.vc.ownBlock≠some g->F.heap[g]? =w.heap[g]?)(ho:gw F S' v q.length q)(A:∀g,v.ownBlock=some g->x.vc.ownBlock=some g\/w.heap.size<=g)
  (W:∀g,S g->g<w.heap.size) (hs:∀g,S g->S' g) (U:∀g,Bv (Tx.dB {x with vc:=v}) g->¬S' g):oz F S' hd rvx {x with vc:=v} {t with c:=q}:=by
 obtain⟨tp,cb,cc,ca,h⟩:=h;obtain⟨Z,TJ,RB,VJ⟩:=ho;have R:∀g,S g->F.heap[g]? =w.heap[g]? :=fun g V=>Pp g (W g V) fun e=>h.ows.off g (kK.bk (it:=gK x.vc cc) (by simp[oH]) e) V;have I:kK F FF (oH hd rvx {x with vc:=v} {t with c:=q} tp cb Z ca):=h.ows.rep (k:=5) (it':=gK v Z) rfl Pp (by show F.ownsRow 0 T.dO 4 v Z.length _;rw[RB];exact TJ) A fun _ _ h=>h;refine⟨tp,cb,Z,ca,I.HY fun g V=>U g ?_,(h.ft.cX R).cV hs,(h.fb.cX R).cV hs,VJ,h.fl,fun i Z q Y I=>((h.fa i Z q Y I).cX R).cV hs,h.rl,h.rx,h.h5⟩;have e:(oH hd rvx {x with vc:=v} {t with c:=q} tp cb Z ca).map Ow.v=Tx.dB {x with vc:=v}:=by
  show _::_::_::_::_::_::(List.zipWith gK x.rv ca).map Ow.v=_;rw[j4 (by rw[h.rl,h.fl])];rfl
 rw[<-e];exact V
theorem oz.aAx(h:oz w S hd rvx x t){v0:Value}{i:Nat}(hv:x.rv[i]? =some v0)(Pp:∀g,g<w.heap.size->v0.ownBlock≠some g->F.heap[g]? =w.heap[g]?)(ho:gw F S' v q.length q)(A:∀g,v.ownBlock=some g->v0.ownBlock=some g\/w.heap.size<=g)
  (W:∀g,S g->g<w.heap.size) (hs:∀g,S g->S' g) (U:∀g,Bv (Tx.dB {x with rv:=x.rv.set i v}) g->¬S' g):oz F S' hd rvx {x with rv:=x.rv.set i v} {t with a:=t.a.set i q}:=by
 obtain⟨tp,cb,cc,ca,h⟩:=h;obtain⟨Z,TJ,RB,VJ⟩:=ho;have XB:=eU hv;have hic:i<ca.length:=by rw[h.fl,<-h.rl];exact XB
 have hci:ca[i]? =some ca[i]:=aE hic;have hI:(oH hd rvx x t tp cb cc ca)[i+6]? =some (gK v0 ca[i]):=by
  show(List.zipWith gK x.rv ca)[i]? =_;rw[List.getElem?_zipWith,hv,hci]
 have R:∀g,S g->F.heap[g]? =w.heap[g]? :=fun g V=>Pp g (W g V) fun e=>h.ows.off g (kK.bk (aG hI) e) V;have I:kK F FF ((oH hd rvx x t tp cb cc ca).set (i+6) (gK v Z)):=h.ows.rep (it':=gK v Z) hI Pp (by show F.ownsRow 0 T.dO 4 v Z.length _;rw[RB];exact TJ) A fun _ _ h=>h;have e:(oH hd rvx x t tp cb cc ca).set (i+6) (gK v Z)=oH hd rvx {x with rv:=x.rv.set i v} {t with a:=t.a.set i q} tp cb cc (ca.set i Z):=by
  show _::_::_::_::_::_::(List.zipWith gK x.rv ca).set i _=_::_::_::_::_::_::List.zipWith gK (x.rv.set i v) (ca.set i Z);congr 6;apply bA;intro j;by_cases e:i=j
  .subst e;rw[aQ (by rw[List.length_zipWith];omega),List.getElem?_zipWith,aQ XB,aQ hic]
  .rw[aZ e,List.getElem?_zipWith,List.getElem?_zipWith,aZ e,aZ e]
 rw[e]at I;have e2:(oH hd rvx {x with rv:=x.rv.set i v} {t with a:=t.a.set i q} tp cb cc (ca.set i Z)).map Ow.v=Tx.dB {x with rv:=x.rv.set i v}:=by
  show _::_::_::_::_::_::(List.zipWith gK (x.rv.set i v) (ca.set i Z)).map Ow.v=_;rw[j4 (by rw[bW,bW,h.rl,h.fl])];rfl
 refine⟨tp,cb,cc,ca.set i Z,I.HY fun g V=>U g (by rw[<-e2];exact V),(h.ft.cX R).cV hs,(h.fb.cX R).cV hs,(h.fc.cX R).cV hs,by simp[h.fl],fun j Wx q2 h5 h6=>?_,by simp[h.rl],by simp[h.rx],h.h5⟩;by_cases e:i=j
 .subst e;rw[aQ hic]at h5;rw[aQ (by rw[<-h.fl];exact hic)]at h6;injection h5 with h5;injection h6 with h6;subst h5 h6;exact VJ
 .rw[aZ e]at h5 h6;exact((h.fa j Wx q2 h5 h6).cX R).cV hs
end
end
variable{ad:Addr}{H:Hp}{iv:Iv}{M:List (List (Int×Int))}{Fn:List (List Rat)}{l:List Nat}{b c q qs:List Rat}{vs xs:List Value}{B g k nx:Nat}{S:Nat->Prop}{O:Nat->Sx.eH}{v:Value}{w:World}
structure uC(w:World)(S:Nat->Prop)(B:Nat)(iv:Iv)(hd rvx:List Value)(x:Tx)(t:Tb):Prop where
 jK:oz w (Lv S B iv x) hd rvx x t
 kz:∀g,Bv x.dB g->Out B iv g
theorem uC.toO{hd rvx:List Value}{x:Tx}{t:Tb}(h:uC w S B iv hd rvx x t)(Y:hd=x.hd)(I:rvx=x.rv):dJ w S B iv x t:=by
 subst Y I;exact⟨h.jK.toW,h.kz⟩
theorem Bv.cons:Bv (v::vs) g↔v.ownBlock=some g\/Bv vs g:=by
 constructor
 .rintro⟨u,hu,e⟩;rcases List.mem_cons.1 hu with rfl|hu
  .exact .inl e
  .exact .inr ⟨u,hu,e⟩
 .rintro(e|⟨u,hu,e⟩)
  .exact⟨v,aF,e⟩
  .exact⟨u,aD _ hu,e⟩
theorem Bv.dB{x:Tx}:Bv x.dB g↔x.g=g\/x.vb.ownBlock=some g\/x.vf.ownBlock=some g\/x.va.ownBlock=some g\/x.vB.ownBlock=some g\/x.vc.ownBlock=some g\/Bv x.rv g:=by
 unfold Tx.dB;rw[Bv.cons,Bv.cons,Bv.cons,Bv.cons,Bv.cons,Bv.cons];have:(x.bx.ownBlock=some g)↔x.g=g:=⟨fun h=>by injection h,fun h=>by rw[<-h];rfl⟩
 rw[this]
theorem Bv.set{i:Nat}(h:Bv (vs.set i v) g):v.ownBlock=some g\/Bv vs g:=by
 obtain⟨u,hu,e⟩:=h;rcases bQ hu with Y|Y
 .exact .inr ⟨u,Y,e⟩
 .exact .inl (Y▸e)
section
variable{S:Nat->Prop}{H:Hp}{nx:Nat}{iv:Iv}{B:Nat}{w J F:World}{O:Nat->Sx.eH}{x:Tx}{t:Tb}{hd rvx:List Value}{v v0:Value}
structure Ml(w J F:World)(S:Nat->Prop)(B:Nat)(iv:Iv)(v':Value)(hd rvx:List Value)(x x':Tx)(t':Tb):Prop where
 jK:uC F S B (en v'++iv) hd rvx x' t'
 HY:∀g,Lv S B iv x g->F.heap[g]? =w.heap[g]? /\Lv S B (en v'++iv) x' g
 kept:Kept J F (Bv x.dB)
 D8:∀g,Bv x'.dB g->Bv x.dB g\/J.heap.size<=g
theorem dJ.aAK(hT:dJ w S B iv x t)(r:Rel H nx iv B w O J)(W:∀g,S g->g<B){x':Tx}{t':Tb}(h0:∀g,v0.ownBlock=some g->Bv x.dB g)(E:∀g,Bv x'.dB g->v.ownBlock=some g\/Bv x.dB g)(h6:J.grownBy F v0.ownBlock)(h7:v.ownBlock=v0.ownBlock\/v.ownBlock=some J.heap.size)
  (hJ:∀S':Nat->Prop,(∀g,g<J.heap.size->v0.ownBlock≠some g->F.heap[g]? =J.heap[g]?)->(∀g,v.ownBlock=some g->v0.ownBlock=some g\/J.heap.size<=g)->(∀g,Lv S B iv x g->g<J.heap.size)->(∀g,Lv S B iv x g->S' g)->(∀g,Bv x'.dB g->¬S' g)->oz F S' hd rvx x' t'):
  Ml w J F S B iv v hd rvx x x' t':=by
 have hold:=Lv.old (x:=x) r W;have Pq:∀g,Bv x.dB g->g<J.heap.size:=fun g V=>hT.low r V;have Pp:∀g,g<J.heap.size->v0.ownBlock≠some g->F.heap[g]? =J.heap[g]? :=fun g V Po=>h6.block g V (Ne.symm Po);have A:∀g,v.ownBlock=some g->v0.ownBlock=some g\/J.heap.size<=g:=fun g V=>by
  rcases h7 with h7|h7
  .exact .inl (h7▸V)
  .rw[h7]at V;injection V with V;exact .inr be
 have TF:∀p,p∈iv->p∈en v++iv:=fun p hp=>List.mem_append_right _ hp
 have hL:∀g,Lv S B iv x g->Lv S B (en v++iv) x' g:=fun g V=>⟨V.1.mono TF,fun Q2=>by
  rcases E g Q2 with Y|Y
  .rcases A g Y with I|I
   .exact V.2 (h0 g I)
   .have:=hold g V;omega
  .exact V.2 Y⟩
 have Po:∀g,Lv S B iv x g->v0.ownBlock≠some g:=fun g V e=>V.2 (h0 g e);refine⟨⟨hJ (Lv S B (en v++iv) x') Pp A hold hL fun g Q2 hl=>hl.2 Q2,fun g V=>?_⟩,fun g V=>⟨(Pp g (hold g V) (Po g V)).trans (Lv.same r W g V),hL g V⟩,Kept.one h6 fun g e=>h0 g e,fun g V=>?_⟩
 .rcases E g V with Y|Y
  .rcases A g Y with I|I
   .exact(hT.kz g (h0 g I)).mono TF
   .exact .inr ⟨by have:=r.cZ;omega,g,g+1,List.mem_append_left _ (kX.2 ⟨Y,rfl⟩),lr,cG _⟩
  .exact(hT.kz g Y).mono TF
 .rcases E g V with Y|Y
  .rcases A g Y with I|I
   .exact .inl (h0 g I)
   .exact .inr I
  .exact .inl Y
theorem dJ.aAy(hT:dJ w S B iv x t)(r:Rel H nx iv B w O J)(W:∀g,S g->g<B)(h5:F.ownsRow 0 T.int 1 v l.length (ints l))(h6:J.grownBy F x.vb.ownBlock)(h7:v.ownBlock=x.vb.ownBlock\/v.ownBlock=some J.heap.size):
  Ml w J F S B iv v x.hd x.rv x {x with vb:=v} {t with bs:=l}:=
 hT.aAK (v0:=x.vb) r W (fun g e=>Bv.dB.2 (.inr (.inl e))) (fun g h=>by rw[Bv.dB]at h ⊢;simp only at h;rcases h with h|h|h|h|h|h|h<;>simp[h]) h6 h7 fun S' k1 k2 k3 k4 k5=>(hT.rel r W).jK.toJ.aB3 k1 h5 k2 k3 k4 k5
theorem dJ.PK(hT:dJ w S B iv x t)(r:Rel H nx iv B w O J)(W:∀g,S g->g<B)(h5:F.ownsRow 0 T.int 1 v l.length (ints l))(h6:J.grownBy F x.vf.ownBlock)(h7:v.ownBlock=x.vf.ownBlock\/v.ownBlock=some J.heap.size):
  Ml w J F S B iv v x.hd x.rv x {x with vf:=v} {t with fs:=l}:=
 hT.aAK (v0:=x.vf) r W (fun g e=>Bv.dB.2 (.inr (.inr (.inl e)))) (fun g h=>by rw[Bv.dB]at h ⊢;simp only at h;rcases h with h|h|h|h|h|h|h<;>simp[h]) h6 h7 fun S' k1 k2 k3 k4 k5=>(hT.rel r W).jK.toJ.aAv k1 h5 k2 k3 k4 k5
theorem dJ.aAz(hT:dJ w S B iv x t)(r:Rel H nx iv B w O J)(W:∀g,S g->g<B){i:Nat}(hv:x.rv[i]? =some v0)(h5:∀S':Nat->Prop,(∀g,Lv S B iv x g->S' g)->gw F S' v q.length q)(h6:J.grownBy F v0.ownBlock)(h7:v.ownBlock=v0.ownBlock\/v.ownBlock=some J.heap.size):
  Ml w J F S B iv v x.hd x.rv x {x with rv:=x.rv.set i v} {t with a:=t.a.set i q}:=
 hT.aAK (v0:=v0) r W (fun g e=>Bv.dB.2 (.inr (.inr (.inr (.inr (.inr (.inr ⟨v0,aG hv,e⟩))))))) (fun g h=>by
  rw[Bv.dB]at h ⊢;simp only at h;rcases h with h|h|h|h|h|h|h
  any_goals simp[h]
  rcases Bv.set h with h|h<;>simp[h]) h6 h7 fun S' k1 k2 k3 k4 k5=>(hT.rel r W).jK.toJ.aAx hv k1 (h5 S' k4) k2 k3 k4 k5
structure StH(H:Hp)(O:Nat->Sx.eH)(w J:World)(ad:Addr)(v:Value)(S:Nat->Prop)(B:Nat)(iv:Iv)(hd rvx:List Value)(x:Tx)(t:Tb):Prop where
 spot:ad.spot=none
 cells:∀k,k<1->(J.cell? (ad.add k)).isSome=true/\J.frozen? (ad.add k)=false
 own:∀id b,dV H id=some b->(O id).nil=false->(O id).g≠ad.block
 next:∀w4,w4=setCells J ad [v]->uC w4 S B iv hd rvx x t/\Kept J w4 (Bv x.dB)/\∀g,Lv S B iv x g->w4.heap[g]? =w.heap[g]?
theorem uC.same(h:uC w S B iv hd rvx x t)(r:Rel H nx iv B w O J)(W:∀g,S g->g<B):∀g,Lv S B iv x g\/Bv x.dB g->J.heap[g]? =w.heap[g]? :=fun g V=>
 V.elim (fun V=>rls r W V.1) fun V=>rls r (fun _ h=>h) (h.kz g V)
theorem uC.Er(hT:uC w S B iv hd rvx x t)(r:Rel H nx iv B w O J)(W:∀g,S g->g<B)(R:k<5)(QV:ad=⟨x.g,k,none⟩):StH H O w J ad v S B iv (hd.set k v) rvx x t:=by
 obtain⟨tp,cb,cc,ca,hC⟩:=hT.jK;have Pq:∀g,Lv S B iv x g->g<w.heap.size:=fun g V=>by
  rcases V.1 with h|⟨_,lo,N,k1,k2,k3⟩
  .have:=W g h;have:=r.base;omega
  .have:=r.oc lo N k1;omega
 have ht4:=hC.ft.len;have hh5:=hC.h5;obtain⟨Y,I,h3,h4⟩:=hC.ows.st (k:=0) (off:=k) (nv:=[v]) r (fun g V=>hT.kz g (by rw[<-hC.dB];exact V)) (Lv.same r W) rfl (by show k+1<=9*1;omega) ce (ad:=ad) fun g c e=>by
  injection e with e;injection e with e;injection e with e;rw[QV,e]
 refine⟨Y,I,h3,fun w4 QG=>?_⟩;obtain⟨h5,h6,h7⟩:=h4 w4 QG;have hL:∀g,Lv S B iv x g->w4.heap[g]? =J.heap[g]? :=fun g V=>h7 g V (Pq g V);have YD:=hC.cX (hT.same r W);have e:(hd++tp).take k++[v]++(hd++tp).drop (k+1)=hd.set k v++tp:=by
  rw[List.take_append_of_le_length be,List.drop_append_of_le_length be,List.set_eq_take_append_cons_drop,aM be];simp
 have h8:=YD.ows.put (k:=0) rfl h5 h6;refine⟨⟨⟨tp,cb,cc,ca,?_,YD.ft.cX hL,YD.fb.cX hL,YD.fc.cX hL,hC.fl,fun i Z q e1 e2=>(YD.fa i Z q e1 e2).cX hL,hC.rl,hC.rx,by rw[bW];exact hh5⟩,hT.kz⟩,Kept.one h5 fun g e=>Bv.dB.2 (.inl (by injection e)),fun g V=>(hL g V).trans (Lv.same r W g V)⟩;have e2:(oH hd rvx x t tp cb cc ca).set 0 (Ow.wri ⟨x.bx,T.table,1,9,hd++tp⟩ ((hd++tp).take k++[v]++(hd++tp).drop (k+1)))=oH (hd.set k v) rvx x t tp cb cc ca:=by rw[e];rfl
 rw[<-e2];exact h8
theorem uC.Mm(hT:uC w S B iv hd rvx x t)(r:Rel H nx iv B w O J)(W:∀g,S g->g<B){i n c:Nat}(N:i<rvx.length)(To:x.va= .slice (some ⟨g,0,none⟩) n c)(QV:ad=⟨g,i*1,none⟩):StH H O w J ad v S B iv hd (rvx.set i v) x t:=by
 obtain⟨tp,cb,cc,ca,hC⟩:=hT.jK;have Pq:∀g,Lv S B iv x g->g<w.heap.size:=fun g V=>by
  rcases V.1 with h|⟨_,lo,N,k1,k2,k3⟩
  .have:=W g h;have:=r.base;omega
  .have:=r.oc lo N k1;omega
 obtain⟨Y,I,h3,h4⟩:=hC.ows.st (k:=3) (off:=i) (nv:=[v]) r (fun g V=>hT.kz g (by rw[<-hC.dB];exact V)) (Lv.same r W) rfl (by show i+1<=rvx.length*1;omega) ce (ad:=ad) fun g c e=>by
  rw[show x.va=_ from e]at To;injection To with To;injection To with To;injection To with To;rw[QV,To,av]
 refine⟨Y,I,h3,fun w4 QG=>?_⟩;obtain⟨h5,h6,h7⟩:=h4 w4 QG;have hL:∀g,Lv S B iv x g->w4.heap[g]? =J.heap[g]? :=fun g V=>h7 g V (Pq g V);have YD:=hC.cX (hT.same r W);have e:rvx.take i++[v]++rvx.drop (i+1)=rvx.set i v:=by
  rw[List.set_eq_take_append_cons_drop,aM N];simp
 have h8:=YD.ows.put (k:=3) rfl h5 h6;refine⟨⟨⟨tp,cb,cc,ca,?_,YD.ft.cX hL,YD.fb.cX hL,YD.fc.cX hL,hC.fl,fun i Z q e1 e2=>(YD.fa i Z q e1 e2).cX hL,hC.rl,by rw[bW];exact hC.rx,hC.h5⟩,hT.kz⟩,Kept.one h5 fun g e=>Bv.dB.2 (.inr (.inr (.inr (.inl e)))),fun g V=>(hL g V).trans (Lv.same r W g V)⟩;have e2:(oH hd rvx x t tp cb cc ca).set 3 (Ow.wri ⟨x.va,T.row,1,rvx.length,rvx⟩ (rvx.take i++[v]++rvx.drop (i+1)))=oH hd (rvx.set i v) x t tp cb cc ca:=by
  rw[e];show _::_::_::_::_=_::_::_::_::_;unfold Ow.wri;rw[bW]
 rw[<-e2];exact h8
end
theorem eu.later{B1 e1 n:Nat}{J F:World}(h:eu w FF B1 [(B1,e1)] v n qs)(hB:B<=B1)(hm:(B1,e1)∈iv)(r:Rel H nx iv B w O J)(L:Ext J F):eu F FF B1 [(B1,e1)] v n qs:=
 h.cX fun g V=>by
  rcases V with V|⟨h0,lo,N,hh,Y,I⟩
  .exact V.elim
  .rcases aX.1 hh with e;injection e with e1' e2';subst e1' e2';have hc:Cv FF B iv g:=.inr ⟨be,_,_,hm,Y,I⟩;rw[L.block g (rlo r (iw B) g hc),rls r (iw B) hc]
theorem xA.later{B1 e1 n:Nat}{J F:World}{M:List (List Rat)}(h:xA w FF B1 [(B1,e1)] v n M)(hB:B<=B1)(hm:(B1,e1)∈iv)(r:Rel H nx iv B w O J)(L:Ext J F):xA F FF B1 [(B1,e1)] v n M:=
 h.cX fun g V=>by
  rcases V with V|⟨h0,lo,N,hh,Y,I⟩
  .exact V.elim
  .rcases aX.1 hh with e;injection e with e1' e2';subst e1' e2';have hc:Cv FF B iv g:=.inr ⟨be,_,_,hm,Y,I⟩;rw[L.block g (rlo r (iw B) g hc),rls r (iw B) hc]
theorem ek{B1 e1:Nat}(h:Cv FF B1 [(B1,e1)] g):B1<=g/\g<e1:=by
 rcases h with h|⟨h0,lo,N,hh,Y,I⟩
 .exact h.elim
 .rcases aX.1 hh with e;injection e with e1' e2';subst e1' e2';exact⟨Y,I⟩
section
variable{S:Nat->Prop}{H:Hp}{nx:Nat}{iv:Iv}{B:Nat}{w J F:World}{O:Nat->Sx.eH}{x:Tx}{t:Tb}
theorem dJ.aBA(hT:dJ w S B iv x t)(r:Rel H nx iv B w O J)(W:∀g,S g->g<B):J.ownsRow 0 T.int 1 x.vb t.bs.length (ints t.bs)/\∀g,x.vb.ownBlock=some g->∀id b,dV H id=some b->(O id).nil=false->(O id).g≠g:=by
 refine⟨?_,fun g V=>hT.not r g (Bv.dB.2 (.inr (.inl V)))⟩;obtain⟨tp,cb,cc,ca,hC⟩:=(hT.rel r W).jK;exact hC.ows.own ⟨x.vb,T.int,1,t.bs.length,ints t.bs⟩ (by simp[iL])
theorem dJ.OQ(hT:dJ w S B iv x t)(r:Rel H nx iv B w O J)(W:∀g,S g->g<B):J.ownsRow 0 T.int 1 x.vf t.fs.length (ints t.fs)/\∀g,x.vf.ownBlock=some g->∀id b,dV H id=some b->(O id).nil=false->(O id).g≠g:=by
 refine⟨?_,fun g V=>hT.not r g (Bv.dB.2 (.inr (.inr (.inl V))))⟩;obtain⟨tp,cb,cc,ca,hC⟩:=(hT.rel r W).jK;exact hC.ows.own ⟨x.vf,T.int,1,t.fs.length,ints t.fs⟩ (by simp[iL])
end
theorem fe.Kd{sz:Nat}(h:fe w S sz v xs k)(QK:0<sz):(∃c,v= .slice none 0 c/\k=0)\/∃ad c,v= .slice (some ad) k c/\∀(j:Nat) u,xs[j]? =some u->S ad.block/\w.cell? (ad.add j)=some u:=by
 obtain⟨_,hl,_,a,c,rfl,_,e3⟩:=h
 cases a with
 |none=>
  have h0:k=0:=by
   rcases bH k with h0|h0
   .exact h0
   .have:=Nat.mul_pos h0 QK;obtain⟨ad2,q1,_⟩:=e3 0 _ (aE (show 0<xs.length by omega))
    cases q1
  subst h0;exact .inl ⟨c,rfl,rfl⟩
 |some ad=>
  refine .inr ⟨ad,c,rfl,fun j u hu=>?_⟩;obtain⟨ad2,q1,q2,q3⟩:=e3 j u hu;injection q1 with q1;subst q1;exact⟨q2,q3⟩
theorem xo(l:List Nat)(n:Nat):ints l++[iV (n:Int)]=ints (l++[n]):=by unfold ints;rw[bw];rfl
def Tb.xM(Fn:List (List Rat))(b c:List Rat)(i j:Nat):Tb:=⟨(List.range i).map fun k=>c.length+k,List.range j,Fn,b,c,0⟩
theorem Tb.aBB{i j:Nat}:{Tb.xM Fn b c i j with bs:=(Tb.xM Fn b c i j).bs++[c.length+i]}=Tb.xM Fn b c (i+1) j:=by
 unfold Tb.xM;rw[bz,bw];rfl
theorem Tb.aBC{i j:Nat}:{Tb.xM Fn b c i j with fs:=(Tb.xM Fn b c i j).fs++[j]}=Tb.xM Fn b c i (j+1):=by
 unfold Tb.xM;rw[bz]
theorem OR{vm vb vc:Value}{b c:List (Int×Int)}(Ti:Old S w)(hm:dR w S vm M)(A:dK w S vb b)(hc:dK w S vc c)(hfM:∀r∈M,vN r)(WZ:vN b)(hfc:vN c)(Pm:∀r∈M,r.length=c.length)(hM:M.length<=1000)(Pw:b.length<=1000)(Qg:c.length<=1000):
  eL PG FS.yR #[.agg #[vm,vb,vc]] w (eY w fun v F=>∃x,v= .pointer (some ⟨x.g,0,none⟩)/\dJ F FF w.heap.size [(w.heap.size,F.heap.size)] x (Tb.begin (dT M) (b.map dD) (c.map dD))/\∀g,Bv x.dB g->w.heap.size<=g):=by
 have W:=Ti;have hF:=iw w.heap.size;have G:=bR w;obtain⟨am,cm,rfl,SF,TG⟩:=dH.shape hm;obtain⟨ab,cb,rfl,RK,Te⟩:=dN.shape A;obtain⟨ac,cc,rfl,Vd,SR⟩:=dN.shape hc;refine BL ce ?_;refine dP [.x 0,.x 1,.x 3,.x 4,.x 6,.x 7,.x 2,.x 5,.x 8,.x 9,.x 10,.x 11,.x 12] ?_;refine cU (GT:=fun _ J v F=>xA F FF J.heap.size [(J.heap.size,F.heap.size)] v c.length (dT M)) (fun O J r=>Gm (oS W r) (dR.cX hm ((kS G r W))) hfM Pm be be) ?_;rintro O QP va QL r L hbl1 hMx;replace G:=G.tr hbl1;have s1:=r.cZ;have t1:=L.size;clear r L hbl1;refine cU (GT:=fun _ J v F=>eu F FF J.heap.size [(J.heap.size,F.heap.size)] v b.length (b.map dD)) (fun O J r=>kr (oS W r) (dK.cX A ((kS G r W))) WZ be) ?_;rintro O Qq vB QT r L Ql YE;replace G:=G.tr Ql;have s2:=r.size;have t2:=L.size;replace hMx:=hMx.later s1 ce r L;clear r L Ql;refine cU (GT:=fun _ J v F=>eu F FF J.heap.size [(J.heap.size,F.heap.size)] v c.length (c.map dD)) (fun O J r=>kr (oS W r) (dK.cX hc ((kS G r W))) hfc be) ?_;rintro O Qo vC Qc r L UD ZK;replace G:=G.tr UD;have s3:=r.size;have t3:=L.size;replace hMx:=hMx.later s1 ce r L;replace YE:=YE.later be ce r L;clear r L UD;refine cU (GT:=fun _ J v F=>cz F (Nf J F) v ((0:Int):Rat)) (fun O J r=>iX 0 J bv bv) ?_;rintro O Rl vT R4 r L hbl4 hTx;replace G:=G.tr hbl4;have s4:=r.size;have t4:=L.size;replace hMx:=hMx.later s1 ce r L;replace YE:=YE.later be ce r L;replace ZK:=ZK.later be ce r L;clear r L hbl4;obtain⟨rv,hMW,Tj⟩:=hMx.ex;obtain⟨aA,cA,rfl,-⟩:=ef hMW.out;obtain⟨aB,cB,rfl,-⟩:=YE.row.form;obtain⟨aC,cC,rfl,-⟩:=ZK.row.form;obtain⟨k1,k2,k3,k4,k5,k6,k7,k8,rfl⟩:=hTx.shape;rw[show ((0:Int):Rat)=0 by decide]at hTx;obtain⟨Fn,hA⟩:∃Fn,Fn=dT M:=⟨_,rfl⟩
 obtain⟨bb,QE⟩:∃x,x=b.map dD:=⟨_,rfl⟩
 obtain⟨cc',hcc'⟩:∃x,x=c.map dD:=⟨_,rfl⟩
 rw[<-hA]at hMW;rw[<-QE]at YE;rw[<-hcc']at ZK;have Ul:Fn.length=M.length:=by rw[hA];simp[dT]
 have hbbl:bb.length=b.length:=by rw[QE];simp
 have hccl:cc'.length=c.length:=by rw[hcc'];simp
 have hAw:iq c.length Fn:=fun r hr=>by
  rw[hA]at hr;obtain⟨r0,h0,rfl⟩:=bE.1 hr;rw[aO];exact Pm r0 h0
 refine⟨Nat×Tx×World×Iv,fun z=>⟨[(4,.o (.v (.pointer (some ⟨z.2.1.g,0,none⟩)))),(3,.o (.v (iV (c.length:Int)))),(24,.o (.v (iV (M.length:Int)))),(25,.o (.v (iV (z.1:Int))))],[],2,z.2.2.2,z.2.2.1⟩,fun z=>M.length-z.1,fun z=>z.1<=M.length/\Bq w z.2.2.1/\dJ z.2.2.1 FF w.heap.size z.2.2.2 z.2.1 (Tb.xM Fn bb cc' z.1 0)/\∀g,Bv z.2.1.dB g->w.heap.size<=g,?_,?_⟩
 .intro O J r;have QF:=r.nn 1 _ rfl (by intros;simp) ce;have hbox:=r.box 1 _ _ rfl;have p1:=r.jU _ _ (show (QP.heap.size,QL.heap.size)∈[(Rl.heap.size,R4.heap.size),(Qo.heap.size,Qc.heap.size),(Qq.heap.size,QT.heap.size),(QP.heap.size,QL.heap.size)] by simp) 1 _ rfl QF;have p2:=r.jU _ _ (show (Qq.heap.size,QT.heap.size)∈[(Rl.heap.size,R4.heap.size),(Qo.heap.size,Qc.heap.size),(Qq.heap.size,QT.heap.size),(QP.heap.size,QL.heap.size)] by simp) 1 _ rfl QF;have p3:=r.jU _ _ (show (Qo.heap.size,Qc.heap.size)∈[(Rl.heap.size,R4.heap.size),(Qo.heap.size,Qc.heap.size),(Qq.heap.size,QT.heap.size),(QP.heap.size,QL.heap.size)] by simp) 1 _ rfl QF;have p4:=r.jU _ _ (show (Rl.heap.size,R4.heap.size)∈[(Rl.heap.size,R4.heap.size),(Qo.heap.size,Qc.heap.size),(Qq.heap.size,QT.heap.size),(QP.heap.size,QL.heap.size)] by simp) 1 _ rfl QF;have Pq:=r.low 1 _ rfl QF;obtain⟨Do,hL⟩:∃Do,Do=[(Rl.heap.size,R4.heap.size),(Qo.heap.size,Qc.heap.size),(Qq.heap.size,QT.heap.size),(QP.heap.size,QL.heap.size)]:=⟨_,rfl⟩
  have Pp:∀B1 e1 g,(B1,e1)∈Do->w.heap.size<=B1->B1<=g->g<e1->J.heap[g]? =R4.heap[g]? :=fun B1 e1 g hm Y I h3=>rls r hF (.inr ⟨be,B1,e1,by rw[<-hL];exact hm,I,h3⟩);have m1:(QP.heap.size,QL.heap.size)∈Do:=by rw[hL];simp
  have m2:(Qq.heap.size,QT.heap.size)∈Do:=by rw[hL];simp
  have m3:(Qo.heap.size,Qc.heap.size)∈Do:=by rw[hL];simp
  have m4:(Rl.heap.size,R4.heap.size)∈Do:=by rw[hL];simp
  have Sg:gw J (fun g=>Cf Qq [(Qq.heap.size,QT.heap.size)] g/\(Value.slice aB b.length cB).ownBlock≠some g) (.slice aB b.length cB) bb.length bb:=by
   rw[hbbl];refine YE.row.cX fun g V=>?_;have:Cf Qq [(Qq.heap.size,QT.heap.size)] g:=V.elim (fun h=>h.1) fun h=>YE.new g h;have:=ek this;exact Pp _ _ g m2 be this.1 this.2
  have hc1:gw J (fun g=>Cf Qo [(Qo.heap.size,Qc.heap.size)] g/\(Value.slice aC c.length cC).ownBlock≠some g) (.slice aC c.length cC) cc'.length cc':=by
   rw[hccl];refine ZK.row.cX fun g V=>?_;have:Cf Qo [(Qo.heap.size,Qc.heap.size)] g:=V.elim (fun h=>h.1) fun h=>ZK.new g h;have:=ek this;exact Pp _ _ g m3 be this.1 this.2
  have hW:=fQ.begin (w:=J) (n:=c.length) (B1:=QP.heap.size) (e1:=QL.heap.size) (B2:=Qq.heap.size) (e2:=QT.heap.size) (B3:=Qo.heap.size) (e3:=Qc.heap.size) (B4:=Rl.heap.size) (e4:=R4.heap.size) (g0:=(O 1).g)
   (hMW.cX fun g V=>by
    have:Cf QP [(QP.heap.size,QL.heap.size)] g:=V.elim (fun h=>h.1) fun h=>Tj g h;have:=ek this
    exact Pp _ _ g m1 be this.1 this.2) hAw (fun g V=>ek (Tj g V)) (fun g V=>⟨(ek V.1).1,(ek V.1).2,V.2⟩)
   (b:=bb) Sg (fun g V=>ek (YE.new g V)) (fun g V=>⟨(ek V.1).1,(ek V.1).2,V.2⟩)
   (c:=cc') hc1 (fun g V=>ek (ZK.new g V)) (fun g V=>⟨(ek V.1).1,(ek V.1).2,V.2⟩)
   rfl (hTx.cX fun g V=>by
    rcases V with V|V
    .exact V.elim
    .exact Pp _ _ g m4 be V.1 V.2) (fun g V=>V.elim (fun h=>h.elim) id) s2 s3 t1 t2 t3 s4 t4 p1 p2 p3 p4 hbox
  have Sf:∀g,(QP.heap.size<=g/\g<QL.heap.size)\/(Qq.heap.size<=g/\g<QT.heap.size)\/(Qo.heap.size<=g/\g<Qc.heap.size)\/(Rl.heap.size<=g/\g<R4.heap.size)->Cf w Do g:=fun g V=>by
   rcases V with h|h|h|h
   .exact .inr ⟨be,_,_,m1,h.1,h.2⟩
   .exact .inr ⟨be,_,_,m2,h.1,h.2⟩
   .exact .inr ⟨be,_,_,m3,h.1,h.2⟩
   .exact .inr ⟨be,_,_,m4,h.1,h.2⟩
  have RA:∀g,Bv (Tx.dB ⟨(O 1).g,nls,nls,.slice aA rv.length cA,.slice aB b.length cB,.slice aC c.length cC,rv⟩) g->g=(O 1).g\/Cf w Do g:=fun g V=>by
   rw[Bv.dB]at V;rcases V with h|h|h|h|h|h|h
   .exact .inl h.symm
   .cases h
   .cases h
   .exact .inr (Sf g (.inl (ek (Tj g (.inl h)))))
   .exact .inr (Sf g (.inr (.inl (ek (YE.new g h)))))
   .exact .inr (Sf g (.inr (.inr (.inl (ek (ZK.new g h))))))
   .obtain⟨v,Y,I⟩:=h;exact .inr (Sf g (.inl (ek (Tj g (.inr ⟨v,Y,I⟩)))))
  rw[<-hL]at r;refine⟨(0,⟨(O 1).g,nls,nls,.slice aA rv.length cA,.slice aB b.length cB,.slice aC c.length cC,rv⟩,J,((O 1).g,(O 1).g+1)::Do),⟨ae _,G.tr r.cj,⟨hW.cV (fun g V=>⟨(Sf g V.1).mono fun p hp=>aD _ hp,V.2⟩) fun g A U=>U.2 A,fun g V=>?_⟩,fun g V=>?_⟩,Sub.aAu r (id:=1) (t:=4) rfl rfl QF trivial rfl ⟨rfl,rfl,rfl,trivial⟩ (by simp[jn,SV.sc,At.sc])⟩
  .rcases RA g V with h|h
   .exact .inr ⟨be,_,_,aF,be,be⟩
   .exact qj (h.mono fun p hp=>aD _ hp)
  .rcases RA g V with h|h
   .omega
   .rcases h with h|h
    .exact h.elim
    .exact h.1
 clear hMx YE ZK hTx hMW Tj G s1 s2 s3 s4 t1 t2 t3 t4;rintro⟨i,x,w1,iv⟩ ⟨N,G,hT,E⟩;dsimp only at N G hT E ⊢;apply bS<;>intro Pk
 .have Pk:=dL Pk;have hbsl:(Tb.xM Fn bb cc' i 0).bs.length=i:=by simp[Tb.xM]
  refine⟨x.vb,fun O J r=>hT.f0 hF rfl r,((c.length+i:Nat):Int),wo,?_⟩
  refine .inr (iP hτ (ae _) (xs:=ints ((Tb.xM Fn bb cc' i 0).bs)) (news:=[iV ((c.length+i:Nat):Int)]) (m:=((Tb.xM Fn bb cc' i 0).bs).length) (k:=1) d8 d8 bv d8 d8 (fun O J r=>hT.aBA r hF) rfl (by simp;rfl) mx be
   (fun O J r=>?_) (fun v' F=>en v'++iv) (fun O J v' F r QK S0=>ta r (hT.aBA r hF).2 QK S0) (fun O J v' F r h5 h6 h7=>?_))
  .exact(fe.Kd (r.kJ (id:=2) (sz:=1) (n:=1) rfl rfl bv (by simp;rfl)) bv).imp id fun⟨ad,c,e1,e2⟩=>⟨ad,c,e1,fun j u hu=>(e2 j u hu).2⟩
  obtain⟨a2,c2,rfl,-⟩:=ef h5;rw[xo]at h5;have hG:=hT.aAy r hF (l:=(Tb.xM Fn bb cc' i 0).bs++[c.length+i]) (by rw[aV];exact h5) h6 h7;rw[<-hccl,Tb.aBB]at hG;have RT:=(G.tr r.cj).tr (hG.kept.toBel E r.cZ);have Qa:∀g,Bv (Tx.dB {x with vb:=.slice a2 ((Tb.xM Fn bb cc' i 0).bs.length+1) c2}) g->w.heap.size<=g:=fun g V=>(hG.D8 g V).elim (E g) fun h=>aR r.cZ h;have hP:=hG.jK;clear hG h5 h6 h7 r hT G E;conv=>whnf
  intro I8 w3 r3;have hs:=hP.Er r3 hF (k:=0) bv (v:=.slice a2 ((Tb.xM Fn bb cc' i 0).bs.length+1) c2) (ad:=Addr.add ⟨x.g,0,none⟩ 0) (by rw[dF,aS]);refine⟨hs.spot,hs.cells,hs.own,fun w4 QG=>?_⟩;obtain⟨SK,Q3,-⟩:=hs.next w4 QG
  have hT:=SK.toO rfl rfl;have G:=(RT.tr r3.cj).tr (Q3.toBel Qa r3.cZ);clear hs SK Q3 QG r3 hP RT;refine inc i ?_;intro Id w5 r5;exact⟨(i+1,{x with vb:=.slice a2 ((Tb.xM Fn bb cc' i 0).bs.length+1) c2},w5,_),⟨Pk,G.tr r5.cj,hT.rel r5 hF,Qa⟩,sbgn [] r5,dec Pk⟩
 have Pk:=dE N Pk;subst Pk;refine⟨Nat×Tx×World×Iv,fun z=>⟨[(4,.o (.v (.pointer (some ⟨z.2.1.g,0,none⟩)))),(41,.o (.v (iV (c.length:Int)))),(42,.o (.v (iV (z.1:Int))))],[],2,z.2.2.2,z.2.2.1⟩,fun z=>c.length-z.1,fun z=>z.1<=c.length/\Bq w z.2.2.1/\dJ z.2.2.1 FF w.heap.size z.2.2.2 z.2.1 (Tb.xM Fn bb cc' M.length z.1)/\∀g,Bv z.2.1.dB g->w.heap.size<=g,?_,?_⟩
 .intro O J r;exact⟨(0,x,J,_),⟨ae _,G.tr r.cj,hT.rel r hF,E⟩,sbgn [] r⟩
 clear hT G E;rintro⟨i,x,w1,iv⟩ ⟨N,G,hT,E⟩;dsimp only at N G hT E ⊢;apply bS<;>intro Pk
 .have Pk:=dL Pk;have hbsl:(Tb.xM Fn bb cc' M.length i).fs.length=i:=by simp[Tb.xM]
  refine⟨x.vf,fun O J r=>hT.f1 hF rfl r,?_⟩
  refine .inr (iP hτ (ae _) (xs:=ints ((Tb.xM Fn bb cc' M.length i).fs)) (news:=[iV ((i:Nat):Int)]) (m:=((Tb.xM Fn bb cc' M.length i).fs).length) (k:=1) d8 d8 bv d8 d8 (fun O J r=>hT.OQ r hF) rfl (by simp;rfl) mx be
   (fun O J r=>?_) (fun v' F=>en v'++iv) (fun O J v' F r QK S0=>ta r (hT.OQ r hF).2 QK S0) (fun O J v' F r h5 h6 h7=>?_))
  .exact(fe.Kd (r.kJ (id:=2) (sz:=1) (n:=1) rfl rfl bv (by simp;rfl)) bv).imp id fun⟨ad,c,e1,e2⟩=>⟨ad,c,e1,fun j u hu=>(e2 j u hu).2⟩
  obtain⟨a2,c2,rfl,-⟩:=ef h5;rw[xo]at h5;have hG:=hT.PK r hF (l:=(Tb.xM Fn bb cc' M.length i).fs++[i]) (by rw[aV];exact h5) h6 h7;rw[Tb.aBC]at hG;have RT:=(G.tr r.cj).tr (hG.kept.toBel E r.cZ);have Qa:∀g,Bv (Tx.dB {x with vf:=.slice a2 ((Tb.xM Fn bb cc' M.length i).fs.length+1) c2}) g->w.heap.size<=g:=fun g V=>(hG.D8 g V).elim (E g) fun h=>aR r.cZ h;have hP:=hG.jK;clear hG h5 h6 h7 r hT G E;conv=>whnf
  intro I8 w3 r3;have hs:=hP.Er r3 hF (k:=1) bv (v:=.slice a2 ((Tb.xM Fn bb cc' M.length i).fs.length+1) c2) (ad:=Addr.add ⟨x.g,0,none⟩ 1) (by rw[dF,aS]);refine⟨hs.spot,hs.cells,hs.own,fun w4 QG=>?_⟩;obtain⟨SK,Q3,-⟩:=hs.next w4 QG
  have hT:=SK.toO rfl rfl;have G:=(RT.tr r3.cj).tr (Q3.toBel Qa r3.cZ);clear hs SK Q3 QG r3 hP RT;refine inc i ?_;intro Id w5 r5;exact⟨(i+1,{x with vf:=.slice a2 ((Tb.xM Fn bb cc' M.length i).fs.length+1) c2},w5,_),⟨Pk,G.tr r5.cj,hT.rel r5 hF,Qa⟩,sbgn [] r5,dec Pk⟩
 have Pk:=dE N Pk;subst Pk;intro GE we re;refine⟨_,rfl,G.tr re.cj,x,rfl,⟨?_,fun g V=>?_⟩,E⟩
 .have e:Tb.xM Fn bb cc' M.length c.length=Tb.begin Fn bb cc':=by unfold Tb.xM Tb.begin;rw[Ul,hccl]
  rw[e,hA,QE,hcc']at hT;refine(hT.rel re hF).jK.cV (fun g V=>⟨.inr ?_,V.2⟩) fun g A U=>U.2 A;have:=rlo re hF g V.1;rcases V.1 with h|h
  .exact h.elim
  .exact⟨h.1,_,_,aF,h.1,this⟩
 .exact .inr ⟨E g V,_,_,aF,E g V,hT.low re V⟩
end Go.Ex
namespace Go.Ex
def Tb.mZ(t:Tb)(n:Nat)(c:List Rat)(i:Nat):List Rat:=t.fs.mapIdx fun j v=>if j<i/\v<n then c.getD v 0 else 0
section
variable{t:Tb}{n i:Nat}{c:List Rat}
theorem EX:(t.mZ n c i).length=t.fs.length:=List.length_mapIdx
theorem Hx:t.mZ n c 0=dx t.fs.length:=by
 apply bA;intro k;unfold Tb.mZ dx;rw[List.getElem?_mapIdx,List.getElem?_replicate];by_cases h:k<t.fs.length
 .rw[aE h,aM h,bU,aI (fun h=>Nat.not_lt_zero _ h.1)]
 .rw[List.getElem?_eq_none be,aI h];rfl
theorem K3:t.mZ n c t.fs.length=t.jH n c 0:=by
 apply bA;intro k;unfold Tb.mZ Tb.jH;rw[List.getElem?_mapIdx,aU];by_cases h:k<t.fs.length
 .rw[aE h,bU,bU];by_cases I:t.fs[k]<n
  .rw[aM ⟨h,I⟩,aM I]
  .rw[aI fun h=>I h.2,aI I]
 .rw[List.getElem?_eq_none be];rfl
theorem MY(h:i<t.fs.length)(hv:t.fs.getD i 0<n):t.mZ n c (i+1)=(t.mZ n c i).set i (c.getD (t.fs.getD i 0) 0):=by
 apply bA;intro k;rw[List.getElem?_set];unfold Tb.mZ;rw[List.getElem?_mapIdx,List.getElem?_mapIdx];by_cases e:i=k
 .subst e;rw[aM rfl,List.length_mapIdx,aM h,aE h,bU];have:t.fs.getD i 0=t.fs[i]:=by rw[List.getD,aE h];rfl
  rw[this]at hv ⊢;rw[aM ⟨cG i,hv⟩]
 .rw[aI e];congr 1
  funext v
  by_cases Y:k<i/\v<n
  .rw[aM Y,aM ⟨be,Y.2⟩]
  .rw[aI Y,aI fun I=>Y ⟨be,I.2⟩]
theorem K4(h:i<t.fs.length)(hv:¬t.fs.getD i 0<n):t.mZ n c (i+1)=t.mZ n c i:=by
 apply bA;intro k;unfold Tb.mZ;rw[List.getElem?_mapIdx,List.getElem?_mapIdx];by_cases e:i=k
 .subst e;rw[aE h,bU,bU];have:t.fs.getD i 0=t.fs[i]:=by rw[List.getD,aE h];rfl
  rw[this]at hv;rw[aI fun h=>hv h.2,aI fun h=>hv h.2]
 .congr 1
  funext v
  by_cases Y:k<i/\v<n
  .rw[aM Y,aM ⟨be,Y.2⟩]
  .rw[aI Y,aI fun I=>Y ⟨be,I.2⟩]
theorem MZ{x y:List Rat}{k q:Rat}(h:q∈rJ x k y):∃p,p∈x/\∃j,q=p+k*y.getD j 0:=by
 obtain⟨j,hj⟩:=az h;unfold rJ at hj;rw[List.getElem?_mapIdx]at hj
 cases e:x[j]? with
 |none=>rw[e]at hj;cases hj
 |some p=>
  rw[e]at hj;injection hj with hj;exact⟨p,aG e,j,hj.symm⟩
theorem Au{h:Nat}(H:Ht t.a h)(hc:∀q∈c,rl q+1<=h)(I:2<=h):∀i,∀q∈t.jH n c i,rl q<=2*h*(i+1)
 |0,q,hq=>by
  unfold Tb.jH at hq;obtain⟨v,-,rfl⟩:=bE.1 hq;split
  .have:=sG (i:=v) hc I;omega
  .rw[show rl 0=1 by decide];omega
 |i+1,q,hq=>by
  rw[Tb.jH]at hq;have h3:2*h*(i+1+1)=2*h*(i+1)+2*h:=by rw[bZ,av]
  split at hq
  .obtain⟨p,hp,j,rfl⟩:=MZ hq;have h4:=Au H hc I i p hp;have h5:=Ac p (-(c.getD (t.bs.getD i 0) 0)*(t.a.getD i []).getD j 0);have h6:=jl (-(c.getD (t.bs.getD i 0) 0)) ((t.a.getD i []).getD j 0);rw[kj]at h6;have h7:=sG (i:=t.bs.getD i 0) hc I;have h8:rl ((t.a.getD i []).getD j 0)+1<=h:=by
    refine sG (fun q hq=>?_) I;by_cases hr:i<t.a.length
    .exact H _ (vq hr) q hq
    .rw[List.getD,List.getElem?_eq_none be]at hq;cases hq
   omega
  .have h4:=Au H hc I i q hq;omega
theorem GS{h:Nat}(A:∀q∈t.b,rl q+1<=h)(hc:∀q∈c,rl q+1<=h)(I:2<=h):∀i,rl (t.kR n c i)<=2*h*(i+1)
 |0=>by rw[Tb.kR,show rl 0=1 by decide];omega
 |i+1=>by
  have h3:2*h*(i+1+1)=2*h*(i+1)+2*h:=by rw[bZ,av]
  have h4:=GS A hc I i;rw[Tb.kR];split
  .have h5:=Ac (t.kR n c i) (c.getD (t.bs.getD i 0) 0*t.b.getD i 0);have h6:=jl (c.getD (t.bs.getD i 0) 0) (t.b.getD i 0);have h7:=sG (i:=t.bs.getD i 0) hc I;have h8:=sG (i:=i) A I;omega
  .omega
end
end Go.Ex
namespace Go.Ex
open Go Go.Sx Go.Proofs
variable{ops:Array Oper}{ps:List Nat}{c q xs:List Rat}{n:Nat}{p:Nat->Bool}{S:Nat->Prop}{v:Value}{w:World}
theorem Bd{P:Program}{τ:mo}{B:Nat}{l:Env}{H:Hp}{nx:Nat}{iv:Iv}{Fd:KT}(E8:KT)(Y:∀K0:KT,(∀l H nx iv w,E8 l H nx iv w->K0 l H nx iv w)->yG P τ B ops.toList ops.toList l H nx iv w K0)(I:∀l H nx iv w,E8 l H nx iv w->Fd l H nx iv w):
  yG P τ B ops.toList ops.toList l H nx iv w Fd:=Y Fd I
section
variable{S:Nat->Prop}{H:Hp}{nx:Nat}{iv:Iv}{B:Nat}{w J F:World}{O:Nat->Sx.eH}{x:Tx}{t:Tb}{v:Value}
theorem dJ.aB4(hT:dJ w S B iv x t)(r:Rel H nx iv B w O J)(W:∀g,S g->g<B)(L:Ext J F)(hX:eu F FF J.heap.size [(J.heap.size,F.heap.size)] v q.length q):
  uC F S B ((J.heap.size,F.heap.size)::iv) x.hd x.rv {x with vc:=v} {t with c:=q}/\(∀g,Lv S B iv x g->F.heap[g]? =w.heap[g]? /\Lv S B ((J.heap.size,F.heap.size)::iv) {x with vc:=v} g)/\∀g,Bv (Tx.dB {x with vc:=v}) g->Bv x.dB g\/J.heap.size<=g:=by
 have hold:=Lv.old (x:=x) r W;have Qs:∀g,v.ownBlock=some g->J.heap.size<=g/\g<F.heap.size:=fun g V=>ek (hX.new g V);have E:∀g,Bv (Tx.dB {x with vc:=v}) g->v.ownBlock=some g\/Bv x.dB g:=fun g h=>by
  rw[Bv.dB]at h ⊢;simp only at h;rcases h with h|h|h|h|h|h|h<;>simp[h]
 have hL:∀g,Lv S B iv x g->Lv S B ((J.heap.size,F.heap.size)::iv) {x with vc:=v} g:=fun g V=>⟨V.1.mono fun _ hp=>aD _ hp,fun A=>by
  rcases E g A with h|h
  .have:=Qs g h;have:=hold g V;omega
  .exact V.2 h⟩
 have hR:gw F (Lv S B ((J.heap.size,F.heap.size)::iv) {x with vc:=v}) v q.length q:=hX.row.cV fun g V=>by
  have Y:=ek V.1;refine⟨.inr ⟨by have:=r.cZ;omega,_,_,aF,Y.1,Y.2⟩,fun A=>?_⟩;rcases E g A with h|h
  .exact V.2 h
  .have:=hT.low r h;omega
 refine⟨⟨(hT.rel r W).jK.toJ.aAw (fun g V _=>L.block g V) hR (fun g V=>.inr (Qs g V).1) hold hL fun g A hl=>hl.2 A,fun g V=>?_⟩,fun g V=>⟨(L.block g (hold g V)).trans (Lv.same r W g V),hL g V⟩,fun g V=>(E g V).elim (fun h=>.inr (Qs g h).1) .inl⟩;rcases E g V with h|h
 .have:=Qs g h;exact .inr ⟨by have:=r.cZ;omega,_,_,aF,this.1,this.2⟩
 .exact(hT.kz g h).mono fun _ hp=>aD _ hp
theorem dJ.aAL{w0:World}{x0:Tx}{t0:Tb}(h:dJ w S w0.heap.size iv x t)(h0:fQ w0 S x0 t0)(E:∀g,Bv x.dB g->Bv x0.dB g\/w0.heap.size<=g)(r:Rel H nx iv w0.heap.size w O J)(W:Old S w0):fQ J (fun g=>Nw S w0 J g/\¬Bv x.dB g) x t:=
 (h.rel r W).jK.cV (fun _ V=>⟨V.nw r,V.2⟩) fun g A U=>U.2 A
end
theorem Ke{x:Tx}{t:Tb}{m q h:Nat}{vc0:Value}(Ti:Old S w)(Qx:fQ w S x t)(hW:t.Wf m q)(hC:eF w S S vc0 c)(U:c.length=n)(hm:m<=1000)(hq:q<=1000)(Ss:n<=1000)(hH:t.xW h)(hc:∀q∈c,rl q+1<=h)(I:2<=h)(hh:h<=100000):
  eL PG FS.mg #[.pointer (some ⟨x.g,0,none⟩),iV n,vc0] w (fun e F=>e= .returned (.tuple #[])/\∃x',x'.g=x.g/\Kept w F (Bv x.dB)/\fQ F (fun g=>Nw S w F g/\¬Bv x'.dB g) x' (t.rest n c)/\∀g,Bv x'.dB g->Bv x.dB g\/w.heap.size<=g):=by
 have W:=Ti;have R:Kept w w (Bv x.dB):=Kept.refl;have Tl:=hW.al;have Pw:=hW.b;have Qp:=hW.fs;have UQ:=hW.bs;obtain⟨ab,cb,WE,RK,-,Td⟩:=Qx.hdb hW;obtain⟨af,cf,Wc,hcf,-,haf⟩:=Qx.hdf hW;obtain⟨aa,ca,To,Qi,-,haa⟩:=Qx.hda hW;obtain⟨aB,cB,Vf,hcB,-,haB⟩:=Qx.hdB hW;have hR:∀i,i<m->∃a c,x.rv[i]? =some (.slice a q c)/\q<=c/\c<=maxLen/\(0<q->∃g,a=some ⟨g,0,none⟩):=fun i N=>Qx.hdr hW N;have hT:=dJ.arg Qx;obtain⟨acc,ccc,rfl,hccc,-⟩:=hC.shape;rw[U]at hccc hC;rw[U];refine qY ce ?_;refine Bd (fun l H nx iv w1=>∃a1 a2 a3 a4:SV,l=(13,a1)::(12,a2)::(11,a3)::(10,a4)::fu 0 #[.pointer (some ⟨x.g,0,none⟩),iV (n:Int),.slice acc n ccc].toList/\H=[]/\nx=0/\Kept w w1 (Bv x.dB)/\dJ w1 S w.heap.size iv x ⟨t.bs,t.fs,t.a,t.b,t.c,0⟩) ?_ ?_
 .intro K0 Rg;refine cW (cU (GT:=fun _ J v F=>cz F (Nf J F) v ((0:Int):Rat)) (fun O J r=>iX 0 J bv bv) ?_);rintro O QP v1 QL r L A U;have hO:=U.vL hT r;replace hT:=hT.cS (K:=(QP.heap.size,QL.heap.size)::[]) r W L fun x E=>aD _ E;replace R:=Kept.cj A R lr;clear r L A U;generalize (QP.heap.size,QL.heap.size)::[]=Pv at*
  obtain⟨o1,o2,o3,o4,o5,o6,o7,o8,rfl⟩:=hO.shape;rw[show ((0:Int):Rat)=0 by decide]at hO;intro O J r;obtain⟨k1,k2,k3,k4⟩:=hT.stT W r (ad:=Addr.add ⟨x.g,0,none⟩ 5) hO.four (by rw[dF,aS]);refine⟨k1,k2,k3,fun w4 QG=>?_⟩;obtain⟨Sa,Q3,Ri⟩:=k4 w4 QG;replace hO:=hO.cX Ri;replace R:=(Kept.cj r.cj R lr).trans Q3;clear k1 k2 k3 k4 Ri Q3 QG r;clear hT;have hT:=Sa;clear Sa;exact Rg _ _ _ _ _ ⟨_,_,_,_,rfl,rfl,rfl,R,hT⟩
 clear hT R;rintro l H nx iv w1 ⟨a1,a2,a3,a4,rfl,rfl,rfl,R,hT⟩;refine Bd (fun l H nx iv w1=>∃(b0 b1 b2 b3 b4 b5 b6 b7 b8:SV) (ac:Option Addr) (cc:Nat) (y:Tx),l=(22,b0)::(21,b1)::(20,b2)::(19,b3)::(18,b4)::(17,b5)::(16,b6)::(15,b7)::(14,b8)::(13,a1)::(12,a2)::(11,a3)::(10,a4)::fu 0 #[.pointer (some ⟨y.g,0,none⟩),iV (n:Int),.slice acc n ccc].toList/\H=[]/\nx=0/\y={x with vc:=.slice ac q cc}/\Kept w w1 (Bv x.dB)/\dJ w1 S w.heap.size iv y ⟨t.bs,t.fs,t.a,t.b,List.replicate q 0,0⟩/\∀g,Bv y.dB g->Bv x.dB g\/w.heap.size<=g) ?_ ?_
 .intro K0 Rg;refine⟨_,fun O J r=>hT.f1 W Wc r,?_⟩;refine cW (cU (GT:=fun _ J v F=>eu F FF J.heap.size [(J.heap.size,F.heap.size)] v q (List.replicate q 0)) (fun O J r=>jh q J be) ?_);rintro O wa v1 wb r L A hX;obtain⟨hP,-,Pz⟩:=hT.aB4 (q:=List.replicate q 0) r W L (by rw[aj];exact hX);replace R:=Kept.cj A R lr;obtain⟨ac,cc,rfl,Vd⟩:=hX.row.form;have Sl:∀g,Bv (Tx.dB {x with vc:=.slice ac q cc}) g->Bv x.dB g\/w.heap.size<=g:=fun g V=>(Pz g V).imp id fun h=>aR r.cZ h;clear r L A hX Pz hT;generalize (wa.heap.size,wb.heap.size)::iv=iv2 at*
  conv=>whnf
  intro I8 w3 r3;have hs:=hP.Er r3 W (k:=4) bv (v:=.slice ac q cc) (ad:=Addr.add ⟨x.g,0,none⟩ 4) (by rw[dF,aS]);refine⟨hs.spot,hs.cells,hs.own,fun w4 QG=>?_⟩;obtain⟨SK,Q3,-⟩:=hs.next w4 QG
  have hT:=SK.toO rfl rfl;replace R:=Kept.gz (Kept.cj r3.cj R lr) Q3 fun g V A=>(Sl g A).elim id fun h=>by omega
  clear hs SK Q3 QG r3 hP;exact Rg _ _ _ _ _ ⟨_,_,_,_,_,_,_,_,_,ac,cc,{x with vc:=.slice ac q cc},rfl,rfl,rfl,rfl,R,hT,Sl⟩
 clear hT R;rintro l H nx iv w1 ⟨b0,b1,b2,b3,b4,b5,b6,b7,b8,ac,cc,y,rfl,rfl,rfl,hy,R,hT,Sl⟩;have RY:y.g=x.g:=by rw[hy]
 have Xl:y.vb= .slice ab m cb:=by rw[hy];exact WE
 have hyf:y.vf= .slice af q cf:=by rw[hy];exact Wc
 have R6:y.va= .slice aa m ca:=by rw[hy];exact To
 have hyB:y.vB= .slice aB m cB:=by rw[hy];exact Vf
 have WG:y.vc= .slice ac q cc:=by rw[hy]
 have XZ:y.rv=x.rv:=by rw[hy]
 rw[<-XZ]at hR;have hac:0<q->∃g,ac=some ⟨g,0,none⟩:=fun h0=>by
  have hWy:(Tb.mk t.bs t.fs t.a t.b (List.replicate q 0) 0).Wf m q:=⟨UQ,Qp,Tl,hW.aw,Pw,aj⟩
  obtain⟨a',c',e,-,-,h5⟩:=(hT.jK.hdc hWy)
  rw[WG]at e;injection e with e;rw[e];exact h5 h0
 clear hy WE Wc To Vf;have hLS:∀{iv:Iv} g,S g->Lv S w.heap.size iv y g:=fun g V=>⟨.inl V,fun A=>(Sl g A).elim (fun h=>Qx.off h V) fun h=>by have:=W g V;omega⟩
 refine⟨_,fun O J r=>hT.f1 W hyf r,Nat×World×Iv,fun z=>⟨[(0,.o (.v (.pointer (some ⟨y.g,0,none⟩)))),(1,.o (.v (iV (n:Int)))),(2,sV acc n ccc),(26,sV af q cf),(27,.o (.v (iV (q:Int)))),(28,.o (.v (iV (z.1:Int))))],[],0,z.2.2,z.2.1⟩,fun z=>q-z.1,fun z=>z.1<=q/\Kept w z.2.1 (Bv x.dB)/\dJ z.2.1 S w.heap.size z.2.2 y ⟨t.bs,t.fs,t.a,t.b,t.mZ n c z.1,0⟩,?_,?_⟩
 .intro O J r;exact⟨(0,J,_),⟨ae _,Kept.cj r.cj R lr,(hT.cast (by rw[Hx,Qp];rfl)).rel r W⟩,sbgn [] r⟩
 clear hT R;rintro⟨i,w1,iv⟩ ⟨N,R,hT⟩;dsimp only at N R hT ⊢;apply bS<;>intro Pk
 .have Pk:=dL Pk;obtain⟨gf,rfl⟩:=haf be;obtain⟨gc,rfl⟩:=hac be;refine⟨_,rfl,be,_,fun O J r=>hT.cFs W (i:=i) (by dsimp only;omega) hyf r,?_⟩;obtain⟨u,hu⟩:=exq (t.fs.getD i 0);rw[hu];apply bS<;>intro hc
  .have SX:u<n:=by simpa using hc
   have hSx:∀g,S g->w1.heap[g]? =w.heap[g]? :=fun g V=>R.block g (W g V) fun A=>Qx.off A V;obtain⟨ad,fcs,rfl,YF,Qt⟩:=hC.load (j:=u) (show c[u]? =some (c.getD u 0) by rw[List.getD,aE be];rfl);obtain⟨p1,p2,p3,p4,p5,p6,p7,p8,rfl,hF0⟩:=YF;have hG:cz w1 (Lv S w.heap.size iv y) _ _:=(hF0.cX hSx).cV fun g V=>hLS g V;refine dP (idO 11) ?_;refine⟨_,fun O J r=>hT.f4 W WG r,_,rfl,be,rC p1 p2 p3 p4 p5 p6 p7 p8,rfl,fun O J r j u hu=>?_,?_⟩
   .rw[aK,cd (w:=w) (F:=J) ((Kept.cj r.cj R lr).block _ (W _ (by rw[df,df];exact(Qt j u hu).1)) fun A=>Qx.off A (by rw[df,df];exact(Qt j u hu).1))];exact(Qt j u hu).2
   refine⟨_,rfl,be,?_⟩;intro O J r;obtain⟨k1,k2,k3,k4⟩:=hT.stC W r (ad:=Addr.add ⟨gc,0,none⟩ (((i:Nat):Int).toNat*4)) (j:=i) (by dsimp only;rw[EX];omega) WG hG.four (by rw[aK,dF,aS]);refine⟨k1,k2,k3,fun w4 QG=>?_⟩;obtain⟨Sa,Q3,Ri⟩:=k4 w4 QG;replace R:=Kept.gz (Kept.cj r.cj R lr) Q3 fun g V A=>(Sl g A).elim id fun h=>by omega
   clear k1 k2 k3 k4 Ri Q3 QG r;clear hT;have hT:=Sa;clear Sa;have e:t.mZ n c (i+1)=(t.mZ n c i).set i (c.getD u 0):=by rw[MY be (by rw[hu];exact SX),hu]
   refine inc i ?_;intro I8 w3 r3;exact⟨(i+1,w3,_),⟨Pk,Kept.cj r3.cj R lr,(hT.cast (by rw[e])).rel r3 W⟩,sbgn [] r3,dec Pk⟩
  have SX:¬u<n:=by simpa using hc
  have e:t.mZ n c (i+1)=t.mZ n c i:=K4 be (by rw[hu];exact SX);refine inc i ?_;intro I8 w3 r3;exact⟨(i+1,w3,_),⟨Pk,Kept.cj r3.cj R lr,(hT.cast (by rw[e])).rel r3 W⟩,sbgn [] r3,dec Pk⟩
 have Pk:=dE N Pk;replace hT:=hT.cast (t':=⟨t.bs,t.fs,t.a,t.b,t.jH n c 0,t.kR n c 0⟩) (by rw[Pk,<-Qp,K3];rfl);refine⟨_,fun O J r=>hT.f0 W Xl r,Nat×World×Iv,fun z=>⟨[(0,.o (.v (.pointer (some ⟨y.g,0,none⟩)))),(1,.o (.v (iV (n:Int)))),(2,sV acc n ccc),(50,sV ab m cb),(51,.o (.v (iV (m:Int)))),(52,.o (.v (iV (z.1:Int))))],[],0,z.2.2,z.2.1⟩,fun z=>m-z.1,fun z=>z.1<=m/\Kept w z.2.1 (Bv x.dB)/\dJ z.2.1 S w.heap.size z.2.2 y ⟨t.bs,t.fs,t.a,t.b,t.jH n c z.1,t.kR n c z.1⟩,?_,?_⟩
 .intro O J r;exact⟨(0,J,_),⟨ae _,Kept.cj r.cj R lr,hT.rel r W⟩,sbgn [] r⟩
 clear hT R;rintro⟨i,w1,iv⟩ ⟨N,R,hT⟩;dsimp only at N R hT ⊢;apply bS<;>intro Pk
 .have Pk:=dL Pk;obtain⟨gb,rfl⟩:=Td be;obtain⟨ga,rfl⟩:=haa be;obtain⟨gB,rfl⟩:=haB be;obtain⟨ai,ci,TP,-,-,-⟩:=hR i Pk;refine⟨_,rfl,be,_,fun O J r=>hT.cBs W (i:=i) (by dsimp only;omega) Xl r,?_⟩;obtain⟨u,hu⟩:=exq (t.bs.getD i 0);rw[hu];apply bS<;>intro Vd
  .have SX:u<n:=by simpa using Vd
   have hSx:∀g,S g->w1.heap[g]? =w.heap[g]? :=fun g V=>R.block g (W g V) fun A=>Qx.off A V;have r1:=Au (t:=t) (n:=n) hH.a hc I i;have r2:=GS (t:=t) (n:=n) hH.b hc I i;have r3:=sG (i:=u) hc I;have r4:=sG (i:=i) hH.b I;have r5:2*h*(i+1)<=200000*1000:=Nat.mul_le_mul be be;have r6:=jl (c.getD u 0) (t.b.getD i 0);have Pm:∀y∈t.a.getD i [],rl y+1<=h:=hH.OG i;obtain⟨ad,fcs,rfl,YF,Qt⟩:=hC.load (j:=u) (show c[u]? =some (c.getD u 0) by rw[List.getD,aE be];rfl);obtain⟨p1,p2,p3,p4,p5,p6,p7,p8,rfl,hF0⟩:=YF;have hG:cz w1 (Lv S w.heap.size iv y) _ _:=(hF0.cX hSx).cV fun g V=>hLS g V;refine dP [.x 0,.x 1,.x 2,.x 3,.x 4,.x 5,.x 6,.x 7,.x 9,.x 10,.x 11,.x 12,.x 13,.x 14,.x 15,.x 8,.x 16] ?_;refine⟨_,fun O J r=>hT.f4 W WG r,_,rfl,be,rC p1 p2 p3 p4 p5 p6 p7 p8,rfl,fun O J r j u hu=>?_,?_⟩
   .rw[aK,cd (w:=w) (F:=J) ((Kept.cj r.cj R lr).block _ (W _ (by rw[df,df];exact(Qt j u hu).1)) fun A=>Qx.off A (by rw[df,df];exact(Qt j u hu).1))];exact(Qt j u hu).2
   refine⟨_,fun O J r=>hT.f2 W R6 r,_,rfl,be,_,fun O J r=>hT.cA W TP R6 r,?_⟩;refine cU (GT:=fun _ J v F=>cz F (Nw (Lv S w.heap.size iv y) J F) v (-(c.getD u 0))) (fun O J r=>mH (Lv.old r W) (hG.iC r W)) ?_;rintro O QP v1 QL r L A U;have hK:=U.aAG hT r;replace hG:=hG.jy (K:=(QP.heap.size,QL.heap.size)::iv) r W L fun x E=>aD _ E;replace hT:=hT.cS (K:=(QP.heap.size,QL.heap.size)::iv) r W L fun x E=>aD _ E;replace R:=Kept.cj A R lr;clear r L A U;generalize (QP.heap.size,QL.heap.size)::iv=Pv at*
   obtain⟨k1,k2,k3,k4,k5,k6,k7,k8,rfl⟩:=hK.shape;refine⟨fun O J r=>?_⟩;refine(hT.Mk r W (k:=i) WG (by first|omega|(dsimp only;omega)) TP (by dsimp only;rw[km,hW.row Pk,Qp]) hK (by dsimp only;intro y hy;have:=r1 y hy;omega) (by dsimp only;intro y hy;have:=Pm y hy;omega) (by rw[kj];omega)).mono fun e w8 L=>?_;obtain⟨rfl,RD,Qr⟩:=L;refine⟨.tuple #[],_,(J.heap.size,w8.heap.size)::Pv,rfl,r.gJ (hT.not r) RD,?_⟩;clear hK;replace hG:=hG.JZ r W RD;replace Qr:=hT.ep r Qr;replace R:=Kept.gz (Kept.cj r.cj R lr) RD fun g V A=>(Sl g A).elim id fun h=>by omega
   clear hT RD;have hT:=Qr;clear Qr r;generalize (J.heap.size,w8.heap.size)::Pv=iv2 at*
   refine dP (idO 21) ?_;obtain⟨t1,t2,t3,t4,t5,t6,t7,t8,ZJ,hY⟩:=hT.ldT W;obtain⟨b1,b2,b3,b4,b5,b6,b7,b8,hEb,hB⟩:=hT.eB W (j:=i) (by first|omega|(dsimp only;omega)) hyB;refine⟨rC t1 t2 t3 t4 t5 t6 t7 t8,rfl,fun O J r j x E=>ZJ r j x E,_,rfl,be,rC p1 p2 p3 p4 p5 p6 p7 p8,rfl,fun O J r j u hu=>?_,?_⟩
   .rw[aK,cd (w:=w) (F:=J) ((Kept.cj r.cj R lr).block _ (W _ (by rw[df,df];exact(Qt j u hu).1)) fun A=>Qx.off A (by rw[df,df];exact(Qt j u hu).1))];exact(Qt j u hu).2
   refine⟨_,fun O J r=>hT.f3 W hyB r,_,rfl,be,rC b1 b2 b3 b4 b5 b6 b7 b8,rfl,fun O J r j x E=>hEb r j x E,?_⟩;refine cU (GT:=fun _ J v F=>cz F (Nf J F) v (c.getD u 0*t.b.getD i 0)) (fun O J r=>ns (Lv.old r W) (hG.iC r W) (hB.iC r W) be (by first|omega|(dsimp only;omega))) ?_;rintro O Qo v3 Qc r L A U;have hM:=U.vL hT r;clear hG;clear hB;replace hY:=hY.jy (K:=(Qo.heap.size,Qc.heap.size)::iv2) r W L fun x E=>aD _ E;replace hT:=hT.cS (K:=(Qo.heap.size,Qc.heap.size)::iv2) r W L fun x E=>aD _ E;replace R:=Kept.cj A R lr;clear r L A U;generalize (Qo.heap.size,Qc.heap.size)::iv2=Pu at*
   obtain⟨m1,m2,m3,m4,m5,m6,m7,m8,rfl⟩:=hM.shape;refine cU (GT:=fun _ J v F=>cz F (Nf J F) v (t.kR n c i+c.getD u 0*t.b.getD i 0)) (fun O J r=>wy (Lv.old r W) (hY.iC r W) (hM.iC r W) (by first|omega|(dsimp only;omega)) be) ?_;rintro O Rl v4 R4 r L A U;have hN:=U.vL hT r;clear hY;clear hM;replace hT:=hT.cS (K:=(Rl.heap.size,R4.heap.size)::Pu) r W L fun x E=>aD _ E;replace R:=Kept.cj A R lr;clear r L A U;generalize (Rl.heap.size,R4.heap.size)::Pu=QD at*
   obtain⟨n1,n2,n3,n4,n5,n6,n7,n8,rfl⟩:=hN.shape;intro O J r;obtain⟨k1,k2,k3,k4⟩:=hT.stT W r (ad:=Addr.add ⟨y.g,0,none⟩ 5) hN.four (by rw[dF,aS]);refine⟨k1,k2,k3,fun w4 QG=>?_⟩;obtain⟨Sa,Q3,Ri⟩:=k4 w4 QG;replace hN:=hN.cX Ri;replace R:=Kept.gz (Kept.cj r.cj R lr) Q3 fun g V A=>(Sl g A).elim id fun h=>by omega
   clear k1 k2 k3 k4 Ri Q3 QG r;clear hT;have hT:=Sa;clear Sa;have e1:t.jH n c (i+1)=rJ (t.jH n c i) (-(c.getD u 0)) (t.a.getD i []):=by rw[Tb.jH,hu,aM SX]
   have e2:t.kR n c (i+1)=t.kR n c i+c.getD u 0*t.b.getD i 0:=by rw[Tb.kR,hu,aM SX]
   refine inc i ?_;intro I8 w3 r3;exact⟨(i+1,w3,_),⟨Pk,Kept.cj r3.cj R lr,(hT.cast (by rw[e1,e2])).rel r3 W⟩,sbgn [] r3,dec Pk⟩
  have SX:¬u<n:=by simpa using Vd
  have e1:t.jH n c (i+1)=t.jH n c i:=by rw[Tb.jH,hu,aI SX]
  have e2:t.kR n c (i+1)=t.kR n c i:=by rw[Tb.kR,hu,aI SX]
  refine inc i ?_;intro I8 w3 r3;exact⟨(i+1,w3,_),⟨Pk,Kept.cj r3.cj R lr,(hT.cast (by rw[e1,e2])).rel r3 W⟩,sbgn [] r3,dec Pk⟩
 have Pk:=dE N Pk;intro O J r;refine⟨rfl,y,RY,Kept.cj r.cj R lr,?_,Sl⟩;have e:t.rest n c=⟨t.bs,t.fs,t.a,t.b,t.jH n c i,t.kR n c i⟩:=by unfold Tb.rest;rw[UQ,Pk]
 rw[e];exact hT.aAL Qx Sl r W
def mU(p:Nat->Bool)(n:Nat):Option Nat:=(List.range n).find? p
theorem xp{i:Nat}(N:i<n)(h:p i=true)(U:∀j,j<i->p j=false):mU p n=some i:=by
 unfold mU;rw[List.find?_range_eq_some];exact⟨h,List.mem_range.2 N,fun j hj=>by rw[U j hj];rfl⟩
theorem xq(U:∀j,j<n->p j=false):mU p n=none:=by
 unfold mU;rw[List.find?_eq_none];intro j hj h;rw[U j (List.mem_range.1 hj)]at h
 cases h
theorem Be{x:Nat}(W:Old S w)(h:eD w S v ps)(hl:ps.length<=1000000):
  eL PG FS.gk #[v,iV x] w (eY w fun v' _=>v'=iV (rT (mU (fun i=>decide (ps.getD i 0=x)) ps.length))):=by
 obtain⟨h0,Y,I,a,c,rfl,hc,QA⟩:=h;refine iu ce ?_
 refine⟨Nat×World,fun z=>⟨[(0,sV a ps.length c),(1,iZ x),(7,iZ ps.length),(8,iZ z.1)],[],0,[],z.2⟩,fun z=>ps.length-z.1,
  fun z=>z.1<=ps.length/\Bq w z.2/\∀j,j<z.1->decide (ps.getD j 0=x)=false,?_,?_⟩
 .intro O J r;exact⟨(0,J),⟨ce,r.cj,ce⟩,sbgn [] r⟩
 rintro⟨i,w1⟩ ⟨N,G,Po⟩;dsimp only at N G Po ⊢;apply bS<;>intro h
 .have h:=dL h;obtain⟨y,hy⟩:=gO ps i;have hgy:ps.getD i 0=y:=by rw[List.getD,hy];rfl
  obtain⟨ad,rfl,k1,k2⟩:=QA i (iV (y:Int)) (by rw[aU,hy];rfl);refine⟨ad,rfl,be,iV (y:Int),fun O J r=>by simpa using gN W G r k1 k2,?_⟩;apply bS<;>intro L
  .have L:x=y:=by have:=eq_of_beq L;omega
   exact rtn G fun GE we re=>by rw[xp h (by rw[hgy,L];exact bg rfl) Po];rfl
  .have L:x≠y:=fun e=>by rw[e]at L;simp at L
   refine inc i ?_;intro I8 w3 r3;refine⟨(i+1,w3),⟨h,G.tr r3.cj,fun j hj=>?_⟩,sbgn [] r3,by dsimp only;omega⟩;by_cases Q1:j=i
   .subst Q1;rw[hgy];exact bI (Ne.symm L)
   .exact Po j (by dsimp only at hj;omega)
 .have h:i=ps.length:=by
   have:¬i<ps.length:=by simpa using h
   omega
  exact rtn G fun GE we re=>by rw[xq (by rw[<-h];exact Po)];rfl
theorem aBD{f:Rat}(W:Old S w)(hf:cz w S v f):
  eL PG FS.fk #[v] w (eY w fun v' _=>v'= .bool (decide (f≠0))):=by
 have G:=bR w;obtain⟨b1,a1,n1,c1,b2,a2,n2,c2,rfl⟩:=hf.shape;refine ov ce ?_;refine cW (cE G (pE (iV (rs f))) (fun O J r=>jE (oS W r) (hf.cX (kS G r W))) ?_);rintro O _ _ _ Pv r L G h_ rfl;clear r;exact rtn G fun GE we re=>by rw[show decide (f≠0)=(rs f != 0)from Bool.eq_iff_iff.2 (by rw[decide_eq_true_eq,bne_iff_ne,ne_eq,ne_eq,gL])];rfl
theorem Kf(W:Old S w)(E:eF w S S v xs):
  eL PG FS.eX #[v,.func (.func FS.fk) #[] #[]] w (eY w fun v' _=>v'=iV (rT (mU (fun i=>decide (xs.getD i 0≠0)) xs.length))):=by
 have G:=bR w;obtain⟨ax,cx,rfl,XC,Uy⟩:=E.shape;unfold maxLen at Uy;refine gn ce ?_
 refine⟨Nat×World×Iv,fun z=>⟨[(0,sV ax xs.length cx),(1,.o (.v (.func (.func FS.fk) #[] #[]))),(7,iZ xs.length),(8,iN z.1)],[],0,z.2.2,z.2.1⟩,fun z=>xs.length-z.1,
  fun z=>z.1<=xs.length/\Bq w z.2.1/\∀j,j<z.1->decide (xs.getD j 0≠0)=false,?_,?_⟩
 .intro O J r;exact⟨(0,J,[]),⟨ce,r.cj,ce⟩,sbgn [] r⟩
 clear G;rintro⟨i,w1,iv⟩ ⟨N,G,ht⟩;dsimp only at N G ht ⊢;apply bS<;>intro Pk
 .have Pk:=dL Pk;obtain⟨x,Q5⟩:=gO xs i;have QY:xs.getD i 0=x:=by rw[List.getD,Q5];rfl
  obtain⟨adx,csx,We,SL,RL⟩:=E.load Q5;obtain⟨p0,p1,p2,p3,p4,p5,p6,p7,rfl,SL⟩:=SL;refine⟨adx,We,be,rC p0 p1 p2 p3 p4 p5 p6 p7,rfl,rdO RL G W,?_⟩;refine cW (cE G (pE (.bool (decide (x≠0)))) (fun O J r=>aBD (oS W r) (SL.cX (kS G r W))) ?_);rintro O _ _ _ Pv r L G h_ rfl;clear r;apply bS<;>intro L
  .exact rtn G fun GE we re=>by rw[xp Pk (by rw[QY];exact L) ht];rfl
  refine inc i ?_;intro I8 w3 r3;refine⟨(i+1,w3,_),⟨Pk,G.tr r3.cj,fun j hj=>?_⟩,sbgn [] r3,by dsimp only;omega⟩;by_cases h:j=i
  .subst h;rw[QY];exact L
  .exact ht j (by dsimp only at hj;omega)
 have Pk:=dE N Pk;exact rtn G fun GE we re=>by rw[xq (by rw[<-Pk];exact ht)];rfl
end Go.Ex
namespace Go.Sx
open Go
variable{after:Array Edge}{z:Array Value}{ag':Bool}{ik ik':IntKind}{fs fs':List (Nat×Nat)}{ze ze':List Value}{bt:Nat}{guard:Option (Nat×Bool)}{dst:Option Tmp}{Fd:SV->Hp->Nat->Iv->World->Prop}{pos:String}
section
variable{P:Program}{τ:mo}{B n nx:Nat}{l:Env}{H:Hp}{iv:Iv}{w J:World}{O:Nat->eH}{a:Act}
theorem Gn(hτ:fG P τ){x y:Operand}{t ty e sz by_ k m c g:Nat}{ag:Bool}{sz0 e' al al' tag':Nat}
  {vy:SV} {xs news:List Value}
  (ht:τ t=some ⟨sz0,ag,bt,ze,4,ik,e,al,fs⟩) (Qn:τ e=some ⟨sz,ag',by_,ze',tag',ik',e',al',fs'⟩) (E:ev l x=some (.o (.v (.slice (some ⟨g,0,none⟩) m c)))) (hy:ev l y=some vy)
  (R8:∀O J,Rel H nx iv B w O J->J.ownsRow 0 e sz (.slice (some ⟨g,0,none⟩) m c) m xs/\∀id b,dV H id=some b->(O id).nil=false->(O id).g≠g)
  (Tu:news.length=k*sz) (Ss:∀u∈news,u.oneCell'=true) (hroom:m+k<=c)
  (src:∀O J,Rel H nx iv B w O J->∃ad c',vy.den O= .slice (some ad) k c'/\∀(j:Nat) u,news[j]? =some u->J.cell? (ad.add j)=some u)
  (hK:∀O J F,Rel H nx iv B w O J->F.ownsRow 0 e sz (.slice (some ⟨g,0,none⟩) (m+k) c) (m+k) (xs++news)->J.grownBy F (some g)->Fd (.o (.v (.slice (some ⟨g,0,none⟩) (m+k) c))) H nx iv F):
  zU P B ⟨dst,.call ⟨.builtin .append,⟨[x,y]⟩,⟨[t,t]⟩⟩,ty,pos,after,guard⟩ l H nx iv w Fd:=by
 refine⟨fun O J ev' r TB=>?_⟩;have hu:=(hτ t _ ht).i4 rfl;simp only at hu;have SZ:=hτ e _ Qn;obtain⟨inf,z,N,QK,QR,hz,SD⟩:=SZ.info;simp only at QK;obtain⟨Pm,Po⟩:=R8 O J r;obtain⟨ad,c',hv,Q8⟩:=src O J r;obtain⟨F,Y,I,h3⟩:=run_append_fits (P:=P) J 0 t ty e inf sz hu N QK g m c xs Pm ad k c' news Tu Q8 Ss hroom;have e1:ev' x= .slice (some ⟨g,0,none⟩) m c:=TB x _ E;have e2:ev' y= .slice (some ad) k c':=(TB y _ hy).trans hv;refine⟨_,F,iv,.inl ?_,r.Ff Po h3,hK O J F r I h3⟩;simp[execOp,resolve,invoke,builtin,e1,e2,Y]
theorem Cj{k:Nat}{u:Value}(h:u∈(Builtin.zeroCells z k).toList):u∈z.toList:=by
 unfold Builtin.zeroCells at h;rw[Array.toList_map]at h;obtain⟨i,N,rfl⟩:=bE.1 h;have Qv:i<k*z.size:=by simpa using N
 have h0:0<z.size:=by
  rcases bH z.size with h|h
  .rw[h]at Qv;omega
  .exact h
 rw[getElem!_pos z (i % z.size) (cM _ h0)];exact Array.getElem_mem_toList _
theorem Bf(hτ:fG P τ){t ty e by_ k off c g sz:Nat}{x:Operand}{ag:Bool}{sz0 e' al al' tag':Nat}
  
  (ht:τ t=some ⟨sz0,ag,bt,ze,4,ik,e,al,fs⟩) (Qn:τ e=some ⟨sz,ag',by_,ze',tag',ik',e',al',fs'⟩) (E:ev l x=some (.o (.v (.slice (some ⟨g,off,none⟩) k c)))) (R:k≠0)
  (V:∀O J,Rel H nx iv B w O J->∃cur tg,J.heap[g]? =some (.cells cur tg (0,0))/\off+k*sz<=cur.size/\∀id b,dV H id=some b->(O id).nil=false->(O id).g≠g)
  (hK:∀O J F cur tg zs,Rel H nx iv B w O J->J.heap[g]? =some (.cells cur tg (0,0))->zs.length=k*sz->F.heap[g]? =some (.cells (cur.toList.take off++zs++cur.toList.drop (off+k*sz)).toArray tg (0,0))->J.grownBy F (some g)->Fd (.o (.v (.tuple #[]))) H nx iv F):
  zU P B ⟨dst,.call ⟨.builtin .clear,⟨[x]⟩,⟨[t]⟩⟩,ty,pos,after,guard⟩ l H nx iv w Fd:=by
 refine⟨fun O J ev' r TB=>?_⟩;have hu:=(hτ t _ ht).i4 rfl;simp only at hu;have SZ:=hτ e _ Qn;obtain⟨inf,zv,N,QK,QR,hz,SD⟩:=SZ.info;have Su:=SZ.Fa;simp only at QK SD Su;obtain⟨cur,tg,hc,RH,Po⟩:=V O J r;have XR:zv.cells.size=sz:=by rw[<-Su,<-SD];simp
 have hlen:(Builtin.zeroCells zv.cells k).toList.length=k*sz:=by rw[Array.length_toList,size_zeroCells,XR]
 have RN:=run_storeCells_at (P:=P) g off tg (Builtin.zeroCells zv.cells k).toList 0 cur J hc (by rw[cN,hlen];exact RH) (fun v hv=>by
  have:=Cj hv;rw[SD]at this
  exact SZ.aAa v this)
 have e1:ev' x= .slice (some ⟨g,off,none⟩) k c:=TB x _ E;simp only[cN,hlen]at RN;refine⟨.tuple #[],_,iv,.inl ?_,r.Ff Po (ie J g _),hK O J _ cur tg _ r hc hlen (setRow_heap J g cur _ tg _ hc) (ie _ _ _)⟩;simp[execOp,resolve,invoke,builtin,e1,Builtin.clear_,run_underlying hu,zeroValue,typeInfo,N,hz,RN,R]
end
end Go.Sx
namespace Go.Ex
open Go Go.Sx Go.Proofs
section
variable{xs:List Value}{w:World}
theorem ownsRow.part{e sz n i g c:Nat}(h:w.ownsRow 0 e sz (.slice (some ⟨g,0,none⟩) n c) n xs)(N:i<=n):w.ownsRow 0 e sz (.slice (some ⟨g,0,none⟩) i c) i (xs.take (i*sz)):=by
 have hs:=Nat.mul_le_mul_right sz N;refine⟨by rw[bN,h.1];omega,?_⟩;rcases h.2 with⟨e,_⟩|⟨g',cap,cur,e,A,V,VI,SF,Q4,VX⟩
 .cases e
 .injection e with e1 e2 e3;injection e1 with e1;injection e1 with e1;subst e1 e3;exact .inr ⟨g,c,cur,rfl,A,V,be,SF,Q4,by rw[<-VX,List.take_take,Nat.min_eq_left hs]⟩
theorem Kg{n c i g:Nat}(Pm:w.ownsRow 0 T.int 1 (.slice (some ⟨g,0,none⟩) n c) n xs)(N:i<n)(U:n<=1000000)(Y:∀u∈xs,u.oneCell'=true):
  eL PG FS.gI #[.slice (some ⟨g,0,none⟩) n c,iV i,iV ((i+1:Nat):Int)] w (fun e F=>e= .returned (.slice (some ⟨g,0,none⟩) (n-1) c)/\w.grownBy F (some g)/\F.ownsRow 0 T.int 1 (.slice (some ⟨g,0,none⟩) (n-1) c) (n-1) (xs.take (i*1)++xs.drop ((i+1)*1))):=by
 have VI:n<=c/\c<=maxLen:=by
  rcases Pm.2 with⟨e,_⟩|⟨g',cap,cur,e,_,_,I,h3,_⟩
  .cases e
  .injection e with _ _ e3;subst e3;exact⟨I,h3⟩
 have SS:=Pm.1;have Pq:g<w.heap.size:=(ownsRow.low Pm g rfl).2;have Q6:∀{O:Nat->Sx.eH} {J:World},Rel [] 0 [] w.heap.size w O J->J.heap[g]? =w.heap[g]? :=fun r=>rls r (S:=fun g=>g<w.heap.size) (fun _ h=>h) (.inl Pq);have Qk:∀{iv:Iv} {H:Hp} {nx:Nat} {O:Nat->Sx.eH} {w1 J:World},Rel H nx iv w.heap.size w1 O J->∀id b,dV H id=some b->(O id).nil=false->(O id).g≠g:=fun r=>Rel.not r (S:=fun g=>g<w.heap.size) (fun _ h=>h) (.inl Pq);refine lN ce ?_;refine⟨⟨be,be,be,be⟩,_,_,_,rfl,rfl,rfl,?_⟩;apply bS<;>intro L
 .have L:(i:Int)=((i+1:Nat):Int):=eq_of_beq L;omega
 refine dP (idO 8) ?_;refine⟨⟨be,be,be⟩,some ⟨g,0,none⟩,i,c,by split<;>simp[dF],be,be,?_⟩;obtain⟨ad2,Q9⟩:∃ad:Addr,(if (c:Int)=((i+1:Nat):Int)then(some ⟨g,0,none⟩:Option Addr)else(some (⟨g,0,none⟩:Addr)).map (·.add ((((i+1:Nat):Int)).toNat*1)))=some ad/\(c≠i+1->ad=⟨g,(i+1)*1,none⟩):=by
  by_cases h:c=i+1
  .exact⟨⟨g,0,none⟩,by rw[aM be],fun I=>absurd h I⟩
  .exact⟨⟨g,(i+1)*1,none⟩,by rw[aI be];simp[dF],fun _=>rfl⟩
 refine⟨⟨be,be,be⟩,some ad2,n-(i+1),c-(i+1),Q9.1,be,be,?_⟩;have Zx:=Nat.mul_le_mul_right 1 (show i+1<=n from N)
 refine .inr (Gn hτ (xs:=xs.take (i*1)) (news:=xs.drop ((i+1)*1)) (m:=i) (k:=n-(i+1)) d8 d8 d8 d8 (fun O J r=>⟨ownsRow.part (ownsRow.cX Pm fun g2 V=>by injection V with V;subst V;exact Q6 r) be,Qk r⟩) (by rw[List.length_drop,SS,Nat.sub_mul]) (fun u hu=>Y u (List.mem_of_mem_drop hu)) be
  (fun O J r=>⟨ad2,c-(i+1),rfl,fun j u hu=>?_⟩) (fun O J F r h5 h6=>?_))
 .rw[cF]at hu;have Wm:=eU hu;have SX:c≠i+1:=fun e=>by
   have:n=i+1:=by omega
   rw[SS,this]at Wm;omega
  rw[Q9.2 SX,dF];have YG:=ownsRow.cX Pm (F:=J) fun g' V=>by injection V with V;subst V;exact Q6 r
  have:=YG.cells (g:=g) rfl _ u hu;rw[dF,aS]at this;exact this
 have hL:i+(n-(i+1))=n-1:=by omega
 rw[hL]at h5;rw[hL];have Tt:w.grownBy F (some g):=fD (eN (⟨rfl,rfl,rfl,lr,fun _ _ _=>rfl⟩:w.grownBy w (some g)) r.cj) h6;clear h6 r;conv=>whnf
 refine⟨⟨be,be,be⟩,some ⟨g,(n-1)*1,none⟩,1,c-(n-1),by rw[aI be];simp[dF],be,be,?_⟩;refine Bf hτ d8 d8 d8 bv (fun O J r=>?_) (fun O J w3 cur tg zs r k1 k2 k3 k4=>?_)
 .rcases h5.2 with⟨e,_⟩|⟨g',cap,cur,e,_,V,h3,_,Q4,_⟩
  .cases e
  .injection e with e1 _ e3;injection e1 with e1;injection e1 with e1;subst e1 e3;have hq:=Nat.mul_le_mul_right 1 (show n-1+1<=c by omega);exact⟨cur,_,(rls r (S:=fun g=>g<w.heap.size) (fun _ h=>h) (.inl Pq)).trans V,by rw[Q4];omega,Qk r⟩
 have h6:w3.ownsRow 0 T.int 1 (.slice (some ⟨g,0,none⟩) (n-1) c) (n-1) (xs.take (i*1)++xs.drop ((i+1)*1)):=by
  refine⟨h5.1,?_⟩;rcases h5.2 with⟨e,_⟩|⟨g',cap,cur',e,A,V,h3,h4,Q4,VX⟩
  .cases e
  .injection e with e1 _ e3;injection e1 with e1;injection e1 with e1;subst e1 e3;have e5:=(rls r (S:=fun g=>g<w.heap.size) (fun _ h=>h) (.inl Pq)).trans V;rw[k1]at e5;injection e5 with e5;injection e5 with e5 e6;subst e5 e6;have hq:=Nat.mul_le_mul_right 1 (show n-1+1<=c by omega);refine .inr ⟨g,c,_,rfl,A,k3,h3,h4,?_,?_⟩
   .simp only[List.size_toArray,aV,bN,List.length_drop,Array.length_toList,k2];omega
   .rw[<-VX];show List.take _ (_++zs++_)=_;rw[bJ,List.take_append_of_le_length (by rw[bN,Array.length_toList];omega),List.take_take,Nat.min_self]
 have RF:w.grownBy w3 (some g):=fD (eN Tt r.cj) k4;clear k1 k2 k3 k4 r h5 Tt;intro Id w5 r5;exact⟨rfl,eN RF r5.cj,ownsRow.cX h6 fun g' V=>by injection V with V;subst V;exact rls r5 (S:=fun g=>g<w.heap.size) (fun _ h=>h) (.inl Pq)⟩
theorem Kh{n c i g:Nat}(Pm:w.ownsRow 0 T.dO 4 (.slice (some ⟨g,0,none⟩) n c) n xs)(N:i<n)(U:n<=1000000)(Y:∀u∈xs,u.oneCell'=true):
  eL PG FS.dq #[.slice (some ⟨g,0,none⟩) n c,iV i,iV ((i+1:Nat):Int)] w (fun e F=>e= .returned (.slice (some ⟨g,0,none⟩) (n-1) c)/\w.grownBy F (some g)/\F.ownsRow 0 T.dO 4 (.slice (some ⟨g,0,none⟩) (n-1) c) (n-1) (xs.take (i*4)++xs.drop ((i+1)*4))):=by
 have VI:n<=c/\c<=maxLen:=by
  rcases Pm.2 with⟨e,_⟩|⟨g',cap,cur,e,_,_,I,h3,_⟩
  .cases e
  .injection e with _ _ e3;subst e3;exact⟨I,h3⟩
 have SS:=Pm.1;have Pq:g<w.heap.size:=(ownsRow.low Pm g rfl).2;have Q6:∀{O:Nat->Sx.eH} {J:World},Rel [] 0 [] w.heap.size w O J->J.heap[g]? =w.heap[g]? :=fun r=>rls r (S:=fun g=>g<w.heap.size) (fun _ h=>h) (.inl Pq);have Qk:∀{iv:Iv} {H:Hp} {nx:Nat} {O:Nat->Sx.eH} {w1 J:World},Rel H nx iv w.heap.size w1 O J->∀id b,dV H id=some b->(O id).nil=false->(O id).g≠g:=fun r=>Rel.not r (S:=fun g=>g<w.heap.size) (fun _ h=>h) (.inl Pq);refine iK ce ?_;refine⟨⟨be,be,be,be⟩,_,_,_,rfl,rfl,rfl,?_⟩;apply bS<;>intro L
 .have L:(i:Int)=((i+1:Nat):Int):=eq_of_beq L;omega
 refine dP (idO 8) ?_;refine⟨⟨be,be,be⟩,some ⟨g,0,none⟩,i,c,by split<;>simp[dF],be,be,?_⟩;obtain⟨ad2,Q9⟩:∃ad:Addr,(if (c:Int)=((i+1:Nat):Int)then(some ⟨g,0,none⟩:Option Addr)else(some (⟨g,0,none⟩:Addr)).map (·.add ((((i+1:Nat):Int)).toNat*4)))=some ad/\(c≠i+1->ad=⟨g,(i+1)*4,none⟩):=by
  by_cases h:c=i+1
  .exact⟨⟨g,0,none⟩,by rw[aM be],fun I=>absurd h I⟩
  .exact⟨⟨g,(i+1)*4,none⟩,by rw[aI be];simp[dF],fun _=>rfl⟩
 refine⟨⟨be,be,be⟩,some ad2,n-(i+1),c-(i+1),Q9.1,be,be,?_⟩;have Zx:=Nat.mul_le_mul_right 4 (show i+1<=n from N)
 refine .inr (Gn hτ (xs:=xs.take (i*4)) (news:=xs.drop ((i+1)*4)) (m:=i) (k:=n-(i+1)) d8 d8 d8 d8 (fun O J r=>⟨ownsRow.part (ownsRow.cX Pm fun g2 V=>by injection V with V;subst V;exact Q6 r) be,Qk r⟩) (by rw[List.length_drop,SS,Nat.sub_mul]) (fun u hu=>Y u (List.mem_of_mem_drop hu)) be
  (fun O J r=>⟨ad2,c-(i+1),rfl,fun j u hu=>?_⟩) (fun O J F r h5 h6=>?_))
 .rw[cF]at hu;have Wm:=eU hu;have SX:c≠i+1:=fun e=>by
   have:n=i+1:=by omega
   rw[SS,this]at Wm;omega
  rw[Q9.2 SX,dF];have YG:=ownsRow.cX Pm (F:=J) fun g' V=>by injection V with V;subst V;exact Q6 r
  have:=YG.cells (g:=g) rfl _ u hu;rw[dF,aS]at this;exact this
 have hL:i+(n-(i+1))=n-1:=by omega
 rw[hL]at h5;rw[hL];have Tt:w.grownBy F (some g):=fD (eN (⟨rfl,rfl,rfl,lr,fun _ _ _=>rfl⟩:w.grownBy w (some g)) r.cj) h6;clear h6 r;conv=>whnf
 refine⟨⟨be,be,be⟩,some ⟨g,(n-1)*4,none⟩,1,c-(n-1),by rw[aI be];simp[dF],be,be,?_⟩;refine Bf hτ d8 d8 d8 bv (fun O J r=>?_) (fun O J w3 cur tg zs r k1 k2 k3 k4=>?_)
 .rcases h5.2 with⟨e,_⟩|⟨g',cap,cur,e,_,V,h3,_,Q4,_⟩
  .cases e
  .injection e with e1 _ e3;injection e1 with e1;injection e1 with e1;subst e1 e3;have hq:=Nat.mul_le_mul_right 4 (show n-1+1<=c by omega);exact⟨cur,_,(rls r (S:=fun g=>g<w.heap.size) (fun _ h=>h) (.inl Pq)).trans V,by rw[Q4];omega,Qk r⟩
 have h6:w3.ownsRow 0 T.dO 4 (.slice (some ⟨g,0,none⟩) (n-1) c) (n-1) (xs.take (i*4)++xs.drop ((i+1)*4)):=by
  refine⟨h5.1,?_⟩;rcases h5.2 with⟨e,_⟩|⟨g',cap,cur',e,A,V,h3,h4,Q4,VX⟩
  .cases e
  .injection e with e1 _ e3;injection e1 with e1;injection e1 with e1;subst e1 e3;have e5:=(rls r (S:=fun g=>g<w.heap.size) (fun _ h=>h) (.inl Pq)).trans V;rw[k1]at e5;injection e5 with e5;injection e5 with e5 e6;subst e5 e6;have hq:=Nat.mul_le_mul_right 4 (show n-1+1<=c by omega);refine .inr ⟨g,c,_,rfl,A,k3,h3,h4,?_,?_⟩
   .simp only[List.size_toArray,aV,bN,List.length_drop,Array.length_toList,k2];omega
   .rw[<-VX];show List.take _ (_++zs++_)=_;rw[bJ,List.take_append_of_le_length (by rw[bN,Array.length_toList];omega),List.take_take,Nat.min_self]
 have RF:w.grownBy w3 (some g):=fD (eN Tt r.cj) k4;clear k1 k2 k3 k4 r h5 Tt;intro Id w5 r5;exact⟨rfl,eN RF r5.cj,ownsRow.cX h6 fun g' V=>by injection V with V;subst V;exact rls r5 (S:=fun g=>g<w.heap.size) (fun _ h=>h) (.inl Pq)⟩
end
variable{next:Act->World->Prop}{la:Array Bool}{Fd:Env->Hp->Nat->Iv->World->List Gh->Prop}{Q:Exit->Act->World->Prop}{o:Oper}
def Cs(P:Program)(τ:mo)(B:Nat)(all:List Oper):Tg->List Gh->Env->Hp->Nat->Iv->World->KT->Prop
 | .nil,_,l,H,nx,iv,w,Fd=>Fd l H nx iv w
 | .x i t,C8,l,H,nx,iv,w,Fd=>lg all i (fun o=>fA (mM o.op||Cw o.op) P τ B all o l H nx iv w (fun l' H' Pr K J=>stepG τ B (mM o.op) C8 i l' H' Pr K J (fun G'=>Cs P τ B all t G' l' H' Pr K J Fd)))
 | .two i t j u,C8,l,H,nx,iv,w,Fd=>lg all i (fun o=>fA (mM o.op||Cw o.op) P τ B all o l H nx iv w (fun l' H' Pr K J=>stepG τ B (mM o.op) C8 i l' H' Pr K J (fun G'=>Cs P τ B all t G' l' H' Pr K J Fd)))/\
   lg all j (fun o=>fA (mM o.op||Cw o.op) P τ B all o l H nx iv w (fun l' H' Pr K J=>stepG τ B (mM o.op) C8 j l' H' Pr K J (fun G'=>Cs P τ B all u G' l' H' Pr K J Fd)))
 | .three i t j u k v,C8,l,H,nx,iv,w,Fd=>lg all i (fun o=>fA (mM o.op||Cw o.op) P τ B all o l H nx iv w (fun l' H' Pr K J=>stepG τ B (mM o.op) C8 i l' H' Pr K J (fun G'=>Cs P τ B all t G' l' H' Pr K J Fd)))/\
   (lg all j (fun o=>fA (mM o.op||Cw o.op) P τ B all o l H nx iv w (fun l' H' Pr K J=>stepG τ B (mM o.op) C8 j l' H' Pr K J (fun G'=>Cs P τ B all u G' l' H' Pr K J Fd)))/\
   lg all k (fun o=>fA (mM o.op||Cw o.op) P τ B all o l H nx iv w (fun l' H' Pr K J=>stepG τ B (mM o.op) C8 k l' H' Pr K J (fun G'=>Cs P τ B all v G' l' H' Pr K J Fd))))
 | .ld i b t,C8,l,H,nx,iv,w,Fd=>lg all i (fun o=>match Io o with
  |some (d,T,u)=>match fZ l u with
   |some su=>zy τ B T su H nx iv w (fun v=>Cs P τ B all t (⟨u,d,T,b⟩::C8) ((d,v)::l) H nx iv w Fd)
   |none=>False
  |none=>False)
 | .qp id t,C8,l,H,nx,iv,w,Fd=>∃H' b,dV H id=some b/\b≠ .dead/\xN H H'/\FM id H'=true/\∀O J,Rel H nx iv B w O J->(O id).nil=false/\∃l',(∀u v,fZ l' u=some v->v.sc nx/\∃v',fZ l u=some v'/\v'.den O=v.den O)/\Cs P τ B all t C8 l' H' nx (((O id).g,(O id).g+1)::iv) J Fd
section
variable{P:Program}{τ:mo}{ops:Array Oper}{B n nx:Nat}{l:Env}{H:Hp}{iv:Iv}{w J:World}{O:Nat->Sx.eH}{a:Act}
theorem aA7(hτ:fG P τ){i:Nat}(ho:ops[i]? =some o)(hd:∀d,o.dst=some d->d<n){Fd:KT}
  (Y:fA (mM o.op||Cw o.op) P τ B ops.toList o l H nx iv w Fd) (sat:Sat n l H nx iv B w O a J)
  (U:∀l' H' Pr K F F' x w3,Fd l' H' Pr K F->Sat n l' H' Pr K B F F' (a.put o.dst x) w3->(mM o.op=true->w3=J)->next (a.put o.dst x) w3):
  wpOp P ops Q i next a J:=by
 unfold fA at Y;refine lh ho ?_;rcases iy sat Y with⟨G,l1,I,sat1⟩|⟨G,l1,I,sat1⟩
 .refine .inl ⟨G,?_⟩
  cases hR:mM o.op with
  |true=>
   rw[hR]at I;obtain⟨v,hK,R1,Px⟩:=(im hτ I sat1 hR).resolve_right (fun hh=>by have:=hh.1;simp at this);obtain⟨l2,h3,sat2⟩:=eh sat1 hK hd R1;exact kf (Px J (.inr sat1.rel)) (U _ _ _ _ _ _ _ _ h3 sat2 fun _=>rfl)
  |false=>
   have nr:∀w3:World,mM o.op=true->w3=J:=fun w3 h=>by rw[hR]at h;cases h
   cases hA:Cw o.op with
   |true=>
    obtain⟨b,v,mk,obj,hK,TH,A,hv,Wk,RH,Tl⟩:=lF hτ I sat1 hA;have Qb:Rel ((nx,b)::H) (nx+1) iv B w (Sx.jG O nx ⟨J.heap.size,0,false⟩) (J.alloc obj):=
     sat1.rel.push b _ rfl rfl rfl ce (fun k R=>heap_alloc_old _ _ R) (fun _=>⟨lr,ce⟩) (RH _ _ (heap_alloc_new _ _)) A
    obtain⟨l2,h3,sat2⟩:=eh (sat1.next Qb (Nat.le_succ _) (fun id RE=>iO id RE)) hK hd hv;rw[Wk]at sat2;exact kf (v:=mk J.heap.size) (F:=J.alloc obj) (Tl J) (U _ _ _ _ _ _ _ _ h3 sat2 (by rw[hR];exact fun h=>by cases h))
   |false=>
    refine lG hτ I sat1 fun v H' Pr K F F' w3 hK sat2 hv=>?_;obtain⟨l2,h3,sat3⟩:=eh sat2 hK hd hv;exact U _ _ _ _ _ _ _ _ h3 sat3 (by rw[hR];exact fun h=>by cases h)
 .obtain⟨l2,h4,sat3⟩:=eh sat1 I hd trivial;exact .inr ⟨G,U _ _ _ _ _ _ _ _ h4 sat3 fun _=>rfl⟩
theorem yD(hτ:fG P τ){i:Nat}{C8:List Gh}{F8:List Zh}(ho:ops[i]? =some o)(hd:∀d,o.dst=some d->d<n)(hr:i∈Region.ready .any ops la)
  (Y:fA (mM o.op||Cw o.op) P τ B ops.toList o l H nx iv w (fun l' H' Pr K J=>stepG τ B (mM o.op) C8 i l' H' Pr K J (Fd l' H' Pr K J))) (sat:Sat n l H nx iv B w O a J)
  (hG:∀z∈F8,lP ops z.1.b la->z.1∈C8) (hZ:∀z∈F8,Nb ops la a z) (hI:IZ P ops F8 la J)
  (U:∀l' H' Pr K F F' x w3 G',Fd l' H' Pr K F G'->Sat n l' H' Pr K B F F' (a.put o.dst x) w3->(∀z∈F8,lP ops z.1.b (la.setIfInBounds i true)->z.1∈G')->(∀z∈F8,Nb ops (la.setIfInBounds i true) (a.put o.dst x) z)->IZ P ops F8 (la.setIfInBounds i true) w3->next (a.put o.dst x) w3):
  wpOp P ops Q i next a J:=by
 have hl:=(eE.1 hr).1;refine aA7 hτ ho hd Y sat fun l' H' Pr K F F' x w3 hK sat2 G=>?_;have Zd:∀z∈F8,Nb ops (la.setIfInBounds i true) (a.put o.dst x) z:=fun z hz=>(hZ z hz).step ho (mL hr)
 cases hR:mM o.op with
 |true=>
  rw[hR]at hK;have G:=G hR;subst G;refine U _ _ _ _ _ _ _ _ C8 hK sat2 (fun z hz h=>hG z hz (j9 ho hl h).1) Zd fun z hz h=>hI z hz (j9 ho hl h).1
 |false=>
  rw[hR]at hK;obtain⟨I,h3⟩:=tL hτ sat2 _ hK;refine U _ _ _ _ _ _ _ _ _ I sat2 (fun z hz h=>?_) Zd fun z hz h=>?_
  .obtain⟨k1,k2⟩:=j9 ho hl h;exact nO (hG z hz k1) (k2 hR)
  .obtain⟨k1,k2⟩:=j9 ho hl h;obtain⟨su,sv,e1,e2,e3⟩:=h3 z.1 (nO (hG z hz k1) (k2 hR));have h4:=sat2.env _ _ e1;have h5:=sat2.env _ _ e2;rw[(Zd z hz).u]at h4;rw[(Zd z hz).d]at h5;injection h4 with h4;injection h5 with h5;unfold Yz;rw[h4,h5];exact e3
theorem kC(hτ:fG P τ)(Py:∀(j:Nat) o,ops[j]? =some o->∀d,o.dst=some d->d<n)(QB:∀(j:Nat) (o:Oper) cs b,ops[j]? =some o->o.op≠ .select cs b){Fd:KT}{Q0:Act->World->Prop}
  (hQ:∀l' H' Pr K F F' a' w3,Fd l' H' Pr K F->Sat n l' H' Pr K B F F' a' w3->Q0 a' w3):
  ∀(t:Tg) (fuel:Nat) (la:Array Bool) (l:Env) (H:Hp) (nx:Nat) (iv:Iv) (w:World) (O:Nat->Sx.eH) (a:Act) (J:World) (C8:List Gh) (F8:List Zh),LY la<=fuel->la.size=ops.size->jk ops t la=true->Cs P τ B ops.toList t C8 l H nx iv w Fd->Sat n l H nx iv B w O a J->
   (∀z∈F8,lP ops z.1.b la->z.1∈C8)->(∀z∈F8,Nb ops la a z)->IZ P ops F8 la J->qq P .any ops (QN Q0) (IZ P ops F8) fuel la a J
 | .nil,fuel,la,l,H,nx,iv,w,O,a,J,C8,F8,_,_,hc,h,s,hG,hZ,hI=>by
  simp only[jk,List.isEmpty_iff]at hc;exact yo hI hc ⟨rfl,hQ _ _ _ _ _ _ _ _ h s⟩ fuel
 | .x i t,fuel,la,l,H,nx,iv,w,O,a,J,C8,F8,hf,hz,hc,h,s,hG,hZ,hI=>by
  unfold jk at hc;obtain⟨o,ho,Y⟩:=ew h;rw[ah]at ho;simp only[ho,bF,Bool.or_eq_true]at hc;obtain⟨⟨c1,c2⟩,c3⟩:=hc;have c1:i∈Region.ready .any ops la:=by simpa using c1
  obtain⟨VW,-⟩:=eE.1 c1;have WS:=gH VW;obtain⟨f,rfl⟩:∃f,fuel=f+1:=⟨fuel-1,be⟩
  have Ro:(la.setIfInBounds i true).size=ops.size:=by rw[bO,hz]
  rcases c2 with c2|⟨⟨hP,Sj⟩,c4⟩
  .refine⟨hI,fun h0=>(by rw[h0]at c1;cases c1),fun j hj=>?_⟩;have Q1:j=i:=ee (cD.1 c2 j hj);subst Q1;exact yD hτ ho (Py j o ho) c1 Y s hG hZ hI fun _ _ _ _ _ _ _ _ G' R hs UJ UK UL=>kC hτ Py QB hQ t f _ _ _ _ _ _ _ _ _ G' F8 be Ro c3 R hs UJ UK UL
  .have hR:mM o.op=true:=by
    unfold HU at hP;split at hP
    .cases hP
    .exact hP
   have hm:=tN la;have A:=lE (ops:=ops) (m:=iU la.toList 0) (i:=i) ops.toList 0 0 (fun n o U=>by rw[aS];rwa [ah]at U) (fun j hj=>by rw[pz]at hj;cases hj);generalize zm (iU la.toList 0) i ops.toList 0 0=b at*
   have VD:o.guard=none:=by simpa using Sj
   unfold fA tP at Y;rw[VD]at Y;rw[hR]at Y;obtain⟨v,hK,R1,Px⟩:=(im hτ Y s hR).resolve_right (fun hh=>by have:=hh.1;simp at this);obtain⟨l2,h3,sat2⟩:=eh s hK (Py i o ho) R1
   try rw[hR]at h3
   have G:Region.wanted o (yielded ops a.tmps)=true:=by simp[Region.wanted,VD]
   refine nF (v:=v.den O) (b:=b) (C9:=fun _=>True) (X:=execOp a.eval o) ho hR QB (fun c a w hq=>absurd hq.1 ce) (fun j hj=>(A j hj).2.2) (fun w3 _=>Px w3 (.inl hP)) (fun lx w h z hz ha=>h z hz ((fp ho hR).2 ha))
    f la a J (fun j hj=>(hm j).symm.trans (A j hj).1) (fun j oj Ry Q1 hl R=>oE ops.toList 0 c4 j oj (by rw[ah];exact Ry) be (by
     have hj:=(bD.1 Ry).1
     rw[aS,hm,lD be false true];exact hl) (by rw[aS];exact R)) c1 ⟨G,rfl⟩ ?_
   refine j8 (fun lx w h=>⟨h,fun _=>trivial⟩) _ _ _ _ ?_;exact kC hτ Py QB hQ t f _ _ _ _ _ _ _ _ _ C8 F8 be Ro c3 h3 sat2 (fun z hz h=>hG z hz ((fp ho hR).1 h)) (fun z hz=>(hZ z hz).step ho (mL c1)) (fun z hz h=>hI z hz ((fp ho hR).1 h))
 | .two i t k u,fuel,la,l,H,nx,iv,w,O,a,J,C8,F8,hf,hz,hc,h,s,hG,hZ,hI=>by
  simp only[jk]at hc;split at hc
  .rename_i x y hr;simp only[bF]at hc;obtain⟨c1,c2,c3,c4⟩:=hc;have E:=bT c1;have hy:=bT c2;subst E;subst hy;obtain⟨Y,I⟩:=h;obtain⟨o1,TJ,Y⟩:=ew Y;obtain⟨o2,RB,I⟩:=ew I;rw[ah]at TJ RB;have Tf:x∈Region.ready .any ops la:=by rw[hr];simp
   have Th:y∈Region.ready .any ops la:=by rw[hr];simp
   have u1:=gH (eE.1 Tf).1;have u2:=gH (eE.1 Th).1;obtain⟨f,rfl⟩:∃f,fuel=f+1:=⟨fuel-1,be⟩
   refine⟨hI,fun h0=>(by rw[hr]at h0;cases h0),fun j hj=>?_⟩;rw[hr,List.mem_cons,aX]at hj;rcases hj with rfl|rfl
   .exact yD hτ TJ (Py _ o1 TJ) Tf Y s hG hZ hI fun _ _ _ _ _ _ _ _ G' R hs UJ UK UL=>kC hτ Py QB hQ t f _ _ _ _ _ _ _ _ _ G' F8 be (by rw[bO,hz]) c3 R hs UJ UK UL
   .exact yD hτ RB (Py _ o2 RB) Th I s hG hZ hI fun _ _ _ _ _ _ _ _ G' R hs UJ UK UL=>kC hτ Py QB hQ u f _ _ _ _ _ _ _ _ _ G' F8 be (by rw[bO,hz]) c4 R hs UJ UK UL
  .cases hc
 | .three i t k u m v,fuel,la,l,H,nx,iv,w,O,a,J,C8,F8,hf,hz,hc,h,s,hG,hZ,hI=>by
  simp only[jk]at hc;split at hc
  .rename_i x y z9 hr;simp only[bF]at hc;obtain⟨c1,c2,c6,c3,c4,c5⟩:=hc;have E:=bT c1;have hy:=bT c2;have hz9:=bT c6;subst E;subst hy;subst hz9;obtain⟨Y,I,h3⟩:=h;obtain⟨o1,TJ,Y⟩:=ew Y;obtain⟨o2,RB,I⟩:=ew I;obtain⟨o3,VJ,h3⟩:=ew h3;rw[ah]at TJ RB VJ;have Tf:x∈Region.ready .any ops la:=by rw[hr];simp
   have Th:y∈Region.ready .any ops la:=by rw[hr];simp
   have hm3:z9∈Region.ready .any ops la:=by rw[hr];simp
   have u1:=gH (eE.1 Tf).1;have u2:=gH (eE.1 Th).1;have u3:=gH (eE.1 hm3).1;obtain⟨f,rfl⟩:∃f,fuel=f+1:=⟨fuel-1,be⟩
   refine⟨hI,fun h0=>(by rw[hr]at h0;cases h0),fun j hj=>?_⟩;rw[hr,List.mem_cons,List.mem_cons,aX]at hj;rcases hj with rfl|rfl|rfl
   .exact yD hτ TJ (Py _ o1 TJ) Tf Y s hG hZ hI fun _ _ _ _ _ _ _ _ G' R hs UJ UK UL=>kC hτ Py QB hQ t f _ _ _ _ _ _ _ _ _ G' F8 be (by rw[bO,hz]) c3 R hs UJ UK UL
   .exact yD hτ RB (Py _ o2 RB) Th I s hG hZ hI fun _ _ _ _ _ _ _ _ G' R hs UJ UK UL=>kC hτ Py QB hQ u f _ _ _ _ _ _ _ _ _ G' F8 be (by rw[bO,hz]) c4 R hs UJ UK UL
   .exact yD hτ VJ (Py _ o3 VJ) hm3 h3 s hG hZ hI fun _ _ _ _ _ _ _ _ G' R hs UJ UK UL=>kC hτ Py QB hQ v f _ _ _ _ _ _ _ _ _ G' F8 be (by rw[bO,hz]) c5 R hs UJ UK UL
  .cases hc
 | .ld i b t,fuel,la,l,H,nx,iv,w,O,a,J,C8,F8,hf,hz,hc,h,s,hG,hZ,hI=>by
  unfold jk at hc;obtain⟨o,ho,Y⟩:=ew h;rw[ah]at ho;simp only[ho]at hc
  cases Rt:Io o with
  |none=>rw[Rt]at hc;cases hc
  |some q=>
   obtain⟨d,T,u⟩:=q;rw[Rt]at hc Y;simp only[bF]at hc;obtain⟨⟨⟨⟨c1,c2⟩,c4⟩,c5⟩,c3⟩:=hc;obtain⟨e1,e2,e3⟩:=Dy Rt;have c1:i∈Region.ready .any ops la:=by simpa using c1
   obtain⟨VW,-⟩:=eE.1 c1;have WS:=gH VW;obtain⟨f,rfl⟩:∃f,fuel=f+1:=⟨fuel-1,be⟩
   have Ro:(la.setIfInBounds i true).size=ops.size:=by rw[bO,hz]
   have hR:mM o.op=true:=by rw[e2];rfl
   have hm:=tN la;have A:=lE (ops:=ops) (m:=iU la.toList 0) (i:=i) ops.toList 0 0 (fun n o U=>by rw[aS];rwa [ah]at U) (fun j hj=>by rw[pz]at hj;cases hj);rw[<-bT c2]at A
   cases Xg:fZ l u with
   |none=>simp only[Xg]at Y
   |some su=>
    simp only[Xg]at Y;obtain⟨v,hK,R1,Px⟩:=nU hτ s.rel (s.sc _ _ Xg) Y;have hau:=s.env _ _ Xg;have Wl:=Py i o ho d e1;have sat2:Sat n ((d,v)::l) H nx iv B w O (a.put o.dst (v.den O)) J:=by rw[e1];exact s.put Wl R1
    have G:Region.wanted o (yielded ops a.tmps)=true:=by simp[Region.wanted,e3]
    have TB:a.eval (.tmp u)=su.den O:=by rw[Act.eval,bG,hau];rfl
    have hui:tb (iU la.toList 0) i=false:=by rw[hm];exact mL c1
    have Ta:=vS ops.toList 0 c5;refine nF (v:=v.den O) (b:=b) (C9:=Yz P (⟨u,d,T,b⟩,su.den O,v.den O)) (X:=execOp a.eval o) ho hR QB (fun c a w hq=>absurd hq.1 ce) (fun j hj=>(A j hj).2.2) (fun w3 hY=>?_) (fun lx w h z hz ha=>h z hz ((fp ho hR).2 ha))
     f la a J (fun j hj=>(hm j).symm.trans (A j hj).1) (fun j oj Ry Q1 hl R=>oE ops.toList 0 c4 j oj (by rw[ah];exact Ry) be (by
      have hj:=(bD.1 Ry).1
      rw[aS,hm,lD be false true];exact hl) (by rw[aS];exact R)) c1 ⟨G,rfl⟩ ?_
    .unfold Yz at hY;obtain⟨dst,op,ty,pos,after,guard⟩:=o;simp only at e2;subst e2;simp only[execOp,TB]
     exact mX hY
    .refine j8 (E8:=IZ P ops ((⟨u,d,T,b⟩,su.den O,v.den O)::F8)) (fun lx w h=>⟨fun z hz=>h z (aD _ hz),h _ aF⟩) _ _ _ _ ?_;refine kC hτ Py QB hQ t f _ _ _ _ _ _ _ _ _ (⟨u,d,T,b⟩::C8) ((⟨u,d,T,b⟩,su.den O,v.den O)::F8) be Ro c3 hK sat2 (fun z hz h=>?_) (fun z hz=>?_) (fun z hz h=>?_)
     .rcases List.mem_cons.1 hz with rfl|hz
      .exact aF
      .exact aD _ (hG z hz ((fp ho hR).1 h))
     .rcases List.mem_cons.1 hz with rfl|hz
      .have h7:=(Ta i o (by rw[ah];exact ho) (by rw[aS];exact hui)).1;refine⟨qA h7 hau,?_,fun j oj Ry TM=>?_⟩
       .rw[e1];show(a.tmps.setIfInBounds d _)[d]? =_;rw[Array.getElem?_setIfInBounds_self_of_lt (by rw[s.size];exact Wl)]
       .have Q1:i≠j:=fun e=>by
         subst e;have N:=(bD.1 VW).1;rw[bG,Array.getElem?_setIfInBounds_self_of_lt N]at TM
         cases TM
        rw[Go.getD_set_ne false Q1]at TM;obtain⟨k1,k2⟩:=Ta j oj (by rw[ah];exact Ry) (by rw[aS,hm];exact TM);exact⟨k1,k2 be⟩
      .exact(hZ z hz).step ho (mL c1)
     .rcases List.mem_cons.1 hz with rfl|hz
      .exact Px J s.rel
      .exact hI z hz ((fp ho hR).1 h)
 | .qp id t,fuel,la,l,H,nx,iv,w,O,a,J,C8,F8,hf,hz,hc,h,s,hG,hZ,hI=>by
  obtain⟨H',b,RE,hd,hs,ho,h⟩:=h;obtain⟨U,l',hl,h⟩:=h _ _ s.rel;exact kC hτ Py QB hQ t fuel la l' H' nx _ J O a J C8 F8 hf hz hc h ⟨s.rel.free RE hd U hs ho,s.size,s.defers,fun u v hv=>by obtain⟨-,v',Y,I⟩:=hl u v hv;rw[<-I];exact s.env u v' Y,fun u v hv=>(hl u v hv).1⟩ hG hZ hI
theorem yg(hτ:fG P τ)(hm:P.follows .mixedOrders=true){Fd:KT}(t:Tg)(hs:Region.noSelect ops=true)(hc:jk ops t (Array.replicate ops.size false)=true)
  (h:Cs P τ B ops.toList t [] l H nx iv w Fd):mO P B ops l H nx iv w Fd:=by
 refine⟨fun n O a J Py sat Q hQ id=>?_⟩;refine wp_mono (Q':=Q) (c:=.region id ops true) (wp_region_any (Q:=QN (Q .normal)) hm (vR (E8:=IZ P ops []) _ _ _ _ ?_)) (fun e a w hq=>by obtain⟨rfl,hq⟩:=hq;exact hq);refine kC (Q0:=Q .normal) hτ (fun j o ho d hd=>?_) (Region.noSelect_spec hs) hQ t _ _ _ _ _ _ _ O _ _ [] [] ?_ ce hc h ⟨sat.rel.drew,sat.size,sat.defers,sat.env,sat.sc⟩ (fun z hz=>by cases hz) (fun z hz=>by cases hz) (fun z hz=>by cases hz)
 .have:=cD.1 Py o (aG (by rw[ah];exact ho));rw[hd]at this;have h5:d+1<=n:=by simpa [Nat.blt]using this
  exact h5
 .unfold LY;refine aR List.countP_le_length ?_;simp
end
end Go.Ex
