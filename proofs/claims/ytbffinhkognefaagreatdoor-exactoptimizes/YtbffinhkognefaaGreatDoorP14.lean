/- Texts X240 to X246: lemmas, each with its conditions. -/
import Derived.Test.YtbffinhkognefaaGreatDoorP13
set_option linter.defProp false
namespace Go.Ex
open Go Go.Sx Go.Proofs
variable{g:Nat}
structure Ow where
 v:Value
 e:TypeId
 sz:Nat
 n:Nat
 xs:List Value
def Ow.Pa(it:Ow)(xs:List Value):Ow:=⟨it.v,it.e,it.sz,it.n,xs⟩
def Bv(vs:List Value)(g:Nat):Prop:=∃v∈vs,v.ownBlock=some g
structure ju(w:World)(S:Nat->Prop)(E8:List Ow):Prop where
 own:∀it∈E8,w.ownsRow 0 it.e it.sz it.v it.n it.xs
 apart:∀(i j:Nat) a b g,E8[i]? =some a->E8[j]? =some b->a.v.ownBlock=some g->b.v.ownBlock=some g->i=j
 off:∀g,Bv (E8.map Ow.v) g->¬S g
def eQ{α:Type}{l:List α}{k:Nat}{x:α}(h:l[k]? =some x):k<l.length:=(aH.1 h).1
section
variable{w F:World}{S S':Nat->Prop}{E8:List Ow}{it:Ow}{k:Nat}{xs:List Value}
def ju.bk(h:it∈E8)(V:it.v.ownBlock=some g):Bv (E8.map Ow.v) g:=⟨_,List.mem_map_of_mem h,V⟩
def ju.low(h:ju w S E8)(V:Bv (E8.map Ow.v) g):g<w.heap.size:=by
 obtain⟨v,hv,V⟩:=V;obtain⟨it,R,rfl⟩:=bA.1 hv;exact(ownsRow.low (h.own it R) g V).2
def ju.cW(h:ju w S E8)(K:∀g,Bv (E8.map Ow.v) g->F.heap[g]? =w.heap[g]?):ju F S E8:=
 ⟨λit R=>ownsRow.cW (h.own it R) λg V=>K g (ju.bk R V),h.apart,h.off⟩
def ju.HB(h:ju w S E8)(K:∀g,Bv (E8.map Ow.v) g->¬S' g):ju w S' E8:=⟨h.own,h.apart,K⟩
def Nv(K:E8[k]? =some it):(E8.set k (it.Pa xs)).map Ow.v=E8.map Ow.v:=by
 rw[List.map_set];apply av;intro i;by_cases e:k=i
 .subst e;rw[aQ (by rw[aO];exact eQ K),aS,K];rfl
 .rw[aX e]
def JH(K:E8[k]? =some it){i:Nat}{a:Ow}(R:(E8.set k (it.Pa xs))[i]? =some a):∃a',E8[i]? =some a'/\a'.v=a.v:=by
 by_cases e:k=i
 .subst e;rw[aQ (eQ K)]at R;injection R with R;subst R;exact⟨it,K,rfl⟩
 .rw[aX e]at R;exact⟨a,R,rfl⟩
def ju.put(h:ju w S E8)(K:E8[k]? =some it)(V:w.grownBy F it.v.ownBlock)(ho:F.ownsRow 0 it.e it.sz it.v it.n xs):ju F S (E8.set k (it.Pa xs)):=by
 refine⟨λit2 Qo=>?_,λi j a b g R hj ha N=>?_,λg V=>h.off g (by rw[Nv K]at V;exact V)⟩
 .obtain⟨i,R⟩:=aj Qo;by_cases e:k=i
  .subst e;rw[aQ (eQ K)]at R;injection R with R;subst R;exact ho
  .rw[aX e]at R;have RY:=h.own it2 (aG R);exact ownsRow.cW RY λg Qv=>V.block g (ownsRow.low RY g Qv).2 λe2=>e (h.apart k i _ _ g K R e2.symm Qv)
 .obtain⟨a',Y,I⟩:=JH K R;obtain⟨b',h3,h4⟩:=JH K hj;exact h.apart i j a' b' g Y h3 (by rw[I];exact ha) (by rw[h4];exact N)
end
def MZ{w:World}{Bc e sz n off:Nat}{v:Value}{xs nv:List Value}(h:w.ownsRow Bc e sz v n xs)(hj:off+nv.length<=n*sz)(h0:0<nv.length):
  ∃g c,v= .slice (some ⟨g,0,none⟩) n c/\(∀k,k<nv.length->(w.cell? (Addr.add ⟨g,off,none⟩ k)).isSome=true/\w.frozen? (Addr.add ⟨g,off,none⟩ k)=false)/\
   (setCells w ⟨g,off,none⟩ nv).ownsRow Bc e sz v n (xs.take off++nv++xs.drop (off+nv.length))/\w.grownBy (setCells w ⟨g,off,none⟩ nv) (some g):=by
 rcases h.2 with⟨_,Wb⟩|⟨g,cap,cur,S5,N,V,Uo,Rw,QX,Uz⟩
 .subst Wb;omega
 have hns:n*sz<=cap*sz:=Nat.mul_le_mul_right sz Uo;obtain⟨f1,f2,f3,f4⟩:=pO nv w g off;have Qt:=mi nv w g off cur e V be;refine⟨g,cap,S5,λk K=>?_,?_,?_⟩
 .rw[dD];refine⟨?_,?_⟩
  .rw[cell_of (g:=g) (cs:=cur.toList) (by simpa using V),aE (by simp;omega)];rfl
  .simp[World.frozen?,V]
 .rw[jL];refine⟨?_,.inr ⟨g,cap,_,S5,N,Qt,Uo,Rw,?_,?_⟩⟩
  .simp only[aU,bI,List.length_drop,h.1];omega
  .simp only[List.size_toArray,aU,bI,List.length_drop,Array.length_toList];omega
  .subst Uz;have Qa:cur.toList.length=cur.size:=by simp
   have ha:List.drop (off+nv.length) (List.take (n*sz) cur.toList)=(List.drop (off+nv.length) cur.toList).take (n*sz-(off+nv.length)):=by rw[List.drop_take]
   rw[ha,List.take_take,Nat.min_eq_left be];show List.take (n*sz) (_++nv++_)=_;rw[List.take_append,bU (by simp;omega)];congr 2;simp only[aU,bI]
   omega
 .rw[jL];exact⟨f1,f2,f3,by rw[f4];exact lr,λk K Po=>mj nv w g _ (λe=>Po (by rw[e]))⟩
end Go.Ex
namespace Go.Sx
open Go Go.Ex Go.Proofs
variable{X:Nat->Prop}{O:Nat->Sx.eD}
def Rel.fz{H:Hp}{nx:Nat}{iv:Iv}{B:Nat}{w J F:World}(r:Rel H nx iv B w O J)(Po:∀g,X g->∀id b,dT H id=some b->(O id).nil=false->(O id).g≠g)(h:Kept J F X):Rel H nx ((J.heap.size,F.heap.size)::iv) B F O F:=
 r.Cc h.size (λid b N E=>h.block _ (r.low id b N E).2 λZ=>Po _ Z id b N E rfl) λlo R hm=>by
  rcases List.mem_cons.1 hm with e|hm
  .injection e with e1 e2;subst e1 e2;exact⟨lr,λid b N E=>by have:=(r.low id b N E).2;omega⟩
  .exact⟨by have:=r.oB lo R hm;have:=r.size;have:=h.size;omega,λid b N E=>r.jJ lo R hm id b N E⟩
end Go.Sx
namespace Go.Ex
open Go Go.Sx Go.Proofs
section
variable{U:List (List Value)}{l:List Nat}{q:List Rat}{tp':List Value}{g i:Nat}
structure Tx where
 g:Nat
 vb:Value
 vf:Value
 va:Value
 vB:Value
 vc:Value
 rv:List Value
abbrev Tx.bx(x:Tx):Value:=.slice (some ⟨x.g,0,none⟩) 9 9
def Tx.cz(x:Tx):List Value:=x.bx::x.vb::x.vf::x.va::x.vB::x.vc::x.rv
def ints(l:List Nat):List Value:=l.map λ(n:Nat)=>iV (n:Int)
def gC(v:Value)(U:List (List Value)):Ow:=⟨v,T.dN,4,U.length,U.flatten⟩
def gz(x:Tx)(t:Tb)(tp:List Value)(cb cc:List (List Value))(ca:List (List (List Value))):List Ow:=
 ⟨x.bx,T.table,1,9,x.vb::x.vf::x.va::x.vB::x.vc::tp⟩::⟨x.vb,T.int,1,t.bs.length,ints t.bs⟩::⟨x.vf,T.int,1,t.fs.length,ints t.fs⟩::⟨x.va,T.row,1,x.rv.length,x.rv⟩::gC x.vB cb::gC x.vc cc::List.zipWith gC x.rv ca
structure fh(w:World)(S:Nat->Prop)(x:Tx)(t:Tb)(tp:List Value)(cb cc:List (List Value))(ca:List (List (List Value))):Prop where
 ows:ju w S (gz x t tp cb cc ca)
 ft:jh w S tp t.top
 fb:Fr w S cb t.b
 fc:Fr w S cc t.c
 fl:ca.length=t.a.length
 fa:∀(i:Nat) U q,ca[i]? =some U->t.a[i]? =some q->Fr w S U q
 rl:x.rv.length=t.a.length
def fL(w:World)(S:Nat->Prop)(x:Tx)(t:Tb):Prop:=∃tp cb cc ca,fh w S x t tp cb cc ca
section
variable{w F:World}{S S':Nat->Prop}{x:Tx}{t:Tb}{tp:List Value}{cb cc:List (List Value)}{ca:List (List (List Value))}
def jU:∀{rv:List Value} {ca:List (List (List Value))},rv.length=ca.length->(List.zipWith gC rv ca).map Ow.v=rv
 |[],[],_=>rfl
 |v::rv,c::ca,h=>by
  rw[List.zipWith_cons_cons,List.map_cons,jU (by simpa using h)];rfl
 |[],_::_,h=>by simp at h
 |_::_,[],h=>by simp at h
def fh.cz(h:fh w S x t tp cb cc ca):(gz x t tp cb cc ca).map Ow.v=x.cz:=by
 show _::_::_::_::_::_::(List.zipWith gC x.rv ca).map Ow.v=_;rw[jU (by rw[h.rl,h.fl])];rfl
def fh.cW(h:fh w S x t tp cb cc ca)(K:∀g,S g\/Bv x.cz g->F.heap[g]? =w.heap[g]?):fh F S x t tp cb cc ca:=
 ⟨h.ows.cW λg V=>K g (.inr (by rw[h.cz]at V;exact V)),h.ft.cW λg V=>K g (.inl V),h.fb.cW λg V=>K g (.inl V),h.fc.cW λg V=>K g (.inl V),h.fl,λi U q Y I=>(h.fa i U q Y I).cW λg V=>K g (.inl V),h.rl⟩
def fh.cU(h:fh w S x t tp cb cc ca)(K:∀g,S g->S' g)(E:∀g,Bv x.cz g->¬S' g):fh w S' x t tp cb cc ca:=
 ⟨h.ows.HB λg V=>E g (by rw[h.cz]at V;exact V),h.ft.cU K,h.fb.cU K,h.fc.cU K,h.fl,λi U q Y I=>(h.fa i U q Y I).cU K,h.rl⟩
def fL.cW(h:fL w S x t)(K:∀g,S g\/Bv x.cz g->F.heap[g]? =w.heap[g]?):fL F S x t:=by
 obtain⟨tp,cb,cc,ca,h⟩:=h;exact⟨tp,cb,cc,ca,h.cW K⟩
def fL.cU(h:fL w S x t)(K:∀g,S g->S' g)(E:∀g,Bv x.cz g->¬S' g):fL w S' x t:=by
 obtain⟨tp,cb,cc,ca,h⟩:=h;exact⟨tp,cb,cc,ca,h.cU K E⟩
def fL.low(h:fL w S x t)(V:Bv x.cz g):g<w.heap.size:=by
 obtain⟨tp,cb,cc,ca,h⟩:=h;exact h.ows.low (by rw[h.cz];exact V)
def fL.off(h:fL w S x t)(V:Bv x.cz g):¬S g:=by
 obtain⟨tp,cb,cc,ca,h⟩:=h;exact h.ows.off g (by rw[h.cz];exact V)
def fh.rowAt(h:fh w S x t tp cb cc ca){v:Value}(hv:x.rv[i]? =some v)(hc:ca[i]? =some U):(gz x t tp cb cc ca)[i+6]? =some (gC v U):=by
 show(List.zipWith gC x.rv ca)[i]? =_;rw[List.getElem?_zipWith,hv,hc]
def fh.aBL(h:fh w S x t tp cb cc ca){q:Rat}(V:w.grownBy F x.bx.ownBlock)(ho:F.ownsRow 0 T.table 1 x.bx 9 (x.vb::x.vf::x.va::x.vB::x.vc::tp'))(hf:jh w S tp' q)(K:∀g,S g->F.heap[g]? =w.heap[g]?):
  fh F S x {t with top:=q} tp' cb cc ca:=
 ⟨h.ows.put (k:=0) rfl V ho,hf.cW K,h.fb.cW K,h.fc.cW K,h.fl,λi U q Y I=>(h.fa i U q Y I).cW K,h.rl⟩
def fh.aBM(h:fh w S x t tp cb cc ca)(hl:l.length=t.bs.length)(V:w.grownBy F x.vb.ownBlock)(ho:F.ownsRow 0 T.int 1 x.vb t.bs.length (ints l))(K:∀g,S g->F.heap[g]? =w.heap[g]?):
  fh F S x {t with bs:=l} tp cb cc ca:=by
 have:=h.ows.put (k:=1) rfl V ho;refine⟨?_,h.ft.cW K,h.fb.cW K,h.fc.cW K,h.fl,λi U q Y I=>(h.fa i U q Y I).cW K,h.rl⟩;show ju F S (_::⟨x.vb,T.int,1,l.length,ints l⟩::_);rw[hl];exact this
def fh.aBN(h:fh w S x t tp cb cc ca)(hl:l.length=t.fs.length)(V:w.grownBy F x.vf.ownBlock)(ho:F.ownsRow 0 T.int 1 x.vf t.fs.length (ints l))(K:∀g,S g->F.heap[g]? =w.heap[g]?):
  fh F S x {t with fs:=l} tp cb cc ca:=by
 have:=h.ows.put (k:=2) rfl V ho;refine⟨?_,h.ft.cW K,h.fb.cW K,h.fc.cW K,h.fl,λi U q Y I=>(h.fa i U q Y I).cW K,h.rl⟩;show ju F S (_::_::⟨x.vf,T.int,1,l.length,ints l⟩::_);rw[hl];exact this
def fh.b'(h:fh w S x t tp cb cc ca)(hl:U.length=cb.length)(V:w.grownBy F x.vB.ownBlock)(ho:F.ownsRow 0 T.dN 4 x.vB cb.length U.flatten)(hf:Fr F S' U q)(K:∀g,S g->F.heap[g]? =w.heap[g]?)(hs:∀g,S g->S' g)(E:∀g,Bv x.cz g->¬S' g):
  fh F S' x {t with b:=q} tp U cc ca:=by
 have I:=h.ows.put (k:=4) rfl V ho;refine⟨?_,(h.ft.cW K).cU hs,hf,(h.fc.cW K).cU hs,h.fl,λi U q Y I=>((h.fa i U q Y I).cW K).cU hs,h.rl⟩;have h3:ju F S (gz x {t with b:=q} tp U cc ca):=by
  show ju F S (_::_::_::_::⟨x.vB,T.dN,4,U.length,U.flatten⟩::_);rw[hl];exact I
 exact h3.HB λg V=>E g (by rw[<-h.cz];exact V)
def fh.c'(h:fh w S x t tp cb cc ca)(hl:U.length=cc.length)(V:w.grownBy F x.vc.ownBlock)(ho:F.ownsRow 0 T.dN 4 x.vc cc.length U.flatten)(hf:Fr F S' U q)(K:∀g,S g->F.heap[g]? =w.heap[g]?)(hs:∀g,S g->S' g)(E:∀g,Bv x.cz g->¬S' g):
  fh F S' x {t with c:=q} tp cb U ca:=by
 have I:=h.ows.put (k:=5) rfl V ho;refine⟨?_,(h.ft.cW K).cU hs,(h.fb.cW K).cU hs,hf,h.fl,λi U q Y I=>((h.fa i U q Y I).cW K).cU hs,h.rl⟩;have h3:ju F S (gz x {t with c:=q} tp cb U ca):=by
  show ju F S (_::_::_::_::_::⟨x.vc,T.dN,4,U.length,U.flatten⟩::_);rw[hl];exact I
 exact h3.HB λg V=>E g (by rw[<-h.cz];exact V)
def fh.a'(h:fh w S x t tp cb cc ca){v:Value}{css':List (List Value)}(hv:x.rv[i]? =some v)(hc:ca[i]? =some U)(hl:css'.length=U.length)(V:w.grownBy F v.ownBlock)(ho:F.ownsRow 0 T.dN 4 v U.length css'.flatten)(hf:Fr F S' css' q)(K:∀g,S g->F.heap[g]? =w.heap[g]?)(hs:∀g,S g->S' g)(E:∀g,Bv x.cz g->¬S' g):
  fh F S' x {t with a:=t.a.set i q} tp cb cc (ca.set i css'):=by
 have I:=h.ows.put (h.rowAt hv hc) V ho;have h3:ju F S (gz x {t with a:=t.a.set i q} tp cb cc (ca.set i css')):=by
  have e:(gz x t tp cb cc ca).set (i+6) ((gC v U).Pa css'.flatten)=gz x {t with a:=t.a.set i q} tp cb cc (ca.set i css'):=by
   show _::_::_::_::_::_::(List.zipWith gC x.rv ca).set i _=_::_::_::_::_::_::List.zipWith gC x.rv (ca.set i css');congr 6;apply av;intro j;by_cases e:i=j
   .subst e;rw[aQ (by rw[List.length_zipWith];have:=eQ hv;have:=eQ hc;omega),List.getElem?_zipWith,hv,aQ (eQ hc)];show some (Ow.mk _ _ _ U.length _)=some (Ow.mk _ _ _ css'.length _);rw[hl];rfl
   .rw[aX e,List.getElem?_zipWith,List.getElem?_zipWith,aX e]
  rw[<-e];exact I
 have h4:=h3.HB (S':=S') λg V=>E g (by
  have:=h.cz;rw[<-this];have e2:(gz x {t with a:=t.a.set i q} tp cb cc (ca.set i css')).map Ow.v=(gz x t tp cb cc ca).map Ow.v:=by
   rw[this];show _::_::_::_::_::_::(List.zipWith gC x.rv (ca.set i css')).map Ow.v=_;rw[jU (by rw[bQ,h.rl,h.fl])];rfl
  rw[<-e2];exact V)
 refine⟨h4,(h.ft.cW K).cU hs,(h.fb.cW K).cU hs,(h.fc.cW K).cU hs,by simp[h.fl],λj Wc q2 h5 h6=>?_,by simp[h.rl]⟩;by_cases e:i=j
 .subst e;rw[aQ (eQ hc)]at h5;rw[aQ (by rw[<-h.fl];exact eQ hc)]at h6;injection h5 with h5;injection h6 with h6;subst h5 h6;exact hf
 .rw[aX e]at h5 h6;exact((h.fa j Wc q2 h5 h6).cW K).cU hs
end
end
variable{ca:List (List (List Value))}{cb cc U:List (List Value)}{l:List Nat}{qs:List Rat}{nv tp:List Value}{c g i j k m:Nat}{S:Nat->Prop}{O:Nat->Sx.eD}{w:World}
def Lv(S:Nat->Prop)(B:Nat)(iv:Iv)(x:Tx)(g:Nat):Prop:=Cv S B iv g/\¬Bv x.cz g
structure dI(w:World)(S:Nat->Prop)(B:Nat)(iv:Iv)(x:Tx)(t:Tb):Prop where
 iw:fL w (Lv S B iv x) x t
 lH:∀g,Bv x.cz g->Out B iv g
def ju.st{H:Hp}{nx:Nat}{iv:Iv}{B:Nat}{J:World}{E8:List Ow}{it:Ow}{off:Nat}{ad:Addr}(h:ju w S E8)(r:Rel H nx iv B w O J)(hO:∀g,Bv (E8.map Ow.v) g->Out B iv g)(G:∀g,S g->J.heap[g]? =w.heap[g]?)
  (K:E8[k]? =some it) (Rn:off+nv.length<=it.n*it.sz) (h0:0<nv.length) (QQ:∀g c,it.v= .slice (some ⟨g,0,none⟩) it.n c->ad=⟨g,off,none⟩):
  ad.spot=none/\(∀k,k<nv.length->(J.cell? (ad.add k)).isSome=true/\J.frozen? (ad.add k)=false)/\(∀id b,dT H id=some b->(O id).nil=false->(O id).g≠ad.block)/\
  ∀w4,w4=setCells J ad nv->J.grownBy w4 it.v.ownBlock/\w4.ownsRow 0 it.e it.sz it.v it.n (it.xs.take off++nv++it.xs.drop (off+nv.length))/\(∀g,S g->g<w.heap.size->w4.heap[g]? =J.heap[g]?):=by
 have hm:=aG K;have ho:=ownsRow.cW (h.own it hm) λg V=>rls r (λ_ h=>h) (hO g (ju.bk hm V));obtain⟨g,c,e,Y,I,h3⟩:=MZ (off:=off) (nv:=nv) ho Rn h0;have V:Bv (E8.map Ow.v) g:=ju.bk hm (by rw[e];rfl);rw[QQ g c e];refine⟨rfl,Y,Rel.not r (λ_ h=>h) (hO g V),λw4 QD=>?_⟩;rw[QD];refine⟨by rw[e];exact h3,I,λg2 Qv QU=>h3.block g2 (by have:=r.size;omega) λe2=>?_⟩;injection e2 with e2;subst e2;exact h.off _ V Qv
def ju.ld{E8:List Ow}{it:Ow}{u:Value}(h:ju w S E8)(hm:it∈E8)(Z:it.xs[k]? =some u):∃g c,it.v= .slice (some ⟨g,0,none⟩) it.n c/\w.cell? ⟨g,k,none⟩=some u:=by
 have ho:=h.own it hm;rcases ho.2 with⟨_,h0⟩|⟨g,cap,cur,hv,_⟩
 .have Y:=ho.1;have:=eQ Z;rw[h0]at Y;omega
 .refine⟨g,cap,hv,?_⟩;have:=ho.cells (g:=g) (by rw[hv];rfl) k u Z;rw[dD,aV]at this;exact this
section
variable{S S':Nat->Prop}{H:Hp}{nx:Nat}{iv A:Iv}{B:Nat}{w J F:World}{O:Nat->Sx.eD}{x:Tx}{t:Tb}{v:Value}{q:Rat}
def Lv.mono(h:Lv S B iv x g)(hm:∀p,p∈iv->p∈A):Lv S B A x g:=⟨h.1.mono hm,h.2⟩
def Lv.old(r:Rel H nx iv B w O J)(G:∀g,S g->g<B):Old (Lv S B iv x) J:=λg h=>rlo r G g h.1
def Lv.same(r:Rel H nx iv B w O J)(G:∀g,S g->g<B):∀g,Lv S B iv x g->J.heap[g]? =w.heap[g]? :=λ_ h=>rls r G h.1
def dI.arg(h:fL w S x t):dI w S w.heap.size [] x t:=
 ⟨h.cU (λg V=>⟨.inl V,λN=>h.off N V⟩) λg N V=>V.2 N,λg V=>.inl (h.low V)⟩
def dI.cW(h:dI w S B iv x t)(K:∀g,Lv S B iv x g\/Bv x.cz g->F.heap[g]? =w.heap[g]?):dI F S B iv x t:=⟨h.iw.cW K,h.lH⟩
def dI.mono(h:dI w S B iv x t)(hm:∀p,p∈iv->p∈A):dI w S B A x t:=
 ⟨h.iw.cU (λ_ V=>V.mono hm) λg N V=>V.2 N,λg V=>(h.lH g V).mono hm⟩
def dI.same(h:dI w S B iv x t)(r:Rel H nx iv B w O J)(G:∀g,S g->g<B):∀g,Lv S B iv x g\/Bv x.cz g->J.heap[g]? =w.heap[g]? :=λg V=>
 V.elim (λV=>rls r G V.1) λV=>rls r (λ_ h=>h) (h.lH g V)
def dI.rel(h:dI w S B iv x t)(r:Rel H nx iv B w O J)(G:∀g,S g->g<B):dI J S B iv x t:=h.cW (h.same r G)
def dI.low(h:dI w S B iv x t)(r:Rel H nx iv B w O J)(V:Bv x.cz g):g<J.heap.size:=rlo r (λ_ h=>h) g (h.lH g V)
def dI.cV(h:dI w S B iv x t)(r:Rel H nx iv B w O J)(G:∀g,S g->g<B)(L:Ext J F)(hm:∀p,p∈iv->p∈A):dI F S B A x t:=
 ((h.rel r G).cW λg V=>L.block g (V.elim (λV=>rlo r G g V.1) λV=>h.low r V)).mono hm
def cw.gh(h:cw w (Lv S B iv x) v q)(r:Rel H nx iv B w O J)(G:∀g,S g->g<B):cw J (Lv S B iv x) v q:=h.cW (Lv.same r G)
def cw.ji(h:cw w (Lv S B iv x) v q)(r:Rel H nx iv B w O J)(G:∀g,S g->g<B)(L:Ext J F)(hm:∀p,p∈iv->p∈A):cw F (Lv S B A x) v q:=
 ((h.gh r G).cW λg V=>L.block g (Lv.old r G g V)).cU λ_ V=>V.mono hm
def dI.new(h:dI w S B iv x t)(r:Rel H nx iv B w O J)(Y:J.heap.size<=g)(I:g<F.heap.size):Lv S B ((J.heap.size,F.heap.size)::iv) x g:=
 ⟨.inr ⟨by have:=r.cY;omega,_,_,aF,Y,I⟩,λN=>by have:=h.low r N;omega⟩
def cw.uc(h:cw F (Nf J F) v q)(hT:dI w S B iv x t)(r:Rel H nx iv B w O J):cw F (Lv S B ((J.heap.size,F.heap.size)::iv) x) v q:=
 h.cU λg V=>V.elim (λh=>h.elim) λV=>hT.new r V.1 V.2
def cw.Pb(h:cw F (Nw (Lv S B iv x) J F) v q)(hT:dI w S B iv x t)(r:Rel H nx iv B w O J):cw F (Lv S B ((J.heap.size,F.heap.size)::iv) x) v q:=
 h.cU λg V=>V.elim (λV=>V.mono λ_ hp=>aD _ hp) λV=>hT.new r V.1 V.2
def Lv.nw{w0:World}(h:Lv S w0.heap.size iv x g)(r:Rel H nx iv w0.heap.size w O J):Nw S w0 J g:=Cv.nw h.1 r
def dI.ef(h:dI w S B iv x t)(r:Rel H nx iv B w O J){t':Tb}(I:fL F (Nw (Lv S B iv x) J F) x t'):dI F S B ((J.heap.size,F.heap.size)::iv) x t':=
 ⟨I.cU (λg V=>V.elim (λV=>V.mono λ_ hp=>aD _ hp) λV=>h.new r V.1 V.2) λg N V=>V.2 N,λg V=>(h.lH g V).mono λ_ hp=>aD _ hp⟩
def dI.not(h:dI w S B iv x t)(r:Rel H nx iv B w O J):∀g,Bv x.cz g->∀id b,dT H id=some b->(O id).nil=false->(O id).g≠g:=λg V=>Rel.not r (λ_ h=>h) (h.lH g V)
def cw.JI(h:cw w (Lv S B iv x) v q)(r:Rel H nx iv B w O J)(G:∀g,S g->g<B)(K:Kept J F (Bv x.cz)):cw F (Lv S B ((J.heap.size,F.heap.size)::iv) x) v q:=
 ((h.gh r G).cW λg V=>K.block g (Lv.old r G g V) V.2).cU λ_ V=>V.mono λ_ hp=>aD _ hp
end
section
variable{S:Nat->Prop}{H:Hp}{nx:Nat}{iv:Iv}{B:Nat}{w J:World}{O:Nat->Sx.eD}{x:Tx}{t:Tb}{q:Rat}{nv:List Value}{ad:Addr}
def aAg(w J w4:World)(S:Nat->Prop)(B:Nat)(iv:Iv)(x:Tx)(t:Tb):Prop:=dI w4 S B iv x t/\Kept J w4 (Bv x.cz)/\∀g,Lv S B iv x g->w4.heap[g]? =w.heap[g]?
def sS(H:Hp)(O:Nat->Sx.eD)(w J:World)(ad:Addr)(nv:List Value)(S:Nat->Prop)(B:Nat)(iv:Iv)(x:Tx)(t:Tb):Prop:=
 ad.spot=none/\(∀k,k<nv.length->(J.cell? (ad.add k)).isSome=true/\J.frozen? (ad.add k)=false)/\(∀id b,dT H id=some b->(O id).nil=false->(O id).g≠ad.block)/\∀w4,w4=setCells J ad nv->aAg w J w4 S B iv x t
def sS.of{E8:List Ow}{it:Ow}{off:Nat}(G:∀g,S g->g<B)(r:Rel H nx iv B w O J)(hT:dI w S B iv x t)(hC:fh w (Lv S B iv x) x t tp cb cc ca)(hI:E8=gz x t tp cb cc ca)(K:E8[k]? =some it)(Rn:off+nv.length<=it.n*it.sz)(h0:0<nv.length)
  (QQ:∀g c,it.v= .slice (some ⟨g,0,none⟩) it.n c->ad=⟨g,off,none⟩) {t':Tb}
  (hN:∀w4,fh J (Lv S B iv x) x t tp cb cc ca->J.grownBy w4 it.v.ownBlock->w4.ownsRow 0 it.e it.sz it.v it.n (it.xs.take off++nv++it.xs.drop (off+nv.length))->(∀g,Lv S B iv x g->w4.heap[g]? =J.heap[g]?)->fL w4 (Lv S B iv x) x t'):
  sS H O w J ad nv S B iv x t':=by
 subst hI;obtain⟨Y,I,h3,h4⟩:=hC.ows.st r (λg V=>hT.lH g (by rw[<-hC.cz];exact V)) (Lv.same r G) K Rn h0 QQ;refine⟨Y,I,h3,λw4 QD=>?_⟩;obtain⟨h5,h6,h7⟩:=h4 w4 QD;have Pq:∀g,Lv S B iv x g->g<w.heap.size:=λg V=>by
  rcases V.1 with h|⟨_,lo,R,k1,k2,k3⟩
  .have:=G g h;have:=r.base;omega
  .have:=r.oB lo R k1;omega
 have hL:∀g,Lv S B iv x g->w4.heap[g]? =J.heap[g]? :=λg V=>h7 g V (Pq g V);refine⟨⟨hN w4 (hC.cW (hT.same r G)) h5 h6 hL,hT.lH⟩,⟨h5.os,h5.tape,h5.output,h5.size,λk K Z=>h5.block k K λe=>Z ?_⟩,λg V=>(hL g V).trans (Lv.same r G g V)⟩;rw[<-hC.cz];exact ju.bk (aG (by assumption)) e.symm
def GI(h:i<l.length):(ints l)[i]? =some (iV ((l.getD i 0:Nat):Int)):=by
 unfold ints;rw[aS,aE h,List.getD,aE h];rfl
def ints_set{n:Nat}(h:i<l.length):(ints l).take i++[iV (n:Int)]++(ints l).drop (i+1)=ints (l.set i n):=by
 unfold ints;rw[List.map_set,List.set_eq_take_append_cons_drop,aM (by rw[aO];exact h)];simp
def dI.aBO(hT:dI w S B iv x t)(G:∀g,S g->g<B)(r:Rel H nx iv B w O J){n:Nat}(R:i<t.bs.length)(hv:x.vb= .slice (some ⟨g,0,none⟩) m c)(QQ:ad=⟨g,i*1,none⟩):
  sS H O w J ad [iV (n:Int)] S B iv x {t with bs:=t.bs.set i n}:=by
 obtain⟨tp,cb,cc,ca,hC⟩:=hT.iw;refine .of (k:=1) (off:=i) G r hT hC rfl rfl (by show i+1<=t.bs.length*1;omega) ce (λg2 c2 e=>?_) λw4 k1 k2 k3 k4=>⟨tp,cb,cc,ca,k1.aBM ce k2 ?_ k4⟩
 .rw[show x.vb=_ from e]at hv;injection hv with hv;injection hv with hv;injection hv with hv;rw[QQ,hv,ah]
 .rw[<-ints_set R];exact k3
def dI.aBP(hT:dI w S B iv x t)(G:∀g,S g->g<B)(r:Rel H nx iv B w O J){n:Nat}(R:i<t.fs.length)(hv:x.vf= .slice (some ⟨g,0,none⟩) m c)(QQ:ad=⟨g,i*1,none⟩):
  sS H O w J ad [iV (n:Int)] S B iv x {t with fs:=t.fs.set i n}:=by
 obtain⟨tp,cb,cc,ca,hC⟩:=hT.iw;refine .of (k:=2) (off:=i) G r hT hC rfl rfl (by show i+1<=t.fs.length*1;omega) ce (λg2 c2 e=>?_) λw4 k1 k2 k3 k4=>⟨tp,cb,cc,ca,k1.aBN ce k2 ?_ k4⟩
 .rw[show x.vf=_ from e]at hv;injection hv with hv;injection hv with hv;injection hv with hv;rw[QQ,hv,ah]
 .rw[<-ints_set R];exact k3
def Fr.Pc{S:Nat->Prop}{w:World}(h:Fr w S U qs)(hj:j<qs.length)(E:nv.length=4):U.flatten.take (j*4)++nv++U.flatten.drop (j*4+nv.length)=(U.set j nv).flatten:=by
 rw[E];exact kX h.oP (by rw[h.1];exact hj)
def dI.stB(hT:dI w S B iv x t)(G:∀g,S g->g<B)(r:Rel H nx iv B w O J)(hj:j<t.b.length)(hv:x.vB= .slice (some ⟨g,0,none⟩) m c)(TK:jh w (Lv S B iv x) nv q)(QQ:ad=⟨g,j*4,none⟩):
  sS H O w J ad nv S B iv x {t with b:=t.b.set j q}:=by
 obtain⟨tp,cb,cc,ca,hC⟩:=hT.iw;have hn4:=TK.len;have Va:=hC.fb.1;refine .of (k:=4) (off:=j*4) G r hT hC rfl rfl (by show j*4+nv.length<=cb.length*4;omega) be (λg2 c2 e=>?_) λw4 k1 k2 k3 k4=>⟨tp,cb.set j nv,cc,ca,k1.b' ce k2 ?_ ((k1.fb.cW k4).set ((TK.cW (Lv.same r G)).cW k4)) k4 (λ_ h=>h) λg N V=>V.2 N⟩
 .rw[show x.vB=_ from e]at hv;injection hv with hv;injection hv with hv;injection hv with hv;rw[QQ,hv]
 .rw[<-hC.fb.Pc hj hn4];exact k3
def dI.stC(hT:dI w S B iv x t)(G:∀g,S g->g<B)(r:Rel H nx iv B w O J)(hj:j<t.c.length)(hv:x.vc= .slice (some ⟨g,0,none⟩) m c)(TK:jh w (Lv S B iv x) nv q)(QQ:ad=⟨g,j*4,none⟩):
  sS H O w J ad nv S B iv x {t with c:=t.c.set j q}:=by
 obtain⟨tp,cb,cc,ca,hC⟩:=hT.iw;have hn4:=TK.len;have Va:=hC.fc.1;refine .of (k:=5) (off:=j*4) G r hT hC rfl rfl (by show j*4+nv.length<=cc.length*4;omega) be (λg2 c2 e=>?_) λw4 k1 k2 k3 k4=>⟨tp,cb,cc.set j nv,ca,k1.c' ce k2 ?_ ((k1.fc.cW k4).set ((TK.cW (Lv.same r G)).cW k4)) k4 (λ_ h=>h) λg N V=>V.2 N⟩
 .rw[show x.vc=_ from e]at hv;injection hv with hv;injection hv with hv;injection hv with hv;rw[QQ,hv]
 .rw[<-hC.fc.Pc hj hn4];exact k3
def fh.row{w:World}{S:Nat->Prop}(hC:fh w S x t tp cb cc ca)(R:i<t.a.length):
  ∃v U,x.rv[i]? =some v/\ca[i]? =some U/\Fr w S U (t.a.getD i [])/\t.a[i]? =some (t.a.getD i []):=by
 have Y:t.a[i]? =some (t.a.getD i []):=by rw[List.getD,aE R];rfl
 have I:ca[i]? =some (ca[i]'(by rw[hC.fl];exact R)):=aE _;exact⟨x.rv[i]'(by rw[hC.rl];exact R),_,aE _,I,hC.fa i _ _ I Y,Y⟩
def dI.stA(hT:dI w S B iv x t)(G:∀g,S g->g<B)(r:Rel H nx iv B w O J)(R:i<t.a.length)(hj:j<(t.a.getD i []).length)(hv:x.rv[i]? =some (.slice (some ⟨g,0,none⟩) m c))(TK:jh w (Lv S B iv x) nv q)(QQ:ad=⟨g,j*4,none⟩):
  sS H O w J ad nv S B iv x {t with a:=t.a.set i ((t.a.getD i []).set j q)}:=by
 obtain⟨tp,cb,cc,ca,hC⟩:=hT.iw;have hn4:=TK.len;obtain⟨v,U,Y,I,h3,h4⟩:=hC.row R;rw[Y]at hv;injection hv with hv;have hl:=h3.1;refine .of (k:=i+6) (off:=j*4) G r hT hC rfl (hC.rowAt Y I) (by show j*4+nv.length<=U.length*4;omega) be (λg2 c2 e=>?_) λw4 k1 k2 k3 k4=>⟨tp,cb,cc,ca.set i (U.set j nv),k1.a' Y I ce k2 ?_ (((h3.cW (Lv.same r G)).cW k4).set ((TK.cW (Lv.same r G)).cW k4)) k4 (λ_ h=>h) λg N V=>V.2 N⟩
 .rw[show v=_ from e]at hv;injection hv with hv;injection hv with hv;injection hv with hv;rw[QQ,hv]
 .rw[<-h3.Pc hj hn4];exact k3
def dI.stT(hT:dI w S B iv x t)(G:∀g,S g->g<B)(r:Rel H nx iv B w O J)(TK:jh w (Lv S B iv x) nv q)(QQ:ad=⟨x.g,5,none⟩):
  sS H O w J ad nv S B iv x {t with top:=q}:=by
 obtain⟨tp,cb,cc,ca,hC⟩:=hT.iw;have hn4:=TK.len;have ht4:=hC.ft.len;refine .of (k:=0) (off:=5) G r hT hC rfl rfl (by show 5+nv.length<=9*1;omega) be (λg2 c2 e=>?_) λw4 k1 k2 k3 k4=>⟨nv,cb,cc,ca,k1.aBL k2 ?_ (TK.cW (Lv.same r G)) k4⟩
 .injection e with e;injection e with e;injection e with e;rw[QQ,e]
 .have e:(x.vb::x.vf::x.va::x.vB::x.vc::tp).take 5++nv++(x.vb::x.vf::x.va::x.vB::x.vc::tp).drop (5+nv.length)=x.vb::x.vf::x.va::x.vB::x.vc::nv:=by
   rw[hn4];show _::_::_::_::_::(([]++nv)++tp.drop 4)=_;rw[List.drop_of_length_le be,List.append_nil,List.nil_append]
  rw[<-e];exact k3
end
end Go.Ex
namespace Go.Ex
variable{l:List Rat}{h k:Nat}
def mb{α:Type}{l:List α}{i j:Nat}{x d:α}:(l.set i x).getD j d=if i=j/\i<l.length then x else l.getD j d:=by
 rw[List.getD,List.getElem?_set];by_cases h:i=j
 .subst h;rw[aM rfl];by_cases I:i<l.length
  .rw[aM I,aM ⟨rfl,I⟩];rfl
  .rw[aJ I,aJ λe=>I e.2,List.getD,List.getElem?_eq_none be]
 .rw[aJ h,aJ λe=>h e.1];rfl
section
variable{t:Tb}{r s i:Nat}
def Tb.pT(t:Tb)(r s i:Nat):Tb where
 bs:=t.bs.set r (t.fs.getD s 0)
 fs:=t.fs.set s (t.bs.getD r 0)
 a:=t.a.mapIdx λk x=>if k=r then t.l9 r s else if k<i then qd (x.set s 0) (-(x.getD s 0)) (t.l9 r s)else x
 b:=t.b.mapIdx λk x=>if k=r then t.bP r s else if k<i then x+ -(dR t.a k s)*t.bP r s else x
 c:=t.c
 top:=t.top
def Tb.Oh:(t.pT r s i).a.length=t.a.length:=List.length_mapIdx
def Tb.Oi:(t.pT r s i).b.length=t.b.length:=List.length_mapIdx
def Tb.MF(hr:r<t.a.length):(t.pT r s i).a.getD r []=t.l9 r s:=by
 unfold Tb.pT;rw[gp [] [] hr,aM rfl]
def Tb.MG(hr:r<t.b.length):(t.pT r s i).b.getD r 0=t.bP r s:=by
 unfold Tb.pT;rw[gp 0 0 hr,aM rfl]
def Tb.Oj(K:k<t.a.length)(Po:k≠r)(VC:i<=k):(t.pT r s i).a.getD k []=t.a.getD k []:=by
 unfold Tb.pT;rw[gp [] [] K,aJ Po,aJ be]
def Tb.Ol(K:k<t.b.length)(Po:k≠r)(VC:i<=k):(t.pT r s i).b.getD k 0=t.b.getD k 0:=by
 unfold Tb.pT;rw[gp 0 0 K,aJ Po,aJ be]
def Tb.MH:(t.l9 r s).length=(t.a.getD r []).length:=by unfold Tb.l9;rw[aO,bQ]
def Tb.ext{u v:Tb}(Y:u.bs=v.bs)(I:u.fs=v.fs)(h3:u.a=v.a)(h4:u.b=v.b)(h5:u.c=v.c)(h6:u.top=v.top):u=v:=by
 cases u;cases v;simp_all
def Tb.Nl(hr:r<t.a.length):
  (Tb.mk (t.bs.set r (t.fs.getD s 0)) (t.fs.set s (t.bs.getD r 0)) ((t.a.set r ((t.a.getD r []).set s 1)).set r (((t.a.set r ((t.a.getD r []).set s 1)).getD r []).map (· *(1 / dR t.a r s)))) (t.b.set r (t.b.getD r 0*(1 / dR t.a r s))) t.c t.top)=t.pT r s 0:=by
 refine Tb.ext rfl rfl ?_ ?_ rfl rfl
 .show List.set _ _ _=List.mapIdx _ _;rw[mb,aM ⟨rfl,hr⟩,List.set_set];apply av;intro k;rw[List.getElem?_mapIdx,List.getElem?_set];by_cases e:r=k
  .subst e;rw[aM rfl,aM hr,aE hr,bN,aM rfl];rfl
  .rw[aJ e]
   cases h:t.a[k]? with
   |none=>rfl
   |some y=>rw[bN,aJ (Ne.symm e),aJ (Nat.not_lt_zero _)]
 .show List.set _ _ _=List.mapIdx _ _;apply av;intro k;rw[List.getElem?_mapIdx,List.getElem?_set];by_cases e:r=k
  .subst e;rw[aM rfl];by_cases N:r<t.b.length
   .rw[aM N,aE N,bN,aM rfl];rfl
   .rw[aJ N,List.getElem?_eq_none be];rfl
  .rw[aJ e]
   cases h:t.b[k]? with
   |none=>rfl
   |some y=>rw[bN,aJ (Ne.symm e),aJ (Nat.not_lt_zero _)]
def Tb.Nm(e:i=r):t.pT r s i=t.pT r s (i+1):=by
 refine Tb.ext rfl rfl ?_ ?_ rfl rfl
 .show List.mapIdx _ _=List.mapIdx _ _;congr 1
  funext k x
  by_cases h:k=r
  .rw[aM h,aM h]
  .rw[aJ h,aJ h];by_cases I:k<i
   .rw[aM I,aM be]
   .rw[aJ I,aJ be]
 .show List.mapIdx _ _=List.mapIdx _ _;congr 1
  funext k x
  by_cases h:k=r
  .rw[aM h,aM h]
  .rw[aJ h,aJ h];by_cases I:k<i
   .rw[aM I,aM be]
   .rw[aJ I,aJ be]
def Tb.Nn(R:i<t.a.length)(hr:r<t.a.length)(hl:t.b.length=t.a.length)(Po:i≠r)(P:Tb)(hP:P=t.pT r s i):
  (Tb.mk P.bs P.fs ((P.a.set i ((P.a.getD i []).set s 0)).set i (qd ((P.a.set i ((P.a.getD i []).set s 0)).getD i []) (-(dR P.a i s)) ((P.a.set i ((P.a.getD i []).set s 0)).getD r [])))
   (P.b.set i (P.b.getD i 0+ -(dR P.a i s)*P.b.getD r 0)) P.c P.top)=t.pT r s (i+1):=by
 have hPa:P.a.length=t.a.length:=by rw[hP,Tb.Oh]
 have hPb:P.b.length=t.b.length:=by rw[hP,Tb.Oi]
 have Y:P.a.getD i []=t.a.getD i []:=by rw[hP,Tb.Oj R Po (ae i)]
 have I:P.a.getD r []=t.l9 r s:=by rw[hP,Tb.MF hr]
 have h3:P.b.getD i 0=t.b.getD i 0:=by rw[hP,Tb.Ol be Po (ae i)]
 have h4:P.b.getD r 0=t.bP r s:=by rw[hP,Tb.MG be]
 have h5:dR P.a i s=dR t.a i s:=by unfold dR;rw[Y]
 refine Tb.ext (by rw[hP];rfl) (by rw[hP];rfl) ?_ ?_ (by rw[hP];rfl) (by rw[hP];rfl)
 .show List.set _ _ _=List.mapIdx _ _;rw[List.set_set,mb,aM ⟨rfl,be⟩,mb,aJ λe=>Po e.1,Y,I,h5];apply av;intro k;rw[List.getElem?_mapIdx,List.getElem?_set];by_cases e:i=k
  .subst e;rw[aM rfl,aM be,aE R,bN,aJ Po,aM be];have:t.a.getD i []=t.a[i]:=by rw[List.getD,aE R];rfl
   rw[<-this];rfl
  .rw[aJ e,hP];show(List.mapIdx _ _)[k]? =_;rw[List.getElem?_mapIdx];congr 1
   funext x
   by_cases h:k=r
   .rw[aM h,aM h]
   .rw[aJ h,aJ h];by_cases I:k<i
    .rw[aM I,aM be]
    .rw[aJ I,aJ be]
 .show List.set _ _ _=List.mapIdx _ _;rw[h3,h4,h5];apply av;intro k;rw[List.getElem?_mapIdx,List.getElem?_set];by_cases e:i=k
  .subst e;rw[aM rfl,aM be,aE be,bN,aJ Po,aM be];have:t.b.getD i 0=t.b[i]' be:=by rw[List.getD,aE];rfl
   rw[<-this]
  .rw[aJ e,hP];show(List.mapIdx _ _)[k]? =_;rw[List.getElem?_mapIdx];congr 1
   funext x
   by_cases h:k=r
   .rw[aM h,aM h]
   .rw[aJ h,aJ h];by_cases I:k<i
    .rw[aM I,aM be]
    .rw[aJ I,aJ be]
def Tb.PQ(hr:r<t.a.length)(hl:t.b.length=t.a.length)(P:Tb)(hP:P=t.pT r s t.a.length):
  (Tb.mk P.bs P.fs P.a P.b (qd (P.c.set s 0) (-(P.c.getD s 0)) (P.a.getD r [])) (P.top+P.c.getD s 0*P.b.getD r 0))=t.gP r s:=by
 have I:P.a.getD r []=t.l9 r s:=by rw[hP,Tb.MF hr]
 have h4:P.b.getD r 0=t.bP r s:=by rw[hP,Tb.MG be]
 rw[I,h4];subst hP;refine Tb.ext rfl rfl ?_ ?_ rfl rfl
 .show List.mapIdx _ _=List.mapIdx _ _;apply av;intro k;rw[List.getElem?_mapIdx,List.getElem?_mapIdx]
  cases h:t.a[k]? with
  |none=>rfl
  |some y=>
   have K:=(aH.1 h).1;rw[bN,bN,aM K]
 .show List.mapIdx _ _=List.mapIdx _ _;apply av;intro k;rw[List.getElem?_mapIdx,List.getElem?_mapIdx]
  cases h:t.b[k]? with
  |none=>rfl
  |some y=>
   have K:=(aH.1 h).1;rw[bN,bN,aM (show k<t.a.length by omega)]
structure Tb.xD(t:Tb)(h:Nat):Prop where
 a:Ht t.a h
 b:∀q∈t.b,rl q+1<=h
 c:∀q∈t.c,rl q+1<=h
 top:rl t.top+1<=h
structure Tb.Wf(t:Tb)(m q:Nat):Prop where
 bs:t.bs.length=m
 fs:t.fs.length=q
 al:t.a.length=m
 aw:iP q t.a
 b:t.b.length=m
 c:t.c.length=q
def Rp.wf{D:Dc}(h:Rp t D):t.Wf D.m D.q:=⟨h.KC,h.Nd,h.al,h.aw,h.bl,h.cl⟩
def Tb.Wf.row{m q:Nat}(h:t.Wf m q)(K:k<m):(t.a.getD k []).length=q:=h.aw.getD (by rw[h.al];exact K)
def Tb.Wf.pT{m q:Nat}(h:t.Wf m q)(hr:r<m):(t.pT r s i).Wf m q:=by
 refine⟨by show(List.set _ _ _).length=_;rw[bQ];exact h.bs,by show(List.set _ _ _).length=_;rw[bQ];exact h.fs,Tb.Oh.trans h.al,λx Z=>?_,Tb.Oi.trans h.b,h.c⟩;obtain⟨k,K⟩:=aj Z;have TX:(t.a.mapIdx λk x=>if k=r then t.l9 r s else if k<i then qd (x.set s 0) (-(x.getD s 0)) (t.l9 r s)else x)[k]? =some x:=K;rw[List.getElem?_mapIdx]at TX
 cases hy:t.a[k]? with
 |none=>rw[hy]at TX;cases TX
 |some y=>
  have VU:=h.aw y (aG hy);rw[hy]at TX;injection TX with TX;rw[<-TX];split
  .rw[Tb.MH,h.row hr]
  .split
   .rw[nV,bQ];exact VU
   .exact VU
def rS{i:Nat}(H:∀q∈l,rl q+1<=h)(I:2<=h):rl (l.getD i 0)+1<=h:=kU H I i
def Tb.xD.l9(H:t.xD h)(I:2<=h)(h0:dR t.a r s≠0):∀q∈t.l9 r s,rl q<=2*h:=λq hq=>by
 obtain⟨x,Z,rfl⟩:=bA.1 hq;have h3:=j7 x (1 / dR t.a r s);have h4:=uM h0;have Pm:∀q∈t.a.getD r [],rl q+1<=h:=λq hq=>by
  by_cases hr:r<t.a.length
  .exact H.a _ (vJ hr) q hq
  .rw[List.getD,List.getElem?_eq_none be]at hq;cases hq
 have h5:rl (dR t.a r s)+1<=h:=rS Pm I;have h6:rl x+1<=h:=by
  rcases bL Z with h7|h7
  .exact Pm x h7
  .rw[h7,Dn];exact I
 omega
def Tb.xD.dR(H:t.xD h)(I:2<=h)(i j:Nat):rl (dR t.a i j)+1<=h:=by
 refine rS (λq hq=>?_) I;by_cases hr:i<t.a.length
 .exact H.a _ (vJ hr) q hq
 .rw[List.getD,List.getElem?_eq_none be]at hq;cases hq
def Tb.xD.PR(H:t.xD h)(I:2<=h)(i:Nat):rl (t.b.getD i 0)+1<=h:=rS H.b I
def Tb.xD.cat(H:t.xD h)(I:2<=h)(i:Nat):rl (t.c.getD i 0)+1<=h:=rS H.c I
def Tb.xD.No(H:t.xD h)(i:Nat):∀y∈t.a.getD i [],rl y+1<=h:=λy hy=>by
 by_cases hr:i<t.a.length
 .exact H.a _ (vJ hr) y hy
 .rw[List.getD,List.getElem?_eq_none be]at hy;cases hy
def Tb.xD.PS(H:t.xD h){z:Rat}(hz:rl z+1<=h)(i s:Nat):∀y∈(t.a.set i ((t.a.getD i []).set s z)).getD i [],rl y+1<=h:=λy hy=>by
 rw[mb]at hy;split at hy
 .rcases bL hy with Y|Y
  .exact H.No i y Y
  .rw[Y];exact hz
 .exact H.No i y hy
end
end Go.Ex
namespace Go.Ex
open Go Go.Sx Go.Proofs
variable{ca:List (List (List Value))}{cb cc U:List (List Value)}{qs:List Rat}{tp:List Value}{k m q:Nat}{S X:Nat->Prop}{p:Rat}{u vby:Value}{w:World}
def Fr.at4(h:Fr w S U qs){j:Nat}(hj:j<qs.length):
  ∃b a n c b2 a2 n2 c2,U[j]? =some (rC b a n c b2 a2 n2 c2)/\cw w S (.agg #[.bool b,.slice a n c,.bool b2,.slice a2 n2 c2]) (qs.getD j 0):=by
 have Y:U[j]? =some (U[j]'(by rw[h.1];exact hj)):=aE _;have I:qs[j]? =some (qs.getD j 0):=by rw[List.getD,aE hj];rfl
 obtain⟨b,a,n,c,b2,a2,n2,c2,h3,h4⟩:=h.2 j _ _ Y I;exact⟨b,a,n,c,b2,a2,n2,c2,by rw[Y,h3],h4⟩
section
variable{S:Nat->Prop}{iv:Iv}{B:Nat}{w:World}{x:Tx}{t:Tb}{a:Option Addr}{m c i j:Nat}
def KQ(w:World)(iv:Iv)(B:Nat)(P:World->Prop):Prop:=∀{H:Hp} {nx:Nat} {O:Nat->Sx.eD} {J:World},Rel H nx iv B w O J->P J
def dI.Nx(hT:dI w S B iv x t)(G:∀g,S g->g<B)(hu:[x.vb,x.vf,x.va,x.vB,x.vc][k]? =some u):KQ w iv B λJ=>J.cell? (Addr.add ⟨x.g,0,none⟩ k)=some u:=λr=>by
 obtain⟨tp,cb,cc,ca,hC⟩:=hT.iw;have Xh:(x.vb::x.vf::x.va::x.vB::x.vc::tp)[k]? =some u:=by
  show([x.vb,x.vf,x.va,x.vB,x.vc]++tp)[k]? =some u;rw[aN (eQ hu)];exact hu
 obtain⟨g,c,e,Y⟩:=(hC.cW (hT.same r G)).ows.ld aF Xh;injection e with e;injection e with e;injection e with e;rw[dD,aV,e];exact Y
def dI.ldT(hT:dI w S B iv x t)(G:∀g,S g->g<B):∃b a n c b2 a2 n2 c2,(KQ w iv B λJ=>∀k u,(rC b a n c b2 a2 n2 c2)[k]? =some u->J.cell? (Addr.add (Addr.add ⟨x.g,0,none⟩ 5) k)=some u)/\cw w (Lv S B iv x) (.agg #[.bool b,.slice a n c,.bool b2,.slice a2 n2 c2]) t.top:=by
 obtain⟨tp,cb,cc,ca,hC⟩:=hT.iw;obtain⟨b,a,n,c,b2,a2,n2,c2,rfl,h4⟩:=hC.ft;refine⟨b,a,n,c,b2,a2,n2,c2,λr k u hu=>?_,h4⟩;obtain⟨g,c,e,Y⟩:=(hC.cW (hT.same r G)).ows.ld (k:=5+k) (u:=u) aF (by rw[Nat.add_comm];exact hu);injection e with e;injection e with e;injection e with e;rw[dD,dD,aV,e];exact Y
def dI.JJ{it:Ow}{g n c:Nat}(hT:dI w S B iv x t)(hC:fh w (Lv S B iv x) x t tp cb cc ca)(G:∀g,S g->g<B)(hm:it∈gz x t tp cb cc ca)(hu:it.xs[k]? =some u)(hv:it.v= .slice (some ⟨g,0,none⟩) n c):KQ w iv B λJ=>J.cell? (Addr.add ⟨g,0,none⟩ k)=some u:=λr=>by
 obtain⟨g',c2,e2,Y⟩:=(hC.cW (hT.same r G)).ows.ld hm hu;rw[hv]at e2;injection e2 with e2;injection e2 with e2;injection e2 with e2;rw[dD,aV,e2];exact Y
variable{g n:Nat}{v:Value}
def dI.Pe(hT:dI w S B iv x t)(G:∀g,S g->g<B)(R:i<t.bs.length)(hv:x.vb= .slice (some ⟨g,0,none⟩) n c):KQ w iv B λJ=>J.cell? (Addr.add ⟨g,0,none⟩ (i*1))=some (iV ((t.bs.getD i 0:Nat):Int)):=by
 obtain⟨tp,cb,cc,ca,hC⟩:=hT.iw;rw[ah];exact hT.JJ hC G (it:=⟨x.vb,T.int,1,t.bs.length,ints t.bs⟩) (by simp[gz]) (GI R) hv
def dI.cFs(hT:dI w S B iv x t)(G:∀g,S g->g<B)(R:i<t.fs.length)(hv:x.vf= .slice (some ⟨g,0,none⟩) n c):KQ w iv B λJ=>J.cell? (Addr.add ⟨g,0,none⟩ (i*1))=some (iV ((t.fs.getD i 0:Nat):Int)):=by
 obtain⟨tp,cb,cc,ca,hC⟩:=hT.iw;rw[ah];exact hT.JJ hC G (it:=⟨x.vf,T.int,1,t.fs.length,ints t.fs⟩) (by simp[gz]) (GI R) hv
def dI.cA(hT:dI w S B iv x t)(G:∀g,S g->g<B)(R:x.rv[i]? =some v)(hv:x.va= .slice (some ⟨g,0,none⟩) n c):KQ w iv B λJ=>J.cell? (Addr.add ⟨g,0,none⟩ (i*1))=some v:=by
 obtain⟨tp,cb,cc,ca,hC⟩:=hT.iw;rw[ah];exact hT.JJ hC G (it:=⟨x.va,T.row,1,x.rv.length,x.rv⟩) (by simp[gz]) R hv
def EP(w:World)(iv:Iv)(B:Nat)(g j:Nat)(b:Bool)(a1:Option Addr)(n c:Nat)(b2:Bool)(a2:Option Addr)(n2 c2:Nat):Prop:=
 KQ w iv B λJ=>∀k u,(rC b a1 n c b2 a2 n2 c2)[k]? =some u->J.cell? (Addr.add (Addr.add ⟨g,0,none⟩ (j*4)) k)=some u
def fh.ld4(hT:dI w S B iv x t)(hC:fh w (Lv S B iv x) x t tp cb cc ca)(G:∀g,S g->g<B)(hm:gC v U∈gz x t tp cb cc ca)(hF:Fr w (Lv S B iv x) U qs)(hj:j<qs.length)(hv:v= .slice (some ⟨g,0,none⟩) n c):
  ∃b a1 n1 c1 b2 a2 n2 c2,EP w iv B g j b a1 n1 c1 b2 a2 n2 c2/\cw w (Lv S B iv x) (.agg #[.bool b,.slice a1 n1 c1,.bool b2,.slice a2 n2 c2]) (qs.getD j 0):=by
 obtain⟨b,a1,n1,c1,b2,a2,n2,c2,Y,I⟩:=hF.at4 hj;refine⟨b,a1,n1,c1,b2,a2,n2,c2,λr k u hu=>?_,I⟩;have h3:=hT.JJ hC G hm (flat_get hF.oP Y k u hu) hv r;rw[dD,aV]at h3;rw[dD,dD,aV];exact h3
def dI.eB(hT:dI w S B iv x t)(G:∀g,S g->g<B)(hj:j<t.b.length)(hv:x.vB= .slice (some ⟨g,0,none⟩) n c):
  ∃b a1 n1 c1 b2 a2 n2 c2,EP w iv B g j b a1 n1 c1 b2 a2 n2 c2/\cw w (Lv S B iv x) (.agg #[.bool b,.slice a1 n1 c1,.bool b2,.slice a2 n2 c2]) (t.b.getD j 0):=by
 obtain⟨tp,cb,cc,ca,hC⟩:=hT.iw;exact fh.ld4 hT hC G (by simp[gz]) hC.fb hj hv
def dI.eC(hT:dI w S B iv x t)(G:∀g,S g->g<B)(hj:j<t.c.length)(hv:x.vc= .slice (some ⟨g,0,none⟩) n c):
  ∃b a1 n1 c1 b2 a2 n2 c2,EP w iv B g j b a1 n1 c1 b2 a2 n2 c2/\cw w (Lv S B iv x) (.agg #[.bool b,.slice a1 n1 c1,.bool b2,.slice a2 n2 c2]) (t.c.getD j 0):=by
 obtain⟨tp,cb,cc,ca,hC⟩:=hT.iw;exact fh.ld4 hT hC G (by simp[gz]) hC.fc hj hv
def dI.eA(hT:dI w S B iv x t)(G:∀g,S g->g<B)(R:i<t.a.length)(hj:j<(t.a.getD i []).length)(hv:x.rv[i]? =some (.slice (some ⟨g,0,none⟩) n c)):
  ∃b a1 n1 c1 b2 a2 n2 c2,EP w iv B g j b a1 n1 c1 b2 a2 n2 c2/\cw w (Lv S B iv x) (.agg #[.bool b,.slice a1 n1 c1,.bool b2,.slice a2 n2 c2]) (dR t.a i j):=by
 obtain⟨tp,cb,cc,ca,hC⟩:=hT.iw;obtain⟨v,U,Y,I,h3,h4⟩:=hC.row R;rw[Y]at hv;injection hv with hv;exact fh.ld4 hT hC G (aG (hC.rowAt Y I)) h3 hj hv
def dI.f0(hT:dI w S B iv x t)(G:∀g,S g->g<B)(hv:x.vb=v):KQ w iv B λJ=>J.cell? (Addr.add ⟨x.g,0,none⟩ 0)=some v:=hv▸hT.Nx G rfl
def dI.f1(hT:dI w S B iv x t)(G:∀g,S g->g<B)(hv:x.vf=v):KQ w iv B λJ=>J.cell? (Addr.add ⟨x.g,0,none⟩ 1)=some v:=hv▸hT.Nx G rfl
def dI.f2(hT:dI w S B iv x t)(G:∀g,S g->g<B)(hv:x.va=v):KQ w iv B λJ=>J.cell? (Addr.add ⟨x.g,0,none⟩ 2)=some v:=hv▸hT.Nx G rfl
def dI.f3(hT:dI w S B iv x t)(G:∀g,S g->g<B)(hv:x.vB=v):KQ w iv B λJ=>J.cell? (Addr.add ⟨x.g,0,none⟩ 3)=some v:=hv▸hT.Nx G rfl
def dI.f4(hT:dI w S B iv x t)(G:∀g,S g->g<B)(hv:x.vc=v):KQ w iv B λJ=>J.cell? (Addr.add ⟨x.g,0,none⟩ 4)=some v:=hv▸hT.Nx G rfl
end
def dI.cast{iv:Iv}{B:Nat}{x:Tx}{t t':Tb}(h:dI w S B iv x t)(e:t=t'):dI w S B iv x t':=e▸h
structure Adr(x:Tx)(m q gb cb gf cf ga ca gB cB gc cc:Nat):Prop where
 b:x.vb= .slice (some ⟨gb,0,none⟩) m cb
 f:x.vf= .slice (some ⟨gf,0,none⟩) q cf
 a:x.va= .slice (some ⟨ga,0,none⟩) m ca
 B:x.vB= .slice (some ⟨gB,0,none⟩) m cB
 c:x.vc= .slice (some ⟨gc,0,none⟩) q cc
 row:∀i,i<m->∃g c,x.rv[i]? =some (.slice (some ⟨g,0,none⟩) q c)
def fh.Ny{x:Tx}{t:Tb}(h:fh w S x t tp cb cc ca){it:Ow}(hm:it∈gz x t tp cb cc ca)(h0:0<it.n):∃g c,it.v= .slice (some ⟨g,0,none⟩) it.n c:=by
 rcases(h.ows.own it hm).2 with⟨_,Y⟩|⟨g,cap,cur,e,_⟩
 .omega
 .exact⟨g,cap,e⟩
def fh.hd{x:Tx}{t:Tb}(h:fh w S x t tp cb cc ca){it:Ow}(hm:it∈gz x t tp cb cc ca){n:Nat}(E:it.n=n):∃a c,it.v= .slice a n c/\n<=c/\c<=maxLen/\(0<n->∃g,a=some ⟨g,0,none⟩):=by
 subst E;rcases(h.ows.own it hm).2 with⟨e,h0⟩|⟨g,cap,cur,e,_,_,E,hm,_⟩
 .exact⟨none,0,by rw[e,h0],by rw[h0];exact lr,mx,λh=>be⟩
 .exact⟨_,cap,e,E,hm,λ_=>⟨g,rfl⟩⟩
def fL.hdb{x:Tx}{t:Tb}(h:fL w S x t)(hW:t.Wf m q):∃a c,x.vb= .slice a m c/\m<=c/\c<=maxLen/\(0<m->∃g,a=some ⟨g,0,none⟩):=by
 obtain⟨tp,cb,cc,ca,hC⟩:=h;exact hC.hd (it:=⟨x.vb,T.int,1,t.bs.length,ints t.bs⟩) (by simp[gz]) hW.bs
def fL.hdf{x:Tx}{t:Tb}(h:fL w S x t)(hW:t.Wf m q):∃a c,x.vf= .slice a q c/\q<=c/\c<=maxLen/\(0<q->∃g,a=some ⟨g,0,none⟩):=by
 obtain⟨tp,cb,cc,ca,hC⟩:=h;exact hC.hd (it:=⟨x.vf,T.int,1,t.fs.length,ints t.fs⟩) (by simp[gz]) hW.fs
def fL.hda{x:Tx}{t:Tb}(h:fL w S x t)(hW:t.Wf m q):∃a c,x.va= .slice a m c/\m<=c/\c<=maxLen/\(0<m->∃g,a=some ⟨g,0,none⟩):=by
 obtain⟨tp,cb,cc,ca,hC⟩:=h;exact hC.hd (it:=⟨x.va,T.row,1,x.rv.length,x.rv⟩) (by simp[gz]) (hC.rl.trans hW.al)
def fL.hdB{x:Tx}{t:Tb}(h:fL w S x t)(hW:t.Wf m q):∃a c,x.vB= .slice a m c/\m<=c/\c<=maxLen/\(0<m->∃g,a=some ⟨g,0,none⟩):=by
 obtain⟨tp,cb,cc,ca,hC⟩:=h;exact hC.hd (it:=gC x.vB cb) (by simp[gz]) (hC.fb.1.trans hW.b)
def fL.hdc{x:Tx}{t:Tb}(h:fL w S x t)(hW:t.Wf m q):∃a c,x.vc= .slice a q c/\q<=c/\c<=maxLen/\(0<q->∃g,a=some ⟨g,0,none⟩):=by
 obtain⟨tp,cb,cc,ca,hC⟩:=h;exact hC.hd (it:=gC x.vc cc) (by simp[gz]) (hC.fc.1.trans hW.c)
def fL.hdr{x:Tx}{t:Tb}{i:Nat}(h:fL w S x t)(hW:t.Wf m q)(R:i<m):∃a c,x.rv[i]? =some (.slice a q c)/\q<=c/\c<=maxLen/\(0<q->∃g,a=some ⟨g,0,none⟩):=by
 obtain⟨tp,cb,cc,ca,hC⟩:=h;obtain⟨v,U,k1,k2,k3,k4⟩:=hC.row (i:=i) (by rw[hW.al];exact R);obtain⟨a,c,e,Y⟩:=hC.hd (aG (hC.rowAt k1 k2)) (n:=q) (k3.1.trans (hW.row R));exact⟨a,c,by rw[k1];exact congrArg _ e,Y⟩
def fL.Ny{x:Tx}{t:Tb}(h:fL w S x t)(hW:t.Wf m q)(hm:0<m)(hq:0<q):∃gb cb gf cf ga ca gB cB gc cc,Adr x m q gb cb gf cf ga ca gB cB gc cc:=by
 obtain⟨tp,cb,cc,ca,hC⟩:=h;have h4:=hC.fb.1;have h5:=hC.fc.1;rw[hW.b]at h4;rw[hW.c]at h5;obtain⟨g1,c1,e1⟩:=hC.Ny (it:=⟨x.vb,T.int,1,t.bs.length,ints t.bs⟩) (by simp[gz]) (by rw[hW.bs];exact hm);obtain⟨g2,c2,e2⟩:=hC.Ny (it:=⟨x.vf,T.int,1,t.fs.length,ints t.fs⟩) (by simp[gz]) (by rw[hW.fs];exact hq);obtain⟨g3,c3,e3⟩:=hC.Ny (it:=⟨x.va,T.row,1,x.rv.length,x.rv⟩) (by simp[gz]) (by rw[hC.rl,hW.al];exact hm);obtain⟨g4,c4,e4⟩:=hC.Ny (it:=gC x.vB cb) (by simp[gz]) (by show 0<cb.length;omega);obtain⟨g5,c5,e5⟩:=hC.Ny (it:=gC x.vc cc) (by simp[gz]) (by show 0<cc.length;omega);dsimp only[gC]at e1 e2 e3 e4 e5;rw[hW.bs]at e1;rw[hW.fs]at e2;rw[hC.rl,hW.al]at e3;rw[h4]at e4;rw[h5]at e5;refine⟨g1,c1,g2,c2,g3,c3,g4,c4,g5,c5,e1,e2,e3,e4,e5,λi R=>?_⟩;obtain⟨v,U,k1,k2,k3,k4⟩:=hC.row (i:=i) (by rw[hW.al];exact R);have hl:=k3.1;rw[hW.row R]at hl;obtain⟨g,c,e⟩:=hC.Ny (aG (hC.rowAt k1 k2)) (by show 0<U.length;omega);have e:v= .slice (some ⟨g,0,none⟩) U.length c:=e;exact⟨g,c,by rw[k1,e,hl]⟩
section
variable{S:Nat->Prop}{H:Hp}{nx:Nat}{iv:Iv}{B:Nat}{w J F:World}{O:Nat->Sx.eD}{x:Tx}{t:Tb}{i:Nat}{v:Value}
def fh.JK{w:World}{S:Nat->Prop}(hC:fh w S x t tp cb cc ca)(hm:gC v U∈gz x t tp cb cc ca)(hF:Fr w S U qs):dx w (λg=>v.ownBlock=some g) S v qs:=by
 have ho:w.ownsRow 0 T.dN 4 v U.length U.flatten:=hC.ows.own _ hm;refine⟨U,?_,hF⟩;rw[<-hF.1];rcases ho.2 with⟨rfl,h0⟩|⟨g,cap,cur,rfl,N,hc,SJ,RE,QG,RX⟩
 .refine⟨by rw[h0];exact aZ _,ho.1,hF.one,none,0,by rw[h0],by rw[h0];exact lr,λj u hu=>?_⟩;have:=ho.1;rw[h0,Nat.zero_mul]at this;rw[List.eq_nil_of_length_eq_zero this]at hu
  cases hu
 .refine⟨be,ho.1,hF.one,_,cap,rfl,SJ,λj u hu=>⟨_,rfl,rfl,?_⟩⟩;exact ho.cells (g:=g) rfl j u hu
def Kept.one{row:Option Nat}(h:w.grownBy F row)(hX:∀g,row=some g->X g):Kept w F X:=Kept.refl.row h hX
def fh.apart{w:World}{S:Nat->Prop}(hC:fh w S x t tp cb cc ca){l:Nat}{a b:Ow}(WD:k≠l)(ha:(gz x t tp cb cc ca)[k]? =some a)(N:(gz x t tp cb cc ca)[l]? =some b)(g:Nat)(Y:a.v.ownBlock=some g):¬b.v.ownBlock=some g:=λI=>WD (hC.ows.apart k l a b g ha N Y I)
def dI.wO(hT:dI w S B iv x t)(r:Rel H nx iv B w O J)(G:∀g,S g->g<B)(R:i<t.a.length)(hv:x.rv[i]? =some v)(QM:cw w (Lv S B iv x) vby p)(hq:∀q∈t.a.getD i [],rl q<=10000000000)(N:rl p<=10000000000):
  eH PG Fd.lg #[v,vby] J (λe F=>e= .returned (.tuple #[])/\Kept J F (Bv x.cz)/\fL F (Nw (Lv S B iv x) J F) x {t with a:=t.a.set i ((t.a.getD i []).map (· *p))}):=by
 have hT':=hT.rel r G;obtain⟨tp,cb,cc,ca,hC⟩:=hT'.iw;obtain⟨v',U,Y,I,h3,h4⟩:=hC.row R;rw[Y]at hv;injection hv with hv;subst hv;have hI:=hC.rowAt Y I;have hm:=aG hI;have Uw:∀g,v'.ownBlock=some g->Bv x.cz g:=λg V=>by rw[<-hC.cz];exact ju.bk hm V
 refine(Go.Ex.wO (Lv.old r G) (hC.ows.own _ hm) h3 rfl (QM.gh r G) (λg V hl=>hl.2 (Uw g V)) hq N).mono λe F L=>?_;obtain⟨rfl,V,css',h5,h6,h7⟩:=L;refine⟨rfl,Kept.one V Uw,tp,cb,cc,_,hC.a' Y I h6 V h5 h7 (λg hl=>V.block g (Lv.old r G g hl) λe=>hl.2 (Uw g e.symm)) (λ_ h=>.inl h) λg N E=>?_⟩;rcases E with E|E
 .exact E.2 N
 .have:=hT.low r N;omega
def dI.Pf(hT:dI w S B iv x t)(r:Rel H nx iv B w O J)(G:∀g,S g->g<B){vs:Value}(R:i<t.a.length)(K:k<t.a.length)(hik:i≠k)(hv:x.rv[i]? =some v)(Rq:x.rv[k]? =some vs)(hl:(t.a.getD k []).length=(t.a.getD i []).length)(QM:cw w (Lv S B iv x) vby p)
  (hq:∀q∈t.a.getD i [],rl q<=2000000000) (hqk:∀q∈t.a.getD k [],rl q<=2000000000) (N:rl p<=2000000000):
  eH PG Fd.lC #[v,vby,vs] J (λe F=>e= .returned (.tuple #[])/\Kept J F (Bv x.cz)/\fL F (Nw (Lv S B iv x) J F) x {t with a:=t.a.set i (qd (t.a.getD i []) p (t.a.getD k []))}):=by
 have hT':=hT.rel r G;obtain⟨tp,cb,cc,ca,hC⟩:=hT'.iw;obtain⟨v',U,Y,I,h3,h4⟩:=hC.row R;rw[Y]at hv;injection hv with hv;subst hv;obtain⟨v2,Wc,k1,k2,k3,k4⟩:=hC.row K;rw[k1]at Rq;injection Rq with Rq;subst Rq;have hI:=hC.rowAt Y I;have hm:=aG hI;have YX:=hC.rowAt k1 k2;have VI:=aG YX;have Uw:∀g,v'.ownBlock=some g->Bv x.cz g:=λg V=>by rw[<-hC.cz];exact ju.bk hm V
 refine(Go.Ex.JL (C:=λg=>v2.ownBlock=some g) (λg V=>hT.low r (by rw[<-hC.cz];exact ju.bk VI V)) (Lv.old r G) (hC.ows.own _ hm) h3 rfl (QM.gh r G) (fh.JK hC VI k3) (hl.trans h3.1.symm) (λg V hl=>hl.2 (Uw g V)) (λg=>hC.apart be hI YX g) hq hqk N).mono λe F L=>?_;obtain⟨rfl,V,css',h5,h6,h7⟩:=L;refine⟨rfl,Kept.one V Uw,tp,cb,cc,_,hC.a' Y I h6 V h5 h7 (λg hl=>V.block g (Lv.old r G g hl) λe=>hl.2 (Uw g e.symm)) (λ_ h=>.inl h) λg N E=>?_⟩;rcases E with E|E
 .exact E.2 N
 .have:=hT.low r N;omega
def dI.M0(hT:dI w S B iv x t)(r:Rel H nx iv B w O J)(G:∀g,S g->g<B){vc vs:Value}(YY:x.vc=vc)(K:k<t.a.length)(Rq:x.rv[k]? =some vs)(hl:(t.a.getD k []).length=t.c.length)(QM:cw w (Lv S B iv x) vby p)
  (hq:∀q∈t.c,rl q<=2000000000) (hqk:∀q∈t.a.getD k [],rl q<=2000000000) (N:rl p<=2000000000):
  eH PG Fd.lC #[vc,vby,vs] J (λe F=>e= .returned (.tuple #[])/\Kept J F (Bv x.cz)/\fL F (Nw (Lv S B iv x) J F) x {t with c:=qd t.c p (t.a.getD k [])}):=by
 subst YY;have hT':=hT.rel r G;obtain⟨tp,cb,cc,ca,hC⟩:=hT'.iw;obtain⟨v2,Wc,k1,k2,k3,k4⟩:=hC.row K;rw[k1]at Rq;injection Rq with Rq;subst Rq;have hI:(gz x t tp cb cc ca)[5]? =some (gC x.vc cc):=rfl;have hm:=aG hI;have YX:=hC.rowAt k1 k2;have VI:=aG YX;have Uw:∀g,x.vc.ownBlock=some g->Bv x.cz g:=λg V=>by rw[<-hC.cz];exact ju.bk hm V
 refine(Go.Ex.JL (C:=λg=>v2.ownBlock=some g) (λg V=>hT.low r (by rw[<-hC.cz];exact ju.bk VI V)) (Lv.old r G) (hC.ows.own _ hm) hC.fc rfl (QM.gh r G) (fh.JK hC VI k3) (hl.trans hC.fc.1.symm) (λg V hl=>hl.2 (Uw g V)) (λg=>hC.apart (show 5≠k+6 by omega) hI YX g) hq hqk N).mono λe F L=>?_;obtain⟨rfl,V,css',h5,h6,h7⟩:=L;refine⟨rfl,Kept.one V Uw,tp,cb,_,ca,hC.c' h6 V h5 h7 (λg hl=>V.block g (Lv.old r G g hl) λe=>hl.2 (Uw g e.symm)) (λ_ h=>.inl h) λg N E=>?_⟩;rcases E with E|E
 .exact E.2 N
 .have:=hT.low r N;omega
def dI.out{w0:World}{t0:Tb}(h:dI w S w0.heap.size iv x t)(h0:fL w0 S x t0)(r:Rel H nx iv w0.heap.size w O J)(G:Old S w0):fL J (Nw S w0 J) x t:=
 (h.rel r G).iw.cU (λ_ V=>V.nw r) λg N E=>E.elim (λhs=>h0.off N hs) λhs=>by have:=h0.low N;omega
end
def ER{x:Tx}{t:Tb}{u s h:Nat}(TT:Old S w)(Qq:fL w S x t)(hW:t.Wf m q)(hr:u<m)(hs:s<q)(h0:dR t.a u s≠0)(hm:m<=1000)(hq:q<=1000)(hH:t.xD h)(I:2<=h)(hh:h<=100000000):
  eH PG Fd.ng #[.pointer (some ⟨x.g,0,none⟩),iV u,iV s] w (λe F=>e= .returned (.tuple #[])/\Kept w F (Bv x.cz)/\fL F (Nw S w F) x (t.gP u s)):=by
 have G:=TT;obtain⟨gb,cb,gf,cf,ga,ca,gB,cB,gc,cc,hA⟩:=Qq.Ny hW be be;have hT:=dI.arg Qq;have K:Kept w w (Bv x.cz):=Kept.refl;obtain⟨gr,cr,XC⟩:=hA.row u hr;have UK:=hW.al;have Pu:=hW.b;have Qj:=hW.fs;have UA:=hW.bs;have Qa:=hW.c;have QI:=hW.row hr;have QL:=hH.dR I u s;have Wz:=hH.PR I u;have QX:=hH.cat I s;have hinv:=uM h0;refine sI ce ?_;obtain⟨p1,p2,p3,p4,p5,p6,p7,p8,US,hP⟩:=hT.eA G (i:=u) (j:=s) be be XC;refine⟨_,λO J r=>hT.f2 G hA.a r,_,rfl,be,_,λO J r=>hT.cA G XC hA.a r,_,rfl,be,rC p1 p2 p3 p4 p5 p6 p7 p8,rfl,λO J r j x Z=>US r j x Z,?_⟩;refine dP (idO 28) ?_;refine⟨_,λO J r=>hT.f0 G hA.b r,_,λO J r=>hT.f1 G hA.f r,_,λO J r=>hT.f1 G hA.f r,_,rfl,be,_,λO J r=>hT.cFs G (i:=s) (by first|omega|(dsimp only;omega)) hA.f r,_,λO J r=>hT.f0 G hA.b r,_,rfl,be,_,λO J r=>hT.Pe G (i:=u) (by first|omega|(dsimp only;omega)) hA.b r,_,rfl,be,?_⟩;intro O J r;obtain⟨k1,k2,k3,k4⟩:=hT.aBO G r (ad:=Addr.add ⟨gb,0,none⟩ (((u:Nat):Int).toNat*1)) (i:=u) (n:=t.fs.getD s 0) (by first|omega|(dsimp only;omega)) hA.b (by rw[Int.toNat_natCast,dD,Nat.zero_add]);refine⟨k1,k2,k3,λw4 QD=>?_⟩;obtain⟨SZ,QW,Ra⟩:=k4 w4 QD;replace hP:=hP.cW Ra;replace K:=(Kept.cg r.cg K lr).trans QW;clear k1 k2 k3 k4 Ra QW QD r;clear hT;have hT:=SZ;clear SZ;refine⟨_,rfl,be,?_⟩;intro O J r;obtain⟨k1,k2,k3,k4⟩:=hT.aBP G r (ad:=Addr.add ⟨gf,0,none⟩ (((s:Nat):Int).toNat*1)) (i:=s) (n:=t.bs.getD u 0) (by first|omega|(dsimp only;omega)) hA.f (by rw[Int.toNat_natCast,dD,Nat.zero_add]);refine⟨k1,k2,k3,λw4 QD=>?_⟩;obtain⟨SZ,QW,Ra⟩:=k4 w4 QD;replace hP:=hP.cW Ra;replace K:=(Kept.cg r.cg K lr).trans QW;clear k1 k2 k3 k4 Ra QW QD r;clear hT;have hT:=SZ;clear SZ;refine dP [.x 1,.p 3,.x 0,.x 2,.x 3,.x 4] ?_;refine cR (GT:=λ_ J v F=>cw F (Nf J F) v ((1:Int):Rat)) (λO J r=>iI 1 J bv bv) ?_;rintro O QJ v1 QH r L N E;have hO:=E.uc hT r;replace hP:=hP.ji (A:=(QJ.heap.size,QH.heap.size)::[]) r G L λx Z=>aD _ Z;replace hT:=hT.cV (A:=(QJ.heap.size,QH.heap.size)::[]) r G L λx Z=>aD _ Z;replace K:=Kept.cg N K lr;clear r L N E;generalize (QJ.heap.size,QH.heap.size)::[]=Pt at*
 obtain⟨o1,o2,o3,o4,o5,o6,o7,o8,rfl⟩:=hO.shape;refine cR (GT:=λ_ J v F=>cw F (Nf J F) v (((1:Int):Rat) / dR t.a u s)) (λO J r=>JG (Lv.old r G) (hO.gh r G) (hP.gh r G) bv be h0) ?_;rintro O Qk v2 QP r L N E;have hI:=E.uc hT r;clear hO;clear hP;replace hT:=hT.cV (A:=(Qk.heap.size,QP.heap.size)::Pt) r G L λx Z=>aD _ Z;replace K:=Kept.cg N K lr;clear r L N E;generalize (Qk.heap.size,QP.heap.size)::Pt=iv2 at*
 obtain⟨i1,i2,i3,i4,i5,i6,i7,i8,rfl⟩:=hI.shape;refine dP (idO 11) ?_;refine⟨_,λO J r=>hT.f2 G hA.a r,_,rfl,be,_,λO J r=>hT.cA G XC hA.a r,?_⟩;refine cR (GT:=λ_ J v F=>cw F (Nf J F) v ((1:Int):Rat)) (λO J r=>iI 1 J bv bv) ?_;rintro O Qh v3 Q7 r L N E;have hO:=E.uc hT r;replace hI:=hI.ji (A:=(Qh.heap.size,Q7.heap.size)::iv2) r G L λx Z=>aD _ Z;replace hT:=hT.cV (A:=(Qh.heap.size,Q7.heap.size)::iv2) r G L λx Z=>aD _ Z;replace K:=Kept.cg N K lr;clear r L N E;generalize (Qh.heap.size,Q7.heap.size)::iv2=Ps at*
 obtain⟨l1,l2,l3,l4,l5,l6,l7,l8,rfl⟩:=hO.shape;rw[show ((1:Int):Rat)=1 by decide]at hO hI;refine⟨_,rfl,be,?_⟩;intro O J r;obtain⟨k1,k2,k3,k4⟩:=hT.stA G r (ad:=Addr.add ⟨gr,0,none⟩ (((s:Nat):Int).toNat*4)) (i:=u) (j:=s) (by first|omega|(dsimp only;omega)) (by first|omega|(dsimp only;omega)) XC hO.four (by rw[Int.toNat_natCast,dD,Nat.zero_add]);refine⟨k1,k2,k3,λw4 QD=>?_⟩;obtain⟨SZ,QW,Ra⟩:=k4 w4 QD;replace hI:=hI.cW Ra;replace hO:=hO.cW Ra;replace K:=(Kept.cg r.cg K lr).trans QW;clear k1 k2 k3 k4 Ra QW QD r;clear hT;have hT:=SZ;clear SZ;clear hO
 try dsimp only at hT
 refine dP (idO 9) ?_;refine⟨_,λO J r=>hT.f2 G hA.a r,_,rfl,be,_,λO J r=>hT.cA G XC hA.a r,?_⟩;refine⟨λO J r=>?_⟩;refine(hT.wO r G (by dsimp only;rw[List.length_set];omega) XC hI (λy hy=>by have:=hH.PS (z:=1) (by rw[Dn];exact I) u s y hy;omega) be).mono λe w8 L=>?_;obtain⟨rfl,Qu,Ql⟩:=L;refine⟨.tuple #[],_,(J.heap.size,w8.heap.size)::Ps,rfl,r.fz (hT.not r) Qu,?_⟩;replace hI:=hI.JI r G Qu;replace Ql:=hT.ef r Ql;replace K:=(Kept.cg r.cg K lr).trans Qu;clear hT Qu;have hT:=Ql;clear Ql r;generalize (J.heap.size,w8.heap.size)::Ps=QA at*
 refine dP (idO 16) ?_;obtain⟨b1,b2,b3,b4,b5,b6,b7,b8,hEb,hB⟩:=hT.eB G (j:=u) (by first|omega|(dsimp only;omega)) hA.B;refine⟨_,λO J r=>hT.f3 G hA.B r,_,λO J r=>hT.f3 G hA.B r,_,rfl,be,rC b1 b2 b3 b4 b5 b6 b7 b8,rfl,λO J r j x Z=>hEb r j x Z,?_⟩;refine cR (GT:=λ_ J v F=>cw F (Nf J F) v (t.b.getD u 0*(1 / dR t.a u s))) (λO J r=>nH (Lv.old r G) (hB.gh r G) (hI.gh r G) be be) ?_;rintro O VZ v5 Ut r L N E;have hN:=E.uc hT r;clear hB;clear hI;replace hT:=hT.cV (A:=(VZ.heap.size,Ut.heap.size)::QA) r G L λx Z=>aD _ Z;replace K:=Kept.cg N K lr;clear r L N E;generalize (VZ.heap.size,Ut.heap.size)::QA=QE at*
 obtain⟨n1,n2,n3,n4,n5,n6,n7,n8,rfl⟩:=hN.shape;refine⟨_,rfl,be,?_⟩;intro O J r;obtain⟨k1,k2,k3,k4⟩:=hT.stB G r (ad:=Addr.add ⟨gB,0,none⟩ (((u:Nat):Int).toNat*4)) (j:=u) (by first|omega|(dsimp only;omega)) hA.B hN.four (by rw[Int.toNat_natCast,dD,Nat.zero_add]);refine⟨k1,k2,k3,λw4 QD=>?_⟩;obtain⟨SZ,QW,Ra⟩:=k4 w4 QD;replace hN:=hN.cW Ra;replace K:=(Kept.cg r.cg K lr).trans QW;clear k1 k2 k3 k4 Ra QW QD r;clear hT;have hT:=SZ;clear SZ;clear hN;replace hT:=hT.cast (Tb.Nl (t:=t) (r:=u) (s:=s) be);refine⟨_,λO J r=>hT.f2 G hA.a r,Nat×World×Iv,λz=>⟨[(0,.o (.v (.pointer (some ⟨x.g,0,none⟩)))),(1,.o (.v (iV (u:Int)))),(2,.o (.v (iV (s:Int)))),(88,.o (.v (iV (m:Int)))),(89,.o (.v (iV (z.1:Int))))],[],2,z.2.2,z.2.1⟩,λz=>m-z.1,λz=>z.1<=m/\Kept w z.2.1 (Bv x.cz)/\dI z.2.1 S w.heap.size z.2.2 x (t.pT u s z.1),?_,?_⟩
 .intro O J r;exact⟨(0,J,_),⟨aZ _,Kept.cg r.cg K lr,hT.rel r G⟩,sbgn [] r⟩
 clear hT K US;rintro⟨i,w1,iv⟩ ⟨R,K,hT⟩;dsimp only at R K hT ⊢;obtain⟨P,XD⟩:∃P,P=t.pT u s i:=⟨_,rfl⟩
 rw[<-XD]at hT;have hPW:P.Wf m q:=by rw[XD];exact hW.pT hr
 have hPal:=hPW.al;have hPbl:=hPW.b;have hPcl:=hPW.c;have hPar:P.a.getD u []=t.l9 u s:=by rw[XD,Tb.MF be]
 have hPbr:P.b.getD u 0=t.bP u s:=by rw[XD,Tb.MG be]
 have hru:∀y∈P.a.getD u [],rl y<=2*h:=by rw[hPar];exact hH.l9 I h0
 have hbu:rl (P.b.getD u 0)<=2*h:=by
  rw[hPbr];have:=j7 (t.b.getD u 0) (1 / dR t.a u s);unfold Tb.bP;omega
 have hPru:=hPW.row hr;apply bS<;>intro Pk
 .have Pk:=dL Pk;apply bS<;>intro YZ
  .have YZ:i=u:=by
    have h4:((i:Int)==(u:Int))=true:=by simpa using YZ
    have:=eq_of_beq h4;omega
   refine inc i ?_;intro I8 w3 r3;exact⟨(i+1,w3,_),⟨Pk,Kept.cg r3.cg K lr,(hT.cast (XD.trans (Tb.Nm YZ))).rel r3 G⟩,sbgn [] r3,dec Pk⟩
  have YZ:i≠u:=λe=>by
   have:(((i:Int)==(u:Int))=true):=by rw[e];simp
   exact absurd (by simpa using this) (by simpa using YZ)
  obtain⟨gi,ci,TD⟩:=hA.row i Pk;have hPri:=hPW.row Pk;have Zn:P.a.getD i []=t.a.getD i []:=by rw[XD,Tb.Oj be YZ (ae i)]
  have WT:rl (P.b.getD i 0)+1<=h:=by rw[XD,Tb.Ol be YZ (ae i)];exact hH.PR I i
  have VC:rl (dR P.a i s)+1<=h:=by unfold dR;rw[Zn];exact hH.dR I i s
  obtain⟨p1,p2,p3,p4,p5,p6,p7,p8,US,hQ⟩:=hT.eA G (i:=i) (j:=s) be be TD;refine⟨_,λO J r=>hT.f2 G hA.a r,_,rfl,be,_,λO J r=>hT.cA G TD hA.a r,_,rfl,be,rC p1 p2 p3 p4 p5 p6 p7 p8,rfl,λO J r j x Z=>US r j x Z,?_⟩;refine cS (cR (GT:=λ_ J v F=>cw F (Nw (Lv S w.heap.size iv x) J F) v (-(dR P.a i s))) (λO J r=>lV (Lv.old r G) (hQ.gh r G)) ?_);rintro O Uu v6 Uv r L N E;have hK:=E.Pb hT r;clear hQ;replace hT:=hT.cV (A:=(Uu.heap.size,Uv.heap.size)::iv) r G L λx Z=>aD _ Z;replace K:=Kept.cg N K lr;clear r L N E;generalize (Uu.heap.size,Uv.heap.size)::iv=Q8 at*
  obtain⟨k1,k2,k3,k4,k5,k6,k7,k8,rfl⟩:=hK.shape;refine dP (idO 11) ?_;refine⟨_,λO J r=>hT.f2 G hA.a r,_,rfl,be,_,λO J r=>hT.cA G TD hA.a r,?_⟩;refine cR (GT:=λ_ J v F=>cw F (Nf J F) v ((0:Int):Rat)) (λO J r=>iI 0 J bv bv) ?_;rintro O Wd v7 We r L N E;have hO:=E.uc hT r;replace hK:=hK.ji (A:=(Wd.heap.size,We.heap.size)::Q8) r G L λx Z=>aD _ Z;replace hT:=hT.cV (A:=(Wd.heap.size,We.heap.size)::Q8) r G L λx Z=>aD _ Z;replace K:=Kept.cg N K lr;clear r L N E;generalize (Wd.heap.size,We.heap.size)::Q8=RJ at*
  obtain⟨l1,l2,l3,l4,l5,l6,l7,l8,rfl⟩:=hO.shape;rw[show ((0:Int):Rat)=0 by decide]at hO;refine⟨_,rfl,be,?_⟩;intro O J r;obtain⟨k1,k2,k3,k4⟩:=hT.stA G r (ad:=Addr.add ⟨gi,0,none⟩ (((s:Nat):Int).toNat*4)) (i:=i) (j:=s) (by first|omega|(dsimp only;omega)) (by first|omega|(dsimp only;omega)) TD hO.four (by rw[Int.toNat_natCast,dD,Nat.zero_add]);refine⟨k1,k2,k3,λw4 QD=>?_⟩;obtain⟨SZ,QW,Ra⟩:=k4 w4 QD;replace hK:=hK.cW Ra;replace hO:=hO.cW Ra;replace K:=(Kept.cg r.cg K lr).trans QW;clear k1 k2 k3 k4 Ra QW QD r;clear hT;have hT:=SZ;clear SZ;clear hO
  try dsimp only at hT
  have e1:(P.a.set i ((P.a.getD i []).set s 0)).getD u []=P.a.getD u []:=by rw[mb,aJ (λe=>YZ e.1)]
  have e2:(P.a.set i ((P.a.getD i []).set s 0)).getD i []=(P.a.getD i []).set s 0:=by rw[mb,aM ⟨rfl,be⟩]
  refine dP (idO 16) ?_;refine⟨_,λO J r=>hT.f2 G hA.a r,_,rfl,be,_,λO J r=>hT.cA G TD hA.a r,_,λO J r=>hT.f2 G hA.a r,_,rfl,be,_,λO J r=>hT.cA G XC hA.a r,?_⟩;refine⟨λO J r=>?_⟩;refine(hT.Pf r G (i:=i) (k:=u) (by dsimp only;rw[List.length_set];omega) (by dsimp only;rw[List.length_set];omega) YZ TD XC (by dsimp only;rw[e1,e2,List.length_set,hPri,hPru]) hK (by dsimp only;rw[e2];intro y hy;rcases bL hy with Y|Y;have:=hH.No i y (by rw[<-Zn];exact Y);omega;rw[Y];decide) (by dsimp only;rw[e1];intro y hy;have:=hru y hy;omega) (by rw[kT];omega)).mono λe w8 L=>?_;obtain⟨rfl,Qu,Ql⟩:=L;refine⟨.tuple #[],_,(J.heap.size,w8.heap.size)::RJ,rfl,r.fz (hT.not r) Qu,?_⟩;replace hK:=hK.JI r G Qu;replace Ql:=hT.ef r Ql;replace K:=(Kept.cg r.cg K lr).trans Qu;clear hT Qu;have hT:=Ql;clear Ql r;generalize (J.heap.size,w8.heap.size)::RJ=Sl at*
  refine dP (idO 24) ?_;obtain⟨b1,b2,b3,b4,b5,b6,b7,b8,hEb,hB⟩:=hT.eB G (j:=i) (by first|omega|(dsimp only;omega)) hA.B;obtain⟨c1,c2,c3,c4,c5,c6,c7,c8,hEc,hC⟩:=hT.eB G (j:=u) (by first|omega|(dsimp only;omega)) hA.B;refine⟨_,λO J r=>hT.f3 G hA.B r,_,λO J r=>hT.f3 G hA.B r,_,rfl,be,rC b1 b2 b3 b4 b5 b6 b7 b8,rfl,λO J r j x Z=>hEb r j x Z,_,λO J r=>hT.f3 G hA.B r,_,rfl,be,rC c1 c2 c3 c4 c5 c6 c7 c8,rfl,λO J r j x Z=>hEc r j x Z,?_⟩;have VG:=j7 (-(dR P.a i s)) (P.b.getD u 0);rw[kT]at VG;refine cR (GT:=λ_ J v F=>cw F (Nf J F) v (-(dR P.a i s)*P.b.getD u 0)) (λO J r=>nH (Lv.old r G) (hK.gh r G) (hC.gh r G) (by rw[kT];omega) (by first|omega|(dsimp only;omega))) ?_;rintro O Tk v9 Tl r L N E;have hM:=E.uc hT r;clear hK;clear hC;replace hB:=hB.ji (A:=(Tk.heap.size,Tl.heap.size)::Sl) r G L λx Z=>aD _ Z;replace hT:=hT.cV (A:=(Tk.heap.size,Tl.heap.size)::Sl) r G L λx Z=>aD _ Z;replace K:=Kept.cg N K lr;clear r L N E;generalize (Tk.heap.size,Tl.heap.size)::Sl=Ui at*
  obtain⟨m1,m2,m3,m4,m5,m6,m7,m8,rfl⟩:=hM.shape;refine cR (GT:=λ_ J v F=>cw F (Nf J F) v (P.b.getD i 0+ -(dR P.a i s)*P.b.getD u 0)) (λO J r=>wN (Lv.old r G) (hB.gh r G) (hM.gh r G) (by first|omega|(dsimp only;omega)) be) ?_;rintro O UE v10 UF r L N E;have hN:=E.uc hT r;clear hB;clear hM;replace hT:=hT.cV (A:=(UE.heap.size,UF.heap.size)::Ui) r G L λx Z=>aD _ Z;replace K:=Kept.cg N K lr;clear r L N E;generalize (UE.heap.size,UF.heap.size)::Ui=Uj at*
  obtain⟨n1,n2,n3,n4,n5,n6,n7,n8,rfl⟩:=hN.shape;refine⟨_,rfl,be,?_⟩;intro O J r;obtain⟨k1,k2,k3,k4⟩:=hT.stB G r (ad:=Addr.add ⟨gB,0,none⟩ (((i:Nat):Int).toNat*4)) (j:=i) (by first|omega|(dsimp only;omega)) hA.B hN.four (by rw[Int.toNat_natCast,dD,Nat.zero_add]);refine⟨k1,k2,k3,λw4 QD=>?_⟩;obtain⟨SZ,QW,Ra⟩:=k4 w4 QD;replace hN:=hN.cW Ra;replace K:=(Kept.cg r.cg K lr).trans QW;clear k1 k2 k3 k4 Ra QW QD r;clear hT;have hT:=SZ;clear SZ;clear hN;refine inc i ?_;intro I8 w3 r3;exact⟨(i+1,w3,_),⟨Pk,Kept.cg r3.cg K lr,(hT.cast (Tb.Nn be be be YZ P XD)).rel r3 G⟩,sbgn [] r3,dec Pk⟩
 have Pk:=dE R Pk;have Xi:P.c.getD s 0=t.c.getD s 0:=by rw[XD];rfl
 have hcl2:∀y∈P.c,rl y+1<=h:=by rw[XD];exact hH.c
 have Xd:rl P.top+1<=h:=by rw[XD];exact hH.top
 obtain⟨p1,p2,p3,p4,p5,p6,p7,p8,US,hQ⟩:=hT.eC G (j:=s) be hA.c;refine⟨_,λO J r=>hT.f4 G hA.c r,_,rfl,be,rC p1 p2 p3 p4 p5 p6 p7 p8,rfl,λO J r j x Z=>US r j x Z,?_⟩;refine dP (idO 8) ?_;refine⟨_,λO J r=>hT.f4 G hA.c r,?_⟩;refine cR (GT:=λ_ J v F=>cw F (Nf J F) v ((0:Int):Rat)) (λO J r=>iI 0 J bv bv) ?_;rintro O Uu v6 Uv r L N E;have hO:=E.uc hT r;replace hQ:=hQ.ji (A:=(Uu.heap.size,Uv.heap.size)::iv) r G L λx Z=>aD _ Z;replace hT:=hT.cV (A:=(Uu.heap.size,Uv.heap.size)::iv) r G L λx Z=>aD _ Z;replace K:=Kept.cg N K lr;clear r L N E;generalize (Uu.heap.size,Uv.heap.size)::iv=Q8 at*
 obtain⟨l1,l2,l3,l4,l5,l6,l7,l8,rfl⟩:=hO.shape;rw[show ((0:Int):Rat)=0 by decide]at hO;refine⟨_,rfl,be,?_⟩;intro O J r;obtain⟨k1,k2,k3,k4⟩:=hT.stC G r (ad:=Addr.add ⟨gc,0,none⟩ (((s:Nat):Int).toNat*4)) (j:=s) (by first|omega|(dsimp only;omega)) hA.c hO.four (by rw[Int.toNat_natCast,dD,Nat.zero_add]);refine⟨k1,k2,k3,λw4 QD=>?_⟩;obtain⟨SZ,QW,Ra⟩:=k4 w4 QD;replace hQ:=hQ.cW Ra;replace hO:=hO.cW Ra;replace K:=(Kept.cg r.cg K lr).trans QW;clear k1 k2 k3 k4 Ra QW QD r;clear hT;have hT:=SZ;clear SZ;clear hO
 try dsimp only at hT
 refine dP [.x 0,.x 1,.x 2,.x 3,.x 4,.x 6,.x 7,.x 8,.x 9,.x 10,.x 11,.x 12,.x 5,.x 13] ?_;refine⟨_,λO J r=>hT.f4 G hA.c r,_,λO J r=>hT.f2 G hA.a r,_,rfl,be,_,λO J r=>hT.cA G XC hA.a r,?_⟩;refine cR (GT:=λ_ J v F=>cw F (Nw (Lv S w.heap.size Q8 x) J F) v (-(P.c.getD s 0))) (λO J r=>lV (Lv.old r G) (hQ.gh r G)) ?_;rintro O Wd v7 We r L N E;have hK:=E.Pb hT r;replace hQ:=hQ.ji (A:=(Wd.heap.size,We.heap.size)::Q8) r G L λx Z=>aD _ Z;replace hT:=hT.cV (A:=(Wd.heap.size,We.heap.size)::Q8) r G L λx Z=>aD _ Z;replace K:=Kept.cg N K lr;clear r L N E;generalize (Wd.heap.size,We.heap.size)::Q8=RJ at*
 obtain⟨k1,k2,k3,k4,k5,k6,k7,k8,rfl⟩:=hK.shape;refine⟨λO J r=>?_⟩;refine(hT.M0 r G (k:=u) hA.c (by first|omega|(dsimp only;omega)) XC (by dsimp only;rw[List.length_set,hPru,hPcl]) hK (by dsimp only;intro y hy;rcases List.mem_or_eq_of_mem_set hy with Y|Y;have:=hcl2 y Y;omega;rw[Y];decide) (by dsimp only;intro y hy;have:=hru y hy;omega) (by rw[kT,Xi];omega)).mono λe w8 L=>?_;obtain⟨rfl,Qu,Ql⟩:=L;refine⟨.tuple #[],_,(J.heap.size,w8.heap.size)::RJ,rfl,r.fz (hT.not r) Qu,?_⟩;clear hK;replace hQ:=hQ.JI r G Qu;replace Ql:=hT.ef r Ql;replace K:=(Kept.cg r.cg K lr).trans Qu;clear hT Qu;have hT:=Ql;clear Ql r;generalize (J.heap.size,w8.heap.size)::RJ=Sl at*
 refine dP (idO 18) ?_;obtain⟨t1,t2,t3,t4,t5,t6,t7,t8,ZA,hY⟩:=hT.ldT G;obtain⟨c1,c2,c3,c4,c5,c6,c7,c8,hEc,hC⟩:=hT.eB G (j:=u) (by first|omega|(dsimp only;omega)) hA.B;refine⟨rC t1 t2 t3 t4 t5 t6 t7 t8,rfl,λO J r j x Z=>ZA r j x Z,_,λO J r=>hT.f3 G hA.B r,_,rfl,be,rC c1 c2 c3 c4 c5 c6 c7 c8,rfl,λO J r j x Z=>hEc r j x Z,?_⟩;have VG:=j7 (P.c.getD s 0) (P.b.getD u 0);rw[Xi]at VG;refine cR (GT:=λ_ J v F=>cw F (Nf J F) v (P.c.getD s 0*P.b.getD u 0)) (λO J r=>nH (Lv.old r G) (hQ.gh r G) (hC.gh r G) (by rw[Xi];omega) (by first|omega|(dsimp only;omega))) ?_;rintro O Tk v9 Tl r L N E;have hM:=E.uc hT r;clear hQ;clear hC;replace hY:=hY.ji (A:=(Tk.heap.size,Tl.heap.size)::Sl) r G L λx Z=>aD _ Z;replace hT:=hT.cV (A:=(Tk.heap.size,Tl.heap.size)::Sl) r G L λx Z=>aD _ Z;replace K:=Kept.cg N K lr;clear r L N E;generalize (Tk.heap.size,Tl.heap.size)::Sl=Ui at*
 obtain⟨m1,m2,m3,m4,m5,m6,m7,m8,rfl⟩:=hM.shape;refine cR (GT:=λ_ J v F=>cw F (Nf J F) v (P.top+P.c.getD s 0*P.b.getD u 0)) (λO J r=>wN (Lv.old r G) (hY.gh r G) (hM.gh r G) (by first|omega|(dsimp only;omega)) (by rw[Xi];omega)) ?_;rintro O UE v10 UF r L N E;have hN:=E.uc hT r;clear hY;clear hM;replace hT:=hT.cV (A:=(UE.heap.size,UF.heap.size)::Ui) r G L λx Z=>aD _ Z;replace K:=Kept.cg N K lr;clear r L N E;generalize (UE.heap.size,UF.heap.size)::Ui=Uj at*
 obtain⟨n1,n2,n3,n4,n5,n6,n7,n8,rfl⟩:=hN.shape;intro O J r;obtain⟨k1,k2,k3,k4⟩:=hT.stT G r (ad:=Addr.add ⟨x.g,0,none⟩ 5) hN.four (by rw[dD,aV]);refine⟨k1,k2,k3,λw4 QD=>?_⟩;obtain⟨SZ,QW,Ra⟩:=k4 w4 QD;replace hN:=hN.cW Ra;replace K:=(Kept.cg r.cg K lr).trans QW;clear k1 k2 k3 k4 Ra QW QD r;clear hT;have hT:=SZ;clear SZ;intro O J r;exact⟨rfl,Kept.cg r.cg K lr,(hT.cast (Tb.PQ be be P (by rw[XD,Pk,UK]))).out Qq r G⟩
def qo(o:Option Nat):Int:=match o with
 |some k=>(k:Int)
 |none=> -1
def kH(k:Nat):qo (some k)=(k:Int):=rfl
def Hi{x:Tx}{t:Tb}(TT:Old S w)(Qq:fL w S x t)(hW:t.Wf m q)(hq:q<=1000):
  eH PG Fd.lP #[.pointer (some ⟨x.g,0,none⟩)] w (eV w λv _=>v=iV (qo t.Gy)):=by
 have G:=TT;have W:=bR w;have Qj:=hW.fs;have Qa:=hW.c;obtain⟨ac,cc,YY,VF,-,hac⟩:=Qq.hdc hW;obtain⟨af,cf,WI,hcf,-,haf⟩:=Qq.hdf hW;have hT:=dI.arg Qq;refine ow ce ?_;refine⟨_,λO J r=>hT.f4 G YY r,Nat×World×Iv,λz=>⟨[(0,.o (.v (.pointer (some ⟨x.g,0,none⟩)))),(3,.o (.v (iV (qo (mR (λj=>t.c.getD j 0) (λj=>t.fs.getD j 0) z.1))))),(9,sV ac q cc),(10,.o (.v (iV (q:Int)))),(11,.o (.v (iV (z.1:Int))))],[],0,z.2.2,z.2.1⟩,λz=>q-z.1,λz=>z.1<=q/\Bq w z.2.1/\dI z.2.1 S w.heap.size z.2.2 x t,?_,?_⟩
 .intro O J r;exact⟨(0,J,_),⟨aZ _,W.tr r.cg,hT.rel r G⟩,sbgn [] r⟩
 clear hT W;rintro⟨i,w1,iv⟩ ⟨R,W,hT⟩;dsimp only at R W hT ⊢;obtain⟨o,ho⟩:∃o,o=mR (λj=>t.c.getD j 0) (λj=>t.fs.getD j 0) i:=⟨_,rfl⟩
 rw[<-ho];apply bS<;>intro Pk
 .have Pk:=dL Pk;obtain⟨gc,rfl⟩:=hac be;obtain⟨gf,rfl⟩:=haf be;obtain⟨p1,p2,p3,p4,p5,p6,p7,p8,US,hF⟩:=hT.eC G (j:=i) (by first|omega|(dsimp only;omega)) YY;refine⟨_,rfl,be,rC p1 p2 p3 p4 p5 p6 p7 p8,rfl,λO J r j x Z=>US r j x Z,?_⟩;refine dP (idO 24) ?_;refine cR (GT:=λ_ J v F=>v=iV (rs (t.c.getD i 0))) (λO J r=>ij (Lv.old r G) (hF.gh r G)) ?_;rintro O QJ v1 QH r L N rfl;clear hF;replace hT:=hT.cV (A:=(QJ.heap.size,QH.heap.size)::iv) r G L λx Z=>aD _ Z;replace W:=W.tr N;clear r L N;generalize (QJ.heap.size,QH.heap.size)::iv=Pt at*
  conv=>whnf
  split
  .rename_i hs;have hs:0<t.c.getD i 0:=il.1 (aK hs)
   cases o with
   |none=>
    conv=>whnf
    have RD:mR (λj=>t.c.getD j 0) (λj=>t.fs.getD j 0) (i+1)=some i:=by rw[mR,<-ho];(try dsimp only);rw[if_pos hs]
    refine inc i ?_;intro I8 w3 r3;exact⟨(i+1,w3,_),⟨Pk,W.tr r3.cg,hT.rel r3 G⟩,sbgn [] r3 (hE:=⟨rfl,by dsimp only;rw[RD];rfl,rfl,rfl,rfl,trivial⟩),dec Pk⟩
   |some k=>
    have VC:k<i:=(kA ho.symm).1;refine⟨_,λO J r=>hT.f1 G WI r,_,rfl,be,_,λO J r=>hT.cFs G (i:=i) be WI r,_,λO J r=>hT.f1 G WI r,_,rfl,⟨by rw[kH];omega,by rw[kH];omega⟩,_,λO J r=>hT.cFs G (i:=k) be WI r,?_⟩;apply bS<;>intro QU
    .have QU:t.fs.getD i 0<t.fs.getD k 0:=by simpa using QU
     have RD:mR (λj=>t.c.getD j 0) (λj=>t.fs.getD j 0) (i+1)=some i:=by rw[mR,<-ho];(try dsimp only);rw[if_pos ⟨hs,QU⟩]
     refine inc i ?_;intro I8 w3 r3;exact⟨(i+1,w3,_),⟨Pk,W.tr r3.cg,hT.rel r3 G⟩,sbgn [] r3 (hE:=⟨rfl,by dsimp only;rw[RD];rfl,rfl,rfl,rfl,trivial⟩),dec Pk⟩
    have QU:¬t.fs.getD i 0<t.fs.getD k 0:=by simpa using QU
    have RD:mR (λj=>t.c.getD j 0) (λj=>t.fs.getD j 0) (i+1)=some k:=by rw[mR,<-ho];(try dsimp only);rw[if_neg λh=>QU h.2]
    refine inc i ?_;intro I8 w3 r3;exact⟨(i+1,w3,_),⟨Pk,W.tr r3.cg,hT.rel r3 G⟩,sbgn [] r3 (hE:=⟨rfl,by dsimp only;rw[RD];rfl,rfl,rfl,rfl,trivial⟩),dec Pk⟩
  rename_i hs;have hs:¬0<t.c.getD i 0:=λh=>absurd (il.2 h) (aL hs);have RD:mR (λj=>t.c.getD j 0) (λj=>t.fs.getD j 0) (i+1)=o:=by rw[mR,<-ho];(try dsimp only);cases o with
   |none=>rw[aJ hs]
   |some k=>dsimp only;rw[if_neg λh=>hs h.1]
  refine inc i ?_;intro I8 w3 r3;exact⟨(i+1,w3,_),⟨Pk,W.tr r3.cg,hT.rel r3 G⟩,sbgn [] r3 (hE:=⟨rfl,by dsimp only;rw[RD];rfl,rfl,rfl,rfl,trivial⟩),dec Pk⟩
 have Pk:=dE R Pk;intro GE we re;have L:t.Gy=o:=by rw[ho,Pk];unfold Tb.Gy;rw[Qa]
 exact⟨_,rfl,W.tr re.cg,by rw[L];rfl⟩
set_option maxRecDepth 4000
def sT{a b:Rat}:rs (a-b)=0↔a=b:=by
 constructor
 .intro h;have:=Rat.num_eq_zero.1 (bj.1 h);grind
 .intro h;rw[h,Rat.sub_self];rfl
def KR{x:Tx}{t:Tb}{s h:Nat}(TT:Old S w)(Qq:fL w S x t)(hW:t.Wf m q)(hs:s<q)(hm:m<=1000)(hq:q<=1000)(hH:t.xD h)(I:2<=h)(hh:h<=100000000):
  eH PG Fd.mH #[.pointer (some ⟨x.g,0,none⟩),iV s] w (eV w λv _=>v=iV (qo (t.HZ s))):=by
 have G:=TT;have W:=bR w;have UK:=hW.al;have Pu:=hW.b;have UA:=hW.bs;obtain⟨aa,ca,TZ,Qc,-,Zo⟩:=Qq.hda hW;obtain⟨aB,cB,VJ,hcB,-,Zp⟩:=Qq.hdB hW;obtain⟨ab,cb,Vn,Qz,-,TR⟩:=Qq.hdb hW;have hT:=dI.arg Qq;have hR:∀i,i<m->∃a c,x.rv[i]? =some (.slice a q c)/\q<=c/\c<=maxLen/\(0<q->∃g,a=some ⟨g,0,none⟩):=λi R=>Qq.hdr hW R;refine qD ce ?_;refine⟨_,λO J r=>hT.f2 G TZ r,Nat×((Bool×Bool)×(Option Addr×Option Addr)×(Nat×Nat×Nat×Nat))×World×Iv,λz=>⟨[(0,.o (.v (.pointer (some ⟨x.g,0,none⟩)))),(1,.o (.v (iV (s:Int)))),(5,.o (.v (iV (qo (kL (λi=>dR t.a i s) (λi=>t.b.getD i 0) (λi=>t.bs.getD i 0) z.1))))),(6,pP 0 0),(13,sV aa m ca),(14,.o (.v (iV (m:Int)))),(15,.o (.v (iV (z.1:Int))))],[(0,.box T.dN [.v (.bool z.2.1.1.1),.v (.slice z.2.1.2.1.1 z.2.1.2.2.1 z.2.1.2.2.2.1),.v (.bool z.2.1.1.2),.v (.slice z.2.1.2.1.2 z.2.1.2.2.2.2.1 z.2.1.2.2.2.2.2)])],1,z.2.2.2,z.2.2.1⟩,λz=>m-z.1,λz=>z.1<=m/\Bq w z.2.2.1/\dI z.2.2.1 S w.heap.size z.2.2.2 x t/\∀k,(kL (λi=>dR t.a i s) (λi=>t.b.getD i 0) (λi=>t.bs.getD i 0) z.1)=some k->cw z.2.2.1 (Lv S w.heap.size z.2.2.2 x) (.agg #[.bool z.2.1.1.1,.slice z.2.1.2.1.1 z.2.1.2.2.1 z.2.1.2.2.2.1,.bool z.2.1.1.2,.slice z.2.1.2.1.2 z.2.1.2.2.2.2.1 z.2.1.2.2.2.2.2]) (t.b.getD k 0 / dR t.a k s),?_,?_⟩
 .intro O J r;exact⟨(0,((false,false),(none,none),(0,0,0,0)),J,_),⟨aZ _,W.tr r.cg,hT.rel r G,λk K=>by cases K⟩,sbgn [] r⟩
 clear hT W;rintro⟨i,⟨⟨y1,y5⟩,⟨y2,y6⟩,⟨y3,y4,y7,y8⟩⟩,w1,iv⟩ ⟨R,W,hT,hL⟩;dsimp only at R W hT hL ⊢;obtain⟨o,ho⟩:∃o,o=(kL (λi=>dR t.a i s) (λi=>t.b.getD i 0) (λi=>t.bs.getD i 0) i):=⟨_,rfl⟩
 rw[<-ho]at hL ⊢;apply bS<;>intro Pk
 .have Pk:=dL Pk;obtain⟨ga,rfl⟩:=Zo be;obtain⟨gB,rfl⟩:=Zp be;obtain⟨gb,rfl⟩:=TR be;obtain⟨ai,ci,TD,-,-,Zn⟩:=hR i Pk;obtain⟨gi,rfl⟩:=Zn be;have QI:=hW.row Pk;refine⟨_,rfl,be,_,λO J r=>hT.cA G TD TZ r,?_⟩;obtain⟨p1,p2,p3,p4,p5,p6,p7,p8,US,hF⟩:=hT.eA G (i:=i) (j:=s) be be TD;refine⟨_,rfl,be,rC p1 p2 p3 p4 p5 p6 p7 p8,rfl,λO J r j x Z=>US r j x Z,?_⟩;refine cS (cR (GT:=λ_ J v F=>v=iV (rs (dR t.a i s))) (λO J r=>ij (Lv.old r G) (hF.gh r G)) ?_);rintro O QJ v1 QH r L N rfl;replace hF:=hF.ji (A:=(QJ.heap.size,QH.heap.size)::iv) r G L λx Z=>aD _ Z;replace hL:=λk K=>(hL k K).ji (A:=(QJ.heap.size,QH.heap.size)::iv) r G L λx Z=>aD _ Z;replace hT:=hT.cV (A:=(QJ.heap.size,QH.heap.size)::iv) r G L λx Z=>aD _ Z;replace W:=W.tr N;clear r L N;generalize (QJ.heap.size,QH.heap.size)::iv=Pt at*
  apply bS<;>intro hle
  .have hle:dR t.a i s<=0:=Rat.not_lt.1 λh=>absurd (il.2 h) (Int.not_lt.2 (aK hle));have RD:(kL (λi=>dR t.a i s) (λi=>t.b.getD i 0) (λi=>t.bs.getD i 0) (i+1))=o:=by rw[kL,<-ho];rw[aM hle]
   refine inc i ?_;intro I8 w3 r3;refine⟨(i+1,((y1,y5),(y2,y6),(y3,y4,y7,y8)),w3,_),⟨Pk,W.tr r3.cg,hT.rel r3 G,λk K=>?_⟩,sbgn [] r3 (hE:=⟨rfl,rfl,by dsimp only;rw[RD];rfl,rfl,rfl,rfl,rfl,trivial⟩),by dsimp only;omega⟩;rw[RD]at K;exact(hL k K).gh r3 G
  have QV:0<dR t.a i s:=il.1 (Int.not_le.1 (aL hle));have hle:¬dR t.a i s<=0:=Rat.not_le.2 QV;have Po:dR t.a i s≠0:=Rat.ne_of_gt QV;have Ta:=hH.dR I i s;have Qn:=hH.PR I i;refine dP [.x 0,.x 1,.x 2,.x 3,.x 4,.x 5,.x 6,.x 7,.x 8,.x 9,.x 10,.p 12,.x 11,.x 12,.x 13] ?_;obtain⟨b1,b2,b3,b4,b5,b6,b7,b8,hEb,hB⟩:=hT.eB G (j:=i) be VJ;refine⟨_,λO J r=>hT.f3 G VJ r,_,rfl,be,rC b1 b2 b3 b4 b5 b6 b7 b8,rfl,λO J r j x Z=>hEb r j x Z,_,rfl,be,?_⟩;obtain⟨c1,c2,c3,c4,c5,c6,c7,c8,hEc,hC⟩:=hT.eA G (i:=i) (j:=s) be be TD;refine⟨rC c1 c2 c3 c4 c5 c6 c7 c8,rfl,λO J r j x Z=>hEc r j x Z,?_⟩;refine cR (GT:=λ_ J v F=>cw F (Nf J F) v (t.b.getD i 0 / dR t.a i s)) (λO J r=>JG (Lv.old r G) (hB.gh r G) (hC.gh r G) be be Po) ?_;rintro O Qk v2 QP r L N E;have hN:=E.uc hT r;replace hL:=λk K=>(hL k K).ji (A:=(Qk.heap.size,QP.heap.size)::Pt) r G L λx Z=>aD _ Z;replace hT:=hT.cV (A:=(Qk.heap.size,QP.heap.size)::Pt) r G L λx Z=>aD _ Z;replace W:=W.tr N;clear r L N E;generalize (Qk.heap.size,QP.heap.size)::Pt=iv2 at*
  obtain⟨n1,n2,n3,n4,n5,n6,n7,n8,rfl⟩:=hN.shape;have RG:=HY (t.b.getD i 0) Po;refine dP (idO 31) ?_
  cases o with
  |none=>
   refine dP (idO 4) ?_;have RD:(kL (λi=>dR t.a i s) (λi=>t.b.getD i 0) (λi=>t.bs.getD i 0) (i+1))=some i:=by rw[kL,<-ho];rw[aJ hle]
   refine inc i ?_;intro I8 w3 r3;refine⟨(i+1,((n1,n5),(n2,n6),(n3,n4,n7,n8)),w3,_),⟨Pk,W.tr r3.cg,hT.rel r3 G,λk K=>?_⟩,sbgn [] r3 (hE:=⟨rfl,rfl,by dsimp only;rw[RD];rfl,rfl,rfl,rfl,rfl,trivial⟩),by dsimp only;omega⟩;rw[RD]at K;injection K with K;rw[<-K];exact hN.gh r3 G
  |some k=>
   have VC:=ob ho.symm;have Uf:dR t.a k s≠0:=Rat.ne_of_gt VC.2.1;have Ra:=HY (t.b.getD k 0) Uf;have XE:=hH.dR I k s;have hl6:=hH.PR I k;have hkm:=VC.1;have hK:=hL k rfl;refine cR (GT:=λ_ J v F=>v=iV (rs (t.b.getD i 0 / dR t.a i s-t.b.getD k 0 / dR t.a k s))) (λO J r=>ud (Lv.old r G) (hN.gh r G) (hK.gh r G) be be) ?_;clear hK;rintro O Qh v3 Q7 r L N rfl;replace hN:=hN.ji (A:=(Qh.heap.size,Q7.heap.size)::iv2) r G L λx Z=>aD _ Z;replace hL:=λk K=>(hL k K).ji (A:=(Qh.heap.size,Q7.heap.size)::iv2) r G L λx Z=>aD _ Z;replace hT:=hT.cV (A:=(Qh.heap.size,Q7.heap.size)::iv2) r G L λx Z=>aD _ Z;replace W:=W.tr N;clear r L N;generalize (Qh.heap.size,Q7.heap.size)::iv2=Ps at*
   conv=>whnf
   split
   .rename_i hc;have hc:t.b.getD i 0 / dR t.a i s<t.b.getD k 0 / dR t.a k s:=iF.1 (aK hc);refine dP (idO 4) ?_;have RD:(kL (λi=>dR t.a i s) (λi=>t.b.getD i 0) (λi=>t.bs.getD i 0) (i+1))=some i:=by rw[kL,<-ho];rw[aJ hle];dsimp only;rw[if_pos (.inl hc)]
    refine inc i ?_;intro I8 w3 r3;refine⟨(i+1,((n1,n5),(n2,n6),(n3,n4,n7,n8)),w3,_),⟨Pk,W.tr r3.cg,hT.rel r3 G,λk K=>?_⟩,sbgn [] r3 (hE:=⟨rfl,rfl,by dsimp only;rw[RD];rfl,rfl,rfl,rfl,rfl,trivial⟩),by dsimp only;omega⟩;rw[RD]at K;injection K with K;rw[<-K];exact hN.gh r3 G
   rename_i hc;have hc:¬t.b.getD i 0 / dR t.a i s<t.b.getD k 0 / dR t.a k s:=λh=>absurd (iF.2 h) (aL hc);have hK:=hL k rfl;refine cR (GT:=λ_ J v F=>v=iV (rs (t.b.getD i 0 / dR t.a i s-t.b.getD k 0 / dR t.a k s))) (λO J r=>ud (Lv.old r G) (hN.gh r G) (hK.gh r G) be be) ?_;clear hK;rintro O Rg v4 RT r L N rfl;replace hN:=hN.ji (A:=(Rg.heap.size,RT.heap.size)::Ps) r G L λx Z=>aD _ Z;replace hL:=λk K=>(hL k K).ji (A:=(Rg.heap.size,RT.heap.size)::Ps) r G L λx Z=>aD _ Z;replace hT:=hT.cV (A:=(Rg.heap.size,RT.heap.size)::Ps) r G L λx Z=>aD _ Z;replace W:=W.tr N;clear r L N;generalize (Rg.heap.size,RT.heap.size)::Ps=QA at*
   conv=>whnf
   split
   .rename_i L;have L:t.b.getD i 0 / dR t.a i s=t.b.getD k 0 / dR t.a k s:=sT.1 (eq_of_beq L);refine⟨_,λO J r=>hT.f0 G Vn r,_,rfl,be,_,λO J r=>hT.Pe G (i:=i) be Vn r,_,λO J r=>hT.f0 G Vn r,_,rfl,⟨by rw[kH];omega,by rw[kH];omega⟩,_,λO J r=>hT.Pe G (i:=k) be Vn r,?_⟩;apply bS<;>intro QU
    .have QU:t.bs.getD i 0<t.bs.getD k 0:=by simpa using QU
     refine dP (idO 4) ?_;have RD:(kL (λi=>dR t.a i s) (λi=>t.b.getD i 0) (λi=>t.bs.getD i 0) (i+1))=some i:=by rw[kL,<-ho];rw[aJ hle];dsimp only;rw[if_pos (.inr ⟨L,QU⟩)]
     refine inc i ?_;intro I8 w3 r3;refine⟨(i+1,((n1,n5),(n2,n6),(n3,n4,n7,n8)),w3,_),⟨Pk,W.tr r3.cg,hT.rel r3 G,λk K=>?_⟩,sbgn [] r3 (hE:=⟨rfl,rfl,by dsimp only;rw[RD];rfl,rfl,rfl,rfl,rfl,trivial⟩),by dsimp only;omega⟩;rw[RD]at K;injection K with K;rw[<-K];exact hN.gh r3 G
    have QU:¬t.bs.getD i 0<t.bs.getD k 0:=by simpa using QU
    have RD:(kL (λi=>dR t.a i s) (λi=>t.b.getD i 0) (λi=>t.bs.getD i 0) (i+1))=some k:=by rw[kL,<-ho];rw[aJ hle];dsimp only;rw[if_neg λh=>h.elim hc λh=>QU h.2]
    refine inc i ?_;intro I8 w3 r3;refine⟨(i+1,((y1,y5),(y2,y6),(y3,y4,y7,y8)),w3,_),⟨Pk,W.tr r3.cg,hT.rel r3 G,λk K=>?_⟩,sbgn [] r3 (hE:=⟨rfl,rfl,by dsimp only;rw[RD];rfl,rfl,rfl,rfl,rfl,trivial⟩),by dsimp only;omega⟩;rw[RD]at K;exact(hL k K).gh r3 G
   rename_i L;have L:¬t.b.getD i 0 / dR t.a i s=t.b.getD k 0 / dR t.a k s:=λh=>by rw[sT.2 h]at L;exact absurd L bv
   have RD:(kL (λi=>dR t.a i s) (λi=>t.b.getD i 0) (λi=>t.bs.getD i 0) (i+1))=some k:=by rw[kL,<-ho];rw[aJ hle];dsimp only;rw[if_neg λh=>h.elim hc λh=>L h.1]
   refine inc i ?_;intro I8 w3 r3;refine⟨(i+1,((y1,y5),(y2,y6),(y3,y4,y7,y8)),w3,_),⟨Pk,W.tr r3.cg,hT.rel r3 G,λk K=>?_⟩,sbgn [] r3 (hE:=⟨rfl,rfl,by dsimp only;rw[RD];rfl,rfl,rfl,rfl,rfl,trivial⟩),by dsimp only;omega⟩;rw[RD]at K;exact(hL k K).gh r3 G
 have Pk:=dE R Pk;intro GE we re;have L:t.HZ s=o:=by rw[ho,Pk];unfold Tb.HZ;rw[UK]
 exact⟨_,rfl,W.tr re.cg,by rw[L];rfl⟩
end Go.Ex
namespace Go.Ex
variable{FS:Nat}{j:Option Nat}
section
variable{t:Tb}{D D0:Dc}{r s k B:Nat}{E9:Mx}
def rT{α:Type}{l:List α}{x d:α}(h:x∈l):∃i,i<l.length/\l.getD i d=x:=by
 obtain⟨i,R⟩:=aj h;exact⟨i,(aH.1 R).1,by rw[List.getD,R];rfl⟩
def Rp.HA(h:Rp t D)(H:(∀i j,i<D.m->j<D.q->Ex.rl (D.a i j)<=FS)/\(∀i,i<D.m->Ex.rl (D.b i)<=FS)/\(∀j,j<D.q->Ex.rl (D.c j)<=FS)/\Ex.rl D.top<=FS):t.xD (FS+1):=by
 obtain⟨Y,I,h3,h4⟩:=H;refine⟨λx Z q hq=>?_,λq hq=>?_,λq hq=>?_,by rw[h.et];omega⟩
 .obtain⟨i,R,rfl⟩:=rT (d:=[]) Z;obtain⟨j,hj,rfl⟩:=rT (d:=0) hq;rw[h.al]at R;rw[h.Lr R]at hj;have:=Y i j R hj;rw[show (t.a.getD i []).getD j 0=D.a i j from h.ea i j R hj];omega
 .obtain⟨i,R,rfl⟩:=rT (d:=0) hq;rw[h.bl]at R;have:=I i R;rw[h.eb i R];omega
 .obtain⟨i,R,rfl⟩:=rT (d:=0) hq;rw[h.cl]at R;have:=h3 i R;rw[h.ec i R];omega
structure Hb(D0:Dc)(B:Nat)(E9:Mx)(k:Nat)(D:Dc)(t:Tb):Prop where
 run:∃Ds r s,yW Ds r s k/\Ds 0=D0/\Ds k=D
 rp:Rp t D
 sz:D.Sz B E9
def Hb.start(K:D0.Ok)(hf:D0.uO)(hr:Rp t D0)(hz:D0.Sz B E9):Hb D0 B E9 0 D0 t:=⟨⟨λ_=>D0,λ_=>0,λ_=>0,⟨K,hf,λt ht=>be⟩,rfl,rfl⟩,hr,hz⟩
def Hb.facts(h:Hb D0 B E9 k D t):D.Ok/\D.uO/\D.m=D0.m/\D.q=D0.q/\(∀x z,D.xp x z↔D0.xp x z)/\k<2^(D0.m+D0.q):=by
 obtain⟨⟨Ds,r,s,Y,rfl,rfl⟩,I,h3⟩:=h;obtain⟨k1,k2,k3,k4,k5⟩:=Y.at_ k (ae k);exact⟨k1,k2,k3,k4,k5,Y.short⟩
def Hb.wf(h:Hb D0 B E9 k D t):t.Wf D0.m D0.q:=by
 have:=h.facts;have I:=h.rp.wf;rw[this.2.2.1,this.2.2.2.1]at I;exact I
def Hb.HA(h:Hb D0 B E9 k D t)(hK:ln (fB B (D0.m+1))<=FS):t.xD (FS+1):=by
 have:=h.facts;exact h.rp.HA (h.sz.all this.1 (by rw[this.2.2.1];exact hK))
def Hb.step(h:Hb D0 B E9 k D t)(hs:t.Gy=some s)(hr:t.HZ s=some r):r<D0.m/\s<D0.q/\dR t.a r s≠0/\Hb D0 B E9 (k+1) (D.gP r s) (t.gP r s):=by
 have hf:=h.facts;have hrp:=h.rp;rw[hrp.Gy]at hs;have hsq:=(kA hs).1;rw[hrp.HZ hsq]at hr;have RC:=Dc.Ih hs hr;have ha:dR t.a r s=D.a r s:=hrp.ea r s RC.hr RC.hs;have Po:D.a r s≠0:=Rat.ne_of_gt RC.ars;refine⟨by rw[<-hf.2.2.1];exact RC.hr,by rw[<-hf.2.2.2.1];exact RC.hs,by rw[ha];exact Po,?_,hrp.gP RC.hr RC.hs,h.sz.gP hf.1 RC.hr RC.hs Po⟩;obtain⟨⟨Ds,r1,s1,Y,I,h3⟩,-,-⟩:=h;subst h3;obtain⟨D',r2,s2,k1,k2,k3⟩:=Y.more RC;exact⟨D',r2,s2,k1,k2.trans I,k3⟩
def KJ(t:Tb)(j:Option Nat):Prop:=t.Gy=j/\∀s,j=some s->t.HZ s=none
def KJ.end_(h:Rp t D)(hd:KJ t j):match j with
  |none=>∀j,j<D.q->¬0<D.c j
  |some s=>s<D.q/\0<D.c s/\∀i,i<D.m->D.a i s<=0:=by
 have Y:=hd.1;rw[h.Gy]at Y
 cases j with
 |none=>exact sn Y
 |some s=>
  obtain⟨k1,k2,-⟩:=kA Y;have I:=hd.2 s rfl;rw[h.HZ k1]at I;exact⟨k1,k2,so I⟩
end
end Go.Ex
namespace Go.Ex
open Go Go.Sx Go.Proofs
variable{S:Nat->Prop}
def JM{w:World}{x:Tx}{t:Tb}{D0:Dc}{B FS:Nat}{E9:Mx}(TT:Old S w)(Qq:fL w S x t)(Sp:D0.Ok)(hf0:D0.uO)(UB:Rp t D0)(hz0:D0.Sz B E9)(hm:D0.m<=1000)(hq:D0.q<=1000)(hK:ln (fB B (D0.m+1))<=FS)(Y:1<=FS)(hh:FS<=90000000):
  eH PG Fd.nY #[.pointer (some ⟨x.g,0,none⟩)] w (λe F=>∃t' D k j,e= .returned (iV (qo j))/\Kept w F (Bv x.cz)/\fL F (Nw S w F) x t'/\Hb D0 B E9 k D t'/\KJ t' j):=by
 have G:=TT;have K:Kept w w (Bv x.cz):=Kept.refl;have hT:=dI.arg Qq;refine sB ce ?_;refine⟨Nat×(Tb×Dc)×World×Iv,λz=>⟨[(0,.o (.v (.pointer (some ⟨x.g,0,none⟩))))],[],0,z.2.2.2,z.2.2.1⟩,λz=>2^(D0.m+D0.q)-z.1,λz=>Kept w z.2.2.1 (Bv x.cz)/\dI z.2.2.1 S w.heap.size z.2.2.2 x z.2.1.1/\Hb D0 B E9 z.1 z.2.1.2 z.2.1.1,?_,?_⟩
 .intro O J r;exact⟨(0,(t,D0),J,_),⟨Kept.cg r.cg K lr,hT.rel r G,Hb.start Sp hf0 UB hz0⟩,sbgn [] r⟩
 clear hT K;rintro⟨k,⟨t1,D⟩,w1,iv⟩ ⟨K,hT,hC⟩;dsimp only at K hT hC ⊢;have hW:=hC.wf;have hH:=hC.HA hK;refine cS (cR (GT:=λ_ J v F=>v=iV (qo t1.Gy)) (λO J r=>Hi (Lv.old r G) (hT.rel r G).iw hW be) ?_);rintro O QJ v1 QH r L N rfl;replace hT:=hT.cV (A:=(QJ.heap.size,QH.heap.size)::iv) r G L λx Z=>aD _ Z;replace K:=Kept.cg N K lr;clear r L N;generalize (QJ.heap.size,QH.heap.size)::iv=Pt at*
 obtain⟨o,ho⟩:=exq t1.Gy;rw[ho]
 cases o with
 |none=>
  conv=>whnf
  intro GE we re;exact⟨t1,D,k,none,rfl,Kept.cg re.cg K lr,hT.out Qq re G,hC,ho,λs hs=>by cases hs⟩
 |some s=>
  have hsq:s<D0.q:=by
   have I:=ho;rw[hC.rp.Gy]at I;rw[<-hC.facts.2.2.2.1];exact(kA I).1
  refine cS (cR (GT:=λ_ J v F=>v=iV (qo (t1.HZ s))) (λO J r=>KR (Lv.old r G) (hT.rel r G).iw hW hsq be be hH be be) ?_);rintro O Qk v2 QP r L N rfl;replace hT:=hT.cV (A:=(Qk.heap.size,QP.heap.size)::Pt) r G L λx Z=>aD _ Z;replace K:=Kept.cg N K lr;clear r L N;generalize (Qk.heap.size,QP.heap.size)::Pt=iv2 at*
  obtain⟨u,hu⟩:=exq (t1.HZ s);rw[hu]
  cases u with
  |none=>
   conv=>whnf
   intro GE we re;exact⟨t1,D,k,some s,rfl,Kept.cg re.cg K lr,hT.out Qq re G,hC,ho,λs' hs=>by injection hs with hs;rw[<-hs];exact hu⟩
  |some u=>
   obtain⟨hum,-,Po,YW⟩:=hC.step ho hu;refine⟨λO J r=>?_⟩;refine(ER (Lv.old r G) (hT.rel r G).iw hW hum hsq Po be be hH be be).mono λe w8 L=>?_;obtain⟨rfl,Qu,Ql⟩:=L;refine⟨.tuple #[],_,(J.heap.size,w8.heap.size)::iv2,rfl,r.fz (hT.not r) Qu,?_⟩;replace Ql:=hT.ef r Ql;replace K:=(Kept.cg r.cg K lr).trans Qu;clear hT Qu;have hT:=Ql;clear Ql r;generalize (J.heap.size,w8.heap.size)::iv2=Ps at*
   have QU:=YW.facts.2.2.2.2.2;intro I8 w3 r3;exact⟨(k+1,(t1.gP u s,D.gP u s),w3,_),⟨Kept.cg r3.cg K lr,hT.rel r3 G,YW⟩,sbgn [] r3,by dsimp only;omega⟩
end Go.Ex
