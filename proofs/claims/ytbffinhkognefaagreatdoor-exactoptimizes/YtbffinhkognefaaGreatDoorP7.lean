/- Texts X40 to X45: lemmas, each with its conditions. -/
import Derived.Test.YtbffinhkognefaaGreatDoorP6
set_option linter.defProp false
namespace Go.Ex
open Go Go.Sx Go.Proofs
variable{Fn:List (List Rat)}{pv:List Nat}{qs:List Rat}{cols:Nat}{C S:Nat->Prop}{q:Rat}{v:Value}{w:World}
section
variable{S S':Nat->Prop}{H:Hp}{nx n:Nat}{iv A:Iv}{B:Nat}{w J F:World}{O:Nat->Sx.eD}{v:Value}{qs:List Rat}
def eh.store{a a1 a2:Option Addr}{c j n1 c1 n2 c2:Nat}{b b2:Bool}(h:eh J S B iv (.slice a n c) n qs)(hj:j<n)(hf:cw J (λg=>Cv S B iv g/\(Value.slice a n c).ownBlock≠some g) (.agg #[.bool b,.slice a1 n1 c1,.bool b2,.slice a2 n2 c2]) q)
  (r:Rel H nx iv B w O J) (G:∀g,S g->g<B):
  ∃g,a=some ⟨g,0,none⟩/\((⟨g,0,none⟩:Addr).add ((j:Int).toNat*4)).spot=none/\
   (∀k,k<4->(J.cell? (((⟨g,0,none⟩:Addr).add ((j:Int).toNat*4)).add k)).isSome=true/\J.frozen? (((⟨g,0,none⟩:Addr).add ((j:Int).toNat*4)).add k)=false)/\
   (∀id b,dT H id=some b->(O id).nil=false->(O id).g≠((⟨g,0,none⟩:Addr).add ((j:Int).toNat*4)).block)/\Cv FF B iv g/\
   ∀F,F=setCells J ((⟨g,0,none⟩:Addr).add ((j:Int).toNat*4)) (rC b a1 n1 c1 b2 a2 n2 c2)->eh F S B iv (.slice a n c) n (qs.set j q)/\J.grownBy F (some g)/\F.heap.size=J.heap.size:=by
 obtain⟨g,rfl,Y,I,h3,h4⟩:=h.row.store hj hf (λg V Z=>Z.2 V) (λx Z=>rlo r G x Z.1);refine⟨g,rfl,Y,h3,λid b N E=>by rw[I];exact Rel.not r G (qL (h.new g rfl)) id b N E,h.new g rfl,λF RK=>?_⟩;obtain⟨k1,k2,k3⟩:=h4 F RK;exact⟨⟨k1,h.new⟩,k2,k3⟩
def cw.apart{u:Value}(h:cw F (Nw S J F) u q)(Z:∀g,v.ownBlock=some g->g<J.heap.size/\¬S g)(hB:B<=J.heap.size)(G:∀g,S g->S' g):cw F (λg=>Cv S' B ((J.heap.size,F.heap.size)::iv) g/\v.ownBlock≠some g) u q:=
 h.cU λg V=>by
  rcases V with V|V
  .exact⟨.inl (G g V),λe=>(Z g e).2 V⟩
  .exact⟨.inr ⟨be,_,_,aF,V.1,V.2⟩,λe=>by have:=(Z g e).1;omega⟩
end
def jq(Fn:List (List Rat))(pv:List Nat)(cols c i:Nat):List Rat:=(List.range i).foldl (λx i=>x.set (pv.getD i 0) (-(dR Fn i c))) ((List.replicate cols 0).set c 1)
def du(Fn:List (List Rat))(pv:List Nat)(cols c:Nat):List (List Rat):=((List.range c).filter λc=>decide (c∉pv)).map λc=>jq Fn pv cols c pv.length
def lK(Fn:List (List Rat))(pv:List Nat)(cols c i:Nat):jq Fn pv cols c (i+1)=(jq Fn pv cols c i).set (pv.getD i 0) (-(dR Fn i c)):=by
 rw[jq,bu,List.foldl_append];rfl
def tW(Fn:List (List Rat))(pv:List Nat)(cols c i:Nat):(jq Fn pv cols c i).length=cols:=by
 induction i with
 |zero=>simp[jq]
 |succ i ih=>rw[lK,bQ,ih]
def yO{c:Nat}(h:c∈pv):du Fn pv cols (c+1)=du Fn pv cols c:=by
 rw[du,bu,List.filter_append];simp[h,du]
def wT{c:Nat}(h:c∉pv):du Fn pv cols (c+1)=du Fn pv cols c++[jq Fn pv cols c pv.length]:=by
 rw[du,bu,List.filter_append];simp[h,du]
def dG.rowOf(h:dx w S S v qs):∃a c,v= .slice a qs.length c:=by
 obtain⟨a,c,h,_⟩:=h.shape;exact⟨a,c,h⟩
def Mo{vm vp:Value}{n:Nat}(G:Old S w)(hA:fM w S vm Fn)(hp:dw w S vp pv)(Pm:∀r∈Fn,r.length=n)(WL:cols<=n)(E:n<=1000000)(hR:Fn.length<=1000000)(QL:pv.length<=Fn.length)(Th:∀p∈pv,p<cols):
  eH PG Fd.wA #[vm,vp,iV cols] w (eV w λv F=>fM F (Nw S w F) v (du Fn pv cols cols)):=by
 obtain⟨am,cm,rfl,Rw,-⟩:=dG.shape hA;have hps:=hp;obtain⟨-,-,-,ap,cp,rfl,hcp,-⟩:=hps;refine ym ce ?_
 refine⟨Nat×List Value×Iv×World,λz=>⟨[(0,sV am Fn.length cm),(1,sV ap pv.length cp),(2,iZ cols),(7,.o (.w 0 z.2.1.length)),(12,iZ cols),(13,iZ z.1)],[(0,.vec T.row 1 z.2.1)],1,z.2.2.1,z.2.2.2⟩,λz=>cols-z.1,
  λz=>z.1<=cols/\Bq w z.2.2.2/\z.2.1.length=(du Fn pv cols z.1).length/\z.2.1.length<=z.1/\(∀(i:Nat) u qs,z.2.1[i]? =some u->(du Fn pv cols z.1)[i]? =some qs->dx z.2.2.2 (Cv S w.heap.size z.2.2.1) (Cv S w.heap.size z.2.2.1) u qs),?_,?_⟩
 .intro O J r
  exact⟨(0,[],[],J),⟨ce,r.cg,by simp[du],ce,ce⟩,Sub.nil 7 T.row 1 rfl (by simp[kN,SV.sc,At.sc,ff]) r λI9 r1=>
   sbgn [] r1⟩
 rintro⟨c,rv,iv,w1⟩ ⟨hc,W,QI,hrc,hK⟩;dsimp only at hc W QI hrc hK ⊢;have hAw:∀{F},Bq w F->fM F S (.slice am Fn.length cm) Fn:=λN=>fM.cW hA λg V=>N.block g (G g V);have Ze:∀{F},Bq w F->dw F S (.slice ap pv.length cp) pv:=λN=>dw.cW hp λg V=>N.block g (G g V);apply bS<;>intro h
 .have h:=dL h;refine cS (cR (GT:=λ_ _ v _=>v= .bool (decide (c∈pv))) (λO J r=>IC (oS G r) (Ze (W.tr r.cg)) be) ?_);rintro O wa v1 wb r L N rfl;replace W:=W.tr N;replace hK:∀(i:Nat) u qs,rv[i]? =some u->(du Fn pv cols c)[i]? =some qs->dx wb (Cv S w.heap.size ((wa.heap.size,wb.heap.size)::iv)) (Cv S w.heap.size ((wa.heap.size,wb.heap.size)::iv)) u qs:=
   λi u qs Y I=>(hK i u qs Y I).cV r G G L λx Z=>aD _ Z
  clear r L N;generalize (wa.heap.size,wb.heap.size)::iv=iv2 at*
  apply bS<;>intro hm
  .have hm:c∈pv:=aK hm;refine inc c ?_;intro I8 w3 r3
   refine⟨(c+1,rv,iv2,w3),⟨h,W.tr r3.cg,by dsimp only;rw[yO hm];exact QI,by dsimp only;omega,λi u qs Y I=>?_⟩,
    sbgn [] r3,by dsimp only;omega⟩
   rw[yO hm]at I;exact(hK i u qs Y I).rel r3 G G
  .have hm:c∉pv:=aL hm;refine cS (cR (GT:=λ_ J v F=>eh F FF J.heap.size [(J.heap.size,F.heap.size)] v cols (List.replicate cols 0)) (λO J r=>j4 cols J be) ?_);rintro O wa v1 wb' r L N Z;have hX:=Z.ef (S:=S) (iv:=(wa.heap.size,wb'.heap.size)::iv2) r.cY aF;have SM:∀g,v1.ownBlock=some g->wa.heap.size<=g:=λg V=>by
    rcases Z.new g V with h|⟨h,_⟩
    .exact h.elim
    .exact h
   have TO:∀g,v1.ownBlock=some g->¬Cv S w.heap.size iv2 g:=λg V h=>by
    have:=rlo r G g h;have:=SM g V;omega
   replace W:=W.tr N;replace hK:∀(i:Nat) u qs,rv[i]? =some u->(du Fn pv cols c)[i]? =some qs->dx wb' (Cv S w.heap.size iv2) (Cv S w.heap.size iv2) u qs:=
    λi u qs Y I=>((hK i u qs Y I).rel r G G).cW λg V=>L.block g (V.elim (rlo r G g) (rlo r G g))
   have Pn:∀p,p∈iv2->p∈(wa.heap.size,wb'.heap.size)::iv2:=λp hp=>aD _ hp;have Yf:∀g,v1.ownBlock=some g->w.heap.size<=g:=λg V=>by have:=SM g V;have:=r.cY;omega
   clear r L N Z SM;generalize (wa.heap.size,wb'.heap.size)::iv2=Ps at*
   obtain⟨ax,cx,rfl,-⟩:=hX.row.form;refine cS (cR (GT:=λ_ J v F=>cw F (Nf J F) v ((1:Int):Rat)) (λO J r=>iI 1 J bv bv) ?_);rintro O wa v1 wb r L N hO;have Qb:cw wb (λg=>Cv S w.heap.size ((wa.heap.size,wb.heap.size)::Ps) g/\(Value.slice ax cols cx).ownBlock≠some g) v1 ((1:Int):Rat):=
    hO.apart (λg V=>⟨rlo r G g (qL (hX.new g V)),λh=>h⟩) r.cY λg V=>V.elim
   replace hX:=hX.cV (A:=(wa.heap.size,wb.heap.size)::Ps) r G L λx Z=>aD _ Z;replace hK:∀(i:Nat) u qs,rv[i]? =some u->(du Fn pv cols c)[i]? =some qs->dx wb (Cv S w.heap.size iv2) (Cv S w.heap.size iv2) u qs:=
    λi u qs Y I=>(hK i u qs Y I).cW λg V=>by
     have V:Cv S w.heap.size Ps g:=(V.elim id id).mono Pn;rw[L.block g (rlo r G g V),rls r G V]
   replace W:=W.tr N;replace Pn:∀p,p∈iv2->p∈(wa.heap.size,wb.heap.size)::Ps:=λp hp=>aD _ (Pn p hp);clear r L N hO;generalize (wa.heap.size,wb.heap.size)::Ps=QA at*
   obtain⟨b1,a1,n1,c1,b2,a2,n2,c2,rfl⟩:=Qb.shape;have Rx:(((1:Int):Rat))=1:=rfl;rw[Rx]at Qb;have QT:∃g,ax=some ⟨g,0,none⟩:=by
    obtain⟨U,ho,_⟩:=hX.row;rcases ho.2 with⟨_,h0⟩|⟨g,cap,cur,e,_⟩
    .omega
    .injection e with e;exact⟨g,e⟩
   obtain⟨gx,rfl⟩:=QT;refine⟨⟨gx,0,none⟩,rfl,be,?_⟩;intro O J r;obtain⟨_,QT,Y,I,h3,h4,h5⟩:=(hX.rel r G).store h (cw.cW Qb λg V=>rls r G V.1) r G;injection QT with QT;injection QT with QT;subst QT;replace W:=W.tr r.cg;replace hK:∀(i:Nat) u qs,rv[i]? =some u->(du Fn pv cols c)[i]? =some qs->dx J (Cv S w.heap.size iv2) (Cv S w.heap.size iv2) u qs:=
    λi u qs Y I=>(hK i u qs Y I).cW λg V=>rls r G ((V.elim id id).mono Pn)
   have hold:∀g,Cv S w.heap.size QA g->g<J.heap.size:=rlo r G;clear r hX Qb;refine⟨Y,I,h3,λF RK=>?_⟩;obtain⟨hX,QR,-⟩:=h5 F RK;replace W:Bq w F:=W.tr (Bel.grown QR (λg V=>by injection V with V;subst V;exact Yf gx rfl) (by have:=W.size;omega));replace hK:∀(i:Nat) u qs,rv[i]? =some u->(du Fn pv cols c)[i]? =some qs->dx F (Cv S w.heap.size iv2) (Cv S w.heap.size iv2) u qs:=
    λi u qs Y I=>(hK i u qs Y I).cW λg V=>QR.block g (hold g ((V.elim id id).mono Pn)) λe=>by
     injection e with e;subst e;exact TO _ rfl (V.elim id id)
   clear Y I h3 h4 h5 RK QR hold
   refine⟨Nat×Iv×World,λz=>⟨[(0,sV am Fn.length cm),(1,sV ap pv.length cp),(2,iZ cols),(7,.o (.w 0 rv.length)),(8,iZ c),(9,.o (.v (.slice (some ⟨gx,0,none⟩) cols cx))),(12,iZ cols),(13,iZ c),
     (25,sV ap pv.length cp),(26,iZ pv.length),(27,iZ z.1)],[(0,.vec T.row 1 rv)],1,z.2.1,z.2.2⟩,λz=>pv.length-z.1,
    λz=>z.1<=pv.length/\Bq w z.2.2/\(∀p,p∈iv2->p∈z.2.1)/\eh z.2.2 S w.heap.size z.2.1 (.slice (some ⟨gx,0,none⟩) cols cx) cols (jq Fn pv cols c z.1)/\
     ∀(i:Nat) u qs,rv[i]? =some u->(du Fn pv cols c)[i]? =some qs->dx z.2.2 (Cv S w.heap.size iv2) (Cv S w.heap.size iv2) u qs,?_,?_⟩
   .intro O J r
    exact⟨(0,QA,J),⟨ce,W.tr r.cg,Pn,hX.rel r G,λi u qs Y I=>(hK i u qs Y I).cW λg V=>rls r G ((V.elim id id).mono Pn)⟩,
     sbgn [] r⟩
   clear hX hK Pn;rintro⟨i,QE,w5⟩ ⟨R,W,Pn,hX,hK⟩;dsimp only at R W Pn hX hK ⊢;apply bS<;>intro Qo
   .have Qo:=dL Qo;obtain⟨p,S6⟩:=gO pv i;have hpd:pv.getD i 0=p:=by rw[List.getD,S6];rfl
    have VQ:=Th p (aG S6);obtain⟨ra,Sd⟩:=gO Fn i;have Tq:=Pm ra (aG Sd);have hp5:=Ze W;have hA5:=hAw W;obtain⟨_,_,_,_,_,XW,_,Sf⟩:=hp5;injection XW with Vt ZL Vu;subst Vt Vu;obtain⟨adp,rfl,kp1,kp2⟩:=Sf i (iV (p:Int)) (by rw[aS,S6];rfl);obtain⟨adm,um,rfl,SW,km1,km2⟩:=dG.load hA5 Sd;obtain⟨au,cu,hue⟩:=dG.rowOf SW;rw[Tq]at hue;subst hue;obtain⟨q,hq⟩:=gO ra c;have Qw:dR Fn i c=q:=by
     have:Fn.getD i []=ra:=by rw[List.getD,Sd];rfl
     rw[dR,this,List.getD,hq];rfl
    obtain⟨adq,cs,rfl,hF,hl⟩:=SW.load hq;obtain⟨b3,a3,n3,c3,b4,a4,n4,c4,rfl,hF⟩:=hF;have hSame:∀{O J},Rel [(0,.vec T.row 1 rv)] 1 QE w.heap.size w5 O J->∀{g},S g->J.heap[g]? =w5.heap[g]? :=λr g V=>rls (S:=S) r G (.inl V);refine⟨adp,rfl,be,iV (p:Int),λO J r=>?_,?_⟩
    .rw[aI,ah,cZ (w:=w5) (F:=J) (by rw[da];exact rls (S:=S) r G (.inl kp1))];exact kp2
    refine⟨adm,rfl,be,.slice (some adq) n cu,λO J r=>?_,?_⟩
    .rw[aI,cZ (w:=w5) (F:=J) (by rw[da];exact rls (S:=S) r G (.inl km1))];exact km2
    refine⟨adq,rfl,be,rC b3 a3 n3 c3 b4 a4 n4 c4,rfl,λO J r j u hu=>?_,?_⟩
    .obtain⟨k1,k2⟩:=hl j u hu;rw[aI,cZ (w:=w5) (F:=J) (by rw[da,da];exact rls (S:=S) r G (.inl k1))];exact k2
    refine cS (cR (GT:=λ_ J v F=>cw F (Nw S J F) v (-q)) (λO J r=>lV (oS G r) (hF.cW λg V=>rls (S:=S) r G (.inl V))) ?_);rintro O wa v1 wb r L N hO;have Qb:cw wb (λg=>Cv S w.heap.size ((wa.heap.size,wb.heap.size)::QE) g/\(Value.slice (some ⟨gx,0,none⟩) cols cx).ownBlock≠some g) v1 (-q):=
     hO.apart (λg V=>⟨rlo r G g (qL (hX.new g V)),λh=>by have:=G g h;have:=Yf g V;omega⟩) r.cY λg V=>V
    replace hX:=(hX.cV (A:=(wa.heap.size,wb.heap.size)::QE) r G L λx Z=>aD _ Z)
    replace hK:∀(i:Nat) u qs,rv[i]? =some u->(du Fn pv cols c)[i]? =some qs->dx wb (Cv S w.heap.size iv2) (Cv S w.heap.size iv2) u qs:=
     λi u qs Y I=>(hK i u qs Y I).cW λg V=>by
      have V:Cv S w.heap.size QE g:=(V.elim id id).mono Pn;rw[L.block g (rlo r G g V),rls r G V]
    replace W:=W.tr N;replace Pn:∀p,p∈iv2->p∈(wa.heap.size,wb.heap.size)::QE:=λp hp=>aD _ (Pn p hp);clear r L N hO hF hl SW hA5 hSame kp1 kp2 km1 km2 Sf;generalize (wa.heap.size,wb.heap.size)::QE=Q8 at*
    obtain⟨b1,a1,n1,c1,b2,a2,n2,c2,rfl⟩:=Qb.shape;refine⟨⟨gx,0,none⟩,rfl,be,?_⟩;intro O J r;obtain⟨_,QT,Y,I,h3,h4,h5⟩:=(hX.rel r G).store VQ (cw.cW Qb λg V=>rls r G V.1) r G;injection QT with QT;injection QT with QT;subst QT;replace W:=W.tr r.cg;replace hK:∀(i:Nat) u qs,rv[i]? =some u->(du Fn pv cols c)[i]? =some qs->dx J (Cv S w.heap.size iv2) (Cv S w.heap.size iv2) u qs:=
     λi u qs Y I=>(hK i u qs Y I).cW λg V=>rls r G ((V.elim id id).mono Pn)
    have hold:∀g,Cv S w.heap.size Q8 g->g<J.heap.size:=rlo r G;clear r hX Qb;refine⟨Y,I,h3,λF RK=>?_⟩;obtain⟨hX,QR,-⟩:=h5 F RK;replace W:Bq w F:=W.tr (Bel.grown QR (λg V=>by injection V with V;subst V;exact Yf gx rfl) (by have:=W.size;omega));replace hK:∀(i:Nat) u qs,rv[i]? =some u->(du Fn pv cols c)[i]? =some qs->dx F (Cv S w.heap.size iv2) (Cv S w.heap.size iv2) u qs:=
     λi u qs Y I=>(hK i u qs Y I).cW λg V=>QR.block g (hold g ((V.elim id id).mono Pn)) λe=>by
      injection e with e;subst e;exact TO _ rfl (V.elim id id)
    clear Y I h3 h4 h5 RK QR hold;rw[<-Qw,<-hpd,<-lK]at hX;refine inc i ?_;intro I8 w3 r3
    exact⟨(i+1,Q8,w3),⟨Qo,W.tr r3.cg,Pn,hX.rel r3 G,λi u qs Y I=>(hK i u qs Y I).cW λg V=>rls r3 G ((V.elim id id).mono Pn)⟩,
     sbgn [] r3,by dsimp only;omega⟩
   .have Qo:i=pv.length:=by
     have:¬i<pv.length:=by simpa using Qo
     omega
    subst Qo;have hxR:=hX.read;refine .inl ?_;refine⟨ce,be,mx,((c+1:Nat):Int),wo,?_⟩;intro I8 w3 r3;have XE:(rv++[Value.slice (some ⟨gx,0,none⟩) cols cx]).length=rv.length+1:=by simp
    refine⟨(c+1,rv++[.slice (some ⟨gx,0,none⟩) cols cx],QE,w3),⟨h,W.tr r3.cg,by dsimp only;rw[wT hm,XE,QI];simp,by dsimp only;rw[XE];omega,λi u qs Y I=>?_⟩,
     sbgn [(0,2)] r3 (hE:=⟨rfl,rfl,rfl,by dsimp only;rw[XE];rfl,rfl,rfl,trivial⟩),by dsimp only;omega⟩
    rw[wT hm]at I;dsimp only at Y I ⊢;rcases aW i rv.length with Wh|Wh
    .rw[aN Wh]at Y;rw[aN (by rw[<-QI];exact Wh)]at I;exact((hK i u qs Y I).cU (λg V=>V.mono Pn) λg V=>V.mono Pn).rel r3 G G
    .have h0:i=rv.length:=by
      have:=(aH.1 Y).1;rw[XE]at this;omega
     subst h0;rw[aP lr,bV]at Y;rw[QI,aP lr,bV]at I;simp at Y I;subst Y I;exact hxR.rel r3 G G
 .have h:c=cols:=by
   have:¬c<cols:=by simpa using h
   omega
  subst h;intro GE we re;refine⟨_,rfl,W.tr re.cg,?_⟩
  have hv:=re.ka (id:=0) (sz:=1) (m:=rv.length) rfl ce mx bv (λu hu=>by
   obtain⟨i,R⟩:=aj hu;obtain⟨a,cc,e⟩:=dG.rowOf (hK i u _ R (aE (by rw[<-QI];exact(aH.1 R).1)));rw[e]
   rfl)
  refine⟨rv,?_,QI,λi u qs Y I=>?_⟩
  .rw[<-QI];exact hv.cU λg V=>.inr V
  .exact((hK i u qs Y I).rel re G G).cU (λg V=>Cv.nw V re) λg V=>Cv.nw V re
def dx.from{a:Option Addr}{n c k:Nat}(h:dx w C S (.slice a n c) qs)(K:k<=n):
  dx w C S (.slice (if (c:Int)=(k:Int)then a else a.map (·.add (k*4))) (n-k) (c-k)) (qs.drop k):=by
 obtain⟨U,⟨h0,Y,I,a',c',e,h3,h4⟩,hf⟩:=h;injection e with e1 e2 e3;subst e1 e2 e3;have hd:(U.drop k).flatten=U.flatten.drop (k*4):=by
  have:=fJ (U:=U.take k) (λcs hc=>hf.oP cs (List.mem_of_mem_take hc));conv=>rhs;rw[<-List.take_append_drop k U,List.flatten_append]
  have hl:(U.take k).length=k:=by rw[bI,hf.1];omega
  rw[hl]at this;rw[<-this,List.drop_left]
 refine⟨U.drop k,⟨?_,?_,?_,_,c-k,by rw[List.length_drop],by simp;omega,λj u hu=>?_⟩,?_,λj cs q hc hq=>?_⟩
 .simp;omega
 .rw[hd,List.length_drop,Y,List.length_drop,Nat.sub_mul]
 .intro u hu;rw[hd]at hu;exact I u (List.mem_of_mem_drop hu)
 .rw[hd,cD]at hu;obtain⟨ad,k1,k2,k3⟩:=h4 (k*4+j) u hu;have QU:=(aH.1 hu).1;subst k1;rw[aJ be];refine⟨ad.add (k*4),rfl,by rw[da];exact k2,?_⟩;rw[<-k3];have:(ad.add (k*4)).add j=ad.add (k*4+j):=by
   unfold Addr.add;split<;>split<;>simp_all<;>omega
  rw[this]
 .rw[List.length_drop,List.length_drop,hf.1]
 .rw[cD]at hc hq;exact hf.2 _ cs q hc hq
def Mp(hC:Old C w)(G:Old S w)(h:dx w C S v qs)(E:0<qs.length)(hl:qs.length<=1000000):
  eH PG Fd.fN #[v] w (eV w λv' F=>gX F S v' qs.length qs/\(∀g,v'.ownBlock=some g->w.heap.size<=g/\g<F.heap.size)):=by
 obtain⟨a,c,rfl,hc,hm⟩:=h.shape;obtain⟨U,⟨h0,Y,I,a',c',e,h3,h4⟩,hf⟩:=h;injection e with e1 e2 e3;subst e1 e3;have Qa:U.length=qs.length:=hf.1;obtain⟨ad,rfl⟩:∃ad,a=some ad:=by
  obtain⟨ad,k1,_⟩:=h4 0 _ (aE (show 0<U.flatten.length by omega));exact⟨ad,k1⟩
 refine iE ce ?_;conv=>whnf
 refine⟨false,λO w1 o1 o2=>by simp[eqGuard,SV.den,At.den,o9 (P:=PG) w1 T.row T.dN (some ad) qs.length c 0 0 tF],?_⟩;conv=>whnf
 refine .inl ?_;conv=>whnf
 refine⟨U.flatten,Y,I,λO w1 r h0=>⟨ad,rfl,λj u hu=>?_⟩,?_⟩
 .obtain⟨ad2,k1,k2,k3⟩:=h4 j u hu;injection k1 with k1;subst k1;exact gF hC Bel.refl r k2 k3
 conv=>whnf
 refine⟨rfl,be,mx,?_⟩;conv=>whnf
 intro I8 w3 r3;refine⟨_,rfl,r3.cg,?_⟩;have ZM:Fr w3 S U qs:=hf.cW λg V=>r3.cg.block g (G g V);rcases r3.vec 1 T.dN 4 U.flatten rfl with⟨QC,hemp⟩|⟨QC,spare,N,hcp,RE⟩
 .rw[hemp]at Y;simp at Y;omega
 have Pq:=r3.low 1 _ rfl QC;have Ry:((At.w 1 (0+qs.length)).den I8)= .slice (some ⟨(I8 1).g,0,none⟩) qs.length (I8 1).cap:=by simp[At.den,QC]
 show gX w3 S ((At.w 1 (0+qs.length)).den I8) qs.length qs/\∀g,((At.w 1 (0+qs.length)).den I8).ownBlock=some g->_;rw[Ry];have hls:(U.flatten++spare).length=U.flatten.length+spare.length:=aU;refine⟨⟨U,⟨Y,.inr ⟨(I8 1).g,(I8 1).cap,(U.flatten++spare).toArray,rfl,aZ _,N,be,RE,by simpa using hcp,?_⟩⟩,Qa,ZM⟩,λg V=>?_⟩
 .rw[<-Y];simp
 .injection V with V;subst V;exact Pq
end Go.Ex
namespace Go.Sx
open Go Go.Ex Go.Proofs
variable{X:Nat->Prop}{O:Nat->Sx.eD}
def Rel.ID{H1 H2:Hp}{nx:Nat}{iv:Iv}{B:Nat}{w J F:World}{t id:Nat}{cs cs':List Value}(r:Rel H1 nx iv B w O J)(Y:dT H1 id=some (.arr t cs))(I:dT H2 id=some (.arr t cs'))(ho:∀j,j≠id->dT H2 j=dT H1 j)
  (k:Kept J F X) (hX:∀g,X g->g=(O id).g\/∀j b,dT H1 j=some b->(O j).nil=false->(O j).g≠g) (N:F.heap[(O id).g]? =some (.cells cs'.toArray t (0,0))):Rel H2 nx ((J.heap.size,F.heap.size)::iv) B F O F:=by
 have QC:(O id).nil=false:=(r.fits Y).1;have get:∀j b,dT H2 j=some b->∃b1,dT H1 j=some b1/\(j≠id->b1=b)/\(b≠ .dead->b1≠ .dead):=λj b h=>by
  by_cases hj:j=id
  .subst hj;exact⟨_,Y,λh=>absurd rfl h,λ_=>ce⟩
  .rw[ho j hj]at h;exact⟨b,h,λ_=>rfl,λh=>h⟩
 refine Rel.mk' rfl rfl rfl lr (by have:=r.base;have:=r.size;have:=k.size;omega) (λlo R hm=>?_) (λj b h=>?_) (λj b h=>?_) (λj b h=>?_) (λi j b b' R hj di dj ni nj e=>?_) (λj b h E=>?_) (λ_ _ _=>rfl) (λlo R hm j b h E hc=>?_)
 .rcases List.mem_cons.1 hm with e|hm
  .injection e with e1 e2;omega
  .have:=r.oB lo R hm;have:=r.size;have:=k.size;omega
 .obtain⟨b1,h3,_⟩:=get j b h;exact r.keys j b1 h3
 .by_cases hj:j=id
  .subst hj;rw[I]at h;injection h with h;subst h;exact⟨QC,N⟩
  .rw[ho j hj]at h;refine jX.iJ (r.fits h) (λ_ _=>rfl) (r.scopd h) λE hd=>?_;refine k.block _ (r.low j b h E).2 λZ=>?_;rcases hX _ Z with e|e
   .exact hj (r.inj j id b _ h Y hd ce E QC e)
   .exact e j b h E rfl
 .by_cases hj:j=id
  .subst hj;rw[I]at h;injection h with h;subst h;trivial
  .rw[ho j hj]at h;exact r.scopd h
 .obtain⟨b1,h3,_,h4⟩:=get i b R;obtain⟨b2,h5,_,h6⟩:=get j b' hj;exact r.inj i j b1 b2 h3 h5 (h4 di) (h6 dj) ni nj e
 .obtain⟨b1,h3,_⟩:=get j b h;have:=r.low j b1 h3 E;have:=k.size;omega
 .obtain⟨b1,h3,_⟩:=get j b h;have hl:=r.low j b1 h3 E;rcases List.mem_cons.1 hm with e|hm
  .injection e with e1 e2;omega
  .exact r.jJ lo R hm j b1 h3 E hc
end Go.Sx
namespace Go.Ex
open Go Go.Sx Go.Proofs
variable{b:List (Int×Int)}{Fn M:List (List Rat)}{l qs r:List Rat}{rv:List Value}{h h0 i n:Nat}{S:Nat->Prop}{O:Nat->Sx.eD}{q:Rat}{P:Rat->Prop}{u v:Value}{w:World}
abbrev dS(M:List (List (Int×Int))):List (List Rat):=M.map λr=>r.map dC
def wU(F9 i:Nat):List Rat:=(List.replicate F9 0).set i 1
def oT(M:List (List Rat))(b:List Rat):List (List Rat):=M.mapIdx λi r=>r++b.getD i 0::wU M.length i
def gj(Fn:List (List Rat))(pv:List Nat)(cols i:Nat):List Rat:=(List.range i).foldl (λx i=>x.set (pv.getD i 0) (dR Fn i cols)) (List.replicate cols 0)
def jz(Fn:List (List Rat))(pv:List Nat)(cols i:Nat):gj Fn pv cols (i+1)=(gj Fn pv cols i).set (pv.getD i 0) (dR Fn i cols):=by
 rw[gj,bu,List.foldl_append];rfl
def yP(M:List (List Rat))(b:List Rat):(oT M b).length=M.length:=by simp[oT]
def ON{b:List Rat}(h:M[i]? =some r):(oT M b)[i]? =some (r++b.getD i 0::wU M.length i):=by simp[oT,h]
def eh.HB{H:Hp}{nx:Nat}{iv:Iv}{B:Nat}{J F:World}(Z:eh F FF J.heap.size [(J.heap.size,F.heap.size)] v n qs)(r:Rel H nx iv B w O J)(VH:∀u∈rv,∀g,u.ownBlock=some g->Cv S B iv g)(G:∀g,S g->g<B):
  gX F (λg=>(Cv FF B ((J.heap.size,F.heap.size)::iv) g/\¬ ∃u∈rv,u.ownBlock=some g)/\v.ownBlock≠some g) v n qs/\∀g,v.ownBlock=some g->Cv FF B ((J.heap.size,F.heap.size)::iv) g/\J.heap.size<=g:=by
 have key:∀g,Cv FF J.heap.size [(J.heap.size,F.heap.size)] g->J.heap.size<=g/\g<F.heap.size:=λg V=>by
  rcases V with V|⟨Y,lo,R,I,h3,h4⟩
  .exact V.elim
  .simp at I;obtain⟨rfl,rfl⟩:=I;exact⟨h3,h4⟩
 have hB:=r.cY;have Uq:∀g,J.heap.size<=g/\g<F.heap.size->Cv FF B ((J.heap.size,F.heap.size)::iv) g:=λg V=>.inr ⟨be,_,_,aF,V.1,V.2⟩;refine⟨Z.row.cU λg V=>⟨⟨Uq g (key g V.1),λ⟨u,hu,e⟩=>?_⟩,V.2⟩,λg V=>⟨Uq g (key g (Z.new g V)),(key g (Z.new g V)).1⟩⟩;have:=rlo r G g (VH u hu g e);have:=(key g V.1).1;omega
structure s7(w:World)(B:Nat)(iv:Iv)(rv:List Value)(v:Value)(n:Nat)(qs:List Rat):Prop where
 row:gX w (λg=>(Cv FF B iv g/\¬ ∃u∈rv,u.ownBlock=some g)/\v.ownBlock≠some g) v n qs
 lH:∀g,v.ownBlock=some g->Cv FF B iv g
section
variable{H:Hp}{nx n:Nat}{iv A:Iv}{B:Nat}{w J F:World}{O:Nat->Sx.eD}{v:Value}{qs:List Rat}{rv:List Value}
def s7.cW(h:s7 w B iv rv v n qs)(K:∀g,Cv FF B iv g->F.heap[g]? =w.heap[g]?):s7 F B iv rv v n qs:=
 ⟨h.row.cW λg V=>K g (V.elim (λh=>h.1.1) (h.lH g)),h.lH⟩
def s7.rel(h:s7 w B iv rv v n qs)(r:Rel H nx iv B w O J):s7 J B iv rv v n qs:=h.cW λ_ V=>rls r (iS B) V
def s7.cV(h:s7 w B iv rv v n qs)(r:Rel H nx iv B w O J)(L:Ext J F)(hm:∀p,p∈iv->p∈A):s7 F B A rv v n qs:=
 have I:=(h.rel r).cW λg V=>L.block g (rlo r (iS B) g V)
 ⟨I.row.cU λ_ V=>⟨⟨V.1.1.mono hm,V.1.2⟩,V.2⟩,λg V=>(I.lH g V).mono hm⟩
def cw.HB(h:cw F (Nf J F) u q)(r:Rel H nx iv B w O J)(VH:∀u∈rv,∀g,u.ownBlock=some g->Cv FF B iv g):
  cw F (λg=>Cv FF B ((J.heap.size,F.heap.size)::iv) g/\¬ ∃u∈rv,u.ownBlock=some g) u q:=
 h.cU λg V=>by
  rcases V with V|V
  .exact V.elim
  .refine⟨.inr ⟨by have:=r.cY;omega,_,_,aF,V.1,V.2⟩,λ⟨u,hu,e⟩=>?_⟩;have:=rlo r (iS B) g (VH u hu g e);omega
end
def Km{C:Nat->Prop}{va x:Value}{g2:Nat}{b b2:Bool}{a a2:Option Addr}{m c m2 c2:Nat}{rs xs:List Rat}(hC:Old C w)(G:Old S w)
  (ha:fT w C 1 va [u,.slice (some ⟨g2,0,none⟩) 1 1,x] 3) (N:fT w C 4 (.slice (some ⟨g2,0,none⟩) 1 1) (rC b a m c b2 a2 m2 c2) 1) (hr:dx w C S u rs) (Z:dx w C S x xs)
  (hq:cw w S (.agg #[.bool b,.slice a m c,.bool b2,.slice a2 m2 c2]) q) (hl:rs.length+1+xs.length<=1000000):
  eH PG Fd.eX #[va] w (eV w λv F=>gX F S v (rs.length+1+xs.length) (rs++q::xs)/\∀g,v.ownBlock=some g->w.heap.size<=g/\g<F.heap.size):=by
 obtain⟨c1,s1,f1⟩:=hr;obtain⟨c2',s2,f2⟩:=Z;refine(Kl (parts:=[(u,c1.flatten,rs.length),(.slice (some ⟨g2,0,none⟩) 1 1,rC b a m c b2 a2 m2 c2,1),(x,c2'.flatten,xs.length)]) hC ha ?_ (by simp[jI];omega)).mono λe F ⟨v,e1,e2,e3⟩=>⟨v,e1,e2,?_,λg V=>?_⟩
 .intro p hp;simp only[List.mem_cons,List.not_mem_nil,or_false]at hp;rcases hp with rfl|rfl|rfl
  .exact s1
  .exact N
  .exact s2
 .have E:jI [(u,c1.flatten,rs.length),(Value.slice (some ⟨g2,0,none⟩) 1 1,[Value.bool b,.slice a m c,.bool b2,.slice a2 m2 c2],1),(x,c2'.flatten,xs.length)]=rs.length+1+xs.length:=by simp[jI];omega
  rw[E]at e3;have Qj:List.flatMap (λx=>x.2.1) [(u,c1.flatten,rs.length),(Value.slice (some ⟨g2,0,none⟩) 1 1,[Value.bool b,.slice a m c,.bool b2,.slice a2 m2 c2],1),(x,c2'.flatten,xs.length)]=(c1++[Value.bool b,.slice a m c,.bool b2,.slice a2 m2 c2]::c2').flatten:=by simp
  rw[Qj]at e3;refine⟨_,⟨e3.1,e3.2.imp id λ⟨g,cap,cur,k1,_,k3⟩=>⟨g,cap,cur,k1,aZ _,k3⟩⟩,by simp[f1.1,f2.1];omega,?_⟩;have K:∀g,S g->F.heap[g]? =w.heap[g]? :=λg V=>e2.block g (G g V);refine⟨by simp[f1.1,f2.1],λj cs p Y I=>?_⟩;rcases cO j c1.length with hj|hj|hj
  .rw[aN hj]at Y;rw[aN (by rw[<-f1.1];exact hj)]at I;exact(f1.2 j cs p Y I).cW K
  .subst hj;rw[aP lr,bV]at Y;rw[f1.1,aP lr,bV]at I;simp at Y I;subst Y I;exact(hq.cW K).four
  .rw[aP be]at Y;rw[aP (by rw[<-f1.1];omega),<-f1.1]at I;obtain⟨k,TX⟩:∃k,j-c1.length=k+1:=⟨j-c1.length-1,be⟩
   rw[TX]at Y I;simp at Y I;exact(f2.2 k cs p Y I).cW K
 .have:=ownsRow.low e3 g V;exact this
def OO{M:List (List (Int×Int))}(G:Old S w)(h:dQ w S v M)(hu:dJ w S u b)(hf:∀r∈M,ue r)(WG:ue b)(Pm:∀r∈M,r.length=dM M)(Pu:b.length=M.length)
  (E:dM M<=1000) (hR:M.length<=1000) (TN:Ht (oT (dS M) (b.map dC)) h0) (I:2<=h0) (TJ:4^M.length*h0<=500000000):
  eH PG Fd.yF #[v,u] w (eV w λv' F=>∃Fn pv,(Fn,pv)=dF (oT (dS M) (b.map dC)) (dM M)/\
   ((∃j vp,pv.length<=j/\j<M.length/\dR Fn j (dM M)≠0/\(∀k,pv.length<=k->k<j->dR Fn k (dM M)=0)/\v'= .agg #[vp,nls,nls]/\(∃a n c,vp= .slice (some a) n c)/\
     dx F (Nf w F) (Nf w F) vp (((Fn.getD j []).drop (dM M+1)).map (· *(1 / dR Fn j (dM M)))))\/
    (∃vx vk,(∀k,pv.length<=k->k<M.length->dR Fn k (dM M)=0)/\v'= .agg #[nls,vx,vk]/\dx F (Nf w F) (Nf w F) vx (gj Fn pv (dM M) pv.length)/\
     fM F (Nf w F) vk (du Fn pv (dM M) (dM M))))):=by
 replace h:=dQ.arg h [];replace hu:=dJ.arg hu [];obtain⟨am,cm,rfl,Rw,-⟩:=dG.shape h;obtain⟨ab,cb,rfl,Qz,-⟩:=dK.shape hu;obtain⟨cols,TP⟩:∃c,c=dM M:=⟨_,rfl⟩
 rw[<-TP]at Pm E ⊢;refine Aw ce ?_;refine cS (cR (GT:=λ_ _ v _=>v=iV cols) (λO J r=>by rw[TP];exact tI (rlo r G) (dQ.rel h r G)) ?_);rintro O wa v1 wb r L W rfl;replace h:=dQ.cV (A:=(wa.heap.size,wb.heap.size)::[]) h r G L λx Z=>aD _ Z;replace hu:=dJ.cV (A:=(wa.heap.size,wb.heap.size)::[]) hu r G L λx Z=>aD _ Z;clear r L;generalize (wa.heap.size,wb.heap.size)::[]=iv at*
 refine⟨M.length,M.length,rfl,rfl,lr,be,be,?_⟩;refine cS (cR (GT:=λ_ J v F=>wP F FF J.heap.size [(J.heap.size,F.heap.size)] v cols (dS M)) (λO J r=>GN (rlo r G) (dQ.rel h r G) hf Pm be be) ?_);rintro O wc v1 wd r L N hX;have UJ:=(hX.ef (S:=FF) (iv:=(wc.heap.size,wd.heap.size)::iv) r.cY aF).read;replace h:=dQ.cV (A:=(wc.heap.size,wd.heap.size)::iv) h r G L λx Z=>aD _ Z;replace hu:=dJ.cV (A:=(wc.heap.size,wd.heap.size)::iv) hu r G L λx Z=>aD _ Z;replace W:=W.tr N;clear r L N hX;generalize (wc.heap.size,wd.heap.size)::iv=ivM at*
 obtain⟨at_,ct,rfl,hct,-⟩:=dG.shape UJ;rw[aO]at hct UJ ⊢
 refine⟨List Value×Iv×World,λz=>⟨[(0,sV am M.length cm),(1,sV ab b.length cb),(4,pP 0 0),(5,iZ cols),(6,.o (.s 1 0 M.length M.length)),(23,sV at_ M.length ct),(24,iZ M.length),(25,iZ z.1.length)],
   [(1,.arr T.row (z.1++List.replicate (M.length-z.1.length) nls)),(0,.box T.solved [.v nls,.v nls,.v nls])],2,z.2.1,z.2.2⟩,λz=>M.length-z.1.length,
  λz=>z.1.length<=M.length/\Bq w z.2.2/\(∀p,p∈ivM->p∈z.2.1)/\dQ z.2.2 (Cv S w.heap.size ivM) (.slice am M.length cm) M/\dJ z.2.2 (Cv S w.heap.size ivM) (.slice ab b.length cb) b/\
   fM z.2.2 (Cf w ivM) (.slice at_ M.length ct) (dS M)/\
   iT z.2.2 FF w.heap.size z.2.1 z.1 (cols+1+M.length) ((oT (dS M) (b.map dC)).take z.1.length)/\(∀u∈z.1,u.oneCell'=true)/\(∀u∈z.1,∀g,u.ownBlock=some g->¬Cf w ivM g),?_,?_⟩
 .intro O J r
  exact⟨([],ivM,J),⟨ce,W.tr r.cg,λp hp=>hp,dQ.rel h r G,dJ.rel hu r G,fM.rel UJ r oF,by simpa using iT.nil _ _ _ _ _,ce,ce⟩,
   sbgn [] r⟩
 clear h hu UJ W;rintro⟨rv,Pt,w1⟩ ⟨QI,W,Pn,h,hu,UJ,QF,h1c,ZN⟩;dsimp only at QI W Pn h hu UJ QF h1c ZN ⊢;have hlA:(oT (dS M) (b.map dC)).length=M.length:=by rw[yP,aO]
 apply bS<;>intro R
 .have R:rv.length<M.length:=by simpa using R
  obtain⟨mr,Zw⟩:=gO M rv.length;obtain⟨bx,Us⟩:=gO b rv.length;have hmrl:=Pm mr (aG Zw);obtain⟨ad,ur,rfl,TA,kt1,kt2⟩:=dG.load UJ (j:=rv.length) (x:=mr.map dC) (by rw[aS,Zw];rfl);obtain⟨au,cu,hue⟩:=dG.rowOf TA;rw[aO,hmrl]at hue;subst hue;have Pp:∀{H nx iv O wx J},(∀p,p∈ivM->p∈iv)->Rel H nx iv w.heap.size wx O J->∀{X:Nat->Prop},(∀g,X g->g<w.heap.size)->∀g,Cv X w.heap.size ivM g->J.heap[g]? =wx.heap[g]? :=by
   intro H nx iv O wx J hm r X hX g V;exact rls r hX (V.mono hm)
  refine⟨ad,rfl,be,.slice au cols cu,λO J r=>?_,?_⟩
  .rw[aI,cZ (w:=w1) (F:=J) (by rw[da];exact Pp Pn r oF _ kt1)];exact kt2
  refine cS (cR (GT:=λ_ J v F=>eh F FF J.heap.size [(J.heap.size,F.heap.size)] v M.length (List.replicate M.length 0)) (λO J r=>j4 M.length J be) ?_);rintro O wa vx wb r L N Z;have hU0:=Z.HB (rv:=rv) r (λu hu g V=>qL (QF.new u hu g V)) oF;have hU:s7 wb w.heap.size ((wa.heap.size,wb.heap.size)::Pt) rv vx M.length (List.replicate M.length 0):=⟨hU0.1,λg V=>(hU0.2 g V).1⟩
  have hold1:∀g,Cf w ivM g->g<wa.heap.size:=λg V=>rlo r oF g (V.mono Pn);have hgxr:∀g,vx.ownBlock=some g->∀u∈rv,u.ownBlock≠some g:=λg V u hu e=>by have:=rlo r oF g (QF.new u hu g e);have:=(hU0.2 g V).2;omega
  have YF:∀g,vx.ownBlock=some g->¬Cf w ivM g:=λg V h=>by have:=hold1 g h;have:=(hU0.2 g V).2;omega
  replace h:=dQ.cW h λg V=>by rw[L.block g (rlo r G g (V.mono Pn)),Pp Pn r G g V]
  replace hu:=dJ.cW hu λg V=>by rw[L.block g (rlo r G g (V.mono Pn)),Pp Pn r G g V]
  replace UJ:=fM.cW UJ λg V=>by rw[L.block g (rlo r oF g (V.mono Pn)),Pp Pn r oF g V]
  replace TA:=TA.cW λg V=>by rw[L.block g (rlo r oF g ((V.elim id id).mono Pn)),Pp Pn r oF g (V.elim id id)]
  have hvx1:∀g,vx.ownBlock=some g->¬Cf w Pt g:=λg V h=>by have:=rlo r oF g h;have:=(hU0.2 g V).2;omega
  replace QF:=QF.cW λg V=>by rw[L.block g (rlo r oF g V),rls r oF V]
  have Qr:∀p,p∈Pt->p∈(wa.heap.size,wb.heap.size)::Pt:=λp hp=>aD _ hp;replace W:=W.tr N;replace Pn:∀p,p∈ivM->p∈(wa.heap.size,wb.heap.size)::Pt:=λp hp=>aD _ (Pn p hp);clear r L N Z hU0 hold1;generalize (wa.heap.size,wb.heap.size)::Pt=iv2 at*
  obtain⟨ax,cx,rfl,-⟩:=hU.row.form;refine cS (cR (GT:=λ_ J v F=>cw F (Nf J F) v ((1:Int):Rat)) (λO J r=>iI 1 J bv bv) ?_);rintro O wa v1 wb r L N hO;have Qb:=(hO.HB (rv:=rv) r λu hu g V=>(QF.new u hu g V).mono Qr)
  have ZO:cw wb (λg=>(Cf w ((wa.heap.size,wb.heap.size)::iv2) g/\¬ ∃u∈rv,u.ownBlock=some g)/\(Value.slice ax M.length cx).ownBlock≠some g) v1 ((1:Int):Rat):=by
   have Y:=hO.apart (S':=λ_=>False) (iv:=iv2) (v:=Value.slice ax M.length cx) (λg V=>⟨rlo r oF g (hU.lH g V),λh=>h⟩) r.cY λg V=>V;obtain⟨nv,dv,h3,h4,h5⟩:=Qb;obtain⟨nv',dv',h3',h4',h5'⟩:=hO;rw[h3]at h3';injection h3' with h3';simp at h3';obtain⟨rfl,rfl⟩:=h3';have Sh:∀g,Nf wa wb g->((Cf w ((wa.heap.size,wb.heap.size)::iv2) g/\¬ ∃u∈rv,u.ownBlock=some g)/\(Value.slice ax M.length cx).ownBlock≠some g):=λg V=>by
    rcases V with V|V
    .exact V.elim
    .refine⟨⟨.inr ⟨by have:=r.cY;omega,_,_,aF,V.1,V.2⟩,λ⟨u,hu,e⟩=>?_⟩,λe=>?_⟩
     .have:=rlo r oF g ((QF.new u hu g e).mono Qr);omega
     .have:=rlo r oF g (hU.lH g e);omega
   exact⟨nv,dv,h3,h4'.cU Sh,h5'.cU Sh⟩
  replace h:=dQ.cW h λg V=>by rw[L.block g (rlo r G g (V.mono Pn)),Pp Pn r G g V]
  replace hu:=dJ.cW hu λg V=>by rw[L.block g (rlo r G g (V.mono Pn)),Pp Pn r G g V]
  replace UJ:=fM.cW UJ λg V=>by rw[L.block g (rlo r oF g (V.mono Pn)),Pp Pn r oF g V]
  replace TA:=TA.cW λg V=>by rw[L.block g (rlo r oF g ((V.elim id id).mono Pn)),Pp Pn r oF g (V.elim id id)]
  replace QF:=QF.cW λg V=>by rw[L.block g (rlo r oF g (V.mono Qr)),rls r oF (V.mono Qr)]
  replace Qr:∀p,p∈Pt->p∈(wa.heap.size,wb.heap.size)::iv2:=λp hp=>aD _ (Qr p hp);replace hU:=hU.cV (A:=(wa.heap.size,wb.heap.size)::iv2) r L λx Z=>aD _ Z;replace W:=W.tr N;replace Pn:∀p,p∈ivM->p∈(wa.heap.size,wb.heap.size)::iv2:=λp hp=>aD _ (Pn p hp);clear r L N hO Qb;generalize (wa.heap.size,wb.heap.size)::iv2=Ps at*
  obtain⟨b1,a1,n1,c1,b2,a2,n2,c2,rfl⟩:=ZO.shape;have Rx:(((1:Int):Rat))=1:=rfl;rw[Rx]at ZO;have QT:∃g,ax=some ⟨g,0,none⟩:=by
   obtain⟨U,ho,_⟩:=hU.row;rcases ho.2 with⟨_,h0⟩|⟨g,cap,cur,e,_⟩
   .omega
   .injection e with e;exact⟨g,e⟩
  obtain⟨gx,rfl⟩:=QT;refine⟨⟨gx,0,none⟩,rfl,be,?_⟩;intro O J r;have hUr:=hU.rel r;obtain⟨g',QT,k1,k2,k3,k4⟩:=hUr.row.store R (cw.cW ZO λg V=>rls r oF V.1.1) (λg V Z=>Z.2 V) (λx Z=>rlo r oF x Z.1.1);injection QT with QT;injection QT with QT;subst QT;have ZP:=hU.lH gx rfl;have Qe:=λid b N E=>Rel.not r oF ZP id b N E;have UY:∀{X:Nat->Prop},(∀g,X g->g<w.heap.size)->∀g,Cv X w.heap.size Ps g->g<J.heap.size:=by
   intro X hX g V;exact rlo r hX g V
  replace h:=dQ.cW h λg V=>Pp Pn r G g V;replace hu:=dJ.cW hu λg V=>Pp Pn r G g V;replace UJ:=fM.cW UJ λg V=>Pp Pn r oF g V;replace TA:=TA.cW λg V=>Pp Pn r oF g (V.elim id id);replace QF:=QF.cW λg V=>rls r oF (V.mono Qr);replace W:=W.tr r.cg;have hgxB:w.heap.size<=gx:=by
   rcases ZP with h|⟨h,_⟩
   .exact h.elim
   .exact h
  have hgxrv:∀u∈rv,u.ownBlock≠some gx:=hgxr gx rfl;clear r hUr hU ZO;refine⟨k1,k3,λid b N E=>by rw[k2];exact Qe id b N E,λF RK=>?_⟩;obtain⟨hU1,QR,-⟩:=k4 F RK;have hU:s7 F w.heap.size Ps rv (.slice (some ⟨gx,0,none⟩) M.length cx) M.length (wU M.length rv.length):=⟨hU1,λg V=>by injection V with V;subst V;exact ZP⟩
  have Vc:∀g,g<J.heap.size->g≠gx->F.heap[g]? =J.heap[g]? :=λg V Po=>QR.block g V λe=>by injection e with e;exact Po e
  replace h:=dQ.cW h λg V=>Vc g (UY G g (V.mono Pn)) λe=>by
   subst e;rcases V with V|⟨q1,lo,R4,q2,q3⟩
   .have:=G g V;omega
   .exact YF g rfl (.inr ⟨q1,lo,R4,q2,q3⟩)
  replace hu:=dJ.cW hu λg V=>Vc g (UY G g (V.mono Pn)) λe=>by
   subst e;rcases V with V|⟨q1,lo,R4,q2,q3⟩
   .have:=G g V;omega
   .exact YF g rfl (.inr ⟨q1,lo,R4,q2,q3⟩)
  replace UJ:=fM.cW UJ λg V=>Vc g (UY oF g (V.mono Pn)) λe=>by subst e;exact YF g rfl V
  replace TA:=TA.cW λg V=>Vc g (UY oF g ((V.elim id id).mono Pn)) λe=>by subst e;exact YF g rfl (V.elim id id)
  replace QF:=QF.cW λg V=>Vc g (UY oF g (V.mono Qr)) λe=>by subst e;exact hvx1 g rfl V
  replace W:Bq w F:=W.tr (Bel.grown QR (λg V=>by injection V with V;subst V;exact hgxB) (by have:=W.size;omega));clear k1 k2 k3 k4 hU1 QR Vc Qe RK UY;obtain⟨adb,csb,rfl,hRb,-,Va⟩:=dK.load hu Us;obtain⟨b3,a3,n3,c3,b4,a4,n4,c4,rfl,hRb⟩:=hRb;obtain⟨fb1,fb2⟩:=WG bx (aG Us);refine⟨adb,rfl,be,rC b3 a3 n3 c3 b4 a4 n4 c4,rfl,λO J r j x Z=>?_,?_⟩
  .obtain⟨q1,q2⟩:=Va j x Z;rw[aI,cZ (w:=F) (F:=J) (by rw[da,da];exact Pp Pn r G _ q1)];exact q2
  refine cS (cR (GT:=λ_ J v F=>cw F (Nf J F) v (dC bx)) (λO J r=>zO (rlo r G) (ke.cW (ke.cU hRb λg V=>V.mono Pn) λg V=>rls r G V) be be) ?_);rintro O wa v1 RT r L N hO;have hQ:=(hO.HB (rv:=rv) r λu hu g V=>(QF.new u hu g V).mono Qr)
  replace h:=dQ.cW h λg V=>by rw[L.block g (rlo r G g (V.mono Pn)),Pp Pn r G g V]
  replace hu:=dJ.cW hu λg V=>by rw[L.block g (rlo r G g (V.mono Pn)),Pp Pn r G g V]
  replace UJ:=fM.cW UJ λg V=>by rw[L.block g (rlo r oF g (V.mono Pn)),Pp Pn r oF g V]
  replace TA:=TA.cW λg V=>by rw[L.block g (rlo r oF g ((V.elim id id).mono Pn)),Pp Pn r oF g (V.elim id id)]
  replace QF:=QF.cW λg V=>by rw[L.block g (rlo r oF g (V.mono Qr)),rls r oF (V.mono Qr)]
  replace hU:=hU.cV (A:=(wa.heap.size,RT.heap.size)::Ps) r L λx Z=>aD _ Z;replace W:=W.tr N;replace Pn:∀p,p∈ivM->p∈(wa.heap.size,RT.heap.size)::Ps:=λp hp=>aD _ (Pn p hp);replace Qr:∀p,p∈Pt->p∈(wa.heap.size,RT.heap.size)::Ps:=λp hp=>aD _ (Qr p hp);clear r L N hO hRb Va ZP;generalize (wa.heap.size,RT.heap.size)::Ps=QA at*
  obtain⟨b5,a5,n5,c5,b6,a6,n6,c6,rfl⟩:=hQ.shape;have Yt:(mr.map dC).length=cols:=by rw[aO,hmrl]
  have hlu:(wU M.length rv.length).length=M.length:=by simp[wU]
  refine cS (cR (GT:=λ_ J v F=>gX F (λg=>Cf w QA g/\¬ ∃u∈rv,u.ownBlock=some g) v (cols+1+M.length) (mr.map dC++dC bx::wU M.length rv.length)/\∀g,v.ownBlock=some g->J.heap.size<=g/\g<F.heap.size) (λO J r=>?_) ?_)
  .have WQ:=r.jt (id:=3) (sz:=1) (n:=3) rfl rfl bv (by intro u hu;simp at hu;rcases hu with rfl|rfl|rfl<;>rfl);have QZ:=r.jt (id:=2) (sz:=4) (n:=1) rfl rfl bv (by intro u hu;simp at hu;rcases hu with rfl|rfl|rfl|rfl<;>rfl);have hlow3:=r.low 3 _ rfl (r.nn 3 _ rfl (by intros;simp) ce);have hlow2:=r.low 2 _ rfl (r.nn 2 _ rfl (by intros;simp) ce);have hUr:=hU.rel r;have:=Km (C:=λg=>Cf w QA g\/g=(O 2).g\/g=(O 3).g) (S:=λg=>Cf w QA g/\¬ ∃u∈rv,u.ownBlock=some g)
    (w:=J) (rs:=mr.map dC) (xs:=wU M.length rv.length) (q:=dC bx) (u:=.slice au cols cu) (x:=.slice (some ⟨gx,0,none⟩) M.length cx)
    (λg V=>by rcases V with V|rfl|rfl;exact rlo r oF g V;exact hlow2.2;exact hlow3.2) (λg V=>rlo r oF g V.1)
    (WQ.cU λg V=>.inr (.inr V)) (QZ.cU λg V=>.inr (.inl V))
    ((TA.cW λg V=>Pp Pn r oF g (V.elim id id)).cU (λg V=>.inl (V.mono Pn)) λg V=>⟨V.mono Pn,λ⟨u,hu,e⟩=>ZN u hu g e V⟩)
    (hUr.row.read.cU (λg V=>.inl (hUr.lH g V)) λg V=>V.1) (cw.cW hQ λg V=>rls r oF V.1) (by rw[Yt,hlu];omega)
   rw[Yt,hlu]at this;exact this
  rintro O wa vn wb r L N ⟨YG,Q2⟩;have hB:=r.cY;have R7:iT wb FF w.heap.size ((wa.heap.size,wb.heap.size)::QA) (rv++[vn]) (cols+1+M.length) ((oT (dS M) (b.map dC)).take (rv.length+1)):=by
   have h4:iT wb FF w.heap.size QA rv (cols+1+M.length) ((oT (dS M) (b.map dC)).take rv.length):=
    ⟨QF.len,λi v qs Y I=>((QF.row i v qs Y I).cW λg V=>by
      have V:Cf w Pt g:=V.elim (λh=>h.1) λV=>QF.new v (aG Y) g V
      rw[L.block g (rlo r oF g (V.mono Qr)),rls r oF (V.mono Qr)]).cU λg V=>⟨V.1.mono Qr,V.2⟩,QF.HC,λv hv g V=>(QF.new v hv g V).mono Qr⟩
   have h5:iT RT FF w.heap.size QA rv (cols+1+M.length) ((oT (dS M) (b.map dC)).take rv.length):=
    ⟨QF.len,λi v qs Y I=>(QF.row i v qs Y I).cU λg V=>⟨V.1.mono Qr,V.2⟩,QF.HC,λv hv g V=>(QF.new v hv g V).mono Qr⟩
   have h6:=h5.snoc r oF L (YG.cU λg V=>⟨V.1.mono λp hp=>aD _ hp,λe=>by have:=rlo r oF g V.1;have:=(Q2 g e).1;omega,V.2⟩) Q2;have h7:(oT (dS M) (b.map dC)).take (rv.length+1)=(oT (dS M) (b.map dC)).take rv.length++[mr.map dC++dC bx::wU M.length rv.length]:=by
    rw[bH,ON (r:=mr.map dC) (by rw[aS,Zw];rfl)];have:(b.map dC).getD rv.length 0=dC bx:=by rw[List.getD,aS,Us];rfl
    rw[this,aO];rfl
   rw[h7];exact h6
  have hvnM:∀g,vn.ownBlock=some g->¬Cf w ivM g:=λg V hm=>by
   have:=rlo r oF g (hm.mono Pn);have:=(Q2 g V).1;omega
  replace h:=dQ.cW h λg V=>by rw[L.block g (rlo r G g (V.mono Pn)),Pp Pn r G g V]
  replace hu:=dJ.cW hu λg V=>by rw[L.block g (rlo r G g (V.mono Pn)),Pp Pn r G g V]
  replace UJ:=fM.cW UJ λg V=>by rw[L.block g (rlo r oF g (V.mono Pn)),Pp Pn r oF g V]
  replace W:=W.tr N;replace Pn:∀p,p∈ivM->p∈(wa.heap.size,wb.heap.size)::QA:=λp hp=>aD _ (Pn p hp);obtain⟨an,cn,rfl,-⟩:=YG.form;clear r L N TA QF hU hQ YG Q2 hB hvx1 hgxr hgxrv YF;generalize (wa.heap.size,wb.heap.size)::QA=QE at*
  refine⟨be,by simp;omega,(rv++[.slice an (cols+1+M.length) cn])++List.replicate (M.length-(rv.length+1)) nls,?_,?_⟩
  .have h5:M.length-rv.length=(M.length-(rv.length+1))+1:=by omega
   simp[h5,List.replicate_succ]
  refine⟨((rv.length+1:Nat):Int),wo,?_⟩;intro I8 w3 r3;have RG:(rv++[Value.slice an (cols+1+M.length) cn]).length=rv.length+1:=by simp
  refine⟨(rv++[.slice an (cols+1+M.length) cn],QE,w3),⟨by dsimp only;rw[RG];exact R,W.tr r3.cg,Pn,dQ.cW h λg V=>rls r3 G (V.mono Pn),dJ.cW hu λg V=>rls r3 G (V.mono Pn),fM.cW UJ λg V=>rls r3 oF (V.mono Pn),?_,?_,?_⟩,
   sbgn [] r3 ⟨by dsimp only;rw[RG];rfl,rfl,trivial⟩ ⟨rfl,rfl,rfl,rfl,rfl,rfl,rfl,by dsimp only;rw[RG];rfl,trivial⟩,by dsimp only;rw[RG];omega⟩
  .dsimp only
   rw[RG];exact R7.rel r3 oF
  .intro u hu;rcases az.1 hu with hu|hu
   .exact h1c u hu
   .simp at hu;subst hu;rfl
  .intro u hu g V;rcases az.1 hu with hu|hu
   .exact ZN u hu g V
   .simp at hu;subst hu;exact hvnM g V
 .have R:rv.length=M.length:=by
   have:¬rv.length<M.length:=by simpa using R
   omega
  rw[R,show M.length-M.length=0 by omega,List.replicate_zero,List.append_nil];rw[R,<-hlA,bE]at QF;clear h hu UJ ZN Pn hf WG Pu Rw Qz hct;obtain⟨UU,QL,Th,hAh⟩:=lM (cols:=cols) TN I;rw[hlA]at QF UU QL;refine⟨λO J r=>?_⟩;have YH:=r.nn 1 _ rfl (by intros;simp) ce;have hm:=QF.mat r oF (id:=1) rfl YH mx h1c;rw[R]at hm;refine(Mn (λg V=>rlo r oF g V.1) hm (λg V=>V.2) be be (show cols<=cols+1+M.length by omega) TN I (by rw[hlA];exact TJ)).mono λe F L=>?_;obtain⟨vp,rv',rfl,hK,UG,TU,hP⟩:=L;obtain⟨Fn,pv,hApv⟩:∃Fn pv,(Fn,pv)=dF (oT (dS M) (b.map dC)) cols:=⟨_,_,rfl⟩
  rw[<-hApv]at UU QL Th hAh UG hP;dsimp only at UU QL Th hAh UG hP;have WO:rv'.length=M.length:=by rw[UG.len,UU]
  have Qt:F.heap[(O 1).g]? =some (.cells rv'.toArray T.row (0,0)):=by
   rcases UG.out.2 with⟨Y,_⟩|⟨g,cap,cur,e,_,V,_,_,QG,Uz⟩
   .cases Y
   .injection e with e1 e2 e3;injection e1 with e1;injection e1 with e1;subst e1 e3;rw[V,<-Uz,WO,ah,bU (by simp;omega)]
  have hIn:∀g,Mb (.slice (some ⟨(O 1).g,0,none⟩) M.length M.length) rv g->g=(O 1).g\/Cf w Pt g:=λg V=>by
   rcases V with V|⟨x,Z,V⟩
   .injection V with V;exact .inl V.symm
   .exact .inr (QF.new x Z g V)
  refine⟨vp,[(1,.arr T.row rv'),(0,.box T.solved [.v nls,.v nls,.v nls])],(J.heap.size,F.heap.size)::Pt,rfl,
   r.ID (id:=1) rfl rfl (λj hj=>by simp[db,Ne.symm hj]) hK (λg V=>(hIn g V).imp id λhc=>λj c hj E=>Rel.not r oF hc j c hj E) Qt,?_⟩
  have hB:=r.cY;have hT:∀g,Nw (λg=>Cf w Pt g/\¬Mb (.slice (some ⟨(O 1).g,0,none⟩) M.length M.length) rv g) J F g->Cf w ((J.heap.size,F.heap.size)::Pt) g:=λg V=>by
   rcases V with V|V
   .exact V.1.mono λp hp=>aD _ hp
   .exact .inr ⟨be,_,_,aF,V.1,V.2⟩
  have SX:∀(j:Nat) x qs,rv'[j]? =some x->Fn[j]? =some qs->dx F (Cf w ((J.heap.size,F.heap.size)::Pt)) (Cf w ((J.heap.size,F.heap.size)::Pt)) x qs/\qs.length=cols+1+M.length:=λj x qs Y I=>by
   have h3:gX F _ x (cols+1+M.length) qs:=UG.row j x qs Y I;refine⟨h3.read.cU (λg V=>?_) hT,h3.len⟩;have hxm:=aG Y;rcases hIn g ((TU g).1 (.inr ⟨x,hxm,V⟩))with e|hc
   .subst e;exact absurd rfl (UG.GL x hxm _ V)
   .exact hc.mono λp hp=>aD _ hp
  have SY:dw F (Cf w ((J.heap.size,F.heap.size)::Pt)) vp pv:=fT.cU hP λg V=>by
   rcases V with V|V
   .exact V.elim
   .exact .inr ⟨be,_,_,aF,V.1,V.2⟩
  replace W:Bq w F:=(W.tr r.cg).tr ⟨hK.os,hK.tape,hK.output,hK.size,λk K=>hK.block k (by have:=r.cY;omega) λZ=>by
   rcases hIn k Z with e|hc
   .have:=(r.low 1 _ rfl YH).1;omega
   .rcases hc with hc|⟨hc,_⟩
    .exact hc
    .omega⟩
  clear hm hK UG TU hP Qt hIn hT QF h1c QI hB YH r;generalize (J.heap.size,F.heap.size)::Pt=iv2 at*
  obtain⟨apv,cpv,rfl,hcpv⟩:∃a c,vp= .slice a pv.length c/\pv.length<=c:=by
   obtain⟨-,-,-,a,c,e,Y,-⟩:=SY;exact⟨a,c,e,Y⟩
  have Wp:Ht Fn 500000000:=hAh.mono (aR (Nat.mul_le_mul_right _ (Nat.pow_le_pow_right bv QL)) TJ);clear hAh TN TJ;refine⟨⟨be,be,be⟩,(if M.length=pv.length then 0 else pv.length),M.length-pv.length,M.length-pv.length,?_,be,be,?_⟩
  .split<;>split<;>omega
  have Rn:pv.length<M.length->(if M.length=pv.length then 0 else pv.length)=pv.length:=λh=>by rw[aJ be]
  generalize (if M.length=pv.length then 0 else pv.length)=off at*
  refine⟨Nat×Iv×World,λz=>⟨[(4,pP 0 0),(5,iZ cols),(6,.o (.s 1 0 M.length M.length)),(10,sV apv pv.length cpv),(57,.o (.s 1 off (M.length-pv.length) (M.length-pv.length))),(58,iN (M.length-pv.length)),(59,iZ z.1)],
    [(1,.arr T.row rv'),(0,.box T.solved [.v nls,.v nls,.v nls])],2,z.2.1,z.2.2⟩,λz=>M.length-pv.length-z.1,
   λz=>z.1<=M.length-pv.length/\Bq w z.2.2/\(∀p,p∈iv2->p∈z.2.1)/\dw z.2.2 (Cf w iv2) (.slice apv pv.length cpv) pv/\
    (∀(j:Nat) x qs,rv'[j]? =some x->Fn[j]? =some qs->dx z.2.2 (Cf w iv2) (Cf w iv2) x qs/\qs.length=cols+1+M.length)/\(∀k,pv.length<=k->k<pv.length+z.1->dR Fn k cols=0),?_,?_⟩
  .intro O J r
   exact⟨(0,iv2,J),⟨ce,W.tr r.cg,λp hp=>hp,dw.rel SY r oF,λj x qs Y I=>⟨(SX j x qs Y I).1.rel r oF oF,(SX j x qs Y I).2⟩,λk Y I=>by dsimp only at I;omega⟩,
    sbgn [] r⟩
  clear W SX SY;rintro⟨j,Ps,w3⟩ ⟨hj,W,Pn,SY,SX,hz⟩;dsimp only at hj W Pn SY SX hz ⊢;have Pp:∀{H nx iv O wx J},(∀p,p∈iv2->p∈iv)->Rel H nx iv w.heap.size wx O J->∀g,Cf w iv2 g->J.heap[g]? =wx.heap[g]? :=by
   intro H nx iv O wx J hm r g V;exact rls r oF (V.mono hm)
  apply bS<;>intro WM
  .have WM:j<M.length-pv.length:=by
    have:=aK WM;omega
   have Rn:=Rn be;subst Rn;obtain⟨xr,hxr⟩:=gO rv' (pv.length+j);obtain⟨qs,Yd⟩:=gO Fn (pv.length+j);obtain⟨TA,Uh⟩:=SX _ xr qs hxr Yd;obtain⟨axr,cxr,hxe,hxc,-⟩:=TA.shape;rw[Uh]at hxe hxc;subst hxe;obtain⟨q,hq⟩:=gO qs cols;have Qw:dR Fn (pv.length+j) cols=q:=by
    have:Fn.getD (pv.length+j) []=qs:=by rw[List.getD,Yd];rfl
    rw[dR,this,List.getD,hq];rfl
   obtain⟨adq,cs,rfl,hF,hl⟩:=TA.load hq;obtain⟨b3,a3,n3,c3,b4,a4,n4,c4,rfl,hF⟩:=hF;refine⟨be,.slice (some adq) (cols+1+M.length) cxr,by simpa using hxr,adq,rfl,be,rC b3 a3 n3 c3 b4 a4 n4 c4,rfl,λO J r i x Z=>?_,?_⟩
   .obtain⟨k1,k2⟩:=hl i x Z;rw[aI,cZ (w:=w3) (F:=J) (by rw[da,da];exact Pp Pn r _ k1)];exact k2
   refine cS (cR (GT:=λ_ _ v _=>v=iV (rs q)) (λO J r=>ij (λg V=>rlo r oF g (V.mono Pn)) (cw.cW hF λg V=>Pp Pn r g V)) ?_);rintro O wa v1 wb r L N rfl;have Pr:∀g,Cf w iv2 g->wb.heap[g]? =w3.heap[g]? :=λg V=>by rw[L.block g (rlo r oF g (V.mono Pn)),Pp Pn r g V]
   replace SY:=dw.cW SY Pr;replace SX:∀(j:Nat) x qs,rv'[j]? =some x->Fn[j]? =some qs->dx wb (Cf w iv2) (Cf w iv2) x qs/\qs.length=cols+1+M.length:=λj x qs Y I=>⟨(SX j x qs Y I).1.cW λg V=>Pr g (V.elim id id),(SX j x qs Y I).2⟩
   replace hF:=cw.cW hF Pr;replace TA:=TA.cW λg V=>Pr g (V.elim id id)
   replace hl:∀k u,[Value.bool b3,.slice a3 n3 c3,.bool b4,.slice a4 n4 c4][k]? =some u->Cf w iv2 adq.block/\wb.cell? ((adq.add (cols*4)).add k)=some u:=λk u hu=>⟨(hl k u hu).1,by
    rw[cZ (w:=w3) (F:=wb) (by rw[da,da];exact Pr _ (hl k u hu).1)]
    exact(hl k u hu).2⟩
   replace W:=W.tr N;replace Pn:∀p,p∈iv2->p∈(wa.heap.size,wb.heap.size)::Ps:=λp hp=>aD _ (Pn p hp);clear r L N Pr;generalize (wa.heap.size,wb.heap.size)::Ps=QA at*
   apply bS<;>intro h0
   .have h0:q≠0:=λe=>by rw[e]at h0;exact absurd h0 bv
    have hqsd:Fn.getD (pv.length+j) []=qs:=by rw[List.getD,Yd];rfl
    have hqA:=Wp.at Yd;have hrlq:=hqA q (aG hq);have SB:=TA.from (k:=cols+1) be;have S7:(qs.drop (cols+1)).length=M.length:=by rw[List.length_drop,Uh];omega
    rw[show cols+1+M.length-(cols+1)=M.length by omega]at SB;refine⟨((cols+1:Nat):Int),wo,⟨be,be,be⟩,(if (cxr:Int)=((cols+1:Nat):Int)then some adq else(some adq).map (·.add ((cols+1)*4))),M.length,cxr-(cols+1),rfl,be,be,?_⟩;generalize (if (cxr:Int)=((cols+1:Nat):Int)then some adq else(some adq).map (·.add ((cols+1)*4)))=adp at*
    refine cS (cR (GT:=λ_ J v F=>gX F (Cf w iv2) v M.length (qs.drop (cols+1))/\∀g,v.ownBlock=some g->J.heap.size<=g/\g<F.heap.size) (λO J r=>?_) ?_)
    .have:=Mp (w:=J) (λg V=>rlo r oF g (V.mono Pn)) (λg V=>rlo r oF g (V.mono Pn)) (SB.cW λg V=>Pp Pn r g (V.elim id id)) (by rw[S7];omega) (by rw[S7];omega);rw[S7]at this;exact this
    rintro O wa v1 wb' r L N ⟨hP,hpb⟩;have hpT:∀g,v1.ownBlock=some g->¬Cf w iv2 g:=λg V h=>by have:=rlo r oF g (h.mono Pn);have:=(hpb g V).1;omega
    have XL:∀g,v1.ownBlock=some g->Cf w ((wa.heap.size,wb'.heap.size)::QA) g:=λg V=>.inr ⟨by have:=(hpb g V).1;have:=r.cY;omega,_,_,aF,(hpb g V).1,(hpb g V).2⟩;have Pr:∀g,Cf w iv2 g->wb'.heap[g]? =wb.heap[g]? :=λg V=>by rw[L.block g (rlo r oF g (V.mono Pn)),Pp Pn r g V]
    replace hF:=cw.cW hF Pr
    replace hl:∀k u,[Value.bool b3,.slice a3 n3 c3,.bool b4,.slice a4 n4 c4][k]? =some u->Cf w iv2 adq.block/\wb'.cell? ((adq.add (cols*4)).add k)=some u:=λk u hu=>⟨(hl k u hu).1,by
     rw[cZ (w:=wb) (F:=wb') (by rw[da,da];exact Pr _ (hl k u hu).1)]
     exact(hl k u hu).2⟩
    replace W:=W.tr N;replace Pn:∀p,p∈iv2->p∈(wa.heap.size,wb'.heap.size)::QA:=λp hp=>aD _ (Pn p hp);clear r L N Pr SB TA SY SX hpb;generalize (wa.heap.size,wb'.heap.size)::QA=QE at*
    obtain⟨ap',cp',rfl,-⟩:=hP.form;refine dP [.x 0,.x 2,.x 3,.x 4,.x 5,.x 1,.x 6,.x 7] ?_;refine⟨adq,rfl,be,rC b3 a3 n3 c3 b4 a4 n4 c4,rfl,λO J r i x Z=>?_,?_⟩
    .obtain⟨k1,k2⟩:=hl i x Z;rw[aI,cZ (w:=wb') (F:=J) (by rw[da,da];exact Pp Pn r _ k1)];exact k2
    refine cR (GT:=λ_ J v F=>cw F (Nf J F) v (((1:Int):Rat))) (λO J r=>iI 1 J bv bv) ?_;rintro O wa v1 wc r L Pu hO;have Qb:=hO.ef (S:=FF) r.cY (iv:=(wa.heap.size,wc.heap.size)::QE) aF;have Pr:∀g,Cf w QE g->wc.heap[g]? =wb'.heap[g]? :=λg V=>by rw[L.block g (rlo r oF g V),rls r oF V]
    replace hF:=cw.cW hF λg V=>Pr g (V.mono Pn);replace hP:=hP.cW λg V=>Pr g (V.elim (λh=>h.mono Pn) (XL g));replace W:=W.tr Pu;replace Pn:∀p,p∈iv2->p∈(wa.heap.size,wc.heap.size)::QE:=λp hp=>aD _ (Pn p hp);replace XL:∀g,(Value.slice ap' M.length cp').ownBlock=some g->Cf w ((wa.heap.size,wc.heap.size)::QE) g:=λg V=>(XL g V).cons;clear r L Pu hO hl Pr;generalize (wa.heap.size,wc.heap.size)::QE=Q8 at*
    obtain⟨b5,a5,n5,c5,b6,a6,n6,c6,rfl⟩:=Qb.shape;have Rx:(((1:Int):Rat))=1:=rfl;rw[Rx]at Qb;refine cR (GT:=λ_ J v F=>cw F (Nf J F) v (1 / q)) (λO J r=>JG (rlo r oF) (Qb.rel r oF) (cw.cU (cw.cW hF λg V=>Pp Pn r g V) λg V=>V.mono Pn) bv be h0) ?_;rintro O wa v1 wd r L Pu hO;have hQN:=hO.ef (S:=FF) r.cY (iv:=(wa.heap.size,wd.heap.size)::Q8) aF;have hQp:∀g,Nf wa wd g->(Value.slice ap' M.length cp').ownBlock≠some g:=λg V e=>by
     rcases V with V|V
     .exact V.elim
     .have:=rlo r oF g (XL g e);omega
    have hQ2:cw wd (λg=>Cf w ((wa.heap.size,wd.heap.size)::Q8) g/\(Value.slice ap' M.length cp').ownBlock≠some g) v1 (1 / q):=hO.cU λg V=>⟨V.ef r.cY aF,hQp g V⟩
    have Pr:∀g,Cf w Q8 g->wd.heap[g]? =wc.heap[g]? :=λg V=>by rw[L.block g (rlo r oF g V),rls r oF V]
    replace hP:=hP.cW λg V=>Pr g (V.elim (λh=>h.mono Pn) (XL g));replace W:=W.tr Pu;replace Pn:∀p,p∈iv2->p∈(wa.heap.size,wd.heap.size)::Q8:=λp hp=>aD _ (Pn p hp);replace XL:∀g,(Value.slice ap' M.length cp').ownBlock=some g->Cf w ((wa.heap.size,wd.heap.size)::Q8) g:=λg V=>(XL g V).cons;clear r L Pu hO hF Qb Pr hQp;generalize (wa.heap.size,wd.heap.size)::Q8=RJ at*
    obtain⟨b7,a7,n7,c7,b8,a8,n8,c8,rfl⟩:=hQN.shape;have hinv:=uM h0;refine⟨λO J r=>?_⟩;have hPr:=(hP.cW (F:=J) λg V=>rls r oF (V.elim (λh=>h.mono Pn) (XL g))).cU (S':=λg=>Cf w RJ g/\(Value.slice ap' M.length cp').ownBlock≠some g) λg V=>⟨V.mono Pn,λe=>hpT g e V⟩
    obtain⟨U,RF,Sr,WN⟩:=hPr;refine(wO (λg V=>rlo r oF g V.1) RF WN Sr (cw.cW hQ2 λg V=>rls r oF V.1) (λx Z Q5=>Q5.2 Z) (λx Z=>by have:=hqA x (List.mem_of_mem_drop Z);omega) be).mono λe w4 L=>?_;obtain⟨rfl,QR,css',XK,hr5,YD⟩:=L;have hP2:gX w4 (Nw (λg=>Cf w RJ g/\(Value.slice ap' M.length cp').ownBlock≠some g) J w4) (.slice ap' M.length cp') M.length ((qs.drop (cols+1)).map (· *(1 / q))):=⟨css',XK,hr5,YD⟩
    refine⟨.tuple #[],_,(J.heap.size,w4.heap.size)::RJ,rfl,r.wS (λx Z=>Rel.not r oF (XL x Z)) QR,?_⟩;have hP3:dx w4 (Cf w ((J.heap.size,w4.heap.size)::RJ)) (Cf w ((J.heap.size,w4.heap.size)::RJ)) (.slice ap' M.length cp') ((qs.drop (cols+1)).map (· *(1 / q))):=
     hP2.read.cU (λg V=>(XL g V).cons) λg V=>by
      rcases V with V|V
      .exact V.1.cons
      .exact .inr ⟨by have:=r.cY;omega,_,_,aF,V.1,V.2⟩
    have QD:Bq w w4:=(W.tr r.cg).tr (Bel.grown QR (λg V=>by
     rcases XL g V with h|⟨h,_⟩
     .exact h.elim
     .exact h) r.cY)
    have hsome:∃a,ap'=some a:=by
     rcases XK.2 with⟨_,h9⟩|⟨g,cap,cur,e,_⟩
     .omega
     .injection e with e;exact⟨_,e⟩
    obtain⟨ag,rfl⟩:=hsome;clear hP hQN hQ2 RF WN XK YD QR hP2 r W hpT XL Pn;generalize (J.heap.size,w4.heap.size)::RJ=Sl at*
    intro GE we re;refine⟨_,rfl,QD.tr re.cg,Fn,pv,hApv,.inl ⟨pv.length+j,_,be,be,by rw[Qw];exact h0,λk Y I=>hz k Y I,rfl,⟨ag,_,_,rfl⟩,?_⟩⟩;rw[hqsd,Qw];exact(hP3.rel re oF oF).cU (λg V=>Cv.nw V re) λg V=>Cv.nw V re
   .have h0:q=0:=by
     have Y:(rs q==0)=true:=by simpa using h0
     exact Rat.num_eq_zero.1 (bj.1 (eq_of_beq Y))
    refine inc j ?_;intro I8 w5 r3
    refine⟨(j+1,QA,w5),⟨WM,W.tr r3.cg,Pn,dw.cW SY λg V=>Pp Pn r3 g V,λj x qs Y I=>⟨(SX j x qs Y I).1.cW λg V=>Pp Pn r3 g (V.elim id id),(SX j x qs Y I).2⟩,λk Y I=>?_⟩,
     sbgn [] r3,by dsimp only;omega⟩
    by_cases K:k=pv.length+j
    .rw[K,Qw,h0]
    .exact hz k Y (by dsimp only at I;omega)
  .have WM:j=M.length-pv.length:=by
    have:=aL WM;omega
   have Vi:∀k,pv.length<=k->k<M.length->dR Fn k cols=0:=λk Y I=>hz k Y be;clear hz Rn;refine cS (cR (GT:=λ_ J v F=>eh F FF J.heap.size [(J.heap.size,F.heap.size)] v cols (List.replicate cols 0)) (λO J r=>j4 cols J be) ?_);rintro O wa vx wb r L N Z;have hX:=Z.ef (S:=FF) (iv:=(wa.heap.size,wb.heap.size)::Ps) r.cY aF;have TO:∀g,vx.ownBlock=some g->¬Cf w iv2 g:=λg V h=>by
    have h3:=rlo r oF g (h.mono Pn);rcases Z.new g V with h4|⟨h4,_⟩
    .exact h4
    .omega
   have Pr:∀g,Cf w iv2 g->wb.heap[g]? =w3.heap[g]? :=λg V=>by rw[L.block g (rlo r oF g (V.mono Pn)),Pp Pn r g V]
   replace SY:=dw.cW SY Pr;replace SX:∀(j:Nat) x qs,rv'[j]? =some x->Fn[j]? =some qs->dx wb (Cf w iv2) (Cf w iv2) x qs/\qs.length=cols+1+M.length:=λj x qs Y I=>⟨(SX j x qs Y I).1.cW λg V=>Pr g (V.elim id id),(SX j x qs Y I).2⟩
   have Yf:∀g,vx.ownBlock=some g->w.heap.size<=g:=λg V=>by
    rcases hX.new g V with h4|⟨h4,_⟩
    .exact h4.elim
    .exact h4
   replace W:=W.tr N;replace Pn:∀p,p∈iv2->p∈(wa.heap.size,wb.heap.size)::Ps:=λp hp=>aD _ (Pn p hp);clear r L N Z Pr;generalize (wa.heap.size,wb.heap.size)::Ps=QA at*
   obtain⟨ax,cx,rfl,-⟩:=hX.row.form
   refine⟨Nat×Iv×World,λz=>⟨[(4,pP 0 0),(5,iZ cols),(6,.o (.s 1 0 M.length M.length)),(10,sV apv pv.length cpv),(14,sV ax cols cx),(87,sV apv pv.length cpv),(88,iZ pv.length),(89,iZ z.1)],
     [(1,.arr T.row rv'),(0,.box T.solved [.v nls,.v nls,.v nls])],2,z.2.1,z.2.2⟩,λz=>pv.length-z.1,
    λz=>z.1<=pv.length/\Bq w z.2.2/\(∀p,p∈iv2->p∈z.2.1)/\dw z.2.2 (Cf w iv2) (.slice apv pv.length cpv) pv/\
     (∀(j:Nat) x qs,rv'[j]? =some x->Fn[j]? =some qs->dx z.2.2 (Cf w iv2) (Cf w iv2) x qs/\qs.length=cols+1+M.length)/\
     eh z.2.2 FF w.heap.size z.2.1 (.slice ax cols cx) cols (gj Fn pv cols z.1),?_,?_⟩
   .intro O J r
    exact⟨(0,QA,J),⟨ce,W.tr r.cg,Pn,dw.cW SY λg V=>Pp Pn r g V,λj x qs Y I=>⟨(SX j x qs Y I).1.cW λg V=>Pp Pn r g (V.elim id id),(SX j x qs Y I).2⟩,hX.rel r oF⟩,
     sbgn [] r⟩
   clear W Pn SY SX hX;rintro⟨i,QE,w5⟩ ⟨hi5,W,Pn,SY,SX,hX⟩;dsimp only at hi5 W Pn SY SX hX ⊢;apply bS<;>intro Pk
   .have Pk:=dL Pk;obtain⟨p,S6⟩:=gO pv i;have hpd:pv.getD i 0=p:=by rw[List.getD,S6];rfl
    have VQ:=Th p (aG S6);obtain⟨_,_,_,_,_,XW,_,Sf⟩:=id SY;injection XW with Vt ZL Vu;subst Vt Vu;obtain⟨adp,rfl,kp1,kp2⟩:=Sf i (iV (p:Int)) (by rw[aS,S6];rfl);obtain⟨xr,hxr⟩:=gO rv' i;obtain⟨qs,Yd⟩:=gO Fn i;obtain⟨TA,Uh⟩:=SX _ xr qs hxr Yd;obtain⟨axr,cxr,hxe,hxc,-⟩:=TA.shape;rw[Uh]at hxe hxc;subst hxe;obtain⟨q,hq⟩:=gO qs cols;have Qw:dR Fn i cols=q:=by
     have:Fn.getD i []=qs:=by rw[List.getD,Yd];rfl
     rw[dR,this,List.getD,hq];rfl
    obtain⟨adq,cs,rfl,hF,hl⟩:=TA.load hq;obtain⟨b3,a3,n3,c3,b4,a4,n4,c4,rfl,hF⟩:=hF;refine⟨adp,rfl,be,iV (p:Int),λO J r=>?_,?_⟩
    .rw[aI,ah,cZ (w:=w5) (F:=J) (by rw[da];exact Pp Pn r _ kp1)];exact kp2
    refine⟨be,.slice (some adq) (cols+1+M.length) cxr,by simpa using hxr,adq,rfl,be,rC b3 a3 n3 c3 b4 a4 n4 c4,rfl,λO J r i x Z=>?_,?_⟩
    .obtain⟨k1,k2⟩:=hl i x Z;rw[aI,cZ (w:=w5) (F:=J) (by rw[da,da];exact Pp Pn r _ k1)];exact k2
    have QT:∃g,ax=some ⟨g,0,none⟩:=by
     obtain⟨U,ho,_⟩:=hX.row;rcases ho.2 with⟨_,h0⟩|⟨g,cap,cur,e,_⟩
     .omega
     .injection e with e;exact⟨g,e⟩
    obtain⟨gx,rfl⟩:=QT;refine⟨⟨gx,0,none⟩,rfl,be,?_⟩;intro O J r;obtain⟨_,QT,Y,I,h3,h4,h5⟩:=(hX.rel r oF).store VQ (cw.cU (cw.cW hF λg V=>Pp Pn r g V) λg V=>⟨V.mono Pn,λe=>TO g e V⟩) r oF;injection QT with QT;injection QT with QT;subst QT;have Pr:∀g,Cf w iv2 g->J.heap[g]? =w5.heap[g]? :=λg V=>Pp Pn r g V;replace SY:=dw.cW SY Pr;replace SX:∀(j:Nat) x qs,rv'[j]? =some x->Fn[j]? =some qs->dx J (Cf w iv2) (Cf w iv2) x qs/\qs.length=cols+1+M.length:=λj x qs Y I=>⟨(SX j x qs Y I).1.cW λg V=>Pr g (V.elim id id),(SX j x qs Y I).2⟩
    have hold:∀g,Cf w QE g->g<J.heap.size:=rlo r oF;replace W:=W.tr r.cg;clear r hX TA hF hl Pr kp1 kp2 Sf;refine⟨Y,I,h3,λF RK=>?_⟩;obtain⟨hX,QR,-⟩:=h5 F RK;replace W:Bq w F:=W.tr (Bel.grown QR (λg V=>by injection V with V;subst V;exact Yf gx rfl) (by have:=W.size;omega));have Pr:∀g,Cf w iv2 g->F.heap[g]? =J.heap[g]? :=λg V=>QR.block g (hold g (V.mono Pn)) λe=>by injection e with e;subst e;exact TO _ rfl V
    replace SY:=dw.cW SY Pr;replace SX:∀(j:Nat) x qs,rv'[j]? =some x->Fn[j]? =some qs->dx F (Cf w iv2) (Cf w iv2) x qs/\qs.length=cols+1+M.length:=λj x qs Y I=>⟨(SX j x qs Y I).1.cW λg V=>Pr g (V.elim id id),(SX j x qs Y I).2⟩
    clear Y I h3 h4 h5 RK QR hold Pr;rw[<-Qw,<-hpd,<-jz]at hX;refine inc i ?_;intro I8 w6 r3
    exact⟨(i+1,QE,w6),⟨Pk,W.tr r3.cg,Pn,dw.cW SY λg V=>Pp Pn r3 g V,λj x qs Y I=>⟨(SX j x qs Y I).1.cW λg V=>Pp Pn r3 g (V.elim id id),(SX j x qs Y I).2⟩,hX.rel r3 oF⟩,
     sbgn [] r3,by dsimp only;omega⟩
   .have Pk:i=pv.length:=by
     have:¬i<pv.length:=by simpa using Pk
     omega
    subst Pk;have hxR:=hX.read;clear hX;refine gJ (GT:=λO J v F=>fM F (Nw (λg=>Cf w iv2 g\/g=(O 1).g) J F) v (du Fn pv cols cols)) (H':=[(0,.box T.solved [.v nls,.v nls,.v nls])]) 1 rfl ce ⟨rfl,trivial⟩ rfl (λO J r=>r.nn 1 _ rfl (by intros;simp) ce) (λO J r=>?_) ?_
    .have Pq:=r.low 1 _ rfl (r.nn 1 _ rfl (by intros;simp) ce)
     have ha:=r.Hh (id:=1) (sz:=1) (n:=M.length) rfl (by rw[WO,ah]) mx (λu hu=>by
      obtain⟨i,R⟩:=aj hu;obtain⟨a,cc,e,_⟩:=((SX i u _ R (aE (by rw[UU,<-WO];exact(aH.1 R).1))).1).shape;rw[e]
      rfl)
     refine Mo (n:=cols+1+M.length) (λg V=>?_) (⟨rv',?_,by rw[WO,UU],λi x qs Y I=>?_⟩:fM J _ _ Fn) (dw.cU (dw.cW SY λg V=>Pp Pn r g V) λg V=>.inl V) (λrr XC=>?_) be be be be Th
     .rcases V with V|rfl
      .exact rlo r oF g (V.mono Pn)
      .exact Pq.2
     .rw[UU];exact ha.cU λg V=>.inr V
     .exact((SX i x qs Y I).1.cW λg V=>Pp Pn r g (V.elim id id)).cU (λg V=>.inl V) λg V=>.inl V
     .obtain⟨i,R⟩:=aj XC;have Wh:=(aH.1 R).1;exact(SX i rv'[i] rr (aE be) R).2
    rintro O wa vk wb r L N hkR;have Pq:=r.low 1 _ rfl (r.nn 1 _ rfl (by intros;simp) ce);have TX:fM wb (Cf w (((O 1).g,(O 1).g+1)::(wa.heap.size,wb.heap.size)::QE)) vk (du Fn pv cols cols):=fM.cU hkR λg V=>by
     rcases V with(V|rfl)|V
     .exact(V.mono Pn).cons.cons
     .exact .inr ⟨Pq.1,_,_,aF,be,be⟩
     .exact .inr ⟨by have:=r.cY;omega,_,_,aD _ aF,V.1,V.2⟩
    have Q5:dx wb (Cf w (((O 1).g,(O 1).g+1)::(wa.heap.size,wb.heap.size)::QE)) (Cf w (((O 1).g,(O 1).g+1)::(wa.heap.size,wb.heap.size)::QE)) (.slice ax cols cx) (gj Fn pv cols pv.length):=
     (hxR.cW λg V=>by rw[L.block g (rlo r oF g (V.elim id id)),rls r oF (V.elim id id)]).cU (λg V=>V.cons.cons) λg V=>V.cons.cons
    replace W:=W.tr N;clear r L N hkR hxR SX SY Pq;generalize ((O 1).g,(O 1).g+1)::(wa.heap.size,wb.heap.size)::QE=Q8 at*
    obtain⟨ak,ck,rfl,-⟩:=dG.shape TX;exact rtn W λGE we re=>⟨Fn,pv,hApv,.inr ⟨_,_,Vi,rfl,(Q5.rel re oF oF).cU (λg V=>Cv.nw V re) (λg V=>Cv.nw V re),fM.out TX re oF⟩⟩
def jV(w:World)(S:Nat->Prop)(cs:List Value)(q:Rat):Prop:=∃b a n c b2 a2 n2 c2,cs=(rC b a n c b2 a2 n2 c2)/\dH w S (.agg #[.bool b,.slice a n c,.bool b2,.slice a2 n2 c2]) q
abbrev cd:=dK jV
abbrev dX:=dG cd
section
variable{S S':Nat->Prop}{H:Hp}{nx:Nat}{iv A:Iv}{B:Nat}{w J F:World}{O:Nat->Sx.eD}{v:Value}{qs:List Rat}{cs:List Value}{q:Rat}
def jV.cW(h:jV w S cs q)(K:∀g,S g->F.heap[g]? =w.heap[g]?):jV F S cs q:=by
 obtain⟨b,a,n,c,b2,a2,n2,c2,Y,I⟩:=h;exact⟨b,a,n,c,b2,a2,n2,c2,Y,I.cW K⟩
def jV.cU(h:jV w S cs q)(K:∀g,S g->S' g):jV w S' cs q:=by
 obtain⟨b,a,n,c,b2,a2,n2,c2,Y,I⟩:=h;exact⟨b,a,n,c,b2,a2,n2,c2,Y,I.cU K⟩
def cd.cW(h:cd w S v qs)(K:∀g,S g->F.heap[g]? =w.heap[g]?):cd F S v qs:=by
 obtain⟨U,Y,I,h3,h4⟩:=h;exact⟨U,Y.cW K,I,h3,λj cs x k1 k2=>(h4 j cs x k1 k2).cW K⟩
def cd.cU(h:cd w S v qs)(K:∀g,S g->S' g):cd w S' v qs:=by
 obtain⟨U,Y,I,h3,h4⟩:=h;exact⟨U,Y.cU K,I,h3,λj cs x k1 k2=>(h4 j cs x k1 k2).cU K⟩
def dX.cW(h:dX w S v M)(K:∀g,S g->F.heap[g]? =w.heap[g]?):dX F S v M:=by
 obtain⟨rv,Y,I,h3⟩:=h;exact⟨rv,Y.cW K,I,λi u x k1 k2=>cd.cW (h3 i u x k1 k2) K⟩
def dX.cU(h:dX w S v M)(K:∀g,S g->S' g):dX w S' v M:=by
 obtain⟨rv,Y,I,h3⟩:=h;exact⟨rv,Y.cU K,I,λi u x k1 k2=>cd.cU (h3 i u x k1 k2) K⟩
end
section
variable{S S':Nat->Prop}{H:Hp}{nx:Nat}{iv A:Iv}{B:Nat}{w J F:World}{O:Nat->Sx.eD}{v:Value}{qs:List Rat}
def cd.rel(h:cd w (Cv S B iv) v qs)(r:Rel H nx iv B w O J)(G:∀g,S g->g<B):cd J (Cv S B iv) v qs:=cd.cW h λ_ V=>rls r G V
def cd.cV(h:cd w (Cv S B iv) v qs)(r:Rel H nx iv B w O J)(G:∀g,S g->g<B)(L:Ext J F)(hm:∀p,p∈iv->p∈A):cd F (Cv S B A) v qs:=
 cd.cU (cd.cW (cd.rel h r G) λg V=>L.block g (rlo r G g V)) λ_ V=>V.mono hm
def cd.ef(h:cd F (Nf J F) v qs)(hB:B<=J.heap.size)(hm:(J.heap.size,F.heap.size)∈iv):cd F (Cv S B iv) v qs:=cd.cU h λ_ V=>V.ef hB hm
def cd.out{w0 w1:World}(h:cd w1 (Cv S w0.heap.size iv) v qs)(r:Rel H nx iv w0.heap.size w1 O J)(G:Old S w0):cd J (Nw S w0 J) v qs:=
 cd.cU (cd.rel h r G) λ_ V=>Cv.nw V r
end
section
variable{S S':Nat->Prop}{H:Hp}{nx:Nat}{iv A:Iv}{B:Nat}{w J F:World}{O:Nat->Sx.eD}{v:Value}{M:List (List Rat)}
def dX.rel(h:dX w (Cv S B iv) v M)(r:Rel H nx iv B w O J)(G:∀g,S g->g<B):dX J (Cv S B iv) v M:=dX.cW h λ_ V=>rls r G V
def dX.cV(h:dX w (Cv S B iv) v M)(r:Rel H nx iv B w O J)(G:∀g,S g->g<B)(L:Ext J F)(hm:∀p,p∈iv->p∈A):dX F (Cv S B A) v M:=
 dX.cU (dX.cW (dX.rel h r G) λg V=>L.block g (rlo r G g V)) λ_ V=>V.mono hm
def dX.ef(h:dX F (Nf J F) v M)(hB:B<=J.heap.size)(hm:(J.heap.size,F.heap.size)∈iv):dX F (Cv S B iv) v M:=dX.cU h λ_ V=>V.ef hB hm
def dX.out{w0 w1:World}(h:dX w1 (Cv S w0.heap.size iv) v M)(r:Rel H nx iv w0.heap.size w1 O J)(G:Old S w0):dX J (Nw S w0 J) v M:=
 dX.cU (dX.rel h r G) λ_ V=>Cv.nw V r
end
def kI(G:Old S w)(h:dx w S S v qs)(hl:qs.length<=1000000)(hq:∀q∈qs,rl q<=10000000000):
  eH PG Fd.r9 #[v] w (eV w λv' F=>cd F (Nf w F) v' qs):=by
 obtain⟨a,c,rfl,hc,-⟩:=h.shape;refine wH ce ?_
 refine⟨List (List Value)×Iv×World,λz=>⟨[(3,.o (.w 0 z.1.length)),(6,sV a qs.length c),(7,iZ qs.length),(8,iZ z.1.length)],[(0,.vec T.Rat 4 z.1.flatten)],1,z.2.1,z.2.2⟩,λz=>qs.length-z.1.length,
  λz=>z.1.length<=qs.length/\Bq w z.2.2/\(∀cs∈z.1,cs.length=4)/\(∀cs∈z.1,∀u∈cs,u.oneCell'=true)/\∀(j:Nat) cs q,z.1[j]? =some cs->qs[j]? =some q->jV z.2.2 (Cf w z.2.1) cs q,?_,?_⟩
 .intro O J r
  exact⟨([],[],J),⟨ce,r.cg,ce,ce,ce⟩,Sub.nil 3 T.Rat 4 rfl (by simp[kN,SV.sc,At.sc,ff]) r λI9 r1=>
   sbgn [] r1⟩
 rintro⟨U,iv,w1⟩ ⟨R,W,h4,Y,Qw⟩;dsimp only at R W h4 Y Qw ⊢;have Qj:=fJ h4;have hR:dx w1 S S (.slice a qs.length c) qs:=h.cW λg V=>W.block g (V.elim (G g) (G g));apply bS<;>intro N
 .have N:U.length<qs.length:=by simpa using N
  obtain⟨q,Ul⟩:=gO qs U.length;obtain⟨ad,cs,rfl,hF,Qn⟩:=hR.load Ul;obtain⟨b3,a3,n3,c3,b4,a4,n4,c4,rfl,hF⟩:=hF;have QI:=hq q (aG Ul);refine⟨ad,rfl,be,rC b3 a3 n3 c3 b4 a4 n4 c4,rfl,λO J r i x Z=>?_,?_⟩
  .obtain⟨k1,k2⟩:=Qn i x Z;rw[aI,cZ (w:=w1) (F:=J) (by rw[da,da];exact rls (S:=S) r G (.inl k1))];exact k2
  refine cS (cR (GT:=λ_ J v F=>dH F (Nf J F) v q) (λO J r=>zN (oS G r) (cw.cW hF λg V=>rls (S:=S) r G (.inl V)) be) ?_);rintro O wa v1 wb r L QZ hO;have Qb:=hO.ef (S:=FF) r.cY (iv:=(wa.heap.size,wb.heap.size)::iv) aF;replace Qw:∀(j:Nat) cs q,U[j]? =some cs->qs[j]? =some q->jV wb (Cf w ((wa.heap.size,wb.heap.size)::iv)) cs q:=λj cs q k1 k2=>
   ((Qw j cs q k1 k2).cW λg V=>by exact(L.block g (rlo r oF g V)).trans (rls r oF V)).cU λg V=>V.cons
  replace W:=W.tr QZ;clear r L QZ hO hR hF Qn;generalize (wa.heap.size,wb.heap.size)::iv=iv2 at*
  obtain⟨b5,a5,n5,c5,b6,a6,n6,c6,rfl⟩:=Qb.shape;refine .inl ?_;refine⟨Qj,be,mx,((U.length+1:Nat):Int),wo,?_⟩;intro I8 w3 r3;have RG:(U++[[Value.bool b5,.slice a5 n5 c5,.bool b6,.slice a6 n6 c6]]).length=U.length+1:=by simp
  have ZM:(U++[[Value.bool b5,.slice a5 n5 c5,.bool b6,.slice a6 n6 c6]]).flatten=U.flatten++[Value.bool b5,.slice a5 n5 c5,.bool b6,.slice a6 n6 c6]:=by simp
  refine⟨(U++[rC b5 a5 n5 c5 b6 a6 n6 c6],iv2,w3),⟨by dsimp only;rw[RG];exact N,W.tr r3.cg,λcs hc=>?_,λcs hc u hu=>?_,λj cs p k1 k2=>?_⟩,
   sbgn [(0,3)] r3 ⟨by dsimp only;rw[ZM];rfl,trivial⟩ ⟨by dsimp only;rw[RG];rfl,rfl,rfl,by dsimp only;rw[RG];rfl,trivial⟩,by dsimp only;rw[RG];omega⟩
  .rcases az.1 hc with hc|hc
   .exact h4 cs hc
   .simp at hc;subst hc;rfl
  .rcases az.1 hc with hc|hc
   .exact Y cs hc u hu
   .simp at hc;subst hc;simp at hu;rcases hu with rfl|rfl|rfl|rfl<;>rfl
  .rcases aW j U.length with hj|hj
   .rw[aN hj]at k1;exact(Qw j cs p k1 k2).cW λg V=>rls r3 oF V
   .have Yg:j=U.length:=by have:=(aH.1 k1).1;rw[RG]at this;omega
    subst Yg;rw[aP lr,bV]at k1;simp at k1;rw[Ul]at k2;injection k2 with k2;subst k1 k2;exact⟨b5,a5,n5,c5,b6,a6,n6,c6,rfl,Qb.rel r3 oF⟩
 .have N:U.length=qs.length:=by
   have:¬U.length<qs.length:=by simpa using N
   omega
  intro GE we re;refine⟨_,rfl,W.tr re.cg,U,?_,N,h4,λj cs q k1 k2=>((Qw j cs q k1 k2).cW λg V=>rls re oF V).cU λg V=>Cv.nw V re⟩
  have:=re.ka (id:=0) (sz:=4) (m:=U.length) rfl Qj mx bv (λu hu=>by
   obtain⟨cs,hc,hu⟩:=List.mem_flatten.1 hu
   exact Y cs hc u hu)
  rw[<-N];exact this.cU λg V=>.inr V
def OP(G:Old S w)(h:fM w S v M)(hl:M.length<=1000000)(E:n<=1000000)(Pm:∀r∈M,r.length=n)(hq:∀r∈M,∀q∈r,rl q<=10000000000):
  eH PG Fd.yG #[v] w (eV w λv' F=>dX F (Nf w F) v' M):=by
 obtain⟨a,c,rfl,hc,-⟩:=dG.shape h;refine Ax ce ?_
 refine⟨List Value×Iv×World,λz=>⟨[(3,.o (.w 0 z.1.length)),(6,sV a M.length c),(7,iZ M.length),(8,iZ z.1.length)],[(0,.vec T.nQ 1 z.1)],1,z.2.1,z.2.2⟩,λz=>M.length-z.1.length,
  λz=>z.1.length<=M.length/\Bq w z.2.2/\(∀u∈z.1,u.oneCell'=true)/\∀(j:Nat) u qs,z.1[j]? =some u->M[j]? =some qs->cd z.2.2 (Cf w z.2.1) u qs,?_,?_⟩
 .intro O J r
  exact⟨([],[],J),⟨ce,r.cg,ce,ce⟩,Sub.nil 3 T.nQ 1 rfl (by simp[kN,SV.sc,At.sc,ff]) r λI9 r1=>
   sbgn [] r1⟩
 rintro⟨rv,iv,w1⟩ ⟨R,W,Y,Qw⟩;dsimp only at R W Y Qw ⊢;have hR:fM w1 S (.slice a M.length c) M:=fM.cW h λg V=>W.block g (G g V);apply bS<;>intro N
 .have N:rv.length<M.length:=by simpa using N
  obtain⟨qs,Ul⟩:=gO M rv.length;obtain⟨ad,u,rfl,TA,k1,k2⟩:=dG.load hR Ul;obtain⟨au,cu,rfl⟩:=dG.rowOf TA;have Uh:=Pm qs (aG Ul);refine⟨ad,rfl,be,.slice au qs.length cu,λO J r=>?_,?_⟩
  .rw[aI,cZ (w:=w1) (F:=J) (by rw[da];exact rls (S:=S) r G (.inl k1))];exact k2
  refine cS (cR (GT:=λ_ J v F=>cd F (Nf J F) v qs) (λO J r=>kI (oS G r) (TA.cW λg V=>rls (S:=S) r G (.inl (V.elim id id))) be (hq qs (aG Ul))) ?_);rintro O wa v1 wb r L QZ hO;have Qb:=cd.ef (S:=FF) hO r.cY (iv:=(wa.heap.size,wb.heap.size)::iv) aF;replace Qw:∀(j:Nat) u qs,rv[j]? =some u->M[j]? =some qs->cd wb (Cf w ((wa.heap.size,wb.heap.size)::iv)) u qs:=λj u qs k1 k2=>
   cd.cU (cd.cW (Qw j u qs k1 k2) λg V=>(L.block g (rlo r oF g V)).trans (rls r oF V)) λg V=>V.cons
  replace W:=W.tr QZ;clear r L QZ hO hR TA k1 k2;generalize (wa.heap.size,wb.heap.size)::iv=iv2 at*
  obtain⟨a5,c5,rfl,-,-⟩:=dK.shape Qb;refine .inl ?_;refine⟨ce,be,mx,((rv.length+1:Nat):Int),wo,?_⟩;intro I8 w3 r3;have RG:(rv++[Value.slice a5 qs.length c5]).length=rv.length+1:=by simp
  refine⟨(rv++[.slice a5 qs.length c5],iv2,w3),⟨by dsimp only;rw[RG];exact N,W.tr r3.cg,λu hu=>?_,λj u p k1 k2=>?_⟩,
   sbgn [(0,2)] r3 (hE:=⟨by dsimp only;rw[RG];rfl,rfl,rfl,by dsimp only;rw[RG];rfl,trivial⟩),by dsimp only;rw[RG];omega⟩
  .rcases az.1 hu with hu|hu
   .exact Y u hu
   .simp at hu;subst hu;rfl
  .rcases aW j rv.length with hj|hj
   .rw[aN hj]at k1;exact cd.cW (Qw j u p k1 k2) λg V=>rls r3 oF V
   .have Yg:j=rv.length:=by have:=(aH.1 k1).1;rw[RG]at this;omega
    subst Yg;rw[aP lr,bV]at k1;simp at k1;rw[Ul]at k2;injection k2 with k2;subst k1 k2;exact cd.rel Qb r3 oF
 .have N:rv.length=M.length:=by
   have:¬rv.length<M.length:=by simpa using N
   omega
  intro GE we re;refine⟨_,rfl,W.tr re.cg,rv,?_,N,λj u qs k1 k2=>cd.cU (cd.cW (Qw j u qs k1 k2) λg V=>rls re oF V) λg V=>Cv.nw V re⟩;have:=re.ka (id:=0) (sz:=1) (m:=rv.length) rfl ce mx bv Y;rw[<-N];exact this.cU λg V=>.inr V
def j5(w:World)(t e:TypeId)(a:Option Addr)(n c n' c':Nat)(h:PG.underlying t=some (.slice e)):
  (binOp .neq t (.slice a n c) (.slice none n' c')).run PG w= .ok (.bool a.isSome) w:=by
 have:∀d,(Op.equalIn (d+1) t (.slice a n c) (.slice none n' c')).run PG w= .ok a.isNone w:=λd=>by cases a<;>simp[Op.equalIn,run_underlying h]
 simp only[binOp]
 cases a<;>simp[Op.equal,Op.maxDepth,this 9999]
def aAH(h:∀x∈l,P x)(hq:P q):∀x∈l.set i q,P x:=λx Z=>by
 rcases bL Z with Y|Y
 .exact h x Y
 .rw[Y];exact hq
def IE(H:Ht Fn h)(I:2<=h)(i c:Nat):rl (dR Fn i c)+1<=h:=by
 unfold dR
 cases hA:Fn[i]? with
 |none=>
  have:Fn.getD i []=[]:=by rw[List.getD,hA];rfl
  rw[this];show rl 0+1<=h;exact aR bv I
 |some r=>
  have:Fn.getD i []=r:=by rw[List.getD,hA];rfl
  rw[this];exact kU (H.at hA) I c
def DT(H:Ht Fn h)(I:2<=h)(pv:List Nat)(cols i:Nat):∀x∈gj Fn pv cols i,rl x+1<=h:=by
 induction i with
 |zero=>intro x Z;simp[gj]at Z;rw[Z.2];exact aR bv I
 |succ i ih=>rw[jz];exact aAH ih (IE H I _ _)
def je(Fn:List (List Rat))(pv:List Nat)(cols i:Nat):(gj Fn pv cols i).length=cols:=by
 induction i with
 |zero=>simp[gj]
 |succ i ih=>rw[jz,bQ,ih]
def Kn(H:Ht Fn h)(I:2<=h)(pv:List Nat)(cols c i:Nat):∀x∈jq Fn pv cols c i,rl x+1<=h:=by
 induction i with
 |zero=>
  unfold jq;refine aAH (λx Z=>?_) (aR bv I);rw[bK Z];exact aR bv I
 |succ i ih=>rw[lK];exact aAH ih (by rw[kT];exact IE H I _ _)
def Gj(H:Ht Fn h)(I:2<=h)(pv:List Nat)(cols c:Nat):∀r∈du Fn pv cols c,r.length=cols/\∀x∈r,rl x+1<=h:=λr hr=>by
 unfold du at hr;obtain⟨c',_,rfl⟩:=bA.1 hr;exact⟨tW _ _ _ _ _,Kn H I _ _ _ _⟩
def Gk(Fn:List (List Rat))(pv:List Nat)(cols c:Nat):(du Fn pv cols c).length<=c:=by
 unfold du;rw[aO];exact aR (List.length_filter_le _ _) ce
def CR(M:List (List (Int×Int)))(b:List (Int×Int)):Nat:=if j8 M≠0 then j8 M else if b.length≠M.length then 11 else 0
def aAI(M:List (List (Int×Int)))(b:List (Int×Int))(w F:World)(s:Value):Prop:=∃Fn pv,(Fn,pv)=dF (oT (dS M) (b.map dC)) (dM M)/\
 ((∃j vp,pv.length<=j/\j<M.length/\dR Fn j (dM M)≠0/\(∀k,pv.length<=k->k<j->dR Fn k (dM M)=0)/\s= .agg #[iV 1,nls,nls,vp]/\
   cd F (Nf w F) vp (((Fn.getD j []).drop (dM M+1)).map (· *(1 / dR Fn j (dM M)))))\/
  (∃vx vk,(∀k,pv.length<=k->k<M.length->dR Fn k (dM M)=0)/\s= .agg #[iV 0,vx,vk,nls]/\cd F (Nf w F) vx (gj Fn pv (dM M) pv.length)/\
   dX F (Nf w F) vk (du Fn pv (dM M) (dM M))))
def IF{M:List (List (Int×Int))}(G:Old S w)(h:dQ w S v M)(hu:dJ w S u b)(hf:CR M b=0->(∀r∈M,ue r)/\ue b/\Ht (oT (dS M) (b.map dC)) h0/\2<=h0/\4^M.length*h0<=500000000):
  eH PG Fd.rY #[v,u] w (eV w λv' F=>(CR M b≠0/\v'= .tuple #[.agg #[iV 0,nls,nls,nls],iV (CR M b)])\/
   (CR M b=0/\∃s,v'= .tuple #[s,iV 0]/\aAI M b w F s)):=by
 replace h:=dQ.arg h [];replace hu:=dJ.arg hu [];obtain⟨am,cm,rfl,Rw,-⟩:=dG.shape h;obtain⟨ab,cb,rfl,Qz,-⟩:=dK.shape hu;refine An ce ?_;refine cS (cR (GT:=λ_ _ v _=>v=iV ((CR M b:Nat):Int)) (λO J r=>CQ (rlo r G) (dQ.rel h r G) (dJ.rel hu r G)) ?_);rintro O wa v1 wb r L W rfl;replace h:=dQ.cV (A:=(wa.heap.size,wb.heap.size)::[]) h r G L λx Z=>aD _ Z;replace hu:=dJ.cV (A:=(wa.heap.size,wb.heap.size)::[]) hu r G L λx Z=>aD _ Z;clear r L;generalize (wa.heap.size,wb.heap.size)::[]=iv at*
 refine wj.mk (λh0'=>?_) (λh0'=>?_)
 .have h0':CR M b≠0:=λe=>by rw[e]at h0';simp at h0'
  exact rtn W λGE we re=>.inl ⟨h0',rfl⟩
 have h0':CR M b=0:=by
  have h4:((CR M b:Int)==0)=true:=by simpa using h0'
  have:=eq_of_beq h4;omega
 obtain⟨hf1,hf2,TN,I,TJ⟩:=hf h0';have hE:j8 M=0/\b.length=M.length:=by
  unfold CR at h0';split at h0'
  .rename_i h3;exact absurd h0' h3
  .split at h0'
   .cases h0'
   .rename_i h3 h4;exact⟨be,be⟩
 have hE2:(∀r∈M,r.length=dM M)/\M.length<=60/\dM M<=60:=by
  have h3:=hE.1;unfold j8 at h3;split at h3
  .rename_i h4;split at h3
   .cases h3
   .exact⟨h4,be,be⟩
  .cases h3
 obtain⟨Pm,hRl,Qa⟩:=hE2
 refine cS (cR (GT:=λ_ J v' F=>∃Fn pv,(Fn,pv)=dF (oT (dS M) (b.map dC)) (dM M)/\
   ((∃j vp,pv.length<=j/\j<M.length/\dR Fn j (dM M)≠0/\(∀k,pv.length<=k->k<j->dR Fn k (dM M)=0)/\v'= .agg #[vp,nls,nls]/\(∃a n c,vp= .slice (some a) n c)/\
     dx F (Nf J F) (Nf J F) vp (((Fn.getD j []).drop (dM M+1)).map (· *(1 / dR Fn j (dM M)))))\/
    (∃vx vk,(∀k,pv.length<=k->k<M.length->dR Fn k (dM M)=0)/\v'= .agg #[nls,vx,vk]/\dx F (Nf J F) (Nf J F) vx (gj Fn pv (dM M) pv.length)/\
     fM F (Nf J F) vk (du Fn pv (dM M) (dM M))))) (λO J r=>OO (rlo r G) (dQ.rel h r G) (dJ.rel hu r G) hf1 hf2 Pm hE.2 be be TN I TJ) ?_)
 rintro O wc v1 wd r L N ⟨Fn,pv,hA,Xv⟩;have hinv:=lM (cols:=dM M) TN I;rw[<-hA]at hinv;obtain⟨UU,QL,Th,hAh⟩:=hinv;dsimp only at UU QL Th hAh;rw[yP,aO]at UU QL;have Wp:Ht Fn 500000000:=hAh.mono (aR (Nat.mul_le_mul_right _ (Nat.pow_le_pow_right bv QL)) TJ);replace W:=W.tr N;rcases Xv with⟨j,vp,hj1,Wq,hj3,hj4,rfl,⟨ap,np,cp,rfl⟩,hP⟩|⟨vx,vk,hz,rfl,hX,hK⟩
 .have Tn:dx wd (Cf w ((wc.heap.size,wd.heap.size)::iv)) (Cf w ((wc.heap.size,wd.heap.size)::iv)) (.slice (some ap) np cp) _:=hP.cU (λg V=>V.ef r.cY aF) λg V=>V.ef r.cY aF;clear r L N hP h hu;generalize (wc.heap.size,wd.heap.size)::iv=iv2 at*
  obtain⟨_,_,XW,-,Yo⟩:=Tn.shape;have hrj:∀x∈((Fn.getD j []).drop (dM M+1)).map (· *(1 / dR Fn j (dM M))),rl x<=10000000000:=λx Z=>by
   obtain⟨y,hy,rfl⟩:=bA.1 Z;have Y:rl y+1<=500000000:=by
    cases hAj:Fn[j]? with
    |none=>
     have:Fn.getD j []=[]:=by rw[List.getD,hAj];rfl
     rw[this]at hy;simp at hy
    |some r=>
     have:Fn.getD j []=r:=by rw[List.getD,hAj];rfl
     rw[this]at hy;exact Wp.at hAj y (List.mem_of_mem_drop hy)
   have h2':=j7 y (1 / dR Fn j (dM M));have h3:=uM hj3;have h4:=IE Wp bv j (dM M);omega
  have Tt:(((Fn.getD j []).drop (dM M+1)).map (· *(1 / dR Fn j (dM M)))).length<=1000000:=by
   have hL0:iP (dM M+1+M.length) (oT (dS M) (b.map dC)):=λr hr=>by
    obtain⟨i,R⟩:=aj hr;simp only[oT,List.getElem?_mapIdx,Option.map_eq_some_iff,aS]at R;obtain⟨r1,⟨r0,UB,rfl⟩,rfl⟩:=R;have:=Pm r0 (aG UB);simp[wU];omega
   have hL:=xq (cols:=dM M) hL0;rw[<-hA]at hL;rw[aO,List.length_drop,hL.getD (show j<Fn.length by omega)];omega
  refine⟨true,λO w1 o1 o2=>by simp[eqGuard,SV.den,At.den,j5 w1 T.row T.dN (some ap) np cp 0 0 tF],?_⟩;refine cS (cR (GT:=λ_ J v F=>cd F (Nf J F) v (((Fn.getD j []).drop (dM M+1)).map (· *(1 / dR Fn j (dM M))))) (λO J r=>kI (rlo r oF) (Tn.rel r oF oF) Tt hrj) ?_);rintro O wa v1 wb r L N hO;have Qb:=cd.ef (S:=FF) hO r.cY (iv:=(wa.heap.size,wb.heap.size)::iv2) aF;replace W:=W.tr N;clear r L N hO Tn;generalize (wa.heap.size,wb.heap.size)::iv2=Ps at*
  obtain⟨a5,c5,rfl,-,-⟩:=dK.shape Qb;exact rtn W λGE we re=>.inr ⟨h0',_,rfl,Fn,pv,hA,.inl ⟨j,_,hj1,Wq,hj3,hj4,rfl,cd.out Qb re oF⟩⟩
 .have hXN:dx wd (Cf w ((wc.heap.size,wd.heap.size)::iv)) (Cf w ((wc.heap.size,wd.heap.size)::iv)) vx _:=hX.cU (λg V=>V.ef r.cY aF) λg V=>V.ef r.cY aF;have hKN:=fM.ef (S:=FF) hK r.cY (iv:=(wc.heap.size,wd.heap.size)::iv) aF;clear r L N hX hK h hu;generalize (wc.heap.size,wd.heap.size)::iv=iv2 at*
  obtain⟨ax,cx,rfl,-,-⟩:=hXN.shape;obtain⟨ak,ck,rfl,-,-⟩:=dG.shape hKN;have SK:=je Fn pv (dM M) pv.length;have hxh:=DT Wp bv pv (dM M) pv.length;have hkh:=Gj Wp bv pv (dM M) (dM M);have WD:=Gk Fn pv (dM M) (dM M);refine⟨false,λO w1 o1 o2=>by simp[eqGuard,SV.den,At.den,j5 w1 T.row T.dN none 0 0 0 0 tF],?_⟩;refine dP [.x 0,.x 1,.x 3,.x 4,.x 2,.x 5,.x 6,.x 7,.x 8] ?_;refine cR (GT:=λ_ J v F=>cd F (Nf J F) v (gj Fn pv (dM M) pv.length)) (λO J r=>kI (rlo r oF) (hXN.rel r oF oF) (by rw[SK];omega) (λq hq=>by have:=hxh q hq;omega)) ?_;rintro O wa v1 wb r L N hO;have Qb:=cd.ef (S:=FF) hO r.cY (iv:=(wa.heap.size,wb.heap.size)::iv2) aF;replace hKN:=fM.cV (A:=(wa.heap.size,wb.heap.size)::iv2) hKN r oF L λx Z=>aD _ Z;replace W:=W.tr N;clear r L N hO hXN;generalize (wa.heap.size,wb.heap.size)::iv2=Ps at*
  obtain⟨a5,c5,rfl,-,-⟩:=dK.shape Qb;refine cR (GT:=λ_ J v F=>dX F (Nf J F) v (du Fn pv (dM M) (dM M))) (λO J r=>OP (rlo r oF) (fM.rel hKN r oF) be (show dM M<=1000000 by omega) (λr hr=>(hkh r hr).1) (λr hr q hq=>by have:=(hkh r hr).2 q hq;omega)) ?_;rintro O wa v1 wb r L N hO;have Tn:=dX.ef (S:=FF) hO r.cY (iv:=(wa.heap.size,wb.heap.size)::Ps) aF;replace Qb:=cd.cV (A:=(wa.heap.size,wb.heap.size)::Ps) Qb r oF L λx Z=>aD _ Z;replace W:=W.tr N;clear r L N hO hKN;generalize (wa.heap.size,wb.heap.size)::Ps=QA at*
  obtain⟨a6,c6,rfl,-,-⟩:=dG.shape Tn;exact rtn W λGE we re=>.inr ⟨h0',_,rfl,Fn,pv,hA,.inr ⟨_,_,hz,rfl,cd.out Qb re oF,dX.out Tn re oF⟩⟩
end Go.Ex
namespace Go.Ex
variable{ds l:List Nat}
def dh:List Int->Int
 |[]=>0
 |c::r=>c+65536*dh r
def up(k:Nat):Int:=65536^k
def Dw(k:Nat):up (k+1)=65536*up k:=by rw[up,Int.pow_succ,Int.mul_comm];rfl
def MA(k:Nat):0<up k:=Int.pow_pos bv
def CB(a b:List Int):dh (a++b)=dh a+up a.length*dh b:=by
 induction a with
 |nil=>simp[dh,up]
 |cons c r ih=>rw[List.cons_append,dh,ih,dh,bh,Dw,Int.mul_add,<-Int.mul_assoc];omega
def H5(a:List Int):dh (a.map (- ·))= -dh a:=by
 induction a with
 |nil=>rfl
 |cons c r ih=>rw[List.map_cons,dh,ih,dh];omega
def Dg(l:List Nat):Prop:=∀d∈l,d<65536
def nP(l:List Nat):Int:=dh (l.map λd:Nat=>(d:Int))
def AS(h:Dg l):0<=nP l/\nP l<up l.length:=by
 induction l with
 |nil=>exact⟨Int.le_refl _,bv⟩
 |cons d r ih=>
  have Y:=ih λx Z=>h x (aD _ Z);have I:=h d aF;have e:nP (d::r)=(d:Int)+65536*nP r:=rfl;rw[e,bh,Dw];omega
def dy:List Int->Int->List Nat×Int
 |[],k=>([],k)
 |c::r,k=>(((c+k) % 65536).toNat::(dy r ((c+k) / 65536)).1,(dy r ((c+k) / 65536)).2)
def mS:∀(cs:List Int) (k:Int),dh cs+k=nP (dy cs k).1+up cs.length*(dy cs k).2/\Dg (dy cs k).1/\(dy cs k).1.length=cs.length
 |[],k=>⟨by simp[dh,dy,nP,up],by simp[dy,Dg],rfl⟩
 |c::r,k=>by
  obtain⟨Y,I,h3⟩:=mS r ((c+k) / 65536);have h4:0<=(c+k) % 65536:=Int.emod_nonneg _ bv;have h5:(c+k) % 65536<65536:=Int.emod_lt_of_pos _ bv;have h6:=Int.mul_ediv_add_emod (c+k) 65536;refine⟨?_,λd hd=>?_,by simp[dy,h3]⟩
  .have e:nP (dy (c::r) k).1=(((c+k) % 65536).toNat:Int)+65536*nP (dy r ((c+k) / 65536)).1:=rfl;have e2:(dy (c::r) k).2=(dy r ((c+k) / 65536)).2:=rfl;rw[e,e2,dh,bh,Dw,Int.mul_assoc];omega
  .have e:(dy (c::r) k).1=((c+k) % 65536).toNat::(dy r ((c+k) / 65536)).1:=rfl;rw[e]at hd;rcases List.mem_cons.1 hd with rfl|hd
   .omega
   .exact I d hd
def Dx(cs:List Int)(c k:Int):dy (cs++[c]) k=((dy cs k).1++[((c+(dy cs k).2) % 65536).toNat],(c+(dy cs k).2) / 65536):=by
 induction cs generalizing k with
 |nil=>rfl
 |cons d r ih=>simp only[List.cons_append,dy,ih]
def kz:∀(cs:List Int) (k:Int),(∀c∈cs,-1152921504606846976<=c/\c<=1152921504606846976)-> -1152921504606846976<=k->k<=1152921504606846976-> -1152921504606846976<=(dy cs k).2/\(dy cs k).2<=1152921504606846976
 |[],k,_,Y,I=>⟨Y,I⟩
 |c::r,k,h,Y,I=>by
  have hc:=h c aF;exact kz r _ (λx Z=>h x (aD _ Z)) be be
def dY(n:Nat):List Nat:=if h:n=0 then []else n % 65536::dY (n / 65536)
termination_by n
decreasing_by omega
def mT:dY 0=[]:=by rw[dY];rfl
def rQ{n:Nat}(h:0<n):dY n=n % 65536::dY (n / 65536):=by
 rw[dY,dif_neg be]
def mU(n:Nat):nP (dY n)=n/\Dg (dY n):=by
 induction n using Nat.strongRecOn with
 |_ n ih=>
  rcases bB n with h|h
  .subst h;rw[mT];exact⟨rfl,by simp[Dg]⟩
  .rw[rQ h];obtain⟨Y,I⟩:=ih (n / 65536) be;refine⟨?_,λd hd=>?_⟩
   .have e:nP (n % 65536::dY (n / 65536))=((n % 65536:Nat):Int)+65536*nP (dY (n / 65536)):=rfl;rw[e,Y];omega
   .rcases List.mem_cons.1 hd with rfl|hd
    .omega
    .exact I d hd
def kF{n:Nat}:∀{k:Nat},n<65536^k->(dY n).length<=k
 |0,h=>by
  have:n=0:=by simp at h;exact h
  subst this;rw[mT];simp
 |k+1,h=>by
  rcases bB n with h0|h0
  .subst h0;rw[mT];simp
  .rw[rQ h0,bh];have:=kF (n:=n / 65536) (k:=k) (by rw[Nat.pow_succ]at h;exact Nat.div_lt_of_lt_mul (by rw[bX];exact h));omega
def iL:List Nat->List Nat
 |[]=>[]
 |[a]=>[a]
 |a::b::r=>(a+65536*b)::iL r
def AT:∀(l:List Nat),Dg l->(val (iL l):Int)=nP l/\Lm (iL l)/\(iL l).length=(l.length+1) / 2
 |[],_=>⟨rfl,by simp[iL,Lm],rfl⟩
 |[a],h=>by
  have:=h a ce;exact⟨by simp[iL,val,nP,dh],λx Z=>by simp[iL]at Z;omega,by simp[iL]⟩
 |a::b::r,h=>by
  obtain⟨Y,I,h3⟩:=AT r λx Z=>h x (aD _ (aD _ Z));have ha:=h a ce;have N:=h b ce;refine⟨?_,λx Z=>?_,?_⟩
  .have e:nP (a::b::r)=(a:Int)+65536*((b:Int)+65536*nP r):=rfl;rw[e,<-Y,iL,val];simp only[Int.natCast_add,Int.natCast_mul]
   omega
  .rw[iL]at Z;rcases List.mem_cons.1 Z with rfl|Z
   .omega
   .exact I x Z
  .rw[iL,bh,h3];simp only[bh]
   omega
def pk(ds:List Nat)(k:Nat):List Nat:=(List.range k).map λi=>ds.getD (2*i) 0+65536*ds.getD (2*i+1) 0
def zK(ds:List Nat)(k:Nat):pk ds (k+1)=pk ds k++[ds.getD (2*k) 0+65536*ds.getD (2*k+1) 0]:=by simp[pk,bu]
def xC(ds:List Nat)(k:Nat):(pk ds k).length=k:=by simp[pk]
def MB:∀(ds:List Nat),pk ds ((ds.length+1) / 2)=iL ds
 |[]=>rfl
 |[a]=>by simp[pk,iL,bu]
 |a::b::r=>by
  have ih:=MB r;have e:((a::b::r).length+1) / 2=(r.length+1) / 2+1:=by simp only[bh];omega
  rw[e,iL,<-ih,pk,List.range_succ_eq_map,List.map_cons,List.map_map,pk];congr 1
def MC(h:Dg ds)(k:Nat):Lm (pk ds k):=λx Z=>by
 obtain⟨i,_,rfl⟩:=bA.1 Z;have key:∀j,ds.getD j 0<65536:=λj=>by
  rw[List.getD]
  cases hj:ds[j]? with
  |none=>simp
  |some d=>simp;exact h d (aG hj)
 have Y:=key (2*i);have I:=key (2*i+1);omega
end Go.Ex
namespace Go.Ex
open Go Go.Sx Go.Proofs
variable{cs:List Int}{S:Nat->Prop}{v:Value}{w:World}
def eM(w:World)(S:Nat->Prop)(v:Value)(cs:List Int):Prop:=fT w S 1 v (cs.map (Value.int .i64)) cs.length
def eM.cW{F:World}(h:eM w S v cs)(K:∀g,S g->F.heap[g]? =w.heap[g]?):eM F S v cs:=fT.cW h K
def eM.cU{S':Nat->Prop}(h:eM w S v cs)(K:∀g,S g->S' g):eM w S' v cs:=fT.cU h K
def eM.load{a:Option Addr}{n c j:Nat}{x:Int}(h:eM w S (.slice a n c) cs)(Z:cs[j]? =some x):∃ad,a=some ad/\S ad.block/\w.cell? (ad.add (j*1))=some (iV x):=by
 obtain⟨_,_,_,a',c',e,_,h4⟩:=h;injection e with e1 e2 e3;subst e1;obtain⟨ad,k1,k2,k3⟩:=h4 j (iV x) (by rw[aS,Z];rfl);exact⟨ad,k1,k2,by rw[ah];exact k3⟩
def eM.shape(h:eM w S v cs):∃a c,v= .slice a cs.length c/\cs.length<=c:=by
 obtain⟨_,_,_,a',c',e,h3,_⟩:=h;exact⟨a',c',e,h3⟩
def eW(ds:List Nat):List Int:=ds.map λd:Nat=>(d:Int)
def fE(ds:List Nat):(eW ds).length=ds.length:=by simp[eW]
end Go.Ex
namespace Go.Sx
open Go Go.Ex Go.Proofs
variable{cs:List Value}{O:Nat->Sx.eD}
def Rel.Eb{H:Hp}{nx:Nat}{iv:Iv}{B:Nat}{w J:World}(r:Rel H nx iv B w O J){id t m sz:Nat}(h:dT H id=some (.vec t sz cs))(hm:cs.length=m*sz)(hs:0<sz):
  J.ownsRow B t sz ((At.w id m).den O) m cs:=by
 rcases r.vec id t sz _ h with⟨E,rfl⟩|⟨E,spare,N,hc,RE⟩
 .have UC:m=0:=by
   rcases bB m with h|h
   .exact h
   .have:=Nat.mul_pos h hs;simp at hm;omega
  subst UC;have:(At.w id 0).den O=nls:=by simp[At.den,E]
  rw[this];exact World.ownsRow_nil _ _ _ _
 .have hv:(At.w id m).den O= .slice (some ⟨(O id).g,0,none⟩) m (O id).cap:=by simp[At.den,E]
  have Y:(cs++spare).length=cs.length+spare.length:=aU;rw[hv];refine⟨hm,.inr ⟨(O id).g,(O id).cap,_,rfl,(r.low id _ h E).1,N,?_,RE,by simpa using hc,?_⟩⟩
  .have I:m*sz<=(O id).cap*sz:=by omega
   exact Nat.le_of_mul_le_mul_right I hs
  .rw[<-hm];simp
end Go.Sx
namespace Go.Ex
open Go Go.Sx Go.Proofs
def Gl(n:Nat)(w:World)(E:n<=9223372036854775807):eH PG Fd.wC #[iV n] w (eV w λv F=>eM F (Nf w F) v (eW (dY n))):=by
 refine yo ce ?_
 refine⟨Nat×List Nat×World,λz=>⟨[(0,iZ z.1),(3,.o (.w 0 z.2.1.length))],[(0,.vec T.int 1 ((eW z.2.1).map (Value.int .i64)))],1,[],z.2.2⟩,λz=>z.1,
  λz=>Bq w z.2.2/\z.1<=n/\z.2.1.length<=n-z.1/\z.2.1++dY z.1=dY n,?_,?_⟩
 .intro O J r
  exact⟨(n,[],J),⟨r.cg,lr,ce,ce⟩,Sub.nil 3 T.int 1 rfl (by simp[kN,SV.sc,At.sc,ff]) r λI9 r1=>
   sbgn [] r1⟩
 rintro⟨k,ds,w1⟩ ⟨W,K,hl,hs⟩;dsimp only at W K hl hs ⊢;have S7:=fE ds;apply bS<;>intro h
 .have h:0<k:=by
   have:(k:Int)>0:=aK h;omega
  refine⟨bv,((k % 65536:Nat):Int),lh k 65536,?_⟩;refine .inl ?_;refine⟨by simp[S7],?_,by have Y:=congrArg List.length hs;rw[aU]at Y;have I:=kF (n:=n) (k:=4) be;unfold maxLen;omega,?_⟩
  .have Y:=congrArg List.length hs;rw[aU]at Y;have I:=kF (n:=n) (k:=4) be;omega
  refine⟨bv,((k / 65536:Nat):Int),EO be,?_⟩;intro I8 w3 r3;have XE:(ds++[k % 65536]).length=ds.length+1:=by simp
  have UW:(eW (ds++[k % 65536])).map (Value.int .i64)=(eW ds).map (Value.int .i64)++[iV ((k % 65536:Nat):Int)]:=by simp[eW]
  refine⟨(k / 65536,ds++[k % 65536],w3),⟨W.tr r3.cg,by dsimp only;omega,by dsimp only;rw[XE];omega,?_⟩,
   sbgn [(0,2)] r3 ⟨by rw[UW];rfl,trivial⟩ ⟨rfl,by dsimp only;rw[XE];rfl,trivial⟩,by dsimp only;omega⟩
  dsimp only
  rw[<-hs,rQ h];simp
 .have h:k=0:=by
   have:¬(k:Int)>0:=aL h;omega
  subst h;rw[mT,List.append_nil]at hs;subst hs;intro GE we re;refine⟨_,rfl,W.tr re.cg,?_⟩;have:=re.ka (id:=0) (sz:=1) (m:=(dY n).length) rfl (by simp[S7]) (by have I:=kF (n:=n) (k:=4) be;unfold maxLen;omega) bv (by intro u hu;simp at hu;obtain⟨_,_,rfl⟩:=hu;rfl);unfold eM;rw[S7];exact this.cU λg V=>.inr V
end Go.Ex
