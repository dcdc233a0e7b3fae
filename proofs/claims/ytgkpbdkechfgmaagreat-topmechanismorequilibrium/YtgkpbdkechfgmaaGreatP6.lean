/- Texts X33 to X40: lemmas, each with its conditions. -/
import Derived.Test.YtgkpbdkechfgmaaGreatP5
namespace Go.Ex
open Go Go.Sx Go.Proofs
end Go.Ex
namespace Go.Sx
open Go Go.Ex Go.Proofs
variable{O:Nat->Sx.dw}
theorem Sub.nil{B nx:Nat}{l:Env}{H:Hp}{iv:Iv}{w w':World}{t:yv}(u e sz:Nat)(h9:fu l u=some (sV none 0 0))(R1:kF nx l)(r:Rel H nx iv B w O w')
  (h:∀ρ1,Rel ((nx,.vec e sz [])::H) (nx+1) iv B w ρ1 w'->Sx.Sub B ((u,.o (.w nx 0))::l) (nx+1) ρ1 w' t):Sx.Sub B l nx O w' t:=by
 have r1:=r.push (.vec e sz []) ⟨0,0,true⟩ (w2:=w') rfl rfl rfl (Nat.le_refl _) (fun _ _=>rfl) (fun h=>by cases h) (.inl ⟨rfl,rfl⟩) trivial;obtain⟨ρ',h1,h2⟩:=h _ r1;refine⟨ρ',h1,fun x v hv=>?_⟩;obtain⟨h3,v0,h4,h5⟩:=h2 x v hv;refine⟨h3,?_⟩;rw[fA]at h4;split at h4
 ·rename_i e;subst e;injection h4 with h4;subst h4;refine⟨_,h9,?_⟩;rw[<-h5];simp[SV.den,At.den,eS]
 ·refine⟨v0,h4,?_⟩;rw[<-h5];exact SV.je (fun id PV=>gM id PV) (R1.get _ _ h4)
end Go.Sx
namespace Go.Ex
open Go Go.Sx Go.Proofs
variable{M:List (List Rat)}{qs:List Rat}{rv:List Value}{k n:Nat}{S:Nat->Prop}{O:Nat->Sx.dw}{am:Option Addr}{v vm:Value}{w:World}
theorem kB{H:Hp}{nx:Nat}{iv:Iv}{B:Nat}{w':World}{a:Addr}{x:Value}(h:w.cell? a=some x)(hb:Out B iv a.block)(r:Rel H nx iv B w O w'):w'.cell? a=some x:=by
 rw[cI (Rel.same r (fun _ h=>h) hb)];exact h
structure aAe(w:World)(S:Nat->Prop)(rv:List Value)(n:Nat)(M:List (List Rat))(gm k c g ck:Nat)(q:Rat)(d1:Bool)(e1:Option Addr)(m1 k1:Nat)(d2:Bool)(e2:Option Addr)(m2 k2:Nat):Prop where
 rv:rv[k]? =some (.slice (some ⟨g,0,none⟩) n ck)
 at_:dK M k c=q
 aAT:cZ w S (.agg #[.bool d1,.slice e1 m1 k1,.bool d2,.slice e2 m2 k2]) q
 outer:w.cell? (Addr.add ⟨gm,0,none⟩ (k*1))=some (.slice (some ⟨g,0,none⟩) n ck)
 cells:∀j u,[Value.bool d1,.slice e1 m1 k1,.bool d2,.slice e2 m2 k2][j]? =some u->w.cell? ((Addr.add ⟨g,0,none⟩ (c*4)).add j)=some u
theorem im.outer{R cm:Nat}(h:im w S (.slice am R cm) rv n M)(hk:rv[k]? =some v):
  ∃gm,am=some ⟨gm,0,none⟩∧w.cell? (Addr.add ⟨gm,0,none⟩ (k*1))=some v:=by
 rcases h.out.2 with⟨h1,h0⟩|⟨gm,cap,cur,e,_⟩
 ·have:=(aE.1 hk).1;omega
 ·injection e with e1 e2 e3;refine⟨gm,e1,?_⟩;have:=h.out.cells (g:=gm) (by rw[e1];rfl) k v hk;rw[aZ];exact this
theorem im.elem{R cm:Nat}(h:im w S (.slice am R cm) rv n M){c:Nat}(hk:k<rv.length)(hc:c<n):
  ∃gm g ck q d1 e1 m1 k1 d2 e2 m2 k2,am=some ⟨gm,0,none⟩∧aAe w S rv n M gm k c g ck q d1 e1 m1 k1 d2 e2 m2 k2:=by
 obtain⟨v,hv⟩:∃v,rv[k]? =some v:=⟨_,aA hk⟩
 obtain⟨qs,WD⟩:∃qs,M[k]? =some qs:=⟨_,aA (by rw[<-h.len];exact hk)⟩
 obtain⟨css,OV,Pf,PS⟩:=h.row k v qs hv WD;obtain⟨a,ck,rfl,_⟩:=fF OV;obtain⟨cs,PI⟩:∃cs,css[c]? =some cs:=⟨_,aA (by omega)⟩
 obtain⟨q,hq⟩:∃q,qs[c]? =some q:=⟨_,aA (by rw[<-PS.1];omega)⟩
 obtain⟨g,rfl,Oy⟩:=qp OV PS PI;obtain⟨d1,e1,m1,k1,d2,e2,m2,k2,rfl,hF⟩:=PS.2 c cs q PI hq;obtain⟨gm,rfl,ho⟩:=h.outer hv;exact⟨gm,g,ck,q,d1,e1,m1,k1,d2,e2,m2,k2,rfl,hv,by simp[dK,List.getD,WD,hq],hF,ho,Oy⟩
theorem ED{α:Type}{xs:List α}{j:Nat}{v:α}(h:j<xs.length):xs.take (j*1)++[v]++xs.drop (j*1+1)=xs.set j v:=by
 rw[aZ,List.set_eq_take_append_cons_drop,if_pos h];simp
theorem im.aBA(h:im w S vm rv n M)(hv:rv[k]? =some v)(hq:M[k]? =some qs)(hn:n<=maxLen):
  fU w (fun g=>v.ownBlock=some g) S v qs∧qs.length=n:=by
 obtain⟨css,h1,h2,h3⟩:=h.row k v qs hv hq;have hl:qs.length=n:=by rw[<-h3.1,h2]
 refine⟨⟨css,?_,h3⟩,hl⟩;rw[hl];rcases h1.2 with⟨rfl,rfl⟩|⟨g,cap,cur,rfl,hb,hc,Uy,QS,PH,RM⟩
 ·refine⟨hn,h1.1,h3.one,none,0,rfl,Nat.le_refl _,fun j u hu=>?_⟩;have:=h1.1;rw[Nat.zero_mul]at this;rw[List.eq_nil_of_length_eq_zero this]at hu
  cases hu
 ·refine⟨hn,h1.1,h3.one,_,cap,rfl,Uy,fun j u hu=>⟨_,rfl,rfl,?_⟩⟩;exact h1.cells (g:=g) rfl j u hu
theorem MJ{cols h0:Nat}(hS:Old S w)(hM:im w S vm rv n M)(RT:∀g,S g->¬Mb vm rv g)(hn:n<=1000000)(hR:M.length<=1000000)(Pw:cols<=n)
  (VV:Ht M h0) (h2:2<=h0) (hb:4^M.length*h0<=500000000):
  eG PG N.uN #[vm,.int .i64 cols] w (fun e w2=>∃v rv',e= .returned v∧Kept w w2 (Mb vm rv)∧im w2 (Nw S w w2) vm rv' n (cN M cols).1∧(∀g,Mb vm rv' g↔Mb vm rv g)∧
   iR w2 (Nf w w2) 1 v ((cN M cols).2.map fun c:Nat=>.int .i64 (c:Int)) (cN M cols).2.length):=by
 have Oa:=hM.low;have QI:∀iv g,Mb vm rv g->Out w.heap.size iv g:=fun iv g hg=>.inl (Oa g hg);have TC:∀iv g,Cv S w.heap.size iv g->¬Mb vm rv g:=fun iv g h hg=>by
  rcases h with h|⟨h,_⟩
  ·exact RT g h hg
  ·have:=Oa g hg;omega
 obtain⟨am,cm,rfl,Rt⟩:=fF hM.out;have hlen:=hM.len;generalize hRdef:rv.length=R at*
 have hMl:=hlen;replace hM:=hM.cL (S':=Cv S w.heap.size []) fun _ h=>.inl h;refine yC (by simp) ?_;conv=>whnf
 refine⟨Nat×List Value×List (List Rat)×List Nat×Iv×World,fun z=>⟨[(0,sV am R cm),(1,iZ cols),(5,.o (.w 0 z.2.2.2.1.length)),(6,iZ z.1)],
   [(0,.vec T.int 1 (z.2.2.2.1.map fun c:Nat=>.int .i64 (c:Int)))],1,z.2.2.2.2.1,z.2.2.2.2.2⟩,fun z=>cols-z.1,
  fun z=>z.1<=cols∧Kept w z.2.2.2.2.2 (Mb (.slice am R cm) rv)∧im z.2.2.2.2.2 (Cv S w.heap.size z.2.2.2.2.1) (.slice am R cm) z.2.1 n z.2.2.1∧(∀g,Mb (.slice am R cm) z.2.1 g↔Mb (.slice am R cm) rv g)∧
   z.2.1.length=R∧(z.2.2.1,z.2.2.2.1)=(List.range z.1).foldl dX (M,[])∧z.2.2.2.1.length<=R∧Ht z.2.2.1 (4^z.2.2.2.1.length*h0),?_,?_⟩
 ·intro O w' r
  refine⟨(0,rv,M,[],[],w'),⟨by simp,Kept.refl.cU r.cU (Nat.le_refl _),hM.rel r hS Oa,fun g=>Iff.rfl,hRdef,rfl,by simp,by simpa using VV⟩,Sub.nil 5 T.int 1 rfl (by simp[kF,SV.sc,At.sc,fm]) r fun ρ1 r1=>
   Sub.gn [] r1⟩
 clear hM;rintro⟨c,rv1,M1,pv,iv,w1⟩ ⟨hc,hK,hM,Sk,Pm,TD,Pb,hht1⟩;dsimp only at hc hK hM Sk Pm TD Pb hht1 ⊢;have hlM:M1.length=R:=by rw[<-hM.len,Pm]
 have SS:w1.ownsRow 0 T.row 1 (.slice am R cm) R rv1:=by have:=hM.out;rwa [Pm]at this
 have htot:cols<=c∨R<=pv.length->(M1,pv)=cN M cols:=fun h=>by
  unfold cN;rcases h with h|h
  ·have:c=cols:=by omega
   rw[TD,this]
  ·have h3:List.range cols=List.range c++(List.range (cols-c)).map (c+ ·):=by
    rw[<-List.range_add];congr 1;omega
   rw[h3,List.foldl_append,<-TD,zw (by simp only;omega)]
 conv=>whnf
 refine dN.mk ?_ ?_<;>intro h
 ·have h:c<cols:=by simpa using h
  conv=>whnf
  refine⟨by simp,?_⟩;conv=>whnf
  refine dN.mk ?_ ?_<;>intro hp
  ·have hp:pv.length<R:=by simpa using hp
   have QD:∀{v:Value} {k gx:Nat},rv1[k]? =some v->v.ownBlock=some gx->Mb (.slice am R cm) rv gx:=fun h1 h2=>(Sk _).1 (.inr ⟨_,aD h1,h2⟩);conv=>whnf
   refine⟨by simp,?_⟩;conv=>whnf
   refine⟨Nat×Iv×World,fun z=>⟨[(0,sV am R cm),(1,iZ cols),(5,.o (.w 0 pv.length)),(6,iZ c),(7,iZ pv.length),(8,iZ z.1)],
     [(0,.vec T.int 1 (pv.map fun c:Nat=>.int .i64 (c:Int)))],1,z.2.1,z.2.2⟩,fun z=>R-z.1,
    fun z=>pv.length<=z.1∧z.1<=R∧Kept w z.2.2 (Mb (.slice am R cm) rv)∧im z.2.2 (Cv S w.heap.size z.2.1) (.slice am R cm) rv1 n M1∧fy M1 c (R-z.1) z.1=fy M1 c (R-pv.length) pv.length,?_,?_⟩
   ·intro O w' r
    exact⟨(pv.length,iv,w'),⟨Nat.le_refl _,by dsimp only;omega,hK.cU r.cU (Nat.le_refl _),hM.rel r hS (fun g hg=>Oa g ((Sk g).1 hg)),rfl⟩,
     Sub.gn [] r⟩
   clear hK hM SS;rintro⟨k,OX,w2⟩ ⟨SU,hkR,hK,hM,hfk⟩;dsimp only at SU hkR hK hM hfk ⊢;conv=>whnf
   refine dN.mk ?_ ?_<;>intro hk
   ·have hk:k<R:=by simpa using hk
    obtain⟨gm,g,ck,q,d1,e1,m1,k1,d2,e2,m2,k2,rfl,hE⟩:=hM.elem (k:=k) (c:=c) (by omega) (by omega);have WE:=QD hE.rv rfl;conv=>whnf
    refine⟨⟨gm,0,none⟩,rfl,by omega,?_⟩;conv=>whnf
    refine⟨.slice (some ⟨g,0,none⟩) n ck,fun O w' r=>kB hE.outer (QI _ _ (.inl (by rw[dC];rfl))) r,?_⟩;conv=>whnf
    refine⟨⟨g,0,none⟩,rfl,by omega,?_⟩;conv=>whnf
    refine⟨[.bool d1,.slice e1 m1 k1,.bool d2,.slice e2 m2 k2],rfl,fun O w' r j x hx=>kB (hE.cells j x hx) (QI _ _ (by rw[dC,dC];exact WE)) r,?_⟩;conv=>whnf
    refine cH (cM (Φ:=fun _ _ v _=>v= .int .i64 (rs q)) (fun O w' r=>uy (Rel.old r hS) (hE.aAT.rel r hS)) ?_);rintro O wa v1 wb r he PQ rfl;replace hM:=hM.cK (iv':=(wa.heap.size,wb.heap.size)::OX) r hS (fun g hg=>Oa g ((Sk g).1 hg)) he fun x hx=>aC _ hx;replace hK:=hK.cU PQ (Nat.le_refl _);have hq:=hE.at_;clear r he PQ hE WE;generalize (wa.heap.size,wb.heap.size)::OX=Oh at*
    conv=>whnf
    refine dN.mk ?_ ?_<;>intro h0
    ·have h0:q=0:=by
      have:rs q=0:=eq_of_beq h0;exact Rat.num_eq_zero.1 (bm.1 this)
     have Oi:fy M1 c (R-(k+1)) (k+1)=fy M1 c (R-pv.length) pv.length:=by
      rw[<-hfk,show R-k=(R-(k+1))+1 by omega,zE (by rw[hq,h0])]
     conv=>whnf
     refine⟨((k+1:Nat):Int),wo,?_⟩;conv=>whnf
     intro ρ3 w3 r3
     exact⟨(k+1,Oh,w3),⟨by dsimp only;omega,hk,hK.cU r3.cU (Nat.le_refl _),hM.rel r3 hS (fun g hg=>Oa g ((Sk g).1 hg)),Oi⟩,
      Sub.gn [] r3,by dsimp only;omega⟩
    ·have h0':q≠0:=fun e=>by rw[e]at h0;exact absurd h0 (by decide)
     clear h0;have hfk2:fy M1 c (R-pv.length) pv.length=k:=by
      rw[<-hfk,show R-k=(R-(k+1))+1 by omega,zG (by rw[hq];exact h0')]
     conv=>whnf
     refine dN.mk ?_ ?_<;>intro Tv
     ·exact absurd (eq_of_beq Tv) (by omega)
     clear Tv;conv=>whnf
     refine cQ hτ dx [.x 0,.x 1,.x 2,.x 3,.x 4,.x 5,.x 6,.x 7,.x 8,.x 9,.x 10,.x 11,.x 12,.x 13,.x 14,.x 15] (by kernel_rfl) (by kernel_rfl) ?_;conv=>whnf
     obtain⟨vk,hvk⟩:∃v,rv1[k]? =some v:=⟨_,aA (by omega)⟩
     obtain⟨va,UE⟩:∃v,rv1[pv.length]? =some v:=⟨_,aA (by omega)⟩
     obtain⟨_,Qd,OZ⟩:=hM.outer hvk;injection Qd with Qd;injection Qd with Qd;subst Qd;obtain⟨_,Qd,hoa⟩:=hM.outer UE;injection Qd with Qd;injection Qd with Qd;subst Qd;obtain⟨cssk,hrk,-,-⟩:=hM.row k vk M1[k] hvk (aA (by omega));obtain⟨cssa,Tl,-,-⟩:=hM.row pv.length va M1[pv.length] UE (aA (by omega));obtain⟨ak,ck',rfl,-⟩:=fF hrk;obtain⟨aa,ca,rfl,-⟩:=fF Tl;clear hrk Tl;have Tm:∀{iv x},Out w.heap.size iv ((Addr.add ⟨gm,0,none⟩ x).block):=fun{iv x}=>QI _ _ (.inl (by rw[dC];rfl));refine⟨⟨gm,0,none⟩,rfl,by omega,?_⟩;conv=>whnf
     refine⟨.slice ak n ck',fun O w' r=>kB OZ Tm r,?_⟩;conv=>whnf
     refine⟨⟨gm,0,none⟩,rfl,by omega,?_⟩;conv=>whnf
     refine⟨.slice aa n ca,fun O w' r=>kB hoa Tm r,?_⟩;conv=>whnf
     refine⟨⟨gm,0,none⟩,rfl,by omega,?_⟩;conv=>whnf
     intro O w' r;have Wt:(⟨gm,0,none⟩:Addr).add ((pv.length:Int).toNat*1)=⟨gm,pv.length*1,none⟩:=by rw[aF,dI,aW]
     have PY:(⟨gm,0,none⟩:Addr).add ((k:Int).toNat*1)=⟨gm,k*1,none⟩:=by rw[aF,dI,aW]
     have hMw:=hM.rel r hS (fun g hg=>Oa g ((Sk g).1 hg));obtain⟨g',Qg,hok1,Wu,US,hsz1⟩:=j1 (nv:=[.slice ak n ck']) hMw.out (by rw[Pm]) (show pv.length<rv1.length by omega) rfl (by decide);injection Qg with Qg;injection Qg with Qg;subst Qg;rw[ED (by omega)]at Wu;have PR:=fun id b hb hn=>Rel.not (S:=fun g=>g<w.heap.size) r (fun _ h=>h) (QI Oh gm (.inl rfl)) id b hb hn;have hgm1:gm<w'.heap.size:=by have:=Oa gm (.inl rfl);have:=r.cG;omega
     have hK1:Kept w (setCells w' ⟨gm,pv.length*1,none⟩ [.slice ak n ck']) (Mb (.slice (some ⟨gm,0,none⟩) R cm) rv):=(hK.cU r.cU (Nat.le_refl _)).row US (fun g hg=>.inl hg);have hold:∀g,Cv S w.heap.size Oh g∨Mb (.slice (some ⟨gm,0,none⟩) R cm) rv1 g->g<w'.heap.size:=fun g hg=>hg.elim (Rel.old r hS g) (fun hg=>by have:=Oa g ((Sk g).1 hg);have:=r.cG;omega);clear hK hM OZ hoa r;refine⟨by rw[Wt],fun j hj=>by rw[Wt];exact hok1 j hj,fun id b hb hn=>by rw[Wt];exact PR id b hb hn,fun w4 hw4=>?_⟩;have hw4:w4=setCells w' ⟨gm,pv.length*1,none⟩ [.slice ak n ck']:=by rw[hw4];exact congrArg (fun x=>setCells w' x _) Wt
     rw[<-hw4]at hK1 Wu US hsz1;clear hw4 hok1 PR;conv=>whnf
     refine⟨⟨gm,0,none⟩,rfl,by omega,?_⟩;conv=>whnf
     intro O w5 r;have TB:=fa Wu (fun g hg=>QI Oh g (.inl hg)) r;obtain⟨g',Qg,hok2,hst3,UT,hsz2⟩:=j1 (nv:=[.slice aa n ca]) TB (by rw[Pm]) (show k<rv1.length by omega) rfl (by decide);injection Qg with Qg;injection Qg with Qg;subst Qg;rw[ED (by simp;omega)]at hst3;have PR:=fun id b hb hn=>Rel.not (S:=fun g=>g<w.heap.size) r (fun _ h=>h) (QI Oh gm (.inl rfl)) id b hb hn;have Q7:Kept w (setCells w5 ⟨gm,k*1,none⟩ [.slice aa n ca]) (Mb (.slice (some ⟨gm,0,none⟩) R cm) rv):=(hK1.cU r.cU (Nat.le_refl _)).row UT (fun g hg=>.inl hg);have QE:∀g,Cv S w.heap.size Oh g∨Mb (.slice (some ⟨gm,0,none⟩) R cm) rv1 g->(Value.slice (some ⟨gm,0,none⟩) R cm).ownBlock≠some g->(setCells w5 ⟨gm,k*1,none⟩ [.slice aa n ca]).heap[g]? =w'.heap[g]? :=fun g hg OY=>by
      have WV:some g≠some gm:=fun e=>OY e.symm;have h3:w4.heap[g]? =w'.heap[g]? :=US.block g (hold g hg) WV;have h4:w5.heap[g]? =w4.heap[g]? :=hg.elim (fun hg=>Rel.same r hS hg) (fun hg=>Rel.same (S:=fun g=>g<w.heap.size) r (fun _ h=>h) (QI Oh g ((Sk g).1 hg)));have h5:=UT.block g (by have:=hold g hg;have:=r.size;omega) WV;rw[h5,h4,h3]
     have Rs:=hMw.swap (fun g hg hm=>TC Oh g hg ((Sk g).1 hm)) UE hvk hst3 QE;have R8:∀g,Mb (.slice (some ⟨gm,0,none⟩) R cm) ((rv1.set pv.length (.slice ak n ck')).set k (.slice aa n ca)) g↔Mb (.slice (some ⟨gm,0,none⟩) R cm) rv g:=fun g=>(Mb.swap UE hvk).trans (Sk g);have SI:((rv1.set pv.length (.slice ak n ck')).set k (.slice aa n ca)).length=R:=by simp[Pm]
     clear hK1 hMw Wu TB r QE hold US hst3 QD;refine⟨by rw[PY],fun j hj=>by rw[PY];exact hok2 j hj,fun id b hb hn=>by rw[PY];exact PR id b hb hn,fun w6 hw6=>?_⟩;have hw6:w6=setCells w5 ⟨gm,k*1,none⟩ [.slice aa n ca]:=by rw[hw6];exact congrArg (fun x=>setCells w5 x _) PY
     rw[<-hw6]at Q7 Rs;clear hw6 hok2 PR UT hsz2 hsz1;have Pp:dK (fc [] M1 pv.length k) pv.length c=q:=by rw[zL (by omega) (by omega),hq]
     have hht2:=hht1.swap (i:=pv.length) (j:=k) (by omega) (by omega);have Of:dX (M1,pv) c=(df (scaled (fc [] M1 pv.length k) pv.length c) pv.length c R,pv++[c]):=by
      unfold dX;rw[if_pos (by dsimp only;omega)];dsimp only
      rw[hlM,hfk2,aJ (by omega),ix,fQ,hlM]
     have QA:(fc [] M1 pv.length k).length=R:=by rw[fQ,hlM]
     generalize (rv1.set pv.length (.slice ak n ck')).set k (.slice aa n ca)=rv2 at*
     generalize fc [] M1 pv.length k=M2 at*
     have QD:∀{v:Value} {k gx:Nat},rv2[k]? =some v->v.ownBlock=some gx->Mb (.slice (some ⟨gm,0,none⟩) R cm) rv gx:=fun h1 h2=>(R8 _).1 (.inr ⟨_,aD h1,h2⟩);conv=>whnf
     refine cQ hτ dx [.x 0,.x 1,.x 2,.x 3,.x 5,.x 6,.x 7,.x 8,.x 9,.x 10,.x 11,.x 4,.x 12,.x 13] (by kernel_rfl) (by kernel_rfl) ?_;conv=>whnf
     obtain⟨_,g,ck,q2,d1,e1,m1,k1,d2,e2,m2,k2,Qd,hE⟩:=Rs.elem (k:=pv.length) (c:=c) (by omega) (by omega);injection Qd with Qd;injection Qd with Qd;subst Qd;have Qb:q2=q:=by rw[<-hE.at_,Pp]
     subst Qb;have WE:=QD hE.rv rfl;refine⟨⟨gm,0,none⟩,rfl,by omega,?_⟩;conv=>whnf
     refine⟨.slice (some ⟨g,0,none⟩) n ck,fun O w' r=>kB hE.outer Tm r,?_⟩;conv=>whnf
     refine⟨⟨gm,0,none⟩,rfl,by omega,?_⟩;conv=>whnf
     refine⟨.slice (some ⟨g,0,none⟩) n ck,fun O w' r=>kB hE.outer Tm r,?_⟩;conv=>whnf
     refine⟨⟨g,0,none⟩,rfl,by omega,?_⟩;conv=>whnf
     refine⟨[.bool d1,.slice e1 m1 k1,.bool d2,.slice e2 m2 k2],rfl,fun O w' r j x hx=>kB (hE.cells j x hx) (QI _ _ (by rw[dC,dC];exact WE)) r,?_⟩;conv=>whnf
     have hwb0:dq w.heap.size w6 w6:=dq.refl;refine cM (Φ:=fun _ w' v w2=>cZ w2 (Nf w' w2) v (((1:Int):Rat))) (fun O w' r=>rP 1 w' (by decide) (by decide)) ?_;rintro O wa v1 wb' r he PQ hO;have QV:=hO.dF (S:=S) r.cG (iv:=(wa.heap.size,wb'.heap.size)::Oh) aG;have hF:=hE.aAT.cK (iv':=(wa.heap.size,wb'.heap.size)::Oh) r hS he fun x hx=>aC _ hx;replace Rs:=Rs.cK (iv':=(wa.heap.size,wb'.heap.size)::Oh) r hS (fun g hg=>Oa g ((R8 g).1 hg)) he fun x hx=>aC _ hx;replace Q7:=Q7.cU PQ (Nat.le_refl _);have UU:=hE.rv;clear r he PQ hO hE;generalize (wa.heap.size,wb'.heap.size)::Oh=On at*
     obtain⟨b5,a5,n5,c5,b6,a6,n6,c6,rfl⟩:=QV.shape;have Po:(((1:Int):Rat))=1:=rfl;rw[Po]at QV;have hhq:rl q2+1<=4^pv.length*h0:=by
      have h3:dK M2 pv.length c=(M2.getD pv.length []).getD c 0:=rfl;rw[<-Pp,h3];have h4:M2.getD pv.length []=M2[pv.length]'(by omega):=by rw[List.getD,aA (by omega)];rfl
      rw[h4];exact lD (hht2.at (aA (by omega))) (aX h2 (Nat.le_mul_of_pos_left _ (Nat.pow_pos (by decide)))) c
     have hH4:4^(pv.length+1)*h0<=500000000:=aX (Nat.mul_le_mul_right _ (Nat.pow_le_pow_right (by decide) (by omega))) hb;have hpow:4^(pv.length+1)*h0=4*(4^pv.length*h0):=by rw[Nat.pow_succ,bT (4^pv.length) 4,bg]
     have hH2:2<=4^pv.length*h0:=aX h2 (Nat.le_mul_of_pos_left _ (Nat.pow_pos (by decide)));have R1:=hht2.scaled (a:=pv.length) (c:=c) hH2 (by omega) (by rw[Pp];exact h0');generalize 4^pv.length*h0=hh at*
     conv=>whnf
     refine cM (Φ:=fun _ w' v w2=>cZ w2 (Nf w' w2) v (1 / q2)) (fun O w' r=>MA (Rel.old r hS) (QV.rel r hS) (hF.rel r hS) (by decide) (by omega) h0') ?_;rintro O wc v2 wd r he PQ hO;have Rh:=hO.dF (S:=S) r.cG (iv:=(wc.heap.size,wd.heap.size)::On) aG;replace Rs:=Rs.cK (iv':=(wc.heap.size,wd.heap.size)::On) r hS (fun g hg=>Oa g ((R8 g).1 hg)) he fun x hx=>aC _ hx;replace Q7:=Q7.cU PQ (Nat.le_refl _);clear r he PQ hO QV hF;generalize (wc.heap.size,wd.heap.size)::On=PN at*
     obtain⟨b7,a7,n7,c7,b8,a8,n8,c8,rfl⟩:=Rh.shape;conv=>whnf
     have hinv:=zx h0';have hMA:M2[pv.length]? =some (M2[pv.length]'(by omega)):=aA (by omega);have hMAd:M2.getD pv.length []=M2[pv.length]'(by omega):=by rw[List.getD,hMA];rfl
     have hqa:=hht2.at hMA;generalize hqsa:(M2[pv.length]'(by omega))=qsa at*
     refine⟨fun O w' r=>?_⟩;have S4:=Rs.rel r hS (fun g hg=>Oa g ((R8 g).1 hg));obtain⟨css,SG,SH,Vf⟩:=S4.row pv.length _ qsa UU hMA;refine(I8 (Rel.old r hS) SG Vf SH (Rh.rel r hS) (fun x hx RG=>TC PN x RG (QD UU hx)) (fun x hx=>by have:=hqa x hx;omega) (by omega)).mono fun e w4 he=>?_;obtain⟨rfl,Ot,css',Wv,hr5,XX⟩:=he;have hM3:=S4.setRow (S':=Nw (Cv S w.heap.size PN) w' w4) (Rel.old r hS) (fun x hx RG=>TC PN x hx ((R8 x).1 RG)) UU Ot (fun x hx=>.inl hx) ⟨css',Wv,hr5,XX⟩;refine⟨.tuple #[],_,(w'.heap.size,w4.heap.size)::PN,rfl,r.qg (fun x hx=>Rel.not (S:=fun g=>g<w.heap.size) r (fun _ h=>h) (QI PN x (QD UU hx))) Ot,?_⟩;have hM4:=hM3.cL (S':=Cv S w.heap.size ((w'.heap.size,w4.heap.size)::PN)) fun x hx=>Nw.cv hx r.cG;have Q1:M2.set pv.length (qsa.map (· *(1 / q2)))=scaled M2 pv.length c:=by unfold scaled;rw[hMAd,Pp]
     rw[Q1]at hM4;have hK4:Kept w w4 _:=(Q7.cU r.cU (Nat.le_refl _)).row Ot (fun x hx=>QD UU hx);have QL:(scaled M2 pv.length c).length=R:=by rw[ix,QA]
     clear Q7 Rs S4 SG Vf Wv XX hM3 Ot r Rh Q1 hMA hMAd;generalize (w'.heap.size,w4.heap.size)::PN=RI at*
     generalize scaled M2 pv.length c=M3 at*
     conv=>whnf
     refine⟨Nat×Iv×World,fun z=>⟨[(0,.o (.v (.slice (some ⟨gm,0,none⟩) R cm))),(1,iZ cols),(5,.o (.w 0 pv.length)),(6,iZ c),(7,iZ pv.length),(75,iZ R),(76,iZ z.1)],
       [(0,.vec T.int 1 (pv.map fun c:Nat=>.int .i64 (c:Int)))],1,z.2.1,z.2.2⟩,fun z=>R-z.1,
      fun z=>z.1<=R∧Kept w z.2.2 (Mb (.slice (some ⟨gm,0,none⟩) R cm) rv)∧im z.2.2 (Cv S w.heap.size z.2.1) (.slice (some ⟨gm,0,none⟩) R cm) rv2 n (df M3 pv.length c z.1),?_,?_⟩
     ·intro O w' r
      exact⟨(0,RI,w'),⟨by dsimp only;omega,hK4.cU r.cU (Nat.le_refl _),by rw[DR];exact hM4.rel r hS (fun g hg=>Oa g ((R8 g).1 hg))⟩,
       Sub.gn [] r⟩
     clear hK4 hM4;rintro⟨i,RR,w7⟩ ⟨hi,hK,hM⟩;dsimp only at hi hK hM ⊢;conv=>whnf
     refine dN.mk ?_ ?_<;>intro Rq
     ·have Rq:i<R:=by simpa using Rq
      conv=>whnf
      refine dN.mk ?_ ?_<;>intro OY
      ·have OY:i≠pv.length:=fun e=>by
        rw[e]at OY;simp at OY
       conv=>whnf
       refine cQ hτ dx [.x 0,.x 1,.x 2,.x 3,.x 4,.x 5,.x 6,.x 7,.x 8,.x 9,.x 10,.x 12,.x 13,.x 14,.x 15,.x 11,.x 16] (by kernel_rfl) (by kernel_rfl) ?_;conv=>whnf
       obtain⟨_,gi,ci,qi,d1',e1',m1',k1',d2',e2',m2',k2',Qd,hE⟩:=hM.elem (k:=i) (c:=c) (by omega) (by omega);injection Qd with Qd;injection Qd with Qd;subst Qd;obtain⟨va2,Vg⟩:∃v,rv2[pv.length]? =some v:=⟨_,aA (by omega)⟩
       obtain⟨_,Qd,hoa⟩:=hM.outer Vg;injection Qd with Qd;injection Qd with Qd;subst Qd;obtain⟨ri,hri⟩:∃r,M3[i]? =some r:=⟨_,aA (by omega)⟩
       obtain⟨ra,Tl⟩:∃r,M3[pv.length]? =some r:=⟨_,aA (by omega)⟩
       have hri2:(df M3 pv.length c i)[i]? =some ri:=by rw[Gz M3 pv.length c i i (Nat.le_refl _)];exact hri
       have hra2:(df M3 pv.length c i)[pv.length]? =some ra:=by rw[zM];exact Tl
       have Ur:(df M3 pv.length c i).getD i []=ri:=by rw[List.getD,hri2];rfl
       have Rr:qi=ri.getD c 0:=by rw[<-hE.at_,dK,Ur]
       have hrad:M3.getD pv.length []=ra:=by rw[List.getD,Tl];rfl
       obtain⟨cssa,hraw,-,-⟩:=hM.row pv.length va2 ra Vg hra2;obtain⟨aa2,ca2,rfl,-⟩:=fF hraw;clear hraw;have WE:=QD hE.rv rfl;refine⟨⟨gm,0,none⟩,rfl,by omega,?_⟩;conv=>whnf
       refine⟨.slice (some ⟨gi,0,none⟩) n ci,fun O w' r=>kB hE.outer Tm r,?_⟩;conv=>whnf
       refine⟨⟨gm,0,none⟩,rfl,by omega,?_⟩;conv=>whnf
       refine⟨.slice (some ⟨gi,0,none⟩) n ci,fun O w' r=>kB hE.outer Tm r,?_⟩;conv=>whnf
       refine⟨⟨gi,0,none⟩,rfl,by omega,?_⟩;conv=>whnf
       refine⟨[.bool d1',.slice e1' m1' k1',.bool d2',.slice e2' m2' k2'],rfl,fun O w' r j x hx=>kB (hE.cells j x hx) (QI _ _ (by rw[dC,dC];exact WE)) r,?_⟩;conv=>whnf
       refine⟨⟨gm,0,none⟩,rfl,by omega,?_⟩;conv=>whnf
       refine⟨.slice aa2 n ca2,fun O w' r=>kB hoa Tm r,?_⟩;conv=>whnf
       refine cM (Φ:=fun _ w' v w2=>cZ w2 (Nw (Cv S w.heap.size RR) w' w2) v (-qi)) (fun O w' r=>BB (Rel.old r hS) (hE.aAT.rel r hS)) ?_;rintro O wa v1 wb' r he PQ hO;have Rh:=hO.old r.cG;replace hM:=hM.cK (iv':=(wa.heap.size,wb'.heap.size)::RR) r hS (fun g hg=>Oa g ((R8 g).1 hg)) he fun x hx=>aC _ hx;replace hK:=hK.cU PQ (Nat.le_refl _);have Ug:=hE.rv;clear r he PQ hO hE hoa;generalize (wa.heap.size,wb'.heap.size)::RR=SP at*
       obtain⟨b9,a9,n9,c9,b10,a10,n10,c10,rfl⟩:=Rh.shape;have hqs1:=R1.2 i ri OY hri;have hqs2:=R1.1 ra Tl;have hqc:=lD hqs1 hH2 c;have hng:=oZ (ri.getD c 0);rw[Rr]at Rh;conv=>whnf
       refine⟨fun O w' r=>?_⟩;have S4:=hM.rel r hS (fun g hg=>Oa g ((R8 g).1 hg));obtain⟨css,SG,SH,Vf⟩:=S4.row i _ ri Ug hri2;obtain⟨Vh,Ri⟩:=S4.aBA Vg hra2 (by unfold maxLen;omega);refine(aAd (C:=fun g=>(Value.slice aa2 n ca2).ownBlock=some g) (fun x hx=>by have:=S4.low x (.inr ⟨_,aD Vg,hx⟩);exact this) (Rel.old r hS) SG Vf SH (Rh.rel r hS) Vh Ri (fun x hx RG=>TC SP x RG (QD Ug hx)) (fun x hx RG=>OY (S4.uf i pv.length _ _ x Ug Vg hx RG)) (fun x hx=>by have:=hqs1 x hx;omega) (fun x hx=>by have:=hqs2 x hx;omega) (by omega)).mono fun e w8 he=>?_;obtain⟨rfl,Ot,css',Wv,hr5,XX⟩:=he;have hM3':=S4.setRow (S':=Nw (Cv S w.heap.size SP) w' w8) (Rel.old r hS) (fun x hx RG=>TC SP x hx ((R8 x).1 RG)) Ug Ot (fun x hx=>.inl hx) ⟨css',Wv,hr5,XX⟩;refine⟨.tuple #[],_,(w'.heap.size,w8.heap.size)::SP,rfl,r.qg (fun x hx=>Rel.not (S:=fun g=>g<w.heap.size) r (fun _ h=>h) (QI SP x (QD Ug hx))) Ot,?_⟩;have hM4:=hM3'.cL (S':=Cv S w.heap.size ((w'.heap.size,w8.heap.size)::SP)) fun x hx=>Nw.cv hx r.cG;have Q1:(df M3 pv.length c i).set i (ri.mapIdx (ox (-(ri.getD c 0)) ra))=df M3 pv.length c (i+1):=by
        rw[<-DS hri OY,hrad];rfl
       rw[Q1]at hM4;have hK4:Kept w w8 _:=(hK.cU r.cU (Nat.le_refl _)).row Ot (fun x hx=>QD Ug hx);clear hK hM S4 SG Vf Wv XX hM3' Ot r Rh Q1 Vh;generalize (w'.heap.size,w8.heap.size)::SP=TL at*
       conv=>whnf
       refine⟨((i+1:Nat):Int),wo,?_⟩;conv=>whnf
       intro ρ3 w9 r3
       exact⟨(i+1,TL,w9),⟨Rq,hK4.cU r3.cU (Nat.le_refl _),hM4.rel r3 hS (fun g hg=>Oa g ((R8 g).1 hg))⟩,
        Sub.gn [] r3,by dsimp only;omega⟩
      ·have OY:i=pv.length:=by
        have h4:((i:Int)==(pv.length:Int))=true:=by simpa using OY
        have:=eq_of_beq h4;omega
       conv=>whnf
       refine⟨((i+1:Nat):Int),wo,?_⟩;conv=>whnf
       intro ρ3 w9 r3
       exact⟨(i+1,RR,w9),⟨Rq,hK.cU r3.cU (Nat.le_refl _),by
        dsimp only
        have h5:df M3 pv.length c (i+1)=df M3 pv.length c i:=by rw[OY,DT]
        rw[h5]
        exact hM.rel r3 hS (fun g hg=>Oa g ((R8 g).1 hg))⟩,
        Sub.gn [] r3,by dsimp only;omega⟩
     ·have hi3:i=R:=by
       have:¬i<R:=by simpa using Rq
       omega
      subst hi3;have Pf:=Ht.IQ (i:=i) (c:=c) R1.1 R1.2 hH2;conv=>whnf
      refine .inl ?_;conv=>whnf
      refine⟨by simp,by omega,by unfold maxLen;omega,?_⟩;conv=>whnf
      refine⟨((c+1:Nat):Int),wo,?_⟩;conv=>whnf
      intro ρ3 w9 r3;have Vi:(pv++[c]).length=pv.length+1:=by simp
      have TE:(pv++[c]).map (fun c:Nat=>Value.int .i64 (c:Int))=pv.map (fun c:Nat=>Value.int .i64 (c:Int))++[.int .i64 (c:Int)]:=by simp
      refine⟨(c+1,rv2,df M3 pv.length c i,pv++[c],RR,w9),⟨h,hK.cU r3.cU (Nat.le_refl _),hM.rel r3 hS (fun g hg=>Oa g ((R8 g).1 hg)),R8,SI,by rw[bS,List.foldl_append,<-TD];exact Of.symm,by rw[Vi];exact hp,?_⟩,
       Sub.gn [(0,2)] r3 ⟨by rw[TE];rfl,trivial⟩ ⟨rfl,rfl,by dsimp only;rw[Vi];rfl,rfl,trivial⟩,by dsimp only;omega⟩
      dsimp only
      rw[Vi,hpow];exact Pf
   ·have hk:k=R:=by
     have:¬k<R:=by simpa using hk
     omega
    subst hk;have hfk2:fy M1 c (k-pv.length) pv.length=k:=by
     rw[<-hfk,bK];rfl
    have Of:dX (M1,pv) c=(M1,pv):=by
     unfold dX;rw[if_pos (by dsimp only;omega)];dsimp only
     rw[hlM,if_pos hfk2]
    conv=>whnf
    refine dN.mk ?_ ?_<;>intro Tv
    ·conv=>whnf
     refine⟨((c+1:Nat):Int),wo,?_⟩;conv=>whnf
     intro ρ3 w3 r3
     exact⟨(c+1,rv1,M1,pv,OX,w3),⟨h,hK.cU r3.cU (Nat.le_refl _),hM.rel r3 hS (fun g hg=>Oa g ((Sk g).1 hg)),Sk,Pm,by rw[bS,List.foldl_append,<-TD];exact Of.symm,Pb,hht1⟩,
      Sub.gn [] r3,by dsimp only;omega⟩
    ·exact absurd Tv (by simp)
  ·have hp:¬pv.length<R:=by simpa using hp
   conv=>whnf
   intro ρ5 w5 r5;have h1:=htot (.inr (by omega));rw[<-h1];refine⟨_,rv1,rfl,hK.cU r5.cU (Nat.le_refl _),?_,Sk,?_⟩
   ·exact(hM.rel r5 hS (fun g hg=>Oa g ((Sk g).1 hg))).cL fun g hg=>Cv.nw hg r5
   ·exact(r5.iD (id:=0) (sz:=1) rfl (by simp) (by unfold maxLen;omega) (by decide) (by intro u hu;simp at hu;obtain⟨_,_,rfl⟩:=hu;rfl)).cL fun g hg=>.inr hg
 ·have h:¬c<cols:=by simpa using h
  conv=>whnf
  intro ρ5 w5 r5;have h1:=htot (.inl (by omega));rw[<-h1];refine⟨_,rv1,rfl,hK.cU r5.cU (Nat.le_refl _),?_,Sk,?_⟩
  ·exact(hM.rel r5 hS (fun g hg=>Oa g ((Sk g).1 hg))).cL fun g hg=>Cv.nw hg r5
  ·exact(r5.iD (id:=0) (sz:=1) rfl (by simp) (by unfold maxLen;omega) (by decide) (by intro u hu;simp at hu;obtain⟨_,_,rfl⟩:=hu;rfl)).cL fun g hg=>.inr hg
end Go.Ex
namespace Go.Ex
open Go Go.Sx Go.Proofs
variable{b2:Bool}{x:Int×Int}{b xs:List (Int×Int)}{M:List (List (Int×Int))}{A:List (List Rat)}{parts:List (Value×List Value×Nat)}{ps pv:List Nat}{qs:List Rat}{cs:List Value}{c cols id j n:Nat}{S:Nat->Prop}{a a1 a2:Option Addr}{q:Rat}{u v vm:Value}{w w0:World}
def jo(w:World)(S:Nat->Prop)(v:Value)(n:Nat)(qs:List Rat):Prop:=∃css,w.ownsRow 0 T.dy 4 v n css.flatten∧css.length=n∧Fr w S css qs
section
variable{S S' C:Nat->Prop}{H:Hp}{nx n:Nat}{iv iv':Iv}{B:Nat}{w w' w2:World}{O:Nat->Sx.dw}{v:Value}{qs:List Rat}
theorem jo.cJ(h:jo w S v n qs)(hk:∀g,S g∨v.ownBlock=some g->w2.heap[g]? =w.heap[g]?):jo w2 S v n qs:=by
 obtain⟨css,h1,h2,h3⟩:=h;exact⟨css,ownsRow.cJ h1 fun g hg=>hk g (.inr hg),h2,h3.cJ fun g hg=>hk g (.inl hg)⟩
theorem jo.cL(h:jo w S v n qs)(hk:∀g,S g->S' g):jo w S' v n qs:=by
 obtain⟨css,h1,h2,h3⟩:=h;exact⟨css,h1,h2,h3.cL hk⟩
theorem jo.len(h:jo w S v n qs):qs.length=n:=by
 obtain⟨css,h1,h2,h3⟩:=h;rw[<-h3.1,h2]
theorem jo.form(h:jo w S v n qs):∃a c,v= .slice a n c∧n<=c:=by
 obtain⟨css,h1,h2,h3⟩:=h;exact fF h1
theorem jo.le(h:jo w S v n qs):n<=maxLen:=by
 obtain⟨css,h1,h2,h3⟩:=h;rcases h1.2 with⟨_,h0⟩|⟨_,_,_,_,_,_,h1,h2,_⟩
 ·omega
 ·omega
theorem jo.read(h:jo w S v n qs):fU w (fun g=>v.ownBlock=some g) S v qs:=by
 have hl:=h.len;have hn:=h.le;obtain⟨css,h1,h2,h3⟩:=h;refine⟨css,?_,h3⟩;rw[hl];rcases h1.2 with⟨rfl,rfl⟩|⟨g,cap,cur,rfl,hb,hc,Uy,QS,PH,RM⟩
 ·refine⟨hn,h1.1,h3.one,none,0,rfl,Nat.le_refl _,fun j u hu=>?_⟩;have:=h1.1;rw[Nat.zero_mul]at this;rw[List.eq_nil_of_length_eq_zero this]at hu
  cases hu
 ·refine⟨hn,h1.1,h3.one,_,cap,rfl,Uy,fun j u hu=>⟨_,rfl,rfl,?_⟩⟩;exact h1.cells (g:=g) rfl j u hu
theorem jo.store{n1 c1 n2 c2:Nat}{b:Bool}(h:jo w S (.slice a n c) n qs)(hj:j<n)(hf:cZ w S (.agg #[.bool b,.slice a1 n1 c1,.bool b2,.slice a2 n2 c2]) q)(RT:∀g,(Value.slice a n c).ownBlock=some g->¬S g)(hS:Old S w):
  ∃g,a=some ⟨g,0,none⟩∧((⟨g,0,none⟩:Addr).add ((j:Int).toNat*4)).spot=none∧((⟨g,0,none⟩:Addr).add ((j:Int).toNat*4)).block=g∧
   (∀k,k<4->(w.cell? (((⟨g,0,none⟩:Addr).add ((j:Int).toNat*4)).add k)).isSome=true∧w.frozen? (((⟨g,0,none⟩:Addr).add ((j:Int).toNat*4)).add k)=false)∧
   ∀w2,w2=setCells w ((⟨g,0,none⟩:Addr).add ((j:Int).toNat*4)) [.bool b,.slice a1 n1 c1,.bool b2,.slice a2 n2 c2]->jo w2 S (.slice a n c) n (qs.set j q)∧w.grownBy w2 (some g)∧w2.heap.size=w.heap.size:=by
 obtain⟨css,h1,h2,h3⟩:=h;obtain⟨g,rfl,OZ,QB,Ot,PH⟩:=j1 (nv:=[.bool b,.slice a1 n1 c1,.bool b2,.slice a2 n2 c2]) h1 rfl hj rfl (by decide);have Ox:(⟨g,0,none⟩:Addr).add ((j:Int).toNat*4)=⟨g,j*4,none⟩:=by rw[aF,dI,aW]
 refine⟨g,rfl,by rw[Ox],by rw[Ox],fun k hk=>by rw[Ox];exact OZ k hk,fun w2 Oz=>?_⟩;rw[Ox]at Oz;subst Oz;have Q1:=gp (cs:=[.bool b,.slice a1 n1 c1,.bool b2,.slice a2 n2 c2]) h3.mz (show j<css.length by omega);rw[Q1]at QB;have PM:∀x,S x->(setCells w ⟨g,j*4,none⟩ [.bool b,.slice a1 n1 c1,.bool b2,.slice a2 n2 c2]).heap[x]? =w.heap[x]? :=fun x hx=>
  Ot.block x (hS x hx) fun e=>RT g rfl (by injection e with e;rw[<-e];exact hx)
 exact⟨⟨_,QB,by simpa using h2,(h3.cJ PM).set (hf.cJ PM).four⟩,Ot,PH⟩
structure kC(w:World)(S:Nat->Prop)(B:Nat)(iv:Iv)(v:Value)(n:Nat)(qs:List Rat):Prop where
 row:jo w (fun g=>Cv S B iv g∧v.ownBlock≠some g) v n qs
 new:∀g,v.ownBlock=some g->Cv FF B iv g
theorem kC.cJ(h:kC w S B iv v n qs)(hk:∀g,Cv S B iv g->w2.heap[g]? =w.heap[g]?):kC w2 S B iv v n qs:=
 ⟨h.row.cJ fun g hg=>hk g (hg.elim (fun h=>h.1) fun hg=>(h.new g hg).elim (fun h=>h.elim) .inr),h.new⟩
theorem kC.rel(h:kC w S B iv v n qs)(r:Rel H nx iv B w O w')(hS:∀g,S g->g<B):kC w' S B iv v n qs:=h.cJ fun _ hg=>Rel.same r hS hg
theorem kC.cK(h:kC w S B iv v n qs)(r:Rel H nx iv B w O w')(hS:∀g,S g->g<B)(he:Ext w' w2)(hm:∀p,p∈iv->p∈iv'):kC w2 S B iv' v n qs:=
 have h2:=(h.rel r hS).cJ fun g hg=>he.block g (Rel.old r hS g hg)
 ⟨h2.row.cL fun _ hg=>⟨hg.1.mono hm,hg.2⟩,fun g hg=>(h2.new g hg).mono hm⟩
theorem kC.dF(h:kC w2 FF w'.heap.size [(w'.heap.size,w2.heap.size)] v n qs)(hB:B<=w'.heap.size)(hm:(w'.heap.size,w2.heap.size)∈iv):kC w2 S B iv v n qs:=by
 have key:∀g {X:Nat->Prop},Cv FF w'.heap.size [(w'.heap.size,w2.heap.size)] g->Cv X B iv g:=fun g X hg=>by
  rcases hg with hg|⟨h1,lo,hi,h2,h3,h4⟩
  ·exact hg.elim
  ·simp at h2;obtain⟨rfl,rfl⟩:=h2;exact .inr ⟨by omega,_,_,hm,h3,h4⟩
 exact⟨h.row.cL fun g hg=>⟨key g hg.1,hg.2⟩,fun g hg=>key g (h.new g hg)⟩
theorem kC.read(h:kC w S B iv v n qs):fU w (Cv S B iv) (Cv S B iv) v qs:=
 h.row.read.cL (fun g hg=>(h.new g hg).elim (fun h=>h.elim) .inr) fun _ hg=>hg.1
def wQ(w:World)(S:Nat->Prop)(cs:List Value)(x:Int×Int):Prop:=∃b a n c b2 a2 n2 c2,cs=[.bool b,.slice a n c,.bool b2,.slice a2 n2 c2]∧iP w S (.agg #[.bool b,.slice a n c,.bool b2,.slice a2 n2 c2]) x.1 x.2
theorem wQ.cJ(h:wQ w S cs x)(hk:∀g,S g->w2.heap[g]? =w.heap[g]?):wQ w2 S cs x:=by
 obtain⟨b,a,n,c,b2,a2,n2,c2,h1,h2⟩:=h;exact⟨b,a,n,c,b2,a2,n2,c2,h1,h2.cJ hk⟩
theorem wQ.cL(h:wQ w S cs x)(hk:∀g,S g->S' g):wQ w S' cs x:=by
 obtain⟨b,a,n,c,b2,a2,n2,c2,h1,h2⟩:=h;exact⟨b,a,n,c,b2,a2,n2,c2,h1,h2.cL hk⟩
def dO{α:Type}(P:World->(Nat->Prop)->List Value->α->Prop)(w:World)(S:Nat->Prop)(v:Value)(xs:List α):Prop:=
 ∃css:List (List Value),iR w S 4 v css.flatten xs.length∧css.length=xs.length∧(∀cs∈css,cs.length=4)∧∀(j:Nat) cs x,css[j]? =some cs->xs[j]? =some x->P w S cs x
abbrev eP:=dO wQ
theorem eP.cJ(h:eP w S v xs)(hk:∀g,S g->w2.heap[g]? =w.heap[g]?):eP w2 S v xs:=by
 obtain⟨css,h1,h2,h3,h4⟩:=h;exact⟨css,h1.cJ hk,h2,h3,fun j cs x k1 k2=>(h4 j cs x k1 k2).cJ hk⟩
theorem eP.cL(h:eP w S v xs)(hk:∀g,S g->S' g):eP w S' v xs:=by
 obtain⟨css,h1,h2,h3,h4⟩:=h;exact⟨css,h1.cL hk,h2,h3,fun j cs x k1 k2=>(h4 j cs x k1 k2).cL hk⟩
theorem dO.shape{α:Type}{P:World->(Nat->Prop)->List Value->α->Prop}{xs:List α}(h:dO P w S v xs):∃a c,v= .slice a xs.length c∧xs.length<=c∧xs.length<=maxLen:=by
 obtain⟨css,⟨h0,_,_,a,c,h1,h2,_⟩,_⟩:=h;exact⟨a,c,h1,h2,h0⟩
theorem dO.load{α:Type}{P:World->(Nat->Prop)->List Value->α->Prop}{xs:List α}{m:Nat}{x:α}(h:dO P w S (.slice a m c) xs)(hq:xs[j]? =some x):
  ∃ad cs,a=some ad∧P w S cs x∧cs.length=4∧∀k u,cs[k]? =some u->S ad.block∧w.cell? ((ad.add (j*4)).add k)=some u:=by
 obtain⟨css,⟨h0,h1,h2,a',c',e,h3,h4⟩,hl,hl4,hf⟩:=h;injection e with e1 e2 e3;subst e1;obtain⟨cs,PI⟩:∃cs,css[j]? =some cs:=⟨_,aA (by rw[hl];exact(aE.1 hq).1)⟩
 have hF:=hf j cs x PI hq;have TV:=hl4 cs (aD PI);obtain⟨ad,k1,k2,k3⟩:=h4 (j*4+0) _ (flat_get hl4 PI 0 _ (aA (show 0<cs.length by omega)));refine⟨ad,cs,k1,hF,TV,fun k u hu=>?_⟩;obtain⟨ad2,m1,m2,m3⟩:=h4 (j*4+k) u (flat_get hl4 PI k u hu);rw[k1]at m1;injection m1 with m1;subst m1;refine⟨m2,?_⟩;rw[<-m3];have:(ad.add (j*4)).add k=ad.add (j*4+k):=by
  unfold Addr.add;split<;>split<;>simp_all<;>omega
 rw[this]
def cd{α:Type}(P:World->(Nat->Prop)->Value->α->Prop)(w:World)(S:Nat->Prop)(v:Value)(M:List α):Prop:=
 ∃rv,iR w S 1 v rv M.length∧rv.length=M.length∧∀(i:Nat) u x,rv[i]? =some u->M[i]? =some x->P w S u x
theorem cd.shape{α:Type}{P:World->(Nat->Prop)->Value->α->Prop}{xs:List α}(h:cd P w S v xs):∃a c,v= .slice a xs.length c∧xs.length<=c∧xs.length<=maxLen:=by
 obtain⟨rv,⟨h0,_,_,a,c,h1,h2,_⟩,_⟩:=h;exact⟨a,c,h1,h2,h0⟩
theorem cd.load{α:Type}{P:World->(Nat->Prop)->Value->α->Prop}{xs:List α}{m:Nat}{x:α}(h:cd P w S (.slice a m c) xs)(hq:xs[j]? =some x):
  ∃ad u,a=some ad∧P w S u x∧S ad.block∧w.cell? (ad.add (j*1))=some u:=by
 obtain⟨rv,⟨h0,h1,h2,a',c',e,h3,h4⟩,hl,hf⟩:=h;injection e with e1 e2 e3;subst e1;obtain⟨u,hu⟩:∃u,rv[j]? =some u:=⟨_,aA (by rw[hl];exact(aE.1 hq).1)⟩
 obtain⟨ad,k1,k2,k3⟩:=h4 j u hu;exact⟨ad,u,k1,hf j u x hu hq,k2,by rw[aZ];exact k3⟩
abbrev eI:=cd eP
theorem eI.cJ(h:eI w S v M)(hk:∀g,S g->w2.heap[g]? =w.heap[g]?):eI w2 S v M:=by
 obtain⟨rv,h1,h2,h3⟩:=h;exact⟨rv,h1.cJ hk,h2,fun i u x k1 k2=>eP.cJ (h3 i u x k1 k2) hk⟩
theorem eI.cL(h:eI w S v M)(hk:∀g,S g->S' g):eI w S' v M:=by
 obtain⟨rv,h1,h2,h3⟩:=h;exact⟨rv,h1.cL hk,h2,fun i u x k1 k2=>eP.cL (h3 i u x k1 k2) hk⟩
abbrev fg:=cd (fun w S v qs=>fU w S S v qs)
theorem fg.cJ{M:List (List Rat)}(h:fg w S v M)(hk:∀g,S g->w2.heap[g]? =w.heap[g]?):fg w2 S v M:=by
 obtain⟨rv,h1,h2,h3⟩:=h;exact⟨rv,h1.cJ hk,h2,fun i u x k1 k2=>(h3 i u x k1 k2).cJ fun g hg=>hk g (hg.elim id id)⟩
theorem fg.cL{M:List (List Rat)}(h:fg w S v M)(hk:∀g,S g->S' g):fg w S' v M:=by
 obtain⟨rv,h1,h2,h3⟩:=h;exact⟨rv,h1.cL hk,h2,fun i u x k1 k2=>(h3 i u x k1 k2).cL hk hk⟩
end
section
variable{S S':Nat->Prop}{H:Hp}{nx:Nat}{iv iv':Iv}{B:Nat}{w w' w2:World}{O:Nat->Sx.dw}{v:Value}{xs:List (Int×Int)}
theorem eP.rel(h:eP w (Cv S B iv) v xs)(r:Rel H nx iv B w O w')(hS:∀g,S g->g<B):eP w' (Cv S B iv) v xs:=eP.cJ h fun _ hg=>Rel.same r hS hg
theorem eP.cK(h:eP w (Cv S B iv) v xs)(r:Rel H nx iv B w O w')(hS:∀g,S g->g<B)(he:Ext w' w2)(hm:∀p,p∈iv->p∈iv'):eP w2 (Cv S B iv') v xs:=
 eP.cL (eP.cJ (eP.rel h r hS) fun g hg=>he.block g (Rel.old r hS g hg)) fun _ hg=>hg.mono hm
theorem eP.arg(h:eP w S v xs)(iv:Iv):eP w (Cv S w.heap.size iv) v xs:=eP.cL h fun _ h=>.inl h
end
section
variable{S S':Nat->Prop}{H:Hp}{nx:Nat}{iv iv':Iv}{B:Nat}{w w' w2:World}{O:Nat->Sx.dw}{v:Value}{M:List (List (Int×Int))}
theorem eI.rel(h:eI w (Cv S B iv) v M)(r:Rel H nx iv B w O w')(hS:∀g,S g->g<B):eI w' (Cv S B iv) v M:=eI.cJ h fun _ hg=>Rel.same r hS hg
theorem eI.cK(h:eI w (Cv S B iv) v M)(r:Rel H nx iv B w O w')(hS:∀g,S g->g<B)(he:Ext w' w2)(hm:∀p,p∈iv->p∈iv'):eI w2 (Cv S B iv') v M:=
 eI.cL (eI.cJ (eI.rel h r hS) fun g hg=>he.block g (Rel.old r hS g hg)) fun _ hg=>hg.mono hm
theorem eI.arg(h:eI w S v M)(iv:Iv):eI w (Cv S w.heap.size iv) v M:=eI.cL h fun _ h=>.inl h
end
section
variable{S S':Nat->Prop}{H:Hp}{nx:Nat}{iv iv':Iv}{B:Nat}{w w' w2:World}{O:Nat->Sx.dw}{v:Value}{M:List (List Rat)}
theorem fg.rel(h:fg w (Cv S B iv) v M)(r:Rel H nx iv B w O w')(hS:∀g,S g->g<B):fg w' (Cv S B iv) v M:=fg.cJ h fun _ hg=>Rel.same r hS hg
theorem fg.cK(h:fg w (Cv S B iv) v M)(r:Rel H nx iv B w O w')(hS:∀g,S g->g<B)(he:Ext w' w2)(hm:∀p,p∈iv->p∈iv'):fg w2 (Cv S B iv') v M:=
 fg.cL (fg.cJ (fg.rel h r hS) fun g hg=>he.block g (Rel.old r hS g hg)) fun _ hg=>hg.mono hm
theorem fg.dF(h:fg w2 (Nf w' w2) v M)(hB:B<=w'.heap.size)(hm:(w'.heap.size,w2.heap.size)∈iv):fg w2 (Cv S B iv) v M:=fg.cL h fun _ hg=>hg.dF hB hm
theorem fg.out{w1:World}(h:fg w1 (Cv S w0.heap.size iv) v M)(r:Rel H nx iv w0.heap.size w1 O w')(hS:Old S w0):fg w' (Nw S w0 w') v M:=
 fg.cL (fg.rel h r hS) fun _ hg=>Cv.nw hg r
end
def dg{α:Type}:List (List α)->Nat
 |[]=>0
 |r::_=>r.length
def rb{α:Type}(M:List (List α)):Nat:=if ∀r∈M,r.length=dg M then(if 60<M.length∨60<dg M then 8 else 0)else 11
theorem cd.BH(h:eP w S v xs):∃a c,v= .slice a xs.length c:=by
 obtain⟨a,c,h,_⟩:=dO.shape h;exact⟨a,c,h⟩
theorem wT(hS:Old S w)(h:eI w S v M):eG PG N.sC #[v] w (eL w fun v' _=>v'= .int .i64 (dg M)):=by
 have hn:=h;obtain⟨a,c,rfl,hc,hm⟩:=cd.shape h;refine wC (by simp) ?_
 cases M with
 |nil=>
  conv=>whnf
  intro ρe we re;exact⟨_,rfl,re.cU,rfl⟩
 |cons r t=>
  obtain⟨ad,u,rfl,hu,h1,h2⟩:=cd.load h (j:=0) (x:=r) rfl;obtain⟨a2,c2,rfl⟩:=cd.BH hu;conv=>whnf
  refine⟨ad,rfl,⟨by omega,by simp⟩,?_⟩;conv=>whnf
  refine⟨.slice a2 r.length c2,fun O w' r'=>by simpa using jY hS dq.refl r' h1 (by simpa using h2),?_⟩;conv=>whnf
  intro ρe we re;exact⟨_,rfl,re.cU,rfl⟩
theorem Bf(hS:Old S w)(h:eI w S v M):eG PG N.mY #[v] w (eL w fun v' _=>v'= .int .i64 (rb M)):=by
 replace h:=eI.arg h [];obtain⟨a,c,rfl,hc,hm⟩:=cd.shape h;unfold maxLen at hm;refine qZ (by simp) ?_;conv=>whnf
 refine⟨Nat×Iv×World,fun z=>⟨[(0,sV a M.length c),(5,sV a M.length c),(6,iZ M.length),(7,iZ z.1)],[],0,z.2.1,z.2.2⟩,fun z=>M.length-z.1,
  fun z=>z.1<=M.length∧dq w.heap.size w z.2.2∧eI z.2.2 (Cv S w.heap.size z.2.1) (.slice a M.length c) M∧∀(j:Nat) r,j<z.1->M[j]? =some r->r.length=dg M,?_,?_⟩
 ·intro O w' r;exact⟨(0,[],w'),⟨by simp,r.cU,eI.rel h r hS,by simp⟩,Sub.gn [] r⟩
 clear h;rintro⟨i,iv,w1⟩ ⟨hi,hw,hM,OV⟩;dsimp only at hi hw hM OV ⊢;conv=>whnf
 refine dN.mk ?_ ?_<;>intro h
 ·have h:i<M.length:=by simpa using h
  obtain⟨r,hr⟩:∃r,M[i]? =some r:=⟨_,aA h⟩
  obtain⟨ad,u,rfl,hu,h1,h2⟩:=cd.load hM hr;obtain⟨a2,c2,rfl⟩:=cd.BH hu;conv=>whnf
  refine⟨ad,rfl,by omega,?_⟩;conv=>whnf
  refine⟨.slice a2 r.length c2,fun O w' r'=>?_,?_⟩
  ·have h3:=Rel.same r' hS h1;rw[aF,cI (w:=w1) (w2:=w') (by rw[dC];exact h3)];exact h2
  conv=>whnf
  refine cH (cM (Φ:=fun _ _ v _=>v= .int .i64 (dg M)) (fun O w' r=>wT (Rel.old r hS) (eI.rel hM r hS)) ?_);rintro O wa v1 wb r' he hb rfl;replace hw:=hw.tr hb;replace hM:=eI.cK (iv':=(wa.heap.size,wb.heap.size)::iv) hM r' hS he fun x hx=>aC _ hx;clear r' he hb;generalize (wa.heap.size,wb.heap.size)::iv=OX at*
  conv=>whnf
  refine dN.mk ?_ ?_<;>intro OY
  ·have OY:r.length≠dg M:=fun e=>by rw[e]at OY;simp at OY
   conv=>whnf
   intro ρe we re;refine⟨_,rfl,hw.tr re.cU,?_⟩;unfold rb;rw[aJ (fun QX=>OY (QX r (aD hr)))];rfl
  ·have heq:r.length=dg M:=by
    have h4:((r.length:Int)==(dg M:Int))=true:=by simpa using OY
    have:=eq_of_beq h4;omega
   conv=>whnf
   refine⟨((i+1:Nat):Int),wo,?_⟩;conv=>whnf
   intro ρ3 w3 r3;refine⟨(i+1,OX,w3),⟨h,hw.tr r3.cU,eI.rel hM r3 hS,fun j r' hj hr'=>?_⟩,Sub.gn [] r3,by dsimp only;omega⟩;by_cases PZ:j=i
   ·subst PZ;rw[hr]at hr';injection hr' with hr';rw[<-hr'];exact heq
   ·exact OV j r' (by dsimp only at hj;omega) hr'
 ·have h:i=M.length:=by
   have:¬i<M.length:=by simpa using h
   omega
  have QX:∀r∈M,r.length=dg M:=fun r hr=>by
   obtain⟨j,hj⟩:=aN hr;exact OV j r (by rw[h];exact(aE.1 hj).1) hj
  have Ou:rb M=if 60<M.length∨60<dg M then 8 else 0:=by unfold rb;rw[if_pos QX]
  conv=>whnf
  refine dN.mk ?_ ?_<;>intro hl
  ·have hl:60<M.length:=by
    have:(M.length:Int)>60:=aI hl;omega
   conv=>whnf
   exact rtn hw fun ρe we re=>by rw[Ou,if_pos (.inl hl)];rfl
  ·have hl:¬60<M.length:=by
    have:¬(M.length:Int)>60:=aH hl;omega
   conv=>whnf
   refine cH (cM (Φ:=fun _ _ v _=>v= .int .i64 (dg M)) (fun O w' r=>wT (Rel.old r hS) (eI.rel hM r hS)) ?_);rintro O wa v1 wb r' he hb rfl;replace hw:=hw.tr hb;clear r' he hb;conv=>whnf
   refine dN.mk ?_ ?_<;>intro QA
   ·have QA:60<dg M:=by
     have:(dg M:Int)>60:=aI QA;omega
    conv=>whnf
    exact rtn hw fun ρe we re=>by rw[Ou,if_pos (.inr QA)];rfl
   ·have QA:¬60<dg M:=by
     have:¬(dg M:Int)>60:=aH QA;omega
    conv=>whnf
    exact rtn hw fun ρe we re=>by rw[Ou,aJ (by omega)];rfl
theorem Bg(hS:Old S w)(h:eI w S v M)(hu:eP w S u b):
  eG PG N.mT #[v,u] w (eL w fun v' _=>v'= .int .i64 ((if rb M≠0 then rb M else if b.length≠M.length then 11 else 0:Nat):Int)):=by
 replace h:=eI.arg h [];obtain⟨a,c,rfl,hc,hm⟩:=cd.shape h;obtain⟨a2,c2,rfl,VG,Wm⟩:=dO.shape hu;refine qU (by simp) ?_;conv=>whnf
 refine cH (cM (Φ:=fun _ _ v _=>v= .int .i64 (rb M)) (fun O w' r=>Bf (Rel.old r hS) (eI.rel h r hS)) ?_);rintro O wa v1 wb r' he hw rfl;clear r' he h;conv=>whnf
 refine dN.mk ?_ ?_<;>intro h0
 ·have h0:rb M≠0:=fun e=>by rw[e]at h0;simp at h0
  rw[if_pos h0];conv=>whnf
  exact rtn hw fun ρe we re=>rfl
 ·have h0:rb M=0:=by
   have h4:((rb M:Int)==0)=true:=by simpa using h0
   have:=eq_of_beq h4;omega
  rw[aJ (by omega)];conv=>whnf
  refine dN.mk ?_ ?_<;>intro h1
  ·have h1:b.length≠M.length:=fun e=>by rw[e]at h1;simp at h1
   rw[if_pos h1];conv=>whnf
   exact rtn hw fun ρe we re=>rfl
  ·have h1:b.length=M.length:=by
    have h4:((b.length:Int)==(M.length:Int))=true:=by simpa using h1
    have:=eq_of_beq h4;omega
   rw[aJ (by omega)];conv=>whnf
   exact rtn hw fun ρe we re=>rfl
def f0:List Value:=[.bool false,.slice none 0 0,.bool false,.slice none 0 0]
structure kj(w:World)(S:Nat->Prop)(n i:Nat)(css:List (List Value))(qs:List Rat):Prop where
 len:css.length=n
 four:∀cs∈css,cs.length=4
 one:∀cs∈css,∀u∈cs,u.oneCell'=true
 at_:∀(j:Nat) cs q,j<i->css[j]? =some cs->qs[j]? =some q->ns w S cs q
section
variable{S S':Nat->Prop}{H:Hp}{nx n i:Nat}{iv iv':Iv}{B:Nat}{w w1 w' w2:World}{O:Nat->Sx.dw}{css:List (List Value)}{qs:List Rat}
theorem kj.cJ(h:kj w S n i css qs)(hk:∀g,S g->w2.heap[g]? =w.heap[g]?):kj w2 S n i css qs:=⟨h.len,h.four,h.one,fun j cs q hj h1 h2=>(h.at_ j cs q hj h1 h2).cJ hk⟩
theorem kj.cL(h:kj w S n i css qs)(hk:∀g,S g->S' g):kj w S' n i css qs:=⟨h.len,h.four,h.one,fun j cs q hj h1 h2=>(h.at_ j cs q hj h1 h2).cL hk⟩
theorem kj.rel(h:kj w (Cv S B iv) n i css qs)(r:Rel H nx iv B w O w')(hS:∀g,S g->g<B):kj w' (Cv S B iv) n i css qs:=h.cJ fun _ hg=>Rel.same r hS hg
theorem kj.cK(h:kj w (Cv S B iv) n i css qs)(r:Rel H nx iv B w O w')(hS:∀g,S g->g<B)(he:Ext w' w2)(hm:∀p,p∈iv->p∈iv'):kj w2 (Cv S B iv') n i css qs:=
 ((h.rel r hS).cJ fun g hg=>he.block g (Rel.old r hS g hg)).cL fun _ hg=>hg.mono hm
theorem kj.start(w:World)(S:Nat->Prop)(n:Nat)(qs:List Rat):kj w S n 0 (List.replicate n f0) qs:=
 ⟨by simp,fun cs hc=>by rw[bJ hc];rfl,fun cs hc u hu=>by rw[bJ hc]at hu;simp[f0]at hu;rcases hu with rfl|rfl|rfl|rfl<;>rfl,fun j cs q hj=>by omega⟩
theorem kj.next{b:Bool}{m m2 c2:Nat}(h:kj w S n i css qs)(hi:i<n)(hq:qs[i]? =some q)(hf:cZ w S (.agg #[.bool b,.slice a m c,.bool b2,.slice a2 m2 c2]) q):
  kj w S n (i+1) (css.set i [.bool b,.slice a m c,.bool b2,.slice a2 m2 c2]) qs:=by
 refine⟨by simp[h.len],fun cs hc=>?_,fun cs hc u hu=>?_,fun j cs p hj h1 h2=>?_⟩
 ·rcases av hc with hc|rfl
  ·exact h.four cs hc
  ·rfl
 ·rcases av hc with hc|rfl
  ·exact h.one cs hc u hu
  ·simp at hu;rcases hu with rfl|rfl|rfl|rfl<;>rfl
 ·by_cases Pj:i=j
  ·subst Pj;rw[aQ (by rw[h.len];exact hi)]at h1;rw[hq]at h2;injection h1 with h1;injection h2 with h2;subst h1 h2;exact hf.four
  ·rw[aY Pj]at h1;exact h.at_ j cs p (by omega) h1 h2
theorem kj.flat(h:kj w S n i css qs):css.flatten.length=n*4:=by rw[ei h.four,h.len]
theorem kj.done(h:kj w1 (Cf w0 iv) n n css qs)(hl:qs.length=n)(hn:n<=maxLen)(r:Rel H nx iv w0.heap.size w1 O w')(hH:dD H id=some (.arr T.dy css.flatten))(Oo:(O id).nil=false):
  kC w' FF w0.heap.size [(w0.heap.size,w'.heap.size)] (.slice (some ⟨(O id).g,0,none⟩) n n) n qs:=by
 have h2:=h.rel r (cF w0);have Oa:=r.low id _ hH Oo;refine⟨⟨css,⟨h.flat,.inr ⟨(O id).g,n,css.flatten.toArray,rfl,aR _,r.arr id _ _ hH,Nat.le_refl _,hn,by simpa using h.flat,?_⟩⟩,h.len,?_⟩,fun g hg=>?_⟩
 ·rw[<-h.flat];exact bF
 ·refine⟨by rw[h.len,hl],fun j cs q h3 h4=>?_⟩;refine(h2.at_ j cs q (by rw[<-hl];exact(aE.1 h4).1) h3 h4).cL fun g hg=>⟨?_,fun e=>?_⟩
  ·rcases hg with hg|⟨k1,lo,hi,k2,k3,k4⟩
   ·exact hg.elim
   ·exact .inr ⟨k1,_,_,bL.2 rfl,k1,by have:=r.pC lo hi k2;have:=r.size;omega⟩
  ·injection e with e;exact Rel.not r (cF w0) hg id _ hH Oo e
 ·injection hg with hg;subst hg;exact .inr ⟨Oa.1,_,_,bL.2 rfl,Oa.1,Oa.2⟩
end
theorem EF(n:Nat)(w:World)(hn:n<=1000000):eG PG N.xW #[.int .i64 n] w (eL w fun v w2=>kC w2 FF w.heap.size [(w.heap.size,w2.heap.size)] v n (List.replicate n 0)):=by
 refine Aj (by simp) ?_;conv=>whnf
 refine⟨n,n,rfl,rfl,Nat.le_refl _,by omega,by omega,?_⟩;conv=>whnf
 refine⟨Nat×List (List Value)×Iv×World,fun z=>⟨[(3,.o (.s 0 0 n n)),(8,iZ n),(9,iZ z.1)],[(0,.arr T.dy z.2.1.flatten)],1,z.2.2.1,z.2.2.2⟩,fun z=>n-z.1,
  fun z=>z.1<=n∧dq w.heap.size w z.2.2.2∧kj z.2.2.2 (Cf w z.2.2.1) n z.1 z.2.1 (List.replicate n 0),?_,?_⟩
 ·intro O w' r;exact⟨(0,List.replicate n f0,[],w'),⟨by simp,r.cU,kj.start _ _ _ _⟩,Sub.gn [] r⟩
 rintro⟨i,css,iv,w1⟩ ⟨hi,hw,hF⟩;dsimp only at hi hw hF ⊢;conv=>whnf
 refine dN.mk ?_ ?_<;>intro h
 ·have h:i<n:=by simpa using h
  conv=>whnf
  refine cH (cM (Φ:=fun _ w' v w2=>cZ w2 (Nf w' w2) v ((0:Int):Rat)) (fun O w' r=>rP 0 w' (by decide) (by decide)) ?_);rintro O wa v1 wb r he hb hO;have QV:=hO.dF (S:=FF) r.cG (iv:=(wa.heap.size,wb.heap.size)::iv) aG;replace hF:=hF.cK (iv':=(wa.heap.size,wb.heap.size)::iv) r (cF w) he fun x hx=>aC _ hx;replace hw:=hw.tr hb;clear r he hb hO;generalize (wa.heap.size,wb.heap.size)::iv=OX at*
  obtain⟨b1,a1,n1,c1,b2,a2,n2,c2,rfl⟩:=QV.shape;have Oi:=hF.next h (q:=0) (by simp[h]) QV
  conv=>whnf
  refine⟨by omega,?_⟩;conv=>whnf
  refine⟨by have:=hF.flat;omega,(css.set i [.bool b1,.slice a1 n1 c1,.bool b2,.slice a2 n2 c2]).flatten,?_,?_⟩
  ·have:=gp (cs:=[.bool b1,.slice a1 n1 c1,.bool b2,.slice a2 n2 c2]) hF.four (show i<css.length by rw[hF.len];exact h);rw[<-this];simp
  conv=>whnf
  refine⟨((i+1:Nat):Int),wo,?_⟩;conv=>whnf
  intro ρ3 w3 r3;exact⟨(i+1,css.set i [.bool b1,.slice a1 n1 c1,.bool b2,.slice a2 n2 c2],OX,w3),⟨h,hw.tr r3.cU,Oi.rel r3 (cF w)⟩,Sub.gn [] r3,by dsimp only;omega⟩
 ·have h:i=n:=by
   have:¬i<n:=by simpa using h
   omega
  subst h;conv=>whnf
  exact rtn hw fun ρe we re=>hF.done (by simp) (by unfold maxLen;omega) re (id:=0) rfl (re.nn 0 _ rfl (by intros;simp) (by simp))
def ec(x:Int×Int):Rat:=ratio x.1 x.2
def Few(xs:List (Int×Int)):Prop:=∀x∈xs,ln x.1.natAbs<=10000000000∧ln x.2.natAbs<=10000000000
theorem MK(hS:Old S w)(h:eP w S v xs)(hf:Few xs)(hn:xs.length<=1000000):
  eG PG N.uM #[v] w (eL w fun v' w2=>kC w2 FF w.heap.size [(w.heap.size,w2.heap.size)] v' xs.length (xs.map ec)):=by
 replace h:=eP.arg h [];obtain⟨a,c,rfl,hc,-⟩:=dO.shape h;refine yB (by simp) ?_;conv=>whnf
 refine⟨xs.length,xs.length,rfl,rfl,Nat.le_refl _,by omega,by omega,?_⟩;conv=>whnf
 refine⟨Nat×List (List Value)×Iv×World,fun z=>⟨[(3,.o (.s 0 0 xs.length xs.length)),(9,sV a xs.length c),(10,iZ xs.length),(11,iZ z.1)],[(0,.arr T.dy z.2.1.flatten)],1,z.2.2.1,z.2.2.2⟩,fun z=>xs.length-z.1,
  fun z=>z.1<=xs.length∧dq w.heap.size w z.2.2.2∧eP z.2.2.2 (Cv S w.heap.size z.2.2.1) (.slice a xs.length c) xs∧kj z.2.2.2 (Cf w z.2.2.1) xs.length z.1 z.2.1 (xs.map ec),?_,?_⟩
 ·intro O w' r;exact⟨(0,List.replicate xs.length f0,[],w'),⟨by simp,r.cU,eP.rel h r hS,kj.start _ _ _ _⟩,Sub.gn [] r⟩
 clear h;rintro⟨i,css,iv,w1⟩ ⟨hi,hw,hX,hF⟩;dsimp only at hi hw hX hF ⊢;conv=>whnf
 refine dN.mk ?_ ?_<;>intro h
 ·have h:i<xs.length:=by simpa using h
  obtain⟨x,hx⟩:∃x,xs[i]? =some x:=⟨_,aA h⟩
  obtain⟨ad,cs,rfl,hR,-,hl⟩:=dO.load hX hx;obtain⟨b3,a3,n3,c3,b4,a4,n4,c4,rfl,hR⟩:=hR;obtain⟨f1,f2⟩:=hf x (aD hx);conv=>whnf
  refine⟨ad,rfl,by omega,?_⟩;conv=>whnf
  refine⟨[.bool b3,.slice a3 n3 c3,.bool b4,.slice a4 n4 c4],rfl,fun O w' r j u hu=>?_,?_⟩
  ·obtain⟨k1,k2⟩:=hl j u hu;have:=Rel.same r hS k1;rw[aF,cI (w:=w1) (w2:=w') (by rw[dC,dC];exact this)];exact k2
  conv=>whnf
  refine cH (cM (Φ:=fun _ w' v w2=>cZ w2 (Nf w' w2) v (ec x)) (fun O w' r=>ja (Rel.old r hS) (hR.rel r hS) (by omega) (by omega)) ?_);rintro O wa v1 wb r he hb hO;have QV:=hO.dF (S:=FF) r.cG (iv:=(wa.heap.size,wb.heap.size)::iv) aG;replace hF:=hF.cK (iv':=(wa.heap.size,wb.heap.size)::iv) r (cF w) he fun x hx=>aC _ hx;replace hX:=eP.cK (iv':=(wa.heap.size,wb.heap.size)::iv) hX r hS he fun x hx=>aC _ hx;replace hw:=hw.tr hb;clear r he hb hO hl hR;generalize (wa.heap.size,wb.heap.size)::iv=OX at*
  obtain⟨b1,a1,n1,c1,b2,a2,n2,c2,rfl⟩:=QV.shape;have Oi:=hF.next h (q:=ec x) (by rw[aM,hx];rfl) QV
  conv=>whnf
  refine⟨by omega,?_⟩;conv=>whnf
  refine⟨by have:=hF.flat;omega,(css.set i [.bool b1,.slice a1 n1 c1,.bool b2,.slice a2 n2 c2]).flatten,?_,?_⟩
  ·have:=gp (cs:=[.bool b1,.slice a1 n1 c1,.bool b2,.slice a2 n2 c2]) hF.four (show i<css.length by rw[hF.len];exact h);rw[<-this];simp
  conv=>whnf
  refine⟨((i+1:Nat):Int),wo,?_⟩;conv=>whnf
  intro ρ3 w3 r3;exact⟨(i+1,css.set i [.bool b1,.slice a1 n1 c1,.bool b2,.slice a2 n2 c2],OX,w3),⟨h,hw.tr r3.cU,eP.rel hX r3 hS,Oi.rel r3 (cF w)⟩,Sub.gn [] r3,by dsimp only;omega⟩
 ·have h:i=xs.length:=by
   have:¬i<xs.length:=by simpa using h
   omega
  subst h;conv=>whnf
  exact rtn hw fun ρe we re=>hF.done (by simp) (by unfold maxLen;omega) re (id:=0) rfl (re.nn 0 _ rfl (by intros;simp) (by simp))
structure iV(w:World)(S:Nat->Prop)(B:Nat)(iv:Iv)(rv:List Value)(n:Nat)(M:List (List Rat)):Prop where
 len:rv.length=M.length
 row:∀(i:Nat) v qs,rv[i]? =some v->M[i]? =some qs->jo w (fun g=>Cv S B iv g∧¬ ∃u∈rv,u.ownBlock=some g) v n qs
 uf:∀(i j:Nat) a b g,rv[i]? =some a->rv[j]? =some b->a.ownBlock=some g->b.ownBlock=some g->i=j
 new:∀v∈rv,∀g,v.ownBlock=some g->Cv FF B iv g
theorem gq(B:Nat):∀g,(fun _:Nat=>False) g->g<B:=fun _ h=>h.elim
theorem EP{B:Nat}{iv:Iv}{g:Nat}(h:Cv FF B iv g):Cv S B iv g:=h.elim (fun h=>h.elim) .inr
section
variable{S S':Nat->Prop}{H:Hp}{nx n i:Nat}{iv iv':Iv}{B:Nat}{w w1 w' w2:World}{O:Nat->Sx.dw}{rv:List Value}{M:List (List Rat)}
theorem iV.cJ(h:iV w S B iv rv n M)(hk:∀g,Cv S B iv g->w2.heap[g]? =w.heap[g]?):iV w2 S B iv rv n M:=
 ⟨h.len,fun i v qs h1 h2=>(h.row i v qs h1 h2).cJ fun g hg=>hk g (hg.elim (fun h=>h.1) fun hg=>EP (h.new v (aD h1) g hg)),h.uf,h.new⟩
theorem iV.rel(h:iV w S B iv rv n M)(r:Rel H nx iv B w O w')(hS:∀g,S g->g<B):iV w' S B iv rv n M:=h.cJ fun _ hg=>Rel.same r hS hg
theorem iV.cK(h:iV w S B iv rv n M)(r:Rel H nx iv B w O w')(hS:∀g,S g->g<B)(he:Ext w' w2)(hm:∀p,p∈iv->p∈iv'):iV w2 S B iv' rv n M:=
 have h2:=(h.rel r hS).cJ fun g hg=>he.block g (Rel.old r hS g hg)
 ⟨h2.len,fun i v qs k1 k2=>(h2.row i v qs k1 k2).cL fun _ hg=>⟨hg.1.mono hm,hg.2⟩,h2.uf,fun v hv g hg=>(h2.new v hv g hg).mono hm⟩
theorem iV.nil(w:World)(S:Nat->Prop)(B:Nat)(iv:Iv)(n:Nat):iV w S B iv [] n []:=⟨rfl,by simp,by simp,by simp⟩
theorem iV.snoc(h:iV w S B iv rv n M)(r:Rel H nx iv B w O w')(hS:∀g,S g->g<B)(he:Ext w' w2)(hv:jo w2 (fun g=>Cv S B ((w'.heap.size,w2.heap.size)::iv) g∧v.ownBlock≠some g∧¬ ∃u∈rv,u.ownBlock=some g) v n qs)
  (Rv:∀g,v.ownBlock=some g->w'.heap.size<=g∧g<w2.heap.size):iV w2 S B ((w'.heap.size,w2.heap.size)::iv) (rv++[v]) n (M++[qs]):=by
 have hold:∀g,Cv S B iv g->g<w'.heap.size:=Rel.old r hS;have h2:=h.cK (iv':=(w'.heap.size,w2.heap.size)::iv) r hS he fun x hx=>aC _ hx;have XY:∀g,Cv S B iv g->v.ownBlock≠some g:=fun g hg e=>by have:=hold g hg;have:=(Rv g e).1;omega
 refine⟨by simp[h.len],fun i u ps h3 h4=>?_,fun i j a b g h3 h4 h5 h6=>?_,fun u hu g hg=>?_⟩
 ·rcases aS i rv.length with hi|hi
  ·rw[aK hi]at h3;rw[aK (by rw[<-h.len];exact hi)]at h4;have h5:=((h.rel r hS).cJ (w2:=w2) fun g hg=>he.block g (hold g hg)).row i u ps h3 h4;refine h5.cL fun g hg=>⟨hg.1.mono fun x hx=>aC _ hx,fun⟨x,hx,e⟩=>?_⟩
   rcases bE.1 hx with hx|hx
   ·exact hg.2 ⟨x,hx,e⟩
   ·simp at hx;subst hx;exact XY g hg.1 e
  ·rw[aO hi]at h3;rw[aO (by rw[<-h.len];exact hi)]at h4;have h0:i-rv.length=0:=by
    have:=(aE.1 h3).1;simp at this;omega
   rw[h0]at h3;rw[<-h.len,h0]at h4;simp at h3 h4;subst h3 h4;refine hv.cL fun g hg=>⟨hg.1,fun⟨x,hx,e⟩=>?_⟩
   rcases bE.1 hx with hx|hx
   ·exact hg.2.2 ⟨x,hx,e⟩
   ·simp at hx;subst hx;exact hg.2.1 e
 ·have key:∀(i:Nat) a,(rv++[v])[i]? =some a->rv[i]? =some a∨(i=rv.length∧a=v):=fun i a ha=>by
   rcases aS i rv.length with hi|hi
   ·rw[aK hi]at ha;exact .inl ha
   ·rw[aO hi]at ha;have:=(aE.1 ha).1;simp at this;rw[this]at ha;simp at ha;exact .inr ⟨by omega,ha.symm⟩
  have hvn:∀(i:Nat) a,rv[i]? =some a->a.ownBlock=some g->v.ownBlock≠some g:=fun i a ha e=>XY g (EP (h.new a (aD ha) g e));rcases key i a h3 with k1|⟨k1,rfl⟩<;>rcases key j b h4 with k2|⟨k2,rfl⟩
  ·exact h.uf i j a b g k1 k2 h5 h6
  ·exact absurd h6 (hvn i a k1 h5)
  ·exact absurd h5 (hvn j b k2 h6)
  ·omega
 ·rcases bE.1 hu with hu|hu
  ·exact(h.new u hu g hg).mono fun x hx=>aC _ hx
  ·simp at hu;subst hu;have:=Rv g hg;exact .inr ⟨by have:=r.cG;omega,_,_,aG,this.1,this.2⟩
theorem iV.aAf(h:iV w S B iv rv n M)(r:Rel H nx iv B w O w')(hS:∀g,S g->g<B)(he:Ext w' w2)(hx:kC w2 FF w'.heap.size [(w'.heap.size,w2.heap.size)] v n qs):
  iV w2 S B ((w'.heap.size,w2.heap.size)::iv) (rv++[v]) n (M++[qs]):=by
 have key:∀g,Cv FF w'.heap.size [(w'.heap.size,w2.heap.size)] g->w'.heap.size<=g∧g<w2.heap.size:=fun g hg=>by
  rcases hg with hg|⟨h1,lo,hi,h2,h3,h4⟩
  ·exact hg.elim
  ·simp at h2;obtain⟨rfl,rfl⟩:=h2;exact⟨h3,h4⟩
 refine h.snoc r hS he (hx.row.cL fun g hg=>?_) fun g hg=>key g (hx.new g hg);have:=key g hg.1;refine⟨.inr ⟨by have:=r.cG;omega,_,_,aG,this.1,this.2⟩,hg.2,fun⟨u,hu,e⟩=>?_⟩;have:=Rel.old r (gq B) g (h.new u hu g e);omega
theorem iV.mat(h:iV w S B iv rv n M)(r:Rel H nx iv B w O w')(hS:∀g,S g->g<B)(hH:dD H id=some (.arr T.row rv))(Oo:(O id).nil=false)(hR:rv.length<=maxLen)(_h1:∀u∈rv,u.oneCell'=true):
  im w' (fun g=>Cv S B iv g∧¬Mb (.slice (some ⟨(O id).g,0,none⟩) rv.length rv.length) rv g) (.slice (some ⟨(O id).g,0,none⟩) rv.length rv.length) rv n M:=by
 have h2:=h.rel r hS;have PR:∀g,Cv S B iv g->(O id).g≠g:=fun g hg=>Rel.not r hS hg id _ hH Oo;refine⟨⟨by simp,.inr ⟨(O id).g,rv.length,rv.toArray,rfl,aR _,r.arr id _ _ hH,Nat.le_refl _,hR,by simp,by simp⟩⟩,h.len,fun i v qs h3 h4=>?_,h.uf,fun v hv g hg e=>?_⟩
 ·refine(h2.row i v qs h3 h4).cL fun g hg=>⟨hg.1,fun hm=>?_⟩
  rcases hm with hm|hm
  ·injection hm with hm;exact PR g hg.1 hm
  ·exact hg.2 hm
 ·injection e with e;exact PR g (EP (h.new v hv g hg)) e
structure H5(w:World)(S:Nat->Prop)(B:Nat)(iv:Iv)(vm:Value)(n:Nat)(M:List (List Rat)):Prop where
 ex:∃rv,im w (fun g=>Cv S B iv g∧¬Mb vm rv g) vm rv n M∧∀g,Mb vm rv g->Cv FF B iv g
theorem H5.dF(h:H5 w2 FF w'.heap.size [(w'.heap.size,w2.heap.size)] vm n M)(hB:B<=w'.heap.size)(hm:(w'.heap.size,w2.heap.size)∈iv):H5 w2 S B iv vm n M:=by
 have key:∀g {X:Nat->Prop},Cv FF w'.heap.size [(w'.heap.size,w2.heap.size)] g->Cv X B iv g:=fun g X hg=>by
  rcases hg with hg|⟨h1,lo,hi,h2,h3,h4⟩
  ·exact hg.elim
  ·simp at h2;obtain⟨rfl,rfl⟩:=h2;exact .inr ⟨by omega,_,_,hm,h3,h4⟩
 obtain⟨rv,h1,h2⟩:=h.ex;exact⟨rv,h1.cL fun g hg=>⟨key g hg.1,hg.2⟩,fun g hg=>key g (h2 g hg)⟩
theorem im.one(h:im w S vm rv n M):∀u∈rv,u.oneCell'=true:=fun u hu=>by
 obtain⟨i,hi⟩:=aN hu;have hl:=(aE.1 hi).1;obtain⟨css,h1,_⟩:=h.row i u _ hi (aA (by rw[<-h.len];exact hl));obtain⟨a,c,rfl,_⟩:=fF h1;rfl
theorem im.read(h:im w S vm rv n M):fg w (fun g=>S g∨Mb vm rv g) vm M:=by
 refine⟨rv,?_,h.len,fun i u qs h1 h2=>?_⟩
 ·have hl:=h.len;rw[<-hl];rcases h.out.2 with⟨rfl,h0⟩|⟨g,cap,cur,rfl,hb,hc,Uy,QS,PH,RM⟩
  ·have:rv=[]:=List.eq_nil_of_length_eq_zero h0;subst this;exact⟨by simp[maxLen],by simp,by simp,none,0,rfl,Nat.le_refl _,by simp⟩
  ·refine⟨by omega,h.out.1,h.one,_,cap,rfl,Uy,fun j u hu=>⟨_,rfl,.inr (.inl rfl),?_⟩⟩;exact h.out.cells (g:=g) rfl j u hu
 ·have h3:jo w S u n qs:=h.row i u qs h1 h2;exact h3.read.cL (fun g hg=>.inr (.inr ⟨u,aD h1,hg⟩)) fun g hg=>.inl hg
theorem H5.read(h:H5 w S B iv vm n M):fg w (Cv S B iv) vm M:=by
 obtain⟨rv,h1,h2⟩:=h.ex;exact fg.cL h1.read fun g hg=>hg.elim (fun h=>h.1) fun hg=>EP (h2 g hg)
end
theorem ML(hS:Old S w)(h:eI w S v M)(hf:∀r∈M,Few r)(OV:∀r∈M,r.length=n)(hn:n<=1000000)(hR:M.length<=1000000):
  eG PG N.uG #[v] w (eL w fun v' w2=>H5 w2 FF w.heap.size [(w.heap.size,w2.heap.size)] v' n (M.map (·.map ec))):=by
 replace h:=eI.arg h [];obtain⟨a,c,rfl,hc,-⟩:=cd.shape h;refine xt (by simp) ?_;conv=>whnf
 refine⟨M.length,M.length,rfl,rfl,Nat.le_refl _,by omega,by omega,?_⟩;conv=>whnf
 refine⟨List Value×Iv×World,fun z=>⟨[(3,.o (.s 0 0 M.length M.length)),(9,sV a M.length c),(10,iZ M.length),(11,iZ z.1.length)],[(0,.arr T.row (z.1++List.replicate (M.length-z.1.length) (.slice none 0 0)))],1,z.2.1,z.2.2⟩,fun z=>M.length-z.1.length,
  fun z=>z.1.length<=M.length∧dq w.heap.size w z.2.2∧eI z.2.2 (Cv S w.heap.size z.2.1) (.slice a M.length c) M∧iV z.2.2 FF w.heap.size z.2.1 z.1 n ((M.take z.1.length).map (·.map ec))∧∀u∈z.1,u.oneCell'=true,?_,?_⟩
 ·intro O w' r;exact⟨([],[],w'),⟨by simp,r.cU,eI.rel h r hS,by simpa using iV.nil _ _ _ _ _,by simp⟩,Sub.gn [] r⟩
 clear h;rintro⟨rv,iv,w1⟩ ⟨hi,hw,hX,hF,h1c⟩;dsimp only at hi hw hX hF h1c ⊢;conv=>whnf
 refine dN.mk ?_ ?_<;>intro h
 ·have h:rv.length<M.length:=by simpa using h
  obtain⟨x,hx⟩:∃x,M[rv.length]? =some x:=⟨_,aA h⟩
  obtain⟨ad,u,rfl,Vh,RK,QA⟩:=cd.load hX hx;obtain⟨a2,c2,rfl⟩:=cd.BH Vh;have QO:=OV x (aD hx);conv=>whnf
  refine⟨ad,rfl,by omega,?_⟩;conv=>whnf
  refine⟨.slice a2 x.length c2,fun O w' r=>?_,?_⟩
  ·have:=Rel.same r hS RK;rw[aF,cI (w:=w1) (w2:=w') (by rw[dC];exact this)];exact QA
  conv=>whnf
  refine cH (cM (Φ:=fun _ w' v w2=>kC w2 FF w'.heap.size [(w'.heap.size,w2.heap.size)] v n (x.map ec)) (fun O w' r=>by rw[<-QO];exact MK (Rel.old r hS) (eP.rel Vh r hS) (hf x (aD hx)) (by omega)) ?_);rintro O wa v1 wb r he hb hO;have So:=hF.aAf r (cF w) he hO;replace hX:=eI.cK (iv':=(wa.heap.size,wb.heap.size)::iv) hX r hS he fun x hx=>aC _ hx;replace hw:=hw.tr hb;obtain⟨a3,c3,rfl,-⟩:=hO.row.form;clear r he hb hO Vh hF RK QA;generalize (wa.heap.size,wb.heap.size)::iv=OX at*
  conv=>whnf
  refine⟨by omega,?_⟩;conv=>whnf
  refine⟨by simp;omega,(rv++[.slice a3 n c3])++List.replicate (M.length-(rv.length+1)) (.slice none 0 0),?_,?_⟩
  ·have h5:M.length-rv.length=(M.length-(rv.length+1))+1:=by omega
   simp[h5,List.replicate_succ]
  conv=>whnf
  refine⟨((rv.length+1:Nat):Int),wo,?_⟩;conv=>whnf
  intro ρ3 w3 r3;have QL:(rv++[Value.slice a3 n c3]).length=rv.length+1:=by simp
  refine⟨(rv++[.slice a3 n c3],OX,w3),⟨by dsimp only;rw[QL];exact h,hw.tr r3.cU,eI.rel hX r3 hS,?_,?_⟩,Sub.gn [] r3 ⟨by dsimp only;rw[QL];rfl,trivial⟩ ⟨rfl,rfl,rfl,by dsimp only;rw[QL];rfl,trivial⟩,by dsimp only;rw[QL];omega⟩
  ·dsimp only
   rw[QL,List.take_add_one,hx,List.map_append];exact So.rel r3 (cF w)
  ·intro u hu;rcases bE.1 hu with hu|hu
   ·exact h1c u hu
   ·simp at hu;subst hu;rfl
 ·have h:rv.length=M.length:=by
   have:¬rv.length<M.length:=by simpa using h
   omega
  rw[h,bF]at hF;rw[h,bK,List.replicate_zero,List.append_nil];conv=>whnf
  intro ρe we re;refine⟨_,rfl,hw.tr re.cU,?_⟩;have Oo:=re.nn 0 _ rfl (by intros;simp) (by simp);have hm:=hF.mat re (cF w) (id:=0) rfl Oo (by unfold maxLen;omega) h1c;rw[h]at hm;have key:∀g,Cf w iv g->Cf w [(w.heap.size,we.heap.size)] g:=fun g hg=>by
   rcases hg with hg|⟨h1,lo,hi,h2,h3,h4⟩
   ·exact hg.elim
   ·exact .inr ⟨h1,_,_,bL.2 rfl,h1,by have:=re.pC lo hi h2;have:=re.size;omega⟩
  have Oa:=re.low 0 _ rfl Oo;refine⟨rv,hm.cL fun g hg=>⟨key g hg.1,hg.2⟩,fun g hg=>?_⟩;rcases hg with hg|⟨u,hu,hg⟩
  ·injection hg with hg;subst hg;exact .inr ⟨Oa.1,_,_,bL.2 rfl,Oa.1,Oa.2⟩
  ·exact key g (hF.new u hu g hg)
abbrev aAg:=yd
theorem Na(n:Nat)(w:World)(hn:n<=1000000000000):
  eG PG N.fS #[.slice none 0 0,.int .i64 n] w (eL w fun v' w2=>w2.ownsRow w.heap.size T.dy 4 v' 0 []):=by
 refine iG (by simp) ?_;conv=>whnf
 refine Hs (e:=T.dy) aAg (by rfl) (fun O w1 r=>?_);have hb:=r.cU;clear r;conv=>whnf
 refine⟨0,rfl,?_⟩;conv=>whnf
 refine⟨(n:Int),by show IntKind.wrap .i64 ((n:Int)-0)=_;rw[wrap64]<;>omega,?_⟩;conv=>whnf
 refine dN.mk ?_ ?_<;>intro h
 ·have h:0<n:=by have:=aI h;omega
  conv=>whnf
  refine Hs (e:=T.dy) aAg (by rfl) (fun O w2 r=>?_);replace hb:=hb.tr r.cU;clear r;conv=>whnf
  refine⟨⟨by omega,by omega,by omega⟩,none,0,0,by rfl,by omega,by omega,?_⟩;conv=>whnf
  refine Iq hτ (Bc:=w.heap.size) (Nat.le_refl _) (by rfl) (by rfl) ((hτ T.int _ rfl).i1 rfl) (by decide) (by rfl) (by rfl) h (by unfold maxLen;omega) (by omega) (fun O w3 w4 c r hc OV hg hs=>?_);have SZ:dq w.heap.size w w4:=(hb.tr r.cU).tr (dq.grown hg (fun g hg=>by cases hg) (by have:=r.base;have:=r.size;omega));have hw3:=(hb.tr r.cU).size;clear r;generalize w3.heap.size=g0 at*
  conv=>whnf
  refine⟨⟨by omega,by omega,by omega⟩,some ⟨g0,0,none⟩,0,c,by split<;>rfl,by omega,by omega,?_⟩;conv=>whnf
  intro ρ5 w5 r5
  exact⟨_,rfl,SZ.tr r5.cU,gv OV (fun b hb=>by
   have hb:g0=b:=by injection hb
   exact⟨g0,g0+1,by simp[hs],by omega,by omega⟩) r5⟩
 ·conv=>whnf
  intro ρ5 w5 r5;exact⟨_,rfl,hb.tr r5.cU,World.ownsRow_nil _ _ _ _⟩
theorem Jn(hS:Old S w)(h:iR w S 1 v (parts.map (·.1)) parts.length)(hp:∀p∈parts,iR w S 4 p.1 p.2.1 p.2.2)(hN:nm parts<=1000000000000):
  eG PG N.eO #[v] w (eL w fun v' w2=>w2.ownsRow w.heap.size T.dy 4 v' (nm parts) (parts.flatMap (·.2.1))):=by
 obtain⟨Qt,-,-,a,c,rfl,TF,PC⟩:=h;have hle:∀k,nm (parts.take k)<=nm parts:=fun k=>by
  conv=>rhs;rw[<-List.take_append_drop k parts,x8]
  omega
 have Oi:∀(i:Nat) p,parts[i]? =some p->nm (parts.take (i+1))=nm (parts.take i)+p.2.2:=fun i p hp=>by
  rw[List.take_add_one,hp,x8];simp[nm]
 have hnextx:∀(i:Nat) p,parts[i]? =some p->(parts.take (i+1)).flatMap (·.2.1)=(parts.take i).flatMap (·.2.1)++p.2.1:=fun i p hp=>by
  rw[List.take_add_one,hp];simp
 have Rd:∀(i:Nat) p,parts[i]? =some p->∃ad an ac,a=some ad∧S ad.block∧w.cell? (ad.add i)=some (.slice an p.2.2 ac)∧p.1= .slice an p.2.2 ac:=fun i p hi=>by
  obtain⟨ad,h1,h2,h3⟩:=PC i p.1 (by rw[aM,hi];rfl);obtain⟨_,_,_,an,ac,h4,_⟩:=hp p (aD hi);exact⟨ad,an,ac,h1,h2,by rw[h3,h4],h4⟩
 unfold maxLen at Qt;refine gl (by simp) ?_;conv=>whnf
 refine⟨Nat×World,fun z=>⟨[(0,sV a parts.length c),(3,.o (.v (.int .i64 (nm (parts.take z.1):Nat)))),(9,sV a parts.length c),(10,iZ parts.length),(11,iZ z.1)],[],0,[],z.2⟩,
  fun z=>parts.length-z.1,fun z=>z.1<=parts.length∧dq w.heap.size w z.2,?_,?_⟩
 ·intro O w' r;exact⟨(0,w'),⟨by simp,r.cU⟩,Sub.gn [] r⟩
 ·rintro⟨i,w1⟩ ⟨hi,hw⟩;dsimp only at hi hw ⊢;conv=>whnf
  refine dN.mk ?_ ?_<;>intro h
  ·have h:i<parts.length:=by simpa using h
   obtain⟨p,Sc⟩:∃p,parts[i]? =some p:=⟨_,aA h⟩
   obtain⟨ad,an,ac,h1,h2,h3,h4⟩:=Rd i p Sc;have Pk:=Oi i p Sc;have Qa:=hle (i+1);conv=>whnf
   refine⟨ad,h1,by omega,?_⟩;conv=>whnf
   refine⟨.slice an p.2.2 ac,fun O w' r=>by simpa using jY hS hw r h2 h3,?_⟩;conv=>whnf
   refine⟨((nm (parts.take (i+1)):Nat):Int),wo,?_⟩;conv=>whnf
   refine⟨((i+1:Nat):Int),wo,?_⟩;conv=>whnf
   intro ρ3 w3 r3;exact⟨(i+1,w3),⟨h,hw.tr r3.cU⟩,Sub.gn [] r3,by simp;omega⟩
  ·have h:i=parts.length:=by
    have:¬i<parts.length:=by simpa using h
    omega
   subst h;clear hi;rw[bF];conv=>whnf
   refine cH (cM (Φ:=fun _ w' v w2=>w2.ownsRow w'.heap.size T.dy 4 v 0 []) (fun O w' r=>Na _ w' (by omega)) ?_);rintro O wa v1 wb r he hb OV;have PH:=r.cG;have hes:=he.size;have hcov:BG [(wa.heap.size,wb.heap.size)] v1:=fun b hb=>⟨_,_,bL.2 rfl,(ownsRow.low OV b hb).1,(ownsRow.low OV b hb).2⟩
   replace OV:wb.ownsRow w.heap.size T.dy 4 v1 0 []:=⟨OV.1,OV.2.imp id fun⟨g,cap,cur,k1,k2,k3⟩=>⟨g,cap,cur,k1,by omega,k3⟩⟩
   replace hw:=hw.tr hb;clear r he;obtain⟨a1,c1,rfl,-⟩:=fF OV;conv=>whnf
   refine⟨Nat×Value×World,fun z=>⟨[(0,sV a parts.length c),(6,.o (.v z.2.1)),(25,sV a parts.length c),(26,iZ parts.length),(27,iZ z.1)],[],0,mD z.2.1,z.2.2⟩,
    fun z=>parts.length-z.1,fun z=>z.1<=parts.length∧dq w.heap.size w z.2.2∧z.2.2.ownsRow w.heap.size T.dy 4 z.2.1 (nm (parts.take z.1)) ((parts.take z.1).flatMap (·.2.1)),?_,?_⟩
   ·intro O w' r;exact⟨(0,.slice a1 0 c1,w'),⟨by simp,hw.tr r.cU,by simpa [nm]using gv OV hcov r⟩,Sub.aAz [] r trivial ⟨rfl,rfl,rfl,rfl,rfl,trivial⟩ (by simp[Mh]) (by simp[kF,SV.sc,At.sc]) (by rfl) hcov.iv⟩
   ·rintro⟨i,v1,w1⟩ ⟨hi,hw,OV⟩;dsimp only at hi hw OV ⊢;obtain⟨a1,c1,rfl,-⟩:=fF OV;conv=>whnf
    refine dN.mk ?_ ?_<;>intro h
    ·have h:i<parts.length:=by simpa using h
     obtain⟨p,Sc⟩:∃p,parts[i]? =some p:=⟨_,aA h⟩
     obtain⟨ad,an,ac,h1,h2,h3,h4⟩:=Rd i p Sc;have Pk:=Oi i p Sc;have Qa:=hle (i+1);have hpR:=hp p (aD Sc);conv=>whnf
     refine⟨ad,h1,by omega,?_⟩;conv=>whnf
     refine⟨.slice an p.2.2 ac,fun O w' r=>by simpa using jY hS hw r h2 h3,?_⟩;conv=>whnf
     refine .inr (sQ hτ (Nat.le_refl _) (xs:=(parts.take i).flatMap (·.2.1)) (news:=p.2.1) (m:=nm (parts.take i)) (k:=p.2.2) (by rfl) (by rfl) (by decide) (by rfl) (by rfl) (fun O w' r=>⟨gv OV (BG.row _) r,fun g hg=>(BG.row _).not r hg⟩) hpR.len hpR.one (by unfold maxLen;omega) (by omega)
      (fun O w' r=>?_) (fun v' w2=>mD v') (fun O w' v' w2 r PH RE=>GF r PH RE) (fun O w' v' w2 r h5 h6 h7=>?_))
     ·obtain⟨_,QO,_,a2,c2,h5,_,h6⟩:=hpR;rw[h4]at h5;injection h5 with h7 h8 h9;subst h7 h9
      cases an with
      |none=>
       refine .inl ⟨ac,?_,?_⟩
       ·have:p.2.2=0:=by
         rcases bN p.2.2 with h0|h0
         ·exact h0
         ·obtain⟨ad2,k1,_⟩:=h6 0 _ (aA (show 0<p.2.1.length by omega))
          cases k1
        rw[<-this];rfl
       ·rcases bN p.2.2 with h0|h0
        ·exact h0
        ·obtain⟨ad2,k1,_⟩:=h6 0 _ (aA (show 0<p.2.1.length by omega))
         cases k1
      |some ad3=>
       refine .inr ⟨ad3,ac,rfl,fun j u hu=>?_⟩;obtain⟨ad2,k1,k2,k3⟩:=h6 j u hu;injection k1 with k1;subst k1;exact jY hS hw r k2 k3
     ·have QW:dq w.heap.size w w2:=(hw.tr r.cU).tr (dq.grown h6 (fun g hg=>(ownsRow.low OV g hg).1) (by have:=r.size;have:=hw.size;omega));rw[<-Pk,<-hnextx i p Sc]at h5;obtain⟨a3,c3,rfl,-⟩:=fF h5;conv=>whnf
      refine⟨(i+1:Nat),wo,?_⟩;conv=>whnf
      intro ρ3 w3 r3
      exact⟨(i+1,.slice a3 (nm (parts.take (i+1))) c3,w3),⟨h,QW.tr r3.cU,gv h5 (BG.row _) r3⟩,
       Sub.gn [] r3,by simp;omega⟩
    ·have h:i=parts.length:=by
      have:¬i<parts.length:=by simpa using h
      omega
     subst h;rw[bF]at OV ⊢;conv=>whnf
     intro ρ5 w5 r5;exact⟨_,rfl,hw.tr r5.cU,gv OV (BG.row _) r5⟩
def dU(w:World)(S:Nat->Prop)(v:Value)(ps:List Nat):Prop:=iR w S 1 v (ps.map fun c:Nat=>.int .i64 (c:Int)) ps.length
theorem Nb{x:Nat}(hS:Old S w)(h:dU w S v ps)(hl:ps.length<=1000000):
  eG PG N.jL #[v,.int .i64 x] w (eL w fun v' _=>∃i:Int,v'= .int .i64 i∧(0<=i↔x∈ps)):=by
 obtain⟨h0,h1,h2,a,c,rfl,hc,PC⟩:=h;refine kc (by simp) ?_;conv=>whnf
 refine⟨Nat×World,fun z=>⟨[(0,sV a ps.length c),(1,iZ x),(7,iZ ps.length),(8,iZ z.1)],[],0,[],z.2⟩,fun z=>ps.length-z.1,
  fun z=>z.1<=ps.length∧dq w.heap.size w z.2∧∀(j:Nat) y,j<z.1->ps[j]? =some y->y≠x,?_,?_⟩
 ·intro O w' r;exact⟨(0,w'),⟨by simp,r.cU,by simp⟩,Sub.gn [] r⟩
 rintro⟨i,w1⟩ ⟨hi,hw,OY⟩;dsimp only at hi hw OY ⊢;conv=>whnf
 refine dN.mk ?_ ?_<;>intro h
 ·have h:i<ps.length:=by simpa using h
  obtain⟨y,hy⟩:∃y,ps[i]? =some y:=⟨_,aA h⟩
  obtain⟨ad,rfl,k1,k2⟩:=PC i (.int .i64 (y:Int)) (by rw[aM,hy];rfl);conv=>whnf
  refine⟨ad,rfl,by omega,?_⟩;conv=>whnf
  refine⟨.int .i64 (y:Int),fun O w' r=>by simpa using jY hS hw r k1 k2,?_⟩;conv=>whnf
  refine dN.mk ?_ ?_<;>intro he
  ·have he:x=y:=by have:=eq_of_beq he;omega
   conv=>whnf
   exact rtn hw fun ρe we re=>⟨_,rfl,⟨fun _=>by rw[he];exact aD hy,fun _=>by omega⟩⟩
  ·have he:x≠y:=fun e=>by rw[e]at he;simp at he
   conv=>whnf
   refine⟨((i+1:Nat):Int),wo,?_⟩;conv=>whnf
   intro ρ3 w3 r3;refine⟨(i+1,w3),⟨h,hw.tr r3.cU,fun j z hj hz=>?_⟩,Sub.gn [] r3,by dsimp only;omega⟩;by_cases PZ:j=i
   ·subst PZ;rw[hy]at hz;injection hz with hz;rw[<-hz];exact Ne.symm he
   ·exact OY j z (by dsimp only at hj;omega) hz
 ·have h:i=ps.length:=by
   have:¬i<ps.length:=by simpa using h
   omega
  conv=>whnf
  intro ρe we re;refine⟨_,rfl,hw.tr re.cU,-1,rfl,⟨fun h=>by omega,fun hm=>?_⟩⟩;obtain⟨j,hj⟩:=aN hm;exact absurd rfl (OY j x (by rw[h];exact(aE.1 hj).1) hj)
theorem dU.cJ{w2:World}(h:dU w S v ps)(hk:∀g,S g->w2.heap[g]? =w.heap[g]?):dU w2 S v ps:=iR.cJ h hk
theorem dU.cL{S':Nat->Prop}(h:dU w S v ps)(hk:∀g,S g->S' g):dU w S' v ps:=iR.cL h hk
section
variable{S S':Nat->Prop}{H:Hp}{nx:Nat}{iv iv':Iv}{B:Nat}{w w' w2:World}{O:Nat->Sx.dw}{v:Value}{ps:List Nat}
theorem dU.rel(h:dU w (Cv S B iv) v ps)(r:Rel H nx iv B w O w')(hS:∀g,S g->g<B):dU w' (Cv S B iv) v ps:=dU.cJ h fun _ hg=>Rel.same r hS hg
theorem dU.dF(h:dU w2 (Nf w' w2) v ps)(hB:B<=w'.heap.size)(hm:(w'.heap.size,w2.heap.size)∈iv):dU w2 (Cv S B iv) v ps:=dU.cL h fun _ hg=>hg.dF hB hm
theorem dU.arg(h:dU w S v ps)(iv:Iv):dU w (Cv S w.heap.size iv) v ps:=dU.cL h fun _ h=>.inl h
end
theorem H6{x:Nat}(hS:Old S w)(h:dU w S v ps)(hl:ps.length<=1000000):
  eG PG N.iU #[v,.int .i64 x] w (eL w fun v' _=>v'= .bool (decide (x∈ps))):=by
 replace h:=dU.arg h [];have hsh:=iR.shape h;obtain⟨a,m,c,rfl⟩:=hsh;refine jw (by simp) ?_;conv=>whnf
 refine cH (cM (Φ:=fun _ _ v _=>∃i:Int,v= .int .i64 i∧(0<=i↔x∈ps)) (fun O w' r=>Nb (Rel.old r hS) (dU.rel h r hS) hl) ?_);rintro O wa v1 wb r he hw ⟨i,rfl,hi⟩;clear r he;conv=>whnf
 exact rtn hw fun ρe we re=>congrArg Value.bool (decide_eq_decide.2 hi)
section
variable{S S':Nat->Prop}{H:Hp}{nx n:Nat}{iv iv':Iv}{B:Nat}{w w' w2:World}{O:Nat->Sx.dw}{v:Value}{qs:List Rat}
theorem kC.store{n1 c1 n2 c2:Nat}{b:Bool}(h:kC w' S B iv (.slice a n c) n qs)(hj:j<n)(hf:cZ w' (fun g=>Cv S B iv g∧(Value.slice a n c).ownBlock≠some g) (.agg #[.bool b,.slice a1 n1 c1,.bool b2,.slice a2 n2 c2]) q)
  (r:Rel H nx iv B w O w') (hS:∀g,S g->g<B):
  ∃g,a=some ⟨g,0,none⟩∧((⟨g,0,none⟩:Addr).add ((j:Int).toNat*4)).spot=none∧
   (∀k,k<4->(w'.cell? (((⟨g,0,none⟩:Addr).add ((j:Int).toNat*4)).add k)).isSome=true∧w'.frozen? (((⟨g,0,none⟩:Addr).add ((j:Int).toNat*4)).add k)=false)∧
   (∀id b,dD H id=some b->(O id).nil=false->(O id).g≠((⟨g,0,none⟩:Addr).add ((j:Int).toNat*4)).block)∧Cv FF B iv g∧
   ∀w2,w2=setCells w' ((⟨g,0,none⟩:Addr).add ((j:Int).toNat*4)) [.bool b,.slice a1 n1 c1,.bool b2,.slice a2 n2 c2]->kC w2 S B iv (.slice a n c) n (qs.set j q)∧w'.grownBy w2 (some g)∧w2.heap.size=w'.heap.size:=by
 obtain⟨g,rfl,h1,h2,h3,h4⟩:=h.row.store hj hf (fun g hg hx=>hx.2 hg) (fun x hx=>Rel.old r hS x hx.1);refine⟨g,rfl,h1,h3,fun id b hb hn=>by rw[h2];exact Rel.not r hS (EP (h.new g rfl)) id b hb hn,h.new g rfl,fun w2 Oz=>?_⟩;obtain⟨k1,k2,k3⟩:=h4 w2 Oz;exact⟨⟨k1,h.new⟩,k2,k3⟩
theorem cZ.apart(h:cZ w2 (Nw S w' w2) u q)(hx:∀g,v.ownBlock=some g->g<w'.heap.size∧¬S g)(hB:B<=w'.heap.size)(hS:∀g,S g->S' g):cZ w2 (fun g=>Cv S' B ((w'.heap.size,w2.heap.size)::iv) g∧v.ownBlock≠some g) u q:=
 h.cL fun g hg=>by
  rcases hg with hg|hg
  ·exact⟨.inl (hS g hg),fun e=>(hx g e).2 hg⟩
  ·exact⟨.inr ⟨by omega,_,_,aG,hg.1,hg.2⟩,fun e=>by have:=(hx g e).1;omega⟩
end
def fo(A:List (List Rat))(pv:List Nat)(cols c i:Nat):List Rat:=(List.range i).foldl (fun x i=>x.set (pv.getD i 0) (-(dK A i c))) ((List.replicate cols 0).set c 1)
def dP(A:List (List Rat))(pv:List Nat)(cols c:Nat):List (List Rat):=((List.range c).filter fun c=>decide (c∉pv)).map fun c=>fo A pv cols c pv.length
theorem gI(A:List (List Rat))(pv:List Nat)(cols c i:Nat):fo A pv cols c (i+1)=(fo A pv cols c i).set (pv.getD i 0) (-(dK A i c)):=by
 rw[fo,bS,List.foldl_append];rfl
theorem j3(A:List (List Rat))(pv:List Nat)(cols c i:Nat):(fo A pv cols c i).length=cols:=by
 induction i with
 |zero=>simp[fo]
 |succ i ih=>rw[gI,bM,ih]
theorem qh(h:c∈pv):dP A pv cols (c+1)=dP A pv cols c:=by
 rw[dP,bS,List.filter_append];simp[h,dP]
theorem oo(h:c∉pv):dP A pv cols (c+1)=dP A pv cols c++[fo A pv cols c pv.length]:=by
 rw[dP,bS,List.filter_append];simp[h,dP]
theorem cd.rowOf(h:fU w S S v qs):∃a c,v= .slice a qs.length c:=by
 obtain⟨a,c,h,_⟩:=h.shape;exact⟨a,c,h⟩
theorem MM{vp:Value}(hS:Old S w)(hA:fg w S vm A)(hp:dU w S vp pv)(OV:∀r∈A,r.length=n)(hcn:cols<=n)(hn:n<=1000000)(hR:A.length<=1000000)(Pb:pv.length<=A.length)(Qq:∀p∈pv,p<cols):
  eG PG N.uO #[vm,vp,.int .i64 cols] w (eL w fun v w2=>fg w2 (Nw S w w2) v (dP A pv cols cols)):=by
 obtain⟨am,cm,rfl,Rt,-⟩:=cd.shape hA;have hps:=hp;obtain⟨-,-,-,ap,cp,rfl,hcp,-⟩:=hps;refine yD (by simp) ?_;conv=>whnf
 refine⟨Nat×List Value×Iv×World,fun z=>⟨[(0,sV am A.length cm),(1,sV ap pv.length cp),(2,iZ cols),(7,.o (.w 0 z.2.1.length)),(12,iZ cols),(13,iZ z.1)],[(0,.vec T.row 1 z.2.1)],1,z.2.2.1,z.2.2.2⟩,fun z=>cols-z.1,
  fun z=>z.1<=cols∧dq w.heap.size w z.2.2.2∧z.2.1.length=(dP A pv cols z.1).length∧z.2.1.length<=z.1∧(∀(i:Nat) u qs,z.2.1[i]? =some u->(dP A pv cols z.1)[i]? =some qs->fU z.2.2.2 (Cv S w.heap.size z.2.2.1) (Cv S w.heap.size z.2.2.1) u qs),?_,?_⟩
 ·intro O w' r
  exact⟨(0,[],[],w'),⟨by simp,r.cU,by simp[dP],by simp,by simp⟩,Sub.nil 7 T.row 1 rfl (by simp[kF,SV.sc,At.sc,fm]) r fun ρ1 r1=>
   Sub.gn [] r1⟩
 rintro⟨c,rv,iv,w1⟩ ⟨hc,hw,Pm,hrc,hK⟩;dsimp only at hc hw Pm hrc hK ⊢;have hAw:∀{w2},dq w.heap.size w w2->fg w2 S (.slice am A.length cm) A:=fun hb=>fg.cJ hA fun g hg=>hb.block g (hS g hg);have hpw:∀{w2},dq w.heap.size w w2->dU w2 S (.slice ap pv.length cp) pv:=fun hb=>dU.cJ hp fun g hg=>hb.block g (hS g hg);conv=>whnf
 refine dN.mk ?_ ?_<;>intro h
 ·have h:c<cols:=by simpa using h
  conv=>whnf
  refine cH (cM (Φ:=fun _ _ v _=>v= .bool (decide (c∈pv))) (fun O w' r=>H6 (oS hS r) (hpw (hw.tr r.cU)) (by omega)) ?_);rintro O wa v1 wb r he hb rfl;replace hw:=hw.tr hb;replace hK:∀(i:Nat) u qs,rv[i]? =some u->(dP A pv cols c)[i]? =some qs->fU wb (Cv S w.heap.size ((wa.heap.size,wb.heap.size)::iv)) (Cv S w.heap.size ((wa.heap.size,wb.heap.size)::iv)) u qs:=
   fun i u qs h1 h2=>(hK i u qs h1 h2).cK r hS hS he fun x hx=>aC _ hx
  clear r he hb;generalize (wa.heap.size,wb.heap.size)::iv=OX at*
  conv=>whnf
  refine dN.mk ?_ ?_<;>intro hm
  ·have hm:c∈pv:=aI hm;conv=>whnf
   refine⟨((c+1:Nat):Int),wo,?_⟩;conv=>whnf
   intro ρ3 w3 r3
   refine⟨(c+1,rv,OX,w3),⟨h,hw.tr r3.cU,by dsimp only;rw[qh hm];exact Pm,by dsimp only;omega,fun i u qs h1 h2=>?_⟩,
    Sub.gn [] r3,by dsimp only;omega⟩
   rw[qh hm]at h2;exact(hK i u qs h1 h2).rel r3 hS hS
  ·have hm:c∉pv:=aH hm;conv=>whnf
   refine cH (cM (Φ:=fun _ w' v w2=>kC w2 FF w'.heap.size [(w'.heap.size,w2.heap.size)] v cols (List.replicate cols 0)) (fun O w' r=>EF cols w' (by omega)) ?_);rintro O wa v1 wb' r he hb hx;have hX:=hx.dF (S:=S) (iv:=(wa.heap.size,wb'.heap.size)::OX) r.cG aG;have RQ:∀g,v1.ownBlock=some g->wa.heap.size<=g:=fun g hg=>by
    rcases hx.new g hg with h|⟨h,_⟩
    ·exact h.elim
    ·exact h
   have Qz:∀g,v1.ownBlock=some g->¬Cv S w.heap.size OX g:=fun g hg h=>by
    have:=Rel.old r hS g h;have:=RQ g hg;omega
   replace hw:=hw.tr hb;replace hK:∀(i:Nat) u qs,rv[i]? =some u->(dP A pv cols c)[i]? =some qs->fU wb' (Cv S w.heap.size OX) (Cv S w.heap.size OX) u qs:=
    fun i u qs h1 h2=>((hK i u qs h1 h2).rel r hS hS).cJ fun g hg=>he.block g (hg.elim (Rel.old r hS g) (Rel.old r hS g))
   have OW:∀p,p∈OX->p∈(wa.heap.size,wb'.heap.size)::OX:=fun p hp=>aC _ hp;have hxB:∀g,v1.ownBlock=some g->w.heap.size<=g:=fun g hg=>by have:=RQ g hg;have:=r.cG;omega
   clear r he hb hx RQ;generalize (wa.heap.size,wb'.heap.size)::OX=Oh at*
   obtain⟨ax,cx,rfl,-⟩:=hX.row.form;conv=>whnf
   refine cH (cM (Φ:=fun _ w' v w2=>cZ w2 (Nf w' w2) v ((1:Int):Rat)) (fun O w' r=>rP 1 w' (by decide) (by decide)) ?_);rintro O wa v1 wb r he hb hO;have QV:cZ wb (fun g=>Cv S w.heap.size ((wa.heap.size,wb.heap.size)::Oh) g∧(Value.slice ax cols cx).ownBlock≠some g) v1 ((1:Int):Rat):=
    hO.apart (fun g hg=>⟨Rel.old r hS g (EP (hX.new g hg)),fun h=>h⟩) r.cG fun g hg=>hg.elim
   replace hX:=hX.cK (iv':=(wa.heap.size,wb.heap.size)::Oh) r hS he fun x hx=>aC _ hx;replace hK:∀(i:Nat) u qs,rv[i]? =some u->(dP A pv cols c)[i]? =some qs->fU wb (Cv S w.heap.size OX) (Cv S w.heap.size OX) u qs:=
    fun i u qs h1 h2=>(hK i u qs h1 h2).cJ fun g hg=>by
     have hg:Cv S w.heap.size Oh g:=(hg.elim id id).mono OW;rw[he.block g (Rel.old r hS g hg),Rel.same r hS hg]
   replace hw:=hw.tr hb;replace OW:∀p,p∈OX->p∈(wa.heap.size,wb.heap.size)::Oh:=fun p hp=>aC _ (OW p hp);clear r he hb hO;generalize (wa.heap.size,wb.heap.size)::Oh=On at*
   obtain⟨b1,a1,n1,c1,b2,a2,n2,c2,rfl⟩:=QV.shape;have Po:(((1:Int):Rat))=1:=rfl;rw[Po]at QV;conv=>whnf
   have Q3:∃g,ax=some ⟨g,0,none⟩:=by
    obtain⟨css,ho,_⟩:=hX.row;rcases ho.2 with⟨_,h0⟩|⟨g,cap,cur,e,_⟩
    ·omega
    ·injection e with e;exact⟨g,e⟩
   obtain⟨gx,rfl⟩:=Q3;refine⟨⟨gx,0,none⟩,rfl,by omega,?_⟩;conv=>whnf
   intro O w' r;obtain⟨_,Q3,h1,h2,h3,h4,h5⟩:=(hX.rel r hS).store h (cZ.cJ QV fun g hg=>Rel.same r hS hg.1) r hS;injection Q3 with Q3;injection Q3 with Q3;subst Q3;replace hw:=hw.tr r.cU;replace hK:∀(i:Nat) u qs,rv[i]? =some u->(dP A pv cols c)[i]? =some qs->fU w' (Cv S w.heap.size OX) (Cv S w.heap.size OX) u qs:=
    fun i u qs h1 h2=>(hK i u qs h1 h2).cJ fun g hg=>Rel.same r hS ((hg.elim id id).mono OW)
   have hold:∀g,Cv S w.heap.size On g->g<w'.heap.size:=Rel.old r hS;clear r hX QV;refine⟨h1,h2,h3,fun w2 Oz=>?_⟩;obtain⟨hX,Ot,-⟩:=h5 w2 Oz;replace hw:dq w.heap.size w w2:=hw.tr (dq.grown Ot (fun g hg=>by injection hg with hg;subst hg;exact hxB gx rfl) (by have:=hw.size;omega));replace hK:∀(i:Nat) u qs,rv[i]? =some u->(dP A pv cols c)[i]? =some qs->fU w2 (Cv S w.heap.size OX) (Cv S w.heap.size OX) u qs:=
    fun i u qs h1 h2=>(hK i u qs h1 h2).cJ fun g hg=>Ot.block g (hold g ((hg.elim id id).mono OW)) fun e=>by
     injection e with e;subst e;exact Qz _ rfl (hg.elim id id)
   clear h1 h2 h3 h4 h5 Oz Ot hold;conv=>whnf
   refine⟨Nat×Iv×World,fun z=>⟨[(0,sV am A.length cm),(1,sV ap pv.length cp),(2,iZ cols),(7,.o (.w 0 rv.length)),(8,iZ c),(9,.o (.v (.slice (some ⟨gx,0,none⟩) cols cx))),(12,iZ cols),(13,iZ c),
     (25,sV ap pv.length cp),(26,iZ pv.length),(27,iZ z.1)],[(0,.vec T.row 1 rv)],1,z.2.1,z.2.2⟩,fun z=>pv.length-z.1,
    fun z=>z.1<=pv.length∧dq w.heap.size w z.2.2∧(∀p,p∈OX->p∈z.2.1)∧kC z.2.2 S w.heap.size z.2.1 (.slice (some ⟨gx,0,none⟩) cols cx) cols (fo A pv cols c z.1)∧
     ∀(i:Nat) u qs,rv[i]? =some u->(dP A pv cols c)[i]? =some qs->fU z.2.2 (Cv S w.heap.size OX) (Cv S w.heap.size OX) u qs,?_,?_⟩
   ·intro O w' r
    exact⟨(0,On,w'),⟨by simp,hw.tr r.cU,OW,hX.rel r hS,fun i u qs h1 h2=>(hK i u qs h1 h2).cJ fun g hg=>Rel.same r hS ((hg.elim id id).mono OW)⟩,
     Sub.gn [] r⟩
   clear hX hK OW;rintro⟨i,PN,w5⟩ ⟨hi,hw,OW,hX,hK⟩;dsimp only at hi hw OW hX hK ⊢;conv=>whnf
   refine dN.mk ?_ ?_<;>intro Rq
   ·have Rq:i<pv.length:=by simpa using Rq
    obtain⟨p,Sc⟩:∃p,pv[i]? =some p:=⟨_,aA Rq⟩
    have hpd:pv.getD i 0=p:=by rw[List.getD,Sc];rfl
    have Vj:=Qq p (aD Sc);obtain⟨ra,Tl⟩:∃r,A[i]? =some r:=⟨_,aA (by omega)⟩
    have Wx:=OV ra (aD Tl);have hp5:=hpw hw;have hA5:=hAw hw;obtain⟨_,_,_,_,_,hpe,_,Rz⟩:=hp5;injection hpe with Vk hpe2 Vl;subst Vk Vl;obtain⟨adp,rfl,kp1,kp2⟩:=Rz i (.int .i64 (p:Int)) (by rw[aM,Sc];rfl);obtain⟨adm,um,rfl,PD,km1,km2⟩:=cd.load hA5 Tl;obtain⟨au,cu,hue⟩:=cd.rowOf PD;rw[Wx]at hue;subst hue;obtain⟨q,hq⟩:∃q,ra[c]? =some q:=⟨_,aA (by omega)⟩
    have Pp:dK A i c=q:=by
     have:A.getD i []=ra:=by rw[List.getD,Tl];rfl
     rw[dK,this,List.getD,hq];rfl
    obtain⟨adq,cs,rfl,hF,hl⟩:=PD.load hq;obtain⟨b3,a3,n3,c3,b4,a4,n4,c4,rfl,hF⟩:=hF;have hSame:∀{O w'},Rel [(0,.vec T.row 1 rv)] 1 PN w.heap.size w5 O w'->∀{g},S g->w'.heap[g]? =w5.heap[g]? :=fun r g hg=>Rel.same (S:=S) r hS (.inl hg);conv=>whnf
    refine⟨adp,rfl,by omega,?_⟩;conv=>whnf
    refine⟨.int .i64 (p:Int),fun O w' r=>?_,?_⟩
    ·rw[aF,aZ,cI (w:=w5) (w2:=w') (by rw[dC];exact Rel.same (S:=S) r hS (.inl kp1))];exact kp2
    conv=>whnf
    refine⟨adm,rfl,by omega,?_⟩;conv=>whnf
    refine⟨.slice (some adq) n cu,fun O w' r=>?_,?_⟩
    ·rw[aF,cI (w:=w5) (w2:=w') (by rw[dC];exact Rel.same (S:=S) r hS (.inl km1))];exact km2
    conv=>whnf
    refine⟨adq,rfl,by omega,?_⟩;conv=>whnf
    refine⟨[.bool b3,.slice a3 n3 c3,.bool b4,.slice a4 n4 c4],rfl,fun O w' r j u hu=>?_,?_⟩
    ·obtain⟨k1,k2⟩:=hl j u hu;rw[aF,cI (w:=w5) (w2:=w') (by rw[dC,dC];exact Rel.same (S:=S) r hS (.inl k1))];exact k2
    conv=>whnf
    refine cH (cM (Φ:=fun _ w' v w2=>cZ w2 (Nw S w' w2) v (-q)) (fun O w' r=>BB (oS hS r) (hF.cJ fun g hg=>Rel.same (S:=S) r hS (.inl hg))) ?_);rintro O wa v1 wb r he hb hO;have QV:cZ wb (fun g=>Cv S w.heap.size ((wa.heap.size,wb.heap.size)::PN) g∧(Value.slice (some ⟨gx,0,none⟩) cols cx).ownBlock≠some g) v1 (-q):=
     hO.apart (fun g hg=>⟨Rel.old r hS g (EP (hX.new g hg)),fun h=>by have:=hS g h;have:=hxB g hg;omega⟩) r.cG fun g hg=>hg
    replace hX:=(hX.cK (iv':=(wa.heap.size,wb.heap.size)::PN) r hS he fun x hx=>aC _ hx)
    replace hK:∀(i:Nat) u qs,rv[i]? =some u->(dP A pv cols c)[i]? =some qs->fU wb (Cv S w.heap.size OX) (Cv S w.heap.size OX) u qs:=
     fun i u qs h1 h2=>(hK i u qs h1 h2).cJ fun g hg=>by
      have hg:Cv S w.heap.size PN g:=(hg.elim id id).mono OW;rw[he.block g (Rel.old r hS g hg),Rel.same r hS hg]
    replace hw:=hw.tr hb;replace OW:∀p,p∈OX->p∈(wa.heap.size,wb.heap.size)::PN:=fun p hp=>aC _ (OW p hp);clear r he hb hO hF hl PD hA5 hSame kp1 kp2 km1 km2 Rz;generalize (wa.heap.size,wb.heap.size)::PN=RI at*
    obtain⟨b1,a1,n1,c1,b2,a2,n2,c2,rfl⟩:=QV.shape;conv=>whnf
    refine⟨⟨gx,0,none⟩,rfl,by omega,?_⟩;conv=>whnf
    intro O w' r;obtain⟨_,Q3,h1,h2,h3,h4,h5⟩:=(hX.rel r hS).store Vj (cZ.cJ QV fun g hg=>Rel.same r hS hg.1) r hS;injection Q3 with Q3;injection Q3 with Q3;subst Q3;replace hw:=hw.tr r.cU;replace hK:∀(i:Nat) u qs,rv[i]? =some u->(dP A pv cols c)[i]? =some qs->fU w' (Cv S w.heap.size OX) (Cv S w.heap.size OX) u qs:=
     fun i u qs h1 h2=>(hK i u qs h1 h2).cJ fun g hg=>Rel.same r hS ((hg.elim id id).mono OW)
    have hold:∀g,Cv S w.heap.size RI g->g<w'.heap.size:=Rel.old r hS;clear r hX QV;refine⟨h1,h2,h3,fun w2 Oz=>?_⟩;obtain⟨hX,Ot,-⟩:=h5 w2 Oz;replace hw:dq w.heap.size w w2:=hw.tr (dq.grown Ot (fun g hg=>by injection hg with hg;subst hg;exact hxB gx rfl) (by have:=hw.size;omega));replace hK:∀(i:Nat) u qs,rv[i]? =some u->(dP A pv cols c)[i]? =some qs->fU w2 (Cv S w.heap.size OX) (Cv S w.heap.size OX) u qs:=
     fun i u qs h1 h2=>(hK i u qs h1 h2).cJ fun g hg=>Ot.block g (hold g ((hg.elim id id).mono OW)) fun e=>by
      injection e with e;subst e;exact Qz _ rfl (hg.elim id id)
    clear h1 h2 h3 h4 h5 Oz Ot hold;rw[<-Pp,<-hpd,<-gI]at hX;conv=>whnf
    refine⟨((i+1:Nat):Int),wo,?_⟩;conv=>whnf
    intro ρ3 w3 r3
    exact⟨(i+1,RI,w3),⟨Rq,hw.tr r3.cU,OW,hX.rel r3 hS,fun i u qs h1 h2=>(hK i u qs h1 h2).cJ fun g hg=>Rel.same r3 hS ((hg.elim id id).mono OW)⟩,
     Sub.gn [] r3,by dsimp only;omega⟩
   ·have Rq:i=pv.length:=by
     have:¬i<pv.length:=by simpa using Rq
     omega
    subst Rq;have hxR:=hX.read;conv=>whnf
    refine .inl ?_;conv=>whnf
    refine⟨by simp,by omega,by unfold maxLen;omega,?_⟩;conv=>whnf
    refine⟨((c+1:Nat):Int),wo,?_⟩;conv=>whnf
    intro ρ3 w3 r3;have Vi:(rv++[Value.slice (some ⟨gx,0,none⟩) cols cx]).length=rv.length+1:=by simp
    refine⟨(c+1,rv++[.slice (some ⟨gx,0,none⟩) cols cx],PN,w3),⟨h,hw.tr r3.cU,by dsimp only;rw[oo hm,Vi,Pm];simp,by dsimp only;rw[Vi];omega,fun i u qs h1 h2=>?_⟩,
     Sub.gn [(0,2)] r3 (hE:=⟨rfl,rfl,rfl,by dsimp only;rw[Vi];rfl,rfl,rfl,trivial⟩),by dsimp only;omega⟩
    rw[oo hm]at h2;dsimp only at h1 h2 ⊢;rcases aS i rv.length with hil|hil
    ·rw[aK hil]at h1;rw[aK (by rw[<-Pm];exact hil)]at h2;exact((hK i u qs h1 h2).cL (fun g hg=>hg.mono OW) fun g hg=>hg.mono OW).rel r3 hS hS
    ·have h0:i=rv.length:=by
      have:=(aE.1 h1).1;rw[Vi]at this;omega
     subst h0;rw[aO (Nat.le_refl _),bK]at h1;rw[Pm,aO (Nat.le_refl _),bK]at h2;simp at h1 h2;subst h1 h2;exact hxR.rel r3 hS hS
 ·have h:c=cols:=by
   have:¬c<cols:=by simpa using h
   omega
  subst h;conv=>whnf
  intro ρe we re;refine⟨_,rfl,hw.tr re.cU,?_⟩
  have hv:=re.iD (id:=0) (sz:=1) (m:=rv.length) rfl (by simp) (by unfold maxLen;omega) (by decide) (fun u hu=>by
   obtain⟨i,hi⟩:=aN hu;obtain⟨a,cc,e⟩:=cd.rowOf (hK i u _ hi (aA (by rw[<-Pm];exact(aE.1 hi).1)));rw[e]
   rfl)
  refine⟨rv,?_,Pm,fun i u qs h1 h2=>?_⟩
  ·rw[<-Pm];exact hv.cL fun g hg=>.inr hg
  ·exact((hK i u qs h1 h2).rel re hS hS).cL (fun g hg=>Cv.nw hg re) fun g hg=>Cv.nw hg re
end Go.Ex
