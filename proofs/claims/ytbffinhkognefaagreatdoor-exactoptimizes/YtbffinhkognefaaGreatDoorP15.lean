/- Texts L93 to X248: lemmas, each with its conditions. -/
import Derived.Test.YtbffinhkognefaaGreatDoorP14
namespace Go.Ex
variable{l:List Rat}{h k:Nat}
theorem nJ{α:Type}{l:List α}{i j:Nat}{x d:α}:(l.set i x).getD j d=if i=j/\i<l.length then x else l.getD j d:=by
 rw[List.getD,List.getElem?_set];by_cases h:i=j
 .subst h;rw[aM rfl];by_cases I:i<l.length
  .rw[aM I,aM ⟨rfl,I⟩];rfl
  .rw[aI I,aI fun e=>I e.2,List.getD,List.getElem?_eq_none be]
 .rw[aI h,aI fun e=>h e.1];rfl
section
variable{t:Tb}{r s i:Nat}
def Tb.pT(t:Tb)(r s i:Nat):Tb where
 bs:=t.bs.set r (t.fs.getD s 0)
 fs:=t.fs.set s (t.bs.getD r 0)
 a:=t.a.mapIdx fun k x=>if k=r then t.mQ r s else if k<i then rJ (x.set s 0) (-(x.getD s 0)) (t.mQ r s)else x
 b:=t.b.mapIdx fun k x=>if k=r then t.bP r s else if k<i then x+ -(dU t.a k s)*t.bP r s else x
 c:=t.c
 top:=t.top
theorem Tb.PB:(t.pT r s i).a.length=t.a.length:=List.length_mapIdx
theorem Tb.PC:(t.pT r s i).b.length=t.b.length:=List.length_mapIdx
theorem Tb.MV(hr:r<t.a.length):(t.pT r s i).a.getD r []=t.mQ r s:=by
 unfold Tb.pT;rw[iI [] [] hr,aM rfl]
theorem Tb.MW(hr:r<t.b.length):(t.pT r s i).b.getD r 0=t.bP r s:=by
 unfold Tb.pT;rw[iI 0 0 hr,aM rfl]
theorem Tb.PD(R:k<t.a.length)(Po:k≠r)(Va:i<=k):(t.pT r s i).a.getD k []=t.a.getD k []:=by
 unfold Tb.pT;rw[iI [] [] R,aI Po,aI be]
theorem Tb.PE(R:k<t.b.length)(Po:k≠r)(Va:i<=k):(t.pT r s i).b.getD k 0=t.b.getD k 0:=by
 unfold Tb.pT;rw[iI 0 0 R,aI Po,aI be]
theorem Tb.MX:(t.mQ r s).length=(t.a.getD r []).length:=by unfold Tb.mQ;rw[aO,bW]
theorem Tb.ext{u v:Tb}(Y:u.bs=v.bs)(I:u.fs=v.fs)(h3:u.a=v.a)(h4:u.b=v.b)(h5:u.c=v.c)(h6:u.top=v.top):u=v:=by
 cases u;cases v;simp_all
theorem Tb.OD(hr:r<t.a.length):
  (Tb.mk (t.bs.set r (t.fs.getD s 0)) (t.fs.set s (t.bs.getD r 0)) ((t.a.set r ((t.a.getD r []).set s 1)).set r (((t.a.set r ((t.a.getD r []).set s 1)).getD r []).map (· *(1 / dU t.a r s)))) (t.b.set r (t.b.getD r 0*(1 / dU t.a r s))) t.c t.top)=t.pT r s 0:=by
 refine Tb.ext rfl rfl ?_ ?_ rfl rfl
 .show List.set _ _ _=List.mapIdx _ _;rw[nJ,aM ⟨rfl,hr⟩,List.set_set];apply bA;intro k;rw[List.getElem?_mapIdx,List.getElem?_set];by_cases e:r=k
  .subst e;rw[aM rfl,aM hr,aE hr,bU,aM rfl];rfl
  .rw[aI e]
   cases h:t.a[k]? with
   |none=>rfl
   |some y=>rw[bU,aI (Ne.symm e),aI (Nat.not_lt_zero _)]
 .show List.set _ _ _=List.mapIdx _ _;apply bA;intro k;rw[List.getElem?_mapIdx,List.getElem?_set];by_cases e:r=k
  .subst e;rw[aM rfl];by_cases A:r<t.b.length
   .rw[aM A,aE A,bU,aM rfl];rfl
   .rw[aI A,List.getElem?_eq_none be];rfl
  .rw[aI e]
   cases h:t.b[k]? with
   |none=>rfl
   |some y=>rw[bU,aI (Ne.symm e),aI (Nat.not_lt_zero _)]
theorem Tb.OE(e:i=r):t.pT r s i=t.pT r s (i+1):=by
 refine Tb.ext rfl rfl ?_ ?_ rfl rfl
 .show List.mapIdx _ _=List.mapIdx _ _;congr 1
  funext k x
  by_cases h:k=r
  .rw[aM h,aM h]
  .rw[aI h,aI h];by_cases I:k<i
   .rw[aM I,aM be]
   .rw[aI I,aI be]
 .show List.mapIdx _ _=List.mapIdx _ _;congr 1
  funext k x
  by_cases h:k=r
  .rw[aM h,aM h]
  .rw[aI h,aI h];by_cases I:k<i
   .rw[aM I,aM be]
   .rw[aI I,aI be]
theorem Tb.OF(N:i<t.a.length)(hr:r<t.a.length)(hl:t.b.length=t.a.length)(Po:i≠r)(P:Tb)(hP:P=t.pT r s i):
  (Tb.mk P.bs P.fs ((P.a.set i ((P.a.getD i []).set s 0)).set i (rJ ((P.a.set i ((P.a.getD i []).set s 0)).getD i []) (-(dU P.a i s)) ((P.a.set i ((P.a.getD i []).set s 0)).getD r [])))
   (P.b.set i (P.b.getD i 0+ -(dU P.a i s)*P.b.getD r 0)) P.c P.top)=t.pT r s (i+1):=by
 have hPa:P.a.length=t.a.length:=by rw[hP,Tb.PB]
 have hPb:P.b.length=t.b.length:=by rw[hP,Tb.PC]
 have Y:P.a.getD i []=t.a.getD i []:=by rw[hP,Tb.PD N Po (aq i)]
 have I:P.a.getD r []=t.mQ r s:=by rw[hP,Tb.MV hr]
 have h3:P.b.getD i 0=t.b.getD i 0:=by rw[hP,Tb.PE be Po (aq i)]
 have h4:P.b.getD r 0=t.bP r s:=by rw[hP,Tb.MW be]
 have h5:dU P.a i s=dU t.a i s:=by unfold dU;rw[Y]
 refine Tb.ext (by rw[hP];rfl) (by rw[hP];rfl) ?_ ?_ (by rw[hP];rfl) (by rw[hP];rfl)
 .show List.set _ _ _=List.mapIdx _ _;rw[List.set_set,nJ,aM ⟨rfl,be⟩,nJ,aI fun e=>Po e.1,Y,I,h5];apply bA;intro k;rw[List.getElem?_mapIdx,List.getElem?_set];by_cases e:i=k
  .subst e;rw[aM rfl,aM be,aE N,bU,aI Po,aM be];have:t.a.getD i []=t.a[i]:=by rw[List.getD,aE N];rfl
   rw[<-this];rfl
  .rw[aI e,hP];show(List.mapIdx _ _)[k]? =_;rw[List.getElem?_mapIdx];congr 1
   funext x
   by_cases h:k=r
   .rw[aM h,aM h]
   .rw[aI h,aI h];by_cases I:k<i
    .rw[aM I,aM be]
    .rw[aI I,aI be]
 .show List.set _ _ _=List.mapIdx _ _;rw[h3,h4,h5];apply bA;intro k;rw[List.getElem?_mapIdx,List.getElem?_set];by_cases e:i=k
  .subst e;rw[aM rfl,aM be,aE be,bU,aI Po,aM be];have:t.b.getD i 0=t.b[i]' be:=by rw[List.getD,aE];rfl
   rw[<-this]
  .rw[aI e,hP];show(List.mapIdx _ _)[k]? =_;rw[List.getElem?_mapIdx];congr 1
   funext x
   by_cases h:k=r
   .rw[aM h,aM h]
   .rw[aI h,aI h];by_cases I:k<i
    .rw[aM I,aM be]
    .rw[aI I,aI be]
theorem Tb.Pf(hr:r<t.a.length)(hl:t.b.length=t.a.length)(P:Tb)(hP:P=t.pT r s t.a.length):
  (Tb.mk P.bs P.fs P.a P.b (rJ (P.c.set s 0) (-(P.c.getD s 0)) (P.a.getD r [])) (P.top+P.c.getD s 0*P.b.getD r 0))=t.gZ r s:=by
 have I:P.a.getD r []=t.mQ r s:=by rw[hP,Tb.MV hr]
 have h4:P.b.getD r 0=t.bP r s:=by rw[hP,Tb.MW be]
 rw[I,h4];subst hP;refine Tb.ext rfl rfl ?_ ?_ rfl rfl
 .show List.mapIdx _ _=List.mapIdx _ _;apply bA;intro k;rw[List.getElem?_mapIdx,List.getElem?_mapIdx]
  cases h:t.a[k]? with
  |none=>rfl
  |some y=>
   have R:=(aH.1 h).1;rw[bU,bU,aM R]
 .show List.mapIdx _ _=List.mapIdx _ _;apply bA;intro k;rw[List.getElem?_mapIdx,List.getElem?_mapIdx]
  cases h:t.b[k]? with
  |none=>rfl
  |some y=>
   have R:=(aH.1 h).1;rw[bU,bU,aM (show k<t.a.length by omega)]
structure Tb.xW(t:Tb)(h:Nat):Prop where
 a:Ht t.a h
 b:∀q∈t.b,rl q+1<=h
 c:∀q∈t.c,rl q+1<=h
 top:rl t.top+1<=h
structure Tb.Wf(t:Tb)(m q:Nat):Prop where
 bs:t.bs.length=m
 fs:t.fs.length=q
 al:t.a.length=m
 aw:iq q t.a
 b:t.b.length=m
 c:t.c.length=q
theorem Rp.wf{D:Dc}(h:Rp t D):t.Wf D.m D.q:=⟨h.KR,h.Nv,h.al,h.aw,h.bl,h.cl⟩
theorem Tb.Wf.row{m q:Nat}(h:t.Wf m q)(R:k<m):(t.a.getD k []).length=q:=h.aw.getD (by rw[h.al];exact R)
theorem Tb.Wf.pT{m q:Nat}(h:t.Wf m q)(hr:r<m):(t.pT r s i).Wf m q:=by
 refine⟨by show(List.set _ _ _).length=_;rw[bW];exact h.bs,by show(List.set _ _ _).length=_;rw[bW];exact h.fs,Tb.PB.trans h.al,fun x E=>?_,Tb.PC.trans h.b,h.c⟩;obtain⟨k,R⟩:=az E;have Tm:(t.a.mapIdx fun k x=>if k=r then t.mQ r s else if k<i then rJ (x.set s 0) (-(x.getD s 0)) (t.mQ r s)else x)[k]? =some x:=R;rw[List.getElem?_mapIdx]at Tm
 cases hy:t.a[k]? with
 |none=>rw[hy]at Tm;cases Tm
 |some y=>
  have Sv:=h.aw y (aG hy);rw[hy]at Tm;injection Tm with Tm;rw[<-Tm];split
  .rw[Tb.MX,h.row hr]
  .split
   .rw[oJ,bW];exact Sv
   .exact Sv
theorem sG{i:Nat}(H:∀q∈l,rl q+1<=h)(I:2<=h):rl (l.getD i 0)+1<=h:=kl H I i
theorem Tb.xW.mQ(H:t.xW h)(I:2<=h)(h0:dU t.a r s≠0):∀q∈t.mQ r s,rl q<=2*h:=fun q hq=>by
 obtain⟨x,E,rfl⟩:=bE.1 hq;have h3:=jl x (1 / dU t.a r s);have h4:=uj h0;have Pm:∀q∈t.a.getD r [],rl q+1<=h:=fun q hq=>by
  by_cases hr:r<t.a.length
  .exact H.a _ (vq hr) q hq
  .rw[List.getD,List.getElem?_eq_none be]at hq;cases hq
 have h5:rl (dU t.a r s)+1<=h:=sG Pm I;have h6:rl x+1<=h:=by
  rcases bQ E with h7|h7
  .exact Pm x h7
  .rw[h7,EM];exact I
 omega
theorem Tb.xW.dU(H:t.xW h)(I:2<=h)(i j:Nat):rl (dU t.a i j)+1<=h:=by
 refine sG (fun q hq=>?_) I;by_cases hr:i<t.a.length
 .exact H.a _ (vq hr) q hq
 .rw[List.getD,List.getElem?_eq_none be]at hq;cases hq
theorem Tb.xW.Pg(H:t.xW h)(I:2<=h)(i:Nat):rl (t.b.getD i 0)+1<=h:=sG H.b I
theorem Tb.xW.cat(H:t.xW h)(I:2<=h)(i:Nat):rl (t.c.getD i 0)+1<=h:=sG H.c I
theorem Tb.xW.OG(H:t.xW h)(i:Nat):∀y∈t.a.getD i [],rl y+1<=h:=fun y hy=>by
 by_cases hr:i<t.a.length
 .exact H.a _ (vq hr) y hy
 .rw[List.getD,List.getElem?_eq_none be]at hy;cases hy
theorem Tb.xW.Ph(H:t.xW h){z:Rat}(hz:rl z+1<=h)(i s:Nat):∀y∈(t.a.set i ((t.a.getD i []).set s z)).getD i [],rl y+1<=h:=fun y hy=>by
 rw[nJ]at hy;split at hy
 .rcases bQ hy with Y|Y
  .exact H.OG i y Y
  .rw[Y];exact hz
 .exact H.OG i y hy
end
end Go.Ex
namespace Go.Ex
open Go Go.Sx Go.Proofs
variable{ca:List (List (List Value))}{cb cc Z:List (List Value)}{qs:List Rat}{tp:List Value}{k m q:Nat}{S X:Nat->Prop}{it:Ow}{p:Rat}{x:Tx}{u vby:Value}{w:World}
theorem Fr.at4(h:Fr w S Z qs){j:Nat}(hj:j<qs.length):
  ∃b a n c b2 a2 n2 c2,Z[j]? =some (rC b a n c b2 a2 n2 c2)/\cz w S (.agg #[.bool b,.slice a n c,.bool b2,.slice a2 n2 c2]) (qs.getD j 0):=by
 have Y:Z[j]? =some (Z[j]'(by rw[h.1];exact hj)):=aE _;have I:qs[j]? =some (qs.getD j 0):=by rw[List.getD,aE hj];rfl
 obtain⟨b,a,n,c,b2,a2,n2,c2,h3,h4⟩:=h.2 j _ _ Y I;exact⟨b,a,n,c,b2,a2,n2,c2,by rw[Y,h3],h4⟩
section
variable{S:Nat->Prop}{iv:Iv}{B:Nat}{w:World}{x:Tx}{t:Tb}{a:Option Addr}{m c i j:Nat}
def K9(w:World)(iv:Iv)(B:Nat)(P:World->Prop):Prop:=∀{H:Hp} {nx:Nat} {O:Nat->Sx.eH} {J:World},Rel H nx iv B w O J->P J
theorem dJ.OO(hT:dJ w S B iv x t)(W:∀g,S g->g<B)(hu:[x.vb,x.vf,x.va,x.vB,x.vc][k]? =some u):K9 w iv B fun J=>J.cell? (Addr.add ⟨x.g,0,none⟩ k)=some u:=fun r=>by
 obtain⟨tp,cb,cc,ca,hC⟩:=hT.jK;have YA:(x.vb::x.vf::x.va::x.vB::x.vc::tp)[k]? =some u:=by
  show([x.vb,x.vf,x.va,x.vB,x.vc]++tp)[k]? =some u;rw[aN (eU hu)];exact hu
 obtain⟨g,c,e,Y⟩:=(hC.cX (hT.same r W)).ows.ld aF YA;injection e with e;injection e with e;injection e with e;rw[dF,aS,e];exact Y
theorem dJ.ldT(hT:dJ w S B iv x t)(W:∀g,S g->g<B):∃b a n c b2 a2 n2 c2,(K9 w iv B fun J=>∀k u,(rC b a n c b2 a2 n2 c2)[k]? =some u->J.cell? (Addr.add (Addr.add ⟨x.g,0,none⟩ 5) k)=some u)/\cz w (Lv S B iv x) (.agg #[.bool b,.slice a n c,.bool b2,.slice a2 n2 c2]) t.top:=by
 obtain⟨tp,cb,cc,ca,hC⟩:=hT.jK;obtain⟨b,a,n,c,b2,a2,n2,c2,rfl,h4⟩:=hC.ft;refine⟨b,a,n,c,b2,a2,n2,c2,fun r k u hu=>?_,h4⟩;obtain⟨g,c,e,Y⟩:=(hC.cX (hT.same r W)).ows.ld (k:=5+k) (u:=u) aF (by rw[Nat.add_comm];exact hu);injection e with e;injection e with e;injection e with e;rw[dF,dF,aS,e];exact Y
theorem dJ.Ja{g n c:Nat}(hT:dJ w S B iv x t)(hC:fw w (Lv S B iv x) x t tp cb cc ca)(W:∀g,S g->g<B)(hm:it∈iL x t tp cb cc ca)(hu:it.xs[k]? =some u)(hv:it.v= .slice (some ⟨g,0,none⟩) n c):K9 w iv B fun J=>J.cell? (Addr.add ⟨g,0,none⟩ k)=some u:=fun r=>by
 obtain⟨g',c2,e2,Y⟩:=(hC.cX (hT.same r W)).ows.ld hm hu;rw[hv]at e2;injection e2 with e2;injection e2 with e2;injection e2 with e2;rw[dF,aS,e2];exact Y
variable{g n:Nat}{v:Value}
theorem dJ.cBs(hT:dJ w S B iv x t)(W:∀g,S g->g<B)(N:i<t.bs.length)(hv:x.vb= .slice (some ⟨g,0,none⟩) n c):K9 w iv B fun J=>J.cell? (Addr.add ⟨g,0,none⟩ (i*1))=some (iV ((t.bs.getD i 0:Nat):Int)):=by
 obtain⟨tp,cb,cc,ca,hC⟩:=hT.jK;rw[av];exact hT.Ja hC W (it:=⟨x.vb,T.int,1,t.bs.length,ints t.bs⟩) (by simp[iL]) (Gg N) hv
theorem dJ.cFs(hT:dJ w S B iv x t)(W:∀g,S g->g<B)(N:i<t.fs.length)(hv:x.vf= .slice (some ⟨g,0,none⟩) n c):K9 w iv B fun J=>J.cell? (Addr.add ⟨g,0,none⟩ (i*1))=some (iV ((t.fs.getD i 0:Nat):Int)):=by
 obtain⟨tp,cb,cc,ca,hC⟩:=hT.jK;rw[av];exact hT.Ja hC W (it:=⟨x.vf,T.int,1,t.fs.length,ints t.fs⟩) (by simp[iL]) (Gg N) hv
theorem dJ.cA(hT:dJ w S B iv x t)(W:∀g,S g->g<B)(N:x.rv[i]? =some v)(hv:x.va= .slice (some ⟨g,0,none⟩) n c):K9 w iv B fun J=>J.cell? (Addr.add ⟨g,0,none⟩ (i*1))=some v:=by
 obtain⟨tp,cb,cc,ca,hC⟩:=hT.jK;rw[av];exact hT.Ja hC W (it:=⟨x.va,T.row,1,x.rv.length,x.rv⟩) (by simp[iL]) N hv
def En(w:World)(iv:Iv)(B:Nat)(g j:Nat)(b:Bool)(a1:Option Addr)(n c:Nat)(b2:Bool)(a2:Option Addr)(n2 c2:Nat):Prop:=
 K9 w iv B fun J=>∀k u,(rC b a1 n c b2 a2 n2 c2)[k]? =some u->J.cell? (Addr.add (Addr.add ⟨g,0,none⟩ (j*4)) k)=some u
theorem fw.ld4(hT:dJ w S B iv x t)(hC:fw w (Lv S B iv x) x t tp cb cc ca)(W:∀g,S g->g<B)(hm:gK v Z∈iL x t tp cb cc ca)(hF:Fr w (Lv S B iv x) Z qs)(hj:j<qs.length)(hv:v= .slice (some ⟨g,0,none⟩) n c):
  ∃b a1 n1 c1 b2 a2 n2 c2,En w iv B g j b a1 n1 c1 b2 a2 n2 c2/\cz w (Lv S B iv x) (.agg #[.bool b,.slice a1 n1 c1,.bool b2,.slice a2 n2 c2]) (qs.getD j 0):=by
 obtain⟨b,a1,n1,c1,b2,a2,n2,c2,Y,I⟩:=hF.at4 hj;refine⟨b,a1,n1,c1,b2,a2,n2,c2,fun r k u hu=>?_,I⟩;have h3:=hT.Ja hC W hm (flat_get hF.oy Y k u hu) hv r;rw[dF,aS]at h3;rw[dF,dF,aS];exact h3
theorem dJ.eB(hT:dJ w S B iv x t)(W:∀g,S g->g<B)(hj:j<t.b.length)(hv:x.vB= .slice (some ⟨g,0,none⟩) n c):
  ∃b a1 n1 c1 b2 a2 n2 c2,En w iv B g j b a1 n1 c1 b2 a2 n2 c2/\cz w (Lv S B iv x) (.agg #[.bool b,.slice a1 n1 c1,.bool b2,.slice a2 n2 c2]) (t.b.getD j 0):=by
 obtain⟨tp,cb,cc,ca,hC⟩:=hT.jK;exact fw.ld4 hT hC W (by simp[iL]) hC.fb hj hv
theorem dJ.eC(hT:dJ w S B iv x t)(W:∀g,S g->g<B)(hj:j<t.c.length)(hv:x.vc= .slice (some ⟨g,0,none⟩) n c):
  ∃b a1 n1 c1 b2 a2 n2 c2,En w iv B g j b a1 n1 c1 b2 a2 n2 c2/\cz w (Lv S B iv x) (.agg #[.bool b,.slice a1 n1 c1,.bool b2,.slice a2 n2 c2]) (t.c.getD j 0):=by
 obtain⟨tp,cb,cc,ca,hC⟩:=hT.jK;exact fw.ld4 hT hC W (by simp[iL]) hC.fc hj hv
theorem dJ.eA(hT:dJ w S B iv x t)(W:∀g,S g->g<B)(N:i<t.a.length)(hj:j<(t.a.getD i []).length)(hv:x.rv[i]? =some (.slice (some ⟨g,0,none⟩) n c)):
  ∃b a1 n1 c1 b2 a2 n2 c2,En w iv B g j b a1 n1 c1 b2 a2 n2 c2/\cz w (Lv S B iv x) (.agg #[.bool b,.slice a1 n1 c1,.bool b2,.slice a2 n2 c2]) (dU t.a i j):=by
 obtain⟨tp,cb,cc,ca,hC⟩:=hT.jK;obtain⟨v,Z,Y,I,h3,h4⟩:=hC.row N;rw[Y]at hv;injection hv with hv;exact fw.ld4 hT hC W (aG (hC.rowAt Y I)) h3 hj hv
theorem dJ.f0(hT:dJ w S B iv x t)(W:∀g,S g->g<B)(hv:x.vb=v):K9 w iv B fun J=>J.cell? (Addr.add ⟨x.g,0,none⟩ 0)=some v:=hv▸hT.OO W rfl
theorem dJ.f1(hT:dJ w S B iv x t)(W:∀g,S g->g<B)(hv:x.vf=v):K9 w iv B fun J=>J.cell? (Addr.add ⟨x.g,0,none⟩ 1)=some v:=hv▸hT.OO W rfl
theorem dJ.f2(hT:dJ w S B iv x t)(W:∀g,S g->g<B)(hv:x.va=v):K9 w iv B fun J=>J.cell? (Addr.add ⟨x.g,0,none⟩ 2)=some v:=hv▸hT.OO W rfl
theorem dJ.f3(hT:dJ w S B iv x t)(W:∀g,S g->g<B)(hv:x.vB=v):K9 w iv B fun J=>J.cell? (Addr.add ⟨x.g,0,none⟩ 3)=some v:=hv▸hT.OO W rfl
theorem dJ.f4(hT:dJ w S B iv x t)(W:∀g,S g->g<B)(hv:x.vc=v):K9 w iv B fun J=>J.cell? (Addr.add ⟨x.g,0,none⟩ 4)=some v:=hv▸hT.OO W rfl
end
theorem dJ.cast{iv:Iv}{B:Nat}{t t':Tb}(h:dJ w S B iv x t)(e:t=t'):dJ w S B iv x t':=e▸h
structure Adr(x:Tx)(m q gb cb gf cf ga ca gB cB gc cc:Nat):Prop where
 b:x.vb= .slice (some ⟨gb,0,none⟩) m cb
 f:x.vf= .slice (some ⟨gf,0,none⟩) q cf
 a:x.va= .slice (some ⟨ga,0,none⟩) m ca
 B:x.vB= .slice (some ⟨gB,0,none⟩) m cB
 c:x.vc= .slice (some ⟨gc,0,none⟩) q cc
 row:∀i,i<m->∃g c,x.rv[i]? =some (.slice (some ⟨g,0,none⟩) q c)
theorem fw.OP{t:Tb}(h:fw w S x t tp cb cc ca)(hm:it∈iL x t tp cb cc ca)(h0:0<it.n):∃g c,it.v= .slice (some ⟨g,0,none⟩) it.n c:=by
 rcases(h.ows.own it hm).2 with⟨_,Y⟩|⟨g,cap,cur,e,_⟩
 .omega
 .exact⟨g,cap,e⟩
theorem fw.hd{t:Tb}(h:fw w S x t tp cb cc ca)(hm:it∈iL x t tp cb cc ca){n:Nat}(U:it.n=n):∃a c,it.v= .slice a n c/\n<=c/\c<=maxLen/\(0<n->∃g,a=some ⟨g,0,none⟩):=by
 subst U;rcases(h.ows.own it hm).2 with⟨e,h0⟩|⟨g,cap,cur,e,_,_,U,hm,_⟩
 .exact⟨none,0,by rw[e,h0],by rw[h0];exact lr,mx,fun h=>be⟩
 .exact⟨_,cap,e,U,hm,fun _=>⟨g,rfl⟩⟩
theorem fQ.hdb{t:Tb}(h:fQ w S x t)(hW:t.Wf m q):∃a c,x.vb= .slice a m c/\m<=c/\c<=maxLen/\(0<m->∃g,a=some ⟨g,0,none⟩):=by
 obtain⟨tp,cb,cc,ca,hC⟩:=h;exact hC.hd (it:=⟨x.vb,T.int,1,t.bs.length,ints t.bs⟩) (by simp[iL]) hW.bs
theorem fQ.hdf{t:Tb}(h:fQ w S x t)(hW:t.Wf m q):∃a c,x.vf= .slice a q c/\q<=c/\c<=maxLen/\(0<q->∃g,a=some ⟨g,0,none⟩):=by
 obtain⟨tp,cb,cc,ca,hC⟩:=h;exact hC.hd (it:=⟨x.vf,T.int,1,t.fs.length,ints t.fs⟩) (by simp[iL]) hW.fs
theorem fQ.hda{t:Tb}(h:fQ w S x t)(hW:t.Wf m q):∃a c,x.va= .slice a m c/\m<=c/\c<=maxLen/\(0<m->∃g,a=some ⟨g,0,none⟩):=by
 obtain⟨tp,cb,cc,ca,hC⟩:=h;exact hC.hd (it:=⟨x.va,T.row,1,x.rv.length,x.rv⟩) (by simp[iL]) (hC.rl.trans hW.al)
theorem fQ.hdB{t:Tb}(h:fQ w S x t)(hW:t.Wf m q):∃a c,x.vB= .slice a m c/\m<=c/\c<=maxLen/\(0<m->∃g,a=some ⟨g,0,none⟩):=by
 obtain⟨tp,cb,cc,ca,hC⟩:=h;exact hC.hd (it:=gK x.vB cb) (by simp[iL]) (hC.fb.1.trans hW.b)
theorem fQ.hdc{t:Tb}(h:fQ w S x t)(hW:t.Wf m q):∃a c,x.vc= .slice a q c/\q<=c/\c<=maxLen/\(0<q->∃g,a=some ⟨g,0,none⟩):=by
 obtain⟨tp,cb,cc,ca,hC⟩:=h;exact hC.hd (it:=gK x.vc cc) (by simp[iL]) (hC.fc.1.trans hW.c)
theorem fQ.hdr{t:Tb}{i:Nat}(h:fQ w S x t)(hW:t.Wf m q)(N:i<m):∃a c,x.rv[i]? =some (.slice a q c)/\q<=c/\c<=maxLen/\(0<q->∃g,a=some ⟨g,0,none⟩):=by
 obtain⟨tp,cb,cc,ca,hC⟩:=h;obtain⟨v,Z,k1,k2,k3,k4⟩:=hC.row (i:=i) (by rw[hW.al];exact N);obtain⟨a,c,e,Y⟩:=hC.hd (aG (hC.rowAt k1 k2)) (n:=q) (k3.1.trans (hW.row N));exact⟨a,c,by rw[k1];exact congrArg _ e,Y⟩
theorem fQ.OP{t:Tb}(h:fQ w S x t)(hW:t.Wf m q)(hm:0<m)(hq:0<q):∃gb cb gf cf ga ca gB cB gc cc,Adr x m q gb cb gf cf ga ca gB cB gc cc:=by
 obtain⟨tp,cb,cc,ca,hC⟩:=h;have h4:=hC.fb.1;have h5:=hC.fc.1;rw[hW.b]at h4;rw[hW.c]at h5;obtain⟨g1,c1,e1⟩:=hC.OP (it:=⟨x.vb,T.int,1,t.bs.length,ints t.bs⟩) (by simp[iL]) (by rw[hW.bs];exact hm);obtain⟨g2,c2,e2⟩:=hC.OP (it:=⟨x.vf,T.int,1,t.fs.length,ints t.fs⟩) (by simp[iL]) (by rw[hW.fs];exact hq);obtain⟨g3,c3,e3⟩:=hC.OP (it:=⟨x.va,T.row,1,x.rv.length,x.rv⟩) (by simp[iL]) (by rw[hC.rl,hW.al];exact hm);obtain⟨g4,c4,e4⟩:=hC.OP (it:=gK x.vB cb) (by simp[iL]) (by show 0<cb.length;omega);obtain⟨g5,c5,e5⟩:=hC.OP (it:=gK x.vc cc) (by simp[iL]) (by show 0<cc.length;omega);dsimp only[gK]at e1 e2 e3 e4 e5;rw[hW.bs]at e1;rw[hW.fs]at e2;rw[hC.rl,hW.al]at e3;rw[h4]at e4;rw[h5]at e5;refine⟨g1,c1,g2,c2,g3,c3,g4,c4,g5,c5,e1,e2,e3,e4,e5,fun i N=>?_⟩;obtain⟨v,Z,k1,k2,k3,k4⟩:=hC.row (i:=i) (by rw[hW.al];exact N);have hl:=k3.1;rw[hW.row N]at hl;obtain⟨g,c,e⟩:=hC.OP (aG (hC.rowAt k1 k2)) (by show 0<Z.length;omega);have e:v= .slice (some ⟨g,0,none⟩) Z.length c:=e;exact⟨g,c,by rw[k1,e,hl]⟩
section
variable{S:Nat->Prop}{H:Hp}{nx:Nat}{iv:Iv}{B:Nat}{w J F:World}{O:Nat->Sx.eH}{x:Tx}{t:Tb}{i:Nat}{v:Value}
theorem fw.Jb{w:World}{S:Nat->Prop}(hC:fw w S x t tp cb cc ca)(hm:gK v Z∈iL x t tp cb cc ca)(hF:Fr w S Z qs):eF w (fun g=>v.ownBlock=some g) S v qs:=by
 have ho:w.ownsRow 0 T.dO 4 v Z.length Z.flatten:=hC.ows.own _ hm;refine⟨Z,?_,hF⟩;rw[<-hF.1];rcases ho.2 with⟨rfl,h0⟩|⟨g,cap,cur,rfl,A,hc,SR,RO,QK,R7⟩
 .refine⟨by rw[h0];exact ae _,ho.1,hF.one,none,0,by rw[h0],by rw[h0];exact lr,fun j u hu=>?_⟩;have:=ho.1;rw[h0,Nat.zero_mul]at this;rw[List.eq_nil_of_length_eq_zero this]at hu
  cases hu
 .refine⟨be,ho.1,hF.one,_,cap,rfl,SR,fun j u hu=>⟨_,rfl,rfl,?_⟩⟩;exact ho.cells (g:=g) rfl j u hu
theorem Kept.one{row:Option Nat}(h:w.grownBy F row)(hX:∀g,row=some g->X g):Kept w F X:=Kept.refl.row h hX
theorem fw.apart{w:World}{S:Nat->Prop}(hC:fw w S x t tp cb cc ca){l:Nat}{a b:Ow}(WX:k≠l)(ha:(iL x t tp cb cc ca)[k]? =some a)(A:(iL x t tp cb cc ca)[l]? =some b)(g:Nat)(Y:a.v.ownBlock=some g):¬b.v.ownBlock=some g:=fun I=>WX (hC.ows.apart k l a b g ha A Y I)
theorem dJ.wz(hT:dJ w S B iv x t)(r:Rel H nx iv B w O J)(W:∀g,S g->g<B)(N:i<t.a.length)(hv:x.rv[i]? =some v)(QR:cz w (Lv S B iv x) vby p)(hq:∀q∈t.a.getD i [],rl q<=10000000000)(A:rl p<=10000000000):
  eL PG FS.mS #[v,vby] J (fun e F=>e= .returned (.tuple #[])/\Kept J F (Bv x.dB)/\fQ F (Nw (Lv S B iv x) J F) x {t with a:=t.a.set i ((t.a.getD i []).map (· *p))}):=by
 have hT':=hT.rel r W;obtain⟨tp,cb,cc,ca,hC⟩:=hT'.jK;obtain⟨v',Z,Y,I,h3,h4⟩:=hC.row N;rw[Y]at hv;injection hv with hv;subst hv;have hI:=hC.rowAt Y I;have hm:=aG hI;have VT:∀g,v'.ownBlock=some g->Bv x.dB g:=fun g V=>by rw[<-hC.dB];exact kK.bk hm V
 refine(Go.Ex.wz (Lv.old r W) (hC.ows.own _ hm) h3 rfl (QR.iC r W) (fun g V hl=>hl.2 (VT g V)) hq A).mono fun e F L=>?_;obtain⟨rfl,V,css',h5,h6,h7⟩:=L;refine⟨rfl,Kept.one V VT,tp,cb,cc,_,hC.a' Y I h6 V h5 h7 (fun g hl=>V.block g (Lv.old r W g hl) fun e=>hl.2 (VT g e.symm)) (fun _ h=>.inl h) fun g A U=>?_⟩;rcases U with U|U
 .exact U.2 A
 .have:=hT.low r A;omega
theorem dJ.aAI(hT:dJ w S B iv x t)(r:Rel H nx iv B w O J)(W:∀g,S g->g<B){vs:Value}(N:i<t.a.length)(R:k<t.a.length)(hik:i≠k)(hv:x.rv[i]? =some v)(R1:x.rv[k]? =some vs)(hl:(t.a.getD k []).length=(t.a.getD i []).length)(QR:cz w (Lv S B iv x) vby p)
  (hq:∀q∈t.a.getD i [],rl q<=2000000000) (hqk:∀q∈t.a.getD k [],rl q<=2000000000) (A:rl p<=2000000000):
  eL PG FS.lX #[v,vby,vs] J (fun e F=>e= .returned (.tuple #[])/\Kept J F (Bv x.dB)/\fQ F (Nw (Lv S B iv x) J F) x {t with a:=t.a.set i (rJ (t.a.getD i []) p (t.a.getD k []))}):=by
 have hT':=hT.rel r W;obtain⟨tp,cb,cc,ca,hC⟩:=hT'.jK;obtain⟨v',Z,Y,I,h3,h4⟩:=hC.row N;rw[Y]at hv;injection hv with hv;subst hv;obtain⟨v2,Wx,k1,k2,k3,k4⟩:=hC.row R;rw[k1]at R1;injection R1 with R1;subst R1;have hI:=hC.rowAt Y I;have hm:=aG hI;have Yh:=hC.rowAt k1 k2;have Th:=aG Yh;have VT:∀g,v'.ownBlock=some g->Bv x.dB g:=fun g V=>by rw[<-hC.dB];exact kK.bk hm V
 refine(Go.Ex.Jc (C:=fun g=>v2.ownBlock=some g) (fun g V=>hT.low r (by rw[<-hC.dB];exact kK.bk Th V)) (Lv.old r W) (hC.ows.own _ hm) h3 rfl (QR.iC r W) (fw.Jb hC Th k3) (hl.trans h3.1.symm) (fun g V hl=>hl.2 (VT g V)) (fun g=>hC.apart be hI Yh g) hq hqk A).mono fun e F L=>?_;obtain⟨rfl,V,css',h5,h6,h7⟩:=L;refine⟨rfl,Kept.one V VT,tp,cb,cc,_,hC.a' Y I h6 V h5 h7 (fun g hl=>V.block g (Lv.old r W g hl) fun e=>hl.2 (VT g e.symm)) (fun _ h=>.inl h) fun g A U=>?_⟩;rcases U with U|U
 .exact U.2 A
 .have:=hT.low r A;omega
theorem dJ.Mk(hT:dJ w S B iv x t)(r:Rel H nx iv B w O J)(W:∀g,S g->g<B){vc vs:Value}(Yi:x.vc=vc)(R:k<t.a.length)(R1:x.rv[k]? =some vs)(hl:(t.a.getD k []).length=t.c.length)(QR:cz w (Lv S B iv x) vby p)
  (hq:∀q∈t.c,rl q<=2000000000) (hqk:∀q∈t.a.getD k [],rl q<=2000000000) (A:rl p<=2000000000):
  eL PG FS.lX #[vc,vby,vs] J (fun e F=>e= .returned (.tuple #[])/\Kept J F (Bv x.dB)/\fQ F (Nw (Lv S B iv x) J F) x {t with c:=rJ t.c p (t.a.getD k [])}):=by
 subst Yi;have hT':=hT.rel r W;obtain⟨tp,cb,cc,ca,hC⟩:=hT'.jK;obtain⟨v2,Wx,k1,k2,k3,k4⟩:=hC.row R;rw[k1]at R1;injection R1 with R1;subst R1;have hI:(iL x t tp cb cc ca)[5]? =some (gK x.vc cc):=rfl;have hm:=aG hI;have Yh:=hC.rowAt k1 k2;have Th:=aG Yh;have VT:∀g,x.vc.ownBlock=some g->Bv x.dB g:=fun g V=>by rw[<-hC.dB];exact kK.bk hm V
 refine(Go.Ex.Jc (C:=fun g=>v2.ownBlock=some g) (fun g V=>hT.low r (by rw[<-hC.dB];exact kK.bk Th V)) (Lv.old r W) (hC.ows.own _ hm) hC.fc rfl (QR.iC r W) (fw.Jb hC Th k3) (hl.trans hC.fc.1.symm) (fun g V hl=>hl.2 (VT g V)) (fun g=>hC.apart (show 5≠k+6 by omega) hI Yh g) hq hqk A).mono fun e F L=>?_;obtain⟨rfl,V,css',h5,h6,h7⟩:=L;refine⟨rfl,Kept.one V VT,tp,cb,_,ca,hC.c' h6 V h5 h7 (fun g hl=>V.block g (Lv.old r W g hl) fun e=>hl.2 (VT g e.symm)) (fun _ h=>.inl h) fun g A U=>?_⟩;rcases U with U|U
 .exact U.2 A
 .have:=hT.low r A;omega
theorem dJ.out{w0:World}{t0:Tb}(h:dJ w S w0.heap.size iv x t)(h0:fQ w0 S x t0)(r:Rel H nx iv w0.heap.size w O J)(W:Old S w0):fQ J (Nw S w0 J) x t:=
 (h.rel r W).jK.cV (fun _ V=>V.nw r) fun g A U=>U.elim (fun hs=>h0.off A hs) fun hs=>by have:=h0.low A;omega
end
theorem Eo{t:Tb}{u s h:Nat}(Ti:Old S w)(Qx:fQ w S x t)(hW:t.Wf m q)(hr:u<m)(hs:s<q)(h0:dU t.a u s≠0)(hm:m<=1000)(hq:q<=1000)(hH:t.xW h)(I:2<=h)(hh:h<=100000000):
  eL PG FS.oT #[.pointer (some ⟨x.g,0,none⟩),iV u,iV s] w (fun e F=>e= .returned (.tuple #[])/\Kept w F (Bv x.dB)/\fQ F (Nw S w F) x (t.gZ u s)):=by
 have W:=Ti;obtain⟨gb,cb,gf,cf,ga,ca,gB,cB,gc,cc,hA⟩:=Qx.OP hW be be;have hT:=dJ.arg Qx;have R:Kept w w (Bv x.dB):=Kept.refl;obtain⟨gr,cr,XW⟩:=hA.row u hr;have Tl:=hW.al;have Pw:=hW.b;have Qp:=hW.fs;have UQ:=hW.bs;have Qg:=hW.c;have QO:=hW.row hr;have QQ:=hH.dU I u s;have XU:=hH.Pg I u;have Q4:=hH.cat I s;have hinv:=uj h0;refine sd ce ?_;obtain⟨p1,p2,p3,p4,p5,p6,p7,p8,Uj,hP⟩:=hT.eA W (i:=u) (j:=s) be be XW;refine⟨_,fun O J r=>hT.f2 W hA.a r,_,rfl,be,_,fun O J r=>hT.cA W XW hA.a r,_,rfl,be,rC p1 p2 p3 p4 p5 p6 p7 p8,rfl,fun O J r j x E=>Uj r j x E,?_⟩;refine dP (idO 28) ?_;refine⟨_,fun O J r=>hT.f0 W hA.b r,_,fun O J r=>hT.f1 W hA.f r,_,fun O J r=>hT.f1 W hA.f r,_,rfl,be,_,fun O J r=>hT.cFs W (i:=s) (by first|omega|(dsimp only;omega)) hA.f r,_,fun O J r=>hT.f0 W hA.b r,_,rfl,be,_,fun O J r=>hT.cBs W (i:=u) (by first|omega|(dsimp only;omega)) hA.b r,_,rfl,be,?_⟩;intro O J r;obtain⟨k1,k2,k3,k4⟩:=hT.aB1 W r (ad:=Addr.add ⟨gb,0,none⟩ (((u:Nat):Int).toNat*1)) (i:=u) (n:=t.fs.getD s 0) (by first|omega|(dsimp only;omega)) hA.b (by rw[Int.toNat_natCast,dF,Nat.zero_add]);refine⟨k1,k2,k3,fun w4 QG=>?_⟩;obtain⟨Sa,Q3,Ri⟩:=k4 w4 QG;replace hP:=hP.cX Ri;replace R:=(Kept.cj r.cj R lr).trans Q3;clear k1 k2 k3 k4 Ri Q3 QG r;clear hT;have hT:=Sa;clear Sa;refine⟨_,rfl,be,?_⟩;intro O J r;obtain⟨k1,k2,k3,k4⟩:=hT.aB2 W r (ad:=Addr.add ⟨gf,0,none⟩ (((s:Nat):Int).toNat*1)) (i:=s) (n:=t.bs.getD u 0) (by first|omega|(dsimp only;omega)) hA.f (by rw[Int.toNat_natCast,dF,Nat.zero_add]);refine⟨k1,k2,k3,fun w4 QG=>?_⟩;obtain⟨Sa,Q3,Ri⟩:=k4 w4 QG;replace hP:=hP.cX Ri;replace R:=(Kept.cj r.cj R lr).trans Q3;clear k1 k2 k3 k4 Ri Q3 QG r;clear hT;have hT:=Sa;clear Sa;refine dP [.x 1,.p 3,.x 0,.x 2,.x 3,.x 4] ?_;refine cU (GT:=fun _ J v F=>cz F (Nf J F) v ((1:Int):Rat)) (fun O J r=>iX 1 J bv bv) ?_;rintro O QP v1 QL r L A U;have hO:=U.vL hT r;replace hP:=hP.jy (K:=(QP.heap.size,QL.heap.size)::[]) r W L fun x E=>aD _ E;replace hT:=hT.cS (K:=(QP.heap.size,QL.heap.size)::[]) r W L fun x E=>aD _ E;replace R:=Kept.cj A R lr;clear r L A U;generalize (QP.heap.size,QL.heap.size)::[]=Pv at*
 obtain⟨o1,o2,o3,o4,o5,o6,o7,o8,rfl⟩:=hO.shape;refine cU (GT:=fun _ J v F=>cz F (Nf J F) v (((1:Int):Rat) / dU t.a u s)) (fun O J r=>JX (Lv.old r W) (hO.iC r W) (hP.iC r W) bv be h0) ?_;rintro O Qq v2 QT r L A U;have hI:=U.vL hT r;clear hO;clear hP;replace hT:=hT.cS (K:=(Qq.heap.size,QT.heap.size)::Pv) r W L fun x E=>aD _ E;replace R:=Kept.cj A R lr;clear r L A U;generalize (Qq.heap.size,QT.heap.size)::Pv=iv2 at*
 obtain⟨i1,i2,i3,i4,i5,i6,i7,i8,rfl⟩:=hI.shape;refine dP (idO 11) ?_;refine⟨_,fun O J r=>hT.f2 W hA.a r,_,rfl,be,_,fun O J r=>hT.cA W XW hA.a r,?_⟩;refine cU (GT:=fun _ J v F=>cz F (Nf J F) v ((1:Int):Rat)) (fun O J r=>iX 1 J bv bv) ?_;rintro O Qo v3 Qc r L A U;have hO:=U.vL hT r;replace hI:=hI.jy (K:=(Qo.heap.size,Qc.heap.size)::iv2) r W L fun x E=>aD _ E;replace hT:=hT.cS (K:=(Qo.heap.size,Qc.heap.size)::iv2) r W L fun x E=>aD _ E;replace R:=Kept.cj A R lr;clear r L A U;generalize (Qo.heap.size,Qc.heap.size)::iv2=Pu at*
 obtain⟨l1,l2,l3,l4,l5,l6,l7,l8,rfl⟩:=hO.shape;rw[show ((1:Int):Rat)=1 by decide]at hO hI;refine⟨_,rfl,be,?_⟩;intro O J r;obtain⟨k1,k2,k3,k4⟩:=hT.stA W r (ad:=Addr.add ⟨gr,0,none⟩ (((s:Nat):Int).toNat*4)) (i:=u) (j:=s) (by first|omega|(dsimp only;omega)) (by first|omega|(dsimp only;omega)) XW hO.four (by rw[Int.toNat_natCast,dF,Nat.zero_add]);refine⟨k1,k2,k3,fun w4 QG=>?_⟩;obtain⟨Sa,Q3,Ri⟩:=k4 w4 QG;replace hI:=hI.cX Ri;replace hO:=hO.cX Ri;replace R:=(Kept.cj r.cj R lr).trans Q3;clear k1 k2 k3 k4 Ri Q3 QG r;clear hT;have hT:=Sa;clear Sa;clear hO
 try dsimp only at hT
 refine dP (idO 9) ?_;refine⟨_,fun O J r=>hT.f2 W hA.a r,_,rfl,be,_,fun O J r=>hT.cA W XW hA.a r,?_⟩;refine⟨fun O J r=>?_⟩;refine(hT.wz r W (by dsimp only;rw[List.length_set];omega) XW hI (fun y hy=>by have:=hH.Ph (z:=1) (by rw[EM];exact I) u s y hy;omega) be).mono fun e w8 L=>?_;obtain⟨rfl,RD,Qr⟩:=L;refine⟨.tuple #[],_,(J.heap.size,w8.heap.size)::Pu,rfl,r.gJ (hT.not r) RD,?_⟩;replace hI:=hI.JZ r W RD;replace Qr:=hT.ep r Qr;replace R:=(Kept.cj r.cj R lr).trans RD;clear hT RD;have hT:=Qr;clear Qr r;generalize (J.heap.size,w8.heap.size)::Pu=QD at*
 refine dP (idO 16) ?_;obtain⟨b1,b2,b3,b4,b5,b6,b7,b8,hEb,hB⟩:=hT.eB W (j:=u) (by first|omega|(dsimp only;omega)) hA.B;refine⟨_,fun O J r=>hT.f3 W hA.B r,_,fun O J r=>hT.f3 W hA.B r,_,rfl,be,rC b1 b2 b3 b4 b5 b6 b7 b8,rfl,fun O J r j x E=>hEb r j x E,?_⟩;refine cU (GT:=fun _ J v F=>cz F (Nf J F) v (t.b.getD u 0*(1 / dU t.a u s))) (fun O J r=>ns (Lv.old r W) (hB.iC r W) (hI.iC r W) be be) ?_;rintro O Vs v5 VP r L A U;have hN:=U.vL hT r;clear hB;clear hI;replace hT:=hT.cS (K:=(Vs.heap.size,VP.heap.size)::QD) r W L fun x E=>aD _ E;replace R:=Kept.cj A R lr;clear r L A U;generalize (Vs.heap.size,VP.heap.size)::QD=QH at*
 obtain⟨n1,n2,n3,n4,n5,n6,n7,n8,rfl⟩:=hN.shape;refine⟨_,rfl,be,?_⟩;intro O J r;obtain⟨k1,k2,k3,k4⟩:=hT.stB W r (ad:=Addr.add ⟨gB,0,none⟩ (((u:Nat):Int).toNat*4)) (j:=u) (by first|omega|(dsimp only;omega)) hA.B hN.four (by rw[Int.toNat_natCast,dF,Nat.zero_add]);refine⟨k1,k2,k3,fun w4 QG=>?_⟩;obtain⟨Sa,Q3,Ri⟩:=k4 w4 QG;replace hN:=hN.cX Ri;replace R:=(Kept.cj r.cj R lr).trans Q3;clear k1 k2 k3 k4 Ri Q3 QG r;clear hT;have hT:=Sa;clear Sa;clear hN;replace hT:=hT.cast (Tb.OD (t:=t) (r:=u) (s:=s) be);refine⟨_,fun O J r=>hT.f2 W hA.a r,Nat×World×Iv,fun z=>⟨[(0,.o (.v (.pointer (some ⟨x.g,0,none⟩)))),(1,.o (.v (iV (u:Int)))),(2,.o (.v (iV (s:Int)))),(88,.o (.v (iV (m:Int)))),(89,.o (.v (iV (z.1:Int))))],[],2,z.2.2,z.2.1⟩,fun z=>m-z.1,fun z=>z.1<=m/\Kept w z.2.1 (Bv x.dB)/\dJ z.2.1 S w.heap.size z.2.2 x (t.pT u s z.1),?_,?_⟩
 .intro O J r;exact⟨(0,J,_),⟨ae _,Kept.cj r.cj R lr,hT.rel r W⟩,sbgn [] r⟩
 clear hT R Uj;rintro⟨i,w1,iv⟩ ⟨N,R,hT⟩;dsimp only at N R hT ⊢;obtain⟨P,XX⟩:∃P,P=t.pT u s i:=⟨_,rfl⟩
 rw[<-XX]at hT;have hPW:P.Wf m q:=by rw[XX];exact hW.pT hr
 have hPal:=hPW.al;have hPbl:=hPW.b;have hPcl:=hPW.c;have hPar:P.a.getD u []=t.mQ u s:=by rw[XX,Tb.MV be]
 have hPbr:P.b.getD u 0=t.bP u s:=by rw[XX,Tb.MW be]
 have hru:∀y∈P.a.getD u [],rl y<=2*h:=by rw[hPar];exact hH.mQ I h0
 have hbu:rl (P.b.getD u 0)<=2*h:=by
  rw[hPbr];have:=jl (t.b.getD u 0) (1 / dU t.a u s);unfold Tb.bP;omega
 have hPru:=hPW.row hr;apply bS<;>intro Pk
 .have Pk:=dL Pk;apply bS<;>intro Yj
  .have Yj:i=u:=by
    have h4:((i:Int)==(u:Int))=true:=by simpa using Yj
    have:=eq_of_beq h4;omega
   refine inc i ?_;intro I8 w3 r3;exact⟨(i+1,w3,_),⟨Pk,Kept.cj r3.cj R lr,(hT.cast (XX.trans (Tb.OE Yj))).rel r3 W⟩,sbgn [] r3,dec Pk⟩
  have Yj:i≠u:=fun e=>by
   have:(((i:Int)==(u:Int))=true):=by rw[e];simp
   exact absurd (by simpa using this) (by simpa using Yj)
  obtain⟨gi,ci,TP⟩:=hA.row i Pk;have hPri:=hPW.row Pk;have Zz:P.a.getD i []=t.a.getD i []:=by rw[XX,Tb.PD be Yj (aq i)]
  have Wo:rl (P.b.getD i 0)+1<=h:=by rw[XX,Tb.PE be Yj (aq i)];exact hH.Pg I i
  have Va:rl (dU P.a i s)+1<=h:=by unfold dU;rw[Zz];exact hH.dU I i s
  obtain⟨p1,p2,p3,p4,p5,p6,p7,p8,Uj,hQ⟩:=hT.eA W (i:=i) (j:=s) be be TP;refine⟨_,fun O J r=>hT.f2 W hA.a r,_,rfl,be,_,fun O J r=>hT.cA W TP hA.a r,_,rfl,be,rC p1 p2 p3 p4 p5 p6 p7 p8,rfl,fun O J r j x E=>Uj r j x E,?_⟩;refine cW (cU (GT:=fun _ J v F=>cz F (Nw (Lv S w.heap.size iv x) J F) v (-(dU P.a i s))) (fun O J r=>mH (Lv.old r W) (hQ.iC r W)) ?_);rintro O VQ v6 VR r L A U;have hK:=U.aAG hT r;clear hQ;replace hT:=hT.cS (K:=(VQ.heap.size,VR.heap.size)::iv) r W L fun x E=>aD _ E;replace R:=Kept.cj A R lr;clear r L A U;generalize (VQ.heap.size,VR.heap.size)::iv=Qe at*
  obtain⟨k1,k2,k3,k4,k5,k6,k7,k8,rfl⟩:=hK.shape;refine dP (idO 11) ?_;refine⟨_,fun O J r=>hT.f2 W hA.a r,_,rfl,be,_,fun O J r=>hT.cA W TP hA.a r,?_⟩;refine cU (GT:=fun _ J v F=>cz F (Nf J F) v ((0:Int):Rat)) (fun O J r=>iX 0 J bv bv) ?_;rintro O Wy v7 Wz r L A U;have hO:=U.vL hT r;replace hK:=hK.jy (K:=(Wy.heap.size,Wz.heap.size)::Qe) r W L fun x E=>aD _ E;replace hT:=hT.cS (K:=(Wy.heap.size,Wz.heap.size)::Qe) r W L fun x E=>aD _ E;replace R:=Kept.cj A R lr;clear r L A U;generalize (Wy.heap.size,Wz.heap.size)::Qe=RS at*
  obtain⟨l1,l2,l3,l4,l5,l6,l7,l8,rfl⟩:=hO.shape;rw[show ((0:Int):Rat)=0 by decide]at hO;refine⟨_,rfl,be,?_⟩;intro O J r;obtain⟨k1,k2,k3,k4⟩:=hT.stA W r (ad:=Addr.add ⟨gi,0,none⟩ (((s:Nat):Int).toNat*4)) (i:=i) (j:=s) (by first|omega|(dsimp only;omega)) (by first|omega|(dsimp only;omega)) TP hO.four (by rw[Int.toNat_natCast,dF,Nat.zero_add]);refine⟨k1,k2,k3,fun w4 QG=>?_⟩;obtain⟨Sa,Q3,Ri⟩:=k4 w4 QG;replace hK:=hK.cX Ri;replace hO:=hO.cX Ri;replace R:=(Kept.cj r.cj R lr).trans Q3;clear k1 k2 k3 k4 Ri Q3 QG r;clear hT;have hT:=Sa;clear Sa;clear hO
  try dsimp only at hT
  have e1:(P.a.set i ((P.a.getD i []).set s 0)).getD u []=P.a.getD u []:=by rw[nJ,aI (fun e=>Yj e.1)]
  have e2:(P.a.set i ((P.a.getD i []).set s 0)).getD i []=(P.a.getD i []).set s 0:=by rw[nJ,aM ⟨rfl,be⟩]
  refine dP (idO 16) ?_;refine⟨_,fun O J r=>hT.f2 W hA.a r,_,rfl,be,_,fun O J r=>hT.cA W TP hA.a r,_,fun O J r=>hT.f2 W hA.a r,_,rfl,be,_,fun O J r=>hT.cA W XW hA.a r,?_⟩;refine⟨fun O J r=>?_⟩;refine(hT.aAI r W (i:=i) (k:=u) (by dsimp only;rw[List.length_set];omega) (by dsimp only;rw[List.length_set];omega) Yj TP XW (by dsimp only;rw[e1,e2,List.length_set,hPri,hPru]) hK (by dsimp only;rw[e2];intro y hy;rcases bQ hy with Y|Y;have:=hH.OG i y (by rw[<-Zz];exact Y);omega;rw[Y];decide) (by dsimp only;rw[e1];intro y hy;have:=hru y hy;omega) (by rw[kj];omega)).mono fun e w8 L=>?_;obtain⟨rfl,RD,Qr⟩:=L;refine⟨.tuple #[],_,(J.heap.size,w8.heap.size)::RS,rfl,r.gJ (hT.not r) RD,?_⟩;replace hK:=hK.JZ r W RD;replace Qr:=hT.ep r Qr;replace R:=(Kept.cj r.cj R lr).trans RD;clear hT RD;have hT:=Qr;clear Qr r;generalize (J.heap.size,w8.heap.size)::RS=Sw at*
  refine dP (idO 24) ?_;obtain⟨b1,b2,b3,b4,b5,b6,b7,b8,hEb,hB⟩:=hT.eB W (j:=i) (by first|omega|(dsimp only;omega)) hA.B;obtain⟨c1,c2,c3,c4,c5,c6,c7,c8,hEc,hC⟩:=hT.eB W (j:=u) (by first|omega|(dsimp only;omega)) hA.B;refine⟨_,fun O J r=>hT.f3 W hA.B r,_,fun O J r=>hT.f3 W hA.B r,_,rfl,be,rC b1 b2 b3 b4 b5 b6 b7 b8,rfl,fun O J r j x E=>hEb r j x E,_,fun O J r=>hT.f3 W hA.B r,_,rfl,be,rC c1 c2 c3 c4 c5 c6 c7 c8,rfl,fun O J r j x E=>hEc r j x E,?_⟩;have Tf:=jl (-(dU P.a i s)) (P.b.getD u 0);rw[kj]at Tf;refine cU (GT:=fun _ J v F=>cz F (Nf J F) v (-(dU P.a i s)*P.b.getD u 0)) (fun O J r=>ns (Lv.old r W) (hK.iC r W) (hC.iC r W) (by rw[kj];omega) (by first|omega|(dsimp only;omega))) ?_;rintro O UB v9 UC r L A U;have hM:=U.vL hT r;clear hK;clear hC;replace hB:=hB.jy (K:=(UB.heap.size,UC.heap.size)::Sw) r W L fun x E=>aD _ E;replace hT:=hT.cS (K:=(UB.heap.size,UC.heap.size)::Sw) r W L fun x E=>aD _ E;replace R:=Kept.cj A R lr;clear r L A U;generalize (UB.heap.size,UC.heap.size)::Sw=VE at*
  obtain⟨m1,m2,m3,m4,m5,m6,m7,m8,rfl⟩:=hM.shape;refine cU (GT:=fun _ J v F=>cz F (Nf J F) v (P.b.getD i 0+ -(dU P.a i s)*P.b.getD u 0)) (fun O J r=>wy (Lv.old r W) (hB.iC r W) (hM.iC r W) (by first|omega|(dsimp only;omega)) be) ?_;rintro O UT v10 UU r L A U;have hN:=U.vL hT r;clear hB;clear hM;replace hT:=hT.cS (K:=(UT.heap.size,UU.heap.size)::VE) r W L fun x E=>aD _ E;replace R:=Kept.cj A R lr;clear r L A U;generalize (UT.heap.size,UU.heap.size)::VE=VF at*
  obtain⟨n1,n2,n3,n4,n5,n6,n7,n8,rfl⟩:=hN.shape;refine⟨_,rfl,be,?_⟩;intro O J r;obtain⟨k1,k2,k3,k4⟩:=hT.stB W r (ad:=Addr.add ⟨gB,0,none⟩ (((i:Nat):Int).toNat*4)) (j:=i) (by first|omega|(dsimp only;omega)) hA.B hN.four (by rw[Int.toNat_natCast,dF,Nat.zero_add]);refine⟨k1,k2,k3,fun w4 QG=>?_⟩;obtain⟨Sa,Q3,Ri⟩:=k4 w4 QG;replace hN:=hN.cX Ri;replace R:=(Kept.cj r.cj R lr).trans Q3;clear k1 k2 k3 k4 Ri Q3 QG r;clear hT;have hT:=Sa;clear Sa;clear hN;refine inc i ?_;intro I8 w3 r3;exact⟨(i+1,w3,_),⟨Pk,Kept.cj r3.cj R lr,(hT.cast (Tb.OF be be be Yj P XX)).rel r3 W⟩,sbgn [] r3,dec Pk⟩
 have Pk:=dE N Pk;have YB:P.c.getD s 0=t.c.getD s 0:=by rw[XX];rfl
 have hcl2:∀y∈P.c,rl y+1<=h:=by rw[XX];exact hH.c
 have Xw:rl P.top+1<=h:=by rw[XX];exact hH.top
 obtain⟨p1,p2,p3,p4,p5,p6,p7,p8,Uj,hQ⟩:=hT.eC W (j:=s) be hA.c;refine⟨_,fun O J r=>hT.f4 W hA.c r,_,rfl,be,rC p1 p2 p3 p4 p5 p6 p7 p8,rfl,fun O J r j x E=>Uj r j x E,?_⟩;refine dP (idO 8) ?_;refine⟨_,fun O J r=>hT.f4 W hA.c r,?_⟩;refine cU (GT:=fun _ J v F=>cz F (Nf J F) v ((0:Int):Rat)) (fun O J r=>iX 0 J bv bv) ?_;rintro O VQ v6 VR r L A U;have hO:=U.vL hT r;replace hQ:=hQ.jy (K:=(VQ.heap.size,VR.heap.size)::iv) r W L fun x E=>aD _ E;replace hT:=hT.cS (K:=(VQ.heap.size,VR.heap.size)::iv) r W L fun x E=>aD _ E;replace R:=Kept.cj A R lr;clear r L A U;generalize (VQ.heap.size,VR.heap.size)::iv=Qe at*
 obtain⟨l1,l2,l3,l4,l5,l6,l7,l8,rfl⟩:=hO.shape;rw[show ((0:Int):Rat)=0 by decide]at hO;refine⟨_,rfl,be,?_⟩;intro O J r;obtain⟨k1,k2,k3,k4⟩:=hT.stC W r (ad:=Addr.add ⟨gc,0,none⟩ (((s:Nat):Int).toNat*4)) (j:=s) (by first|omega|(dsimp only;omega)) hA.c hO.four (by rw[Int.toNat_natCast,dF,Nat.zero_add]);refine⟨k1,k2,k3,fun w4 QG=>?_⟩;obtain⟨Sa,Q3,Ri⟩:=k4 w4 QG;replace hQ:=hQ.cX Ri;replace hO:=hO.cX Ri;replace R:=(Kept.cj r.cj R lr).trans Q3;clear k1 k2 k3 k4 Ri Q3 QG r;clear hT;have hT:=Sa;clear Sa;clear hO
 try dsimp only at hT
 refine dP [.x 0,.x 1,.x 2,.x 3,.x 4,.x 6,.x 7,.x 8,.x 9,.x 10,.x 11,.x 12,.x 5,.x 13] ?_;refine⟨_,fun O J r=>hT.f4 W hA.c r,_,fun O J r=>hT.f2 W hA.a r,_,rfl,be,_,fun O J r=>hT.cA W XW hA.a r,?_⟩;refine cU (GT:=fun _ J v F=>cz F (Nw (Lv S w.heap.size Qe x) J F) v (-(P.c.getD s 0))) (fun O J r=>mH (Lv.old r W) (hQ.iC r W)) ?_;rintro O Wy v7 Wz r L A U;have hK:=U.aAG hT r;replace hQ:=hQ.jy (K:=(Wy.heap.size,Wz.heap.size)::Qe) r W L fun x E=>aD _ E;replace hT:=hT.cS (K:=(Wy.heap.size,Wz.heap.size)::Qe) r W L fun x E=>aD _ E;replace R:=Kept.cj A R lr;clear r L A U;generalize (Wy.heap.size,Wz.heap.size)::Qe=RS at*
 obtain⟨k1,k2,k3,k4,k5,k6,k7,k8,rfl⟩:=hK.shape;refine⟨fun O J r=>?_⟩;refine(hT.Mk r W (k:=u) hA.c (by first|omega|(dsimp only;omega)) XW (by dsimp only;rw[List.length_set,hPru,hPcl]) hK (by dsimp only;intro y hy;rcases List.mem_or_eq_of_mem_set hy with Y|Y;have:=hcl2 y Y;omega;rw[Y];decide) (by dsimp only;intro y hy;have:=hru y hy;omega) (by rw[kj,YB];omega)).mono fun e w8 L=>?_;obtain⟨rfl,RD,Qr⟩:=L;refine⟨.tuple #[],_,(J.heap.size,w8.heap.size)::RS,rfl,r.gJ (hT.not r) RD,?_⟩;clear hK;replace hQ:=hQ.JZ r W RD;replace Qr:=hT.ep r Qr;replace R:=(Kept.cj r.cj R lr).trans RD;clear hT RD;have hT:=Qr;clear Qr r;generalize (J.heap.size,w8.heap.size)::RS=Sw at*
 refine dP (idO 18) ?_;obtain⟨t1,t2,t3,t4,t5,t6,t7,t8,ZJ,hY⟩:=hT.ldT W;obtain⟨c1,c2,c3,c4,c5,c6,c7,c8,hEc,hC⟩:=hT.eB W (j:=u) (by first|omega|(dsimp only;omega)) hA.B;refine⟨rC t1 t2 t3 t4 t5 t6 t7 t8,rfl,fun O J r j x E=>ZJ r j x E,_,fun O J r=>hT.f3 W hA.B r,_,rfl,be,rC c1 c2 c3 c4 c5 c6 c7 c8,rfl,fun O J r j x E=>hEc r j x E,?_⟩;have Tf:=jl (P.c.getD s 0) (P.b.getD u 0);rw[YB]at Tf;refine cU (GT:=fun _ J v F=>cz F (Nf J F) v (P.c.getD s 0*P.b.getD u 0)) (fun O J r=>ns (Lv.old r W) (hQ.iC r W) (hC.iC r W) (by rw[YB];omega) (by first|omega|(dsimp only;omega))) ?_;rintro O UB v9 UC r L A U;have hM:=U.vL hT r;clear hQ;clear hC;replace hY:=hY.jy (K:=(UB.heap.size,UC.heap.size)::Sw) r W L fun x E=>aD _ E;replace hT:=hT.cS (K:=(UB.heap.size,UC.heap.size)::Sw) r W L fun x E=>aD _ E;replace R:=Kept.cj A R lr;clear r L A U;generalize (UB.heap.size,UC.heap.size)::Sw=VE at*
 obtain⟨m1,m2,m3,m4,m5,m6,m7,m8,rfl⟩:=hM.shape;refine cU (GT:=fun _ J v F=>cz F (Nf J F) v (P.top+P.c.getD s 0*P.b.getD u 0)) (fun O J r=>wy (Lv.old r W) (hY.iC r W) (hM.iC r W) (by first|omega|(dsimp only;omega)) (by rw[YB];omega)) ?_;rintro O UT v10 UU r L A U;have hN:=U.vL hT r;clear hY;clear hM;replace hT:=hT.cS (K:=(UT.heap.size,UU.heap.size)::VE) r W L fun x E=>aD _ E;replace R:=Kept.cj A R lr;clear r L A U;generalize (UT.heap.size,UU.heap.size)::VE=VF at*
 obtain⟨n1,n2,n3,n4,n5,n6,n7,n8,rfl⟩:=hN.shape;intro O J r;obtain⟨k1,k2,k3,k4⟩:=hT.stT W r (ad:=Addr.add ⟨x.g,0,none⟩ 5) hN.four (by rw[dF,aS]);refine⟨k1,k2,k3,fun w4 QG=>?_⟩;obtain⟨Sa,Q3,Ri⟩:=k4 w4 QG;replace hN:=hN.cX Ri;replace R:=(Kept.cj r.cj R lr).trans Q3;clear k1 k2 k3 k4 Ri Q3 QG r;clear hT;have hT:=Sa;clear Sa;intro O J r;exact⟨rfl,Kept.cj r.cj R lr,(hT.cast (Tb.Pf be be P (by rw[XX,Pk,Tl]))).out Qx r W⟩
def rT(o:Option Nat):Int:=match o with
 |some k=>(k:Int)
 |none=> -1
theorem kY(k:Nat):rT (some k)=(k:Int):=rfl
theorem ID{t:Tb}(Ti:Old S w)(Qx:fQ w S x t)(hW:t.Wf m q)(hq:q<=1000):
  eL PG FS.mD #[.pointer (some ⟨x.g,0,none⟩)] w (eY w fun v _=>v=iV (rT t.HV)):=by
 have W:=Ti;have G:=bR w;have Qp:=hW.fs;have Qg:=hW.c;obtain⟨ac,cc,Yi,Vd,-,hac⟩:=Qx.hdc hW;obtain⟨af,cf,Wc,hcf,-,haf⟩:=Qx.hdf hW;have hT:=dJ.arg Qx;refine pX ce ?_;refine⟨_,fun O J r=>hT.f4 W Yi r,Nat×World×Iv,fun z=>⟨[(0,.o (.v (.pointer (some ⟨x.g,0,none⟩)))),(3,.o (.v (iV (rT (my (fun j=>t.c.getD j 0) (fun j=>t.fs.getD j 0) z.1))))),(9,sV ac q cc),(10,.o (.v (iV (q:Int)))),(11,.o (.v (iV (z.1:Int))))],[],0,z.2.2,z.2.1⟩,fun z=>q-z.1,fun z=>z.1<=q/\Bq w z.2.1/\dJ z.2.1 S w.heap.size z.2.2 x t,?_,?_⟩
 .intro O J r;exact⟨(0,J,_),⟨ae _,G.tr r.cj,hT.rel r W⟩,sbgn [] r⟩
 clear hT G;rintro⟨i,w1,iv⟩ ⟨N,G,hT⟩;dsimp only at N G hT ⊢;obtain⟨o,ho⟩:∃o,o=my (fun j=>t.c.getD j 0) (fun j=>t.fs.getD j 0) i:=⟨_,rfl⟩
 rw[<-ho];apply bS<;>intro Pk
 .have Pk:=dL Pk;obtain⟨gc,rfl⟩:=hac be;obtain⟨gf,rfl⟩:=haf be;obtain⟨p1,p2,p3,p4,p5,p6,p7,p8,Uj,hF⟩:=hT.eC W (j:=i) (by first|omega|(dsimp only;omega)) Yi;refine⟨_,rfl,be,rC p1 p2 p3 p4 p5 p6 p7 p8,rfl,fun O J r j x E=>Uj r j x E,?_⟩;refine dP (idO 24) ?_;refine cU (GT:=fun _ J v F=>v=iV (rs (t.c.getD i 0))) (fun O J r=>jE (Lv.old r W) (hF.iC r W)) ?_;rintro O QP v1 QL r L A rfl;clear hF;replace hT:=hT.cS (K:=(QP.heap.size,QL.heap.size)::iv) r W L fun x E=>aD _ E;replace G:=G.tr A;clear r L A;generalize (QP.heap.size,QL.heap.size)::iv=Pv at*
  conv=>whnf
  split
  .rename_i hs;have hs:0<t.c.getD i 0:=gv.1 (aJ hs)
   cases o with
   |none=>
    conv=>whnf
    have RB:my (fun j=>t.c.getD j 0) (fun j=>t.fs.getD j 0) (i+1)=some i:=by rw[my,<-ho];(try dsimp only);rw[if_pos hs]
    refine inc i ?_;intro I8 w3 r3;exact⟨(i+1,w3,_),⟨Pk,G.tr r3.cj,hT.rel r3 W⟩,sbgn [] r3 (hE:=⟨rfl,by dsimp only;rw[RB];rfl,rfl,rfl,rfl,trivial⟩),dec Pk⟩
   |some k=>
    have Va:k<i:=(kP ho.symm).1;refine⟨_,fun O J r=>hT.f1 W Wc r,_,rfl,be,_,fun O J r=>hT.cFs W (i:=i) be Wc r,_,fun O J r=>hT.f1 W Wc r,_,rfl,⟨by rw[kY];omega,by rw[kY];omega⟩,_,fun O J r=>hT.cFs W (i:=k) be Wc r,?_⟩;apply bS<;>intro QZ
    .have QZ:t.fs.getD i 0<t.fs.getD k 0:=by simpa using QZ
     have RB:my (fun j=>t.c.getD j 0) (fun j=>t.fs.getD j 0) (i+1)=some i:=by rw[my,<-ho];(try dsimp only);rw[if_pos ⟨hs,QZ⟩]
     refine inc i ?_;intro I8 w3 r3;exact⟨(i+1,w3,_),⟨Pk,G.tr r3.cj,hT.rel r3 W⟩,sbgn [] r3 (hE:=⟨rfl,by dsimp only;rw[RB];rfl,rfl,rfl,rfl,trivial⟩),dec Pk⟩
    have QZ:¬t.fs.getD i 0<t.fs.getD k 0:=by simpa using QZ
    have RB:my (fun j=>t.c.getD j 0) (fun j=>t.fs.getD j 0) (i+1)=some k:=by rw[my,<-ho];(try dsimp only);rw[if_neg fun h=>QZ h.2]
    refine inc i ?_;intro I8 w3 r3;exact⟨(i+1,w3,_),⟨Pk,G.tr r3.cj,hT.rel r3 W⟩,sbgn [] r3 (hE:=⟨rfl,by dsimp only;rw[RB];rfl,rfl,rfl,rfl,trivial⟩),dec Pk⟩
  rename_i hs;have hs:¬0<t.c.getD i 0:=fun h=>absurd (gv.2 h) (aL hs);have RB:my (fun j=>t.c.getD j 0) (fun j=>t.fs.getD j 0) (i+1)=o:=by rw[my,<-ho];(try dsimp only);cases o with
   |none=>rw[aI hs]
   |some k=>dsimp only;rw[if_neg fun h=>hs h.1]
  refine inc i ?_;intro I8 w3 r3;exact⟨(i+1,w3,_),⟨Pk,G.tr r3.cj,hT.rel r3 W⟩,sbgn [] r3 (hE:=⟨rfl,by dsimp only;rw[RB];rfl,rfl,rfl,rfl,trivial⟩),dec Pk⟩
 have Pk:=dE N Pk;intro GE we re;have L:t.HV=o:=by rw[ho,Pk];unfold Tb.HV;rw[Qg]
 exact⟨_,rfl,G.tr re.cj,by rw[L];rfl⟩
set_option maxRecDepth 4000
theorem sw{a b:Rat}:rs (a-b)=0↔a=b:=by
 constructor
 .intro h;have:=Rat.num_eq_zero.1 (bo.1 h);grind
 .intro h;rw[h,Rat.sub_self];rfl
theorem Ka{t:Tb}{s h:Nat}(Ti:Old S w)(Qx:fQ w S x t)(hW:t.Wf m q)(hs:s<q)(hm:m<=1000)(hq:q<=1000)(hH:t.xW h)(I:2<=h)(hh:h<=100000000):
  eL PG FS.mh #[.pointer (some ⟨x.g,0,none⟩),iV s] w (eY w fun v _=>v=iV (rT (t.Hk s))):=by
 have W:=Ti;have G:=bR w;have Tl:=hW.al;have Pw:=hW.b;have UQ:=hW.bs;obtain⟨aa,ca,To,Qi,-,haa⟩:=Qx.hda hW;obtain⟨aB,cB,Vf,hcB,-,haB⟩:=Qx.hdB hW;obtain⟨ab,cb,WE,RK,-,Td⟩:=Qx.hdb hW;have hT:=dJ.arg Qx;have hR:∀i,i<m->∃a c,x.rv[i]? =some (.slice a q c)/\q<=c/\c<=maxLen/\(0<q->∃g,a=some ⟨g,0,none⟩):=fun i N=>Qx.hdr hW N;refine qZ ce ?_;refine⟨_,fun O J r=>hT.f2 W To r,Nat×((Bool×Bool)×(Option Addr×Option Addr)×(Nat×Nat×Nat×Nat))×World×Iv,fun z=>⟨[(0,.o (.v (.pointer (some ⟨x.g,0,none⟩)))),(1,.o (.v (iV (s:Int)))),(5,.o (.v (iV (rT (kc (fun i=>dU t.a i s) (fun i=>t.b.getD i 0) (fun i=>t.bs.getD i 0) z.1))))),(6,pP 0 0),(13,sV aa m ca),(14,.o (.v (iV (m:Int)))),(15,.o (.v (iV (z.1:Int))))],[(0,.box T.dO [.v (.bool z.2.1.1.1),.v (.slice z.2.1.2.1.1 z.2.1.2.2.1 z.2.1.2.2.2.1),.v (.bool z.2.1.1.2),.v (.slice z.2.1.2.1.2 z.2.1.2.2.2.2.1 z.2.1.2.2.2.2.2)])],1,z.2.2.2,z.2.2.1⟩,fun z=>m-z.1,fun z=>z.1<=m/\Bq w z.2.2.1/\dJ z.2.2.1 S w.heap.size z.2.2.2 x t/\∀k,(kc (fun i=>dU t.a i s) (fun i=>t.b.getD i 0) (fun i=>t.bs.getD i 0) z.1)=some k->cz z.2.2.1 (Lv S w.heap.size z.2.2.2 x) (.agg #[.bool z.2.1.1.1,.slice z.2.1.2.1.1 z.2.1.2.2.1 z.2.1.2.2.2.1,.bool z.2.1.1.2,.slice z.2.1.2.1.2 z.2.1.2.2.2.2.1 z.2.1.2.2.2.2.2]) (t.b.getD k 0 / dU t.a k s),?_,?_⟩
 .intro O J r;exact⟨(0,((false,false),(none,none),(0,0,0,0)),J,_),⟨ae _,G.tr r.cj,hT.rel r W,fun k R=>by cases R⟩,sbgn [] r⟩
 clear hT G;rintro⟨i,⟨⟨y1,y5⟩,⟨y2,y6⟩,⟨y3,y4,y7,y8⟩⟩,w1,iv⟩ ⟨N,G,hT,hL⟩;dsimp only at N G hT hL ⊢;obtain⟨o,ho⟩:∃o,o=(kc (fun i=>dU t.a i s) (fun i=>t.b.getD i 0) (fun i=>t.bs.getD i 0) i):=⟨_,rfl⟩
 rw[<-ho]at hL ⊢;apply bS<;>intro Pk
 .have Pk:=dL Pk;obtain⟨ga,rfl⟩:=haa be;obtain⟨gB,rfl⟩:=haB be;obtain⟨gb,rfl⟩:=Td be;obtain⟨ai,ci,TP,-,-,Zz⟩:=hR i Pk;obtain⟨gi,rfl⟩:=Zz be;have QO:=hW.row Pk;refine⟨_,rfl,be,_,fun O J r=>hT.cA W TP To r,?_⟩;obtain⟨p1,p2,p3,p4,p5,p6,p7,p8,Uj,hF⟩:=hT.eA W (i:=i) (j:=s) be be TP;refine⟨_,rfl,be,rC p1 p2 p3 p4 p5 p6 p7 p8,rfl,fun O J r j x E=>Uj r j x E,?_⟩;refine cW (cU (GT:=fun _ J v F=>v=iV (rs (dU t.a i s))) (fun O J r=>jE (Lv.old r W) (hF.iC r W)) ?_);rintro O QP v1 QL r L A rfl;replace hF:=hF.jy (K:=(QP.heap.size,QL.heap.size)::iv) r W L fun x E=>aD _ E;replace hL:=fun k R=>(hL k R).jy (K:=(QP.heap.size,QL.heap.size)::iv) r W L fun x E=>aD _ E;replace hT:=hT.cS (K:=(QP.heap.size,QL.heap.size)::iv) r W L fun x E=>aD _ E;replace G:=G.tr A;clear r L A;generalize (QP.heap.size,QL.heap.size)::iv=Pv at*
  apply bS<;>intro hle
  .have hle:dU t.a i s<=0:=Rat.not_lt.1 fun h=>absurd (gv.2 h) (Int.not_lt.2 (aJ hle));have RB:(kc (fun i=>dU t.a i s) (fun i=>t.b.getD i 0) (fun i=>t.bs.getD i 0) (i+1))=o:=by rw[kc,<-ho];rw[aM hle]
   refine inc i ?_;intro I8 w3 r3;refine⟨(i+1,((y1,y5),(y2,y6),(y3,y4,y7,y8)),w3,_),⟨Pk,G.tr r3.cj,hT.rel r3 W,fun k R=>?_⟩,sbgn [] r3 (hE:=⟨rfl,rfl,by dsimp only;rw[RB];rfl,rfl,rfl,rfl,rfl,trivial⟩),by dsimp only;omega⟩;rw[RB]at R;exact(hL k R).iC r3 W
  have QU:0<dU t.a i s:=gv.1 (Int.not_le.1 (aL hle));have hle:¬dU t.a i s<=0:=Rat.not_le.2 QU;have Po:dU t.a i s≠0:=Rat.ne_of_gt QU;have Ts:=hH.dU I i s;have Qu:=hH.Pg I i;refine dP [.x 0,.x 1,.x 2,.x 3,.x 4,.x 5,.x 6,.x 7,.x 8,.x 9,.x 10,.p 12,.x 11,.x 12,.x 13] ?_;obtain⟨b1,b2,b3,b4,b5,b6,b7,b8,hEb,hB⟩:=hT.eB W (j:=i) be Vf;refine⟨_,fun O J r=>hT.f3 W Vf r,_,rfl,be,rC b1 b2 b3 b4 b5 b6 b7 b8,rfl,fun O J r j x E=>hEb r j x E,_,rfl,be,?_⟩;obtain⟨c1,c2,c3,c4,c5,c6,c7,c8,hEc,hC⟩:=hT.eA W (i:=i) (j:=s) be be TP;refine⟨rC c1 c2 c3 c4 c5 c6 c7 c8,rfl,fun O J r j x E=>hEc r j x E,?_⟩;refine cU (GT:=fun _ J v F=>cz F (Nf J F) v (t.b.getD i 0 / dU t.a i s)) (fun O J r=>JX (Lv.old r W) (hB.iC r W) (hC.iC r W) be be Po) ?_;rintro O Qq v2 QT r L A U;have hN:=U.vL hT r;replace hL:=fun k R=>(hL k R).jy (K:=(Qq.heap.size,QT.heap.size)::Pv) r W L fun x E=>aD _ E;replace hT:=hT.cS (K:=(Qq.heap.size,QT.heap.size)::Pv) r W L fun x E=>aD _ E;replace G:=G.tr A;clear r L A U;generalize (Qq.heap.size,QT.heap.size)::Pv=iv2 at*
  obtain⟨n1,n2,n3,n4,n5,n6,n7,n8,rfl⟩:=hN.shape;have RQ:=Hj (t.b.getD i 0) Po;refine dP (idO 31) ?_
  cases o with
  |none=>
   refine dP (idO 4) ?_;conv=>whnf
   have RB:(kc (fun i=>dU t.a i s) (fun i=>t.b.getD i 0) (fun i=>t.bs.getD i 0) (i+1))=some i:=by rw[kc,<-ho];rw[aI hle]
   refine inc i ?_;intro I8 w3 r3;refine⟨(i+1,((n1,n5),(n2,n6),(n3,n4,n7,n8)),w3,_),⟨Pk,G.tr r3.cj,hT.rel r3 W,fun k R=>?_⟩,sbgn [] r3 (hE:=⟨rfl,rfl,by dsimp only;rw[RB];rfl,rfl,rfl,rfl,rfl,trivial⟩),by dsimp only;omega⟩;rw[RB]at R;injection R with R;rw[<-R];exact hN.iC r3 W
  |some k=>
   have Va:=pI ho.symm;have VA:dU t.a k s≠0:=Rat.ne_of_gt Va.2.1;have Ri:=Hj (t.b.getD k 0) VA;have XY:=hH.dU I k s;have hl6:=hH.Pg I k;have hkm:=Va.1;have hK:=hL k rfl;refine cU (GT:=fun _ J v F=>v=iV (rs (t.b.getD i 0 / dU t.a i s-t.b.getD k 0 / dU t.a k s))) (fun O J r=>vM (Lv.old r W) (hN.iC r W) (hK.iC r W) be be) ?_;clear hK;rintro O Qo v3 Qc r L A rfl;replace hN:=hN.jy (K:=(Qo.heap.size,Qc.heap.size)::iv2) r W L fun x E=>aD _ E;replace hL:=fun k R=>(hL k R).jy (K:=(Qo.heap.size,Qc.heap.size)::iv2) r W L fun x E=>aD _ E;replace hT:=hT.cS (K:=(Qo.heap.size,Qc.heap.size)::iv2) r W L fun x E=>aD _ E;replace G:=G.tr A;clear r L A;generalize (Qo.heap.size,Qc.heap.size)::iv2=Pu at*
   conv=>whnf
   split
   .rename_i hc;have hc:t.b.getD i 0 / dU t.a i s<t.b.getD k 0 / dU t.a k s:=iS.1 (aJ hc);refine dP (idO 4) ?_;conv=>whnf
    have RB:(kc (fun i=>dU t.a i s) (fun i=>t.b.getD i 0) (fun i=>t.bs.getD i 0) (i+1))=some i:=by rw[kc,<-ho];rw[aI hle];dsimp only;rw[if_pos (.inl hc)]
    refine inc i ?_;intro I8 w3 r3;refine⟨(i+1,((n1,n5),(n2,n6),(n3,n4,n7,n8)),w3,_),⟨Pk,G.tr r3.cj,hT.rel r3 W,fun k R=>?_⟩,sbgn [] r3 (hE:=⟨rfl,rfl,by dsimp only;rw[RB];rfl,rfl,rfl,rfl,rfl,trivial⟩),by dsimp only;omega⟩;rw[RB]at R;injection R with R;rw[<-R];exact hN.iC r3 W
   rename_i hc;have hc:¬t.b.getD i 0 / dU t.a i s<t.b.getD k 0 / dU t.a k s:=fun h=>absurd (iS.2 h) (aL hc);have hK:=hL k rfl;refine cU (GT:=fun _ J v F=>v=iV (rs (t.b.getD i 0 / dU t.a i s-t.b.getD k 0 / dU t.a k s))) (fun O J r=>vM (Lv.old r W) (hN.iC r W) (hK.iC r W) be be) ?_;clear hK;rintro O Rl v4 R4 r L A rfl;replace hN:=hN.jy (K:=(Rl.heap.size,R4.heap.size)::Pu) r W L fun x E=>aD _ E;replace hL:=fun k R=>(hL k R).jy (K:=(Rl.heap.size,R4.heap.size)::Pu) r W L fun x E=>aD _ E;replace hT:=hT.cS (K:=(Rl.heap.size,R4.heap.size)::Pu) r W L fun x E=>aD _ E;replace G:=G.tr A;clear r L A;generalize (Rl.heap.size,R4.heap.size)::Pu=QD at*
   conv=>whnf
   split
   .rename_i L;have L:t.b.getD i 0 / dU t.a i s=t.b.getD k 0 / dU t.a k s:=sw.1 (eq_of_beq L);refine⟨_,fun O J r=>hT.f0 W WE r,_,rfl,be,_,fun O J r=>hT.cBs W (i:=i) be WE r,_,fun O J r=>hT.f0 W WE r,_,rfl,⟨by rw[kY];omega,by rw[kY];omega⟩,_,fun O J r=>hT.cBs W (i:=k) be WE r,?_⟩;apply bS<;>intro QZ
    .have QZ:t.bs.getD i 0<t.bs.getD k 0:=by simpa using QZ
     refine dP (idO 4) ?_;conv=>whnf
     have RB:(kc (fun i=>dU t.a i s) (fun i=>t.b.getD i 0) (fun i=>t.bs.getD i 0) (i+1))=some i:=by rw[kc,<-ho];rw[aI hle];dsimp only;rw[if_pos (.inr ⟨L,QZ⟩)]
     refine inc i ?_;intro I8 w3 r3;refine⟨(i+1,((n1,n5),(n2,n6),(n3,n4,n7,n8)),w3,_),⟨Pk,G.tr r3.cj,hT.rel r3 W,fun k R=>?_⟩,sbgn [] r3 (hE:=⟨rfl,rfl,by dsimp only;rw[RB];rfl,rfl,rfl,rfl,rfl,trivial⟩),by dsimp only;omega⟩;rw[RB]at R;injection R with R;rw[<-R];exact hN.iC r3 W
    have QZ:¬t.bs.getD i 0<t.bs.getD k 0:=by simpa using QZ
    have RB:(kc (fun i=>dU t.a i s) (fun i=>t.b.getD i 0) (fun i=>t.bs.getD i 0) (i+1))=some k:=by rw[kc,<-ho];rw[aI hle];dsimp only;rw[if_neg fun h=>h.elim hc fun h=>QZ h.2]
    refine inc i ?_;intro I8 w3 r3;refine⟨(i+1,((y1,y5),(y2,y6),(y3,y4,y7,y8)),w3,_),⟨Pk,G.tr r3.cj,hT.rel r3 W,fun k R=>?_⟩,sbgn [] r3 (hE:=⟨rfl,rfl,by dsimp only;rw[RB];rfl,rfl,rfl,rfl,rfl,trivial⟩),by dsimp only;omega⟩;rw[RB]at R;exact(hL k R).iC r3 W
   rename_i L;have L:¬t.b.getD i 0 / dU t.a i s=t.b.getD k 0 / dU t.a k s:=fun h=>by rw[sw.2 h]at L;exact absurd L bv
   conv=>whnf
   have RB:(kc (fun i=>dU t.a i s) (fun i=>t.b.getD i 0) (fun i=>t.bs.getD i 0) (i+1))=some k:=by rw[kc,<-ho];rw[aI hle];dsimp only;rw[if_neg fun h=>h.elim hc fun h=>L h.1]
   refine inc i ?_;intro I8 w3 r3;refine⟨(i+1,((y1,y5),(y2,y6),(y3,y4,y7,y8)),w3,_),⟨Pk,G.tr r3.cj,hT.rel r3 W,fun k R=>?_⟩,sbgn [] r3 (hE:=⟨rfl,rfl,by dsimp only;rw[RB];rfl,rfl,rfl,rfl,rfl,trivial⟩),by dsimp only;omega⟩;rw[RB]at R;exact(hL k R).iC r3 W
 have Pk:=dE N Pk;intro GE we re;have L:t.Hk s=o:=by rw[ho,Pk];unfold Tb.Hk;rw[Tl]
 exact⟨_,rfl,G.tr re.cj,by rw[L];rfl⟩
end Go.Ex
namespace Go.Ex
variable{Fd:Nat}{j:Option Nat}
section
variable{t:Tb}{D D0:Dc}{r s k B:Nat}{F8:Mx}
theorem sH{α:Type}{l:List α}{x d:α}(h:x∈l):∃i,i<l.length/\l.getD i d=x:=by
 obtain⟨i,N⟩:=az h;exact⟨i,(aH.1 N).1,by rw[List.getD,N];rfl⟩
theorem Rp.HX(h:Rp t D)(H:(∀i j,i<D.m->j<D.q->Ex.rl (D.a i j)<=Fd)/\(∀i,i<D.m->Ex.rl (D.b i)<=Fd)/\(∀j,j<D.q->Ex.rl (D.c j)<=Fd)/\Ex.rl D.top<=Fd):t.xW (Fd+1):=by
 obtain⟨Y,I,h3,h4⟩:=H;refine⟨fun x E q hq=>?_,fun q hq=>?_,fun q hq=>?_,by rw[h.et];omega⟩
 .obtain⟨i,N,rfl⟩:=sH (d:=[]) E;obtain⟨j,hj,rfl⟩:=sH (d:=0) hq;rw[h.al]at N;rw[h.MI N]at hj;have:=Y i j N hj;rw[show (t.a.getD i []).getD j 0=D.a i j from h.ea i j N hj];omega
 .obtain⟨i,N,rfl⟩:=sH (d:=0) hq;rw[h.bl]at N;have:=I i N;rw[h.eb i N];omega
 .obtain⟨i,N,rfl⟩:=sH (d:=0) hq;rw[h.cl]at N;have:=h3 i N;rw[h.ec i N];omega
structure Hw(D0:Dc)(B:Nat)(F8:Mx)(k:Nat)(D:Dc)(t:Tb):Prop where
 run:∃Ds r s,yt Ds r s k/\Ds 0=D0/\Ds k=D
 rp:Rp t D
 sz:D.Sz B F8
theorem Hw.start(R:D0.Ok)(hf:D0.uq)(hr:Rp t D0)(hz:D0.Sz B F8):Hw D0 B F8 0 D0 t:=⟨⟨fun _=>D0,fun _=>0,fun _=>0,⟨R,hf,fun t ht=>be⟩,rfl,rfl⟩,hr,hz⟩
theorem Hw.facts(h:Hw D0 B F8 k D t):D.Ok/\D.uq/\D.m=D0.m/\D.q=D0.q/\(∀x z,D.yL x z↔D0.yL x z)/\k<2^(D0.m+D0.q):=by
 obtain⟨⟨Ds,r,s,Y,rfl,rfl⟩,I,h3⟩:=h;obtain⟨k1,k2,k3,k4,k5⟩:=Y.at_ k (aq k);exact⟨k1,k2,k3,k4,k5,Y.short⟩
theorem Hw.wf(h:Hw D0 B F8 k D t):t.Wf D0.m D0.q:=by
 have:=h.facts;have I:=h.rp.wf;rw[this.2.2.1,this.2.2.2.1]at I;exact I
theorem Hw.HX(h:Hw D0 B F8 k D t)(hK:ln (fB B (D0.m+1))<=Fd):t.xW (Fd+1):=by
 have:=h.facts;exact h.rp.HX (h.sz.all this.1 (by rw[this.2.2.1];exact hK))
theorem Hw.step(h:Hw D0 B F8 k D t)(hs:t.HV=some s)(hr:t.Hk s=some r):r<D0.m/\s<D0.q/\dU t.a r s≠0/\Hw D0 B F8 (k+1) (D.gZ r s) (t.gZ r s):=by
 have hf:=h.facts;have hrp:=h.rp;rw[hrp.HV]at hs;have hsq:=(kP hs).1;rw[hrp.Hk hsq]at hr;have RN:=Dc.JB hs hr;have ha:dU t.a r s=D.a r s:=hrp.ea r s RN.hr RN.hs;have Po:D.a r s≠0:=Rat.ne_of_gt RN.ars;refine⟨by rw[<-hf.2.2.1];exact RN.hr,by rw[<-hf.2.2.2.1];exact RN.hs,by rw[ha];exact Po,?_,hrp.gZ RN.hr RN.hs,h.sz.gZ hf.1 RN.hr RN.hs Po⟩;obtain⟨⟨Ds,r1,s1,Y,I,h3⟩,-,-⟩:=h;subst h3;obtain⟨D',r2,s2,k1,k2,k3⟩:=Y.more RN;exact⟨D',r2,s2,k1,k2.trans I,k3⟩
def K1(t:Tb)(j:Option Nat):Prop:=t.HV=j/\∀s,j=some s->t.Hk s=none
theorem K1.end_(h:Rp t D)(hd:K1 t j):match j with
  |none=>∀j,j<D.q->¬0<D.c j
  |some s=>s<D.q/\0<D.c s/\∀i,i<D.m->D.a i s<=0:=by
 have Y:=hd.1;rw[h.HV]at Y
 cases j with
 |none=>exact tU Y
 |some s=>
  obtain⟨k1,k2,-⟩:=kP Y;have I:=hd.2 s rfl;rw[h.Hk k1]at I;exact⟨k1,k2,tV I⟩
end
end Go.Ex
namespace Go.Ex
open Go Go.Sx Go.Proofs
variable{S:Nat->Prop}
theorem Jd{w:World}{x:Tx}{t:Tb}{D0:Dc}{B Fd:Nat}{F8:Mx}(Ti:Old S w)(Qx:fQ w S x t)(TE:D0.Ok)(hf0:D0.uq)(RW:Rp t D0)(hz0:D0.Sz B F8)(hm:D0.m<=1000)(hq:D0.q<=1000)(hK:ln (fB B (D0.m+1))<=Fd)(Y:1<=Fd)(hh:Fd<=90000000):
  eL PG FS.oM #[.pointer (some ⟨x.g,0,none⟩)] w (fun e F=>∃t' D k j,e= .returned (iV (rT j))/\Kept w F (Bv x.dB)/\fQ F (Nw S w F) x t'/\Hw D0 B F8 k D t'/\K1 t' j):=by
 have W:=Ti;have R:Kept w w (Bv x.dB):=Kept.refl;have hT:=dJ.arg Qx;refine sZ ce ?_;refine⟨Nat×(Tb×Dc)×World×Iv,fun z=>⟨[(0,.o (.v (.pointer (some ⟨x.g,0,none⟩))))],[],0,z.2.2.2,z.2.2.1⟩,fun z=>2^(D0.m+D0.q)-z.1,fun z=>Kept w z.2.2.1 (Bv x.dB)/\dJ z.2.2.1 S w.heap.size z.2.2.2 x z.2.1.1/\Hw D0 B F8 z.1 z.2.1.2 z.2.1.1,?_,?_⟩
 .intro O J r;exact⟨(0,(t,D0),J,_),⟨Kept.cj r.cj R lr,hT.rel r W,Hw.start TE hf0 RW hz0⟩,sbgn [] r⟩
 clear hT R;rintro⟨k,⟨t1,D⟩,w1,iv⟩ ⟨R,hT,hC⟩;dsimp only at R hT hC ⊢;have hW:=hC.wf;have hH:=hC.HX hK;refine cW (cU (GT:=fun _ J v F=>v=iV (rT t1.HV)) (fun O J r=>ID (Lv.old r W) (hT.rel r W).jK hW be) ?_);rintro O QP v1 QL r L A rfl;replace hT:=hT.cS (K:=(QP.heap.size,QL.heap.size)::iv) r W L fun x E=>aD _ E;replace R:=Kept.cj A R lr;clear r L A;generalize (QP.heap.size,QL.heap.size)::iv=Pv at*
 obtain⟨o,ho⟩:=exq t1.HV;rw[ho]
 cases o with
 |none=>
  conv=>whnf
  intro GE we re;exact⟨t1,D,k,none,rfl,Kept.cj re.cj R lr,hT.out Qx re W,hC,ho,fun s hs=>by cases hs⟩
 |some s=>
  have hsq:s<D0.q:=by
   have I:=ho;rw[hC.rp.HV]at I;rw[<-hC.facts.2.2.2.1];exact(kP I).1
  refine cW (cU (GT:=fun _ J v F=>v=iV (rT (t1.Hk s))) (fun O J r=>Ka (Lv.old r W) (hT.rel r W).jK hW hsq be be hH be be) ?_);rintro O Qq v2 QT r L A rfl;replace hT:=hT.cS (K:=(Qq.heap.size,QT.heap.size)::Pv) r W L fun x E=>aD _ E;replace R:=Kept.cj A R lr;clear r L A;generalize (Qq.heap.size,QT.heap.size)::Pv=iv2 at*
  obtain⟨u,hu⟩:=exq (t1.Hk s);rw[hu]
  cases u with
  |none=>
   conv=>whnf
   intro GE we re;exact⟨t1,D,k,some s,rfl,Kept.cj re.cj R lr,hT.out Qx re W,hC,ho,fun s' hs=>by injection hs with hs;rw[<-hs];exact hu⟩
  |some u=>
   obtain⟨hum,-,Po,Yg⟩:=hC.step ho hu;refine⟨fun O J r=>?_⟩;refine(Eo (Lv.old r W) (hT.rel r W).jK hW hum hsq Po be be hH be be).mono fun e w8 L=>?_;obtain⟨rfl,RD,Qr⟩:=L;refine⟨.tuple #[],_,(J.heap.size,w8.heap.size)::iv2,rfl,r.gJ (hT.not r) RD,?_⟩;replace Qr:=hT.ep r Qr;replace R:=(Kept.cj r.cj R lr).trans RD;clear hT RD;have hT:=Qr;clear Qr r;generalize (J.heap.size,w8.heap.size)::iv2=Pu at*
   have QZ:=Yg.facts.2.2.2.2.2;intro I8 w3 r3;exact⟨(k+1,(t1.gZ u s,D.gZ u s),w3,_),⟨Kept.cj r3.cj R lr,hT.rel r3 W,Yg⟩,sbgn [] r3,by dsimp only;omega⟩
end Go.Ex
namespace Go.Sx
open Go Go.Ex Go.Proofs
variable{O:Nat->Sx.eH}
theorem Rel.nil{H:Hp}{nx:Nat}{iv:Iv}{B:Nat}{w J:World}(r:Rel H nx iv B w O J):Rel H nx [] B w O J:=
 {r with oc:=(fun _ _ h=>by cases h),jU:=(fun _ _ h=>by cases h)}
end Go.Sx
namespace Go.Ex
open Go Go.Sx Go.Proofs
section
variable{H:Hp}{iv:Iv}{qs:List Rat}{B g nx:Nat}{S:Nat->Prop}{O:Nat->Sx.eH}{a:Option Addr}{q:Rat}{x:Tx}{u v:Value}{w:World}
section
variable{S:Nat->Prop}{H:Hp}{nx:Nat}{iv:Iv}{B:Nat}{w J F:World}{O:Nat->Sx.eH}{x:Tx}{t:Tb}
theorem dJ.B9(h:dJ w S B [] x t)(r:Rel H nx iv B w O J)(W:∀g,S g->g<B)(L:Ext J F):dJ F S B [] x t:=h.cS r.nil W L fun _ h=>h
theorem cz.aside{n:Nat}(h:cz w (Lv S B [] x) v q)(hX:eu w S B iv u n qs)(W:∀g,S g->g<B)(r:Rel H nx iv B w O J):cz J (fun g=>Cv S B iv g/\u.ownBlock≠some g) v q:=
 (h.cX (Lv.same r.nil W)).cV fun g V=>by
  rcases V.1 with V|⟨-,lo,N,Y,-⟩
  .refine⟨.inl V,fun e=>?_⟩;rcases hX.new g e with h|⟨h,-⟩
   .exact h
   .have:=W g V;omega
  .cases Y
theorem eu.nw{w0:World}{n:Nat}(h:eu w S w0.heap.size iv v n qs)(r:Rel H nx iv w0.heap.size w O J)(W:Old S w0):eF J (Nw S w0 J) (Nw S w0 J) v qs:=
 (h.rel r W).read.cV (fun _ V=>Cv.nw V r) fun _ V=>Cv.nw V r
theorem dJ.Ba(hT:dJ w S B [] x t)(r:Rel H nx iv B w O J)(W:∀g,S g->g<B)(V:B<=g)(h:J.grownBy F (some g)):dJ F S B [] x t:=
 (hT.rel r.nil W).cX fun k R=>h.block k (by
  rcases R with R|R
  .exact rlo r.nil W k R.1
  .exact hT.low r.nil R) fun e=>by
  injection e with e;rcases R with R|R
  .rcases R.1 with R|⟨-,lo,N,Y,-⟩
   .have:=W k R;omega
   .cases Y
  .rcases hT.kz k R with R|⟨-,lo,N,Y,-⟩
   .have:k<B:=R;omega
   .cases Y
end
theorem eu.some{n c:Nat}(h:eu w S B iv (.slice a n c) n qs)(h0:0<n):∃g,a=some ⟨g,0,none⟩/\B<=g:=by
 obtain⟨Z,ho,_⟩:=h.row;rcases ho.2 with⟨_,Y⟩|⟨g,cap,cur,e,_⟩
 .omega
 .injection e with e;subst e;refine⟨g,rfl,?_⟩;rcases h.new g rfl with h|⟨h,-⟩
  .exact h.elim
  .exact h
theorem Lv.zero(h:Lv S B [] x g):S g:=by
 rcases h.1 with h|⟨-,lo,N,Y,-⟩
 .exact h
 .cases Y
theorem cz.next{J F:World}{n:Nat}(h:cz F (Nw (Lv S B [] x) J F) v q)(hX:eu w S B iv u n qs)(W:∀g,S g->g<B)(r:Rel H nx iv B w O J):
  cz F (fun g=>Cv S B ((J.heap.size,F.heap.size)::iv) g/\u.ownBlock≠some g) v q:=
 h.apart (fun g V=>⟨rlo r W g (qj (hX.new g V)),fun hl=>by
  have:=W g hl.zero;rcases hX.new g V with h|⟨h,-⟩
  .exact h
  .omega⟩) r.cZ fun g V=>V.zero
theorem cz.aAt{J F:World}{n:Nat}(h:cz F (Nf J F) v q)(hX:eu w S B iv u n qs)(W:∀g,S g->g<B)(r:Rel H nx iv B w O J):
  cz F (fun g=>Cv S B ((J.heap.size,F.heap.size)::iv) g/\u.ownBlock≠some g) v q:=
 h.apart (fun g V=>⟨rlo r W g (qj (hX.new g V)),fun h=>h⟩) r.cZ fun g V=>V.elim
theorem Je{t:Tb}{m q n:Nat}(Ti:Old S w)(Qx:fQ w S x t)(hW:t.Wf m q)(hm:m<=1000)(U:n<=1000):
  eL PG FS.oN #[.pointer (some ⟨x.g,0,none⟩),iV n] w (eY w fun v F=>eF F (Nw S w F) (Nw S w F) v (t.jv n)):=by
 have W:=Ti;have G:=bR w;have Pw:=hW.b;have UQ:=hW.bs;obtain⟨ab,cb,WE,RK,-,Td⟩:=Qx.hdb hW;obtain⟨aB,cB,Vf,hcB,-,haB⟩:=Qx.hdB hW;have hT:=dJ.arg Qx;refine s0 ce ?_;refine cW (cU (GT:=fun _ J v F=>eu F FF J.heap.size [(J.heap.size,F.heap.size)] v n (List.replicate n 0)) (fun O J r=>jh n J be) ?_);rintro O wa v1 wb r L A E;have hX:=E.ep (S:=S) (iv:=[(wa.heap.size,wb.heap.size)]) r.cZ aF;replace G:=G.tr A;replace hT:=hT.B9 r W L;clear r L A E;generalize [(wa.heap.size,wb.heap.size)]=Pv at*
 obtain⟨ao,co,rfl,-⟩:=hX.row.form;refine⟨_,fun O J r=>hT.f0 W WE r.nil,Nat×World×Iv,fun z=>⟨[(0,.o (.v (.pointer (some ⟨x.g,0,none⟩)))),(1,.o (.v (iV (n:Int)))),(5,sV ao n co),(13,sV ab m cb),(14,.o (.v (iV (m:Int)))),(15,.o (.v (iV (z.1:Int))))],[],0,z.2.2,z.2.1⟩,fun z=>m-z.1,fun z=>z.1<=m/\Bq w z.2.1/\dJ z.2.1 S w.heap.size [] x t/\eu z.2.1 S w.heap.size z.2.2 (.slice ao n co) n (fK (dx n) n 0 (fun i=>t.bs.getD i 0) (fun i=>t.b.getD i 0) z.1),?_,?_⟩
 .intro O J r;exact⟨(0,J,_),⟨ae _,G.tr r.cj,hT.rel r.nil W,hX.rel r W⟩,sbgn [] r⟩
 clear hT G hX;rintro⟨i,w1,iv⟩ ⟨N,G,hT,hX⟩;dsimp only at N G hT hX ⊢;apply bS<;>intro Pk
 .have Pk:=dL Pk;obtain⟨gb,rfl⟩:=Td be;obtain⟨gB,rfl⟩:=haB be;refine⟨_,rfl,be,_,fun O J r=>hT.cBs W (i:=i) be WE r.nil,?_⟩;apply bS<;>intro hc
  .have hc:t.bs.getD i 0<n:=by simpa using hc
   obtain⟨go,rfl,Ws⟩:=hX.some be;obtain⟨p1,p2,p3,p4,p5,p6,p7,p8,Uj,hF⟩:=hT.eB W (j:=i) be Vf;refine⟨_,fun O J r=>hT.f3 W Vf r.nil,_,rfl,be,rC p1 p2 p3 p4 p5 p6 p7 p8,rfl,fun O J r j x E=>Uj r.nil j x E,_,rfl,be,?_⟩;intro O J r;obtain⟨_,QY,Y,I,h3,h4,h5⟩:=(hX.rel r W).store hc (hF.aside hX W r) r W;injection QY with QY;injection QY with QY;subst QY;refine⟨Y,I,h3,fun w4 QG=>?_⟩;obtain⟨Wd,Uk,-⟩:=h5 w4 QG;replace hT:=hT.Ba r W Ws Uk;replace G:=(G.tr r.cj).tr (Bel.grown Uk (fun g e=>by injection e with e;omega) r.cZ);clear Y I h3 h4 h5 QG Uk r hF;clear hX;have hp:fK (dx n) n 0 (fun i=>t.bs.getD i 0) (fun i=>t.b.getD i 0) (i+1)=(fK (dx n) n 0 (fun i=>t.bs.getD i 0) (fun i=>t.b.getD i 0) i).set (t.bs.getD i 0) (t.b.getD i 0):=by rw[fK,aM ⟨ae _,be⟩];rfl
   rw[<-hp]at Wd;refine inc i ?_;intro I8 w3 r3;exact⟨(i+1,w3,_),⟨Pk,G.tr r3.cj,hT.rel r3.nil W,Wd.rel r3 W⟩,sbgn [] r3,dec Pk⟩
  have hc:¬t.bs.getD i 0<n:=by simpa using hc
  have hp:fK (dx n) n 0 (fun i=>t.bs.getD i 0) (fun i=>t.b.getD i 0) (i+1)=fK (dx n) n 0 (fun i=>t.bs.getD i 0) (fun i=>t.b.getD i 0) i:=by rw[fK,aI fun h=>hc (by have:=h.2;omega)]
  refine inc i ?_;intro I8 w3 r3;exact⟨(i+1,w3,_),⟨Pk,G.tr r3.cj,hT.rel r3.nil W,by rw[hp];exact hX.rel r3 W⟩,sbgn [] r3,dec Pk⟩
 have Pk:=dE N Pk;intro GE we re;refine⟨_,rfl,G.tr re.cj,?_⟩;unfold Tb.jv;rw[UQ,<-Pk];exact hX.nw re W
theorem Gi{t:Tb}{m q n k:Nat}(Ti:Old S w)(Qx:fQ w S x t)(hW:t.Wf m q)(hm:q<=1000)(U:n<=1000)(WV:k<=1000):
  eL PG FS.nc #[.pointer (some ⟨x.g,0,none⟩),iV n,.int .i64 k] w (eY w fun v F=>eF F (Nw S w F) (Nw S w F) v (t.j0 n k)):=by
 have W:=Ti;have G:=bR w;have Qg:=hW.c;have Qp:=hW.fs;obtain⟨af,cf,Wc,hcf,-,haf⟩:=Qx.hdf hW;obtain⟨ac,cc,Yi,Vd,-,hac⟩:=Qx.hdc hW;have hT:=dJ.arg Qx;refine rO ce ?_;refine cW (cU (GT:=fun _ J v F=>eu F FF J.heap.size [(J.heap.size,F.heap.size)] v k (List.replicate k 0)) (fun O J r=>jh k J be) ?_);rintro O wa v1 wb r L A E;have hX:=E.ep (S:=S) (iv:=[(wa.heap.size,wb.heap.size)]) r.cZ aF;replace G:=G.tr A;replace hT:=hT.B9 r W L;clear r L A E;generalize [(wa.heap.size,wb.heap.size)]=Pv at*
 obtain⟨ao,co,rfl,-⟩:=hX.row.form;refine⟨_,fun O J r=>hT.f1 W Wc r.nil,Nat×World×Iv,fun z=>⟨[(0,.o (.v (.pointer (some ⟨x.g,0,none⟩)))),(1,.o (.v (iV (n:Int)))),(2,.o (.v (iV (k:Int)))),(7,sV ao k co),(15,sV af q cf),(16,.o (.v (iV (q:Int)))),(17,.o (.v (iV (z.1:Int))))],[],0,z.2.2,z.2.1⟩,fun z=>q-z.1,fun z=>z.1<=q/\Bq w z.2.1/\dJ z.2.1 S w.heap.size [] x t/\eu z.2.1 S w.heap.size z.2.2 (.slice ao k co) k (fK (dx k) k n (fun j=>t.fs.getD j 0) (fun j=> -(t.c.getD j 0)) z.1),?_,?_⟩
 .intro O J r;exact⟨(0,J,_),⟨ae _,G.tr r.cj,hT.rel r.nil W,hX.rel r W⟩,sbgn [] r⟩
 clear hT G hX;rintro⟨i,w1,iv⟩ ⟨N,G,hT,hX⟩;dsimp only at N G hT hX ⊢;apply bS<;>intro Pk
 .have Pk:=dL Pk;obtain⟨gf,rfl⟩:=haf be;obtain⟨gc,rfl⟩:=hac be;refine⟨_,rfl,be,_,fun O J r=>hT.cFs W (i:=i) be Wc r.nil,?_⟩;obtain⟨u,hu⟩:=exq (t.fs.getD i 0);rw[hu];conv=>whnf
  split
  .rename_i hc;have hc:n<=u:=by have:=aJ hc;omega
   refine⟨((n+k:Nat):Int),wo,?_⟩;apply bS<;>intro hd
   .have hd:u<n+k:=by have:=aJ hd;omega
    obtain⟨go,rfl,Ws⟩:=hX.some be;refine⟨((u-n:Nat):Int),wo,?_⟩;obtain⟨p1,p2,p3,p4,p5,p6,p7,p8,Uj,hF⟩:=hT.eC W (j:=i) be Yi;refine⟨_,fun O J r=>hT.f4 W Yi r.nil,_,rfl,be,rC p1 p2 p3 p4 p5 p6 p7 p8,rfl,fun O J r j x E=>Uj r.nil j x E,?_⟩;refine cW (cU (GT:=fun _ J v F=>cz F (Nw (Lv S w.heap.size [] x) J F) v (-(t.c.getD i 0))) (fun O J r=>mH (Lv.old r.nil W) (hF.iC r.nil W)) ?_);rintro O UB v9 UC r L A U;have hM:=U.next hX W r
    replace hX:=hX.cS (K:=(UB.heap.size,UC.heap.size)::iv) r W L fun x E=>aD _ E;replace hT:=hT.B9 r W L;replace G:=G.tr A;clear r L A U;generalize (UB.heap.size,UC.heap.size)::iv=jv9 at*
    obtain⟨k1,k2,k3,k4,k5,k6,k7,k8,rfl⟩:=hM.shape;refine⟨_,rfl,be,?_⟩;intro O J r;obtain⟨_,QY,Y,I,h3,h4,h5⟩:=(hX.rel r W).store (j:=u-n) be (hM.cX fun g V=>rls r W V.1) r W;injection QY with QY;injection QY with QY;subst QY;refine⟨Y,I,h3,fun w4 QG=>?_⟩;obtain⟨Wd,Uk,-⟩:=h5 w4 QG;replace hT:=hT.Ba r W Ws Uk;replace G:=(G.tr r.cj).tr (Bel.grown Uk (fun g e=>by injection e with e;omega) r.cZ);clear Y I h3 h4 h5 QG Uk r hM;clear hX;have hp:fK (dx k) k n (fun j=>t.fs.getD j 0) (fun j=> -(t.c.getD j 0)) (i+1)=(fK (dx k) k n (fun j=>t.fs.getD j 0) (fun j=> -(t.c.getD j 0)) i).set (u-n) (-(t.c.getD i 0)):=by rw[fK,aM (by rw[hu];omega),hu]
    rw[<-hp]at Wd;refine inc i ?_;intro I8 w3 r3;exact⟨(i+1,w3,_),⟨Pk,G.tr r3.cj,hT.rel r3.nil W,Wd.rel r3 W⟩,sbgn [] r3,dec Pk⟩
   have hd:¬u<n+k:=by have:=aL hd;omega
   have hp:fK (dx k) k n (fun j=>t.fs.getD j 0) (fun j=> -(t.c.getD j 0)) (i+1)=fK (dx k) k n (fun j=>t.fs.getD j 0) (fun j=> -(t.c.getD j 0)) i:=by rw[fK,aI (by rw[hu];omega)]
   refine inc i ?_;intro I8 w3 r3;exact⟨(i+1,w3,_),⟨Pk,G.tr r3.cj,hT.rel r3.nil W,by rw[hp];exact hX.rel r3 W⟩,sbgn [] r3,dec Pk⟩
  rename_i hc;have hc:¬n<=u:=by have:=aL hc;omega
  conv=>whnf
  have hp:fK (dx k) k n (fun j=>t.fs.getD j 0) (fun j=> -(t.c.getD j 0)) (i+1)=fK (dx k) k n (fun j=>t.fs.getD j 0) (fun j=> -(t.c.getD j 0)) i:=by rw[fK,aI (by rw[hu];omega)]
  refine inc i ?_;intro I8 w3 r3;exact⟨(i+1,w3,_),⟨Pk,G.tr r3.cj,hT.rel r3.nil W,by rw[hp];exact hX.rel r3 W⟩,sbgn [] r3,dec Pk⟩
 have Pk:=dE N Pk;intro GE we re;refine⟨_,rfl,G.tr re.cj,?_⟩;unfold Tb.j0;rw[Qp,<-Pk];exact hX.nw re W
theorem Gj{t:Tb}{m q n s:Nat}(Ti:Old S w)(Qx:fQ w S x t)(hW:t.Wf m q)(hs:s<q)(hm:m<=1000)(hq:q<=1000)(U:n<=1000):
  eL PG FS.lA #[.pointer (some ⟨x.g,0,none⟩),iV n,iV s] w (eY w fun v F=>eF F (Nw S w F) (Nw S w F) v (t.pJ n s)):=by
 have W:=Ti;have G:=bR w;have Tl:=hW.al;have Qp:=hW.fs;have UQ:=hW.bs;obtain⟨af,cf,Wc,hcf,-,haf⟩:=Qx.hdf hW;obtain⟨ab,cb,WE,RK,-,Td⟩:=Qx.hdb hW;obtain⟨aa,ca,To,Qi,-,haa⟩:=Qx.hda hW;obtain⟨gf,rfl⟩:=haf be;have hR:∀i,i<m->∃a c,x.rv[i]? =some (.slice a q c)/\q<=c/\c<=maxLen/\(0<q->∃g,a=some ⟨g,0,none⟩):=fun i N=>Qx.hdr hW N;have hT:=dJ.arg Qx;obtain⟨u,hu⟩:=exq (t.fs.getD s 0);obtain⟨l0,XA⟩:∃l,l=if u<n then(dx n).set u 1 else dx n:=⟨_,rfl⟩
 refine ou ce ?_;refine cW (cU (GT:=fun _ J v F=>eu F FF J.heap.size [(J.heap.size,F.heap.size)] v n (List.replicate n 0)) (fun O J r=>jh n J be) ?_);rintro O wa v1 wb r L A E;have hX:=E.ep (S:=S) (iv:=[(wa.heap.size,wb.heap.size)]) r.cZ aF;replace G:=G.tr A;replace hT:=hT.B9 r W L;clear r L A E;generalize [(wa.heap.size,wb.heap.size)]=Pv at*
 obtain⟨ao,co,rfl,-⟩:=hX.row.form;refine⟨_,fun O J r=>hT.f1 W Wc r.nil,_,rfl,be,_,fun O J r=>hT.cFs W (i:=s) be Wc r.nil,?_⟩;rw[hu];apply bS<;>intro hc
 .have hc:=dL hc;obtain⟨go,rfl,Ws⟩:=hX.some be;refine cW (cU (GT:=fun _ J v F=>cz F (Nf J F) v ((1:Int):Rat)) (fun O J r=>iX 1 J bv bv) ?_);rintro O wa8 v8 wb8 r L A U;have hM:=U.aAt hX W r;replace hX:=hX.cS (K:=(wa8.heap.size,wb8.heap.size)::Pv) r W L fun x E=>aD _ E;replace hT:=hT.B9 r W L;replace G:=G.tr A;clear r L A U;generalize (wa8.heap.size,wb8.heap.size)::Pv=jv8 at*
  obtain⟨k1,k2,k3,k4,k5,k6,k7,k8,rfl⟩:=hM.shape;rw[show ((1:Int):Rat)=1 by decide]at hM;refine⟨_,rfl,be,?_⟩;intro O J r;obtain⟨_,QY,Y,I,h3,h4,h5⟩:=(hX.rel r W).store hc (hM.cX fun g V=>rls r W V.1) r W;injection QY with QY;injection QY with QY;subst QY;refine⟨Y,I,h3,fun w4 QG=>?_⟩;obtain⟨Wd,Uk,-⟩:=h5 w4 QG;replace hT:=hT.Ba r W Ws Uk;replace G:=(G.tr r.cj).tr (Bel.grown Uk (fun g e=>by injection e with e;omega) r.cZ);clear Y I h3 h4 h5 QG Uk r hM;clear hX;have hX:eu w4 S w.heap.size jv8 (.slice (some ⟨go,0,none⟩) n co) n l0:=by rw[XA,aM hc];exact Wd
  clear Wd;refine⟨_,fun O J r=>hT.f0 W WE r.nil,Nat×World×Iv,fun z=>⟨[(0,.o (.v (.pointer (some ⟨x.g,0,none⟩)))),(1,.o (.v (iV (n:Int)))),(2,.o (.v (iV (s:Int)))),(7,.o (.v (.slice (some ⟨go,0,none⟩) n co))),(30,sV ab m cb),(31,.o (.v (iV (m:Int)))),(32,.o (.v (iV (z.1:Int))))],[],0,z.2.2,z.2.1⟩,fun z=>m-z.1,fun z=>z.1<=m/\Bq w z.2.1/\dJ z.2.1 S w.heap.size [] x t/\eu z.2.1 S w.heap.size z.2.2 (.slice (some ⟨go,0,none⟩) n co) n (fK l0 n 0 (fun i=>t.bs.getD i 0) (fun i=> -(dU t.a i s)) z.1),?_,?_⟩
  .intro O J r;exact⟨(0,J,_),⟨ae _,G.tr r.cj,hT.rel r.nil W,hX.rel r W⟩,sbgn [] r⟩
  clear hT G hX;rintro⟨i,w1,iv⟩ ⟨N,G,hT,hX⟩;dsimp only at N G hT hX ⊢;apply bS<;>intro Pk
  .have Pk:=dL Pk;obtain⟨gb,rfl⟩:=Td be;obtain⟨ga,rfl⟩:=haa be;obtain⟨ai,ci,TP,-,-,Zz⟩:=hR i Pk;obtain⟨gi,rfl⟩:=Zz be;have QO:=hW.row Pk;refine⟨_,rfl,be,_,fun O J r=>hT.cBs W (i:=i) be WE r.nil,?_⟩;apply bS<;>intro hc
   .have hc:t.bs.getD i 0<n:=by simpa using hc
    obtain⟨p1,p2,p3,p4,p5,p6,p7,p8,Uj,hF⟩:=hT.eA W (i:=i) (j:=s) be be TP;refine⟨_,fun O J r=>hT.f2 W To r.nil,_,rfl,be,_,fun O J r=>hT.cA W TP To r.nil,_,rfl,be,rC p1 p2 p3 p4 p5 p6 p7 p8,rfl,fun O J r j x E=>Uj r.nil j x E,?_⟩;refine cW (cU (GT:=fun _ J v F=>cz F (Nw (Lv S w.heap.size [] x) J F) v (-(dU t.a i s))) (fun O J r=>mH (Lv.old r.nil W) (hF.iC r.nil W)) ?_);rintro O UB v9 UC r L A U;have hM:=U.next hX W r
    replace hX:=hX.cS (K:=(UB.heap.size,UC.heap.size)::iv) r W L fun x E=>aD _ E;replace hT:=hT.B9 r W L;replace G:=G.tr A;clear r L A U;generalize (UB.heap.size,UC.heap.size)::iv=jv9 at*
    obtain⟨k1,k2,k3,k4,k5,k6,k7,k8,rfl⟩:=hM.shape;refine⟨_,rfl,be,?_⟩;intro O J r;obtain⟨_,QY,Y,I,h3,h4,h5⟩:=(hX.rel r W).store hc (hM.cX fun g V=>rls r W V.1) r W;injection QY with QY;injection QY with QY;subst QY;refine⟨Y,I,h3,fun w4 QG=>?_⟩;obtain⟨Wd,Uk,-⟩:=h5 w4 QG;replace hT:=hT.Ba r W Ws Uk;replace G:=(G.tr r.cj).tr (Bel.grown Uk (fun g e=>by injection e with e;omega) r.cZ);clear Y I h3 h4 h5 QG Uk r hM;clear hX;have hp:fK l0 n 0 (fun i=>t.bs.getD i 0) (fun i=> -(dU t.a i s)) (i+1)=(fK l0 n 0 (fun i=>t.bs.getD i 0) (fun i=> -(dU t.a i s)) i).set (t.bs.getD i 0) (-(dU t.a i s)):=by rw[fK,aM ⟨ae _,be⟩];rfl
    rw[<-hp]at Wd;refine inc i ?_;intro I8 w3 r3;exact⟨(i+1,w3,_),⟨Pk,G.tr r3.cj,hT.rel r3.nil W,Wd.rel r3 W⟩,sbgn [] r3,dec Pk⟩
   have hc:¬t.bs.getD i 0<n:=by simpa using hc
   have hp:fK l0 n 0 (fun i=>t.bs.getD i 0) (fun i=> -(dU t.a i s)) (i+1)=fK l0 n 0 (fun i=>t.bs.getD i 0) (fun i=> -(dU t.a i s)) i:=by rw[fK,aI fun h=>hc (by have:=h.2;omega)]
   refine inc i ?_;intro I8 w3 r3;exact⟨(i+1,w3,_),⟨Pk,G.tr r3.cj,hT.rel r3.nil W,by rw[hp];exact hX.rel r3 W⟩,sbgn [] r3,dec Pk⟩
  have Pk:=dE N Pk;intro GE we re;refine⟨_,rfl,G.tr re.cj,?_⟩;unfold Tb.pJ;rw[hu,<-XA,UQ,<-Pk];exact hX.nw re W
 have hc:¬u<n:=by simpa using hc
 replace hX:eu wb S w.heap.size Pv (.slice ao n co) n l0:=by rw[XA,aI hc];exact hX
 refine⟨_,fun O J r=>hT.f0 W WE r.nil,Nat×World×Iv,fun z=>⟨[(0,.o (.v (.pointer (some ⟨x.g,0,none⟩)))),(1,.o (.v (iV (n:Int)))),(2,.o (.v (iV (s:Int)))),(7,sV ao n co),(30,sV ab m cb),(31,.o (.v (iV (m:Int)))),(32,.o (.v (iV (z.1:Int))))],[],0,z.2.2,z.2.1⟩,fun z=>m-z.1,fun z=>z.1<=m/\Bq w z.2.1/\dJ z.2.1 S w.heap.size [] x t/\eu z.2.1 S w.heap.size z.2.2 (.slice ao n co) n (fK l0 n 0 (fun i=>t.bs.getD i 0) (fun i=> -(dU t.a i s)) z.1),?_,?_⟩
 .intro O J r;exact⟨(0,J,_),⟨ae _,G.tr r.cj,hT.rel r.nil W,hX.rel r W⟩,sbgn [] r⟩
 clear hT G hX;rintro⟨i,w1,iv⟩ ⟨N,G,hT,hX⟩;dsimp only at N G hT hX ⊢;apply bS<;>intro Pk
 .have Pk:=dL Pk;obtain⟨gb,rfl⟩:=Td be;obtain⟨ga,rfl⟩:=haa be;obtain⟨ai,ci,TP,-,-,Zz⟩:=hR i Pk;obtain⟨gi,rfl⟩:=Zz be;have QO:=hW.row Pk;refine⟨_,rfl,be,_,fun O J r=>hT.cBs W (i:=i) be WE r.nil,?_⟩;apply bS<;>intro hc
  .have hc:t.bs.getD i 0<n:=by simpa using hc
   obtain⟨go,rfl,Ws⟩:=hX.some be;obtain⟨p1,p2,p3,p4,p5,p6,p7,p8,Uj,hF⟩:=hT.eA W (i:=i) (j:=s) be be TP;refine⟨_,fun O J r=>hT.f2 W To r.nil,_,rfl,be,_,fun O J r=>hT.cA W TP To r.nil,_,rfl,be,rC p1 p2 p3 p4 p5 p6 p7 p8,rfl,fun O J r j x E=>Uj r.nil j x E,?_⟩;refine cW (cU (GT:=fun _ J v F=>cz F (Nw (Lv S w.heap.size [] x) J F) v (-(dU t.a i s))) (fun O J r=>mH (Lv.old r.nil W) (hF.iC r.nil W)) ?_);rintro O UB v9 UC r L A U;have hM:=U.next hX W r
   replace hX:=hX.cS (K:=(UB.heap.size,UC.heap.size)::iv) r W L fun x E=>aD _ E;replace hT:=hT.B9 r W L;replace G:=G.tr A;clear r L A U;generalize (UB.heap.size,UC.heap.size)::iv=jv9 at*
   obtain⟨k1,k2,k3,k4,k5,k6,k7,k8,rfl⟩:=hM.shape;refine⟨_,rfl,be,?_⟩;intro O J r;obtain⟨_,QY,Y,I,h3,h4,h5⟩:=(hX.rel r W).store hc (hM.cX fun g V=>rls r W V.1) r W;injection QY with QY;injection QY with QY;subst QY;refine⟨Y,I,h3,fun w4 QG=>?_⟩;obtain⟨Wd,Uk,-⟩:=h5 w4 QG;replace hT:=hT.Ba r W Ws Uk;replace G:=(G.tr r.cj).tr (Bel.grown Uk (fun g e=>by injection e with e;omega) r.cZ);clear Y I h3 h4 h5 QG Uk r hM;clear hX;have hp:fK l0 n 0 (fun i=>t.bs.getD i 0) (fun i=> -(dU t.a i s)) (i+1)=(fK l0 n 0 (fun i=>t.bs.getD i 0) (fun i=> -(dU t.a i s)) i).set (t.bs.getD i 0) (-(dU t.a i s)):=by rw[fK,aM ⟨ae _,be⟩];rfl
   rw[<-hp]at Wd;refine inc i ?_;intro I8 w3 r3;exact⟨(i+1,w3,_),⟨Pk,G.tr r3.cj,hT.rel r3.nil W,Wd.rel r3 W⟩,sbgn [] r3,dec Pk⟩
  have hc:¬t.bs.getD i 0<n:=by simpa using hc
  have hp:fK l0 n 0 (fun i=>t.bs.getD i 0) (fun i=> -(dU t.a i s)) (i+1)=fK l0 n 0 (fun i=>t.bs.getD i 0) (fun i=> -(dU t.a i s)) i:=by rw[fK,aI fun h=>hc (by have:=h.2;omega)]
  refine inc i ?_;intro I8 w3 r3;exact⟨(i+1,w3,_),⟨Pk,G.tr r3.cj,hT.rel r3.nil W,by rw[hp];exact hX.rel r3 W⟩,sbgn [] r3,dec Pk⟩
 have Pk:=dE N Pk;intro GE we re;refine⟨_,rfl,G.tr re.cj,?_⟩;unfold Tb.pJ;rw[hu,<-XA,UQ,<-Pk];exact hX.nw re W
end
variable{Fn:List (List Rat)}{E8:List Ow}{rv:List Value}{S S':Nat->Prop}{it:Ow}{w:World}
theorem kK.rep{F:World}{it':Ow}{k:Nat}(h:kK w S E8)(R:E8[k]? =some it)(Pp:∀g,g<w.heap.size->it.v.ownBlock≠some g->F.heap[g]? =w.heap[g]?)(ho:F.ownsRow 0 it'.e it'.sz it'.v it'.n it'.xs)
  (A:∀g,it'.v.ownBlock=some g->it.v.ownBlock=some g\/w.heap.size<=g) (off:∀g,Bv ((E8.set k it').map Ow.v) g->¬S' g):kK F S' (E8.set k it'):=by
 refine⟨fun it2 Qv=>?_,fun i j a b g N hj ha Q2=>?_,off⟩
 .obtain⟨i,N⟩:=az Qv;rw[List.getElem?_set]at N;split at N
  .split at N
   .injection N with N;subst N;exact ho
   .cases N
  .rename_i e;have R8:=h.own it2 (aG N);exact ownsRow.cX R8 fun g RF=>Pp g (ownsRow.low R8 g RF).2 fun e2=>e (h.apart k i _ _ g R N e2 RF)
 .have key:∀(i:Nat) (a:Ow),(E8.set k it')[i]? =some a->(i=k/\a=it')\/(i≠k/\E8[i]? =some a):=fun i a N=>by
   rw[List.getElem?_set]at N;split at N
   .rename_i e;split at N
    .injection N with N;exact .inl ⟨e.symm,N.symm⟩
    .cases N
   .rename_i e;exact .inr ⟨Ne.symm e,N⟩
  have low:∀(i:Nat) (a:Ow) (g:Nat),E8[i]? =some a->a.v.ownBlock=some g->g<w.heap.size:=fun i a g N V=>h.low (kK.bk (aG N) V);rcases key i a N with⟨rfl,rfl⟩|⟨Y,I⟩<;>rcases key j b hj with⟨rfl,rfl⟩|⟨h3,h4⟩
  .rfl
  .rcases A g ha with h5|h5
   .exact h.apart i j it b g R h4 h5 Q2
   .have:=low j b g h4 Q2;omega
  .rcases A g Q2 with h5|h5
   .exact h.apart i j a it g I R ha h5
   .have:=low i a g I ha;omega
  .exact h.apart i j a b g I h4 ha Q2
theorem kK.add(h:kK w S E8)(ho:w.ownsRow 0 it.e it.sz it.v it.n it.xs)(Po:∀g,it.v.ownBlock=some g->¬Bv (E8.map Ow.v) g)(off:∀g,Bv ((it::E8).map Ow.v) g->¬S' g):kK w S' (it::E8):=by
 refine⟨fun it2 Qv=>?_,fun i j a b g N hj ha A=>?_,off⟩
 .rcases List.mem_cons.1 Qv with rfl|Qv
  .exact ho
  .exact h.own it2 Qv
 .cases i with
  |zero=>
   injection N with N;subst N
   cases j with
   |zero=>rfl
   |succ j=>exact absurd (kK.bk (aG (show E8[j]? =some b from hj)) A) (Po g ha)
  |succ i=>
   cases j with
   |zero=>
    injection hj with hj;subst hj;exact absurd (kK.bk (aG (show E8[i]? =some a from N)) ha) (Po g A)
   |succ j=>exact congrArg (· +1) (h.apart i j a b g N hj ha A)
theorem yf{α:Type}{P:Nat->α->Prop}:∀{n:Nat},(∀i,i<n->∃y,P i y)->∃l:List α,l.length=n/\∀i y,l[i]? =some y->P i y
 |0,_=>⟨[],rfl,fun i y h=>by cases h⟩
 |n+1,h=>by
  obtain⟨l,Y,I⟩:=yf (n:=n) fun i N=>h i be;obtain⟨y,hy⟩:=h n be;refine⟨l++[y],by simp[Y],fun i z hz=>?_⟩;rcases aW i n with N|N
  .rw[aN be]at hz;exact I i z hz
  .rw[aP be,Y]at hz;have:=eU hz;simp at this;obtain rfl:i=n:=by omega
   rw[bY]at hz;injection hz with hz;subst hz;exact hy
theorem kK.rows(hl:rv.length=Fn.length)(Pm:∀(i:Nat) v qs,rv[i]? =some v->Fn[i]? =some qs->gw w S v qs.length qs)
  (HZ:∀(i j:Nat) a b g,rv[i]? =some a->rv[j]? =some b->a.ownBlock=some g->b.ownBlock=some g->i=j) (off:∀g,Bv rv g->¬S' g):
  ∃ca,ca.length=Fn.length/\kK w S' (List.zipWith gK rv ca)/\∀(i:Nat) Z q,ca[i]? =some Z->Fn[i]? =some q->Fr w S Z q:=by
 obtain⟨ca,Y,I⟩:=yf (n:=Fn.length) (P:=fun i Z=>∀v qs,rv[i]? =some v->Fn[i]? =some qs->w.ownsRow 0 T.dO 4 v qs.length Z.flatten/\Z.length=qs.length/\Fr w S Z qs) fun i N=>by
  obtain⟨Z,Y,I,h3⟩:=Pm i rv[i] Fn[i] (aE _) (aE _)
  exact⟨Z,fun v qs e1 e2=>by
   rw[aE be]at e1 e2;injection e1 with e1;injection e2 with e2
   subst e1 e2;exact⟨Y,I,h3⟩⟩
 have hz:∀i it,(List.zipWith gK rv ca)[i]? =some it->∃v Z qs,rv[i]? =some v/\ca[i]? =some Z/\Fn[i]? =some qs/\it=gK v Z:=fun i it N=>by
  have QZ:=eU N;rw[List.length_zipWith]at QZ;rw[List.getElem?_zipWith,aE be,aE be]at N;injection N with N;exact⟨_,_,_,aE be,aE be,aE (show i<Fn.length by omega),N.symm⟩
 refine⟨ca,Y,⟨fun it N=>?_,fun i j a b g N hj ha A=>?_,fun g V=>off g (by rw[j4 be]at V;exact V)⟩,fun i Z q e1 e2=>?_⟩
 .obtain⟨i,N⟩:=az N;obtain⟨v,Z,qs,e1,e2,e3,rfl⟩:=hz i it N;obtain⟨k1,k2,k3⟩:=I i Z e2 v qs e1 e3;show w.ownsRow 0 T.dO 4 v Z.length Z.flatten;rw[k2];exact k1
 .obtain⟨v,Z,qs,e1,e2,e3,rfl⟩:=hz i a N;obtain⟨v2,Wx,qs2,e4,e5,e6,rfl⟩:=hz j b hj;exact HZ i j v v2 g e1 e4 ha A
 .exact(I i Z e1 _ q (aE (show i<rv.length by have:=eU e1;omega)) e2).2.2
theorem fQ.begin{SA Sb Sc St:Nat->Prop}{va vB vc tv:Value}{n B1 e1 B2 e2 B3 e3 B4 e4 g0:Nat}{b c:List Rat}{q0:Rat}{b1 b5:Bool}{b2 b6:Option Addr}{b3 b4 b7 b8:Nat}
  (hM:jD w SA va rv n Fn) (hA:iq n Fn) (Te:∀g,Mb va rv g->B1<=g/\g<e1) (hSA:∀g,SA g->B1<=g/\g<e1/\¬Mb va rv g)
  (A:gw w Sb vB b.length b) (QE:∀g,vB.ownBlock=some g->B2<=g/\g<e2) (hSb:∀g,Sb g->B2<=g/\g<e2/\vB.ownBlock≠some g)
  (hc:gw w Sc vc c.length c) (RK:∀g,vc.ownBlock=some g->B3<=g/\g<e3) (hSc:∀g,Sc g->B3<=g/\g<e3/\vc.ownBlock≠some g)
  (htv:tv= .agg #[.bool b1,.slice b2 b3 b4,.bool b5,.slice b6 b7 b8]) (ht:cz w St tv q0) (hSt:∀g,St g->B4<=g/\g<e4) (Y:e1<=B2) (I:e2<=B3) (h3:B1<=e1) (h4:B2<=e2) (h5:B3<=e3) (h6:e3<=B4) (h7:B4<=e4) (Tt:¬(B1<=g0/\g0<e1)) (RF:¬(B2<=g0/\g0<e2)) (hg3:¬(B3<=g0/\g0<e3)) (Uk:¬(B4<=g0/\g0<e4))
  (hbox:w.heap[g0]? =some (.cells #[nls,nls,va,vB,vc,.bool b1,.slice b2 b3 b4,.bool b5,.slice b6 b7 b8] T.table (0,0))):
  fQ w (fun g=>((B1<=g/\g<e1)\/(B2<=g/\g<e2)\/(B3<=g/\g<e3)\/(B4<=g/\g<e4))/\¬Bv (Tx.dB ⟨g0,nls,nls,va,vB,vc,rv⟩) g) ⟨g0,nls,nls,va,vB,vc,rv⟩ ⟨[],[],Fn,b,c,q0⟩:=by
 obtain⟨x,E⟩:∃x:Tx,x=⟨g0,nls,nls,va,vB,vc,rv⟩:=⟨_,rfl⟩
 have Ve:∀g,Bv rv g->B1<=g/\g<e1:=fun g ⟨v,h,e⟩=>Te g (.inr ⟨v,h,e⟩);have SH:∀g,Bv x.dB g->g=g0\/(B1<=g/\g<e1/\Mb va rv g)\/(vB.ownBlock=some g)\/(vc.ownBlock=some g):=fun g ⟨v,h,e⟩=>by
  subst E;rcases List.mem_cons.1 h with rfl|h
  .injection e with e;exact .inl e.symm
  rcases List.mem_cons.1 h with rfl|h
  .cases e
  rcases List.mem_cons.1 h with rfl|h
  .cases e
  rcases List.mem_cons.1 h with rfl|h
  .exact .inr (.inl ⟨(Te g (.inl e)).1,(Te g (.inl e)).2,.inl e⟩)
  rcases List.mem_cons.1 h with rfl|h
  .exact .inr (.inr (.inl e))
  rcases List.mem_cons.1 h with rfl|h
  .exact .inr (.inr (.inr e))
  .exact .inr (.inl ⟨(Te g (.inr ⟨v,h,e⟩)).1,(Te g (.inr ⟨v,h,e⟩)).2,.inr ⟨v,h,e⟩⟩)
 have hSA':∀g,SA g->((B1<=g/\g<e1)\/(B2<=g/\g<e2)\/(B3<=g/\g<e3)\/(B4<=g/\g<e4))/\¬Bv x.dB g:=fun g V=>by
  obtain⟨k1,k2,k3⟩:=hSA g V;refine⟨be,fun hv=>?_⟩;rcases SH g hv with k|k|k|k
  .omega
  .exact k3 k.2.2
  .have:=QE g k;omega
  .have:=RK g k;omega
 have hSb':∀g,Sb g->((B1<=g/\g<e1)\/(B2<=g/\g<e2)\/(B3<=g/\g<e3)\/(B4<=g/\g<e4))/\¬Bv x.dB g:=fun g V=>by
  obtain⟨k1,k2,k3⟩:=hSb g V;refine⟨be,fun hv=>?_⟩;rcases SH g hv with k|k|k|k
  .omega
  .omega
  .exact k3 k
  .have:=RK g k;omega
 have hSc':∀g,Sc g->((B1<=g/\g<e1)\/(B2<=g/\g<e2)\/(B3<=g/\g<e3)\/(B4<=g/\g<e4))/\¬Bv x.dB g:=fun g V=>by
  obtain⟨k1,k2,k3⟩:=hSc g V;refine⟨be,fun hv=>?_⟩;rcases SH g hv with k|k|k|k
  .omega
  .omega
  .have:=QE g k;omega
  .exact k3 k
 have hSt':∀g,St g->((B1<=g/\g<e1)\/(B2<=g/\g<e2)\/(B3<=g/\g<e3)\/(B4<=g/\g<e4))/\¬Bv x.dB g:=fun g V=>by
  have k:=hSt g V;refine⟨be,fun hv=>?_⟩;rcases SH g hv with k|k|k|k
  .omega
  .omega
  .have:=QE g k;omega
  .have:=RK g k;omega
 obtain⟨ca,k1,k2,k3⟩:=kK.rows (w:=w) (S:=SA) (S':=fun _=>False) hM.len (fun i v qs e1 e2=>by
  have:=hM.row i v qs e1 e2;rw[<-hA qs (aG e2)]at this
  exact this) hM.HZ fun _ _ h=>h
 obtain⟨cb,Sg,Q2,WU⟩:=A;obtain⟨cc,hc1,SX,Yk⟩:=hc;have hzv:(List.zipWith gK rv ca).map Ow.v=rv:=j4 (by rw[k1,hM.len]);rw[<-E];refine⟨rC b1 b2 b3 b4 b5 b6 b7 b8,cb,cc,ca,?_,⟨_,_,_,_,_,_,_,_,rfl,(htv▸ht).cV hSt'⟩,WU.cV hSb',Yk.cV hSc',k1,fun i Z q e1 e2=>(k3 i Z q e1 e2).cV hSA',by rw[E];exact hM.len⟩;have o1:=k2.add (S':=fun _=>False) (it:=gK vc cc) (by show w.ownsRow 0 T.dO 4 vc cc.length _;rw[SX];exact hc1) (fun g V hv=>by rw[hzv]at hv;have:=Ve g hv;have:=RK g V;omega) fun _ _ h=>h
 have o2:=o1.add (S':=fun _=>False) (it:=gK vB cb) (by show w.ownsRow 0 T.dO 4 vB cb.length _;rw[Q2];exact Sg) (fun g V hv=>by
  obtain⟨v,hv,e⟩:=hv;rcases List.mem_cons.1 hv with rfl|hv
  .have:=RK g e;have:=QE g V;omega
  .rw[hzv]at hv;have:=Ve g ⟨v,hv,e⟩;have:=QE g V;omega) fun _ _ h=>h
 have o3:=o2.add (S':=fun _=>False) (it:=⟨va,T.row,1,rv.length,rv⟩) hM.out (fun g V hv=>by
  obtain⟨v,hv,e⟩:=hv;have:=Te g (.inl V);rcases List.mem_cons.1 hv with rfl|hv
  .have:=QE g e;omega
  rcases List.mem_cons.1 hv with rfl|hv
  .have:=RK g e;omega
  .rw[hzv]at hv;exact hM.Gk v hv g e V) fun _ _ h=>h
 have o4:=o3.add (S':=fun _=>False) (it:=⟨nls,T.int,1,0,[]⟩) (World.ownsRow_nil _ _ _ _) (fun g V=>by cases V) fun _ _ h=>h;have o5:=o4.add (S':=fun _=>False) (it:=⟨nls,T.int,1,0,[]⟩) (World.ownsRow_nil _ _ _ _) (fun g V=>by cases V) fun _ _ h=>h;have o6:=o5.add (S':=fun g=>((B1<=g/\g<e1)\/(B2<=g/\g<e2)\/(B3<=g/\g<e3)\/(B4<=g/\g<e4))/\¬Bv x.dB g) (it:=⟨.slice (some ⟨g0,0,none⟩) 9 9,T.table,1,9,[nls,nls,va,vB,vc,.bool b1,.slice b2 b3 b4,.bool b5,.slice b6 b7 b8]⟩)
  ⟨rfl,.inr ⟨g0,9,_,rfl,ae _,hbox,lr,mx,rfl,rfl⟩⟩ (fun g V hv=>by
   injection V with V;have V:g0=g:=V;subst V;obtain⟨v,hv,e⟩:=hv;rcases List.mem_cons.1 hv with rfl|hv
   .cases e
   rcases List.mem_cons.1 hv with rfl|hv
   .cases e
   rcases List.mem_cons.1 hv with rfl|hv
   .have:=Te _ (.inl e);omega
   rcases List.mem_cons.1 hv with rfl|hv
   .have:=QE _ e;omega
   rcases List.mem_cons.1 hv with rfl|hv
   .have:=RK _ e;omega
   .rw[hzv]at hv;have:=Ve _ ⟨v,hv,e⟩;omega) fun g V hs=>hs.2 (by
    subst E;obtain⟨v,hv,e⟩:=V;refine⟨v,?_,e⟩;have e2:(Ow.v <$> (List.zipWith gK rv ca))=rv:=hzv;show v∈_::_::_::_::_::_::rv;rw[<-hzv]
    exact hv)
 subst E;exact o6
end Go.Ex
