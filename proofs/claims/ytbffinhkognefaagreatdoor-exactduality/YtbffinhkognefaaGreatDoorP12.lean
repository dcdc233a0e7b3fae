/- Texts L65 to X244: lemmas, each with its conditions. -/
import Derived.Test.YtbffinhkognefaaGreatDoorP11
namespace Go.Ex
variable{F9:Mx}{B j:Nat}
structure Un(EQ:Mx)(p:Nat->Nat)(r n:Nat):Prop where
 lt:∀i,i<r->p i<n
 unit:∀i j,i<r->j<r->EQ j (p i)=if j=i then 1 else 0
section
variable{EQ F9:Mx}{p:Nat->Nat}{r n:Nat}{v:Nat->Rat}
theorem Un.coeff(h:Un EQ p r n)(hv:jk EQ r n v):∀t,t<n->v t=cW (fun i=>v (p i)*EQ i t) r:=by
 obtain⟨c,hc⟩:=hv;intro t ht;rw[hc t ht];refine cQ fun i R=>?_;rw[hc (p i) (h.lt i R),eM R fun k Z OL=>by rw[h.unit i k R Z,aK OL,bI],h.unit i i R R,aM rfl,Rat.mul_one]
theorem FM(h:Un EQ p r n)(hZ:∀i,i<r->jk EQ r n (F9 i)){k t:Nat}(Z:k<r)(ht:t<n):
  rY F9 p r*EQ k t=rY F9 (fun i=>if i=k then t else p i) r:=by
 have e0:rY F9 (fun i=>if i=k then t else p i) r=fP r (Ex.gn (fun j i=>F9 (r-1-i) (p (r-1-j))) (r-1-k) fun i=>F9 (r-1-i) t):=jY fun i j R hj=>by
  unfold Ex.gn;dsimp only
  by_cases g:i=r-1-k
  .rw[aM g,aM be]
  .rw[aK g,aK be]
 have e:∀i j,i<r->j<r->Ex.gn (fun j i=>F9 (r-1-i) (p (r-1-j))) (r-1-k) (fun i=>F9 (r-1-i) t) i j=Ex.gn (fun j i=>F9 (r-1-i) (p (r-1-j))) (r-1-k) (fun i=>cW (fun j=>EQ j t*F9 (r-1-i) (p j)) r) i j:=fun i j R hj=>by
  unfold Ex.gn;split
  .show F9 (r-1-j) t=cW (fun l=>EQ l t*F9 (r-1-j) (p l)) r;rw[h.coeff (hZ (r-1-j) be) t ht];exact cQ fun l _=>Rat.mul_comm _ _
  .rfl
 rw[e0,jY e,CP (v:=fun k i=>F9 (r-1-i) (p k)) be,eM Z fun j hj OL=>?_]
 .rw[show Ex.gn (fun j i=>F9 (r-1-i) (p (r-1-j))) (r-1-k) (fun i=>F9 (r-1-i) (p k))=fun j i=>F9 (r-1-i) (p (r-1-j))from ?_]
  .rw[rY,Rat.mul_comm]
  .funext i j
   unfold Ex.gn;split
   .rename_i R;rw[R,show r-1-(r-1-k)=k by omega]
   .rfl
 .rw[Ho (a:=r-1-k) (b:=r-1-j) be be be fun i R=>?_,bI];unfold Ex.gn;rw[aM rfl,aK be];show F9 (r-1-i) (p j)=F9 (r-1-i) (p (r-1-(r-1-j)));rw[show r-1-(r-1-j)=j by omega]
theorem zn{m:Mx}:∀n,(∀i j,i<n->j<n->i≠j->m i j=0)->(∀i,i<n->m i i≠0)->fP n m≠0
 |0,_,_=>by show(1:Rat)≠0;decide
 |n+1,h,h0=>by
  rw[fP,eM (i:=0) be fun k Z OL=>by rw[h 0 k be Z (Ne.symm OL),bu,bI]];have hs:∀j,skip 0 j=j+1:=fun j=>by unfold skip;rw[aK be]
  refine rK bv (rK (h0 0 be) ?_);rw[jY (m':=fun i j=>m (i+1) (j+1)) fun i j _ _=>by rw[hs]];exact zn n (fun i j R hj e=>h _ _ be be be) fun i R=>h0 _ be
theorem Ga(hz:∀i j,i<r->j<r->i≠j->F9 i (p j)=0)(h0:∀i,i<r->F9 i (p i)≠0):rY F9 p r≠0:=
 zn r (fun i j R hj e=>hz _ _ be be be) fun i R=>h0 _ be
end
def gg(v w:Nat):Rat:=if w=v then 1 else 0
def Dc.ext(D:Dc)(i v:Nat):Rat:=
 if i<D.m then(if v<D.m+D.q then gg v (D.eS i)+D.row (gg v) i else if v=D.m+D.q then D.b i else 0)
 else(if v<D.m+D.q then -(cW (fun j=>D.c j*gg v (D.eG j)) D.q)else if v=D.m+D.q then D.top else 1)
def Dc.pv(D:Dc)(i:Nat):Nat:=if i<D.m then D.eS i else D.m+D.q+1
section
variable{D:Dc}{r s:Nat}
theorem Dc.FN(h:D.Ok)(hj:j<D.q)(g:Nat->Rat):cW (fun k=>g k*gg (D.eG j) (D.eG k)) D.q=g j:=by
 unfold gg;rw[eM hj fun k Z e=>by rw[aK fun g=>e (h.fi k j Z hj g),bI],aM rfl,Rat.mul_one]
theorem Dc.FO(h:D.Ok){i:Nat}(R:i<D.m)(g:Nat->Rat):cW (fun k=>g k*gg (D.eS i) (D.eG k)) D.q=0:=by
 unfold gg;rw[cQ (g:=fun _=>0) fun k Z=>by rw[aK fun e=>h.bf i k R Z e.symm,bI],db]
theorem Dc.Hx(h:D.Ok){i:Nat}(R:i<D.m)(hj:j<D.q):D.ext i (D.eG j)=D.a i j:=by
 unfold Dc.ext Dc.row;rw[aM R,aM (h.fl j hj),D.FN h hj];unfold gg;rw[aK (h.bf i j R hj),Rat.zero_add]
theorem Dc.K7{i:Nat}(R:i<D.m):D.ext i (D.m+D.q)=D.b i:=by
 unfold Dc.ext;rw[aM R,aK (Nat.lt_irrefl _),aM rfl]
theorem Dc.MN(h:D.Ok)(hj:j<D.q):D.ext D.m (D.eG j)= -(D.c j):=by
 unfold Dc.ext;rw[aK (Nat.lt_irrefl _),aM (h.fl j hj),D.FN h hj]
theorem Dc.K8:D.ext D.m (D.m+D.q)=D.top:=by
 unfold Dc.ext;rw[aK (Nat.lt_irrefl _),aK (Nat.lt_irrefl _),aM rfl]
theorem Dc.un(h:D.Ok):Un D.ext D.pv (D.m+1) (D.m+D.q+2):=by
 refine⟨fun i R=>?_,fun i k R Z=>?_⟩
 .unfold Dc.pv;split
  .rename_i g;have:=h.bl i g;omega
  .omega
 .unfold Dc.pv Dc.ext;by_cases QL:i<D.m
  .have N:=h.bl i QL;rw[aM QL];by_cases Sd:k<D.m
   .rw[aM Sd,aM N];unfold Dc.row;rw[D.FO h QL,cK];unfold gg;by_cases e:k=i
    .rw[aM e,aM (by rw[e])]
    .rw[aK e,aK fun g=>e (h.bi k i Sd QL g)]
   .rw[aK Sd,aM N,D.FO h QL,aK (show ¬k=i by omega)];decide +kernel
  .have f1:¬D.m+D.q+1<D.m+D.q:=by omega
   have f2:¬D.m+D.q+1=D.m+D.q:=by omega
   rw[aK QL];by_cases Sd:k<D.m
   .rw[aM Sd,aK f1,aK f2,aK (show ¬k=i by omega)]
   .rw[aK Sd,aK f1,aK f2,aM (show k=i by omega)]
theorem Dc.FP(hr:r<D.m)(hs:s<D.q)(hp:D.a r s≠0){i:Nat}(R:i<=D.m)(v:Nat):
  D.ext i v=(if i=r then 0 else(D.fx r s).ext i v)+(if i<D.m then D.a i s else -(D.c s))*(D.fx r s).ext r v:=by
 have hinv:D.a r s*(D.a r s)⁻¹=1:=Rat.mul_inv_cancel _ hp;have Ux:(D.fx r s).eS r=D.eG s:=aM rfl;have Sh:(D.fx r s).ext r v=if v<D.m+D.q then(D.row (gg v) r+gg v (D.eS r)) / D.a r s else if v=D.m+D.q then D.b r / D.a r s else 0:=by
  unfold Dc.ext;rw[aM (show r<(D.fx r s).m from hr),Ux,D.zk hs];show(if v<D.m+D.q then _ else if v=D.m+D.q then(if r=r then _ else _)else _)=_;rw[aM rfl];split
  .rw[bK,bK];have:gg v (D.eG s)=gg v (D.eG s)*(D.a r s*(D.a r s)⁻¹):=by rw[hinv,Rat.mul_one]
   grind
  .rfl
 rw[Sh];rcases az i D.m with W|W
 .rw[aM W];by_cases e:i=r
  .subst e;rw[aM rfl,Rat.zero_add];unfold Dc.ext;rw[aM W];split
   .rw[bK];grind
   .split
    .rw[bK];grind
    .grind
  .rw[aK e];unfold Dc.ext;rw[aM W,aM (show i<(D.fx r s).m from W),D.zl hs e hp,show(D.fx r s).eS i=D.eS i from aK e,show(D.fx r s).b i=D.b i-D.a i s*(D.b r / D.a r s)from aK e];show _=(if v<D.m+D.q then _ else if v=D.m+D.q then _ else _)+_;split
   .rw[bK,bK];grind
   .split<;>grind
 .have OL:i≠r:=by omega
  rw[aK OL,aK be];unfold Dc.ext;rw[aK be,aK (show ¬i<(D.fx r s).m from by show ¬i<D.m;omega)];show _=(if v<D.m+D.q then -(cW (fun j=>(D.fx r s).c j*gg v ((D.fx r s).eG j)) D.q)else if v=D.m+D.q then D.top+D.c s*(D.b r / D.a r s)else _)+_;rw[D.FH hs hp];split
  .rw[bK,bK];grind
  .split<;>grind
structure Dc.Sz(D:Dc)(B:Nat)(F9:Mx):Prop where
 sp:∀i,i<D.m+1->jk D.ext (D.m+1) (D.m+D.q+2) (F9 i)
 ib:∀i t,i<D.m+1->t<D.m+D.q+2->Ib B (F9 i t)
 nz:rY F9 D.pv (D.m+1)≠0
theorem Dc.Sz.fx(h:D.Sz B F9)(Z:D.Ok)(hr:r<D.m)(hs:s<D.q)(hp:D.a r s≠0):(D.fx r s).Sz B F9:=by
 refine⟨fun i R=>(h.sp i R).trans fun i R=>?_,h.ib,?_⟩
 .have QL:i<=D.m:=by omega
  by_cases e:i=r
  .refine((jk.row (EQ:=(D.fx r s).ext) (n:=D.m+D.q+2) (show r<D.m+1 by omega)).mul (D.a r s)).congr fun t _=>?_;rw[D.FP hr hs hp QL,aM e,aM be,e];grind
  .refine((jk.row (EQ:=(D.fx r s).ext) (n:=D.m+D.q+2) R).add (jk.row (show r<D.m+1 by omega)) (if i<D.m then D.a i s else -(D.c s))).congr fun t _=>?_;rw[D.FP hr hs hp QL,aK e]
 .have W:=FM (D.un Z) h.sp (k:=r) (t:=D.eG s) be (by have:=Z.fl s hs;omega);rw[D.Hx Z hr hs]at W;have e:(D.fx r s).pv=fun i=>if i=r then D.eG s else D.pv i:=by
   funext i
   show(if i<D.m then(if i=r then D.eG s else D.eS i)else D.m+D.q+1)=if i=r then D.eG s else if i<D.m then D.eS i else D.m+D.q+1
   by_cases g:i=r
   .rw[aM g,aM be,aM g]
   .rw[aK g,aK g]
  show rY F9 (D.fx r s).pv (D.m+1)≠0;rw[e,<-W];exact rK h.nz hp
theorem Dc.Sz.rl(h:D.Sz B F9)(Z:D.Ok){i t:Nat}(R:i<D.m+1)(ht:t<D.m+D.q+2):rl (D.ext i t)<=ln (fB B (D.m+1)):=by
 have hu:=D.un Z;have hd:∀p:Nat->Nat,(∀i,i<D.m+1->p i<D.m+D.q+2)->Ib (fB B (D.m+1)) (rY F9 p (D.m+1)):=fun p hp=>Ib.Nk (D.m+1) fun a b ha N=>h.ib _ _ be (hp _ be);refine Jd h.nz (hd _ hu.lt) ?_;rw[FM hu h.sp R ht];refine hd _ fun k Z=>?_;split
 .exact ht
 .exact hu.lt k Z
theorem Dc.Sz.all{Fn:Nat}(h:D.Sz B F9)(Z:D.Ok)(hK:ln (fB B (D.m+1))<=Fn):(∀i j,i<D.m->j<D.q->Ex.rl (D.a i j)<=Fn)/\(∀i,i<D.m->Ex.rl (D.b i)<=Fn)/\(∀j,j<D.q->Ex.rl (D.c j)<=Fn)/\Ex.rl D.top<=Fn:=by
 refine⟨fun i j R hj=>?_,fun i R=>?_,fun j hj=>?_,?_⟩
 .rw[<-D.Hx Z R hj];exact aP (h.rl Z be (by have:=Z.fl j hj;omega)) hK
 .rw[<-D.K7 R];exact aP (h.rl Z be be) hK
 .have W:=h.rl Z (i:=D.m) (t:=D.eG j) be (by have:=Z.fl j hj;omega);rw[D.MN Z hj]at W;rw[<-Rat.neg_neg (D.c j),jM];exact aP W hK
 .rw[<-D.K8];exact aP (h.rl Z be be) hK
theorem Dc.Sz.start(Z:D.Ok)(d:Nat->Rat)(hd:∀i,i<D.m+1->d i≠0)(hz:∀i t,i<D.m+1->t<D.m+D.q+2->Ib B (d i*D.ext i t)):D.Sz B fun i t=>d i*D.ext i t:=by
 have hu:=D.un Z;refine⟨fun i R=>((jk.row (n:=D.m+D.q+2) R).mul (d i)).congr fun t _=>Rat.mul_comm _ _,hz,Ga (fun i j R hj e=>?_) fun i R=>?_⟩
 .rw[hu.unit j i hj R,aK e,bI]
 .rw[hu.unit i i R R,aM rfl,Rat.mul_one];exact hd i R
end
structure Tb where
 bs:List Nat
 fs:List Nat
 a:List (List Rat)
 b:List Rat
 c:List Rat
 top:Rat
structure Rp(t:Tb)(D:Dc):Prop where
 Gb:t.bs.length=D.m
 Jj:t.fs.length=D.q
 al:t.a.length=D.m
 aw:pf D.q t.a
 bl:t.b.length=D.m
 cl:t.c.length=D.q
 eS:∀i,i<D.m->t.bs.getD i 0=D.eS i
 eG:∀j,j<D.q->t.fs.getD j 0=D.eG j
 ea:∀i j,i<D.m->j<D.q->dZ t.a i j=D.a i j
 eb:∀i,i<D.m->t.b.getD i 0=D.b i
 ec:∀j,j<D.q->t.c.getD j 0=D.c j
 et:t.top=D.top
def pF(x:List Rat)(k:Rat)(y:List Rat):List Rat:=x.mapIdx fun i q=>q+k*y.getD i 0
def Tb.ke(t:Tb)(r s:Nat):List Rat:=((t.a.getD r []).set s 1).map fun q=>q*(1 / dZ t.a r s)
def Tb.bP(t:Tb)(r s:Nat):Rat:=t.b.getD r 0*(1 / dZ t.a r s)
def Tb.fx(t:Tb)(r s:Nat):Tb where
 bs:=t.bs.set r (t.fs.getD s 0)
 fs:=t.fs.set s (t.bs.getD r 0)
 a:=t.a.mapIdx fun i x=>if i=r then t.ke r s else pF (x.set s 0) (-(x.getD s 0)) (t.ke r s)
 b:=t.b.mapIdx fun i x=>if i=r then t.bP r s else x+ -(dZ t.a i s)*t.bP r s
 c:=pF (t.c.set s 0) (-(t.c.getD s 0)) (t.ke r s)
 top:=t.top+t.c.getD s 0*t.bP r s
theorem gI{α β:Type}{f:Nat->α->β}{l:List α}{i:Nat}(d:α)(e:β)(h:i<l.length):(l.mapIdx f).getD i e=f i (l.getD i d):=by
 rw[List.getD,List.getElem?_mapIdx,List.getD,aE h];rfl
theorem getD_map{α β:Type}{f:α->β}{l:List α}{i:Nat}(d:α)(e:β)(h:i<l.length):(l.map f).getD i e=f (l.getD i d):=by
 rw[List.getD,aS,List.getD,aE h];rfl
theorem jx{α:Type}{l:List α}{i:Nat}{x d:α}(h:i<l.length):(l.set i x).getD j d=if j=i then x else l.getD j d:=by
 by_cases e:j=i
 .subst e;rw[aM rfl,CS h]
 .rw[aK e,getD_set_ne (Ne.symm e)]
theorem mR(x:List Rat)(k:Rat)(y:List Rat):(pF x k y).length=x.length:=List.length_mapIdx
theorem Az{x y:List Rat}{k:Rat}(h:j<x.length):(pF x k y).getD j 0=x.getD j 0+k*y.getD j 0:=gI 0 0 h
section
variable{t:Tb}{D:Dc}{r s:Nat}
theorem Rp.Hy(h:Rp t D){i:Nat}(R:i<D.m):(t.a.getD i []).length=D.q:=h.aw.getD (by rw[h.al];exact R)
theorem Rp.CZ(h:Rp t D)(hr:r<D.m):(t.ke r s).length=D.q:=by
 unfold Tb.ke;rw[aJ,bM];exact h.Hy hr
theorem Rp.Jk(h:Rp t D)(hr:r<D.m)(hs:s<D.q)(hj:j<D.q):(t.ke r s).getD j 0=(D.fx r s).a r j:=by
 have hl:=h.Hy hr;unfold Tb.ke;rw[getD_map 0 0 (by rw[bM,hl];exact hj),jx (by rw[hl];exact hs),h.ea r s hr hs];show _=if r=r then(if j=s then 1 / D.a r s else D.a r j / D.a r s)else _
 rw[aM rfl];by_cases e:j=s
 .rw[aM e,aM e,Rat.one_mul]
 .rw[aK e,aK e,show(t.a.getD r []).getD j 0=D.a r j from h.ea r j hr hj,bK,bK,Rat.one_mul]
theorem Rp.K9(h:Rp t D)(hr:r<D.m)(hs:s<D.q):t.bP r s=D.b r / D.a r s:=by
 unfold Tb.bP;rw[h.eb r hr,h.ea r s hr hs,bK,bK,Rat.one_mul]
theorem Rp.fx(h:Rp t D)(hr:r<D.m)(hs:s<D.q):Rp (t.fx r s) (D.fx r s):=by
 have OI:=fun{j:Nat} (hj:j<D.q)=>h.Jk hr hs hj;have hprr:∀j,(D.fx r s).a r j=if j=s then 1 / D.a r s else D.a r j / D.a r s:=fun j=>aM rfl
 refine⟨by show(t.bs.set _ _).length=_;rw[bM];exact h.Gb,by show(t.fs.set _ _).length=_;rw[bM];exact h.Jj,by show(t.a.mapIdx _).length=_;rw[List.length_mapIdx];exact h.al,fun x E=>?_,by show(t.b.mapIdx _).length=_;rw[List.length_mapIdx];exact h.bl,by show(pF _ _ _).length=_;rw[mR,bM];exact h.cl,fun i R=>?_,fun j hj=>?_,fun i j R hj=>?_,fun i R=>?_,fun j hj=>?_,?_⟩
 .obtain⟨i,R⟩:=aY E;have QR:(t.a.mapIdx fun i x=>if i=r then t.ke r s else pF (x.set s 0) (-(x.getD s 0)) (t.ke r s))[i]? =some x:=R;rw[List.getElem?_mapIdx]at QR
  cases hy:t.a[i]? with
  |none=>rw[hy]at QR;cases QR
  |some y=>
   rw[hy]at QR;injection QR with QR;rw[<-QR];split
   .exact h.CZ hr
   .rw[mR,bM];exact h.aw y (aG hy)
 .show(t.bs.set r (t.fs.getD s 0)).getD i 0=if i=r then D.eG s else D.eS i
  have R:i<D.m:=R;rw[jx (by rw[h.Gb];exact hr),h.eG s hs];split
  .rfl
  .exact h.eS i R
 .show(t.fs.set s (t.bs.getD r 0)).getD j 0=if j=s then D.eS r else D.eG j
  have hj:j<D.q:=hj;rw[jx (by rw[h.Jj];exact hs),h.eS r hr];split
  .rfl
  .exact h.eG j hj
 .have R:i<D.m:=R;have hj:j<D.q:=hj;show((t.a.mapIdx fun i x=>if i=r then t.ke r s else pF (x.set s 0) (-(x.getD s 0)) (t.ke r s)).getD i []).getD j 0=_;rw[gI [] [] (by rw[h.al];exact R)];by_cases e:i=r
  .subst e;rw[aM rfl];exact OI hj
  .have hl:=h.Hy R;rw[aK e,Az (by rw[bM,hl];exact hj),jx (by rw[hl];exact hs),OI hj,hprr,show(t.a.getD i []).getD j 0=D.a i j from h.ea i j R hj,show(t.a.getD i []).getD s 0=D.a i s from h.ea i s R hs];show _=if i=r then _ else if j=s then -(D.a i s / D.a r s)else D.a i j-D.a i s*(D.a r j / D.a r s)
   rw[aK e];by_cases g:j=s
   .rw[aM g,aM g,aM g,bK,bK];grind
   .rw[aK g,aK g,aK g];grind
 .have R:i<D.m:=R;show(t.b.mapIdx fun i x=>if i=r then t.bP r s else x+ -(dZ t.a i s)*t.bP r s).getD i 0=if i=r then D.b r / D.a r s else D.b i-D.a i s*(D.b r / D.a r s)
  rw[gI 0 0 (by rw[h.bl];exact R),h.K9 hr hs,h.eb i R,h.ea i s R hs];split
  .rfl
  .grind
 .have hj:j<D.q:=hj;show(pF (t.c.set s 0) (-(t.c.getD s 0)) (t.ke r s)).getD j 0=if j=s then -(D.c s / D.a r s)else D.c j-D.c s*(D.a r j / D.a r s)
  rw[Az (by rw[bM,h.cl];exact hj),jx (by rw[h.cl];exact hs),OI hj,hprr,h.ec s hs,h.ec j hj];by_cases g:j=s
  .rw[aM g,aM g,aM g,bK,bK];grind
  .rw[aK g,aK g,aK g];grind
 .show t.top+t.c.getD s 0*t.bP r s=D.top+D.c s*(D.b r / D.a r s)
  rw[h.et,h.ec s hs,h.K9 hr hs]
theorem x4{c c':Nat->Rat}{f f':Nat->Nat}:∀{n:Nat},(∀j,j<n->c j=c' j)->(∀j,j<n->f j=f' j)->lg c f n=lg c' f' n
 |0,_,_=>rfl
 |n+1,hc,hf=>by
  rw[lg,lg,x4 (fun j hj=>hc j be) fun j hj=>hf j be,hc n be]
  cases e:lg c' f' n with
  |none=>rfl
  |some k=>
   have Z:=(jw e).1;dsimp only
   rw[hf n be,hf k be]
theorem x5{a a' b b':Nat->Rat}{f f':Nat->Nat}:∀{n:Nat},(∀j,j<n->a j=a' j)->(∀j,j<n->b j=b' j)->(∀j,j<n->f j=f' j)->jd a b f n=jd a' b' f' n
 |0,_,_,_=>rfl
 |n+1,ha,N,hf=>by
  rw[jd,jd,x5 (fun j hj=>ha j be) (fun j hj=>N j be) fun j hj=>hf j be,ha n be,N n be]
  cases e:jd a' b' f' n with
  |none=>rfl
  |some k=>
   have Z:=(nL e).1;dsimp only
   rw[hf n be,hf k be,ha k be,N k be]
def Tb.DY(t:Tb):Option Nat:=lg (fun j=>t.c.getD j 0) (fun j=>t.fs.getD j 0) t.c.length
def Tb.Dv(t:Tb)(s:Nat):Option Nat:=jd (fun i=>dZ t.a i s) (fun i=>t.b.getD i 0) (fun i=>t.bs.getD i 0) t.a.length
theorem Rp.DY(h:Rp t D):t.DY=lg D.c D.eG D.q:=by
 unfold Tb.DY;rw[h.cl];exact x4 h.ec h.eG
theorem Rp.Dv(h:Rp t D)(hs:s<D.q):t.Dv s=jd (fun i=>D.a i s) D.b D.eS D.m:=by
 unfold Tb.Dv;rw[h.al];exact x5 (fun i R=>h.ea i s R hs) h.eb h.eS
end
def eZ(l:List Rat)(n off:Nat)(idx:Nat->Nat)(val:Nat->Rat):Nat->List Rat
 |0=>l
 |i+1=>if off<=idx i/\idx i<off+n then(eZ l n off idx val i).set (idx i-off) (val i)else eZ l n off idx val i
theorem iA(l:List Rat)(n off:Nat)(idx:Nat->Nat)(val:Nat->Rat):∀k,(eZ l n off idx val k).length=l.length
 |0=>rfl
 |i+1=>by
  rw[eZ];split
  .rw[bM];exact iA l n off idx val i
  .exact iA l n off idx val i
theorem tB{l:List Rat}{n off v:Nat}{idx:Nat->Nat}{val:Nat->Rat}(hl:l.length=n)(hv:v<n):∀k,(∀i j,i<k->j<k->idx i=idx j->i=j)->(∀i,i<k->idx i=off+v->l.getD v 0=0)->
  (eZ l n off idx val k).getD v 0=l.getD v 0+cW (fun i=>if idx i=off+v then val i else 0) k
 |0,_,_=>(cK _).symm
 |i+1,hj,h0=>by
  have ih:=tB (val:=val) hl hv i (fun a b ha N e=>hj a b be be e) fun a ha e=>h0 a be e;rw[eZ,cW];by_cases e:idx i=off+v
  .rw[aM ⟨be,be⟩,jx (by rw[iA,hl];omega),aM (show v=idx i-off by omega),aM e,h0 i be e,cQ (g:=fun _=>0) fun k Z=>aK fun g=>by have:=hj k i be be (g.trans e.symm);omega,db];grind
  .rw[aK e,cK];split
   .rename_i g;rw[getD_set_ne be];exact ih
   .exact ih
def Tb.je(t:Tb)(n:Nat):List Rat:=eZ (eF n) n 0 (fun i=>t.bs.getD i 0) (fun i=>t.b.getD i 0) t.bs.length
def Tb.iX(t:Tb)(n m:Nat):List Rat:=eZ (eF m) m n (fun j=>t.fs.getD j 0) (fun j=> -(t.c.getD j 0)) t.fs.length
def Tb.nN(t:Tb)(n s:Nat):List Rat:=eZ (if t.fs.getD s 0<n then(eF n).set (t.fs.getD s 0) 1 else eF n) n 0 (fun i=>t.bs.getD i 0) (fun i=> -(dZ t.a i s)) t.bs.length
theorem j4(n v:Nat):(eF n).getD v 0=0:=by
 unfold eF;rw[List.getD,List.getElem?_replicate];split<;>rfl
section
variable{t:Tb}{D:Dc}{s n m v:Nat}
theorem Rp.inj(h:Rp t D)(Z:D.Ok):∀i j,i<t.bs.length->j<t.bs.length->t.bs.getD i 0=t.bs.getD j 0->i=j:=fun i j R hj e=>by
 rw[h.Gb]at R hj;rw[h.eS i R,h.eS j hj]at e;exact Z.bi i j R hj e
theorem Rp.Hz(h:Rp t D)(Z:D.Ok)(hv:v<n):(t.je n).getD v 0=D.val v:=by
 unfold Tb.je;rw[tB (by simp[eF]) hv _ (h.inj Z) fun i _ _=>j4 _ _,j4,Rat.zero_add,h.Gb,aR];exact cQ fun i R=>by rw[h.eS i R,h.eb i R]
theorem Rp.zo(h:Rp t D)(Z:D.Ok)(hv:v<m):(t.iX n m).getD v 0= -(D.ko (n+v)):=by
 unfold Tb.iX Dc.ko;rw[tB (by simp[eF]) hv _ (fun i j R hj e=>?_) fun i _ _=>j4 _ _,j4,Rat.zero_add,h.Jj,<-eo]
 .refine cQ fun j hj=>?_;rw[h.eG j hj,h.ec j hj];split
  .rfl
  .decide +kernel
 .rw[h.Jj]at R hj;rw[h.eG i R,h.eG j hj]at e;exact Z.fi i j R hj e
theorem Rp.IA(h:Rp t D)(Z:D.Ok)(hs:s<D.q)(hv:v<n):(t.nN n s).getD v 0=D.dir s v:=by
 have hl:(if t.fs.getD s 0<n then(eF n).set (t.fs.getD s 0) 1 else eF n).length=n:=by split<;>simp[eF]
 have RE:(if t.fs.getD s 0<n then(eF n).set (t.fs.getD s 0) 1 else eF n).getD v 0=if v=D.eG s then 1 else 0:=by
  rw[h.eG s hs];split
  .rename_i g;rw[jx (by simp[eF];exact g),j4]
  .rename_i g;rw[j4,aK be]
 unfold Tb.nN Dc.dir;rw[tB hl hv _ (h.inj Z) fun i R e=>?_,RE,h.Gb,aR,Rat.sub_eq_add_neg,<-eo]
 .congr 1;refine cQ fun i R=>?_;rw[h.eS i R,h.ea i s R hs];split
  .rfl
  .decide +kernel
 .rw[h.Gb]at R;rw[RE,aK fun g=>Z.bf i s R hs (by rw[<-h.eS i R,e,<-g,aR])]
end
end Go.Ex
namespace Go.Ex
open Go Go.Sx Go.Proofs
variable{g:Nat}
structure Ow where
 v:Value
 e:TypeId
 sz:Nat
 n:Nat
 xs:List Value
def Ow.LQ(it:Ow)(xs:List Value):Ow:=⟨it.v,it.e,it.sz,it.n,xs⟩
def Bv(vs:List Value)(g:Nat):Prop:=∃v∈vs,v.ownBlock=some g
structure j0(w:World)(S:Nat->Prop)(E9:List Ow):Prop where
 own:∀it∈E9,w.ownsRow 0 it.e it.sz it.v it.n it.xs
 apart:∀(i j:Nat) a b g,E9[i]? =some a->E9[j]? =some b->a.v.ownBlock=some g->b.v.ownBlock=some g->i=j
 off:∀g,Bv (E9.map Ow.v) g->¬S g
theorem dx{α:Type}{l:List α}{k:Nat}{x:α}(h:l[k]? =some x):k<l.length:=(aH.1 h).1
section
variable{w F:World}{S S':Nat->Prop}{E9:List Ow}{it:Ow}{k:Nat}{xs:List Value}
theorem j0.bk(h:it∈E9)(V:it.v.ownBlock=some g):Bv (E9.map Ow.v) g:=⟨_,List.mem_map_of_mem h,V⟩
theorem j0.low(h:j0 w S E9)(V:Bv (E9.map Ow.v) g):g<w.heap.size:=by
 obtain⟨v,hv,V⟩:=V;obtain⟨it,R,rfl⟩:=bD.1 hv;exact(ownsRow.low (h.own it R) g V).2
theorem j0.cP(h:j0 w S E9)(Z:∀g,Bv (E9.map Ow.v) g->F.heap[g]? =w.heap[g]?):j0 F S E9:=
 ⟨fun it R=>ownsRow.cP (h.own it R) fun g V=>Z g (j0.bk R V),h.apart,h.off⟩
theorem j0.DZ(h:j0 w S E9)(Z:∀g,Bv (E9.map Ow.v) g->¬S' g):j0 w S' E9:=⟨h.own,h.apart,Z⟩
theorem KA(Z:E9[k]? =some it):(E9.set k (it.LQ xs)).map Ow.v=E9.map Ow.v:=by
 rw[List.map_set];apply aj;intro i;by_cases e:k=i
 .subst e;rw[aO (by rw[aJ];exact dx Z),aS,Z];rfl
 .rw[aV e]
theorem Fh(Z:E9[k]? =some it){i:Nat}{a:Ow}(R:(E9.set k (it.LQ xs))[i]? =some a):∃a',E9[i]? =some a'/\a'.v=a.v:=by
 by_cases e:k=i
 .subst e;rw[aO (dx Z)]at R;injection R with R;subst R;exact⟨it,Z,rfl⟩
 .rw[aV e]at R;exact⟨a,R,rfl⟩
theorem j0.put(h:j0 w S E9)(Z:E9[k]? =some it)(V:w.grownBy F it.v.ownBlock)(ho:F.ownsRow 0 it.e it.sz it.v it.n xs):j0 F S (E9.set k (it.LQ xs)):=by
 refine⟨fun it2 QR=>?_,fun i j a b g R hj ha N=>?_,fun g V=>h.off g (by rw[KA Z]at V;exact V)⟩
 .obtain⟨i,R⟩:=aY QR;by_cases e:k=i
  .subst e;rw[aO (dx Z)]at R;injection R with R;subst R;exact ho
  .rw[aV e]at R;have QD:=h.own it2 (aG R);exact ownsRow.cP QD fun g Pa=>V.block g (ownsRow.low QD g Pa).2 fun e2=>e (h.apart k i _ _ g Z R e2.symm Pa)
 .obtain⟨a',W,I⟩:=Fh Z R;obtain⟨b',h3,h4⟩:=Fh Z hj;exact h.apart i j a' b' g W h3 (by rw[I];exact ha) (by rw[h4];exact N)
end
theorem Ic{w:World}{Bc e sz n off:Nat}{v:Value}{xs nv:List Value}(h:w.ownsRow Bc e sz v n xs)(hj:off+nv.length<=n*sz)(h0:0<nv.length):
  ∃g c,v= .slice (some ⟨g,0,none⟩) n c/\(∀k,k<nv.length->(w.cell? (Addr.add ⟨g,off,none⟩ k)).isSome=true/\w.frozen? (Addr.add ⟨g,off,none⟩ k)=false)/\
   (setCells w ⟨g,off,none⟩ nv).ownsRow Bc e sz v n (xs.take off++nv++xs.drop (off+nv.length))/\w.grownBy (setCells w ⟨g,off,none⟩ nv) (some g):=by
 rcases h.2 with⟨_,hn0⟩|⟨g,cap,cur,RD,N,V,So,Rd,Oz,Su⟩
 .subst hn0;omega
 have hns:n*sz<=cap*sz:=Nat.mul_le_mul_right sz So;obtain⟨f1,f2,f3,f4⟩:=oB nv w g off;have PS:=lY nv w g off cur e V be;refine⟨g,cap,RD,fun k Z=>?_,?_,?_⟩
 .rw[cd];refine⟨?_,?_⟩
  .rw[cell_of (g:=g) (cs:=cur.toList) (by simpa using V),aE (by simp;omega)];rfl
  .simp[World.frozen?,V]
 .rw[iS];refine⟨?_,.inr ⟨g,cap,_,RD,N,PS,So,Rd,?_,?_⟩⟩
  .simp only[aU,bL,List.length_drop,h.1];omega
  .simp only[List.size_toArray,aU,bL,List.length_drop,Array.length_toList];omega
  .subst Su;have QM:cur.toList.length=cur.size:=by simp
   have ha:List.drop (off+nv.length) (List.take (n*sz) cur.toList)=(List.drop (off+nv.length) cur.toList).take (n*sz-(off+nv.length)):=by rw[List.drop_take]
   rw[ha,List.take_take,Nat.min_eq_left be];show List.take (n*sz) (_++nv++_)=_;rw[List.take_append,bU (by simp;omega)];congr 2;simp only[aU,bL]
   omega
 .rw[iS];exact⟨f1,f2,f3,by rw[f4];exact lr,fun k Z OL=>lZ nv w g _ (fun e=>OL (by rw[e]))⟩
end Go.Ex
namespace Go.Sx
open Go Go.Ex Go.Proofs
variable{X:Nat->Prop}{O:Nat->Sx.dc}
theorem Rel.fU{H:Hp}{nx:Nat}{iv:Iv}{B:Nat}{w J F:World}(r:Rel H nx iv B w O J)(OL:∀g,X g->∀id b,dF H id=some b->(O id).nil=false->(O id).g≠g)(h:Kept J F X):Rel H nx ((J.heap.size,F.heap.size)::iv) B F O F:=
 r.zb h.size (fun id b N U=>h.block _ (r.low id b N U).2 fun E=>OL _ E id b N U rfl) fun lo R hm=>by
  rcases List.mem_cons.1 hm with e|hm
  .injection e with e1 e2;subst e1 e2;exact⟨lr,fun id b N U=>by have:=(r.low id b N U).2;omega⟩
  .exact⟨by have:=r.nG lo R hm;have:=r.size;have:=h.size;omega,fun id b N U=>r.ix lo R hm id b N U⟩
end Go.Sx
namespace Go.Ex
open Go Go.Sx Go.Proofs
section
variable{M:List (List Value)}{l:List Nat}{q:List Rat}{tp':List Value}{g:Nat}
structure Tx where
 g:Nat
 vb:Value
 vf:Value
 va:Value
 vB:Value
 vc:Value
 rv:List Value
abbrev Tx.bx(x:Tx):Value:=.slice (some ⟨x.g,0,none⟩) 9 9
def Tx.cX(x:Tx):List Value:=x.bx::x.vb::x.vf::x.va::x.vB::x.vc::x.rv
def ints(l:List Nat):List Value:=l.map fun(n:Nat)=>iV (n:Int)
def fV(v:Value)(M:List (List Value)):Ow:=⟨v,T.cw,4,M.length,M.flatten⟩
def gL(x:Tx)(t:Tb)(tp:List Value)(cb cc:List (List Value))(ca:List (List (List Value))):List Ow:=
 ⟨x.bx,T.table,1,9,x.vb::x.vf::x.va::x.vB::x.vc::tp⟩::⟨x.vb,T.int,1,t.bs.length,ints t.bs⟩::⟨x.vf,T.int,1,t.fs.length,ints t.fs⟩::⟨x.va,T.row,1,x.rv.length,x.rv⟩::fV x.vB cb::fV x.vc cc::List.zipWith fV x.rv ca
structure fL(w:World)(S:Nat->Prop)(x:Tx)(t:Tb)(tp:List Value)(cb cc:List (List Value))(ca:List (List (List Value))):Prop where
 ows:j0 w S (gL x t tp cb cc ca)
 ft:jP w S tp t.top
 fb:Fr w S cb t.b
 fc:Fr w S cc t.c
 fl:ca.length=t.a.length
 fa:∀(i:Nat) M q,ca[i]? =some M->t.a[i]? =some q->Fr w S M q
 rl:x.rv.length=t.a.length
def ed(w:World)(S:Nat->Prop)(x:Tx)(t:Tb):Prop:=∃tp cb cc ca,fL w S x t tp cb cc ca
section
variable{w F:World}{S S':Nat->Prop}{x:Tx}{t:Tb}{tp:List Value}{cb cc:List (List Value)}{ca:List (List (List Value))}
theorem ig:∀{rv:List Value} {ca:List (List (List Value))},rv.length=ca.length->(List.zipWith fV rv ca).map Ow.v=rv
 |[],[],_=>rfl
 |v::rv,c::ca,h=>by
  rw[List.zipWith_cons_cons,List.map_cons,ig (by simpa using h)];rfl
 |[],_::_,h=>by simp at h
 |_::_,[],h=>by simp at h
theorem fL.cX(h:fL w S x t tp cb cc ca):(gL x t tp cb cc ca).map Ow.v=x.cX:=by
 show _::_::_::_::_::_::(List.zipWith fV x.rv ca).map Ow.v=_;rw[ig (by rw[h.rl,h.fl])];rfl
theorem fL.cP(h:fL w S x t tp cb cc ca)(Z:∀g,S g\/Bv x.cX g->F.heap[g]? =w.heap[g]?):fL F S x t tp cb cc ca:=
 ⟨h.ows.cP fun g V=>Z g (.inr (by rw[h.cX]at V;exact V)),h.ft.cP fun g V=>Z g (.inl V),h.fb.cP fun g V=>Z g (.inl V),h.fc.cP fun g V=>Z g (.inl V),h.fl,fun i M q W I=>(h.fa i M q W I).cP fun g V=>Z g (.inl V),h.rl⟩
theorem fL.cO(h:fL w S x t tp cb cc ca)(Z:∀g,S g->S' g)(U:∀g,Bv x.cX g->¬S' g):fL w S' x t tp cb cc ca:=
 ⟨h.ows.DZ fun g V=>U g (by rw[h.cX]at V;exact V),h.ft.cO Z,h.fb.cO Z,h.fc.cO Z,h.fl,fun i M q W I=>(h.fa i M q W I).cO Z,h.rl⟩
theorem ed.cP(h:ed w S x t)(Z:∀g,S g\/Bv x.cX g->F.heap[g]? =w.heap[g]?):ed F S x t:=by
 obtain⟨tp,cb,cc,ca,h⟩:=h;exact⟨tp,cb,cc,ca,h.cP Z⟩
theorem ed.cO(h:ed w S x t)(Z:∀g,S g->S' g)(U:∀g,Bv x.cX g->¬S' g):ed w S' x t:=by
 obtain⟨tp,cb,cc,ca,h⟩:=h;exact⟨tp,cb,cc,ca,h.cO Z U⟩
theorem ed.low(h:ed w S x t)(V:Bv x.cX g):g<w.heap.size:=by
 obtain⟨tp,cb,cc,ca,h⟩:=h;exact h.ows.low (by rw[h.cX];exact V)
theorem ed.off(h:ed w S x t)(V:Bv x.cX g):¬S g:=by
 obtain⟨tp,cb,cc,ca,h⟩:=h;exact h.ows.off g (by rw[h.cX];exact V)
theorem fL.rowAt(h:fL w S x t tp cb cc ca){i:Nat}{v:Value}(hv:x.rv[i]? =some v)(hc:ca[i]? =some M):(gL x t tp cb cc ca)[i+6]? =some (fV v M):=by
 show(List.zipWith fV x.rv ca)[i]? =_;rw[List.getElem?_zipWith,hv,hc]
theorem fL.NK(h:fL w S x t tp cb cc ca){q:Rat}(V:w.grownBy F x.bx.ownBlock)(ho:F.ownsRow 0 T.table 1 x.bx 9 (x.vb::x.vf::x.va::x.vB::x.vc::tp'))(hf:jP w S tp' q)(Z:∀g,S g->F.heap[g]? =w.heap[g]?):
  fL F S x {t with top:=q} tp' cb cc ca:=
 ⟨h.ows.put (k:=0) rfl V ho,hf.cP Z,h.fb.cP Z,h.fc.cP Z,h.fl,fun i M q W I=>(h.fa i M q W I).cP Z,h.rl⟩
theorem fL.NL(h:fL w S x t tp cb cc ca)(hl:l.length=t.bs.length)(V:w.grownBy F x.vb.ownBlock)(ho:F.ownsRow 0 T.int 1 x.vb t.bs.length (ints l))(Z:∀g,S g->F.heap[g]? =w.heap[g]?):
  fL F S x {t with bs:=l} tp cb cc ca:=by
 have:=h.ows.put (k:=1) rfl V ho;refine⟨?_,h.ft.cP Z,h.fb.cP Z,h.fc.cP Z,h.fl,fun i M q W I=>(h.fa i M q W I).cP Z,h.rl⟩;show j0 F S (_::⟨x.vb,T.int,1,l.length,ints l⟩::_);rw[hl];exact this
theorem fL.NM(h:fL w S x t tp cb cc ca)(hl:l.length=t.fs.length)(V:w.grownBy F x.vf.ownBlock)(ho:F.ownsRow 0 T.int 1 x.vf t.fs.length (ints l))(Z:∀g,S g->F.heap[g]? =w.heap[g]?):
  fL F S x {t with fs:=l} tp cb cc ca:=by
 have:=h.ows.put (k:=2) rfl V ho;refine⟨?_,h.ft.cP Z,h.fb.cP Z,h.fc.cP Z,h.fl,fun i M q W I=>(h.fa i M q W I).cP Z,h.rl⟩;show j0 F S (_::_::⟨x.vf,T.int,1,l.length,ints l⟩::_);rw[hl];exact this
theorem fL.b'(h:fL w S x t tp cb cc ca)(hl:M.length=cb.length)(V:w.grownBy F x.vB.ownBlock)(ho:F.ownsRow 0 T.cw 4 x.vB cb.length M.flatten)(hf:Fr F S' M q)(Z:∀g,S g->F.heap[g]? =w.heap[g]?)(hs:∀g,S g->S' g)(U:∀g,Bv x.cX g->¬S' g):
  fL F S' x {t with b:=q} tp M cc ca:=by
 have I:=h.ows.put (k:=4) rfl V ho;refine⟨?_,(h.ft.cP Z).cO hs,hf,(h.fc.cP Z).cO hs,h.fl,fun i M q W I=>((h.fa i M q W I).cP Z).cO hs,h.rl⟩;have h3:j0 F S (gL x {t with b:=q} tp M cc ca):=by
  show j0 F S (_::_::_::_::⟨x.vB,T.cw,4,M.length,M.flatten⟩::_);rw[hl];exact I
 exact h3.DZ fun g V=>U g (by rw[<-h.cX];exact V)
theorem fL.c'(h:fL w S x t tp cb cc ca)(hl:M.length=cc.length)(V:w.grownBy F x.vc.ownBlock)(ho:F.ownsRow 0 T.cw 4 x.vc cc.length M.flatten)(hf:Fr F S' M q)(Z:∀g,S g->F.heap[g]? =w.heap[g]?)(hs:∀g,S g->S' g)(U:∀g,Bv x.cX g->¬S' g):
  fL F S' x {t with c:=q} tp cb M ca:=by
 have I:=h.ows.put (k:=5) rfl V ho;refine⟨?_,(h.ft.cP Z).cO hs,(h.fb.cP Z).cO hs,hf,h.fl,fun i M q W I=>((h.fa i M q W I).cP Z).cO hs,h.rl⟩;have h3:j0 F S (gL x {t with c:=q} tp cb M ca):=by
  show j0 F S (_::_::_::_::_::⟨x.vc,T.cw,4,M.length,M.flatten⟩::_);rw[hl];exact I
 exact h3.DZ fun g V=>U g (by rw[<-h.cX];exact V)
theorem fL.a'(h:fL w S x t tp cb cc ca){i:Nat}{v:Value}{css':List (List Value)}(hv:x.rv[i]? =some v)(hc:ca[i]? =some M)(hl:css'.length=M.length)(V:w.grownBy F v.ownBlock)(ho:F.ownsRow 0 T.cw 4 v M.length css'.flatten)(hf:Fr F S' css' q)(Z:∀g,S g->F.heap[g]? =w.heap[g]?)(hs:∀g,S g->S' g)(U:∀g,Bv x.cX g->¬S' g):
  fL F S' x {t with a:=t.a.set i q} tp cb cc (ca.set i css'):=by
 have I:=h.ows.put (h.rowAt hv hc) V ho;have h3:j0 F S (gL x {t with a:=t.a.set i q} tp cb cc (ca.set i css')):=by
  have e:(gL x t tp cb cc ca).set (i+6) ((fV v M).LQ css'.flatten)=gL x {t with a:=t.a.set i q} tp cb cc (ca.set i css'):=by
   show _::_::_::_::_::_::(List.zipWith fV x.rv ca).set i _=_::_::_::_::_::_::List.zipWith fV x.rv (ca.set i css');congr 6;apply aj;intro j;by_cases e:i=j
   .subst e;rw[aO (by rw[List.length_zipWith];have:=dx hv;have:=dx hc;omega),List.getElem?_zipWith,hv,aO (dx hc)];show some (Ow.mk _ _ _ M.length _)=some (Ow.mk _ _ _ css'.length _);rw[hl];rfl
   .rw[aV e,List.getElem?_zipWith,List.getElem?_zipWith,aV e]
  rw[<-e];exact I
 have h4:=h3.DZ (S':=S') fun g V=>U g (by
  have:=h.cX;rw[<-this];have e2:(gL x {t with a:=t.a.set i q} tp cb cc (ca.set i css')).map Ow.v=(gL x t tp cb cc ca).map Ow.v:=by
   rw[this];show _::_::_::_::_::_::(List.zipWith fV x.rv (ca.set i css')).map Ow.v=_;rw[ig (by rw[bM,h.rl,h.fl])];rfl
  rw[<-e2];exact V)
 refine⟨h4,(h.ft.cP Z).cO hs,(h.fb.cP Z).cO hs,(h.fc.cP Z).cO hs,by simp[h.fl],fun j Uj q2 h5 h6=>?_,by simp[h.rl]⟩;by_cases e:i=j
 .subst e;rw[aO (dx hc)]at h5;rw[aO (by rw[<-h.fl];exact dx hc)]at h6;injection h5 with h5;injection h6 with h6;subst h5 h6;exact hf
 .rw[aV e]at h5 h6;exact((h.fa j Uj q2 h5 h6).cP Z).cO hs
end
end
variable{ca:List (List (List Value))}{cb cc M:List (List Value)}{l:List Nat}{qs:List Rat}{nv tp:List Value}{c g j k m:Nat}{S:Nat->Prop}{O:Nat->Sx.dc}{w:World}
def Lv(S:Nat->Prop)(B:Nat)(iv:Iv)(x:Tx)(g:Nat):Prop:=Cv S B iv g/\¬Bv x.cX g
structure cj(w:World)(S:Nat->Prop)(B:Nat)(iv:Iv)(x:Tx)(t:Tb):Prop where
 iH:ed w (Lv S B iv x) x t
 kL:∀g,Bv x.cX g->Out B iv g
theorem j0.st{H:Hp}{nx:Nat}{iv:Iv}{B:Nat}{J:World}{E9:List Ow}{it:Ow}{off:Nat}{ad:Addr}(h:j0 w S E9)(r:Rel H nx iv B w O J)(hO:∀g,Bv (E9.map Ow.v) g->Out B iv g)(L:∀g,S g->J.heap[g]? =w.heap[g]?)
  (Z:E9[k]? =some it) (Qk:off+nv.length<=it.n*it.sz) (h0:0<nv.length) (Ou:∀g c,it.v= .slice (some ⟨g,0,none⟩) it.n c->ad=⟨g,off,none⟩):
  ad.spot=none/\(∀k,k<nv.length->(J.cell? (ad.add k)).isSome=true/\J.frozen? (ad.add k)=false)/\(∀id b,dF H id=some b->(O id).nil=false->(O id).g≠ad.block)/\
  ∀w4,w4=setCells J ad nv->J.grownBy w4 it.v.ownBlock/\w4.ownsRow 0 it.e it.sz it.v it.n (it.xs.take off++nv++it.xs.drop (off+nv.length))/\(∀g,S g->g<w.heap.size->w4.heap[g]? =J.heap[g]?):=by
 have hm:=aG Z;have ho:=ownsRow.cP (h.own it hm) fun g V=>rls r (fun _ h=>h) (hO g (j0.bk hm V));obtain⟨g,c,e,W,I,h3⟩:=Ic (off:=off) (nv:=nv) ho Qk h0;have V:Bv (E9.map Ow.v) g:=j0.bk hm (by rw[e];rfl);rw[Ou g c e];refine⟨rfl,W,Rel.not r (fun _ h=>h) (hO g V),fun w4 OZ=>?_⟩;rw[OZ];refine⟨by rw[e];exact h3,I,fun g2 Pa Oo=>h3.block g2 (by have:=r.size;omega) fun e2=>?_⟩;injection e2 with e2;subst e2;exact h.off _ V Pa
theorem j0.ld{E9:List Ow}{it:Ow}{u:Value}(h:j0 w S E9)(hm:it∈E9)(E:it.xs[k]? =some u):∃g c,it.v= .slice (some ⟨g,0,none⟩) it.n c/\w.cell? ⟨g,k,none⟩=some u:=by
 have ho:=h.own it hm;rcases ho.2 with⟨_,h0⟩|⟨g,cap,cur,hv,_⟩
 .have W:=ho.1;have:=dx E;rw[h0]at W;omega
 .refine⟨g,cap,hv,?_⟩;have:=ho.cells (g:=g) (by rw[hv];rfl) k u E;rw[cd,aR]at this;exact this
section
variable{S S':Nat->Prop}{H:Hp}{nx:Nat}{iv K:Iv}{B:Nat}{w J F:World}{O:Nat->Sx.dc}{x:Tx}{t:Tb}{v:Value}{q:Rat}
theorem Lv.mono(h:Lv S B iv x g)(hm:∀p,p∈iv->p∈K):Lv S B K x g:=⟨h.1.mono hm,h.2⟩
theorem Lv.old(r:Rel H nx iv B w O J)(L:∀g,S g->g<B):Old (Lv S B iv x) J:=fun g h=>rlo r L g h.1
theorem Lv.same(r:Rel H nx iv B w O J)(L:∀g,S g->g<B):∀g,Lv S B iv x g->J.heap[g]? =w.heap[g]? :=fun _ h=>rls r L h.1
theorem cj.arg(h:ed w S x t):cj w S w.heap.size [] x t:=
 ⟨h.cO (fun g V=>⟨.inl V,fun N=>h.off N V⟩) fun g N V=>V.2 N,fun g V=>.inl (h.low V)⟩
theorem cj.cP(h:cj w S B iv x t)(Z:∀g,Lv S B iv x g\/Bv x.cX g->F.heap[g]? =w.heap[g]?):cj F S B iv x t:=⟨h.iH.cP Z,h.kL⟩
theorem cj.mono(h:cj w S B iv x t)(hm:∀p,p∈iv->p∈K):cj w S B K x t:=
 ⟨h.iH.cO (fun _ V=>V.mono hm) fun g N V=>V.2 N,fun g V=>(h.kL g V).mono hm⟩
theorem cj.same(h:cj w S B iv x t)(r:Rel H nx iv B w O J)(L:∀g,S g->g<B):∀g,Lv S B iv x g\/Bv x.cX g->J.heap[g]? =w.heap[g]? :=fun g V=>
 V.elim (fun V=>rls r L V.1) fun V=>rls r (fun _ h=>h) (h.kL g V)
theorem cj.rel(h:cj w S B iv x t)(r:Rel H nx iv B w O J)(L:∀g,S g->g<B):cj J S B iv x t:=h.cP (h.same r L)
theorem cj.low(h:cj w S B iv x t)(r:Rel H nx iv B w O J)(V:Bv x.cX g):g<J.heap.size:=rlo r (fun _ h=>h) g (h.kL g V)
theorem cj.cL(h:cj w S B iv x t)(r:Rel H nx iv B w O J)(L:∀g,S g->g<B)(G:Ext J F)(hm:∀p,p∈iv->p∈K):cj F S B K x t:=
 ((h.rel r L).cP fun g V=>G.block g (V.elim (fun V=>rlo r L g V.1) fun V=>h.low r V)).mono hm
theorem cY.fz(h:cY w (Lv S B iv x) v q)(r:Rel H nx iv B w O J)(L:∀g,S g->g<B):cY J (Lv S B iv x) v q:=h.cP (Lv.same r L)
theorem cY.jQ(h:cY w (Lv S B iv x) v q)(r:Rel H nx iv B w O J)(L:∀g,S g->g<B)(G:Ext J F)(hm:∀p,p∈iv->p∈K):cY F (Lv S B K x) v q:=
 ((h.fz r L).cP fun g V=>G.block g (Lv.old r L g V)).cO fun _ V=>V.mono hm
theorem cj.new(h:cj w S B iv x t)(r:Rel H nx iv B w O J)(W:J.heap.size<=g)(I:g<F.heap.size):Lv S B ((J.heap.size,F.heap.size)::iv) x g:=
 ⟨.inr ⟨by have:=r.cR;omega,_,_,aF,W,I⟩,fun N=>by have:=h.low r N;omega⟩
theorem cY.s5(h:cY F (Nf J F) v q)(hT:cj w S B iv x t)(r:Rel H nx iv B w O J):cY F (Lv S B ((J.heap.size,F.heap.size)::iv) x) v q:=
 h.cO fun g V=>V.elim (fun h=>h.elim) fun V=>hT.new r V.1 V.2
theorem cY.LR(h:cY F (Nw (Lv S B iv x) J F) v q)(hT:cj w S B iv x t)(r:Rel H nx iv B w O J):cY F (Lv S B ((J.heap.size,F.heap.size)::iv) x) v q:=
 h.cO fun g V=>V.elim (fun V=>V.mono fun _ hp=>aD _ hp) fun V=>hT.new r V.1 V.2
theorem Lv.nw{w0:World}(h:Lv S w0.heap.size iv x g)(r:Rel H nx iv w0.heap.size w O J):Nw S w0 J g:=Cv.nw h.1 r
theorem cj.eX(h:cj w S B iv x t)(r:Rel H nx iv B w O J){t':Tb}(I:ed F (Nw (Lv S B iv x) J F) x t'):cj F S B ((J.heap.size,F.heap.size)::iv) x t':=
 ⟨I.cO (fun g V=>V.elim (fun V=>V.mono fun _ hp=>aD _ hp) fun V=>h.new r V.1 V.2) fun g N V=>V.2 N,fun g V=>(h.kL g V).mono fun _ hp=>aD _ hp⟩
theorem cj.not(h:cj w S B iv x t)(r:Rel H nx iv B w O J):∀g,Bv x.cX g->∀id b,dF H id=some b->(O id).nil=false->(O id).g≠g:=fun g V=>Rel.not r (fun _ h=>h) (h.kL g V)
theorem cY.Fi(h:cY w (Lv S B iv x) v q)(r:Rel H nx iv B w O J)(L:∀g,S g->g<B)(Z:Kept J F (Bv x.cX)):cY F (Lv S B ((J.heap.size,F.heap.size)::iv) x) v q:=
 ((h.fz r L).cP fun g V=>Z.block g (Lv.old r L g V) V.2).cO fun _ V=>V.mono fun _ hp=>aD _ hp
end
section
variable{S:Nat->Prop}{H:Hp}{nx:Nat}{iv:Iv}{B:Nat}{w J:World}{O:Nat->Sx.dc}{x:Tx}{t:Tb}{q:Rat}{nv:List Value}{ad:Addr}
def MU(w J w4:World)(S:Nat->Prop)(B:Nat)(iv:Iv)(x:Tx)(t:Tb):Prop:=cj w4 S B iv x t/\Kept J w4 (Bv x.cX)/\∀g,Lv S B iv x g->w4.heap[g]? =w.heap[g]?
def qj(H:Hp)(O:Nat->Sx.dc)(w J:World)(ad:Addr)(nv:List Value)(S:Nat->Prop)(B:Nat)(iv:Iv)(x:Tx)(t:Tb):Prop:=
 ad.spot=none/\(∀k,k<nv.length->(J.cell? (ad.add k)).isSome=true/\J.frozen? (ad.add k)=false)/\(∀id b,dF H id=some b->(O id).nil=false->(O id).g≠ad.block)/\∀w4,w4=setCells J ad nv->MU w J w4 S B iv x t
theorem qj.of{E9:List Ow}{it:Ow}{off:Nat}(L:∀g,S g->g<B)(r:Rel H nx iv B w O J)(hT:cj w S B iv x t)(hC:fL w (Lv S B iv x) x t tp cb cc ca)(hI:E9=gL x t tp cb cc ca)(Z:E9[k]? =some it)(Qk:off+nv.length<=it.n*it.sz)(h0:0<nv.length)
  (Ou:∀g c,it.v= .slice (some ⟨g,0,none⟩) it.n c->ad=⟨g,off,none⟩) {t':Tb}
  (hN:∀w4,fL J (Lv S B iv x) x t tp cb cc ca->J.grownBy w4 it.v.ownBlock->w4.ownsRow 0 it.e it.sz it.v it.n (it.xs.take off++nv++it.xs.drop (off+nv.length))->(∀g,Lv S B iv x g->w4.heap[g]? =J.heap[g]?)->ed w4 (Lv S B iv x) x t'):
  qj H O w J ad nv S B iv x t':=by
 subst hI;obtain⟨W,I,h3,h4⟩:=hC.ows.st r (fun g V=>hT.kL g (by rw[<-hC.cX];exact V)) (Lv.same r L) Z Qk h0 Ou;refine⟨W,I,h3,fun w4 OZ=>?_⟩;obtain⟨h5,h6,h7⟩:=h4 w4 OZ;have ON:∀g,Lv S B iv x g->g<w.heap.size:=fun g V=>by
  rcases V.1 with h|⟨_,lo,R,k1,k2,k3⟩
  .have:=L g h;have:=r.base;omega
  .have:=r.nG lo R k1;omega
 have hL:∀g,Lv S B iv x g->w4.heap[g]? =J.heap[g]? :=fun g V=>h7 g V (ON g V);refine⟨⟨hN w4 (hC.cP (hT.same r L)) h5 h6 hL,hT.kL⟩,⟨h5.os,h5.tape,h5.output,h5.size,fun k Z E=>h5.block k Z fun e=>E ?_⟩,fun g V=>(hL g V).trans (Lv.same r L g V)⟩;rw[<-hC.cX];exact j0.bk (aG (by assumption)) e.symm
theorem Cx{i:Nat}(h:i<l.length):(ints l)[i]? =some (iV ((l.getD i 0:Nat):Int)):=by
 unfold ints;rw[aS,aE h,List.getD,aE h];rfl
theorem ints_set{i n:Nat}(h:i<l.length):(ints l).take i++[iV (n:Int)]++(ints l).drop (i+1)=ints (l.set i n):=by
 unfold ints;rw[List.map_set,List.set_eq_take_append_cons_drop,aM (by rw[aJ];exact h)];simp
theorem cj.NN(hT:cj w S B iv x t)(L:∀g,S g->g<B)(r:Rel H nx iv B w O J){i n:Nat}(R:i<t.bs.length)(hv:x.vb= .slice (some ⟨g,0,none⟩) m c)(Ou:ad=⟨g,i*1,none⟩):
  qj H O w J ad [iV (n:Int)] S B iv x {t with bs:=t.bs.set i n}:=by
 obtain⟨tp,cb,cc,ca,hC⟩:=hT.iH;refine .of (k:=1) (off:=i) L r hT hC rfl rfl (by show i+1<=t.bs.length*1;omega) ce (fun g2 c2 e=>?_) fun w4 k1 k2 k3 k4=>⟨tp,cb,cc,ca,k1.NL ce k2 ?_ k4⟩
 .rw[show x.vb=_ from e]at hv;injection hv with hv;injection hv with hv;injection hv with hv;rw[Ou,hv,bC]
 .rw[<-ints_set R];exact k3
theorem cj.NO(hT:cj w S B iv x t)(L:∀g,S g->g<B)(r:Rel H nx iv B w O J){i n:Nat}(R:i<t.fs.length)(hv:x.vf= .slice (some ⟨g,0,none⟩) m c)(Ou:ad=⟨g,i*1,none⟩):
  qj H O w J ad [iV (n:Int)] S B iv x {t with fs:=t.fs.set i n}:=by
 obtain⟨tp,cb,cc,ca,hC⟩:=hT.iH;refine .of (k:=2) (off:=i) L r hT hC rfl rfl (by show i+1<=t.fs.length*1;omega) ce (fun g2 c2 e=>?_) fun w4 k1 k2 k3 k4=>⟨tp,cb,cc,ca,k1.NM ce k2 ?_ k4⟩
 .rw[show x.vf=_ from e]at hv;injection hv with hv;injection hv with hv;injection hv with hv;rw[Ou,hv,bC]
 .rw[<-ints_set R];exact k3
theorem Fr.LS{S:Nat->Prop}{w:World}(h:Fr w S M qs)(hj:j<qs.length)(U:nv.length=4):M.flatten.take (j*4)++nv++M.flatten.drop (j*4+nv.length)=(M.set j nv).flatten:=by
 rw[U];exact mH h.rj (by rw[h.1];exact hj)
theorem cj.Nn(hT:cj w S B iv x t)(L:∀g,S g->g<B)(r:Rel H nx iv B w O J)(hj:j<t.b.length)(hv:x.vB= .slice (some ⟨g,0,none⟩) m c)(RY:jP w (Lv S B iv x) nv q)(Ou:ad=⟨g,j*4,none⟩):
  qj H O w J ad nv S B iv x {t with b:=t.b.set j q}:=by
 obtain⟨tp,cb,cc,ca,hC⟩:=hT.iH;have hn4:=RY.len;have Vd:=hC.fb.1;refine .of (k:=4) (off:=j*4) L r hT hC rfl rfl (by show j*4+nv.length<=cb.length*4;omega) be (fun g2 c2 e=>?_) fun w4 k1 k2 k3 k4=>⟨tp,cb.set j nv,cc,ca,k1.b' ce k2 ?_ ((k1.fb.cP k4).set ((RY.cP (Lv.same r L)).cP k4)) k4 (fun _ h=>h) fun g N V=>V.2 N⟩
 .rw[show x.vB=_ from e]at hv;injection hv with hv;injection hv with hv;injection hv with hv;rw[Ou,hv]
 .rw[<-hC.fb.LS hj hn4];exact k3
theorem cj.No(hT:cj w S B iv x t)(L:∀g,S g->g<B)(r:Rel H nx iv B w O J)(hj:j<t.c.length)(hv:x.vc= .slice (some ⟨g,0,none⟩) m c)(RY:jP w (Lv S B iv x) nv q)(Ou:ad=⟨g,j*4,none⟩):
  qj H O w J ad nv S B iv x {t with c:=t.c.set j q}:=by
 obtain⟨tp,cb,cc,ca,hC⟩:=hT.iH;have hn4:=RY.len;have Vd:=hC.fc.1;refine .of (k:=5) (off:=j*4) L r hT hC rfl rfl (by show j*4+nv.length<=cc.length*4;omega) be (fun g2 c2 e=>?_) fun w4 k1 k2 k3 k4=>⟨tp,cb,cc.set j nv,ca,k1.c' ce k2 ?_ ((k1.fc.cP k4).set ((RY.cP (Lv.same r L)).cP k4)) k4 (fun _ h=>h) fun g N V=>V.2 N⟩
 .rw[show x.vc=_ from e]at hv;injection hv with hv;injection hv with hv;injection hv with hv;rw[Ou,hv]
 .rw[<-hC.fc.LS hj hn4];exact k3
theorem fL.row{w:World}{S:Nat->Prop}(hC:fL w S x t tp cb cc ca){i:Nat}(R:i<t.a.length):
  ∃v M,x.rv[i]? =some v/\ca[i]? =some M/\Fr w S M (t.a.getD i [])/\t.a[i]? =some (t.a.getD i []):=by
 have W:t.a[i]? =some (t.a.getD i []):=by rw[List.getD,aE R];rfl
 have I:ca[i]? =some (ca[i]'(by rw[hC.fl];exact R)):=aE _;exact⟨x.rv[i]'(by rw[hC.rl];exact R),_,aE _,I,hC.fa i _ _ I W,W⟩
theorem cj.Np(hT:cj w S B iv x t)(L:∀g,S g->g<B)(r:Rel H nx iv B w O J){i:Nat}(R:i<t.a.length)(hj:j<(t.a.getD i []).length)(hv:x.rv[i]? =some (.slice (some ⟨g,0,none⟩) m c))(RY:jP w (Lv S B iv x) nv q)(Ou:ad=⟨g,j*4,none⟩):
  qj H O w J ad nv S B iv x {t with a:=t.a.set i ((t.a.getD i []).set j q)}:=by
 obtain⟨tp,cb,cc,ca,hC⟩:=hT.iH;have hn4:=RY.len;obtain⟨v,M,W,I,h3,h4⟩:=hC.row R;rw[W]at hv;injection hv with hv;have hl:=h3.1;refine .of (k:=i+6) (off:=j*4) L r hT hC rfl (hC.rowAt W I) (by show j*4+nv.length<=M.length*4;omega) be (fun g2 c2 e=>?_) fun w4 k1 k2 k3 k4=>⟨tp,cb,cc,ca.set i (M.set j nv),k1.a' W I ce k2 ?_ (((h3.cP (Lv.same r L)).cP k4).set ((RY.cP (Lv.same r L)).cP k4)) k4 (fun _ h=>h) fun g N V=>V.2 N⟩
 .rw[show v=_ from e]at hv;injection hv with hv;injection hv with hv;injection hv with hv;rw[Ou,hv]
 .rw[<-h3.LS hj hn4];exact k3
theorem cj.NP(hT:cj w S B iv x t)(L:∀g,S g->g<B)(r:Rel H nx iv B w O J)(RY:jP w (Lv S B iv x) nv q)(Ou:ad=⟨x.g,5,none⟩):
  qj H O w J ad nv S B iv x {t with top:=q}:=by
 obtain⟨tp,cb,cc,ca,hC⟩:=hT.iH;have hn4:=RY.len;have ht4:=hC.ft.len;refine .of (k:=0) (off:=5) L r hT hC rfl rfl (by show 5+nv.length<=9*1;omega) be (fun g2 c2 e=>?_) fun w4 k1 k2 k3 k4=>⟨nv,cb,cc,ca,k1.NK k2 ?_ (RY.cP (Lv.same r L)) k4⟩
 .injection e with e;injection e with e;injection e with e;rw[Ou,e]
 .have e:(x.vb::x.vf::x.va::x.vB::x.vc::tp).take 5++nv++(x.vb::x.vf::x.va::x.vB::x.vc::tp).drop (5+nv.length)=x.vb::x.vf::x.va::x.vB::x.vc::nv:=by
   rw[hn4];show _::_::_::_::_::(([]++nv)++tp.drop 4)=_;rw[List.drop_of_length_le be,List.append_nil,List.nil_append]
  rw[<-e];exact k3
end
end Go.Ex
namespace Go.Ex
variable{l:List Rat}{h k:Nat}
theorem lS{α:Type}{l:List α}{i j:Nat}{x d:α}:(l.set i x).getD j d=if i=j/\i<l.length then x else l.getD j d:=by
 rw[List.getD,List.getElem?_set];by_cases h:i=j
 .subst h;rw[aM rfl];by_cases I:i<l.length
  .rw[aM I,aM ⟨rfl,I⟩];rfl
  .rw[aK I,aK fun e=>I e.2,List.getD,List.getElem?_eq_none be]
 .rw[aK h,aK fun e=>h e.1];rfl
section
variable{t:Tb}{r s i:Nat}
def Tb.pT(t:Tb)(r s i:Nat):Tb where
 bs:=t.bs.set r (t.fs.getD s 0)
 fs:=t.fs.set s (t.bs.getD r 0)
 a:=t.a.mapIdx fun k x=>if k=r then t.ke r s else if k<i then pF (x.set s 0) (-(x.getD s 0)) (t.ke r s)else x
 b:=t.b.mapIdx fun k x=>if k=r then t.bP r s else if k<i then x+ -(dZ t.a k s)*t.bP r s else x
 c:=t.c
 top:=t.top
theorem Tb.Kb:(t.pT r s i).a.length=t.a.length:=List.length_mapIdx
theorem Tb.Kd:(t.pT r s i).b.length=t.b.length:=List.length_mapIdx
theorem Tb.IF(hr:r<t.a.length):(t.pT r s i).a.getD r []=t.ke r s:=by
 unfold Tb.pT;rw[gI [] [] hr,aM rfl]
theorem Tb.IG(hr:r<t.b.length):(t.pT r s i).b.getD r 0=t.bP r s:=by
 unfold Tb.pT;rw[gI 0 0 hr,aM rfl]
theorem Tb.Ke(Z:k<t.a.length)(OL:k≠r)(TA:i<=k):(t.pT r s i).a.getD k []=t.a.getD k []:=by
 unfold Tb.pT;rw[gI [] [] Z,aK OL,aK be]
theorem Tb.Kf(Z:k<t.b.length)(OL:k≠r)(TA:i<=k):(t.pT r s i).b.getD k 0=t.b.getD k 0:=by
 unfold Tb.pT;rw[gI 0 0 Z,aK OL,aK be]
theorem Tb.IH:(t.ke r s).length=(t.a.getD r []).length:=by unfold Tb.ke;rw[aJ,bM]
theorem Tb.ext{u v:Tb}(W:u.bs=v.bs)(I:u.fs=v.fs)(h3:u.a=v.a)(h4:u.b=v.b)(h5:u.c=v.c)(h6:u.top=v.top):u=v:=by
 cases u;cases v;simp_all
theorem Tb.Jq(hr:r<t.a.length):
  (Tb.mk (t.bs.set r (t.fs.getD s 0)) (t.fs.set s (t.bs.getD r 0)) ((t.a.set r ((t.a.getD r []).set s 1)).set r (((t.a.set r ((t.a.getD r []).set s 1)).getD r []).map (· *(1 / dZ t.a r s)))) (t.b.set r (t.b.getD r 0*(1 / dZ t.a r s))) t.c t.top)=t.pT r s 0:=by
 refine Tb.ext rfl rfl ?_ ?_ rfl rfl
 .show List.set _ _ _=List.mapIdx _ _;rw[lS,aM ⟨rfl,hr⟩,List.set_set];apply aj;intro k;rw[List.getElem?_mapIdx,List.getElem?_set];by_cases e:r=k
  .subst e;rw[aM rfl,aM hr,aE hr,bO,aM rfl];rfl
  .rw[aK e]
   cases h:t.a[k]? with
   |none=>rfl
   |some y=>rw[bO,aK (Ne.symm e),aK (Nat.not_lt_zero _)]
 .show List.set _ _ _=List.mapIdx _ _;apply aj;intro k;rw[List.getElem?_mapIdx,List.getElem?_set];by_cases e:r=k
  .subst e;rw[aM rfl];by_cases N:r<t.b.length
   .rw[aM N,aE N,bO,aM rfl];rfl
   .rw[aK N,List.getElem?_eq_none be];rfl
  .rw[aK e]
   cases h:t.b[k]? with
   |none=>rfl
   |some y=>rw[bO,aK (Ne.symm e),aK (Nat.not_lt_zero _)]
theorem Tb.Jr(e:i=r):t.pT r s i=t.pT r s (i+1):=by
 refine Tb.ext rfl rfl ?_ ?_ rfl rfl
 .show List.mapIdx _ _=List.mapIdx _ _;congr 1
  funext k x
  by_cases h:k=r
  .rw[aM h,aM h]
  .rw[aK h,aK h];by_cases I:k<i
   .rw[aM I,aM be]
   .rw[aK I,aK be]
 .show List.mapIdx _ _=List.mapIdx _ _;congr 1
  funext k x
  by_cases h:k=r
  .rw[aM h,aM h]
  .rw[aK h,aK h];by_cases I:k<i
   .rw[aM I,aM be]
   .rw[aK I,aK be]
theorem Tb.Js(R:i<t.a.length)(hr:r<t.a.length)(hl:t.b.length=t.a.length)(OL:i≠r)(P:Tb)(hP:P=t.pT r s i):
  (Tb.mk P.bs P.fs ((P.a.set i ((P.a.getD i []).set s 0)).set i (pF ((P.a.set i ((P.a.getD i []).set s 0)).getD i []) (-(dZ P.a i s)) ((P.a.set i ((P.a.getD i []).set s 0)).getD r [])))
   (P.b.set i (P.b.getD i 0+ -(dZ P.a i s)*P.b.getD r 0)) P.c P.top)=t.pT r s (i+1):=by
 have hPa:P.a.length=t.a.length:=by rw[hP,Tb.Kb]
 have hPb:P.b.length=t.b.length:=by rw[hP,Tb.Kd]
 have W:P.a.getD i []=t.a.getD i []:=by rw[hP,Tb.Ke R OL (ae i)]
 have I:P.a.getD r []=t.ke r s:=by rw[hP,Tb.IF hr]
 have h3:P.b.getD i 0=t.b.getD i 0:=by rw[hP,Tb.Kf be OL (ae i)]
 have h4:P.b.getD r 0=t.bP r s:=by rw[hP,Tb.IG be]
 have h5:dZ P.a i s=dZ t.a i s:=by unfold dZ;rw[W]
 refine Tb.ext (by rw[hP];rfl) (by rw[hP];rfl) ?_ ?_ (by rw[hP];rfl) (by rw[hP];rfl)
 .show List.set _ _ _=List.mapIdx _ _;rw[List.set_set,lS,aM ⟨rfl,be⟩,lS,aK fun e=>OL e.1,W,I,h5];apply aj;intro k;rw[List.getElem?_mapIdx,List.getElem?_set];by_cases e:i=k
  .subst e;rw[aM rfl,aM be,aE R,bO,aK OL,aM be];have:t.a.getD i []=t.a[i]:=by rw[List.getD,aE R];rfl
   rw[<-this];rfl
  .rw[aK e,hP];show(List.mapIdx _ _)[k]? =_;rw[List.getElem?_mapIdx];congr 1
   funext x
   by_cases h:k=r
   .rw[aM h,aM h]
   .rw[aK h,aK h];by_cases I:k<i
    .rw[aM I,aM be]
    .rw[aK I,aK be]
 .show List.set _ _ _=List.mapIdx _ _;rw[h3,h4,h5];apply aj;intro k;rw[List.getElem?_mapIdx,List.getElem?_set];by_cases e:i=k
  .subst e;rw[aM rfl,aM be,aE be,bO,aK OL,aM be];have:t.b.getD i 0=t.b[i]' be:=by rw[List.getD,aE];rfl
   rw[<-this]
  .rw[aK e,hP];show(List.mapIdx _ _)[k]? =_;rw[List.getElem?_mapIdx];congr 1
   funext x
   by_cases h:k=r
   .rw[aM h,aM h]
   .rw[aK h,aK h];by_cases I:k<i
    .rw[aM I,aM be]
    .rw[aK I,aK be]
theorem Tb.LG(hr:r<t.a.length)(hl:t.b.length=t.a.length)(P:Tb)(hP:P=t.pT r s t.a.length):
  (Tb.mk P.bs P.fs P.a P.b (pF (P.c.set s 0) (-(P.c.getD s 0)) (P.a.getD r [])) (P.top+P.c.getD s 0*P.b.getD r 0))=t.fx r s:=by
 have I:P.a.getD r []=t.ke r s:=by rw[hP,Tb.IF hr]
 have h4:P.b.getD r 0=t.bP r s:=by rw[hP,Tb.IG be]
 rw[I,h4];subst hP;refine Tb.ext rfl rfl ?_ ?_ rfl rfl
 .show List.mapIdx _ _=List.mapIdx _ _;apply aj;intro k;rw[List.getElem?_mapIdx,List.getElem?_mapIdx]
  cases h:t.a[k]? with
  |none=>rfl
  |some y=>
   have Z:=(aH.1 h).1;rw[bO,bO,aM Z]
 .show List.mapIdx _ _=List.mapIdx _ _;apply aj;intro k;rw[List.getElem?_mapIdx,List.getElem?_mapIdx]
  cases h:t.b[k]? with
  |none=>rfl
  |some y=>
   have Z:=(aH.1 h).1;rw[bO,bO,aM (show k<t.a.length by omega)]
structure Tb.uI(t:Tb)(h:Nat):Prop where
 a:Ht t.a h
 b:∀q∈t.b,rl q+1<=h
 c:∀q∈t.c,rl q+1<=h
 top:rl t.top+1<=h
structure Tb.Wf(t:Tb)(m q:Nat):Prop where
 bs:t.bs.length=m
 fs:t.fs.length=q
 al:t.a.length=m
 aw:pf q t.a
 b:t.b.length=m
 c:t.c.length=q
theorem Rp.wf{D:Dc}(h:Rp t D):t.Wf D.m D.q:=⟨h.Gb,h.Jj,h.al,h.aw,h.bl,h.cl⟩
theorem Tb.Wf.row{m q:Nat}(h:t.Wf m q)(Z:k<m):(t.a.getD k []).length=q:=h.aw.getD (by rw[h.al];exact Z)
theorem Tb.Wf.pT{m q:Nat}(h:t.Wf m q)(hr:r<m):(t.pT r s i).Wf m q:=by
 refine⟨by show(List.set _ _ _).length=_;rw[bM];exact h.bs,by show(List.set _ _ _).length=_;rw[bM];exact h.fs,Tb.Kb.trans h.al,fun x E=>?_,Tb.Kd.trans h.b,h.c⟩;obtain⟨k,Z⟩:=aY E;have SL:(t.a.mapIdx fun k x=>if k=r then t.ke r s else if k<i then pF (x.set s 0) (-(x.getD s 0)) (t.ke r s)else x)[k]? =some x:=Z;rw[List.getElem?_mapIdx]at SL
 cases hy:t.a[k]? with
 |none=>rw[hy]at SL;cases SL
 |some y=>
  have TD:=h.aw y (aG hy);rw[hy]at SL;injection SL with SL;rw[<-SL];split
  .rw[Tb.IH,h.row hr]
  .split
   .rw[mR,bM];exact TD
   .exact TD
theorem qB{i:Nat}(H:∀q∈l,rl q+1<=h)(I:2<=h):rl (l.getD i 0)+1<=h:=lI H I i
theorem Tb.uI.ke(H:t.uI h)(I:2<=h)(h0:dZ t.a r s≠0):∀q∈t.ke r s,rl q<=2*h:=fun q hq=>by
 obtain⟨x,E,rfl⟩:=bD.1 hq;have h3:=jv x (1 / dZ t.a r s);have h4:=uD h0;have OI:∀q∈t.a.getD r [],rl q+1<=h:=fun q hq=>by
  by_cases hr:r<t.a.length
  .exact H.a _ (sq hr) q hq
  .rw[List.getD,List.getElem?_eq_none be]at hq;cases hq
 have h5:rl (dZ t.a r s)+1<=h:=qB OI I;have h6:rl x+1<=h:=by
  rcases bH E with h7|h7
  .exact OI x h7
  .rw[h7,Du];exact I
 omega
theorem Tb.uI.dZ(H:t.uI h)(I:2<=h)(i j:Nat):rl (dZ t.a i j)+1<=h:=by
 refine qB (fun q hq=>?_) I;by_cases hr:i<t.a.length
 .exact H.a _ (sq hr) q hq
 .rw[List.getD,List.getElem?_eq_none be]at hq;cases hq
theorem Tb.uI.LH(H:t.uI h)(I:2<=h)(i:Nat):rl (t.b.getD i 0)+1<=h:=qB H.b I
theorem Tb.uI.cat(H:t.uI h)(I:2<=h)(i:Nat):rl (t.c.getD i 0)+1<=h:=qB H.c I
theorem Tb.uI.Jt(H:t.uI h)(i:Nat):∀y∈t.a.getD i [],rl y+1<=h:=fun y hy=>by
 by_cases hr:i<t.a.length
 .exact H.a _ (sq hr) y hy
 .rw[List.getD,List.getElem?_eq_none be]at hy;cases hy
theorem Tb.uI.LI(H:t.uI h){z:Rat}(hz:rl z+1<=h)(i s:Nat):∀y∈(t.a.set i ((t.a.getD i []).set s z)).getD i [],rl y+1<=h:=fun y hy=>by
 rw[lS]at hy;split at hy
 .rcases bH hy with W|W
  .exact H.Jt i y W
  .rw[W];exact hz
 .exact H.Jt i y hy
end
end Go.Ex
namespace Go.Ex
open Go Go.Sx Go.Proofs
variable{ca:List (List (List Value))}{cb cc M:List (List Value)}{qs:List Rat}{tp:List Value}{k m q:Nat}{S X:Nat->Prop}{p:Rat}{u vby:Value}{w:World}
theorem Fr.OF(h:Fr w S M qs){j:Nat}(hj:j<qs.length):
  ∃b a n c b2 a2 n2 c2,M[j]? =some (rC b a n c b2 a2 n2 c2)/\cY w S (.agg #[.bool b,.slice a n c,.bool b2,.slice a2 n2 c2]) (qs.getD j 0):=by
 have W:M[j]? =some (M[j]'(by rw[h.1];exact hj)):=aE _;have I:qs[j]? =some (qs.getD j 0):=by rw[List.getD,aE hj];rfl
 obtain⟨b,a,n,c,b2,a2,n2,c2,h3,h4⟩:=h.2 j _ _ W I;exact⟨b,a,n,c,b2,a2,n2,c2,by rw[W,h3],h4⟩
section
variable{S:Nat->Prop}{iv:Iv}{B:Nat}{w:World}{x:Tx}{t:Tb}{a:Option Addr}{m c i j:Nat}
def Gp(w:World)(iv:Iv)(B:Nat)(P:World->Prop):Prop:=∀{H:Hp} {nx:Nat} {O:Nat->Sx.dc} {J:World},Rel H nx iv B w O J->P J
theorem cj.KB(hT:cj w S B iv x t)(L:∀g,S g->g<B)(hu:[x.vb,x.vf,x.va,x.vB,x.vc][k]? =some u):Gp w iv B fun J=>J.cell? (Addr.add ⟨x.g,0,none⟩ k)=some u:=fun r=>by
 obtain⟨tp,cb,cc,ca,hC⟩:=hT.iH;have Ve:(x.vb::x.vf::x.va::x.vB::x.vc::tp)[k]? =some u:=by
  show([x.vb,x.vf,x.va,x.vB,x.vc]++tp)[k]? =some u;rw[aQ (dx hu)];exact hu
 obtain⟨g,c,e,W⟩:=(hC.cP (hT.same r L)).ows.ld aF Ve;injection e with e;injection e with e;injection e with e;rw[cd,aR,e];exact W
theorem cj.Mt(hT:cj w S B iv x t)(L:∀g,S g->g<B):∃b a n c b2 a2 n2 c2,(Gp w iv B fun J=>∀k u,(rC b a n c b2 a2 n2 c2)[k]? =some u->J.cell? (Addr.add (Addr.add ⟨x.g,0,none⟩ 5) k)=some u)/\cY w (Lv S B iv x) (.agg #[.bool b,.slice a n c,.bool b2,.slice a2 n2 c2]) t.top:=by
 obtain⟨tp,cb,cc,ca,hC⟩:=hT.iH;obtain⟨b,a,n,c,b2,a2,n2,c2,rfl,h4⟩:=hC.ft;refine⟨b,a,n,c,b2,a2,n2,c2,fun r k u hu=>?_,h4⟩;obtain⟨g,c,e,W⟩:=(hC.cP (hT.same r L)).ows.ld (k:=5+k) (u:=u) aF (by rw[Nat.add_comm];exact hu);injection e with e;injection e with e;injection e with e;rw[cd,cd,aR,e];exact W
theorem cj.Fj{it:Ow}{g n c:Nat}(hT:cj w S B iv x t)(hC:fL w (Lv S B iv x) x t tp cb cc ca)(L:∀g,S g->g<B)(hm:it∈gL x t tp cb cc ca)(hu:it.xs[k]? =some u)(hv:it.v= .slice (some ⟨g,0,none⟩) n c):Gp w iv B fun J=>J.cell? (Addr.add ⟨g,0,none⟩ k)=some u:=fun r=>by
 obtain⟨g',c2,e2,W⟩:=(hC.cP (hT.same r L)).ows.ld hm hu;rw[hv]at e2;injection e2 with e2;injection e2 with e2;injection e2 with e2;rw[cd,aR,e2];exact W
variable{g n:Nat}{v:Value}
theorem cj.LU(hT:cj w S B iv x t)(L:∀g,S g->g<B)(R:i<t.bs.length)(hv:x.vb= .slice (some ⟨g,0,none⟩) n c):Gp w iv B fun J=>J.cell? (Addr.add ⟨g,0,none⟩ (i*1))=some (iV ((t.bs.getD i 0:Nat):Int)):=by
 obtain⟨tp,cb,cc,ca,hC⟩:=hT.iH;rw[bC];exact hT.Fj hC L (it:=⟨x.vb,T.int,1,t.bs.length,ints t.bs⟩) (by simp[gL]) (Cx R) hv
theorem cj.Lx(hT:cj w S B iv x t)(L:∀g,S g->g<B)(R:i<t.fs.length)(hv:x.vf= .slice (some ⟨g,0,none⟩) n c):Gp w iv B fun J=>J.cell? (Addr.add ⟨g,0,none⟩ (i*1))=some (iV ((t.fs.getD i 0:Nat):Int)):=by
 obtain⟨tp,cb,cc,ca,hC⟩:=hT.iH;rw[bC];exact hT.Fj hC L (it:=⟨x.vf,T.int,1,t.fs.length,ints t.fs⟩) (by simp[gL]) (Cx R) hv
theorem cj.cA(hT:cj w S B iv x t)(L:∀g,S g->g<B)(R:x.rv[i]? =some v)(hv:x.va= .slice (some ⟨g,0,none⟩) n c):Gp w iv B fun J=>J.cell? (Addr.add ⟨g,0,none⟩ (i*1))=some v:=by
 obtain⟨tp,cb,cc,ca,hC⟩:=hT.iH;rw[bC];exact hT.Fj hC L (it:=⟨x.va,T.row,1,x.rv.length,x.rv⟩) (by simp[gL]) R hv
def BV(w:World)(iv:Iv)(B:Nat)(g j:Nat)(b:Bool)(a1:Option Addr)(n c:Nat)(b2:Bool)(a2:Option Addr)(n2 c2:Nat):Prop:=
 Gp w iv B fun J=>∀k u,(rC b a1 n c b2 a2 n2 c2)[k]? =some u->J.cell? (Addr.add (Addr.add ⟨g,0,none⟩ (j*4)) k)=some u
theorem fL.NQ(hT:cj w S B iv x t)(hC:fL w (Lv S B iv x) x t tp cb cc ca)(L:∀g,S g->g<B)(hm:fV v M∈gL x t tp cb cc ca)(hF:Fr w (Lv S B iv x) M qs)(hj:j<qs.length)(hv:v= .slice (some ⟨g,0,none⟩) n c):
  ∃b a1 n1 c1 b2 a2 n2 c2,BV w iv B g j b a1 n1 c1 b2 a2 n2 c2/\cY w (Lv S B iv x) (.agg #[.bool b,.slice a1 n1 c1,.bool b2,.slice a2 n2 c2]) (qs.getD j 0):=by
 obtain⟨b,a1,n1,c1,b2,a2,n2,c2,W,I⟩:=hF.OF hj;refine⟨b,a1,n1,c1,b2,a2,n2,c2,fun r k u hu=>?_,I⟩;have h3:=hT.Fj hC L hm (flat_get hF.rj W k u hu) hv r;rw[cd,aR]at h3;rw[cd,cd,aR];exact h3
theorem cj.eB(hT:cj w S B iv x t)(L:∀g,S g->g<B)(hj:j<t.b.length)(hv:x.vB= .slice (some ⟨g,0,none⟩) n c):
  ∃b a1 n1 c1 b2 a2 n2 c2,BV w iv B g j b a1 n1 c1 b2 a2 n2 c2/\cY w (Lv S B iv x) (.agg #[.bool b,.slice a1 n1 c1,.bool b2,.slice a2 n2 c2]) (t.b.getD j 0):=by
 obtain⟨tp,cb,cc,ca,hC⟩:=hT.iH;exact fL.NQ hT hC L (by simp[gL]) hC.fb hj hv
theorem cj.eC(hT:cj w S B iv x t)(L:∀g,S g->g<B)(hj:j<t.c.length)(hv:x.vc= .slice (some ⟨g,0,none⟩) n c):
  ∃b a1 n1 c1 b2 a2 n2 c2,BV w iv B g j b a1 n1 c1 b2 a2 n2 c2/\cY w (Lv S B iv x) (.agg #[.bool b,.slice a1 n1 c1,.bool b2,.slice a2 n2 c2]) (t.c.getD j 0):=by
 obtain⟨tp,cb,cc,ca,hC⟩:=hT.iH;exact fL.NQ hT hC L (by simp[gL]) hC.fc hj hv
theorem cj.eA(hT:cj w S B iv x t)(L:∀g,S g->g<B)(R:i<t.a.length)(hj:j<(t.a.getD i []).length)(hv:x.rv[i]? =some (.slice (some ⟨g,0,none⟩) n c)):
  ∃b a1 n1 c1 b2 a2 n2 c2,BV w iv B g j b a1 n1 c1 b2 a2 n2 c2/\cY w (Lv S B iv x) (.agg #[.bool b,.slice a1 n1 c1,.bool b2,.slice a2 n2 c2]) (dZ t.a i j):=by
 obtain⟨tp,cb,cc,ca,hC⟩:=hT.iH;obtain⟨v,M,W,I,h3,h4⟩:=hC.row R;rw[W]at hv;injection hv with hv;exact fL.NQ hT hC L (aG (hC.rowAt W I)) h3 hj hv
theorem cj.f0(hT:cj w S B iv x t)(L:∀g,S g->g<B)(hv:x.vb=v):Gp w iv B fun J=>J.cell? (Addr.add ⟨x.g,0,none⟩ 0)=some v:=hv▸hT.KB L rfl
theorem cj.f1(hT:cj w S B iv x t)(L:∀g,S g->g<B)(hv:x.vf=v):Gp w iv B fun J=>J.cell? (Addr.add ⟨x.g,0,none⟩ 1)=some v:=hv▸hT.KB L rfl
theorem cj.f2(hT:cj w S B iv x t)(L:∀g,S g->g<B)(hv:x.va=v):Gp w iv B fun J=>J.cell? (Addr.add ⟨x.g,0,none⟩ 2)=some v:=hv▸hT.KB L rfl
theorem cj.f3(hT:cj w S B iv x t)(L:∀g,S g->g<B)(hv:x.vB=v):Gp w iv B fun J=>J.cell? (Addr.add ⟨x.g,0,none⟩ 3)=some v:=hv▸hT.KB L rfl
theorem cj.f4(hT:cj w S B iv x t)(L:∀g,S g->g<B)(hv:x.vc=v):Gp w iv B fun J=>J.cell? (Addr.add ⟨x.g,0,none⟩ 4)=some v:=hv▸hT.KB L rfl
end
theorem cj.cast{iv:Iv}{B:Nat}{x:Tx}{t t':Tb}(h:cj w S B iv x t)(e:t=t'):cj w S B iv x t':=e▸h
structure OG(x:Tx)(m q gb cb gf cf ga ca gB cB gc cc:Nat):Prop where
 b:x.vb= .slice (some ⟨gb,0,none⟩) m cb
 f:x.vf= .slice (some ⟨gf,0,none⟩) q cf
 a:x.va= .slice (some ⟨ga,0,none⟩) m ca
 B:x.vB= .slice (some ⟨gB,0,none⟩) m cB
 c:x.vc= .slice (some ⟨gc,0,none⟩) q cc
 row:∀i,i<m->∃g c,x.rv[i]? =some (.slice (some ⟨g,0,none⟩) q c)
theorem fL.KC{x:Tx}{t:Tb}(h:fL w S x t tp cb cc ca){it:Ow}(hm:it∈gL x t tp cb cc ca)(h0:0<it.n):∃g c,it.v= .slice (some ⟨g,0,none⟩) it.n c:=by
 rcases(h.ows.own it hm).2 with⟨_,W⟩|⟨g,cap,cur,e,_⟩
 .omega
 .exact⟨g,cap,e⟩
theorem fL.hd{x:Tx}{t:Tb}(h:fL w S x t tp cb cc ca){it:Ow}(hm:it∈gL x t tp cb cc ca){n:Nat}(U:it.n=n):∃a c,it.v= .slice a n c/\n<=c/\c<=maxLen/\(0<n->∃g,a=some ⟨g,0,none⟩):=by
 subst U;rcases(h.ows.own it hm).2 with⟨e,h0⟩|⟨g,cap,cur,e,_,_,U,hm,_⟩
 .exact⟨none,0,by rw[e,h0],by rw[h0];exact lr,mx,fun h=>be⟩
 .exact⟨_,cap,e,U,hm,fun _=>⟨g,rfl⟩⟩
theorem ed.Mu{x:Tx}{t:Tb}(h:ed w S x t)(hW:t.Wf m q):∃a c,x.vb= .slice a m c/\m<=c/\c<=maxLen/\(0<m->∃g,a=some ⟨g,0,none⟩):=by
 obtain⟨tp,cb,cc,ca,hC⟩:=h;exact hC.hd (it:=⟨x.vb,T.int,1,t.bs.length,ints t.bs⟩) (by simp[gL]) hW.bs
theorem ed.KD{x:Tx}{t:Tb}(h:ed w S x t)(hW:t.Wf m q):∃a c,x.vf= .slice a q c/\q<=c/\c<=maxLen/\(0<q->∃g,a=some ⟨g,0,none⟩):=by
 obtain⟨tp,cb,cc,ca,hC⟩:=h;exact hC.hd (it:=⟨x.vf,T.int,1,t.fs.length,ints t.fs⟩) (by simp[gL]) hW.fs
theorem ed.Mv{x:Tx}{t:Tb}(h:ed w S x t)(hW:t.Wf m q):∃a c,x.va= .slice a m c/\m<=c/\c<=maxLen/\(0<m->∃g,a=some ⟨g,0,none⟩):=by
 obtain⟨tp,cb,cc,ca,hC⟩:=h;exact hC.hd (it:=⟨x.va,T.row,1,x.rv.length,x.rv⟩) (by simp[gL]) (hC.rl.trans hW.al)
theorem ed.Mw{x:Tx}{t:Tb}(h:ed w S x t)(hW:t.Wf m q):∃a c,x.vB= .slice a m c/\m<=c/\c<=maxLen/\(0<m->∃g,a=some ⟨g,0,none⟩):=by
 obtain⟨tp,cb,cc,ca,hC⟩:=h;exact hC.hd (it:=fV x.vB cb) (by simp[gL]) (hC.fb.1.trans hW.b)
theorem ed.Ly{x:Tx}{t:Tb}(h:ed w S x t)(hW:t.Wf m q):∃a c,x.vc= .slice a q c/\q<=c/\c<=maxLen/\(0<q->∃g,a=some ⟨g,0,none⟩):=by
 obtain⟨tp,cb,cc,ca,hC⟩:=h;exact hC.hd (it:=fV x.vc cc) (by simp[gL]) (hC.fc.1.trans hW.c)
theorem ed.NR{x:Tx}{t:Tb}{i:Nat}(h:ed w S x t)(hW:t.Wf m q)(R:i<m):∃a c,x.rv[i]? =some (.slice a q c)/\q<=c/\c<=maxLen/\(0<q->∃g,a=some ⟨g,0,none⟩):=by
 obtain⟨tp,cb,cc,ca,hC⟩:=h;obtain⟨v,M,k1,k2,k3,k4⟩:=hC.row (i:=i) (by rw[hW.al];exact R);obtain⟨a,c,e,W⟩:=hC.hd (aG (hC.rowAt k1 k2)) (n:=q) (k3.1.trans (hW.row R));exact⟨a,c,by rw[k1];exact congrArg _ e,W⟩
theorem ed.KC{x:Tx}{t:Tb}(h:ed w S x t)(hW:t.Wf m q)(hm:0<m)(hq:0<q):∃gb cb gf cf ga ca gB cB gc cc,OG x m q gb cb gf cf ga ca gB cB gc cc:=by
 obtain⟨tp,cb,cc,ca,hC⟩:=h;have h4:=hC.fb.1;have h5:=hC.fc.1;rw[hW.b]at h4;rw[hW.c]at h5;obtain⟨g1,c1,e1⟩:=hC.KC (it:=⟨x.vb,T.int,1,t.bs.length,ints t.bs⟩) (by simp[gL]) (by rw[hW.bs];exact hm);obtain⟨g2,c2,e2⟩:=hC.KC (it:=⟨x.vf,T.int,1,t.fs.length,ints t.fs⟩) (by simp[gL]) (by rw[hW.fs];exact hq);obtain⟨g3,c3,e3⟩:=hC.KC (it:=⟨x.va,T.row,1,x.rv.length,x.rv⟩) (by simp[gL]) (by rw[hC.rl,hW.al];exact hm);obtain⟨g4,c4,e4⟩:=hC.KC (it:=fV x.vB cb) (by simp[gL]) (by show 0<cb.length;omega);obtain⟨g5,c5,e5⟩:=hC.KC (it:=fV x.vc cc) (by simp[gL]) (by show 0<cc.length;omega);dsimp only[fV]at e1 e2 e3 e4 e5;rw[hW.bs]at e1;rw[hW.fs]at e2;rw[hC.rl,hW.al]at e3;rw[h4]at e4;rw[h5]at e5;refine⟨g1,c1,g2,c2,g3,c3,g4,c4,g5,c5,e1,e2,e3,e4,e5,fun i R=>?_⟩;obtain⟨v,M,k1,k2,k3,k4⟩:=hC.row (i:=i) (by rw[hW.al];exact R);have hl:=k3.1;rw[hW.row R]at hl;obtain⟨g,c,e⟩:=hC.KC (aG (hC.rowAt k1 k2)) (by show 0<M.length;omega);have e:v= .slice (some ⟨g,0,none⟩) M.length c:=e;exact⟨g,c,by rw[k1,e,hl]⟩
section
variable{S:Nat->Prop}{H:Hp}{nx:Nat}{iv:Iv}{B:Nat}{w J F:World}{O:Nat->Sx.dc}{x:Tx}{t:Tb}{i:Nat}{v:Value}
theorem fL.Fk{w:World}{S:Nat->Prop}(hC:fL w S x t tp cb cc ca)(hm:fV v M∈gL x t tp cb cc ca)(hF:Fr w S M qs):dm w (fun g=>v.ownBlock=some g) S v qs:=by
 have ho:w.ownsRow 0 T.cw 4 v M.length M.flatten:=hC.ows.own _ hm;refine⟨M,?_,hF⟩;rw[<-hF.1];rcases ho.2 with⟨rfl,h0⟩|⟨g,cap,cur,rfl,N,hc,RL,Pu,Od,QJ⟩
 .refine⟨by rw[h0];exact bA _,ho.1,hF.one,none,0,by rw[h0],by rw[h0];exact lr,fun j u hu=>?_⟩;have:=ho.1;rw[h0,Nat.zero_mul]at this;rw[List.eq_nil_of_length_eq_zero this]at hu
  cases hu
 .refine⟨be,ho.1,hF.one,_,cap,rfl,RL,fun j u hu=>⟨_,rfl,rfl,?_⟩⟩;exact ho.cells (g:=g) rfl j u hu
theorem Kept.one{row:Option Nat}(h:w.grownBy F row)(hX:∀g,row=some g->X g):Kept w F X:=Kept.refl.row h hX
theorem fL.apart{w:World}{S:Nat->Prop}(hC:fL w S x t tp cb cc ca){l:Nat}{a b:Ow}(Uy:k≠l)(ha:(gL x t tp cb cc ca)[k]? =some a)(N:(gL x t tp cb cc ca)[l]? =some b)(g:Nat)(W:a.v.ownBlock=some g):¬b.v.ownBlock=some g:=fun I=>Uy (hC.ows.apart k l a b g ha N W I)
theorem cj.tX(hT:cj w S B iv x t)(r:Rel H nx iv B w O J)(L:∀g,S g->g<B)(R:i<t.a.length)(hv:x.rv[i]? =some v)(Om:cY w (Lv S B iv x) vby p)(hq:∀q∈t.a.getD i [],rl q<=10000000000)(N:rl p<=10000000000):
  eD PG Fd.kg #[v,vby] J (fun e F=>e= .returned (.tuple #[])/\Kept J F (Bv x.cX)/\ed F (Nw (Lv S B iv x) J F) x {t with a:=t.a.set i ((t.a.getD i []).map (· *p))}):=by
 have hT':=hT.rel r L;obtain⟨tp,cb,cc,ca,hC⟩:=hT'.iH;obtain⟨v',M,W,I,h3,h4⟩:=hC.row R;rw[W]at hv;injection hv with hv;subst hv;have hI:=hC.rowAt W I;have hm:=aG hI;have Sq:∀g,v'.ownBlock=some g->Bv x.cX g:=fun g V=>by rw[<-hC.cX];exact j0.bk hm V
 refine(Go.Ex.tX (Lv.old r L) (hC.ows.own _ hm) h3 rfl (Om.fz r L) (fun g V hl=>hl.2 (Sq g V)) hq N).mono fun e F G=>?_;obtain⟨rfl,V,css',h5,h6,h7⟩:=G;refine⟨rfl,Kept.one V Sq,tp,cb,cc,_,hC.a' W I h6 V h5 h7 (fun g hl=>V.block g (Lv.old r L g hl) fun e=>hl.2 (Sq g e.symm)) (fun _ h=>.inl h) fun g N U=>?_⟩;rcases U with U|U
 .exact U.2 N
 .have:=hT.low r N;omega
theorem cj.LV(hT:cj w S B iv x t)(r:Rel H nx iv B w O J)(L:∀g,S g->g<B){vs:Value}(R:i<t.a.length)(Z:k<t.a.length)(hik:i≠k)(hv:x.rv[i]? =some v)(QF:x.rv[k]? =some vs)(hl:(t.a.getD k []).length=(t.a.getD i []).length)(Om:cY w (Lv S B iv x) vby p)
  (hq:∀q∈t.a.getD i [],rl q<=2000000000) (hqk:∀q∈t.a.getD k [],rl q<=2000000000) (N:rl p<=2000000000):
  eD PG Fd.kG #[v,vby,vs] J (fun e F=>e= .returned (.tuple #[])/\Kept J F (Bv x.cX)/\ed F (Nw (Lv S B iv x) J F) x {t with a:=t.a.set i (pF (t.a.getD i []) p (t.a.getD k []))}):=by
 have hT':=hT.rel r L;obtain⟨tp,cb,cc,ca,hC⟩:=hT'.iH;obtain⟨v',M,W,I,h3,h4⟩:=hC.row R;rw[W]at hv;injection hv with hv;subst hv;obtain⟨v2,Uj,k1,k2,k3,k4⟩:=hC.row Z;rw[k1]at QF;injection QF with QF;subst QF;have hI:=hC.rowAt W I;have hm:=aG hI;have hI2:=hC.rowAt k1 k2;have SF:=aG hI2;have Sq:∀g,v'.ownBlock=some g->Bv x.cX g:=fun g V=>by rw[<-hC.cX];exact j0.bk hm V
 refine(Go.Ex.Ie (C:=fun g=>v2.ownBlock=some g) (fun g V=>hT.low r (by rw[<-hC.cX];exact j0.bk SF V)) (Lv.old r L) (hC.ows.own _ hm) h3 rfl (Om.fz r L) (fL.Fk hC SF k3) (hl.trans h3.1.symm) (fun g V hl=>hl.2 (Sq g V)) (fun g=>hC.apart be hI hI2 g) hq hqk N).mono fun e F G=>?_;obtain⟨rfl,V,css',h5,h6,h7⟩:=G;refine⟨rfl,Kept.one V Sq,tp,cb,cc,_,hC.a' W I h6 V h5 h7 (fun g hl=>V.block g (Lv.old r L g hl) fun e=>hl.2 (Sq g e.symm)) (fun _ h=>.inl h) fun g N U=>?_⟩;rcases U with U|U
 .exact U.2 N
 .have:=hT.low r N;omega
theorem cj.Ig(hT:cj w S B iv x t)(r:Rel H nx iv B w O J)(L:∀g,S g->g<B){vc vs:Value}(WQ:x.vc=vc)(Z:k<t.a.length)(QF:x.rv[k]? =some vs)(hl:(t.a.getD k []).length=t.c.length)(Om:cY w (Lv S B iv x) vby p)
  (hq:∀q∈t.c,rl q<=2000000000) (hqk:∀q∈t.a.getD k [],rl q<=2000000000) (N:rl p<=2000000000):
  eD PG Fd.kG #[vc,vby,vs] J (fun e F=>e= .returned (.tuple #[])/\Kept J F (Bv x.cX)/\ed F (Nw (Lv S B iv x) J F) x {t with c:=pF t.c p (t.a.getD k [])}):=by
 subst WQ;have hT':=hT.rel r L;obtain⟨tp,cb,cc,ca,hC⟩:=hT'.iH;obtain⟨v2,Uj,k1,k2,k3,k4⟩:=hC.row Z;rw[k1]at QF;injection QF with QF;subst QF;have hI:(gL x t tp cb cc ca)[5]? =some (fV x.vc cc):=rfl;have hm:=aG hI;have hI2:=hC.rowAt k1 k2;have SF:=aG hI2;have Sq:∀g,x.vc.ownBlock=some g->Bv x.cX g:=fun g V=>by rw[<-hC.cX];exact j0.bk hm V
 refine(Go.Ex.Ie (C:=fun g=>v2.ownBlock=some g) (fun g V=>hT.low r (by rw[<-hC.cX];exact j0.bk SF V)) (Lv.old r L) (hC.ows.own _ hm) hC.fc rfl (Om.fz r L) (fL.Fk hC SF k3) (hl.trans hC.fc.1.symm) (fun g V hl=>hl.2 (Sq g V)) (fun g=>hC.apart (show 5≠k+6 by omega) hI hI2 g) hq hqk N).mono fun e F G=>?_;obtain⟨rfl,V,css',h5,h6,h7⟩:=G;refine⟨rfl,Kept.one V Sq,tp,cb,_,ca,hC.c' h6 V h5 h7 (fun g hl=>V.block g (Lv.old r L g hl) fun e=>hl.2 (Sq g e.symm)) (fun _ h=>.inl h) fun g N U=>?_⟩;rcases U with U|U
 .exact U.2 N
 .have:=hT.low r N;omega
theorem cj.out{w0:World}{t0:Tb}(h:cj w S w0.heap.size iv x t)(h0:ed w0 S x t0)(r:Rel H nx iv w0.heap.size w O J)(L:Old S w0):ed J (Nw S w0 J) x t:=
 (h.rel r L).iH.cO (fun _ V=>V.nw r) fun g N U=>U.elim (fun hs=>h0.off N hs) fun hs=>by have:=h0.low N;omega
end
theorem BW{x:Tx}{t:Tb}{u s h:Nat}(RR:Old S w)(PM:ed w S x t)(hW:t.Wf m q)(hr:u<m)(hs:s<q)(h0:dZ t.a u s≠0)(hm:m<=1000)(hq:q<=1000)(hH:t.uI h)(I:2<=h)(hh:h<=100000000):
  eD PG Fd.ma #[.pointer (some ⟨x.g,0,none⟩),iV u,iV s] w (fun e F=>e= .returned (.tuple #[])/\Kept w F (Bv x.cX)/\ed F (Nw S w F) x (t.fx u s)):=by
 have L:=RR;obtain⟨gb,cb,gf,cf,ga,ca,gB,cB,gc,cc,hA⟩:=PM.KC hW be be;have hT:=cj.arg PM;have Z:Kept w w (Bv x.cX):=Kept.refl;obtain⟨gr,cr,VB⟩:=hA.row u hr;have SB:=hW.al;have OQ:=hW.b;have Pt:=hW.fs;have Sv:=hW.bs;have QM:=hW.c;have QG:=hW.row hr;have Oq:=hH.dZ I u s;have Ux:=hH.LH I u;have Oz:=hH.cat I s;have hinv:=uD h0;refine qX ce ?_;obtain⟨p1,p2,p3,p4,p5,p6,p7,p8,S4,hP⟩:=hT.eA L (i:=u) (j:=s) be be VB;refine⟨_,fun O J r=>hT.f2 L hA.a r,_,rfl,be,_,fun O J r=>hT.cA L VB hA.a r,_,rfl,be,rC p1 p2 p3 p4 p5 p6 p7 p8,rfl,fun O J r j x E=>S4 r j x E,?_⟩;refine dP (idO 28) ?_;refine⟨_,fun O J r=>hT.f0 L hA.b r,_,fun O J r=>hT.f1 L hA.f r,_,fun O J r=>hT.f1 L hA.f r,_,rfl,be,_,fun O J r=>hT.Lx L (i:=s) (by first|omega|(dsimp only;omega)) hA.f r,_,fun O J r=>hT.f0 L hA.b r,_,rfl,be,_,fun O J r=>hT.LU L (i:=u) (by first|omega|(dsimp only;omega)) hA.b r,_,rfl,be,?_⟩;intro O J r;obtain⟨k1,k2,k3,k4⟩:=hT.NN L r (ad:=Addr.add ⟨gb,0,none⟩ (((u:Nat):Int).toNat*1)) (i:=u) (n:=t.fs.getD s 0) (by first|omega|(dsimp only;omega)) hA.b (by rw[Int.toNat_natCast,cd,Nat.zero_add]);refine⟨k1,k2,k3,fun w4 OZ=>?_⟩;obtain⟨Qq,Ot,QO⟩:=k4 w4 OZ;replace hP:=hP.cP QO;replace Z:=(Kept.cV r.cV Z lr).trans Ot;clear k1 k2 k3 k4 QO Ot OZ r;clear hT;have hT:=Qq;clear Qq;refine⟨_,rfl,be,?_⟩;intro O J r;obtain⟨k1,k2,k3,k4⟩:=hT.NO L r (ad:=Addr.add ⟨gf,0,none⟩ (((s:Nat):Int).toNat*1)) (i:=s) (n:=t.bs.getD u 0) (by first|omega|(dsimp only;omega)) hA.f (by rw[Int.toNat_natCast,cd,Nat.zero_add]);refine⟨k1,k2,k3,fun w4 OZ=>?_⟩;obtain⟨Qq,Ot,QO⟩:=k4 w4 OZ;replace hP:=hP.cP QO;replace Z:=(Kept.cV r.cV Z lr).trans Ot;clear k1 k2 k3 k4 QO Ot OZ r;clear hT;have hT:=Qq;clear Qq;refine dP [.x 1,.p 3,.x 0,.x 2,.x 3,.x 4] ?_;refine cN (I9:=fun _ J v F=>cY F (Nf J F) v ((1:Int):Rat)) (fun O J r=>iD 1 J bv bv) ?_;rintro O On v1 Oi r G N U;have hO:=U.s5 hT r;replace hP:=hP.jQ (K:=(On.heap.size,Oi.heap.size)::[]) r L G fun x E=>aD _ E;replace hT:=hT.cL (K:=(On.heap.size,Oi.heap.size)::[]) r L G fun x E=>aD _ E;replace Z:=Kept.cV N Z lr;clear r G N U;generalize (On.heap.size,Oi.heap.size)::[]=OS at*
 obtain⟨o1,o2,o3,o4,o5,o6,o7,o8,rfl⟩:=hO.shape;refine cN (I9:=fun _ J v F=>cY F (Nf J F) v (((1:Int):Rat) / dZ t.a u s)) (fun O J r=>Fg (Lv.old r L) (hO.fz r L) (hP.fz r L) bv be h0) ?_;rintro O Pc v2 PK r G N U;have hI:=U.s5 hT r;clear hO;clear hP;replace hT:=hT.cL (K:=(Pc.heap.size,PK.heap.size)::OS) r L G fun x E=>aD _ E;replace Z:=Kept.cV N Z lr;clear r G N U;generalize (Pc.heap.size,PK.heap.size)::OS=iv2 at*
 obtain⟨i1,i2,i3,i4,i5,i6,i7,i8,rfl⟩:=hI.shape;refine dP (idO 11) ?_;refine⟨_,fun O J r=>hT.f2 L hA.a r,_,rfl,be,_,fun O J r=>hT.cA L VB hA.a r,?_⟩;refine cN (I9:=fun _ J v F=>cY F (Nf J F) v ((1:Int):Rat)) (fun O J r=>iD 1 J bv bv) ?_;rintro O PT v3 PX r G N U;have hO:=U.s5 hT r;replace hI:=hI.jQ (K:=(PT.heap.size,PX.heap.size)::iv2) r L G fun x E=>aD _ E;replace hT:=hT.cL (K:=(PT.heap.size,PX.heap.size)::iv2) r L G fun x E=>aD _ E;replace Z:=Kept.cV N Z lr;clear r G N U;generalize (PT.heap.size,PX.heap.size)::iv2=OR at*
 obtain⟨l1,l2,l3,l4,l5,l6,l7,l8,rfl⟩:=hO.shape;rw[show ((1:Int):Rat)=1 by decide]at hO hI;refine⟨_,rfl,be,?_⟩;intro O J r;obtain⟨k1,k2,k3,k4⟩:=hT.Np L r (ad:=Addr.add ⟨gr,0,none⟩ (((s:Nat):Int).toNat*4)) (i:=u) (j:=s) (by first|omega|(dsimp only;omega)) (by first|omega|(dsimp only;omega)) VB hO.four (by rw[Int.toNat_natCast,cd,Nat.zero_add]);refine⟨k1,k2,k3,fun w4 OZ=>?_⟩;obtain⟨Qq,Ot,QO⟩:=k4 w4 OZ;replace hI:=hI.cP QO;replace hO:=hO.cP QO;replace Z:=(Kept.cV r.cV Z lr).trans Ot;clear k1 k2 k3 k4 QO Ot OZ r;clear hT;have hT:=Qq;clear Qq;clear hO
 try dsimp only at hT
 refine dP (idO 9) ?_;refine⟨_,fun O J r=>hT.f2 L hA.a r,_,rfl,be,_,fun O J r=>hT.cA L VB hA.a r,?_⟩;refine⟨fun O J r=>?_⟩;refine(hT.tX r L (by dsimp only;rw[List.length_set];omega) VB hI (fun y hy=>by have:=hH.LI (z:=1) (by rw[Du];exact I) u s y hy;omega) be).mono fun e w8 G=>?_;obtain⟨rfl,PU,PJ⟩:=G;refine⟨.tuple #[],_,(J.heap.size,w8.heap.size)::OR,rfl,r.fU (hT.not r) PU,?_⟩;replace hI:=hI.Fi r L PU;replace PJ:=hT.eX r PJ;replace Z:=(Kept.cV r.cV Z lr).trans PU;clear hT PU;have hT:=PJ;clear PJ r;generalize (J.heap.size,w8.heap.size)::OR=Ob at*
 refine dP (idO 16) ?_;obtain⟨b1,b2,b3,b4,b5,b6,b7,b8,hEb,hB⟩:=hT.eB L (j:=u) (by first|omega|(dsimp only;omega)) hA.B;refine⟨_,fun O J r=>hT.f3 L hA.B r,_,fun O J r=>hT.f3 L hA.B r,_,rfl,be,rC b1 b2 b3 b4 b5 b6 b7 b8,rfl,fun O J r j x E=>hEb r j x E,?_⟩;refine cN (I9:=fun _ J v F=>cY F (Nf J F) v (t.b.getD u 0*(1 / dZ t.a u s))) (fun O J r=>nd (Lv.old r L) (hB.fz r L) (hI.fz r L) be be) ?_;rintro O UL v5 UM r G N U;have hN:=U.s5 hT r;clear hB;clear hI;replace hT:=hT.cL (K:=(UL.heap.size,UM.heap.size)::Ob) r L G fun x E=>aD _ E;replace Z:=Kept.cV N Z lr;clear r G N U;generalize (UL.heap.size,UM.heap.size)::Ob=Of at*
 obtain⟨n1,n2,n3,n4,n5,n6,n7,n8,rfl⟩:=hN.shape;refine⟨_,rfl,be,?_⟩;intro O J r;obtain⟨k1,k2,k3,k4⟩:=hT.Nn L r (ad:=Addr.add ⟨gB,0,none⟩ (((u:Nat):Int).toNat*4)) (j:=u) (by first|omega|(dsimp only;omega)) hA.B hN.four (by rw[Int.toNat_natCast,cd,Nat.zero_add]);refine⟨k1,k2,k3,fun w4 OZ=>?_⟩;obtain⟨Qq,Ot,QO⟩:=k4 w4 OZ;replace hN:=hN.cP QO;replace Z:=(Kept.cV r.cV Z lr).trans Ot;clear k1 k2 k3 k4 QO Ot OZ r;clear hT;have hT:=Qq;clear Qq;clear hN;replace hT:=hT.cast (Tb.Jq (t:=t) (r:=u) (s:=s) be);refine⟨_,fun O J r=>hT.f2 L hA.a r,Nat×World×Iv,fun z=>⟨[(0,.o (.v (.pointer (some ⟨x.g,0,none⟩)))),(1,.o (.v (iV (u:Int)))),(2,.o (.v (iV (s:Int)))),(88,.o (.v (iV (m:Int)))),(89,.o (.v (iV (z.1:Int))))],[],2,z.2.2,z.2.1⟩,fun z=>m-z.1,fun z=>z.1<=m/\Kept w z.2.1 (Bv x.cX)/\cj z.2.1 S w.heap.size z.2.2 x (t.pT u s z.1),?_,?_⟩
 .intro O J r;exact⟨(0,J,_),⟨bA _,Kept.cV r.cV Z lr,hT.rel r L⟩,sbgn [] r⟩
 clear hT Z S4;rintro⟨i,w1,iv⟩ ⟨R,Z,hT⟩;dsimp only at R Z hT ⊢;obtain⟨P,VC⟩:∃P,P=t.pT u s i:=⟨_,rfl⟩
 rw[<-VC]at hT;have hPW:P.Wf m q:=by rw[VC];exact hW.pT hr
 have hPal:=hPW.al;have hPbl:=hPW.b;have hPcl:=hPW.c;have hPar:P.a.getD u []=t.ke u s:=by rw[VC,Tb.IF be]
 have hPbr:P.b.getD u 0=t.bP u s:=by rw[VC,Tb.IG be]
 have hru:∀y∈P.a.getD u [],rl y<=2*h:=by rw[hPar];exact hH.ke I h0
 have hbu:rl (P.b.getD u 0)<=2*h:=by
  rw[hPbr];have:=jv (t.b.getD u 0) (1 / dZ t.a u s);unfold Tb.bP;omega
 have hPru:=hPW.row hr;apply bS<;>intro OJ
 .have OJ:=dL OJ;apply bS<;>intro WR
  .have WR:i=u:=by
    have h4:((i:Int)==(u:Int))=true:=by simpa using WR
    have:=eq_of_beq h4;omega
   refine inc i ?_;intro IR w3 r3;exact⟨(i+1,w3,_),⟨OJ,Kept.cV r3.cV Z lr,(hT.cast (VC.trans (Tb.Jr WR))).rel r3 L⟩,sbgn [] r3,dec OJ⟩
  have WR:i≠u:=fun e=>by
   have:(((i:Int)==(u:Int))=true):=by rw[e];simp
   exact absurd (by simpa using this) (by simpa using WR)
  obtain⟨gi,ci,RS⟩:=hA.row i OJ;have hPri:=hPW.row OJ;have XX:P.a.getD i []=t.a.getD i []:=by rw[VC,Tb.Ke be WR (ae i)]
  have UY:rl (P.b.getD i 0)+1<=h:=by rw[VC,Tb.Kf be WR (ae i)];exact hH.LH I i
  have TA:rl (dZ P.a i s)+1<=h:=by unfold dZ;rw[XX];exact hH.dZ I i s
  obtain⟨p1,p2,p3,p4,p5,p6,p7,p8,S4,hQ⟩:=hT.eA L (i:=i) (j:=s) be be RS;refine⟨_,fun O J r=>hT.f2 L hA.a r,_,rfl,be,_,fun O J r=>hT.cA L RS hA.a r,_,rfl,be,rC p1 p2 p3 p4 p5 p6 p7 p8,rfl,fun O J r j x E=>S4 r j x E,?_⟩;refine cM (cN (I9:=fun _ J v F=>cY F (Nw (Lv S w.heap.size iv x) J F) v (-(dZ P.a i s))) (fun O J r=>kV (Lv.old r L) (hQ.fz r L)) ?_);rintro O SD v6 SE r G N U;have hK:=U.LR hT r;clear hQ;replace hT:=hT.cL (K:=(SD.heap.size,SE.heap.size)::iv) r L G fun x E=>aD _ E;replace Z:=Kept.cV N Z lr;clear r G N U;generalize (SD.heap.size,SE.heap.size)::iv=PL at*
  obtain⟨k1,k2,k3,k4,k5,k6,k7,k8,rfl⟩:=hK.shape;refine dP (idO 11) ?_;refine⟨_,fun O J r=>hT.f2 L hA.a r,_,rfl,be,_,fun O J r=>hT.cA L RS hA.a r,?_⟩;refine cN (I9:=fun _ J v F=>cY F (Nf J F) v ((0:Int):Rat)) (fun O J r=>iD 0 J bv bv) ?_;rintro O Sj v7 Sk r G N U;have hO:=U.s5 hT r;replace hK:=hK.jQ (K:=(Sj.heap.size,Sk.heap.size)::PL) r L G fun x E=>aD _ E;replace hT:=hT.cL (K:=(Sj.heap.size,Sk.heap.size)::PL) r L G fun x E=>aD _ E;replace Z:=Kept.cV N Z lr;clear r G N U;generalize (Sj.heap.size,Sk.heap.size)::PL=QB at*
  obtain⟨l1,l2,l3,l4,l5,l6,l7,l8,rfl⟩:=hO.shape;rw[show ((0:Int):Rat)=0 by decide]at hO;refine⟨_,rfl,be,?_⟩;intro O J r;obtain⟨k1,k2,k3,k4⟩:=hT.Np L r (ad:=Addr.add ⟨gi,0,none⟩ (((s:Nat):Int).toNat*4)) (i:=i) (j:=s) (by first|omega|(dsimp only;omega)) (by first|omega|(dsimp only;omega)) RS hO.four (by rw[Int.toNat_natCast,cd,Nat.zero_add]);refine⟨k1,k2,k3,fun w4 OZ=>?_⟩;obtain⟨Qq,Ot,QO⟩:=k4 w4 OZ;replace hK:=hK.cP QO;replace hO:=hO.cP QO;replace Z:=(Kept.cV r.cV Z lr).trans Ot;clear k1 k2 k3 k4 QO Ot OZ r;clear hT;have hT:=Qq;clear Qq;clear hO
  try dsimp only at hT
  have e1:(P.a.set i ((P.a.getD i []).set s 0)).getD u []=P.a.getD u []:=by rw[lS,aK (fun e=>WR e.1)]
  have e2:(P.a.set i ((P.a.getD i []).set s 0)).getD i []=(P.a.getD i []).set s 0:=by rw[lS,aM ⟨rfl,be⟩]
  refine dP (idO 16) ?_;refine⟨_,fun O J r=>hT.f2 L hA.a r,_,rfl,be,_,fun O J r=>hT.cA L RS hA.a r,_,fun O J r=>hT.f2 L hA.a r,_,rfl,be,_,fun O J r=>hT.cA L VB hA.a r,?_⟩;refine⟨fun O J r=>?_⟩;refine(hT.LV r L (i:=i) (k:=u) (by dsimp only;rw[List.length_set];omega) (by dsimp only;rw[List.length_set];omega) WR RS VB (by dsimp only;rw[e1,e2,List.length_set,hPri,hPru]) hK (by dsimp only;rw[e2];intro y hy;rcases bH hy with W|W;have:=hH.Jt i y (by rw[<-XX];exact W);omega;rw[W];decide) (by dsimp only;rw[e1];intro y hy;have:=hru y hy;omega) (by rw[jM];omega)).mono fun e w8 G=>?_;obtain⟨rfl,PU,PJ⟩:=G;refine⟨.tuple #[],_,(J.heap.size,w8.heap.size)::QB,rfl,r.fU (hT.not r) PU,?_⟩;replace hK:=hK.Fi r L PU;replace PJ:=hT.eX r PJ;replace Z:=(Kept.cV r.cV Z lr).trans PU;clear hT PU;have hT:=PJ;clear PJ r;generalize (J.heap.size,w8.heap.size)::QB=RT at*
  refine dP (idO 24) ?_;obtain⟨b1,b2,b3,b4,b5,b6,b7,b8,hEb,hB⟩:=hT.eB L (j:=i) (by first|omega|(dsimp only;omega)) hA.B;obtain⟨c1,c2,c3,c4,c5,c6,c7,c8,hEc,hC⟩:=hT.eB L (j:=u) (by first|omega|(dsimp only;omega)) hA.B;refine⟨_,fun O J r=>hT.f3 L hA.B r,_,fun O J r=>hT.f3 L hA.B r,_,rfl,be,rC b1 b2 b3 b4 b5 b6 b7 b8,rfl,fun O J r j x E=>hEb r j x E,_,fun O J r=>hT.f3 L hA.B r,_,rfl,be,rC c1 c2 c3 c4 c5 c6 c7 c8,rfl,fun O J r j x E=>hEc r j x E,?_⟩;have SM:=jv (-(dZ P.a i s)) (P.b.getD u 0);rw[jM]at SM;refine cN (I9:=fun _ J v F=>cY F (Nf J F) v (-(dZ P.a i s)*P.b.getD u 0)) (fun O J r=>nd (Lv.old r L) (hK.fz r L) (hC.fz r L) (by rw[jM];omega) (by first|omega|(dsimp only;omega))) ?_;rintro O SN v9 SO r G N U;have hM:=U.s5 hT r;clear hK;clear hC;replace hB:=hB.jQ (K:=(SN.heap.size,SO.heap.size)::RT) r L G fun x E=>aD _ E;replace hT:=hT.cL (K:=(SN.heap.size,SO.heap.size)::RT) r L G fun x E=>aD _ E;replace Z:=Kept.cV N Z lr;clear r G N U;generalize (SN.heap.size,SO.heap.size)::RT=Ta at*
  obtain⟨m1,m2,m3,m4,m5,m6,m7,m8,rfl⟩:=hM.shape;refine cN (I9:=fun _ J v F=>cY F (Nf J F) v (P.b.getD i 0+ -(dZ P.a i s)*P.b.getD u 0)) (fun O J r=>wj (Lv.old r L) (hB.fz r L) (hM.fz r L) (by first|omega|(dsimp only;omega)) be) ?_;rintro O Rq v10 Rr r G N U;have hN:=U.s5 hT r;clear hB;clear hM;replace hT:=hT.cL (K:=(Rq.heap.size,Rr.heap.size)::Ta) r L G fun x E=>aD _ E;replace Z:=Kept.cV N Z lr;clear r G N U;generalize (Rq.heap.size,Rr.heap.size)::Ta=SP at*
  obtain⟨n1,n2,n3,n4,n5,n6,n7,n8,rfl⟩:=hN.shape;refine⟨_,rfl,be,?_⟩;intro O J r;obtain⟨k1,k2,k3,k4⟩:=hT.Nn L r (ad:=Addr.add ⟨gB,0,none⟩ (((i:Nat):Int).toNat*4)) (j:=i) (by first|omega|(dsimp only;omega)) hA.B hN.four (by rw[Int.toNat_natCast,cd,Nat.zero_add]);refine⟨k1,k2,k3,fun w4 OZ=>?_⟩;obtain⟨Qq,Ot,QO⟩:=k4 w4 OZ;replace hN:=hN.cP QO;replace Z:=(Kept.cV r.cV Z lr).trans Ot;clear k1 k2 k3 k4 QO Ot OZ r;clear hT;have hT:=Qq;clear Qq;clear hN;refine inc i ?_;intro IR w3 r3;exact⟨(i+1,w3,_),⟨OJ,Kept.cV r3.cV Z lr,(hT.cast (Tb.Js be be be WR P VC)).rel r3 L⟩,sbgn [] r3,dec OJ⟩
 have OJ:=dE R OJ;have hcq:P.c.getD s 0=t.c.getD s 0:=by rw[VC];rfl
 have hcl2:∀y∈P.c,rl y+1<=h:=by rw[VC];exact hH.c
 have htl:rl P.top+1<=h:=by rw[VC];exact hH.top
 obtain⟨p1,p2,p3,p4,p5,p6,p7,p8,S4,hQ⟩:=hT.eC L (j:=s) be hA.c;refine⟨_,fun O J r=>hT.f4 L hA.c r,_,rfl,be,rC p1 p2 p3 p4 p5 p6 p7 p8,rfl,fun O J r j x E=>S4 r j x E,?_⟩;refine dP (idO 8) ?_;refine⟨_,fun O J r=>hT.f4 L hA.c r,?_⟩;refine cN (I9:=fun _ J v F=>cY F (Nf J F) v ((0:Int):Rat)) (fun O J r=>iD 0 J bv bv) ?_;rintro O SD v6 SE r G N U;have hO:=U.s5 hT r;replace hQ:=hQ.jQ (K:=(SD.heap.size,SE.heap.size)::iv) r L G fun x E=>aD _ E;replace hT:=hT.cL (K:=(SD.heap.size,SE.heap.size)::iv) r L G fun x E=>aD _ E;replace Z:=Kept.cV N Z lr;clear r G N U;generalize (SD.heap.size,SE.heap.size)::iv=PL at*
 obtain⟨l1,l2,l3,l4,l5,l6,l7,l8,rfl⟩:=hO.shape;rw[show ((0:Int):Rat)=0 by decide]at hO;refine⟨_,rfl,be,?_⟩;intro O J r;obtain⟨k1,k2,k3,k4⟩:=hT.No L r (ad:=Addr.add ⟨gc,0,none⟩ (((s:Nat):Int).toNat*4)) (j:=s) (by first|omega|(dsimp only;omega)) hA.c hO.four (by rw[Int.toNat_natCast,cd,Nat.zero_add]);refine⟨k1,k2,k3,fun w4 OZ=>?_⟩;obtain⟨Qq,Ot,QO⟩:=k4 w4 OZ;replace hQ:=hQ.cP QO;replace hO:=hO.cP QO;replace Z:=(Kept.cV r.cV Z lr).trans Ot;clear k1 k2 k3 k4 QO Ot OZ r;clear hT;have hT:=Qq;clear Qq;clear hO
 try dsimp only at hT
 refine dP [.x 0,.x 1,.x 2,.x 3,.x 4,.x 6,.x 7,.x 8,.x 9,.x 10,.x 11,.x 12,.x 5,.x 13] ?_;refine⟨_,fun O J r=>hT.f4 L hA.c r,_,fun O J r=>hT.f2 L hA.a r,_,rfl,be,_,fun O J r=>hT.cA L VB hA.a r,?_⟩;refine cN (I9:=fun _ J v F=>cY F (Nw (Lv S w.heap.size PL x) J F) v (-(P.c.getD s 0))) (fun O J r=>kV (Lv.old r L) (hQ.fz r L)) ?_;rintro O Sj v7 Sk r G N U;have hK:=U.LR hT r;replace hQ:=hQ.jQ (K:=(Sj.heap.size,Sk.heap.size)::PL) r L G fun x E=>aD _ E;replace hT:=hT.cL (K:=(Sj.heap.size,Sk.heap.size)::PL) r L G fun x E=>aD _ E;replace Z:=Kept.cV N Z lr;clear r G N U;generalize (Sj.heap.size,Sk.heap.size)::PL=QB at*
 obtain⟨k1,k2,k3,k4,k5,k6,k7,k8,rfl⟩:=hK.shape;refine⟨fun O J r=>?_⟩;refine(hT.Ig r L (k:=u) hA.c (by first|omega|(dsimp only;omega)) VB (by dsimp only;rw[List.length_set,hPru,hPcl]) hK (by dsimp only;intro y hy;rcases List.mem_or_eq_of_mem_set hy with W|W;have:=hcl2 y W;omega;rw[W];decide) (by dsimp only;intro y hy;have:=hru y hy;omega) (by rw[jM,hcq];omega)).mono fun e w8 G=>?_;obtain⟨rfl,PU,PJ⟩:=G;refine⟨.tuple #[],_,(J.heap.size,w8.heap.size)::QB,rfl,r.fU (hT.not r) PU,?_⟩;clear hK;replace hQ:=hQ.Fi r L PU;replace PJ:=hT.eX r PJ;replace Z:=(Kept.cV r.cV Z lr).trans PU;clear hT PU;have hT:=PJ;clear PJ r;generalize (J.heap.size,w8.heap.size)::QB=RT at*
 refine dP (idO 18) ?_;obtain⟨t1,t2,t3,t4,t5,t6,t7,t8,Wm,hY⟩:=hT.Mt L;obtain⟨c1,c2,c3,c4,c5,c6,c7,c8,hEc,hC⟩:=hT.eB L (j:=u) (by first|omega|(dsimp only;omega)) hA.B;refine⟨rC t1 t2 t3 t4 t5 t6 t7 t8,rfl,fun O J r j x E=>Wm r j x E,_,fun O J r=>hT.f3 L hA.B r,_,rfl,be,rC c1 c2 c3 c4 c5 c6 c7 c8,rfl,fun O J r j x E=>hEc r j x E,?_⟩;have SM:=jv (P.c.getD s 0) (P.b.getD u 0);rw[hcq]at SM;refine cN (I9:=fun _ J v F=>cY F (Nf J F) v (P.c.getD s 0*P.b.getD u 0)) (fun O J r=>nd (Lv.old r L) (hQ.fz r L) (hC.fz r L) (by rw[hcq];omega) (by first|omega|(dsimp only;omega))) ?_;rintro O SN v9 SO r G N U;have hM:=U.s5 hT r;clear hQ;clear hC;replace hY:=hY.jQ (K:=(SN.heap.size,SO.heap.size)::RT) r L G fun x E=>aD _ E;replace hT:=hT.cL (K:=(SN.heap.size,SO.heap.size)::RT) r L G fun x E=>aD _ E;replace Z:=Kept.cV N Z lr;clear r G N U;generalize (SN.heap.size,SO.heap.size)::RT=Ta at*
 obtain⟨m1,m2,m3,m4,m5,m6,m7,m8,rfl⟩:=hM.shape;refine cN (I9:=fun _ J v F=>cY F (Nf J F) v (P.top+P.c.getD s 0*P.b.getD u 0)) (fun O J r=>wj (Lv.old r L) (hY.fz r L) (hM.fz r L) (by first|omega|(dsimp only;omega)) (by rw[hcq];omega)) ?_;rintro O Rq v10 Rr r G N U;have hN:=U.s5 hT r;clear hY;clear hM;replace hT:=hT.cL (K:=(Rq.heap.size,Rr.heap.size)::Ta) r L G fun x E=>aD _ E;replace Z:=Kept.cV N Z lr;clear r G N U;generalize (Rq.heap.size,Rr.heap.size)::Ta=SP at*
 obtain⟨n1,n2,n3,n4,n5,n6,n7,n8,rfl⟩:=hN.shape;intro O J r;obtain⟨k1,k2,k3,k4⟩:=hT.NP L r (ad:=Addr.add ⟨x.g,0,none⟩ 5) hN.four (by rw[cd,aR]);refine⟨k1,k2,k3,fun w4 OZ=>?_⟩;obtain⟨Qq,Ot,QO⟩:=k4 w4 OZ;replace hN:=hN.cP QO;replace Z:=(Kept.cV r.cV Z lr).trans Ot;clear k1 k2 k3 k4 QO Ot OZ r;clear hT;have hT:=Qq;clear Qq;intro O J r;exact⟨rfl,Kept.cV r.cV Z lr,(hT.cast (Tb.LG be be P (by rw[VC,OJ,SB]))).out PM r L⟩
def pN(o:Option Nat):Int:=match o with
 |some k=>(k:Int)
 |none=> -1
theorem j7(k:Nat):pN (some k)=(k:Int):=rfl
theorem EN{x:Tx}{t:Tb}(RR:Old S w)(PM:ed w S x t)(hW:t.Wf m q)(hq:q<=1000):
  eD PG Fd.kP #[.pointer (some ⟨x.g,0,none⟩)] w (eL w fun v _=>v=iV (pN t.DY)):=by
 have L:=RR;have Y:=bR w;have Pt:=hW.fs;have QM:=hW.c;obtain⟨ac,cc,WQ,Uc,-,XY⟩:=PM.Ly hW;obtain⟨af,cf,UN,hcf,-,haf⟩:=PM.KD hW;have hT:=cj.arg PM;refine nV ce ?_;refine⟨_,fun O J r=>hT.f4 L WQ r,Nat×World×Iv,fun z=>⟨[(0,.o (.v (.pointer (some ⟨x.g,0,none⟩)))),(3,.o (.v (iV (pN (lg (fun j=>t.c.getD j 0) (fun j=>t.fs.getD j 0) z.1))))),(9,sV ac q cc),(10,.o (.v (iV (q:Int)))),(11,.o (.v (iV (z.1:Int))))],[],0,z.2.2,z.2.1⟩,fun z=>q-z.1,fun z=>z.1<=q/\Bq w z.2.1/\cj z.2.1 S w.heap.size z.2.2 x t,?_,?_⟩
 .intro O J r;exact⟨(0,J,_),⟨bA _,Y.tr r.cV,hT.rel r L⟩,sbgn [] r⟩
 clear hT Y;rintro⟨i,w1,iv⟩ ⟨R,Y,hT⟩;dsimp only at R Y hT ⊢;obtain⟨o,ho⟩:∃o,o=lg (fun j=>t.c.getD j 0) (fun j=>t.fs.getD j 0) i:=⟨_,rfl⟩
 rw[<-ho];apply bS<;>intro OJ
 .have OJ:=dL OJ;obtain⟨gc,rfl⟩:=XY be;obtain⟨gf,rfl⟩:=haf be;obtain⟨p1,p2,p3,p4,p5,p6,p7,p8,S4,hF⟩:=hT.eC L (j:=i) (by first|omega|(dsimp only;omega)) WQ;refine⟨_,rfl,be,rC p1 p2 p3 p4 p5 p6 p7 p8,rfl,fun O J r j x E=>S4 r j x E,?_⟩;refine dP (idO 24) ?_;refine cN (I9:=fun _ J v F=>v=iV (rs (t.c.getD i 0))) (fun O J r=>lM (Lv.old r L) (hF.fz r L)) ?_;rintro O On v1 Oi r G N rfl;clear hF;replace hT:=hT.cL (K:=(On.heap.size,Oi.heap.size)::iv) r L G fun x E=>aD _ E;replace Y:=Y.tr N;clear r G N;generalize (On.heap.size,Oi.heap.size)::iv=OS at*
  conv=>whnf
  split
  .rename_i hs;have hs:0<t.c.getD i 0:=mI.1 (aI hs)
   cases o with
   |none=>
    conv=>whnf
    have PZ:lg (fun j=>t.c.getD j 0) (fun j=>t.fs.getD j 0) (i+1)=some i:=by rw[lg,<-ho];(try dsimp only);rw[if_pos hs]
    refine inc i ?_;intro IR w3 r3;exact⟨(i+1,w3,_),⟨OJ,Y.tr r3.cV,hT.rel r3 L⟩,sbgn [] r3 (hE:=⟨rfl,by dsimp only;rw[PZ];rfl,rfl,rfl,rfl,trivial⟩),dec OJ⟩
   |some k=>
    have TA:k<i:=(jw ho.symm).1;refine⟨_,fun O J r=>hT.f1 L UN r,_,rfl,be,_,fun O J r=>hT.Lx L (i:=i) be UN r,_,fun O J r=>hT.f1 L UN r,_,rfl,⟨by rw[j7];omega,by rw[j7];omega⟩,_,fun O J r=>hT.Lx L (i:=k) be UN r,?_⟩;apply bS<;>intro Oo
    .have Oo:t.fs.getD i 0<t.fs.getD k 0:=by simpa using Oo
     have PZ:lg (fun j=>t.c.getD j 0) (fun j=>t.fs.getD j 0) (i+1)=some i:=by rw[lg,<-ho];(try dsimp only);rw[if_pos ⟨hs,Oo⟩]
     refine inc i ?_;intro IR w3 r3;exact⟨(i+1,w3,_),⟨OJ,Y.tr r3.cV,hT.rel r3 L⟩,sbgn [] r3 (hE:=⟨rfl,by dsimp only;rw[PZ];rfl,rfl,rfl,rfl,trivial⟩),dec OJ⟩
    have Oo:¬t.fs.getD i 0<t.fs.getD k 0:=by simpa using Oo
    have PZ:lg (fun j=>t.c.getD j 0) (fun j=>t.fs.getD j 0) (i+1)=some k:=by rw[lg,<-ho];(try dsimp only);rw[if_neg fun h=>Oo h.2]
    refine inc i ?_;intro IR w3 r3;exact⟨(i+1,w3,_),⟨OJ,Y.tr r3.cV,hT.rel r3 L⟩,sbgn [] r3 (hE:=⟨rfl,by dsimp only;rw[PZ];rfl,rfl,rfl,rfl,trivial⟩),dec OJ⟩
  rename_i hs;have hs:¬0<t.c.getD i 0:=fun h=>absurd (mI.2 h) (aL hs);have PZ:lg (fun j=>t.c.getD j 0) (fun j=>t.fs.getD j 0) (i+1)=o:=by rw[lg,<-ho];(try dsimp only);cases o with
   |none=>rw[aK hs]
   |some k=>dsimp only;rw[if_neg fun h=>hs h.1]
  refine inc i ?_;intro IR w3 r3;exact⟨(i+1,w3,_),⟨OJ,Y.tr r3.cV,hT.rel r3 L⟩,sbgn [] r3 (hE:=⟨rfl,by dsimp only;rw[PZ];rfl,rfl,rfl,rfl,trivial⟩),dec OJ⟩
 have OJ:=dE R OJ;intro I8 we re;have G:t.DY=o:=by rw[ho,OJ];unfold Tb.DY;rw[QM]
 exact⟨_,rfl,Y.tr re.cV,by rw[G];rfl⟩
end Go.Ex
