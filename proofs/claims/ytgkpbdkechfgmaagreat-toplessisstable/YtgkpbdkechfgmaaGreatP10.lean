/- Texts L31 to XTq: lemmas, each with its conditions. -/
import Derived.Test.YtgkpbdkechfgmaaGreatP9
namespace Go.Ex
variable{M:List (List Rat)}{Fd m:Mx}{B C r t:Nat}{σ:Nat->Nat}{v:Nat->Rat}{d p q:Rat}
structure ed where
 nodes:List (Int×Int×Int)
 bars:List (Int×Int×Rat)
 cM:List (Int×Int×Rat)
def ed.cols(f:ed):Nat:=f.bars.length+f.cM.length
def ed.node(f:ed)(n:Int):Int×Int×Int:=f.nodes.getD n.toNat (0,0,0)
def jR(f:ed)(b:Int×Int×Rat):List Int:=[(f.node b.2.1).1-(f.node b.1).1,(f.node b.2.1).2.1-(f.node b.1).2.1,(f.node b.2.1).2.2-(f.node b.1).2.2]
def yb(M:List (List Int))(r c:Nat)(d:Int):List (List Int):=M.set r ((M.getD r []).set c ((M.getD r []).getD c 0+d))
def putAt(M:List (List Int))(r c:Nat)(d:Int):List (List Int):=M.set r ((M.getD r []).set c d)
def fD(f:ed)(M:List (List Int))(i:Nat):Nat->List (List Int)
 |0=>M
 |k+1=>
  let b:=f.bars.getD i (0,0,0)
  let d:=(jR f b).getD k 0
  yb (yb (fD f M i k) (3*b.1+k).toNat i d) (3*b.2.1+k).toNat i (-d)
def eG(f:ed):Nat->List (List Int)
 |0=>List.replicate (3*f.nodes.length) (List.replicate f.cols 0)
 |i+1=>fD f (eG f i) i 3
def fG(f:ed):Nat->List (List Int)
 |0=>eG f f.bars.length
 |i+1=>
  let s:=f.cM.getD i (0,0,0)
  putAt (fG f i) (3*s.1+s.2.1).toNat (f.bars.length+i) 1
def jF(f:ed):List (List Int):=fG f f.cM.length
def ew(l:List Int):List Rat:=l.map fun(n:Int)=>(n:Rat)
def cY(f:ed):List (List Rat):=(jF f).map ew
abbrev Ld:=Int×Int×Int×Int
def HE(s:List Int)(r:Nat)(d:Int):List Int:=s.set r (s.getD r 0+d)
def df(l:List Rat)(b:Rat):List Rat:=l.map (· *b)
def lu(a b:List Rat):List Rat:=a.mapIdx fun i x=>x*b.getD i 0
def dI(f:ed):List Rat:=f.bars.map (·.2.2)++f.cM.map (·.2.2)
def kF(M:List (List Rat))(b:List Rat):List (List Rat):=M.mapIdx fun i r=>r++[b.getD i 0]
def k9(M:List (List Rat))(cols:Nat):List (List Rat):=eL (dh M cols).1 (dh M cols).2.1 cols cols
def nm(M:List (List Rat))(b:List Rat)(cols:Nat):Option (List Rat):=
 let e:=dh (kF M b) (cols+1)
 if cols∈e.2.1 then none else some (gW e.1 e.2.1 cols e.2.1.length)
def eO(st:List (List Rat))(fl:List Rat):List (List Rat):=st.map fun s=>st.map fun r=>fL (lu s fl) r s.length
def gQ(st:List (List Rat))(fl x:List Rat):List Rat:=st.map fun s=> -(fL (lu s fl) x s.length)
def lD(st:List (List Rat))(c x:List Rat):Nat->List Rat
 |0=>x
 |i+1=>(lD st c x i).mapIdx fun k q=>q+c.getD i 0*(st.getD i []).getD k 0
def Ib(B:Nat)(q:Rat):Prop:=∃z:Int,q=(z:Rat)/\z.natAbs<=B
theorem Ib.mono(h:Ib B q)(k:B<=C):Ib C q:=let⟨z,e,b⟩:=h;⟨z,e,aW b k⟩
theorem Ib.add(h:Ib B p)(k:Ib C q):Ib (B+C) (p+q):=by
 obtain⟨z,rfl,b⟩:=h;obtain⟨y,rfl,c⟩:=k;exact⟨z+y,by rw[Rat.intCast_add],by omega⟩
theorem Ib.mul(h:Ib B p)(k:Ib C q):Ib (B*C) (p*q):=by
 obtain⟨z,rfl,b⟩:=h;obtain⟨y,rfl,c⟩:=k;exact⟨z*y,by rw[Rat.intCast_mul],by rw[Int.natAbs_mul];exact Nat.mul_le_mul b c⟩
theorem Ib.neg(h:Ib B p):Ib B (-p):=by
 obtain⟨z,rfl,b⟩:=h;exact⟨-z,by rw[Rat.intCast_neg],by omega⟩
theorem Ib.sub(h:Ib B p)(k:Ib C q):Ib (B+C) (p-q):=by rw[Rat.sub_eq_add_neg];exact h.add k.neg
theorem Ib.zero(B:Nat):Ib B 0:=⟨0,rfl,aS _⟩
theorem Ib.one(h:1<=B):Ib B 1:=⟨1,rfl,h⟩
theorem Ib.int{z:Int}(h:z.natAbs<=B):Ib B (z:Rat):=⟨z,rfl,h⟩
theorem Ib.sum{B:Nat}{f:Nat->Rat}:∀(n:Nat),(∀k,k<n->Ib B (f k))->Ib (n*B) (cQ f n)
 |0,_=>Ib.zero _
 |n+1,h=>by rw[cQ,Nat.succ_mul];exact(Ib.sum n fun k R=>h k (by omega)).add (h n (by omega))
def fB(B:Nat):Nat->Nat
 |0=>1
 |n+1=>(n+1)*(B*fB B n)
theorem Ib.qc{k:Nat}(h:Ib B q):Ib B (qc k*q):=by
 unfold Go.Ex.qc;split
 ·rw[show (-1:Rat)*q= -q by grind];exact h.neg
 ·rw[bm];exact h
theorem Ib.det{B:Nat}:∀(n:Nat) {m:Mx},(∀i j,i<n->j<n->Ib B (m i j))->Ib (fB B n) (eV n m)
 |0,_,_=>Ib.one (Nat.le_refl _)
 |n+1,m,h=>by
  unfold eV fB;exact Ib.sum (n+1) fun k R=>((h 0 k (by omega) R).mul (Ib.det n fun i j D hj=>h (i+1) (skip k j) (by omega) (HA hj))).qc
theorem HF(B n:Nat):B*fB B n<=fB B (n+1):=Nat.le_mul_of_pos_left _ (Nat.succ_pos n)
theorem Lu(h:1<=B)(n:Nat):fB B n<=fB B (n+1):=aW (Nat.le_mul_of_pos_left _ h) (HF B n)
theorem qi{B a:Nat}(h:1<=B):∀{b:Nat},a<=b->fB B a<=fB B b
 |0,k=>by rw[Nat.le_zero.1 k];exact Nat.le_refl _
 |b+1,k=>by
  rcases aP b a with I|I
  ·rw[show a=b+1 by omega];exact Nat.le_refl _
  ·exact aW (qi h I) (Lu h b)
theorem Mj{B FS:Nat}:∀{n:Nat},n<=FS->fB B n<=(FS*B)^n
 |0,_=>Nat.le_refl _
 |n+1,h=>by
  rw[fB,Nat.pow_succ,<-bc,bL _ (FS*B)];exact Nat.mul_le_mul (Nat.mul_le_mul_right B h) (Mj (by omega))
theorem Mk{FS l n:Nat}(Z:n<=FS)(h:FS*B<=wt l):ln (fB B n)<=l*n+1:=by
 rw[gD,il];have I:=aW (Mj (B:=B) Z) (Nat.pow_le_pow_left h n);rw[uq,<-Nat.pow_mul]at I;have X:=uq (l*n);have N:=uo (l*n);rw[show 32*l*n=32*(l*n) by rw[bc]]at I;omega
theorem qj{Fn:Nat}{F9:Rat}(h0:F9≠0)(hD:Ib Fn F9)(hq:Ib Fn (F9*q)):rl q<=ln Fn:=by
 obtain⟨d,rfl,b⟩:=hD;obtain⟨z,e,c⟩:=hq;have hd:d≠0:=fun e=>h0 (by rw[e];rfl);have e2:q=Rat.divInt z d:=by
  rw[Rat.divInt_eq_div,<-e,bK,bs (d:Rat) q,Rat.mul_assoc,Rat.mul_inv_cancel _ h0,Rat.mul_one]
 have:=jq (a:=z) hd;have:=fI b;have:=fI c;rw[e2];omega
theorem IS{n:Nat}(h:r<n):eV n (fh m r fun _=>0)=0:=by
 have I:=ky 1 n r m h (fun _=>0) fun _=>0;rw[show (fun _:Nat=>(0:Rat)+1*0)=fun _=>0 from funext fun _=>by grind]at I;grind
theorem ye{n r:Nat}{m:Mx}(h:r<n)(c:Nat->Rat)(v:Nat->Nat->Rat):∀s,eV n (fh m r fun j=>cQ (fun k=>c k*v k j) s)=cQ (fun k=>c k*eV n (fh m r (v k))) s
 |0=>IS h
 |s+1=>by
  have I:=ky (c s) n r m h (fun j=>cQ (fun k=>c k*v k j) s) (v s);rw[ye h c v s]at I;exact I
theorem HG{n a b:Nat}(hb:b<n)(QM:a<b)(W:∀j,j<n->m a j=m b j):eV n m=0:=by
 obtain⟨b,rfl⟩:∃k,b=k+1:=⟨b-1,by omega⟩
 cases a with
 |zero=>exact kz b n m hb W
 |succ a=>
  have I:=BL (m:=m) (k:=a) (n:=n) (by omega);rw[kz b n _ hb fun j hj=>?_]at I
  ·grind
  ·rw[show uw 0 (a+1) 0=a+1 by unfold uw;rw[if_pos rfl],show uw 0 (a+1) (b+1)=b+1 by unfold uw;rw[aI (by omega),aI (by omega)]];exact W j hj
theorem Dv{n a b:Nat}(ha:a<n)(hb:b<n)(QM:a≠b)(W:∀j,j<n->m a j=m b j):eV n m=0:=by
 rcases Nat.lt_or_gt_of_ne QM with h|h
 ·exact HG hb h W
 ·exact HG ha h fun j hj=>(W j hj).symm
section
variable{Fd EQ:Mx}{p:Nat->Nat}{r n:Nat}{v:Nat->Rat}
theorem Ru.coeff(h:Ru Fd p r n)(hv:dq Fd r n v):∀t,t<n->v t=cQ (fun i=>v (p i)*Fd i t) r:=by
 obtain⟨c,hc⟩:=hv;intro t ht;rw[hc t ht];refine cH fun i D=>?_;rw[hc (p i) (h.lt i D),fY D fun k R OS=>by rw[h.unit i k D R,aI OS,az],h.unit i i D D,if_pos rfl,Rat.mul_one]
def tO(EQ:Mx)(p:Nat->Nat)(r:Nat):Rat:=eV r fun j i=>EQ (r-1-i) (p (r-1-j))
theorem NQ(h:Ru Fd p r n)(hZ:∀i,i<r->dq Fd r n (EQ i)){k:Nat}(R:k<r)(ht:t<n):
  tO EQ p r*Fd k t=eV r (fh (fun j i=>EQ (r-1-i) (p (r-1-j))) (r-1-k) fun i=>EQ (r-1-i) t):=by
 have e:∀i j,i<r->j<r->fh (fun j i=>EQ (r-1-i) (p (r-1-j))) (r-1-k) (fun i=>EQ (r-1-i) t) i j=fh (fun j i=>EQ (r-1-i) (p (r-1-j))) (r-1-k) (fun i=>cQ (fun j=>Fd j t*EQ (r-1-i) (p j)) r) i j:=fun i j D hj=>by
  unfold fh;split
  ·show EQ (r-1-j) t=cQ (fun l=>Fd l t*EQ (r-1-j) (p l)) r;rw[h.coeff (hZ (r-1-j) (by omega)) t ht];exact cH fun l _=>bs _ _
  ·rfl
 rw[eh e,ye (v:=fun k i=>EQ (r-1-i) (p k)) (by omega),fY R fun j hj OS=>?_]
 ·rw[show fh (fun j i=>EQ (r-1-i) (p (r-1-j))) (r-1-k) (fun i=>EQ (r-1-i) (p k))=fun j i=>EQ (r-1-i) (p (r-1-j))from ?_]
  ·rw[tO,bs]
  ·funext i j
   unfold fh;split
   ·rename_i D;rw[D,show r-1-(r-1-k)=k by omega]
   ·rfl
 ·rw[Dv (a:=r-1-k) (b:=r-1-j) (by omega) (by omega) (by omega) fun i D=>?_,az];unfold fh;rw[if_pos rfl,aI (by omega)];show EQ (r-1-i) (p j)=EQ (r-1-i) (p (r-1-(r-1-j)));rw[show r-1-(r-1-j)=j by omega]
theorem NR(h:Ru Fd p r n)(hZ:∀i,i<r->dq Fd r n (EQ i))(ht:t<n):
  eV (r+1) (fun j i=>if j=0 then EQ (r-i) t else EQ (r-i) (p (r-j)))=l6 Fd p r (EQ r) n t*tO EQ p r:=by
 obtain⟨m,hm⟩:∃m:Mx,m=fun j i=>if j=0 then EQ (r-i) t else EQ (r-i) (p (r-j)):=⟨_,rfl⟩
 obtain⟨w,Y⟩:∃w:Nat->Rat,w=fun i=>if i=0 then l6 Fd p r (EQ r) n t else 0:=⟨_,rfl⟩
 rw[<-hm];have OR:∀j,j<r->∀i,m (r-j) i=EQ (r-i) (p j):=fun j hj i=>by rw[hm];simp only;rw[aI (by omega),show r-(r-j)=j by omega]
 have e:∀i j,i<r+1->j<r+1->m i j=fh m 0 (fun i=>w i+1*cQ (fun j=>Fd j t*m (r-j) i) r) i j:=fun i j D hj=>by
  unfold fh;split
  ·rename_i h0;subst h0;show m 0 j=w j+1*cQ (fun l=>Fd l t*m (r-l) j) r;rw[cH (g:=fun l=>Fd l t*EQ (r-j) (p l)) fun l hl=>by rw[OR l hl],bm,Y];simp only
   by_cases hj0:j=0
   ·rw[if_pos hj0,hj0,hm];simp only[if_pos,Nat.sub_zero]
    unfold l6;rw[cH (f:=fun i=>if p i<n then EQ r (p i)*Fd i t else 0) (g:=fun i=>Fd i t*EQ r (p i)) fun l hl=>by rw[if_pos (h.lt l hl),bs]];grind
   ·rw[aI hj0,Rat.zero_add,hm];simp only[if_pos]
    rw[h.coeff (hZ (r-j) (by omega)) t ht];exact cH fun l _=>bs _ _
  ·rfl
 rw[eh e,ky 1 (r+1) 0 m (by omega),ye (v:=fun k i=>m (r-k) i) (by omega),cH (g:=fun _=>0) fun j hj=>?_,dU,az,bD]
 ·rw[eV,fY (i:=0) (by omega) fun k R OS=>?_]
  ·unfold fh;rw[if_pos rfl,Y];simp only[if_pos]
   rw[show qc 0=1 by decide,bm,tO,eh fun i j D hj=>?_];rw[aI (by omega),hm];simp only
   rw[aI (by omega),show skip 0 j=j+1 by unfold skip;rw[aI (by omega)],show r-(j+1)=r-1-j by omega,show r-(i+1)=r-1-i by omega]
  ·unfold fh;rw[if_pos rfl,Y];simp only
   rw[aI OS,bC,az]
 ·rw[Dv (a:=0) (b:=r-j) (by omega) (by omega) (by omega) fun i _=>?_,az];unfold fh;rw[if_pos rfl,aI (by omega)]
theorem Lv(d:Rat)(k t:Nat):l6 Fd p r (fun t=>d*v t) k t=d*l6 Fd p r v k t:=by
 unfold l6;rw[cH (g:=fun i=>d*if p i<k then v (p i)*Fd i t else 0) fun i _=>?_,dY]
 ·grind
 ·split
  ·rw[Rat.mul_assoc]
  ·rw[az]
theorem Lw(h:Ru Fd p r n){x:Nat->Rat}(L:dq Fd r n fun t=>v t+ -(x t))(h0:∀i,i<r->x (p i)=0)(ht:t<n):x t=l6 Fd p r v n t:=by
 have I:=h.coeff L t ht;unfold l6;rw[cH (g:=fun i=>v (p i)*Fd i t) fun i D=>if_pos (h.lt i D)];rw[cH (g:=fun i=>v (p i)*Fd i t) fun i D=>by rw[h0 i D];grind]at I;grind
end
structure yf(Fd:Mx)(p:Nat->Nat)(r n B:Nat)(EQ:Mx):Prop where
 ru:Ru Fd p r n
 sp:∀i,i<r->dq Fd r n (EQ i)
 ib:∀i t,i<r->t<n->Ib B (EQ i t)
 nz:tO EQ p r≠0
section
variable{Fd EQ:Mx}{p:Nat->Nat}{r n B k:Nat}{v u:Nat->Rat}
theorem yf.start(Fd EQ:Mx)(p:Nat->Nat)(n B:Nat):yf Fd p 0 n B EQ:=
 ⟨⟨fun _ h=>(by omega),fun _ _ h=>(by omega),fun _ _ h=>(by omega),fun _ _ h=>(by omega)⟩,fun _ h=>(by omega),fun _ _ h=>(by omega),by show(1:Rat)≠0;decide⟩
theorem yf.push(h:yf Fd p r n B EQ)(hd:d≠0)(hz:∀t,t<n->Ib B (d*v t))(hu:∀t,t<n->u t=l6 Fd p r v n t)(R:k<n)(h0:u k≠0)(hl:∀t,t<k->u t=0):
  yf (kR Fd r u k) (fun i=>if i=r then k else p i) (r+1) n B fun i t=>if i=r then d*v t else EQ i t:=by
 refine⟨h.ru.push R (fun i D=>by rw[hu _ (h.ru.lt i D),HB h.ru D]) h0 hl,fun i D=>?_,fun i t D ht=>?_,?_⟩
 ·by_cases I:i=r
  ·exact((BP h0 hu h.ru.lt).mul d).congr fun t _=>by simp only[if_pos I];rw[bs]
  ·exact((h.sp i (by omega)).trans fun j hj=>qh h0 j hj).congr fun t _=>by simp only[aI I]
 ·by_cases I:i=r
  ·simp only[if_pos I];exact hz t ht
  ·simp only[aI I];exact h.ib i t (by omega) ht
 ·have hb:=NR (EQ:=fun i t=>if i=r then d*v t else EQ i t) h.ru (fun i D=>(h.sp i D).congr fun t _=>by simp only[aI (Nat.ne_of_lt D)]) R;have e1:tO (fun i t=>if i=r then d*v t else EQ i t) p r=tO EQ p r:=eh fun i j D hj=>by simp only;rw[aI (by omega)]
  simp only[if_pos]at hb;rw[Lv,<-hu k R,e1]at hb;have e2:tO (fun i t=>if i=r then d*v t else EQ i t) (fun i=>if i=r then k else p i) (r+1)=d*u k*tO EQ p r:=by
   rw[<-hb];refine eh fun i j D hj=>?_;by_cases I:i=0
   ·subst I;simp only[if_true]
    rw[if_pos (show r+1-1-0=r by omega),show r+1-1-j=r-j by omega]
   ·simp only[aI I]
    rw[aI (show ¬r+1-1-i=r by omega),show r+1-1-j=r-j by omega,show r+1-1-i=r-i by omega]
  rw[e2];have Ol:∀{a b:Rat},a≠0->b≠0->a*b≠0:=fun ha hb e=>by
   rcases Rat.mul_eq_zero.1 e with h|h
   ·exact ha h
   ·exact hb h
  exact Ol (Ol hd h0) h.nz
theorem yf.den(h:yf Fd p r n B EQ):Ib (fB B r) (tO EQ p r):=Ib.det r fun i j D hj=>h.ib _ _ (by omega) (h.ru.lt _ (by omega))
theorem yf.ent(h:yf Fd p r n B EQ){i:Nat}(D:i<r)(ht:t<n):Ib (fB B r) (tO EQ p r*Fd i t):=by
 rw[NQ h.ru h.sp D ht];refine Ib.det r fun j l hj hl=>?_;unfold fh;split
 ·exact h.ib _ _ (by omega) ht
 ·exact h.ib _ _ (by omega) (h.ru.lt _ (by omega))
theorem yf.Jr(h:yf Fd p r n B EQ){i:Nat}(D:i<r)(ht:t<n):rl (Fd i t)<=ln (fB B r):=qj h.nz h.den (h.ent D ht)
theorem yf.l6(h:yf Fd p r n B EQ)(hz:∀t,t<n->Ib B (d*v t))(k:Nat)(ht:t<n):Ib (fB B (r+1)) (d*tO EQ p r*l6 Fd p r v k t):=by
 unfold Go.Ex.l6;rw[show ∀a b c s:Rat,a*b*(c-s)=b*(a*c)-(a*b)*s from fun a b c s=>by grind,<-dY,fB,Nat.succ_mul,Nat.add_comm];refine Ib.sub (by rw[bL B];exact h.den.mul (hz t ht)) (Ib.sum r fun i D=>?_);split
 ·rw[show ∀a b c s:Rat,a*b*(c*s)=(a*c)*(b*s)from fun a b c s=>by grind];exact(hz _ (h.ru.lt i D)).mul (h.ent D ht)
 ·rw[az];exact Ib.zero _
theorem yf.Js(h:yf Fd p r n B EQ)(hB:1<=B)(hd:d≠0)(hdB:Ib B d)(hz:∀t,t<n->Ib B (d*v t))(k:Nat)(ht:t<n):Go.Ex.rl (Go.Ex.l6 Fd p r v k t)<=ln (fB B (r+1)):=
 qj (fun e=>by rcases Rat.mul_eq_zero.1 e with e|e;exact hd e;exact h.nz e) ((hdB.mul h.den).mono (HF B r)) (h.l6 hz k ht)
end
def Dw(M:List (List Rat))(n B:Nat):Prop:=∀j,j<M.length->∃d:Rat,d≠0/\Ib B d/\∀t,t<n->Ib B (d*cW M j t)
theorem dq.Fm{D':Mx}{n:Nat}(h:dq Fd r n v)(e:∀i t,i<r->t<n->D' i t=Fd i t):dq D' r n v:=by
 obtain⟨c,hc⟩:=h;exact⟨c,fun t ht=>by rw[hc t ht];exact cH fun i D=>by rw[e i t D ht]⟩
theorem dq.more{s n:Nat}(h:dq Fd r n v)(k:r<=s):dq Fd s n v:=h.trans fun i D=>dq.row (Nat.lt_of_lt_of_le D k)
theorem Ru.congr{D':Mx}{p q:Nat->Nat}{n:Nat}(h:Ru Fd p r n)(e:∀i t,i<r->t<n->D' i t=Fd i t)(ep:∀i,i<r->q i=p i):Ru D' q r n:=
 ⟨fun i D=>by rw[ep i D];exact h.lt i D,fun i j D hj k=>h.inj i j D hj (by rw[<-ep i D,<-ep j hj];exact k),fun i j D hj=>by rw[ep i D,e j _ hj (h.lt i D)];exact h.unit i j D hj,
  fun i t D ht=>by rw[ep i D]at ht;rw[e i t D (by have:=h.lt i D;omega)];exact h.lead i t D ht⟩
theorem yf.congr{D' EQ AC:Mx}{p q:Nat->Nat}{n:Nat}(h:yf Fd p r n B EQ)(e:∀i t,i<r->t<n->D' i t=Fd i t)(ep:∀i,i<r->q i=p i)(eZ:∀i t,i<r->t<n->AC i t=EQ i t):yf D' q r n B AC:=by
 refine⟨h.ru.congr e ep,fun i D=>((h.sp i D).congr fun t ht=>eZ i t D ht).Fm e,fun i t D ht=>by rw[eZ i t D ht];exact h.ib i t D ht,?_⟩;rw[show tO AC q r=tO EQ p r from eh fun i j D hj=>by rw[ep _ (by omega),eZ _ _ (by omega) (h.ru.lt _ (by omega))]];exact h.nz
theorem yg(row:List Rat):∀f k,k<=o0 row f k/\o0 row f k<=k+f/\(∀t,k<=t->t<o0 row f k->row.getD t 0=0)/\(o0 row f k<k+f->row.getD (o0 row f k) 0≠0)
 |0,k=>by
  unfold o0;exact⟨Nat.le_refl _,Nat.le_refl _,fun t I X=>by omega,fun h=>by omega⟩
 |f+1,k=>by
  unfold o0;split
  ·rename_i h;obtain⟨I,X,N,h4⟩:=yg row f (k+1);refine⟨by omega,by omega,fun t k1 k2=>?_,fun h5=>h4 (by omega)⟩;rcases aP k t with h5|h5
   ·exact N t h5 k2
   ·rw[show t=k by omega];exact h
  ·rename_i h;exact⟨Nat.le_refl _,by omega,fun t I X=>by omega,fun _=>h⟩
theorem IT(row:List Rat)(n:Nat):tM row n<=n/\(∀t,t<tM row n->row.getD t 0=0)/\(tM row n≠n->row.getD (tM row n) 0≠0):=by
 obtain⟨_,X,N,h4⟩:=yg row n 0;unfold tM;exact⟨by omega,fun t h=>N t (aS _) h,fun h=>h4 (by omega)⟩
theorem IU(y:List Rat)(q:Rat)(t:Nat):(y.map (· / q)).getD t 0=y.getD t 0 / q:=by
 simp only[List.getD,aM]
 cases y[t]? with
 |none=>show(0:Rat)=0 / q;rw[bK,bC]
 |some x=>rfl
structure Fo(M:List (List Rat))(n B i:Nat)(s:wu)(p:Nat->Nat)(EQ:Mx):Prop where
 ok:tN n n i s
 Nu:∀k,k<n->∀r:Nat,s.2.1[k]? =some (some r)↔r<s.1.length/\p r=k
 yh:yf (cW s.1) p s.1.length n B EQ
 up:∀r,r<s.1.length->dq (cW M) i n (cW s.1 r)
 dn:∀j,j<i->dq (cW s.1) s.1.length n (cW M j)
section
variable{M:List (List Rat)}{n B i:Nat}{s:wu}{p:Nat->Nat}{EQ:Mx}
theorem Fo.l6(h:Fo M n B i s p EQ){x:List Rat}(L:x.length=n):∀k,k<=n->∀t,t<n->(fZ s.1 s.2.1 x k).getD t 0=l6 (cW s.1) p s.1.length (fun t=>x.getD t 0) k t
 |0,_,t,ht=>by rw[Jl];rfl
 |k+1,R,t,ht=>by
  have ih:=Fo.l6 h L k (by omega);obtain⟨o,ho⟩:∃o,s.2.1[k]? =some o:=⟨_,aB (by rw[h.ok.at_];omega)⟩
  have hd:s.2.1.getD k none=o:=by rw[List.getD,ho];rfl
  rw[fZ,hd]
  cases o with
  |none=>
   simp only
   rw[ih t ht,Jm fun r hr e=>?_];have:=(h.Nu k (by omega) r).2 ⟨hr,e⟩;rw[ho]at this
   cases this
  |some r=>
   simp only
   obtain⟨hr,e⟩:=(h.Nu k (by omega) r).1 ho;rw[lr,uu (by rw[iA,L];exact ht),ih t ht,ih k (by omega),<-e,Jn h.yh.ru hr];rfl
theorem Fo.step(h:Fo M n B i s p EQ)(hM:gh n M)(D:i<M.length)(hd:d≠0)(hz:∀t,t<n->Ib B (d*cW M i t)):
  ∃p' Z',Fo M n B (i+1) (jw n s i (M.getD i [])) p' Z':=by
 have L:(M.getD i []).length=n:=hM.getD D;have OV:=h.ok.step L;obtain⟨y,hy⟩:∃y,fZ s.1 s.2.1 (M.getD i []) n=y:=⟨_,rfl⟩
 have hu:∀t,t<n->y.getD t 0=Go.Ex.l6 (cW s.1) p s.1.length (cW M i) n t:=fun t ht=>by rw[<-hy];exact h.l6 L n (Nat.le_refl _) t ht
 have hyl:y.length=n:=by rw[<-hy,iA,L]
 obtain⟨q1,q2,q3⟩:=IT y n;by_cases hq:tM y n=n
 ·have e:jw n s i (M.getD i [])=s:=by unfold jw;simp only[hy,hq,if_true]
  rw[e]at OV ⊢;refine⟨p,EQ,OV,h.Nu,h.yh,fun r hr=>(h.up r hr).more (Nat.le_succ i),fun j hj=>?_⟩;rcases aP j i with I|I
  ·exact h.dn j I
  ·rw[show j=i by omega];refine⟨fun j=>cW M i (p j),fun t ht=>?_⟩;have X:=hu t ht;rw[q2 t (by omega)]at X;unfold Go.Ex.l6 at X;rw[cH (g:=fun j=>cW M i (p j)*cW s.1 j t) fun j hj=>if_pos (h.yh.ru.lt j hj)]at X;grind
 ·have h0:=q3 hq;obtain⟨k,R⟩:∃k,tM y n=k:=⟨_,rfl⟩
  rw[R]at hq h0 q1 q2;have Ua:k<n:=by omega
  have e:jw n s i (M.getD i [])=(gE s.1 (y.map (· / y.getD k 0)) k s.1.length++[y.map (· / y.getD k 0)],s.2.1.set k (some s.1.length),s.2.2++[i]):=by
   unfold jw;simp only[hy,R,aI hq]
  rw[e]at OV ⊢;have hl:(gE s.1 (y.map (· / y.getD k 0)) k s.1.length).length=s.1.length:=fe ..;have RU:(gE s.1 (y.map (· / y.getD k 0)) k s.1.length++[y.map (· / y.getD k 0)]).length=s.1.length+1:=by rw[List.length_append,hl];rfl
  have hdv:∀t,t<n->(y.map (· / y.getD k 0)).getD t 0=y.getD t 0 / y.getD k 0:=fun t _=>IU y _ t;have hE:∀a t,a<s.1.length+1->t<n->cW (gE s.1 (y.map (· / y.getD k 0)) k s.1.length++[y.map (· / y.getD k 0)]) a t=kR (cW s.1) s.1.length (fun t=>y.getD t 0) k a t:=fun a t ha ht=>by
   unfold kR;by_cases I:a=s.1.length
   ·rw[if_pos I,<-hdv t ht,cW];congr 1;rw[List.getD,aN (by omega),hl,I,bB];rfl
   ·have Qt:a<s.1.length:=by omega
    have hr:=aB Qt;have Pm:(s.1[a]).length=n:=h.ok.len _ (aX Qt);have G:s.1.getD a []=s.1[a]:=by rw[List.getD,hr];rfl
    have OR:(gE s.1 (y.map (· / y.getD k 0)) k s.1.length++[y.map (· / y.getD k 0)]).getD a []=lr s.1[a] (y.map (· / y.getD k 0)) ((s.1[a]).getD k 0):=by
     rw[List.getD,aJ (by omega),gE,List.getElem?_mapIdx,hr];simp only[bY,Option.getD_some,if_pos Qt]
    rw[aI I,cW,OR,lr,uu (by omega),hdv t ht];unfold cW;rw[G]
  have hC:=h.yh.push hd hz hu Ua h0 q2;have hu2:=NP (v:=cW M i) hu h.yh.ru.lt;refine⟨fun i=>if i=s.1.length then k else p i,fun a t=>if a=s.1.length then d*cW M i t else EQ a t,OV,?_,?_,?_,?_⟩
  ·intro c hc r;dsimp only
   rw[RU];have OS:∀j,j<s.1.length->p j≠k:=fun j hj e=>h0 (by rw[hu k Ua,<-e];exact HB h.yh.ru hj);by_cases I:c=k
   ·rw[I,aO (by rw[h.ok.at_];exact Ua)];constructor
    ·intro e;injection e with e;injection e with e;exact⟨by omega,by rw[if_pos e.symm]⟩
    ·rintro⟨X,N⟩;by_cases h4:r=s.1.length
     ·rw[h4]
     ·rw[aI h4]at N;exact absurd N (OS r (by omega))
   ·rw[aT (Ne.symm I),h.Nu c hc r];constructor
    ·rintro⟨X,N⟩;exact⟨by omega,by rw[aI (by omega)];exact N⟩
    ·rintro⟨X,N⟩;by_cases h4:r=s.1.length
     ·rw[if_pos h4]at N;exact absurd N.symm I
     ·rw[aI h4]at N;exact⟨by omega,N⟩
  ·dsimp only
   rw[RU];exact hC.congr hE (fun _ _=>rfl) fun _ _ _ _=>rfl
  ·dsimp only
   rw[RU];intro a ha;refine((Jo (k:=k) hu2 a ha).trans fun b hb=>?_).congr fun t ht=>hE a t ha ht;by_cases I:b=s.1.length
   ·exact(dq.row (show i<i+1 by omega)).congr fun t _=>by unfold jk;rw[if_pos I]
   ·exact((h.up b (by omega)).more (Nat.le_succ i)).congr fun t _=>by unfold jk;rw[aI I]
  ·dsimp only
   rw[RU];intro j hj;refine dq.Fm ?_ hE;rcases aP j i with I|I
   ·exact(h.dn j I).trans fun b hb=>qh h0 b hb
   ·rw[show j=i by omega];exact BP h0 hu h.yh.ru.lt
end
theorem qk{M:List (List Rat)}{n B:Nat}(hM:gh n M)(hW:Dw M n B):∀i,i<=M.length->∃p EQ,Fo M n B i (gq M n i) p EQ
 |0,_=>⟨fun _=>0,fun _ _=>0,tN.start n n,fun k _ r=>⟨fun h=>(by
   simp only[gq,List.getElem?_replicate]at h
   split at h<;>cases h),fun h=>(by have:=h.1;simp[gq]at this)⟩,yf.start _ _ _ _ _,fun r h=>(by simp[gq]at h),fun j h=>by omega⟩
 |i+1,D=>by
  obtain⟨p,EQ,h⟩:=qk hM hW i (by omega);obtain⟨d,hd,-,hz⟩:=hW i (by omega);exact h.step hM (by omega) hd hz
theorem Jt{n:Nat}(hM:gh n M)(hW:Dw M n B)(hB:1<=B){i:Nat}(D:i<=M.length):∀r∈(gq M n i).1,∀q∈r,rl q<=ln (fB B M.length):=fun r hr q hq=>by
 obtain⟨p,EQ,h⟩:=qk hM hW i D;obtain⟨a,ha⟩:=aQ hr;obtain⟨t,ht⟩:=aQ hq;have Qt:=(aD.1 ha).1;have TL:=(aD.1 ht).1;rw[h.ok.len r hr]at TL;have I:=h.yh.Jr Qt TL;rw[cW,show(gq M n i).1.getD a []=r by rw[List.getD,ha];rfl,show r.getD t 0=q by rw[List.getD,ht];rfl]at I;exact aW I (fI (qi hB (aW h.ok.le D)))
theorem Ju{n:Nat}(hM:gh n M)(hW:Dw M n B)(hB:1<=B){i k:Nat}(D:i<M.length)(R:k<=n):∀q∈fZ (gq M n i).1 (gq M n i).2.1 (M.getD i []) k,rl q<=ln (fB B M.length):=fun q hq=>by
 obtain⟨p,EQ,h⟩:=qk hM hW i (by omega);have L:(M.getD i []).length=n:=hM.getD D;obtain⟨t,ht⟩:=aQ hq;have TL:=(aD.1 ht).1;rw[iA,L]at TL;have I:=h.l6 L k R t TL;rw[show (fZ (gq M n i).1 (gq M n i).2.1 (M.getD i []) k).getD t 0=q by rw[List.getD,ht];rfl]at I;obtain⟨d,hd,hdB,hz⟩:=hW i D;rw[I];exact aW (h.yh.Js hB hd hdB hz k TL) (fI (qi hB (by have:=h.ok.le;omega)))
theorem BQ{s:wu}:∀k,(cZ s k).1.length=(cZ s k).2.1.length/\(∀i,i<(cZ s k).2.1.length->∃r:Nat,s.2.1[(cZ s k).2.1.getD i 0]? =some (some r)/\(cZ s k).1.getD i []=s.1.getD r []/\(cZ s k).2.1.getD i 0<k)/\
  (∀i j,i<j->j<(cZ s k).2.1.length->(cZ s k).2.1.getD i 0<(cZ s k).2.1.getD j 0)/\∀q,q<k->∀r:Nat,s.2.1[q]? =some (some r)->∃i,i<(cZ s k).2.1.length/\(cZ s k).2.1.getD i 0=q
 |0=>⟨rfl,fun i h=>(by cases h),fun i j _ h=>(by cases h),fun q h=>by omega⟩
 |k+1=>by
  obtain⟨I,X,N,h4⟩:=BQ (s:=s) k;have step:(∃r:Nat,s.2.1[k]? =some (some r)/\cZ s (k+1)=((cZ s k).1++[s.1.getD r []],(cZ s k).2.1++[k],(cZ s k).2.2++[s.2.2.getD r 0]))\/((∀r:Nat,s.2.1[k]? ≠some (some r))/\cZ s (k+1)=cZ s k):=by
   rw[cZ]
   cases ho:s.2.1[k]? with
   |none=>exact .inr ⟨fun r e=>(by cases e),by rw[show s.2.1.getD k none=none by rw[List.getD,ho];rfl]⟩
   |some o=>cases o with
    |none=>exact .inr ⟨fun r e=>(by cases e),by rw[show s.2.1.getD k none=none by rw[List.getD,ho];rfl]⟩
    |some r=>exact .inl ⟨r,rfl,by rw[show s.2.1.getD k none=some r by rw[List.getD,ho];rfl]⟩
  rcases step with⟨r,hr,e⟩|⟨hr,e⟩
  ·rw[e];have old:∀i,i<(cZ s k).2.1.length->((cZ s k).2.1++[k]).getD i 0=(cZ s k).2.1.getD i 0:=fun i D=>by rw[List.getD,aJ D,<-List.getD]
   have new:((cZ s k).2.1++[k]).getD (cZ s k).2.1.length 0=k:=by rw[List.getD,aN (Nat.le_refl _),bB];rfl
   have hlen:((cZ s k).2.1++[k]).length=(cZ s k).2.1.length+1:=by simp
   dsimp only
   rw[hlen];refine⟨by simp[I],fun i D=>?_,fun i j PH hj=>?_,fun q hq x L=>?_⟩
   ·rcases aP i (cZ s k).2.1.length with h5|h5
    ·obtain⟨x,x1,x2,x3⟩:=X i h5;rw[old i h5];refine⟨x,x1,?_,by omega⟩;rw[List.getD,aJ (by omega),<-List.getD];exact x2
    ·rw[show i=(cZ s k).2.1.length by omega,new];refine⟨r,hr,?_,by omega⟩;rw[List.getD,aN (by omega),I,bB];rfl
   ·rcases aP j (cZ s k).2.1.length with h5|h5
    ·rw[old i (by omega),old j h5];exact N i j PH h5
    ·rw[show j=(cZ s k).2.1.length by omega,new,old i (by omega)];obtain⟨_,_,_,x3⟩:=X i (by omega);exact x3
   ·rcases aP q k with h5|h5
    ·obtain⟨i,i1,i2⟩:=h4 q h5 x L;exact⟨i,by omega,by rw[old i i1];exact i2⟩
    ·exact⟨(cZ s k).2.1.length,by omega,by rw[new];omega⟩
  ·rw[e];refine⟨I,fun i D=>?_,N,fun q hq x L=>?_⟩
   ·obtain⟨x,x1,x2,x3⟩:=X i D;exact⟨x,x1,x2,by omega⟩
   ·rcases aP q k with h5|h5
    ·exact h4 q h5 x L
    ·rw[show q=k by omega]at L;exact absurd L (hr x)
theorem iL{α:Type}{a b:List α}(d:α)(hl:a.length=b.length)(h:∀i,i<a.length->a.getD i d=b.getD i d):a=b:=by
 refine List.ext_getElem hl fun i I X=>?_;have:=h i I
 rwa [List.getD,List.getD,aB I,aB X]at this
theorem sJ{n:Nat}(hM:gh n M)(hW:Dw M n B):(dh M n).2.1=(cK M n).2/\(dh M n).1=(cK M n).1.take (cK M n).2.length:=by
 obtain⟨p,EQ,h⟩:=qk hM hW M.length (Nat.le_refl _);obtain⟨I,X,N,h4⟩:=BQ (s:=gq M n M.length) n;unfold dh;generalize gq M n M.length=s at*
 obtain⟨D',hF⟩:∃D',cZ s n=D':=⟨_,rfl⟩
 rw[hF]at I X N h4 ⊢;have OR:∀i,i<D'.2.1.length->∃r,r<s.1.length/\p r=D'.2.1.getD i 0/\D'.1.getD i []=s.1.getD r []/\D'.2.1.getD i 0<n:=fun i D=>by
  obtain⟨r,r1,r2,K⟩:=X i D;obtain⟨k1,k2⟩:=(h.Nu _ K r).1 r1;exact⟨r,k1,k2,r2,K⟩
 have inj:∀i j,i<D'.2.1.length->j<D'.2.1.length->D'.2.1.getD i 0=D'.2.1.getD j 0->i=j:=fun i j D hj e=>by
  rcases bp i j with h5|h5|h5
  ·have:=N i j h5 hj;omega
  ·exact h5
  ·have:=N j i h5 D;omega
 have hrf:Rf (cW D'.1) (fun i=>D'.2.1.getD i 0) D'.2.1.length n:=by
  refine⟨fun i D=>?_,N,fun i j D hj=>?_,fun i t D ht=>?_⟩
  ·obtain⟨_,_,_,_,h5⟩:=OR i D;exact h5
  ·obtain⟨a,a1,a2,a3,_⟩:=OR i D;obtain⟨b,b1,b2,b3,_⟩:=OR j hj;rw[cW,b3,<-a2];have:=h.yh.ru.unit a b a1 b1;unfold cW at this;rw[this];by_cases h5:j=i
   ·rw[if_pos h5,if_pos (h.yh.ru.inj b a b1 a1 (by rw[a2,b2,h5]))]
   ·rw[aI h5,aI fun e=>h5 (inj j i hj D (by rw[<-a2,<-b2,e]))]
  ·obtain⟨a,a1,a2,a3,_⟩:=OR i D;rw[cW,a3];have:=h.yh.ru.lead a t a1 (by rw[a2];exact ht);unfold cW at this;exact this
 have WX:∀r,r<s.1.length->dq (cW D'.1) D'.2.1.length n (cW s.1 r):=fun r hr=>by
  have hp:=h.yh.ru.lt r hr;obtain⟨i,i1,i2⟩:=h4 (p r) hp r ((h.Nu _ hp r).2 ⟨hr,rfl⟩);obtain⟨a,a1,a2,a3,_⟩:=OR i i1;have e:a=r:=h.yh.ru.inj a r a1 hr (by rw[a2,i2]);exact(dq.row i1).congr fun t _=>by rw[cW,cW,a3,e]
 obtain⟨e1,e2,e3⟩:=Ds hM hrf (fun i D=>by
  obtain⟨a,a1,a2,a3,_⟩:=OR i D
  exact(h.up a a1).congr fun t _=>by rw[cW,cW,a3]) fun j hj=>(h.dn j hj).trans WX
 obtain⟨g1,g2,-,-,-⟩:=eK hM n (Nat.le_refl _);refine⟨iL 0 e1.symm fun i D=>(e2 i D).symm,iL [] ?_ fun i D=>?_⟩
 ·rw[aZ,e1,I];omega
 ·rw[I]at D;have Tk:i<(cK M n).2.length:=by omega
  obtain⟨a,a1,a2,a3,_⟩:=OR i D;have QT:(D'.1.getD i []).length=n:=by rw[a3];exact h.ok.len.getD a1
  have G:((cK M n).1.take (cK M n).2.length).getD i []=(cK M n).1.getD i []:=by rw[List.getD,bO Tk,<-List.getD]
  rw[G];refine iL 0 (by rw[QT,g1.getD (by omega)]) fun t ht=>?_;rw[QT]at ht;exact(e3 i t D ht).symm
structure ElI(M:List (List Rat))(n B c:Nat)(s:List (List Rat)×List Nat)(σ:Nat->Nat)(EQ:Mx):Prop where
 red:Nt n c s
 mon:Jk s
 len:s.1.length=M.length
 yh:yf (cW s.1) (fun i=>s.2.getD i 0) s.2.length n B EQ
 OF:∀j,j<M.length->σ j<M.length
 rest:∀j,s.2.length<=j->j<M.length->∀t,t<n->cW s.1 j t=l6 (cW s.1) (fun i=>s.2.getD i 0) s.2.length (cW M (σ j)) n t
theorem ElI.step{n c:Nat}{s:List (List Rat)×List Nat}{EQ:Mx}(h:ElI M n B c s σ EQ)(hW:Dw M n B)(hc:c<n):∃σ' Z',ElI M n B (c+1) (dg s c) σ' Z':=by
 have Q7:=h.red.step hc;have hmon:=h.mon.step h.red hc;have hlen:(dg s c).1.length=M.length:=by rw[n9,h.len]
 obtain⟨hl,hle,hz,Qe,hu⟩:=h.red;rcases kE c hle with⟨e,h0⟩|⟨k,I,X,N,e⟩
 ·rw[e]at Q7 hmon hlen ⊢;exact⟨σ,EQ,Q7,hmon,hlen,h.yh,h.OF,h.rest⟩
 ·obtain⟨r1,r2⟩:=nc hl I X N e;have e2:(dg s c).2=s.2++[c]:=by rw[e]
  have e3:(dg s c).2.length=s.2.length+1:=by rw[e2];simp
  have hkM:k<M.length:=by rw[<-h.len];exact X
  have R:=h.rest k I hkM;obtain⟨d,hd,-,hdz⟩:=hW (σ k) (h.OF k hkM);have hC:=h.yh.push (u:=cW s.1 k) hd hdz R hc N fun t ht=>hz k t I X ht;have hold:∀i,i<s.2.length->(dg s c).2.getD i 0=s.2.getD i 0:=fun i D=>by rw[e2,List.getD,aJ D,<-List.getD]
  have Q5:(dg s c).2.getD s.2.length 0=c:=by rw[e2,List.getD,aN (Nat.le_refl _),bB];rfl
  have hE:∀i t,i<s.2.length+1->t<n->cW (dg s c).1 i t=kR (cW s.1) s.2.length (cW s.1 k) c i t:=fun i t D ht=>by
   unfold kR;by_cases Vp:i=s.2.length
   ·rw[if_pos Vp,Vp,r1,bK,bK,bm]
   ·rw[aI Vp,r2 i (by omega) Vp t ht,aI (by omega),bK,bK,bm]
  have St:yf (cW (dg s c).1) (fun i=>(dg s c).2.getD i 0) (dg s c).2.length n B fun i t=>if i=s.2.length then d*cW M (σ k) t else EQ i t:=by
   rw[e3];refine hC.congr hE (fun i D=>?_) fun _ _ _ _=>rfl;by_cases Vp:i=s.2.length
   ·rw[if_pos Vp,Vp,Q5]
   ·rw[aI Vp,hold i (by omega)]
  refine⟨fun j=>if j=k then σ s.2.length else σ j,_,Q7,hmon,hlen,St,fun j hj=>?_,fun j hj hjM t ht=>?_⟩
  ·split
   ·exact h.OF _ (by omega)
   ·exact h.OF j hj
  ·rw[e3]at hj;have hjs:j<s.1.length:=by rw[h.len];exact hjM
   obtain⟨jj,hjj⟩:∃jj,(if j=k then s.2.length else j)=jj:=⟨_,rfl⟩
   have hjr:s.2.length<=jj:=by rw[<-hjj];split<;>omega
   have Sr:jj<M.length:=by rw[<-hjj];split<;>omega
   have hσ:(if j=k then σ s.2.length else σ j)=σ jj:=by rw[<-hjj];split<;>rfl
   rw[hσ];refine Lw St.ru ?_ (fun i D=>?_) ht
   ·have hr:dq (cW (dg s c).1) (dg s c).2.length n (cW (dg s c).1 s.2.length):=dq.row (by omega);have h5:dq (cW s.1) s.2.length n fun t=>cQ (fun i=>cW M (σ jj) (s.2.getD i 0)*cW s.1 i t) s.2.length:=⟨_,fun t _=>rfl⟩
    have h6:dq (cW (dg s c).1) (dg s c).2.length n fun t=>cQ (fun i=>cW M (σ jj) (s.2.getD i 0)*cW s.1 i t) s.2.length:=h5.trans fun i D=>by
     rw[e3];exact dq.Fm (qh N i D) hE
    refine(h6.add hr (cW s.1 jj c)).congr fun t ht=>?_;have h7:=h.rest jj hjr Sr t ht;unfold l6 at h7;rw[cH (g:=fun i=>cW M (σ jj) (s.2.getD i 0)*cW s.1 i t) fun i D=>if_pos (h.yh.ru.lt i D)]at h7;rw[r2 j hjs (by omega) t ht,hjj,r1,h7];grind
   ·rw[Q7.2.2.2.2 i j D (by rw[hlen];exact hjM),aI (by omega)]
theorem pQ{M:List (List Rat)}{n B:Nat}(hM:gh n M)(hW:Dw M n B):∀c,c<=n->∃σ EQ,ElI M n B c (cK M c) σ EQ
 |0,_=>⟨fun j=>j,fun _ _=>0,⟨hM,aS _,fun _ _ _ _ h=>by omega,fun p hp=>(by cases hp),fun _ _ h=>(by cases h)⟩,⟨fun _ _ _ h=>(by cases h),fun _ _ h=>(by cases h)⟩,rfl,yf.start _ _ _ _ _,fun j hj=>hj,fun j _ hj t ht=>by
   show cW M j t=l6 (cW M) _ 0 (cW M j) n t;unfold l6;show _=_-0
   grind⟩
 |c+1,hc=>by
  obtain⟨σ,EQ,h⟩:=pQ hM hW c (by omega);unfold cK at h ⊢;rw[bW,List.foldl_append];exact h.step hW (by omega)
theorem Fp{n:Nat}(hM:gh n M)(hW:Dw M n B)(hB:1<=B){c:Nat}(hc:c<=n):∀r∈(cK M c).1,∀q∈r,rl q<=ln (fB B M.length):=fun r hr q hq=>by
 obtain⟨σ,EQ,h⟩:=pQ hM hW c hc;obtain⟨a,ha⟩:=aQ hr;obtain⟨t,ht⟩:=aQ hq;have Qt:=(aD.1 ha).1;have TL:=(aD.1 ht).1;rw[h.red.1 r hr]at TL;have hle:=h.red.2.1;have e:q=cW (cK M c).1 a t:=by rw[cW,show(cK M c).1.getD a []=r by rw[List.getD,ha];rfl,List.getD,ht];rfl
 rw[h.len]at Qt hle;rw[e];rcases aP a (cK M c).2.length with I|I
 ·exact aW (h.yh.Jr I TL) (fI (qi hB hle))
 ·obtain⟨d,hd,hdB,hz⟩:=hW _ (h.OF a Qt);rw[h.rest a I Qt t TL];exact aW (h.yh.Js hB hd hdB hz n TL) (fI (qi hB (by omega)))
end Go.Ex
namespace Go.Ex
open Go Go.Sx Go.Proofs
variable{Fn:List (List Rat)}{qs xs ys:List Rat}{U:List Value}{h:Nat}{C S:Nat->Prop}{a:Option Addr}{p q:Rat}{u v:Value}{w:World}
section
variable{S:Nat->Prop}{H:Hp}{nx:Nat}{iv E:Iv}{B:Nat}{w J V:World}{O:Nat->Sx.dL}{A:List (List Value)}{qs:List Rat}
theorem Fc.rel(h:Fc w (Cv S B iv) A qs)(r:Rel H nx iv B w O J)(F:∀g,S g->g<B):Fc J (Cv S B iv) A qs:=h.cC fun _ G=>Rel.same r F G
theorem Fc.cD(h:Fc w (Cv S B iv) A qs)(r:Rel H nx iv B w O J)(F:∀g,S g->g<B)(W:Ext J V)(hm:∀p,p∈iv->p∈E):Fc V (Cv S B E) A qs:=
 ((h.rel r F).cC fun g G=>W.block g (Rel.old r F g G)).cF fun _ G=>G.mono hm
theorem Fc.push(h:Fc w S A qs)(hc:jA w S U q):Fc w S (A++[U]) (qs++[q]):=by
 refine⟨by simp[h.1],fun j x p I X=>?_⟩;rcases aP j A.length with D|D
 ·rw[aJ D]at I;rw[aJ (by rw[<-h.1];exact D)]at X;exact h.2 j x p I X
 ·have RZ:j=A.length:=by have:=(aD.1 I).1;simp at this;omega
  subst RZ;rw[aN (Nat.le_refl _),bB]at I;rw[h.1,aN (Nat.le_refl _),bB]at X;simp at I X;subst I X;exact hc
end
section
variable{S S':Nat->Prop}{H:Hp}{nx:Nat}{iv E:Iv}{B:Nat}{w J V:World}{O:Nat->Sx.dL}{v:Value}{b:List (Int×Int)}
end
def jf(qs:List Rat):List (Int×Int):=qs.map fun q=>(q.num,(q.den:Int))
theorem Bj(qs:List Rat):(jf qs).length=qs.length:=aL ..
theorem FE(qs:List Rat):(jf qs).map qQ=qs:=by
 unfold jf;rw[List.map_map];exact(List.map_congr_left fun q _=>sf q).trans (List.map_id qs)
theorem DE(Fn:List (List Rat)):kX (Fn.map jf)=Fn:=by
 unfold kX;rw[List.map_map];exact(List.map_congr_left fun q _=>FE q).trans (List.map_id Fn)
theorem cS.jf(h:cS w S v qs):fO w S v (jf qs):=by
 obtain⟨A,I,X,N,h4⟩:=h;refine⟨A,by unfold Go.Ex.jf;rw[aL];exact I,by unfold Go.Ex.jf;rw[aL];exact X,N,fun j U x k1 k2=>?_⟩;unfold Go.Ex.jf at k2;rw[aM]at k2;obtain⟨q,hq,rfl⟩:=Option.map_eq_some_iff.1 k2;obtain⟨b,a,n,c,b2,a2,n2,c2,rfl,hr⟩:=h4 j U q k1 hq;exact hr.four
theorem cT.jf(h:cT w S v Fn):ee w S v (Fn.map jf):=by
 obtain⟨rv,I,X,N⟩:=h;refine⟨rv,by rw[aL];exact I,by rw[aL];exact X,fun i u x k1 k2=>?_⟩;rw[aM]at k2;obtain⟨q,hq,rfl⟩:=Option.map_eq_some_iff.1 k2;exact(N i u q k1 hq).jf
theorem Bk(h:∀q∈qs,rl q<=10000000000):Few (jf qs):=fun x L=>by
 obtain⟨q,hq,rfl⟩:=aR.1 L;exact⟨aW (fu q) (h q hq),aW (fJ q) (h q hq)⟩
section
variable{S:Nat->Prop}{w:World}{v u:Value}{M:List (List (Int×Int))}{b:List (Int×Int)}
end
theorem eJ.zero:eJ w S (.agg #[.bool false,.slice none 0 0,.bool false,.slice none 0 0]) 0:=
 ⟨_,_,_,_,0,0,rfl,⟨false,[],⟨_,rfl,cz.nil _ _⟩,rfl,aS _⟩,⟨false,[],⟨_,rfl,cz.nil _ _⟩,rfl,aS _⟩,by decide⟩
section
variable{S:Nat->Prop}{w:World}{v u:Value}{M:List (List (Int×Int))}{x:List Rat}
end
theorem qJ(q:Rat):rs (q-0)=rs q:=by rw[show q-0=q by grind]
theorem kK(n:Int)(w:World)(h1n: -9223372036854775808<=n)(h2n:n<=9223372036854775807):dx PG F'.rP #[.int .i64 n] w (eH w fun v' V=>cN V (Nf w V) v' (n:Rat)):=by
 have Y:=bR w;refine vJ (by simp) ?_;refine cB (cE Y (fun _ J v V=>cN V (Nf J V) v ((n:Rat))) (fun O J r=>GJ n J h1n h2n) ?_);rintro O _ _ _ OZ r W Y h_ Z;have hd:=Z.dD (S:=FF) r.bz (mN h_);obtain⟨A0,A1,A2,A3,A4,A5,A6,A7,rfl⟩:=hd.shape;exact rtn Y fun GT we re=>hd.out re (bw w)
theorem mQ(F:Old S w)(hq:eJ w S v q):dx PG F'.tV #[v] w (eH w fun v' _=>∃d,v'= .bool d/\(d=true↔q=0)):=by
 have Y:=bR w;obtain⟨f0,f1,f2,f3,f4,f5,f6,f7,rfl⟩:=hq.shape;refine xA (by simp) ?_;refine cB (cE Y (fun _ J v V=>v= .int .i64 (rs q)) (fun O J r=>(GK (oS F r) (hq.v.cC (kS Y r F)) (eJ.zero (S:=S)).v).mono fun _ _ ⟨v2,e1,e2,e3⟩=>⟨v2,e1,e2,by rw[e3,qJ]⟩) ?_);rintro O _ _ _ OZ r W Y h_ rfl;intro GT we re;refine⟨_,rfl,Y.tr re.cL,_,rfl,?_⟩;rw[beq_iff_eq];exact oN
theorem GL(F:Old S w)(hp:eJ w S v p)(hq:eJ w S u q)(h0:q≠0):dx PG F'.wQ #[v,u] w (eH w fun v' V=>cN V (Nf w V) v' (p / q)):=by
 have Y:=bR w;obtain⟨f0,f1,f2,f3,f4,f5,f6,f7,rfl⟩:=hp.shape;obtain⟨g0,g1,g2,g3,g4,g5,g6,g7,rfl⟩:=hq.shape;refine z3 (by simp) ?_;refine cB (cE Y (fun _ J v V=>∃r,v= .tuple #[r,.int .i64 0]/\cN V (Nf J V) r (p / q)) (fun O J r=>(Nh (oS F r) (hp.v.cC (kS Y r F)) (hq.v.cC (kS Y r F))).mono fun _ _ ⟨v2,e1,e2,e3⟩=>⟨v2,e1,e2,e3.elim (fun h=>absurd h.1 h0) fun h=>h.2⟩) ?_);rintro O _ _ _ OZ r W Y h_ ⟨q1,rfl,k1⟩;have hd:=k1.dD (S:=FF) r.bz (mN h_);obtain⟨s1_0a,s1_0b,s1_0c,s1_0d,s1_0e,s1_0f,s1_0g,s1_0h,rfl⟩:=hd.shape;exact rtn Y fun GT we re=>hd.out re (bw w)
theorem vU(F:Old S w)(hq:eJ w S v q):dx PG F'.wV #[v] w (eH w fun v' V=>cN V (Nf w V) v' (-q)):=by
 have Y:=bR w;obtain⟨f0,f1,f2,f3,f4,f5,f6,f7,rfl⟩:=hq.shape;refine z8 (by simp) ?_;refine cB (cE Y (fun _ J v V=>cN V (Nf J V) v (-q)) (fun O J r=>(Ki (oS F r) (eJ.zero (S:=S)).v (hq.v.cC (kS Y r F))).mono fun _ _ ⟨v2,e1,e2,e3⟩=>⟨v2,e1,e2,by rwa [show (0:Rat)-q= -q by grind]at e3⟩) ?_);rintro O _ _ _ OZ r W Y h_ Z;have hd:=Z.dD (S:=FF) r.bz (mN h_);obtain⟨A0,A1,A2,A3,A4,A5,A6,A7,rfl⟩:=hd.shape;exact rtn Y fun GT we re=>hd.out re (bw w)
theorem Kj(F:Old S w)(L:dM w S v xs)(hy:dM w S u ys)(hl:xs.length<=ys.length)(hqx:∀q∈xs,rl q+1<=h)(hqy:∀q∈ys,rl q+1<=h)(X:2<=h)(hb:2*h*xs.length<=90000):
  dx PG F'.wP #[v,u] w (eH w fun v' V=>cN V (Nf w V) v' (fL xs ys xs.length)):=by
 have Y:=bR w;obtain⟨ax,cx,rfl,UM,UN⟩:=eD.shape L;obtain⟨ay,cy,rfl,hcy,-⟩:=eD.shape hy;unfold maxLen at UN;refine zZ (by simp) ?_;refine cB (cE Y (fun _ J v V=>cN V (Nf J V) v (((0:Int):Rat))) (fun O J r=>kK 0 J (by decide) (by decide)) ?_);rintro O _ _ _ OZ r W Y h_ Z;have hd:=Z.dD (S:=FF) r.bz (mN h_);obtain⟨A0,A1,A2,A3,A4,A5,A6,A7,rfl⟩:=hd.shape;rw[show ((0:Int):Rat)=fL xs ys 0 from rfl]at hd
 refine⟨Nat×(Bool×Bool)×(Option Addr×Option Addr)×(Nat×Nat×Nat×Nat)×World×Iv,fun z=>⟨[(1,sV ay ys.length cy),(4,pP 0 0),(5,pP 1 0),(9,sV ax xs.length cx),(10,iZ xs.length),(11,iN z.1)],[(1,.box T.Rat [.v (.bool z.2.1.1),.v (.slice z.2.2.1.1 z.2.2.2.1.1 z.2.2.2.1.2.1),.v (.bool z.2.1.2),.v (.slice z.2.2.1.2 z.2.2.2.1.2.2.1 z.2.2.2.1.2.2.2)]),(0,.box T.Rat [.v (.bool false),.v (.slice none 0 0),.v (.bool false),.v (.slice none 0 0)])],2,z.2.2.2.2.2,z.2.2.2.2.1⟩,fun z=>xs.length-z.1,
  fun z=>z.1<=xs.length/\dT w.heap.size w z.2.2.2.2.1/\cN z.2.2.2.2.1 (Cf w z.2.2.2.2.2) (.agg #[.bool z.2.1.1,.slice z.2.2.1.1 z.2.2.2.1.1 z.2.2.2.1.2.1,.bool z.2.1.2,.slice z.2.2.1.2 z.2.2.2.1.2.2.1 z.2.2.2.1.2.2.2]) (fL xs ys z.1),?_,?_⟩
 ·intro O J r;exact⟨(0,(A0,A4),(A1,A5),(A2,A3,A6,A7),J,OZ),⟨by simp,Y.tr r.cL,hd.rel r (bw w)⟩,Sub.gn [] r⟩
 rintro⟨i,⟨p0,p4⟩,⟨p1,p5⟩,⟨p2,p3,p6,p7⟩,w1,iv⟩ ⟨D,Y,hd⟩;dsimp only at D Y hd ⊢;refine dB.mk ?_ ?_<;>intro OQ
 ·have OQ:i<xs.length:=by simpa using OQ
  have hs:=zj hqx hqy X i;have Q6:2*h*i<=2*h*xs.length:=bP _ D;have hs3:2*h*1<=2*h*xs.length:=bP _ (by omega);obtain⟨x,Pz⟩:∃x,xs[i]? =some x:=⟨_,aB OQ⟩
  obtain⟨y,Va⟩:∃x,ys[i]? =some x:=⟨_,aB (by omega)⟩
  have hx3:=hqx x (aE Pz);have hy3:=hqy y (aE Va);have R1:xs.getD i 0=x:=by rw[List.getD,Pz];rfl
  have hy2:ys.getD i 0=y:=by rw[List.getD,Va];rfl
  have hm:=hJ x y;obtain⟨adx,csx,Pu,Qg,-,Pt⟩:=eD.load L Pz;obtain⟨ady,csy,Ud,RR,-,Q3⟩:=eD.load hy Va;obtain⟨f0,f1,f2,f3,f4,f5,f6,f7,rfl,Qg⟩:=Qg;obtain⟨q0,q1,q2,q3,q4,q5,q6,q7,rfl,RR⟩:=RR;refine⟨adx,Pu,by omega,[.bool f0,.slice f1 f2 f3,.bool f4,.slice f5 f6 f7],rfl,rdO Pt Y F,?_⟩;refine cB (cE Y (fun _ J v V=>∃d,v= .bool d/\(d=true↔x=0)) (fun O J r=>mQ (oS F r) (Qg.cC (kS Y r F))) ?_);rintro O _ _ _ OU r W Y h_ ⟨d1,rfl,Ol⟩;replace hd:=hd.cD r (bw w) W (mC h_)
  cases d1
  ·refine⟨ady,Ud,by omega,[.bool q0,.slice q1 q2 q3,.bool q4,.slice q5 q6 q7],rfl,rdO Q3 Y F,?_⟩;refine cB (cE Y (fun _ J v V=>∃d,v= .bool d/\(d=true↔y=0)) (fun O J r=>mQ (oS F r) (RR.cC (kS Y r F))) ?_);rintro O _ _ _ Oi r W Y h_ ⟨d2,rfl,Pg⟩;replace hd:=hd.cD r (bw w) W (mC h_)
   cases d2
   ·refine cI hτ dN [.x 0,.x 1,.x 2,.x 3,.x 4,.x 5,.x 6,.x 7,.x 8] (by kernel_rfl) (by kernel_rfl) ?_;refine⟨ady,Ud,by omega,[.bool q0,.slice q1 q2 q3,.bool q4,.slice q5 q6 q7],rfl,rdO Q3 Y F,?_⟩;refine cE Y (fun _ J v V=>cN V (Nf J V) v (x*y)) (fun O J r=>zl (oS F r) (Qg.v.cC (kS Y r F)) (RR.v.cC (kS Y r F))) ?_;rintro O _ _ _ Ow r W Y h_ Z;replace hd:=hd.cD r (bw w) W (mC h_);have hp:=Z.dD (S:=FF) r.bz (mN h_);obtain⟨C0,C1,C2,C3,C4,C5,C6,C7,rfl⟩:=hp.shape;refine cE Y (fun _ J v V=>cN V (Nf J V) v (fL xs ys i+x*y)) (fun O J r=>Cn (Rel.old r (bw w)) ((hd.rel r (bw w)).v (by omega)) ((hp.rel r (bw w)).v (by omega))) ?_;rintro O _ _ _ QO r W Y h_ Z;have PN:=Z.dD (S:=FF) r.bz (mN h_);obtain⟨E0,E1,E2,E3,E4,E5,E6,E7,rfl⟩:=PN.shape;rw[show fL xs ys i+x*y=fL xs ys (i+1) by rw[fL,R1,hy2]]at PN;refine⟨((i+1:Nat):Int),wo,?_⟩;intro IR w3 K;exact⟨(i+1,(E0,E4),(E1,E5),(E2,E3,E6,E7),w3,_),⟨OQ,Y.tr K.cL,PN.rel K (bw w)⟩,Sub.gn [] K,by dsimp only;omega⟩
   ·have Ph:y=0:=Pg.1 rfl;rw[show fL xs ys i=fL xs ys (i+1) by rw[fL,R1,hy2,Ph,az,bD]]at hd;refine⟨((i+1:Nat):Int),wo,?_⟩;intro IR w3 K;exact⟨(i+1,(p0,p4),(p1,p5),(p2,p3,p6,p7),w3,_),⟨OQ,Y.tr K.cL,hd.rel K (bw w)⟩,Sub.gn [] K,by dsimp only;omega⟩
  ·have Ri:x=0:=Ol.1 rfl;rw[show fL xs ys i=fL xs ys (i+1) by rw[fL,R1,hy2,Ri,bC,bD]]at hd;refine⟨((i+1:Nat):Int),wo,?_⟩;intro IR w3 K;exact⟨(i+1,(p0,p4),(p1,p5),(p2,p3,p6,p7),w3,_),⟨OQ,Y.tr K.cL,hd.rel K (bw w)⟩,Sub.gn [] K,by dsimp only;omega⟩
 have OQ:i=xs.length:=aU D (by simpa using OQ);subst OQ;exact rtn Y fun GT we re=>hd.out re (bw w)
structure fz(w:World)(S:Nat->Prop)(n i:Nat)(A:List (List Value))(qs:List Rat):Prop where
 len:A.length=n
 four:∀U∈A,U.length=4
 one:∀U∈A,∀u∈U,u.oneCell'=true
 at_:∀(j:Nat) U q,j<i->A[j]? =some U->qs[j]? =some q->jA w S U q
section
variable{S S':Nat->Prop}{H:Hp}{nx n i:Nat}{iv E:Iv}{B:Nat}{w w1 J V:World}{O:Nat->Sx.dL}{A:List (List Value)}{qs:List Rat}
theorem fz.cC(h:fz w S n i A qs)(R:∀g,S g->V.heap[g]? =w.heap[g]?):fz V S n i A qs:=⟨h.len,h.four,h.one,fun j U q hj I X=>(h.at_ j U q hj I X).cC R⟩
theorem fz.cF(h:fz w S n i A qs)(R:∀g,S g->S' g):fz w S' n i A qs:=⟨h.len,h.four,h.one,fun j U q hj I X=>(h.at_ j U q hj I X).cF R⟩
theorem fz.rel(h:fz w (Cv S B iv) n i A qs)(r:Rel H nx iv B w O J)(F:∀g,S g->g<B):fz J (Cv S B iv) n i A qs:=h.cC fun _ G=>Rel.same r F G
theorem fz.cD(h:fz w (Cv S B iv) n i A qs)(r:Rel H nx iv B w O J)(F:∀g,S g->g<B)(W:Ext J V)(hm:∀p,p∈iv->p∈E):fz V (Cv S B E) n i A qs:=
 ((h.rel r F).cC fun g G=>W.block g (Rel.old r F g G)).cF fun _ G=>G.mono hm
theorem fz.start(w:World)(S:Nat->Prop)(n:Nat)(qs:List Rat):fz w S n 0 (List.replicate n f0) qs:=
 ⟨by simp,fun U hc=>by rw[b9 hc];rfl,fun U hc u hu=>by rw[b9 hc]at hu;simp[f0]at hu;rcases hu with rfl|rfl|rfl|rfl<;>rfl,fun j U q hj=>by omega⟩
theorem fz.next{b b2:Bool}{a2:Option Addr}{m c m2 c2:Nat}(h:fz w S n i A qs)(D:i<n)(hq:qs[i]? =some q)(hf:cN w S (.agg #[.bool b,.slice a m c,.bool b2,.slice a2 m2 c2]) q):
  fz w S n (i+1) (A.set i [.bool b,.slice a m c,.bool b2,.slice a2 m2 c2]) qs:=by
 refine⟨by simp[h.len],fun U hc=>?_,fun U hc u hu=>?_,fun j U p hj I X=>?_⟩
 ·rcases a9 hc with hc|rfl
  ·exact h.four U hc
  ·rfl
 ·rcases a9 hc with hc|rfl
  ·exact h.one U hc u hu
  ·simp at hu;rcases hu with rfl|rfl|rfl|rfl<;>rfl
 ·by_cases PH:i=j
  ·subst PH;rw[aO (by rw[h.len];exact D)]at I;rw[hq]at X;injection I with I;injection X with X;subst I X;exact hf.uK
  ·rw[aT PH]at I;exact h.at_ j U p (by omega) I X
theorem fz.flat(h:fz w S n i A qs):A.flatten.length=n*4:=by rw[eo h.four,h.len]
theorem fz.done{w0:World}(h:fz w1 (Cf w0 iv) n n A qs)(hl:qs.length=n)(Z:n<=maxLen)(r:Rel H nx iv w0.heap.size w1 O J){id:Nat}(hH:cV H id=some (.arr T.Rat A.flatten))(Oe:(O id).nil=false):
  eE J FF w0.heap.size [(w0.heap.size,J.heap.size)] (.slice (some ⟨(O id).g,0,none⟩) n n) n qs:=by
 have X:=h.rel r (bw w0);have Od:=r.low id _ hH Oe;refine⟨⟨A,⟨h.flat,.inr ⟨(O id).g,n,A.flatten.toArray,rfl,aS _,r.arr id _ _ hH,Nat.le_refl _,Z,by simpa using h.flat,?_⟩⟩,h.len,?_⟩,fun g G=>?_⟩
 ·rw[<-h.flat];exact bH
 ·refine⟨by rw[h.len,hl],fun j U q N h4=>?_⟩;refine(X.at_ j U q (by rw[<-hl];exact(aD.1 h4).1) N h4).cF fun g G=>⟨?_,fun e=>?_⟩
  ·rcases G with G|⟨k1,lo,D,k2,k3,k4⟩
   ·exact G.elim
   ·exact .inr ⟨k1,_,_,bF.2 rfl,k1,by have:=r.qW lo D k2;have:=r.size;omega⟩
  ·injection e with e;exact Rel.not r (bw w0) G id _ hH Oe e
 ·injection G with G;subst G;exact .inr ⟨Od.1,_,_,bF.2 rfl,Od.1,Od.2⟩
theorem gB.c(h:gB w S S v qs):cS w S v qs:=by
 obtain⟨A,I,X⟩:=h;exact⟨A,I,X.1,X.nH,X.2⟩
theorem eE.c(h:eE w S B iv v n qs):cS w (Cv S B iv) v qs:=h.read.c
theorem cS.rc(h:cS w S v qs):gB w S S v qs:=by
 obtain⟨A,I,X,N,h4⟩:=h;exact⟨A,I,X,h4⟩
theorem gB.rel(h:gB w (Cv C B iv) (Cv S B iv) v qs)(r:Rel H nx iv B w O J)(hC:∀g,C g->g<B)(F:∀g,S g->g<B):gB J (Cv C B iv) (Cv S B iv) v qs:=
 h.cC fun _ G=>G.elim (Rel.same r hC) (Rel.same r F)
theorem gB.cD(h:gB w (Cv C B iv) (Cv S B iv) v qs)(r:Rel H nx iv B w O J)(hC:∀g,C g->g<B)(F:∀g,S g->g<B)(W:Ext J V)(hm:∀p,p∈iv->p∈E):gB V (Cv C B E) (Cv S B E) v qs:=
 ((h.rel r hC F).cC fun g G=>W.block g (G.elim (Rel.old r hC g) (Rel.old r F g))).cF (fun _ G=>G.mono hm) (fun _ G=>G.mono hm)
theorem gB.arg(h:gB w C S v qs)(iv:Iv):gB w (Cv C w.heap.size iv) (Cv S w.heap.size iv) v qs:=h.cF (fun _ h=>.inl h) (fun _ h=>.inl h)
theorem gB.shape(h:gB w C S v qs):∃a c,v= .slice a qs.length c/\qs.length<=c/\qs.length<=maxLen:=by
 obtain⟨A,⟨h0,_,_,a,c,I,X,_⟩,_⟩:=h;exact⟨a,c,I,X,h0⟩
theorem gB.load{n c j:Nat}(h:gB w C S (.slice a n c) qs)(hq:qs[j]? =some q):
  ∃ad U,a=some ad/\jA w S U q/\∀k u,U[k]? =some u->C ad.block/\w.cell? ((ad.add (j*4)).add k)=some u:=by
 obtain⟨A,⟨h0,I,X,a',c',e,N,h4⟩,hf⟩:=h;injection e with e1 e2 e3;subst e1;obtain⟨U,Ok⟩:∃U,A[j]? =some U:=⟨_,aB (by rw[hf.1];exact(aD.1 hq).1)⟩
 have hF:=hf.2 j U q Ok hq;have hl:=hF.len;obtain⟨ad,k1,k2,k3⟩:=h4 (j*4+0) _ (flat_get hf.nH Ok 0 _ (aB (show 0<U.length by omega)));refine⟨ad,U,k1,hF,fun k u hu=>?_⟩;obtain⟨ad2,m1,m2,m3⟩:=h4 (j*4+k) u (flat_get hf.nH Ok k u hu);rw[k1]at m1;injection m1 with m1;subst m1;refine⟨m2,?_⟩;rw[<-m3];have:(ad.add (j*4)).add k=ad.add (j*4+k):=by
  unfold Addr.add;split<;>split<;>simp_all<;>omega
 rw[this]
theorem Ed{j:Nat}{c:Nat}(h:w.ownsRow 0 T.Rat 4 (.slice a n c) n A.flatten)(hf:Fc w S A qs)(hj:A[j]? =some U):
  ∃g,a=some ⟨g,0,none⟩/\∀k u,U[k]? =some u->w.cell? ((Addr.add ⟨g,0,none⟩ (j*4)).add k)=some u:=by
 rcases h.2 with⟨I,h0⟩|⟨g,cap,cur,RJ,_⟩
 ·have:=h.1;rw[eo hf.nH]at this;have:=(aD.1 hj).1;omega
 ·injection RJ with I X N;subst I;refine⟨g,rfl,fun k u hu=>?_⟩;have:=h.cells (g:=g) rfl (j*4+k) u (flat_get hf.nH hj k u hu);rw[dA,dA];rw[dA]at this;rw[Nat.add_assoc];exact this
end
theorem zm(n:Nat)(w:World)(Z:n<=1000000):dx PG F'.rR #[.int .i64 n] w (eH w fun v' V=>eE V FF w.heap.size [(w.heap.size,V.heap.size)] v' n (List.replicate n 0)):=by
 have Y:=bR w;refine vM (by simp) ?_
 refine⟨n,n,rfl,rfl,Nat.le_refl _,by omega,by omega,Nat×List (List Value)×Iv×World,fun z=>⟨[(3,.o (.s 0 0 n n)),(8,iZ n),(9,iN z.1)],[(0,.arr T.Rat z.2.1.flatten)],1,z.2.2.1,z.2.2.2⟩,fun z=>n-z.1,
  fun z=>z.1<=n/\dT w.heap.size w z.2.2.2/\fz z.2.2.2 (Cf w z.2.2.1) (n) z.1 z.2.1 (List.replicate n 0),?_,?_⟩
 ·intro O J r;exact⟨(0,List.replicate (n) f0,_,J),⟨by simp,Y.tr r.cL,fz.start _ _ _ _⟩,Sub.gn [] r⟩
 rintro⟨i,A,iv,w1⟩ ⟨D,Y,hF⟩;dsimp only at D Y hF ⊢;refine dB.mk ?_ ?_<;>intro h
 ·have h:i<n:=by simpa using h
  refine cB (cE Y (fun _ J v V=>cN V (Nf J V) v (((0:Int):Rat))) (fun O J r=>kK 0 J (by decide) (by decide)) ?_);rintro O _ _ _ OZ r W Y h_ Z;replace hF:=hF.cD r (bw w) W (mC h_);have hd:=Z.dD (S:=FF) r.bz (mN h_);obtain⟨A0,A1,A2,A3,A4,A5,A6,A7,rfl⟩:=hd.shape;have Oh:=hF.next h (q:=_) (by simp[h]) hd
  refine⟨by omega,by have:=hF.flat;omega,(A.set i [.bool A0,.slice A1 A2 A3,.bool A4,.slice A5 A6 A7]).flatten,?_,?_⟩
  ·have:=jI (U:=[.bool A0,.slice A1 A2 A3,.bool A4,.slice A5 A6 A7]) hF.four (show i<A.length by rw[hF.len];exact h);rw[<-this];simp
  refine⟨((i+1:Nat):Int),wo,?_⟩;intro IR w3 K;exact⟨(i+1,A.set i [.bool A0,.slice A1 A2 A3,.bool A4,.slice A5 A6 A7],_,w3),⟨h,Y.tr K.cL,Oh.rel K (bw w)⟩,Sub.gn [] K,by dsimp only;omega⟩
 have h:i=n:=aU D (by simpa using h);subst h;exact rtn Y fun GT we re=>hF.done (by simp) (by unfold maxLen;omega) re (id:=0) rfl (re.nn 0 _ rfl (by intros;simp) (by simp))
theorem Ig{b:Rat}(F:Old S w)(L:dM w S v xs)(hb:eJ w S u b)(Z:xs.length<=1000000):
  dx PG F'.p9 #[v,u] w (eH w fun v' V=>eE V FF w.heap.size [(w.heap.size,V.heap.size)] v' xs.length (df xs b)):=by
 have Y:=bR w;obtain⟨ax,cx,rfl,UM,UN⟩:=eD.shape L;obtain⟨g0,g1,g2,g3,g4,g5,g6,g7,rfl⟩:=hb.shape;have Oq:rl b<=100000:=hb.rl;refine tz (by simp) ?_
 refine⟨xs.length,xs.length,rfl,rfl,Nat.le_refl _,by omega,by omega,Nat×List (List Value)×Iv×World,fun z=>⟨[(3,pP 0 0),(5,.o (.s 1 0 xs.length xs.length)),(11,sV ax xs.length cx),(12,iZ xs.length),(13,iN z.1)],[(0,.box T.Rat [.v (.bool g0),.v (.slice g1 g2 g3),.v (.bool g4),.v (.slice g5 g6 g7)]),(1,.arr T.Rat z.2.1.flatten)],2,z.2.2.1,z.2.2.2⟩,fun z=>xs.length-z.1,
  fun z=>z.1<=xs.length/\dT w.heap.size w z.2.2.2/\fz z.2.2.2 (Cf w z.2.2.1) (xs.length) z.1 z.2.1 (df xs b),?_,?_⟩
 ·intro O J r;exact⟨(0,List.replicate (xs.length) f0,_,J),⟨by simp,Y.tr r.cL,fz.start _ _ _ _⟩,Sub.gn [] r⟩
 rintro⟨i,A,iv,w1⟩ ⟨D,Y,hF⟩;dsimp only at D Y hF ⊢;refine dB.mk ?_ ?_<;>intro h
 ·have h:i<xs.length:=by simpa using h
  obtain⟨x,Pz⟩:∃x,xs[i]? =some x:=⟨_,aB h⟩
  obtain⟨adx,csx,Pu,Qg,-,Pt⟩:=eD.load L Pz;obtain⟨f0,f1,f2,f3,f4,f5,f6,f7,rfl,Qg⟩:=Qg;refine⟨adx,Pu,by omega,[.bool f0,.slice f1 f2 f3,.bool f4,.slice f5 f6 f7],rfl,rdO Pt Y F,?_⟩;refine cB (cE Y (fun _ J v V=>cN V (Nf J V) v (x*b)) (fun O J r=>zl (oS F r) (Qg.v.cC (kS Y r F)) (hb.v.cC (kS Y r F))) ?_);rintro O _ _ _ OZ r W Y h_ Z;replace hF:=hF.cD r (bw w) W (mC h_);have hd:=Z.dD (S:=FF) r.bz (mN h_);obtain⟨A0,A1,A2,A3,A4,A5,A6,A7,rfl⟩:=hd.shape;have Oh:=hF.next h (q:=_) (by rw[df,aM,Pz];rfl) hd
  refine⟨by omega,by have:=hF.flat;omega,(A.set i [.bool A0,.slice A1 A2 A3,.bool A4,.slice A5 A6 A7]).flatten,?_,?_⟩
  ·have:=jI (U:=[.bool A0,.slice A1 A2 A3,.bool A4,.slice A5 A6 A7]) hF.four (show i<A.length by rw[hF.len];exact h);rw[<-this];simp
  refine⟨((i+1:Nat):Int),wo,?_⟩;intro IR w3 K;exact⟨(i+1,A.set i [.bool A0,.slice A1 A2 A3,.bool A4,.slice A5 A6 A7],_,w3),⟨h,Y.tr K.cL,Oh.rel K (bw w)⟩,Sub.gn [] K,by dsimp only;omega⟩
 have h:i=xs.length:=aU D (by simpa using h);subst h;exact rtn Y fun GT we re=>hF.done (by simp[df]) (by unfold maxLen;omega) re (id:=1) rfl (re.nn 1 _ rfl (by intros;simp) (by simp))
theorem MP(F:Old S w)(L:dM w S v xs)(hy:dM w S u ys)(hl:xs.length<=ys.length)(Z:xs.length<=1000000):
  dx PG F'.tc #[v,u] w (eH w fun v' V=>eE V FF w.heap.size [(w.heap.size,V.heap.size)] v' xs.length (lu xs ys)):=by
 have Y:=bR w;obtain⟨ax,cx,rfl,UM,UN⟩:=eD.shape L;obtain⟨ay,cy,rfl,hcy,hmy⟩:=eD.shape hy;refine xG (by simp) ?_
 refine⟨xs.length,xs.length,rfl,rfl,Nat.le_refl _,by omega,by omega,Nat×List (List Value)×Iv×World,fun z=>⟨[(0,sV ax xs.length cx),(1,sV ay ys.length cy),(5,.o (.s 0 0 xs.length xs.length)),(11,iZ xs.length),(12,iN z.1)],[(0,.arr T.Rat z.2.1.flatten)],1,z.2.2.1,z.2.2.2⟩,fun z=>xs.length-z.1,
  fun z=>z.1<=xs.length/\dT w.heap.size w z.2.2.2/\fz z.2.2.2 (Cf w z.2.2.1) (xs.length) z.1 z.2.1 (lu xs ys),?_,?_⟩
 ·intro O J r;exact⟨(0,List.replicate (xs.length) f0,_,J),⟨by simp,Y.tr r.cL,fz.start _ _ _ _⟩,Sub.gn [] r⟩
 rintro⟨i,A,iv,w1⟩ ⟨D,Y,hF⟩;dsimp only at D Y hF ⊢;refine dB.mk ?_ ?_<;>intro h
 ·have h:i<xs.length:=by simpa using h
  obtain⟨x,Pz⟩:∃x,xs[i]? =some x:=⟨_,aB h⟩
  obtain⟨y,Va⟩:∃x,ys[i]? =some x:=⟨_,aB (by omega)⟩
  obtain⟨adx,csx,Pu,Qg,-,Pt⟩:=eD.load L Pz;obtain⟨f0,f1,f2,f3,f4,f5,f6,f7,rfl,Qg⟩:=Qg;obtain⟨ady,csy,Ud,RR,-,Q3⟩:=eD.load hy Va;obtain⟨q0,q1,q2,q3,q4,q5,q6,q7,rfl,RR⟩:=RR;refine cI hτ dN [.x 0,.x 1,.x 2,.x 3,.x 4,.x 5,.x 6,.x 7,.x 8,.x 9,.x 10,.x 11,.x 12] (by kernel_rfl) (by kernel_rfl) ?_;refine⟨adx,Pu,by omega,[.bool f0,.slice f1 f2 f3,.bool f4,.slice f5 f6 f7],rfl,rdO Pt Y F,ady,Ud,by omega,[.bool q0,.slice q1 q2 q3,.bool q4,.slice q5 q6 q7],rfl,rdO Q3 Y F,?_⟩;refine cE Y (fun _ J v V=>cN V (Nf J V) v (x*y)) (fun O J r=>zl (oS F r) (Qg.v.cC (kS Y r F)) (RR.v.cC (kS Y r F))) ?_;rintro O _ _ _ OZ r W Y h_ Z;replace hF:=hF.cD r (bw w) W (mC h_);have hd:=Z.dD (S:=FF) r.bz (mN h_);obtain⟨A0,A1,A2,A3,A4,A5,A6,A7,rfl⟩:=hd.shape;have Oh:=hF.next h (q:=_) (by rw[lu,List.getElem?_mapIdx,Pz,List.getD,Va];rfl) hd
  refine⟨by omega,by have:=hF.flat;omega,(A.set i [.bool A0,.slice A1 A2 A3,.bool A4,.slice A5 A6 A7]).flatten,?_,?_⟩
  ·have:=jI (U:=[.bool A0,.slice A1 A2 A3,.bool A4,.slice A5 A6 A7]) hF.four (show i<A.length by rw[hF.len];exact h);rw[<-this];simp
  refine⟨((i+1:Nat):Int),wo,?_⟩;intro IR w3 K;exact⟨(i+1,A.set i [.bool A0,.slice A1 A2 A3,.bool A4,.slice A5 A6 A7],_,w3),⟨h,Y.tr K.cL,Oh.rel K (bw w)⟩,Sub.gn [] K,by dsimp only;omega⟩
 have h:i=xs.length:=aU D (by simpa using h);subst h;exact rtn Y fun GT we re=>hF.done (by simp[lu]) (by unfold maxLen;omega) re (id:=0) rfl (re.nn 0 _ rfl (by intros;simp) (by simp))
theorem MQ{vby vs:Value}{n:Nat}{ps:List Rat}(hC:Old C w)(F:Old S w)(hrw:gK w S v n qs)(Oq:eJ w S vby p)
  (hs:gB w C S vs ps) (Pj:ps.length=n) (hdis:∀g,v.ownBlock=some g->¬S g) (Tt:∀g,v.ownBlock=some g->¬C g) (hq:∀q∈qs,rl q+1<=h) (hps:∀q∈ps,rl q+1<=h) (hb:rl p+1<=h) (hh:3*h<=90000):
  dx PG F'.oD #[v,vs,vby] w (fun e V=>e= .returned (.tuple #[])/\w.grownBy V v.ownBlock/\gK V (Nw S w V) v n (lr qs ps p)):=by
 obtain⟨A,OR,PZ,Pb⟩:=hrw;have Od:∀g,v.ownBlock=some g->g<w.heap.size:=fun g G=>(ownsRow.low OR g G).2;have PL:∀iv g,v.ownBlock=some g->Out w.heap.size iv g:=fun iv g G=>.inl (Od g G);have Uu:∀iv g,v.ownBlock=some g->¬Cv S w.heap.size iv g:=fun iv g G h=>by
  rcases h with h|⟨h,_⟩
  ·exact hdis g G h
  ·have:=Od g G;omega
 have Uv:∀iv g,v.ownBlock=some g->¬Cv C w.heap.size iv g:=fun iv g G h=>by
  rcases h with h|⟨h,_⟩
  ·exact Tt g G h
  ·have:=Od g G;omega
 have SB:qs.length=n:=by rw[<-Pb.1,PZ]
 obtain⟨a,c,rfl,Ti⟩:=ig OR;obtain⟨b1,a1,n1,c1,b2,a2,n2,c2,rfl⟩:=Oq.shape;obtain⟨asl,cs0,rfl,Rg,UZ⟩:=hs.shape;rw[Pj]at Rg UZ hs ⊢;unfold maxLen at UZ;replace Pb:=Pb.cF (S':=Cv S w.heap.size []) fun _ h=>.inl h;replace Oq:=Oq.arg [];replace hs:=hs.arg [];refine xM (by simp) ?_;have Pc:=OR;have G:w.grownBy w (Value.slice a n c).ownBlock:=⟨rfl,rfl,rfl,Nat.le_refl _,fun _ _ _=>rfl⟩
 have hbyl:rl p<=100000:=Oq.rl
 refine⟨Nat×List (List Value)×Iv×World,fun z=>⟨[(0,sV a n c),(5,pP 0 0),(8,sV asl n cs0),(9,iZ n),(10,iZ z.1)],
   [(0,.box T.Rat [.v (.bool b1),.v (.slice a1 n1 c1),.v (.bool b2),.v (.slice a2 n2 c2)])],1,z.2.2.1,z.2.2.2⟩,fun z=>n-z.1,
  fun z=>z.1<=n/\w.grownBy z.2.2.2 (Value.slice a n c).ownBlock/\z.2.2.2.ownsRow 0 T.Rat 4 (.slice a n c) n z.2.1.flatten/\z.2.1.length=n/\Fc z.2.2.2 (Cv S w.heap.size z.2.2.1) z.2.1 (gb z.1 (rE (-p) ps) qs)/\
   eJ z.2.2.2 (Cv S w.heap.size z.2.2.1) (.agg #[.bool b1,.slice a1 n1 c1,.bool b2,.slice a2 n2 c2]) p/\gB z.2.2.2 (Cv C w.heap.size z.2.2.1) (Cv S w.heap.size z.2.2.1) (.slice asl n cs0) ps,?_,?_⟩
 ·intro O J r
  refine⟨(0,A,[],J),⟨by simp,dW G r.cL,gg Pc (PL []) r,PZ,by rw[oP];exact Pb.rel r F,Oq.rel r F,hs.rel r hC F⟩,
   Sub.gn [] r⟩
 rintro⟨i,A,iv,w1⟩ ⟨D,G,OR,PZ,Pb,Oq,hs⟩;dsimp only at D G OR PZ Pb Oq hs ⊢;refine dB.mk ?_ ?_<;>intro h
 ·have h:i<n:=by simpa using h
  obtain⟨U,Ok⟩:∃U,A[i]? =some U:=⟨_,aB (by omega)⟩
  obtain⟨q,WB⟩:∃q,qs[i]? =some q:=⟨_,aB (by omega)⟩
  obtain⟨f,TG⟩:∃f,ps[i]? =some f:=⟨_,aB (by omega)⟩
  have hF:=Pb.2 i U q Ok (uL WB);have TW:rE (-p) ps i q=q-p*f:=by simp only[rE,List.getD,TG,Option.getD_some];grind
  obtain⟨d1,e1,m1,k1,d2,e2,m2,k2,rfl,hF⟩:=hF;have hrlq:=hq q (aE WB);have hrlf:=hps f (aE TG);obtain⟨ad,fcs,Om,Tv,Ot⟩:=hs.load TG;obtain⟨f1,g1,o1,u1,f2,g2,o2,u2,rfl,Tv⟩:=Tv;refine⟨ad,Om,by omega,[.bool f1,.slice g1 o1 u1,.bool f2,.slice g2 o2 u2],rfl,fun O J r j x L=>?_,?_⟩
  ·have Q6:=hs.rel r hC F;obtain⟨k2',k3⟩:=Ot j x L;have:=Rel.same r hC k2';rw[aF,cJ (w:=w1) (V:=J) (by rw[c9,c9];exact this)];exact k3
  refine cB (cG (Id:=fun _ _ v _=>∃d,v= .bool d/\(d=true↔f=0)) (fun O J r=>mQ (Rel.old r F) ((Tv.rel r F).l (by omega))) ?_);rintro O wa v1 wb r W QL ⟨dz,rfl,hz⟩;replace Oq:=Oq.cD (E:=(wa.heap.size,wb.heap.size)::iv) r F W fun x L=>aC _ L;replace Pb:=Pb.cD (E:=(wa.heap.size,wb.heap.size)::iv) r F W fun x L=>aC _ L;replace hs:=hs.cD (E:=(wa.heap.size,wb.heap.size)::iv) r hC F W fun x L=>aC _ L;replace Tv:=Tv.cD (E:=(wa.heap.size,wb.heap.size)::iv) r F W fun x L=>aC _ L;replace hF:=hF.cD (E:=(wa.heap.size,wb.heap.size)::iv) r F W fun x L=>aC _ L;replace OR:wb.ownsRow 0 T.Rat 4 (.slice a n c) n A.flatten:=ownsRow.cC (gg OR (PL iv) r) fun b hb=>W.block b (by have:=Od b hb;have:=r.bz;omega);replace G:w.grownBy wb _:=dW G QL;generalize (wa.heap.size,wb.heap.size)::iv=OU at*
  cases dz
  ·refine cI hτ dN [.x 0,.x 1,.x 2,.x 3,.x 4,.x 5,.x 6,.x 7,.x 8,.x 9,.x 10,.x 11] (by kernel_rfl) (by kernel_rfl) ?_;obtain⟨g,rfl,Oo⟩:=Ed OR Pb Ok;refine⟨⟨g,0,none⟩,rfl,by omega,[.bool d1,.slice e1 m1 k1,.bool d2,.slice e2 m2 k2],rfl,fun O J r j x L=>?_,?_⟩
   ·have:=Ed (gg OR (PL OU) r) (Pb.rel r F) Ok;obtain⟨g',I,X⟩:=this;injection I with I;rw[<-I]at X;exact X j x L
   have QT:=hJ p f;refine cG (Id:=fun _ J v V=>cN V (Nf J V) v (p*f)) (fun O J r=>zl (Rel.old r F) (Oq.rel r F).v ((Tv.rel r F).v (by omega))) ?_;rintro O wa v1 wb r W QL hP;have hPN:=hP.dD (S:=S) r.bz (iv:=(wa.heap.size,wb.heap.size)::OU) aG;replace Oq:=Oq.cD (E:=(wa.heap.size,wb.heap.size)::OU) r F W fun x L=>aC _ L;replace Pb:=Pb.cD (E:=(wa.heap.size,wb.heap.size)::OU) r F W fun x L=>aC _ L;replace hs:=hs.cD (E:=(wa.heap.size,wb.heap.size)::OU) r hC F W fun x L=>aC _ L;replace hF:=hF.cD (E:=(wa.heap.size,wb.heap.size)::OU) r F W fun x L=>aC _ L;replace OR:wb.ownsRow 0 T.Rat 4 (.slice (some ⟨g,0,none⟩) n c) n A.flatten:=ownsRow.cC (gg OR (PL OU) r) fun b hb=>W.block b (by have:=Od b hb;have:=r.bz;omega);replace G:w.grownBy wb _:=dW G QL;generalize (wa.heap.size,wb.heap.size)::OU=Oi at*
   obtain⟨b5,a5,n5,c5,b6,a6,n6,c6,rfl⟩:=hPN.shape;refine cG (Id:=fun _ J v V=>cN V (Nf J V) v (q-p*f)) (fun O J r=>Ki (Rel.old r F) ((hF.rel r F).v (by omega)) ((hPN.rel r F).v (by omega))) ?_;rintro O wc v2 wd r W QL hQ;have Wf:=hQ.dD (S:=S) r.bz (iv:=(wc.heap.size,wd.heap.size)::Oi) aG;replace Oq:=Oq.cD (E:=(wc.heap.size,wd.heap.size)::Oi) r F W fun x L=>aC _ L;replace Pb:=Pb.cD (E:=(wc.heap.size,wd.heap.size)::Oi) r F W fun x L=>aC _ L;replace hs:=hs.cD (E:=(wc.heap.size,wd.heap.size)::Oi) r hC F W fun x L=>aC _ L;replace OR:wd.ownsRow 0 T.Rat 4 (.slice (some ⟨g,0,none⟩) n c) n A.flatten:=ownsRow.cC (gg OR (PL Oi) r) fun b hb=>W.block b (by have:=Od b hb;have:=r.bz;omega);replace G:w.grownBy wd _:=dW G QL;generalize (wc.heap.size,wd.heap.size)::Oi=Ow at*
   obtain⟨b7,a7,n7,c7,b8,a8,n8,c8,rfl⟩:=Wf.shape;rw[<-TW]at Wf;refine⟨⟨g,0,none⟩,rfl,by omega,?_⟩;intro O J r;have SC:=gg OR (PL Ow) r;have hF5:=(Wf.rel r F).uK;obtain⟨g',R6,OV,QA,Oc,Oj⟩:=kA (nv:=[.bool b7,.slice a7 n7 c7,.bool b8,.slice a8 n8 c8]) SC rfl h rfl (by decide);injection R6 with R6;injection R6 with R6;subst R6;have Si:=jI (U:=[.bool b7,.slice a7 n7 c7,.bool b8,.slice a8 n8 c8]) Pb.nH (show i<A.length by omega);rw[Si]at QA;have Pe:∀x,Cv S w.heap.size Ow x->(setCells J ⟨g,i*4,none⟩ [.bool b7,.slice a7 n7 c7,.bool b8,.slice a8 n8 c8]).heap[x]? =J.heap[x]? :=fun x L=>
    Oc.block x (Rel.old r F x L) fun e=>Uu Ow g rfl (by injection e with e;rw[<-e];exact L)
   have Pa:(⟨g,0,none⟩:Addr).add ((i:Int).toNat*4)=⟨g,i*4,none⟩:=by rw[aF,dA,aV]
   have hF6:=((Pb.rel r F).cC Pe).set (j:=i) (hF5.cC Pe);rw[lO (f:=rE (-p) ps) WB]at hF6;have Uw:=(Oq.rel r F).cC Pe;have SN:∀x,Cv C w.heap.size Ow x->(setCells J ⟨g,i*4,none⟩ [.bool b7,.slice a7 n7 c7,.bool b8,.slice a8 n8 c8]).heap[x]? =J.heap[x]? :=fun x L=>
    Oc.block x (Rel.old r hC x L) fun e=>Uv Ow g rfl (by injection e with e;rw[<-e];exact L)
   have hs6:=(hs.rel r hC F).cC fun x L=>L.elim (SN x) (Pe x);replace G:w.grownBy (setCells J ⟨g,i*4,none⟩ [.bool b7,.slice a7 n7 c7,.bool b8,.slice a8 n8 c8]) (some g):=fg (dW G r.cL) Oc;have Px:=fun id b hb Z=>Rel.not r (fun _ h=>h) (PL Ow g rfl) id b hb Z;refine⟨by rw[Pa],fun k R=>by rw[Pa];exact OV k R,fun id b hb Z=>by rw[Pa];exact Px id b hb Z,fun V PR=>?_⟩;have PR:V=setCells J ⟨g,i*4,none⟩ [.bool b7,.slice a7 n7 c7,.bool b8,.slice a8 n8 c8]:=by rw[PR];exact congrArg (fun x=>setCells J x _) Pa
   rw[<-PR]at hF6 Uw QA G Oj hs6;refine⟨((i+1:Nat):Int),wo,?_⟩;intro IR w3 K
   exact⟨(i+1,A.set i [.bool b7,.slice a7 n7 c7,.bool b8,.slice a8 n8 c8],Ow,w3),⟨h,dW G K.cL,gg QA (PL Ow) K,by simpa using PZ,hF6.rel K F,Uw.rel K F,hs6.rel K hC F⟩,
    Sub.gn [] K,by dsimp only;omega⟩
  ·have hf0:f=0:=hz.1 rfl;have RY:rE (-p) ps i q=q:=by rw[TW,hf0];grind
   refine⟨((i+1:Nat):Int),wo,?_⟩;intro IR w3 K
   exact⟨(i+1,A,OU,w3),⟨h,dW G K.cL,gg OR (PL OU) K,PZ,by rw[<-zn WB RY];exact Pb.rel K F,Oq.rel K F,hs.rel K hC F⟩,
    Sub.gn [] K,by dsimp only;omega⟩
 ·have h:i=n:=by
   have:¬i<n:=by simpa using h
   omega
  subst h;intro If w5 r5;refine⟨rfl,dW G r5.cL,A,gg OR (PL iv) r5,PZ,?_⟩;have:=(Pb.rel r5 F).cF (S':=Nw S w w5) fun g G=>Cv.nw G r5
  rwa [<-SB,qq]at this
section
variable{S:Nat->Prop}{w:World}{v u vx vk vp:Value}{z:Int}{M Fn:List (List (Int×Int))}{b C9 P:List (Int×Int)}
end
end Go.Ex
namespace Go.Sx
open Go Go.Ex Go.Proofs
variable{U:List Value}{O:Nat->Sx.dL}
theorem Sub.aAE{B:Nat}{l tl:Env}{nx:Nat}{H tH:Hp}{iv:Iv}{w J:World}{id t n sz:Nat}{e:TypeId}(r:Rel H nx iv B w O J)(Oy:cV H id=some (.vec e sz U))(Z:(O id).nil=false)(ht:fR l t=some (.o (.w id n)))
  (hs:ug H tH) (ho:CC id tH=true) (I:D4 l tl) (X:l5 nx tl):
  Sub B l nx O J ⟨(t,.o (.v (.slice (some ⟨(O id).g,0,none⟩) n (O id).cap)))::tl,tH,nx,((O id).g,(O id).g+1)::iv,J⟩:=
 ⟨O,r.free Oy (by simp) Z hs ho,fun u v hv=>uI Z ht I X u v hv⟩
end Go.Sx
namespace Go.Ex
open Go Go.Sx Go.Proofs
end Go.Ex
namespace Go.Ex
open Go Go.Sx Go.Proofs
variable{A:List (List Value)}{qs ri:List Rat}{rv:List Value}{g:Nat}{a:Option Addr}{row:Option Nat}{q:Rat}{v:Value}
def Ob(rv:List Value)(g:Nat):Prop:=∃v∈rv,v.ownBlock=some g
def Lr(S:Nat->Prop)(B:Nat)(iv:Iv)(rv:List Value)(g:Nat):Prop:=Cv S B iv g/\¬Ob rv g
structure lP(w:World)(S:Nat->Prop)(B:Nat)(iv:Iv)(rv:List Value)(n:Nat)(M:List (List Rat)):Prop where
 len:rv.length=M.length
 row:∀(i:Nat) v qs,rv[i]? =some v->M[i]? =some qs->gK w (Lr S B iv rv) v n qs
 rW:∀(i j:Nat) a b g,rv[i]? =some a->rv[j]? =some b->a.ownBlock=some g->b.ownBlock=some g->i=j
 new:∀g,Ob rv g->Cv FF B iv g
theorem Ob.append:Ob (rv++[v]) g↔Ob rv g\/v.ownBlock=some g:=by
 unfold Ob;simp[or_and_right,exists_or]
section
variable{S S':Nat->Prop}{H:Hp}{nx n:Nat}{iv E:Iv}{B:Nat}{w J V:World}{O:Nat->Sx.dL}{rv:List Value}{M:List (List Rat)}
theorem lP.nil:lP w S B iv [] n []:=⟨rfl,fun i v qs h=>(by cases h),fun i j a b g h=>(by cases h),fun g ⟨v,hv,_⟩=>by cases hv⟩
theorem lP.cC(h:lP w S B iv rv n M)(R:∀g,Cv S B iv g->V.heap[g]? =w.heap[g]?):lP V S B iv rv n M:=
 ⟨h.len,fun i v qs I X=>(h.row i v qs I X).cC fun g G=>G.elim (fun G=>R g G.1) fun G=>R g (Cg (h.new g ⟨v,aE I,G⟩)),h.rW,h.new⟩
theorem lP.rel(h:lP w S B iv rv n M)(r:Rel H nx iv B w O J)(F:∀g,S g->g<B):lP J S B iv rv n M:=h.cC fun _ G=>Rel.same r F G
theorem lP.mono(h:lP w S B iv rv n M)(hm:∀p,p∈iv->p∈E):lP w S B E rv n M:=
 ⟨h.len,fun i v qs I X=>(h.row i v qs I X).cF fun _ G=>⟨G.1.mono hm,G.2⟩,h.rW,fun g G=>(h.new g G).mono hm⟩
theorem lP.cD(h:lP w S B iv rv n M)(r:Rel H nx iv B w O J)(F:∀g,S g->g<B)(W:Ext J V)(hm:∀p,p∈iv->p∈E):lP V S B E rv n M:=
 ((h.rel r F).cC fun g G=>W.block g (Rel.old r F g G)).mono hm
theorem lP.low(h:lP w S B iv rv n M)(G:Ob rv g):B<=g:=(h.new g G).elim (fun h=>h.elim) fun h=>h.1
theorem lP.lt(h:lP w S B iv rv n M)(r:Rel H nx iv B w O J)(G:Ob rv g):g<J.heap.size:=Rel.old r (eI B) g (h.new g G)
theorem Lr.grown(r:Rel H nx iv B w O J)(F:∀g,S g->g<B)(G:J.grownBy V row)(OR:∀g,row=some g->Ob rv g):∀g,Lr S B iv rv g->V.heap[g]? =w.heap[g]? :=fun g h=>by
 rw[G.block g (Rel.old r F g h.1) fun e=>h.2 (OR g e.symm),Rel.same r F h.1]
theorem lP.cL(h:lP w S B iv rv n M)(r:Rel H nx iv B w O J)(G:J.grownBy V row)(OR:∀g,row=some g->Ob rv g):dT B J V:=
 dT.grown G (fun g e=>h.low (OR g e)) r.bz
theorem lP.setRow(h:lP J S B iv rv n M)(Ou:∀g,Cv S B iv g->g<J.heap.size){i:Nat}{vi:Value}(SX:rv[i]? =some vi)(Oc:J.grownBy V vi.ownBlock)(hB:B<=J.heap.size)
  (hq:gK V (Nw (Lr S B iv rv) J V) vi n qs):lP V S B ((J.heap.size,V.heap.size)::iv) rv n (M.set i qs):=by
 have hnw:∀g,Nw (Lr S B iv rv) J V g->Lr S B ((J.heap.size,V.heap.size)::iv) rv g:=fun g G=>by
  rcases G with G|G
  ·exact⟨G.1.mono fun p hp=>aC _ hp,G.2⟩
  ·exact⟨.inr ⟨by omega,_,_,aG,G.1,G.2⟩,fun hm=>by have:=Ou g (Cg (h.new g hm));omega⟩
 refine⟨by rw[bX];exact h.len,fun k v ps I X=>?_,h.rW,fun g G=>(h.new g G).mono fun p hp=>aC _ hp⟩;by_cases R:i=k
 ·subst R;rw[SX]at I;injection I with I;subst I;rw[aO (by rw[<-h.len];exact(aD.1 SX).1)]at X;injection X with X;subst X;exact hq.cF hnw
 ·rw[aT R]at X;refine((h.row k v ps I X).cC fun g G=>?_).cF fun g G=>⟨G.1.mono fun p hp=>aC _ hp,G.2⟩
  rcases G with G|G
  ·exact Oc.block g (Ou g G.1) fun e=>G.2 ⟨vi,aE SX,e.symm⟩
  ·exact Oc.block g (Ou g (Cg (h.new g ⟨v,aE I,G⟩))) fun e=>R (h.rW i k vi v g SX I e.symm G)
theorem lP.Cj(hM:lP w S B iv rv n M)(r:Rel H nx iv B w O J)(F:∀g,S g->g<B){i j h:Nat}{vi vj vby:Value}{ri rj:List Rat}{p:Rat}(PH:i≠j)(SX:rv[i]? =some vi)(Sj:rv[j]? =some vj)(S7:M[i]? =some ri)(hrj:M[j]? =some rj)
  (Oq:eJ w (Lr S B iv rv) vby p) (hq:∀q∈ri,rl q+1<=h) (hqj:∀q∈rj,rl q+1<=h) (hb:rl p+1<=h) (hh:3*h<=90000):
  dx PG F'.oD #[vi,vj,vby] J (fun e V=>e= .returned (.tuple #[])/\J.grownBy V vi.ownBlock/\(∀g,vi.ownBlock=some g->Ob rv g)/\lP V S B ((J.heap.size,V.heap.size)::iv) rv n (M.set i (lr ri rj p))):=by
 have SY:=hM.rel r F;have I:=SY.row i vi ri SX S7;have X:=SY.row j vj rj Sj hrj;have QZ:∀g,vi.ownBlock=some g->Ob rv g:=fun g G=>⟨_,aE SX,G⟩
 have hmj:∀g,vj.ownBlock=some g->Ob rv g:=fun g G=>⟨_,aE Sj,G⟩
 refine(MQ (C:=fun g=>vj.ownBlock=some g) (S:=Lr S B iv rv) (fun x L=>hM.lt r (hmj x L)) (fun g G=>Rel.old r F g G.1) I (eJ.cC Oq fun g G=>Rel.same r F G.1) X.read X.len (fun g G L=>L.2 (QZ g G)) (fun g G L=>PH (hM.rW i j _ _ g SX Sj G L)) hq hqj hb hh).mono fun e w8 W=>?_;obtain⟨rfl,Oc,OR⟩:=W;exact⟨rfl,Oc,QZ,SY.setRow (fun g G=>Rel.old r F g G) SX Oc r.bz OR⟩
theorem lP.form(hM:lP w S B iv rv n M){i:Nat}(hv:rv[i]? =some v):∃a c,v= .slice a n c:=by
 obtain⟨qs,hq⟩:∃qs,M[i]? =some qs:=⟨_,aB (by rw[<-hM.len];exact(aD.1 hv).1)⟩
 obtain⟨a,c,h,_⟩:=(hM.row i v qs hv hq).form;exact⟨a,c,h⟩
theorem lP.load(hM:lP w S B iv rv n M){i k:Nat}{c:Nat}(hv:rv[i]? =some (.slice a n c))(hq:M[i]? =some qs)(R:qs[k]? =some q):
  ∃ad U,a=some ad/\jA w (Lr S B iv rv) U q/\∀j u,U[j]? =some u->Cv FF B iv ad.block/\w.cell? ((ad.add (k*4)).add j)=some u:=by
 obtain⟨ad,U,I,X,N⟩:=gB.load (hM.row i _ qs hv hq).read R;refine⟨ad,U,I,X,fun j u hu=>⟨?_,(N j u hu).2⟩⟩;have:=(N j u hu).1;exact hM.new _ ⟨_,aE hv,this⟩
theorem lP.store(hM:lP w S B iv rv n M)(r:Rel H nx iv B w O J)(F:∀g,S g->g<B){i k:Nat}{a1 a2:Option Addr}{c n1 c1 n2 c2:Nat}{b b2:Bool}(SX:rv[i]? =some (.slice a n c))(S7:M[i]? =some ri)(R:k<n)
  (hf:cN w (Lr S B iv rv) (.agg #[.bool b,.slice a1 n1 c1,.bool b2,.slice a2 n2 c2]) q):
  ∃g,a=some ⟨g,0,none⟩/\((⟨g,0,none⟩:Addr).add ((k:Int).toNat*4)).spot=none/\
   (∀j,j<4->(J.cell? (((⟨g,0,none⟩:Addr).add ((k:Int).toNat*4)).add j)).isSome=true/\J.frozen? (((⟨g,0,none⟩:Addr).add ((k:Int).toNat*4)).add j)=false)/\
   (∀id b,cV H id=some b->(O id).nil=false->(O id).g≠((⟨g,0,none⟩:Addr).add ((k:Int).toNat*4)).block)/\
   ∀V,V=setCells J ((⟨g,0,none⟩:Addr).add ((k:Int).toNat*4)) [.bool b,.slice a1 n1 c1,.bool b2,.slice a2 n2 c2]->lP V S B iv rv n (M.set i (ri.set k q))/\dT B J V/\Rel H nx iv B V O V/\∀g,Lr S B iv rv g->V.heap[g]? =w.heap[g]? :=by
 have SY:=hM.rel r F;have QZ:∀g,(Value.slice a n c).ownBlock=some g->Ob rv g:=fun g G=>⟨_,aE SX,G⟩
 obtain⟨g,rfl,I,X,N,h4⟩:=(SY.row i _ ri SX S7).store R (hf.cC fun g G=>Rel.same r F G.1) (fun g G L=>L.2 (QZ g G)) (fun x L=>Rel.old r F x L.1);refine⟨g,rfl,I,N,fun id b hb Z=>by rw[X];exact Rel.not r (eI B) (hM.new g (QZ g rfl)) id b hb Z,fun V PR=>?_⟩;obtain⟨k1,k2,k3⟩:=h4 V PR;have hs:=SY.setRow (fun g G=>Rel.old r F g G) SX k2 r.bz (k1.cF fun g G=>.inl G);refine⟨?_,hM.cL r k2 QZ,r.yH (fun id b hb Z=>Rel.not r (eI B) (hM.new g (QZ g rfl)) id b hb Z) k2,Lr.grown r F k2 QZ⟩;refine⟨hs.len,fun j v qs h5 h6=>(hs.row j v qs h5 h6).cF fun x L=>⟨?_,L.2⟩,hs.rW,fun x L=>hM.new x L⟩;rcases L.1 with L|⟨m1,lo,D,m2,m3,m4⟩
 ·exact .inl L
 ·rcases List.mem_cons.1 m2 with e|m2
  ·injection e with e1 e2;subst e1 e2;omega
  ·exact .inr ⟨m1,lo,D,m2,m3,m4⟩
theorem lP.push(hM:lP w S B iv rv n M){gx c:Nat}(Wg:∀g,Cv S B iv g->g≠gx)(hBx:B<=gx)(OR:gK w S (.slice (some ⟨gx,0,none⟩) n c) n qs)(F:∀g,S g->g<B):
  lP w S B ((gx,gx+1)::iv) (rv++[.slice (some ⟨gx,0,none⟩) n c]) n (M++[qs]):=by
 have RI:∀g,Ob rv g->g≠gx:=fun g G=>Wg g (Cg (hM.new g G))
 have hlr:∀g,Lr S B iv rv g->Lr S B ((gx,gx+1)::iv) (rv++[.slice (some ⟨gx,0,none⟩) n c]) g:=fun g G=>⟨G.1.mono fun p hp=>aC _ hp,fun h=>by
  rcases Ob.append.1 h with h|h
  ·exact G.2 h
  ·injection h with h;exact Wg g G.1 h.symm⟩
 refine⟨by simp[hM.len],fun i v ps I X=>?_,fun i j a b g I X N h4=>?_,fun g G=>?_⟩
 ·rcases aP i rv.length with D|D
  ·rw[aJ D]at I;rw[aJ (by rw[<-hM.len];exact D)]at X;exact(hM.row i v ps I X).cF hlr
  ·have RZ:i=rv.length:=by have:=(aD.1 I).1;simp at this;omega
   rw[RZ,aN (Nat.le_refl _),bB]at I;rw[RZ,hM.len,aN (Nat.le_refl _),bB]at X;simp at I X;subst I X;refine OR.cF fun g G=>⟨.inl G,fun h=>?_⟩
   have:=F g G;rcases Ob.append.1 h with h|h
   ·have:=hM.low h;omega
   ·injection h with h;have h:gx=g:=h;omega
 ·have key:∀(k:Nat) v,(rv++[Value.slice (some ⟨gx,0,none⟩) n c])[k]? =some v->(k<rv.length/\rv[k]? =some v)\/(k=rv.length/\v= .slice (some ⟨gx,0,none⟩) n c):=fun k v R=>by
   rcases aP k rv.length with D|D
   ·rw[aJ D]at R;exact .inl ⟨D,R⟩
   ·have RZ:k=rv.length:=by have:=(aD.1 R).1;simp at this;omega
    rw[RZ,aN (Nat.le_refl _),bB]at R;simp at R;exact .inr ⟨RZ,R.symm⟩
  rcases key i a I with⟨_,k1⟩|⟨e1,rfl⟩<;>rcases key j b X with⟨_,k2⟩|⟨e2,rfl⟩
  ·exact hM.rW i j a b g k1 k2 N h4
  ·injection h4 with h4;exact absurd h4.symm (RI g ⟨a,aE k1,N⟩)
  ·injection N with N;exact absurd N.symm (RI g ⟨b,aE k2,h4⟩)
  ·rw[e1,e2]
 ·rcases Ob.append.1 G with h|h
  ·exact(hM.new g h).mono fun p hp=>aC _ hp
  ·injection h with h;have h:gx=g:=h;subst h;exact .inr ⟨hBx,_,_,aG,Nat.le_refl _,bV _⟩
theorem lP.drop(hM:lP w S B iv (rv++[v]) n (M++[qs])):lP w S B iv rv n M:=by
 have hl:rv.length=M.length:=by have:=hM.len;simpa using this
 have RI:∀g,Ob rv g->Ob (rv++[v]) g:=fun g G=>Ob.append.2 (.inl G);refine⟨hl,fun i u ps I X=>?_,fun i j a b g I X=>hM.rW i j a b g ?_ ?_,fun g G=>hM.new g (RI g G)⟩
 ·have D:=(aD.1 I).1;exact(hM.row i u ps (by rw[aJ D];exact I) (by rw[aJ (by rw[<-hl];exact D)];exact X)).cF fun g G=>⟨G.1,fun h=>G.2 (RI g h)⟩
 ·rw[aJ (aD.1 I).1];exact I
 ·rw[aJ (aD.1 X).1];exact X
theorem aAU{id m:Nat}(r:Rel H nx iv B w O J)(h:cV H id=some (.vec T.Rat 4 A.flatten))(hl:A.length=m)(h0:0<m)(hm:m<=maxLen)(hF:Fc J S A qs):
  (O id).nil=false/\B<=(O id).g/\(∀g,Out B iv g->g≠(O id).g)/\gK J S (.slice (some ⟨(O id).g,0,none⟩) m (O id).cap) m qs:=by
 have Ot:=eo hF.nH;rcases r.vec id _ _ _ h with⟨_,X⟩|⟨I,spare,X,N,h4⟩
 ·rw[X]at Ot;rw[hl]at Ot;simp at Ot;omega
 ·refine⟨I,(r.low id _ h I).1,fun g G e=>?_,A,⟨by rw[Ot,hl],.inr ⟨(O id).g,(O id).cap,_,rfl,aS _,X,?_,h4,by simpa using N,by rw[show m*4=A.flatten.length by rw[Ot,hl]];simp⟩⟩,hl,hF⟩
  ·exact Rel.not r (fun _ h=>h) G id _ h I e.symm
  ·rw[List.length_append,Ot,hl]at N;omega
end
end Go.Ex
namespace Go.Sx
open Go Go.Ex Go.Proofs
variable{O:Nat->Sx.dL}
theorem Sub.Ee{B nx:Nat}{l:Env}{H:Hp}{iv:Iv}{w J:World}{t:vt}(id p e sz:Nat){bt:Nat}{U:List At}(Oy:cV H id=some (.box bt U))(hp:U[p]? =some (.v (.slice none 0 0)))(Rg:l5 nx l)(r:Rel H nx iv B w O J)
  (h:∀In,Rel ((id,.box bt (U.set p (.w nx 0)))::(nx,.vec e sz [])::H) (nx+1) iv B w In J->Sx.Sub B l (nx+1) In J t):Sx.Sub B l nx O J t:=by
 have r1:=r.push (.vec e sz []) ⟨0,0,true⟩ (V:=J) rfl rfl rfl (Nat.le_refl _) (fun _ _=>rfl) (fun h=>by cases h) (.inl ⟨rfl,rfl⟩) trivial;have OS:id≠nx:=Nat.ne_of_lt (r.keys id _ Oy);have WC:cV ((nx,.vec e sz [])::H) id=some (.box bt U):=by rw[cU,aI (fun h=>OS h.symm)];exact Oy
 have Tw:=r1.nn id _ WC (by intros;simp) (by simp);have Oz:=r1.box id bt U WC;have SO:(U.set p (.w nx 0)).map (At.den (Sx.fh O nx ⟨0,0,true⟩))=U.map (At.den (Sx.fh O nx ⟨0,0,true⟩)):=by
  refine bG fun j=>?_;rw[aM,aM];by_cases hj:p=j
  ·subst hj;rw[aO (aD.1 hp).1,hp];simp[At.den,dw]
  ·rw[aT hj]
 have r2:=r1.store (b':=.box bt (U.set p (.w nx 0))) (H':=(id,.box bt (U.set p (.w nx 0)))::(nx,.vec e sz [])::H) (V:=J) WC (by simp) Tw (fun j=>by
  rw[cU];by_cases hj:id=j
  ·subst hj;rw[if_pos rfl]
  ·rw[aI hj,aI (fun h=>hj h.symm)]) rfl rfl rfl rfl (fun _ _=>rfl) ⟨Tw,by rw[SO];exact Oz⟩ (fun x L=>by
   rcases a9 L with L|rfl
   ·exact r1.JJ id bt U WC x L
   ·exact bV nx)
 obtain⟨G8,I,X⟩:=h _ r2;refine⟨G8,I,fun x v hv=>?_⟩;obtain⟨N,v0,h4,h5⟩:=X x v hv;refine⟨N,v0,h4,?_⟩;rw[<-h5];exact SV.jU (fun id Oy=>fm id Oy) (Rg.get _ _ h4)
end Go.Sx
namespace Go.Ex
open Go Go.Sx Go.Proofs
end Go.Ex
namespace Go.Ex
open Go Go.Sx Go.Proofs
inductive Tq where
 |nil
 |x (i:Nat) (t:Tq)
 |two (i:Nat) (t:Tq) (j:Nat) (u:Tq)
 |three (i:Nat) (t:Tq) (j:Nat) (u:Tq) (k:Nat) (v:Tq)
section
variable{P:Program}{τ:mn}{ops:Array Oper}{B n nx:Nat}{l:Env}{H:Hp}{iv:Iv}{w J:World}{O:Nat->Sx.dL}{a:Act}
end
end Go.Ex
