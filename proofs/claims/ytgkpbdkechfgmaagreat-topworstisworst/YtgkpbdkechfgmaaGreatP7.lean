/- Texts L40 to XTq: lemmas, each with its conditions. -/
import Derived.Test.YtgkpbdkechfgmaaGreatP6
namespace Go.Ex
variable{M:List (List Rat)}{G8 m:Mx}{B C r t:Nat}{σ:Nat->Nat}{v:Nat->Rat}{d p q:Rat}
def Ib(B:Nat)(q:Rat):Prop:=∃z:Int,q=(z:Rat)/\z.natAbs<=B
theorem Ib.mono(h:Ib B q)(k:B<=C):Ib C q:=let⟨z,e,b⟩:=h;⟨z,e,a9 b k⟩
theorem Ib.add(h:Ib B p)(k:Ib C q):Ib (B+C) (p+q):=by
 obtain⟨z,rfl,b⟩:=h;obtain⟨y,rfl,c⟩:=k;exact⟨z+y,by rw[Rat.intCast_add],by omega⟩
theorem Ib.mul(h:Ib B p)(k:Ib C q):Ib (B*C) (p*q):=by
 obtain⟨z,rfl,b⟩:=h;obtain⟨y,rfl,c⟩:=k;exact⟨z*y,by rw[Rat.intCast_mul],by rw[Int.natAbs_mul];exact Nat.mul_le_mul b c⟩
theorem Ib.neg(h:Ib B p):Ib B (-p):=by
 obtain⟨z,rfl,b⟩:=h;exact⟨-z,by rw[Rat.intCast_neg],by omega⟩
theorem Ib.sub(h:Ib B p)(k:Ib C q):Ib (B+C) (p-q):=by rw[Rat.sub_eq_add_neg];exact h.add k.neg
theorem Ib.zero(B:Nat):Ib B 0:=⟨0,rfl,aP _⟩
theorem Ib.one(h:1<=B):Ib B 1:=⟨1,rfl,h⟩
theorem Ib.int{z:Int}(h:z.natAbs<=B):Ib B (z:Rat):=⟨z,rfl,h⟩
theorem Ib.sum{B:Nat}{f:Nat->Rat}:∀(n:Nat),(∀k,k<n->Ib B (f k))->Ib (n*B) (cM f n)
 |0,_=>Ib.zero _
 |n+1,h=>by rw[cM,Nat.succ_mul];exact(Ib.sum n fun k W=>h k (by omega)).add (h n (by omega))
def fB(B:Nat):Nat->Nat
 |0=>1
 |n+1=>(n+1)*(B*fB B n)
theorem Ib.p8{k:Nat}(h:Ib B q):Ib B (p8 k*q):=by
 unfold Go.Ex.p8;split
 ·rw[show (-1:Rat)*q= -q by grind];exact h.neg
 ·rw[bm];exact h
theorem Ib.KF{B:Nat}:∀(n:Nat) {m:Mx},(∀i j,i<n->j<n->Ib B (m i j))->Ib (fB B n) (ec n m)
 |0,_,_=>Ib.one (aE _)
 |n+1,m,h=>by
  unfold ec fB;exact Ib.sum (n+1) fun k W=>((h 0 k (by omega) W).mul (Ib.KF n fun i j N hj=>h (i+1) (skip k j) (by omega) (DI hj))).p8
theorem DM(B n:Nat):B*fB B n<=fB B (n+1):=Nat.le_mul_of_pos_left _ (Nat.succ_pos n)
theorem H3(h:1<=B)(n:Nat):fB B n<=fB B (n+1):=a9 (Nat.le_mul_of_pos_left _ h) (DM B n)
theorem o0{B a:Nat}(h:1<=B):∀{b:Nat},a<=b->fB B a<=fB B b
 |0,k=>by rw[Nat.le_zero.1 k];exact aE _
 |b+1,k=>by
  rcases aO b a with V|V
  ·rw[show a=b+1 by omega];exact aE _
  ·exact a9 (o0 h V) (H3 h b)
theorem IS{B Do:Nat}:∀{n:Nat},n<=Do->fB B n<=(Do*B)^n
 |0,_=>aE _
 |n+1,h=>by
  rw[fB,Nat.pow_succ,<-bb,bO _ (Do*B)];exact Nat.mul_le_mul (Nat.mul_le_mul_right B h) (IS (by omega))
theorem IT{Do l n:Nat}(A:n<=Do)(h:Do*B<=wt l):ln (fB B n)<=l*n+1:=by
 rw[fc,g8];have V:=a9 (IS (B:=B) A) (Nat.pow_le_pow_left h n);rw[rY,<-Nat.pow_mul]at V;have I:=rY (l*n);have K:=ua (l*n);rw[show 32*l*n=32*(l*n) by rw[bb]]at V;omega
theorem uB{G9:Nat}{Fn:Rat}(h0:Fn≠0)(hD:Ib G9 Fn)(hq:Ib G9 (Fn*q)):rl q<=ln G9:=by
 obtain⟨d,rfl,b⟩:=hD;obtain⟨z,e,c⟩:=hq;have hd:d≠0:=fun e=>h0 (by rw[e];rfl);have e2:q=Rat.divInt z d:=by
  rw[Rat.divInt_eq_div,<-e,bf,bg (d:Rat) q,Rat.mul_assoc,Rat.mul_inv_cancel _ h0,Rat.mul_one]
 have:=jq (a:=z) hd;have:=gM b;have:=gM c;rw[e2];omega
theorem EU{n:Nat}(h:r<n):ec n (fI m r fun _=>0)=0:=by
 have V:=lM 1 n r m h (fun _=>0) fun _=>0;rw[show (fun _:Nat=>(0:Rat)+1*0)=fun _=>0 from funext fun _=>by grind]at V;grind
theorem vD{n r:Nat}{m:Mx}(h:r<n)(c:Nat->Rat)(v:Nat->Nat->Rat):∀s,ec n (fI m r fun j=>cM (fun k=>c k*v k j) s)=cM (fun k=>c k*ec n (fI m r (v k))) s
 |0=>EU h
 |s+1=>by
  have V:=lM (c s) n r m h (fun j=>cM (fun k=>c k*v k j) s) (v s);rw[vD h c v s]at V;exact V
theorem DN{n a b:Nat}(hb:b<n)(M8:a<b)(Z:∀j,j<n->m a j=m b j):ec n m=0:=by
 obtain⟨b,rfl⟩:∃k,b=k+1:=⟨b-1,by omega⟩
 cases a with
 |zero=>exact mI b n m hb Z
 |succ a=>
  have V:=EN (m:=m) (k:=a) (n:=n) (by omega);rw[mI b n _ hb fun j hj=>?_]at V
  ·grind
  ·rw[show sj 0 (a+1) 0=a+1 by unfold sj;rw[if_pos rfl],show sj 0 (a+1) (b+1)=b+1 by unfold sj;rw[aF (by omega),aF (by omega)]];exact Z j hj
theorem Ah{n a b:Nat}(ha:a<n)(hb:b<n)(M8:a≠b)(Z:∀j,j<n->m a j=m b j):ec n m=0:=by
 rcases Nat.lt_or_gt_of_ne M8 with h|h
 ·exact DN hb h Z
 ·exact DN ha h fun j hj=>(Z j hj).symm
section
variable{G8 F8:Mx}{p:Nat->Nat}{r n:Nat}{v:Nat->Rat}
theorem Ru.coeff(h:Ru G8 p r n)(hv:dK G8 r n v):∀t,t<n->v t=cM (fun i=>v (p i)*G8 i t) r:=by
 obtain⟨c,hc⟩:=hv;intro t ht;rw[hc t ht];refine bq fun i N=>?_;rw[hc (p i) (h.lt i N),fD N fun k W Kq=>by rw[h.unit i k N W,aF Kq,ai],h.unit i i N N,if_pos rfl,Rat.mul_one]
def qX(F8:Mx)(p:Nat->Nat)(r:Nat):Rat:=ec r fun j i=>F8 (r-1-i) (p (r-1-j))
theorem Is(h:Ru G8 p r n)(hZ:∀i,i<r->dK G8 r n (F8 i)){k:Nat}(W:k<r)(ht:t<n):
  qX F8 p r*G8 k t=ec r (fI (fun j i=>F8 (r-1-i) (p (r-1-j))) (r-1-k) fun i=>F8 (r-1-i) t):=by
 have e:∀i j,i<r->j<r->fI (fun j i=>F8 (r-1-i) (p (r-1-j))) (r-1-k) (fun i=>F8 (r-1-i) t) i j=fI (fun j i=>F8 (r-1-i) (p (r-1-j))) (r-1-k) (fun i=>cM (fun j=>G8 j t*F8 (r-1-i) (p j)) r) i j:=fun i j N hj=>by
  unfold fI;split
  ·show F8 (r-1-j) t=cM (fun l=>G8 l t*F8 (r-1-j) (p l)) r;rw[h.coeff (hZ (r-1-j) (by omega)) t ht];exact bq fun l _=>bg _ _
  ·rfl
 rw[gU e,vD (v:=fun k i=>F8 (r-1-i) (p k)) (by omega),fD W fun j hj Kq=>?_]
 ·rw[show fI (fun j i=>F8 (r-1-i) (p (r-1-j))) (r-1-k) (fun i=>F8 (r-1-i) (p k))=fun j i=>F8 (r-1-i) (p (r-1-j))from ?_]
  ·rw[qX,bg]
  ·funext i j
   unfold fI;split
   ·rename_i N;rw[N,show r-1-(r-1-k)=k by omega]
   ·rfl
 ·rw[Ah (a:=r-1-k) (b:=r-1-j) (by omega) (by omega) (by omega) fun i N=>?_,ai];unfold fI;rw[if_pos rfl,aF (by omega)];show F8 (r-1-i) (p j)=F8 (r-1-i) (p (r-1-(r-1-j)));rw[show r-1-(r-1-j)=j by omega]
theorem Iu(h:Ru G8 p r n)(hZ:∀i,i<r->dK G8 r n (F8 i))(ht:t<n):
  ec (r+1) (fun j i=>if j=0 then F8 (r-i) t else F8 (r-i) (p (r-j)))=kT G8 p r (F8 r) n t*qX F8 p r:=by
 obtain⟨m,hm⟩:∃m:Mx,m=fun j i=>if j=0 then F8 (r-i) t else F8 (r-i) (p (r-j)):=⟨_,rfl⟩
 obtain⟨w,L⟩:∃w:Nat->Rat,w=fun i=>if i=0 then kT G8 p r (F8 r) n t else 0:=⟨_,rfl⟩
 rw[<-hm];have Kr:∀j,j<r->∀i,m (r-j) i=F8 (r-i) (p j):=fun j hj i=>by rw[hm];simp only;rw[aF (by omega),show r-(r-j)=j by omega]
 have e:∀i j,i<r+1->j<r+1->m i j=fI m 0 (fun i=>w i+1*cM (fun j=>G8 j t*m (r-j) i) r) i j:=fun i j N hj=>by
  unfold fI;split
  ·rename_i h0;subst h0;show m 0 j=w j+1*cM (fun l=>G8 l t*m (r-l) j) r;rw[bq (g:=fun l=>G8 l t*F8 (r-j) (p l)) fun l hl=>by rw[Kr l hl],bm,L];simp only
   by_cases hj0:j=0
   ·rw[if_pos hj0,hj0,hm];simp only[if_pos,Nat.sub_zero]
    unfold kT;rw[bq (f:=fun i=>if p i<n then F8 r (p i)*G8 i t else 0) (g:=fun i=>G8 i t*F8 r (p i)) fun l hl=>by rw[if_pos (h.lt l hl),bg]];grind
   ·rw[aF hj0,Rat.zero_add,hm];simp only[if_pos]
    rw[h.coeff (hZ (r-j) (by omega)) t ht];exact bq fun l _=>bg _ _
  ·rfl
 rw[gU e,lM 1 (r+1) 0 m (by omega),vD (v:=fun k i=>m (r-k) i) (by omega),bq (g:=fun _=>0) fun j hj=>?_,dD,ai,bW]
 ·rw[ec,fD (i:=0) (by omega) fun k W Kq=>?_]
  ·unfold fI;rw[if_pos rfl,L];simp only[if_pos]
   rw[show p8 0=1 by decide,bm,qX,gU fun i j N hj=>?_];rw[aF (by omega),hm];simp only
   rw[aF (by omega),show skip 0 j=j+1 by unfold skip;rw[aF (by omega)],show r-(j+1)=r-1-j by omega,show r-(i+1)=r-1-i by omega]
  ·unfold fI;rw[if_pos rfl,L];simp only
   rw[aF Kq,bD,ai]
 ·rw[Ah (a:=0) (b:=r-j) (by omega) (by omega) (by omega) fun i _=>?_,ai];unfold fI;rw[if_pos rfl,aF (by omega)]
theorem H4(d:Rat)(k t:Nat):kT G8 p r (fun t=>d*v t) k t=d*kT G8 p r v k t:=by
 unfold kT;rw[bq (g:=fun i=>d*if p i<k then v (p i)*G8 i t else 0) fun i _=>?_,da]
 ·grind
 ·split
  ·rw[Rat.mul_assoc]
  ·rw[ai]
theorem H5(h:Ru G8 p r n){x:Nat->Rat}(F:dK G8 r n fun t=>v t+ -(x t))(h0:∀i,i<r->x (p i)=0)(ht:t<n):x t=kT G8 p r v n t:=by
 have V:=h.coeff F t ht;unfold kT;rw[bq (g:=fun i=>v (p i)*G8 i t) fun i N=>if_pos (h.lt i N)];rw[bq (g:=fun i=>v (p i)*G8 i t) fun i N=>by rw[h0 i N];grind]at V;grind
end
structure vE(G8:Mx)(p:Nat->Nat)(r n B:Nat)(F8:Mx):Prop where
 ru:Ru G8 p r n
 sp:∀i,i<r->dK G8 r n (F8 i)
 ib:∀i t,i<r->t<n->Ib B (F8 i t)
 nz:qX F8 p r≠0
section
variable{G8 F8:Mx}{p:Nat->Nat}{r n B k:Nat}{v u:Nat->Rat}
theorem vE.start(G8 F8:Mx)(p:Nat->Nat)(n B:Nat):vE G8 p 0 n B F8:=
 ⟨⟨fun _ h=>(by omega),fun _ _ h=>(by omega),fun _ _ h=>(by omega),fun _ _ h=>(by omega)⟩,fun _ h=>(by omega),fun _ _ h=>(by omega),by show(1:Rat)≠0;decide⟩
theorem vE.push(h:vE G8 p r n B F8)(hd:d≠0)(hz:∀t,t<n->Ib B (d*v t))(hu:∀t,t<n->u t=kT G8 p r v n t)(W:k<n)(h0:u k≠0)(hl:∀t,t<k->u t=0):
  vE (j5 G8 r u k) (fun i=>if i=r then k else p i) (r+1) n B fun i t=>if i=r then d*v t else F8 i t:=by
 refine⟨h.ru.push W (fun i N=>by rw[hu _ (h.ru.lt i N),DJ h.ru N]) h0 hl,fun i N=>?_,fun i t N ht=>?_,?_⟩
 ·by_cases V:i=r
  ·exact((yD h0 hu h.ru.lt).mul d).congr fun t _=>by simp only[if_pos V];rw[bg]
  ·exact((h.sp i (by omega)).trans fun j hj=>oZ h0 j hj).congr fun t _=>by simp only[aF V]
 ·by_cases V:i=r
  ·simp only[if_pos V];exact hz t ht
  ·simp only[aF V];exact h.ib i t (by omega) ht
 ·have hb:=Iu (F8:=fun i t=>if i=r then d*v t else F8 i t) h.ru (fun i N=>(h.sp i N).congr fun t _=>by simp only[aF (Nat.ne_of_lt N)]) W;have e1:qX (fun i t=>if i=r then d*v t else F8 i t) p r=qX F8 p r:=gU fun i j N hj=>by simp only;rw[aF (by omega)]
  simp only[if_pos]at hb;rw[H4,<-hu k W,e1]at hb;have e2:qX (fun i t=>if i=r then d*v t else F8 i t) (fun i=>if i=r then k else p i) (r+1)=d*u k*qX F8 p r:=by
   rw[<-hb];refine gU fun i j N hj=>?_;by_cases V:i=0
   ·subst V;simp only[if_true]
    rw[if_pos (show r+1-1-0=r by omega),show r+1-1-j=r-j by omega]
   ·simp only[aF V]
    rw[aF (show ¬r+1-1-i=r by omega),show r+1-1-j=r-j by omega,show r+1-1-i=r-i by omega]
  rw[e2];have Kw:∀{a b:Rat},a≠0->b≠0->a*b≠0:=fun ha hb e=>by
   rcases Rat.mul_eq_zero.1 e with h|h
   ·exact ha h
   ·exact hb h
  exact Kw (Kw hd h0) h.nz
theorem vE.den(h:vE G8 p r n B F8):Ib (fB B r) (qX F8 p r):=Ib.KF r fun i j N hj=>h.ib _ _ (by omega) (h.ru.lt _ (by omega))
theorem vE.KG(h:vE G8 p r n B F8){i:Nat}(N:i<r)(ht:t<n):Ib (fB B r) (qX F8 p r*G8 i t):=by
 rw[Is h.ru h.sp N ht];refine Ib.KF r fun j l hj hl=>?_;unfold fI;split
 ·exact h.ib _ _ (by omega) ht
 ·exact h.ib _ _ (by omega) (h.ru.lt _ (by omega))
theorem vE.Fj(h:vE G8 p r n B F8){i:Nat}(N:i<r)(ht:t<n):rl (G8 i t)<=ln (fB B r):=uB h.nz h.den (h.KG N ht)
theorem vE.kT(h:vE G8 p r n B F8)(hz:∀t,t<n->Ib B (d*v t))(k:Nat)(ht:t<n):Ib (fB B (r+1)) (d*qX F8 p r*kT G8 p r v k t):=by
 unfold Go.Ex.kT;rw[show ∀a b c s:Rat,a*b*(c-s)=b*(a*c)-(a*b)*s from fun a b c s=>by grind,<-da,fB,Nat.succ_mul,Nat.add_comm];refine Ib.sub (by rw[bO B];exact h.den.mul (hz t ht)) (Ib.sum r fun i N=>?_);split
 ·rw[show ∀a b c s:Rat,a*b*(c*s)=(a*c)*(b*s)from fun a b c s=>by grind];exact(hz _ (h.ru.lt i N)).mul (h.KG N ht)
 ·rw[ai];exact Ib.zero _
theorem vE.Fk(h:vE G8 p r n B F8)(hB:1<=B)(hd:d≠0)(hdB:Ib B d)(hz:∀t,t<n->Ib B (d*v t))(k:Nat)(ht:t<n):Go.Ex.rl (Go.Ex.kT G8 p r v k t)<=ln (fB B (r+1)):=
 uB (fun e=>by rcases Rat.mul_eq_zero.1 e with e|e;exact hd e;exact h.nz e) ((hdB.mul h.den).mono (DM B r)) (h.kT hz k ht)
end
def zz(M:List (List Rat))(n B:Nat):Prop:=∀j,j<M.length->∃d:Rat,d≠0/\Ib B d/\∀t,t<n->Ib B (d*cT M j t)
theorem dK.CG{D':Mx}{n:Nat}(h:dK G8 r n v)(e:∀i t,i<r->t<n->D' i t=G8 i t):dK D' r n v:=by
 obtain⟨c,hc⟩:=h;exact⟨c,fun t ht=>by rw[hc t ht];exact bq fun i N=>by rw[e i t N ht]⟩
theorem dK.more{s n:Nat}(h:dK G8 r n v)(k:r<=s):dK G8 s n v:=h.trans fun i N=>dK.row (Nat.lt_of_lt_of_le N k)
theorem Ru.congr{D':Mx}{p q:Nat->Nat}{n:Nat}(h:Ru G8 p r n)(e:∀i t,i<r->t<n->D' i t=G8 i t)(ep:∀i,i<r->q i=p i):Ru D' q r n:=
 ⟨fun i N=>by rw[ep i N];exact h.lt i N,fun i j N hj k=>h.inj i j N hj (by rw[<-ep i N,<-ep j hj];exact k),fun i j N hj=>by rw[ep i N,e j _ hj (h.lt i N)];exact h.unit i j N hj,
  fun i t N ht=>by rw[ep i N]at ht;rw[e i t N (by have:=h.lt i N;omega)];exact h.lead i t N ht⟩
theorem vE.congr{D' F8 AC:Mx}{p q:Nat->Nat}{n:Nat}(h:vE G8 p r n B F8)(e:∀i t,i<r->t<n->D' i t=G8 i t)(ep:∀i,i<r->q i=p i)(eZ:∀i t,i<r->t<n->AC i t=F8 i t):vE D' q r n B AC:=by
 refine⟨h.ru.congr e ep,fun i N=>((h.sp i N).congr fun t ht=>eZ i t N ht).CG e,fun i t N ht=>by rw[eZ i t N ht];exact h.ib i t N ht,?_⟩;rw[show qX AC q r=qX F8 p r from gU fun i j N hj=>by rw[ep _ (by omega),eZ _ _ (by omega) (h.ru.lt _ (by omega))]];exact h.nz
theorem vF(row:List Rat):∀f k,k<=ml row f k/\ml row f k<=k+f/\(∀t,k<=t->t<ml row f k->row.getD t 0=0)/\(ml row f k<k+f->row.getD (ml row f k) 0≠0)
 |0,k=>by
  unfold ml;exact⟨aE _,aE _,fun t V I=>by omega,fun h=>by omega⟩
 |f+1,k=>by
  unfold ml;split
  ·rename_i h;obtain⟨V,I,K,h4⟩:=vF row f (k+1);refine⟨by omega,by omega,fun t k1 k2=>?_,fun h5=>h4 (by omega)⟩;rcases aO k t with h5|h5
   ·exact K t h5 k2
   ·rw[show t=k by omega];exact h
  ·rename_i h;exact⟨aE _,by omega,fun t V I=>by omega,fun _=>h⟩
theorem EV(row:List Rat)(n:Nat):qV row n<=n/\(∀t,t<qV row n->row.getD t 0=0)/\(qV row n≠n->row.getD (qV row n) 0≠0):=by
 obtain⟨_,I,K,h4⟩:=vF row n 0;unfold qV;exact⟨by omega,fun t h=>K t (aP _) h,fun h=>h4 (by omega)⟩
theorem EW(y:List Rat)(q:Rat)(t:Nat):(y.map (· / q)).getD t 0=y.getD t 0 / q:=by
 simp only[List.getD,aM]
 cases y[t]? with
 |none=>show(0:Rat)=0 / q;rw[bf,bD]
 |some x=>rfl
structure CI(M:List (List Rat))(n B i:Nat)(s:tT)(p:Nat->Nat)(F8:Mx):Prop where
 ok:qW n n i s
 JY:∀k,k<n->∀r:Nat,s.2.1[k]? =some (some r)↔r<s.1.length/\p r=k
 vG:vE (cT s.1) p s.1.length n B F8
 up:∀r,r<s.1.length->dK (cT M) i n (cT s.1 r)
 dn:∀j,j<i->dK (cT s.1) s.1.length n (cT M j)
section
variable{M:List (List Rat)}{n B i:Nat}{s:tT}{p:Nat->Nat}{F8:Mx}
theorem CI.kT(h:CI M n B i s p F8){x:List Rat}(F:x.length=n):∀k,k<=n->∀t,t<n->(ed s.1 s.2.1 x k).getD t 0=kT (cT s.1) p s.1.length (fun t=>x.getD t 0) k t
 |0,_,t,ht=>by rw[Fa];rfl
 |k+1,W,t,ht=>by
  have ih:=CI.kT h F k (by omega);obtain⟨o,ho⟩:∃o,s.2.1[k]? =some o:=⟨_,aA (by rw[h.ok.at_];omega)⟩
  have hd:s.2.1.getD k none=o:=by rw[List.getD,ho];rfl
  rw[ed,hd]
  cases o with
  |none=>
   simp only
   rw[ih t ht,Fb fun r hr e=>?_];have:=(h.JY k (by omega) r).2 ⟨hr,e⟩;rw[ho]at this
   cases this
  |some r=>
   simp only
   obtain⟨hr,e⟩:=(h.JY k (by omega) r).1 ho;rw[kY,rZ (by rw[fy,F];exact ht),ih t ht,ih k (by omega),<-e,Fe h.vG.ru hr];rfl
theorem CI.step(h:CI M n B i s p F8)(hM:gH n M)(N:i<M.length)(hd:d≠0)(hz:∀t,t<n->Ib B (d*cT M i t)):
  ∃p' Z',CI M n B (i+1) (jI n s i (M.getD i [])) p' Z':=by
 have F:(M.getD i []).length=n:=hM.getD N;have Kt:=h.ok.step F;obtain⟨y,hy⟩:∃y,ed s.1 s.2.1 (M.getD i []) n=y:=⟨_,rfl⟩
 have hu:∀t,t<n->y.getD t 0=Go.Ex.kT (cT s.1) p s.1.length (cT M i) n t:=fun t ht=>by rw[<-hy];exact h.kT F n (aE _) t ht
 have RB:y.length=n:=by rw[<-hy,fy,F]
 obtain⟨q1,q2,q3⟩:=EV y n;by_cases hq:qV y n=n
 ·have e:jI n s i (M.getD i [])=s:=by unfold jI;simp only[hy,hq,if_true]
  rw[e]at Kt ⊢;refine⟨p,F8,Kt,h.JY,h.vG,fun r hr=>(h.up r hr).more (Nat.le_succ i),fun j hj=>?_⟩;rcases aO j i with V|V
  ·exact h.dn j V
  ·rw[show j=i by omega];refine⟨fun j=>cT M i (p j),fun t ht=>?_⟩;have I:=hu t ht;rw[q2 t (by omega)]at I;unfold Go.Ex.kT at I;rw[bq (g:=fun j=>cT M i (p j)*cT s.1 j t) fun j hj=>if_pos (h.vG.ru.lt j hj)]at I;grind
 ·have h0:=q3 hq;obtain⟨k,W⟩:∃k,qV y n=k:=⟨_,rfl⟩
  rw[W]at hq h0 q1 q2;have hkn:k<n:=by omega
  have e:jI n s i (M.getD i [])=(fJ s.1 (y.map (· / y.getD k 0)) k s.1.length++[y.map (· / y.getD k 0)],s.2.1.set k (some s.1.length),s.2.2++[i]):=by
   unfold jI;simp only[hy,W,aF hq]
  rw[e]at Kt ⊢;have hl:(fJ s.1 (y.map (· / y.getD k 0)) k s.1.length).length=s.1.length:=eh ..;have NO:(fJ s.1 (y.map (· / y.getD k 0)) k s.1.length++[y.map (· / y.getD k 0)]).length=s.1.length+1:=by rw[List.length_append,hl];rfl
  have hdv:∀t,t<n->(y.map (· / y.getD k 0)).getD t 0=y.getD t 0 / y.getD k 0:=fun t _=>EW y _ t;have hE:∀a t,a<s.1.length+1->t<n->cT (fJ s.1 (y.map (· / y.getD k 0)) k s.1.length++[y.map (· / y.getD k 0)]) a t=j5 (cT s.1) s.1.length (fun t=>y.getD t 0) k a t:=fun a t ha ht=>by
   unfold j5;by_cases V:a=s.1.length
   ·rw[if_pos V,<-hdv t ht,cT];congr 1;rw[List.getD,aN (by omega),hl,V,bC];rfl
   ·have M9:a<s.1.length:=by omega
    have hr:=aA M9;have Mz:(s.1[a]).length=n:=h.ok.len _ (aV M9);have R:s.1.getD a []=s.1[a]:=by rw[List.getD,hr];rfl
    have Kr:(fJ s.1 (y.map (· / y.getD k 0)) k s.1.length++[y.map (· / y.getD k 0)]).getD a []=kY s.1[a] (y.map (· / y.getD k 0)) ((s.1[a]).getD k 0):=by
     rw[List.getD,aJ (by omega),fJ,List.getElem?_mapIdx,hr];simp only[Option.map_some,Option.getD_some,if_pos M9]
    rw[aF V,cT,Kr,kY,rZ (by omega),hdv t ht];unfold cT;rw[R]
  have hC:=h.vG.push hd hz hu hkn h0 q2;have hu2:=Iq (v:=cT M i) hu h.vG.ru.lt;refine⟨fun i=>if i=s.1.length then k else p i,fun a t=>if a=s.1.length then d*cT M i t else F8 a t,Kt,?_,?_,?_,?_⟩
  ·intro c hc r;dsimp only
   rw[NO];have Kq:∀j,j<s.1.length->p j≠k:=fun j hj e=>h0 (by rw[hu k hkn,<-e];exact DJ h.vG.ru hj);by_cases V:c=k
   ·rw[V,aR (by rw[h.ok.at_];exact hkn)];constructor
    ·intro e;injection e with e;injection e with e;exact⟨by omega,by rw[if_pos e.symm]⟩
    ·rintro⟨I,K⟩;by_cases h4:r=s.1.length
     ·rw[h4]
     ·rw[aF h4]at K;exact absurd K (Kq r (by omega))
   ·rw[aY (Ne.symm V),h.JY c hc r];constructor
    ·rintro⟨I,K⟩;exact⟨by omega,by rw[aF (by omega)];exact K⟩
    ·rintro⟨I,K⟩;by_cases h4:r=s.1.length
     ·rw[if_pos h4]at K;exact absurd K.symm V
     ·rw[aF h4]at K;exact⟨by omega,K⟩
  ·dsimp only
   rw[NO];exact hC.congr hE (fun _ _=>rfl) fun _ _ _ _=>rfl
  ·dsimp only
   rw[NO];intro a ha;refine((Ff (k:=k) hu2 a ha).trans fun b hb=>?_).congr fun t ht=>hE a t ha ht;by_cases V:b=s.1.length
   ·exact(dK.row (show i<i+1 by omega)).congr fun t _=>by unfold iy;rw[if_pos V]
   ·exact((h.up b (by omega)).more (Nat.le_succ i)).congr fun t _=>by unfold iy;rw[aF V]
  ·dsimp only
   rw[NO];intro j hj;refine dK.CG ?_ hE;rcases aO j i with V|V
   ·exact(h.dn j V).trans fun b hb=>oZ h0 b hb
   ·rw[show j=i by omega];exact yD h0 hu h.vG.ru.lt
end
theorem o6{M:List (List Rat)}{n B:Nat}(hM:gH n M)(hW:zz M n B):∀i,i<=M.length->∃p F8,CI M n B i (fp M n i) p F8
 |0,_=>⟨fun _=>0,fun _ _=>0,qW.start n n,fun k _ r=>⟨fun h=>(by
   simp only[fp,List.getElem?_replicate]at h
   split at h<;>cases h),fun h=>(by have:=h.1;simp[fp]at this)⟩,vE.start _ _ _ _ _,fun r h=>(by simp[fp]at h),fun j h=>by omega⟩
 |i+1,N=>by
  obtain⟨p,F8,h⟩:=o6 hM hW i (by omega);obtain⟨d,hd,-,hz⟩:=hW i (by omega);exact h.step hM (by omega) hd hz
theorem Fl{n:Nat}(hM:gH n M)(hW:zz M n B)(hB:1<=B){i:Nat}(N:i<=M.length):∀r∈(fp M n i).1,∀q∈r,rl q<=ln (fB B M.length):=fun r hr q hq=>by
 obtain⟨p,F8,h⟩:=o6 hM hW i N;obtain⟨a,ha⟩:=aQ hr;obtain⟨t,ht⟩:=aQ hq;have M9:=(aC.1 ha).1;have Ou:=(aC.1 ht).1;rw[h.ok.len r hr]at Ou;have V:=h.vG.Fj M9 Ou;rw[cT,show(fp M n i).1.getD a []=r by rw[List.getD,ha];rfl,show r.getD t 0=q by rw[List.getD,ht];rfl]at V;exact a9 V (gM (o0 hB (a9 h.ok.le N)))
theorem Fm{n:Nat}(hM:gH n M)(hW:zz M n B)(hB:1<=B){i k:Nat}(N:i<M.length)(W:k<=n):∀q∈ed (fp M n i).1 (fp M n i).2.1 (M.getD i []) k,rl q<=ln (fB B M.length):=fun q hq=>by
 obtain⟨p,F8,h⟩:=o6 hM hW i (by omega);have F:(M.getD i []).length=n:=hM.getD N;obtain⟨t,ht⟩:=aQ hq;have Ou:=(aC.1 ht).1;rw[fy,F]at Ou;have V:=h.kT F k W t Ou;rw[show (ed (fp M n i).1 (fp M n i).2.1 (M.getD i []) k).getD t 0=q by rw[List.getD,ht];rfl]at V;obtain⟨d,hd,hdB,hz⟩:=hW i N;rw[V];exact a9 (h.vG.Fk hB hd hdB hz k Ou) (gM (o0 hB (by have:=h.ok.le;omega)))
theorem yE{s:tT}:∀k,(cN s k).1.length=(cN s k).2.1.length/\(∀i,i<(cN s k).2.1.length->∃r:Nat,s.2.1[(cN s k).2.1.getD i 0]? =some (some r)/\(cN s k).1.getD i []=s.1.getD r []/\(cN s k).2.1.getD i 0<k)/\
  (∀i j,i<j->j<(cN s k).2.1.length->(cN s k).2.1.getD i 0<(cN s k).2.1.getD j 0)/\∀q,q<k->∀r:Nat,s.2.1[q]? =some (some r)->∃i,i<(cN s k).2.1.length/\(cN s k).2.1.getD i 0=q
 |0=>⟨rfl,fun i h=>(by cases h),fun i j _ h=>(by cases h),fun q h=>by omega⟩
 |k+1=>by
  obtain⟨V,I,K,h4⟩:=yE (s:=s) k;have step:(∃r:Nat,s.2.1[k]? =some (some r)/\cN s (k+1)=((cN s k).1++[s.1.getD r []],(cN s k).2.1++[k],(cN s k).2.2++[s.2.2.getD r 0]))\/((∀r:Nat,s.2.1[k]? ≠some (some r))/\cN s (k+1)=cN s k):=by
   rw[cN]
   cases ho:s.2.1[k]? with
   |none=>exact .inr ⟨fun r e=>(by cases e),by rw[show s.2.1.getD k none=none by rw[List.getD,ho];rfl]⟩
   |some o=>cases o with
    |none=>exact .inr ⟨fun r e=>(by cases e),by rw[show s.2.1.getD k none=none by rw[List.getD,ho];rfl]⟩
    |some r=>exact .inl ⟨r,rfl,by rw[show s.2.1.getD k none=some r by rw[List.getD,ho];rfl]⟩
  rcases step with⟨r,hr,e⟩|⟨hr,e⟩
  ·rw[e];have old:∀i,i<(cN s k).2.1.length->((cN s k).2.1++[k]).getD i 0=(cN s k).2.1.getD i 0:=fun i N=>by rw[List.getD,aJ N,<-List.getD]
   have new:((cN s k).2.1++[k]).getD (cN s k).2.1.length 0=k:=by rw[List.getD,aN (aE _),bC];rfl
   have hlen:((cN s k).2.1++[k]).length=(cN s k).2.1.length+1:=by simp
   dsimp only
   rw[hlen];refine⟨by simp[V],fun i N=>?_,fun i j Lt hj=>?_,fun q hq x F=>?_⟩
   ·rcases aO i (cN s k).2.1.length with h5|h5
    ·obtain⟨x,x1,x2,x3⟩:=I i h5;rw[old i h5];refine⟨x,x1,?_,by omega⟩;rw[List.getD,aJ (by omega),<-List.getD];exact x2
    ·rw[show i=(cN s k).2.1.length by omega,new];refine⟨r,hr,?_,by omega⟩;rw[List.getD,aN (by omega),V,bC];rfl
   ·rcases aO j (cN s k).2.1.length with h5|h5
    ·rw[old i (by omega),old j h5];exact K i j Lt h5
    ·rw[show j=(cN s k).2.1.length by omega,new,old i (by omega)];obtain⟨_,_,_,x3⟩:=I i (by omega);exact x3
   ·rcases aO q k with h5|h5
    ·obtain⟨i,i1,i2⟩:=h4 q h5 x F;exact⟨i,by omega,by rw[old i i1];exact i2⟩
    ·exact⟨(cN s k).2.1.length,by omega,by rw[new];omega⟩
  ·rw[e];refine⟨V,fun i N=>?_,K,fun q hq x F=>?_⟩
   ·obtain⟨x,x1,x2,x3⟩:=I i N;exact⟨x,x1,x2,by omega⟩
   ·rcases aO q k with h5|h5
    ·exact h4 q h5 x F
    ·rw[show q=k by omega]at F;exact absurd F (hr x)
theorem jJ{α:Type}{a b:List α}(d:α)(hl:a.length=b.length)(h:∀i,i<a.length->a.getD i d=b.getD i d):a=b:=by
 refine List.ext_getElem hl fun i V I=>?_;have:=h i V
 rwa [List.getD,List.getD,aA V,aA I]at this
theorem pf{n:Nat}(hM:gH n M)(hW:zz M n B):(dI M n).2.1=(cB M n).2/\(dI M n).1=(cB M n).1.take (cB M n).2.length:=by
 obtain⟨p,F8,h⟩:=o6 hM hW M.length (aE _);obtain⟨V,I,K,h4⟩:=yE (s:=fp M n M.length) n;unfold dI;generalize fp M n M.length=s at*
 obtain⟨D',hF⟩:∃D',cN s n=D':=⟨_,rfl⟩
 rw[hF]at V I K h4 ⊢;have Kr:∀i,i<D'.2.1.length->∃r,r<s.1.length/\p r=D'.2.1.getD i 0/\D'.1.getD i []=s.1.getD r []/\D'.2.1.getD i 0<n:=fun i N=>by
  obtain⟨r,r1,r2,D⟩:=I i N;obtain⟨k1,k2⟩:=(h.JY _ D r).1 r1;exact⟨r,k1,k2,r2,D⟩
 have inj:∀i j,i<D'.2.1.length->j<D'.2.1.length->D'.2.1.getD i 0=D'.2.1.getD j 0->i=j:=fun i j N hj e=>by
  rcases Nat.lt_trichotomy i j with h5|h5|h5
  ·have:=K i j h5 hj;omega
  ·exact h5
  ·have:=K j i h5 N;omega
 have hrf:Rf (cT D'.1) (fun i=>D'.2.1.getD i 0) D'.2.1.length n:=by
  refine⟨fun i N=>?_,K,fun i j N hj=>?_,fun i t N ht=>?_⟩
  ·obtain⟨_,_,_,_,h5⟩:=Kr i N;exact h5
  ·obtain⟨a,a1,a2,a3,_⟩:=Kr i N;obtain⟨b,b1,b2,b3,_⟩:=Kr j hj;rw[cT,b3,<-a2];have:=h.vG.ru.unit a b a1 b1;unfold cT at this;rw[this];by_cases h5:j=i
   ·rw[if_pos h5,if_pos (h.vG.ru.inj b a b1 a1 (by rw[a2,b2,h5]))]
   ·rw[aF h5,aF fun e=>h5 (inj j i hj N (by rw[<-a2,<-b2,e]))]
  ·obtain⟨a,a1,a2,a3,_⟩:=Kr i N;rw[cT,a3];have:=h.vG.ru.lead a t a1 (by rw[a2];exact ht);unfold cT at this;exact this
 have Rk:∀r,r<s.1.length->dK (cT D'.1) D'.2.1.length n (cT s.1 r):=fun r hr=>by
  have hp:=h.vG.ru.lt r hr;obtain⟨i,i1,i2⟩:=h4 (p r) hp r ((h.JY _ hp r).2 ⟨hr,rfl⟩);obtain⟨a,a1,a2,a3,_⟩:=Kr i i1;have e:a=r:=h.vG.ru.inj a r a1 hr (by rw[a2,i2]);exact(dK.row i1).congr fun t _=>by rw[cT,cT,a3,e]
 obtain⟨e1,e2,e3⟩:=Ab hM hrf (fun i N=>by
  obtain⟨a,a1,a2,a3,_⟩:=Kr i N
  exact(h.up a a1).congr fun t _=>by rw[cT,cT,a3]) fun j hj=>(h.dn j hj).trans Rk
 obtain⟨g1,g2,-,-,-⟩:=dW hM n (aE _);refine⟨jJ 0 e1.symm fun i N=>(e2 i N).symm,jJ [] ?_ fun i N=>?_⟩
 ·rw[ah,e1,V];omega
 ·rw[V]at N;have Qh:i<(cB M n).2.length:=by omega
  obtain⟨a,a1,a2,a3,_⟩:=Kr i N;have NG:(D'.1.getD i []).length=n:=by rw[a3];exact h.ok.len.getD a1
  have R:((cB M n).1.take (cB M n).2.length).getD i []=(cB M n).1.getD i []:=by rw[List.getD,bM Qh,<-List.getD]
  rw[R];refine jJ 0 (by rw[NG,g1.getD (by omega)]) fun t ht=>?_;rw[NG]at ht;exact(e3 i t N ht).symm
structure Jx(M:List (List Rat))(n B c:Nat)(s:List (List Rat)×List Nat)(σ:Nat->Nat)(F8:Mx):Prop where
 red:JX n c s
 Kl:FZ s
 len:s.1.length=M.length
 vG:vE (cT s.1) (fun i=>s.2.getD i 0) s.2.length n B F8
 Jf:∀j,j<M.length->σ j<M.length
 rest:∀j,s.2.length<=j->j<M.length->∀t,t<n->cT s.1 j t=kT (cT s.1) (fun i=>s.2.getD i 0) s.2.length (cT M (σ j)) n t
theorem Jx.step{n c:Nat}{s:List (List Rat)×List Nat}{F8:Mx}(h:Jx M n B c s σ F8)(hW:zz M n B)(hc:c<n):∃σ' Z',Jx M n B (c+1) (dH s c) σ' Z':=by
 have M3:=h.red.step hc;have hmon:=h.Kl.step h.red hc;have hlen:(dH s c).1.length=M.length:=by rw[mE,h.len]
 obtain⟨hl,hle,hz,NW,hu⟩:=h.red;rcases jO c hle with⟨e,h0⟩|⟨k,V,I,K,e⟩
 ·rw[e]at M3 hmon hlen ⊢;exact⟨σ,F8,M3,hmon,hlen,h.vG,h.Jf,h.rest⟩
 ·obtain⟨r1,r2⟩:=mF hl V I K e;have e2:(dH s c).2=s.2++[c]:=by rw[e]
  have e3:(dH s c).2.length=s.2.length+1:=by rw[e2];simp
  have hkM:k<M.length:=by rw[<-h.len];exact I
  have W:=h.rest k V hkM;obtain⟨d,hd,-,hdz⟩:=hW (σ k) (h.Jf k hkM);have hC:=h.vG.push (u:=cT s.1 k) hd hdz W hc K fun t ht=>hz k t V I ht;have hold:∀i,i<s.2.length->(dH s c).2.getD i 0=s.2.getD i 0:=fun i N=>by rw[e2,List.getD,aJ N,<-List.getD]
  have Pb:(dH s c).2.getD s.2.length 0=c:=by rw[e2,List.getD,aN (aE _),bC];rfl
  have hE:∀i t,i<s.2.length+1->t<n->cT (dH s c).1 i t=j5 (cT s.1) s.2.length (cT s.1 k) c i t:=fun i t N ht=>by
   unfold j5;by_cases Rl:i=s.2.length
   ·rw[if_pos Rl,Rl,r1,bf,bf,bm]
   ·rw[aF Rl,r2 i (by omega) Rl t ht,aF (by omega),bf,bf,bm]
  have Rn:vE (cT (dH s c).1) (fun i=>(dH s c).2.getD i 0) (dH s c).2.length n B fun i t=>if i=s.2.length then d*cT M (σ k) t else F8 i t:=by
   rw[e3];refine hC.congr hE (fun i N=>?_) fun _ _ _ _=>rfl;by_cases Rl:i=s.2.length
   ·rw[if_pos Rl,Rl,Pb]
   ·rw[aF Rl,hold i (by omega)]
  refine⟨fun j=>if j=k then σ s.2.length else σ j,_,M3,hmon,hlen,Rn,fun j hj=>?_,fun j hj hjM t ht=>?_⟩
  ·split
   ·exact h.Jf _ (by omega)
   ·exact h.Jf j hj
  ·rw[e3]at hj;have hjs:j<s.1.length:=by rw[h.len];exact hjM
   obtain⟨jj,hjj⟩:∃jj,(if j=k then s.2.length else j)=jj:=⟨_,rfl⟩
   have hjr:s.2.length<=jj:=by rw[<-hjj];split<;>omega
   have PY:jj<M.length:=by rw[<-hjj];split<;>omega
   have hσ:(if j=k then σ s.2.length else σ j)=σ jj:=by rw[<-hjj];split<;>rfl
   rw[hσ];refine H5 Rn.ru ?_ (fun i N=>?_) ht
   ·have hr:dK (cT (dH s c).1) (dH s c).2.length n (cT (dH s c).1 s.2.length):=dK.row (by omega);have h5:dK (cT s.1) s.2.length n fun t=>cM (fun i=>cT M (σ jj) (s.2.getD i 0)*cT s.1 i t) s.2.length:=⟨_,fun t _=>rfl⟩
    have h6:dK (cT (dH s c).1) (dH s c).2.length n fun t=>cM (fun i=>cT M (σ jj) (s.2.getD i 0)*cT s.1 i t) s.2.length:=h5.trans fun i N=>by
     rw[e3];exact dK.CG (oZ K i N) hE
    refine(h6.add hr (cT s.1 jj c)).congr fun t ht=>?_;have h7:=h.rest jj hjr PY t ht;unfold kT at h7;rw[bq (g:=fun i=>cT M (σ jj) (s.2.getD i 0)*cT s.1 i t) fun i N=>if_pos (h.vG.ru.lt i N)]at h7;rw[r2 j hjs (by omega) t ht,hjj,r1,h7];grind
   ·rw[M3.2.2.2.2 i j N (by rw[hlen];exact hjM),aF (by omega)]
theorem nT{M:List (List Rat)}{n B:Nat}(hM:gH n M)(hW:zz M n B):∀c,c<=n->∃σ F8,Jx M n B c (cB M c) σ F8
 |0,_=>⟨fun j=>j,fun _ _=>0,⟨hM,aP _,fun _ _ _ _ h=>by omega,fun p hp=>(by cases hp),fun _ _ h=>(by cases h)⟩,⟨fun _ _ _ h=>(by cases h),fun _ _ h=>(by cases h)⟩,rfl,vE.start _ _ _ _ _,fun j hj=>hj,fun j _ hj t ht=>by
   show cT M j t=kT (cT M) _ 0 (cT M j) n t;unfold kT;show _=_-0
   grind⟩
 |c+1,hc=>by
  obtain⟨σ,F8,h⟩:=nT hM hW c (by omega);unfold cB at h ⊢;rw[bc,List.foldl_append];exact h.step hW (by omega)
theorem CJ{n:Nat}(hM:gH n M)(hW:zz M n B)(hB:1<=B){c:Nat}(hc:c<=n):∀r∈(cB M c).1,∀q∈r,rl q<=ln (fB B M.length):=fun r hr q hq=>by
 obtain⟨σ,F8,h⟩:=nT hM hW c hc;obtain⟨a,ha⟩:=aQ hr;obtain⟨t,ht⟩:=aQ hq;have M9:=(aC.1 ha).1;have Ou:=(aC.1 ht).1;rw[h.red.1 r hr]at Ou;have hle:=h.red.2.1;have e:q=cT (cB M c).1 a t:=by rw[cT,show(cB M c).1.getD a []=r by rw[List.getD,ha];rfl,List.getD,ht];rfl
 rw[h.len]at M9 hle;rw[e];rcases aO a (cB M c).2.length with V|V
 ·exact a9 (h.vG.Fj V Ou) (gM (o0 hB hle))
 ·obtain⟨d,hd,hdB,hz⟩:=hW _ (h.Jf a M9);rw[h.rest a V M9 t Ou];exact a9 (h.vG.Fk hB hd hdB hz n Ou) (gM (o0 hB (by omega)))
end Go.Ex
namespace Go.Ex
open Go Go.Sx Go.Proofs
variable{xs ys:List Rat}{G:List Value}{h:Nat}{C S:Nat->Prop}{a:Option Addr}{p q:Rat}{u v:Value}{w:World}
section
variable{S:Nat->Prop}{H:Hp}{nx:Nat}{iv E:Iv}{B:Nat}{w J Y:World}{O:Nat->Sx.cd}{U:List (List Value)}{qs:List Rat}
theorem Fc.rel(h:Fc w (Cv S B iv) U qs)(r:Rel H nx iv B w O J)(X:∀g,S g->g<B):Fc J (Cv S B iv) U qs:=h.br fun _ R=>Rel.same r X R
theorem Fc.bu(h:Fc w (Cv S B iv) U qs)(r:Rel H nx iv B w O J)(X:∀g,S g->g<B)(Z:Ext J Y)(hm:∀p,p∈iv->p∈E):Fc Y (Cv S B E) U qs:=
 ((h.rel r X).br fun g R=>Z.block g (Rel.old r X g R)).bw fun _ R=>R.mono hm
theorem Fc.push(h:Fc w S U qs)(hc:iB w S G q):Fc w S (U++[G]) (qs++[q]):=by
 refine⟨by simp[h.1],fun j x p V I=>?_⟩;rcases aO j U.length with N|N
 ·rw[aJ N]at V;rw[aJ (by rw[<-h.1];exact N)]at I;exact h.2 j x p V I
 ·have NU:j=U.length:=by have:=(aC.1 V).1;simp at this;omega
  subst NU;rw[aN (aE _),bC]at V;rw[h.1,aN (aE _),bC]at I;simp at V I;subst V I;exact hc
end
section
variable{S S':Nat->Prop}{H:Hp}{nx:Nat}{iv E:Iv}{B:Nat}{w J Y:World}{O:Nat->Sx.cd}{v:Value}{b:List (Int×Int)}
end
section
variable{S:Nat->Prop}{w:World}{v u:Value}{M:List (List (Int×Int))}{b:List (Int×Int)}
end
theorem eP.zero:eP w S (.agg #[.bool false,.slice none 0 0,.bool false,.slice none 0 0]) 0:=
 ⟨_,_,_,_,0,0,rfl,⟨false,[],⟨_,rfl,cR.nil _ _⟩,rfl,aP _⟩,⟨false,[],⟨_,rfl,cR.nil _ _⟩,rfl,aP _⟩,by decide⟩
section
variable{S:Nat->Prop}{w:World}{v u:Value}{M:List (List (Int×Int))}{x:List Rat}
end
theorem iV(q:Rat):rs (q-0)=rs q:=by rw[show q-0=q by grind]
theorem jT(n:Int)(w:World)(h1n: -9223372036854775808<=n)(h2n:n<=9223372036854775807):eF PG F'.pF #[.int .i64 n] w (eM w fun v' Y=>cI Y (Nf w Y) v' (n:Rat)):=by
 have L:=bR w;refine sI (by simp) ?_;refine bp (cE L (fun _ J v Y=>cI Y (Nf J Y) v ((n:Rat))) (fun O J r=>CW n J h1n h2n) ?_);rintro O _ _ _ LC r Z L h_ A;have hd:=A.df (S:=FF) r.bs (mN h_);obtain⟨A0,A1,A2,A3,A4,A5,A6,A7,rfl⟩:=hd.shape;exact rtn L fun I' we re=>hd.out re (bo w)
theorem oc(X:Old S w)(hq:eP w S v q):eF PG F'.qd #[v] w (eM w fun v' _=>∃d,v'= .bool d/\(d=true↔q=0)):=by
 have L:=bR w;obtain⟨f0,f1,f2,f3,f4,f5,f6,f7,rfl⟩:=hq.shape;refine tW (by simp) ?_;refine bp (cE L (fun _ J v Y=>v= .int .i64 (rs q)) (fun O J r=>(j3 (oS X r) (hq.v.br (kS L r X)) (eP.zero (S:=S)).v).mono fun _ _ ⟨v2,e1,e2,e3⟩=>⟨v2,e1,e2,by rw[e3,iV]⟩) ?_);rintro O _ _ _ LC r Z L h_ rfl;intro I' we re;refine⟨_,rfl,L.tr re.cG,_,rfl,?_⟩;rw[beq_iff_eq];exact zY
theorem JJ(X:Old S w)(hp:eP w S v p)(hq:eP w S u q)(h0:q≠0):eF PG F'.tD #[v,u] w (eM w fun v' Y=>cI Y (Nf w Y) v' (p / q)):=by
 have L:=bR w;obtain⟨f0,f1,f2,f3,f4,f5,f6,f7,rfl⟩:=hp.shape;obtain⟨g0,g1,g2,g3,g4,g5,g6,g7,rfl⟩:=hq.shape;refine wN (by simp) ?_;refine bp (cE L (fun _ J v Y=>∃r,v= .tuple #[r,.int .i64 0]/\cI Y (Nf J Y) r (p / q)) (fun O J r=>(JK (oS X r) (hp.v.br (kS L r X)) (hq.v.br (kS L r X))).mono fun _ _ ⟨v2,e1,e2,e3⟩=>⟨v2,e1,e2,e3.elim (fun h=>absurd h.1 h0) fun h=>h.2⟩) ?_);rintro O _ _ _ LC r Z L h_ ⟨q1,rfl,k1⟩;have hd:=k1.df (S:=FF) r.bs (mN h_);obtain⟨s1_0a,s1_0b,s1_0c,s1_0d,s1_0e,s1_0f,s1_0g,s1_0h,rfl⟩:=hd.shape;exact rtn L fun I' we re=>hd.out re (bo w)
theorem GV(X:Old S w)(hq:eP w S v q):eF PG F'.tG #[v] w (eM w fun v' Y=>cI Y (Nf w Y) v' (-q)):=by
 have L:=bR w;obtain⟨f0,f1,f2,f3,f4,f5,f6,f7,rfl⟩:=hq.shape;refine wQ (by simp) ?_;refine bp (cE L (fun _ J v Y=>cI Y (Nf J Y) v (-q)) (fun O J r=>(GW (oS X r) (eP.zero (S:=S)).v (hq.v.br (kS L r X))).mono fun _ _ ⟨v2,e1,e2,e3⟩=>⟨v2,e1,e2,by rwa [show (0:Rat)-q= -q by grind]at e3⟩) ?_);rintro O _ _ _ LC r Z L h_ A;have hd:=A.df (S:=FF) r.bs (mN h_);obtain⟨A0,A1,A2,A3,A4,A5,A6,A7,rfl⟩:=hd.shape;exact rtn L fun I' we re=>hd.out re (bo w)
theorem GX(X:Old S w)(F:dx w S v xs)(hy:dx w S u ys)(hl:xs.length<=ys.length)(hqx:∀q∈xs,rl q+1<=h)(hqy:∀q∈ys,rl q+1<=h)(I:2<=h)(hb:2*h*xs.length<=90000):
  eF PG F'.tC #[v,u] w (eM w fun v' Y=>cI Y (Nf w Y) v' (eL xs ys xs.length)):=by
 have L:=bR w;obtain⟨ax,cx,rfl,hcx,hmx⟩:=eE.shape F;obtain⟨ay,cy,rfl,My,-⟩:=eE.shape hy;unfold maxLen at hmx;refine wM (by simp) ?_;refine bp (cE L (fun _ J v Y=>cI Y (Nf J Y) v (((0:Int):Rat))) (fun O J r=>jT 0 J (by decide) (by decide)) ?_);rintro O _ _ _ LC r Z L h_ A;have hd:=A.df (S:=FF) r.bs (mN h_);obtain⟨A0,A1,A2,A3,A4,A5,A6,A7,rfl⟩:=hd.shape;rw[show ((0:Int):Rat)=eL xs ys 0 from rfl]at hd
 refine⟨Nat×(Bool×Bool)×(Option Addr×Option Addr)×(Nat×Nat×Nat×Nat)×World×Iv,fun z=>⟨[(1,sV ay ys.length cy),(4,pP 0 0),(5,pP 1 0),(9,sV ax xs.length cx),(10,iZ xs.length),(11,iN z.1)],[(1,.box T.Rat [.v (.bool z.2.1.1),.v (.slice z.2.2.1.1 z.2.2.2.1.1 z.2.2.2.1.2.1),.v (.bool z.2.1.2),.v (.slice z.2.2.1.2 z.2.2.2.1.2.2.1 z.2.2.2.1.2.2.2)]),(0,.box T.Rat [.v (.bool false),.v (.slice none 0 0),.v (.bool false),.v (.slice none 0 0)])],2,z.2.2.2.2.2,z.2.2.2.2.1⟩,fun z=>xs.length-z.1,
  fun z=>z.1<=xs.length/\dO w.heap.size w z.2.2.2.2.1/\cI z.2.2.2.2.1 (Cf w z.2.2.2.2.2) (.agg #[.bool z.2.1.1,.slice z.2.2.1.1 z.2.2.2.1.1 z.2.2.2.1.2.1,.bool z.2.1.2,.slice z.2.2.1.2 z.2.2.2.1.2.2.1 z.2.2.2.1.2.2.2]) (eL xs ys z.1),?_,?_⟩
 ·intro O J r;exact⟨(0,(A0,A4),(A1,A5),(A2,A3,A6,A7),J,LC),⟨by simp,L.tr r.cG,hd.rel r (bo w)⟩,Sub.gn [] r⟩
 rintro⟨i,⟨p0,p4⟩,⟨p1,p5⟩,⟨p2,p3,p6,p7⟩,w1,iv⟩ ⟨N,L,hd⟩;dsimp only at N L hd ⊢;refine ct.mk ?_ ?_<;>intro Kp
 ·have Kp:i<xs.length:=by simpa using Kp
  have hs:=wU hqx hqy I i;have Li:2*h*i<=2*h*xs.length:=bZ _ N;have hs3:2*h*1<=2*h*xs.length:=bZ _ (by omega);obtain⟨x,MO⟩:∃x,xs[i]? =some x:=⟨_,aA Kp⟩
  obtain⟨y,hyi⟩:∃x,ys[i]? =some x:=⟨_,aA (by omega)⟩
  have hx3:=hqx x (aD MO);have hy3:=hqy y (aD hyi);have Pk:xs.getD i 0=x:=by rw[List.getD,MO];rfl
  have hy2:ys.getD i 0=y:=by rw[List.getD,hyi];rfl
  have hm:=jz x y;obtain⟨adx,csx,Ly,QB,-,Lw⟩:=eE.load F MO;obtain⟨ady,csy,Rt,Ox,-,NQ⟩:=eE.load hy hyi;obtain⟨f0,f1,f2,f3,f4,f5,f6,f7,rfl,QB⟩:=QB;obtain⟨q0,q1,q2,q3,q4,q5,q6,q7,rfl,Ox⟩:=Ox;refine⟨adx,Ly,by omega,[.bool f0,.slice f1 f2 f3,.bool f4,.slice f5 f6 f7],rfl,rdO Lw L X,?_⟩;refine bp (cE L (fun _ J v Y=>∃d,v= .bool d/\(d=true↔x=0)) (fun O J r=>oc (oS X r) (QB.br (kS L r X))) ?_);rintro O _ _ _ Kx r Z L h_ ⟨d1,rfl,Kw⟩;replace hd:=hd.bu r (bo w) Z (mC h_)
  cases d1
  ·refine⟨ady,Rt,by omega,[.bool q0,.slice q1 q2 q3,.bool q4,.slice q5 q6 q7],rfl,rdO NQ L X,?_⟩;refine bp (cE L (fun _ J v Y=>∃d,v= .bool d/\(d=true↔y=0)) (fun O J r=>oc (oS X r) (Ox.br (kS L r X))) ?_);rintro O _ _ _ LV r Z L h_ ⟨d2,rfl,LQ⟩;replace hd:=hd.bu r (bo w) Z (mC h_)
   cases d2
   ·refine cC hτ eG [.x 0,.x 1,.x 2,.x 3,.x 4,.x 5,.x 6,.x 7,.x 8] (by kernel_rfl) (by kernel_rfl) ?_;refine⟨ady,Rt,by omega,[.bool q0,.slice q1 q2 q3,.bool q4,.slice q5 q6 q7],rfl,rdO NQ L X,?_⟩;refine cE L (fun _ J v Y=>cI Y (Nf J Y) v (x*y)) (fun O J r=>wV (oS X r) (QB.v.br (kS L r X)) (Ox.v.br (kS L r X))) ?_;rintro O _ _ _ MD r Z L h_ A;replace hd:=hd.bu r (bo w) Z (mC h_);have hp:=A.df (S:=FF) r.bs (mN h_);obtain⟨C0,C1,C2,C3,C4,C5,C6,C7,rfl⟩:=hp.shape;refine cE L (fun _ J v Y=>cI Y (Nf J Y) v (eL xs ys i+x*y)) (fun O J r=>zZ (Rel.old r (bo w)) ((hd.rel r (bo w)).v (by omega)) ((hp.rel r (bo w)).v (by omega))) ?_;rintro O _ _ _ OT r Z L h_ A;have LZ:=A.df (S:=FF) r.bs (mN h_);obtain⟨F0,F1,F2,F3,F4,F5,F6,F7,rfl⟩:=LZ.shape;rw[show eL xs ys i+x*y=eL xs ys (i+1) by rw[eL,Pk,hy2]]at LZ;refine⟨((i+1:Nat):Int),wo,?_⟩;intro In w3 D;exact⟨(i+1,(F0,F4),(F1,F5),(F2,F3,F6,F7),w3,_),⟨Kp,L.tr D.cG,LZ.rel D (bo w)⟩,Sub.gn [] D,by dsimp only;omega⟩
   ·have Nt:y=0:=LQ.1 rfl;rw[show eL xs ys i=eL xs ys (i+1) by rw[eL,Pk,hy2,Nt,ai,bW]]at hd;refine⟨((i+1:Nat):Int),wo,?_⟩;intro In w3 D;exact⟨(i+1,(p0,p4),(p1,p5),(p2,p3,p6,p7),w3,_),⟨Kp,L.tr D.cG,hd.rel D (bo w)⟩,Sub.gn [] D,by dsimp only;omega⟩
  ·have hx0:x=0:=Kw.1 rfl;rw[show eL xs ys i=eL xs ys (i+1) by rw[eL,Pk,hy2,hx0,bD,bW]]at hd;refine⟨((i+1:Nat):Int),wo,?_⟩;intro In w3 D;exact⟨(i+1,(p0,p4),(p1,p5),(p2,p3,p6,p7),w3,_),⟨Kp,L.tr D.cG,hd.rel D (bo w)⟩,Sub.gn [] D,by dsimp only;omega⟩
 have Kp:i=xs.length:=aS N (by simpa using Kp);subst Kp;exact rtn L fun I' we re=>hd.out re (bo w)
structure fF(w:World)(S:Nat->Prop)(n i:Nat)(U:List (List Value))(qs:List Rat):Prop where
 len:U.length=n
 four:∀G∈U,G.length=4
 one:∀G∈U,∀u∈G,u.oneCell'=true
 at_:∀(j:Nat) G q,j<i->U[j]? =some G->qs[j]? =some q->iB w S G q
section
variable{S S':Nat->Prop}{H:Hp}{nx n i:Nat}{iv E:Iv}{B:Nat}{w w1 J Y:World}{O:Nat->Sx.cd}{U:List (List Value)}{qs:List Rat}
theorem fF.br(h:fF w S n i U qs)(W:∀g,S g->Y.heap[g]? =w.heap[g]?):fF Y S n i U qs:=⟨h.len,h.four,h.one,fun j G q hj V I=>(h.at_ j G q hj V I).br W⟩
theorem fF.bw(h:fF w S n i U qs)(W:∀g,S g->S' g):fF w S' n i U qs:=⟨h.len,h.four,h.one,fun j G q hj V I=>(h.at_ j G q hj V I).bw W⟩
theorem fF.rel(h:fF w (Cv S B iv) n i U qs)(r:Rel H nx iv B w O J)(X:∀g,S g->g<B):fF J (Cv S B iv) n i U qs:=h.br fun _ R=>Rel.same r X R
theorem fF.bu(h:fF w (Cv S B iv) n i U qs)(r:Rel H nx iv B w O J)(X:∀g,S g->g<B)(Z:Ext J Y)(hm:∀p,p∈iv->p∈E):fF Y (Cv S B E) n i U qs:=
 ((h.rel r X).br fun g R=>Z.block g (Rel.old r X g R)).bw fun _ R=>R.mono hm
theorem fF.start(w:World)(S:Nat->Prop)(n:Nat)(qs:List Rat):fF w S n 0 (List.replicate n f0) qs:=
 ⟨by simp,fun G hc=>by rw[bN hc];rfl,fun G hc u hu=>by rw[bN hc]at hu;simp[f0]at hu;rcases hu with rfl|rfl|rfl|rfl<;>rfl,fun j G q hj=>by omega⟩
theorem fF.next{b b2:Bool}{a2:Option Addr}{m c m2 c2:Nat}(h:fF w S n i U qs)(N:i<n)(hq:qs[i]? =some q)(hf:cI w S (.agg #[.bool b,.slice a m c,.bool b2,.slice a2 m2 c2]) q):
  fF w S n (i+1) (U.set i [.bool b,.slice a m c,.bool b2,.slice a2 m2 c2]) qs:=by
 refine⟨by simp[h.len],fun G hc=>?_,fun G hc u hu=>?_,fun j G p hj V I=>?_⟩
 ·rcases bB hc with hc|rfl
  ·exact h.four G hc
  ·rfl
 ·rcases bB hc with hc|rfl
  ·exact h.one G hc u hu
  ·simp at hu;rcases hu with rfl|rfl|rfl|rfl<;>rfl
 ·by_cases Lt:i=j
  ·subst Lt;rw[aR (by rw[h.len];exact N)]at V;rw[hq]at I;injection V with V;injection I with I;subst V I;exact hf.yT
  ·rw[aY Lt]at V;exact h.at_ j G p (by omega) V I
theorem fF.flat(h:fF w S n i U qs):U.flatten.length=n*4:=by rw[gD h.four,h.len]
theorem fF.done{w0:World}(h:fF w1 (Cf w0 iv) n n U qs)(hl:qs.length=n)(A:n<=maxLen)(r:Rel H nx iv w0.heap.size w1 O J){id:Nat}(hH:cO H id=some (.arr T.Rat U.flatten))(LD:(O id).nil=false):
  dV J FF w0.heap.size [(w0.heap.size,J.heap.size)] (.slice (some ⟨(O id).g,0,none⟩) n n) n qs:=by
 have I:=h.rel r (bo w0);have LR:=r.low id _ hH LD;refine⟨⟨U,⟨h.flat,.inr ⟨(O id).g,n,U.flatten.toArray,rfl,aP _,r.arr id _ _ hH,aE _,A,by simpa using h.flat,?_⟩⟩,h.len,?_⟩,fun g R=>?_⟩
 ·rw[<-h.flat];exact bQ
 ·refine⟨by rw[h.len,hl],fun j G q K h4=>?_⟩;refine(I.at_ j G q (by rw[<-hl];exact(aC.1 h4).1) K h4).bw fun g R=>⟨?_,fun e=>?_⟩
  ·rcases R with R|⟨k1,lo,N,k2,k3,k4⟩
   ·exact R.elim
   ·exact .inr ⟨k1,_,_,bK.2 rfl,k1,by have:=r.oR lo N k2;have:=r.size;omega⟩
  ·injection e with e;exact Rel.not r (bo w0) R id _ hH LD e
 ·injection R with R;subst R;exact .inr ⟨LR.1,_,_,bK.2 rfl,LR.1,LR.2⟩
theorem fL.c(h:fL w S S v qs):cF w S v qs:=by
 obtain⟨U,V,I⟩:=h;exact⟨U,V,I.1,I.xd,I.2⟩
theorem dV.c(h:dV w S B iv v n qs):cF w (Cv S B iv) v qs:=h.read.c
theorem cF.rc(h:cF w S v qs):fL w S S v qs:=by
 obtain⟨U,V,I,K,h4⟩:=h;exact⟨U,V,I,h4⟩
theorem fL.rel(h:fL w (Cv C B iv) (Cv S B iv) v qs)(r:Rel H nx iv B w O J)(hC:∀g,C g->g<B)(X:∀g,S g->g<B):fL J (Cv C B iv) (Cv S B iv) v qs:=
 h.br fun _ R=>R.elim (Rel.same r hC) (Rel.same r X)
theorem fL.bu(h:fL w (Cv C B iv) (Cv S B iv) v qs)(r:Rel H nx iv B w O J)(hC:∀g,C g->g<B)(X:∀g,S g->g<B)(Z:Ext J Y)(hm:∀p,p∈iv->p∈E):fL Y (Cv C B E) (Cv S B E) v qs:=
 ((h.rel r hC X).br fun g R=>Z.block g (R.elim (Rel.old r hC g) (Rel.old r X g))).bw (fun _ R=>R.mono hm) (fun _ R=>R.mono hm)
theorem fL.arg(h:fL w C S v qs)(iv:Iv):fL w (Cv C w.heap.size iv) (Cv S w.heap.size iv) v qs:=h.bw (fun _ h=>.inl h) (fun _ h=>.inl h)
theorem fL.shape(h:fL w C S v qs):∃a c,v= .slice a qs.length c/\qs.length<=c/\qs.length<=maxLen:=by
 obtain⟨U,⟨h0,_,_,a,c,V,I,_⟩,_⟩:=h;exact⟨a,c,V,I,h0⟩
theorem fL.load{n c j:Nat}(h:fL w C S (.slice a n c) qs)(hq:qs[j]? =some q):
  ∃ad G,a=some ad/\iB w S G q/\∀k u,G[k]? =some u->C ad.block/\w.cell? ((ad.add (j*4)).add k)=some u:=by
 obtain⟨U,⟨h0,V,I,a',c',e,K,h4⟩,hf⟩:=h;injection e with e1 e2 e3;subst e1;obtain⟨G,Le⟩:∃G,U[j]? =some G:=⟨_,aA (by rw[hf.1];exact(aC.1 hq).1)⟩
 have hF:=hf.2 j G q Le hq;have hl:=hF.len;obtain⟨ad,k1,k2,k3⟩:=h4 (j*4+0) _ (flat_get hf.xd Le 0 _ (aA (show 0<G.length by omega)));refine⟨ad,G,k1,hF,fun k u hu=>?_⟩;obtain⟨ad2,m1,m2,m3⟩:=h4 (j*4+k) u (flat_get hf.xd Le k u hu);rw[k1]at m1;injection m1 with m1;subst m1;refine⟨m2,?_⟩;rw[<-m3];have:(ad.add (j*4)).add k=ad.add (j*4+k):=by
  unfold Addr.add;split<;>split<;>simp_all<;>omega
 rw[this]
theorem BG{j:Nat}{c:Nat}(h:w.ownsRow 0 T.Rat 4 (.slice a n c) n U.flatten)(hf:Fc w S U qs)(hj:U[j]? =some G):
  ∃g,a=some ⟨g,0,none⟩/\∀k u,G[k]? =some u->w.cell? ((Addr.add ⟨g,0,none⟩ (j*4)).add k)=some u:=by
 rcases h.2 with⟨V,h0⟩|⟨g,cap,cur,Nb,_⟩
 ·have:=h.1;rw[gD hf.xd]at this;have:=(aC.1 hj).1;omega
 ·injection Nb with V I K;subst V;refine⟨g,rfl,fun k u hu=>?_⟩;have:=h.cells (g:=g) rfl (j*4+k) u (flat_get hf.xd hj k u hu);rw[cZ,cZ];rw[cZ]at this;rw[Nat.add_assoc];exact this
end
theorem BH(n:Nat)(w:World)(A:n<=1000000):eF PG F'.pH #[.int .i64 n] w (eM w fun v' Y=>dV Y FF w.heap.size [(w.heap.size,Y.heap.size)] v' n (List.replicate n 0)):=by
 have L:=bR w;refine sL (by simp) ?_
 refine⟨n,n,rfl,rfl,aE _,by omega,by omega,Nat×List (List Value)×Iv×World,fun z=>⟨[(3,.o (.s 0 0 n n)),(8,iZ n),(9,iN z.1)],[(0,.arr T.Rat z.2.1.flatten)],1,z.2.2.1,z.2.2.2⟩,fun z=>n-z.1,
  fun z=>z.1<=n/\dO w.heap.size w z.2.2.2/\fF z.2.2.2 (Cf w z.2.2.1) (n) z.1 z.2.1 (List.replicate n 0),?_,?_⟩
 ·intro O J r;exact⟨(0,List.replicate (n) f0,_,J),⟨by simp,L.tr r.cG,fF.start _ _ _ _⟩,Sub.gn [] r⟩
 rintro⟨i,U,iv,w1⟩ ⟨N,L,hF⟩;dsimp only at N L hF ⊢;refine ct.mk ?_ ?_<;>intro h
 ·have h:i<n:=by simpa using h
  refine bp (cE L (fun _ J v Y=>cI Y (Nf J Y) v (((0:Int):Rat))) (fun O J r=>jT 0 J (by decide) (by decide)) ?_);rintro O _ _ _ LC r Z L h_ A;replace hF:=hF.bu r (bo w) Z (mC h_);have hd:=A.df (S:=FF) r.bs (mN h_);obtain⟨A0,A1,A2,A3,A4,A5,A6,A7,rfl⟩:=hd.shape;have Kz:=hF.next h (q:=_) (by simp[h]) hd
  refine⟨by omega,by have:=hF.flat;omega,(U.set i [.bool A0,.slice A1 A2 A3,.bool A4,.slice A5 A6 A7]).flatten,?_,?_⟩
  ·have:=jU (G:=[.bool A0,.slice A1 A2 A3,.bool A4,.slice A5 A6 A7]) hF.four (show i<U.length by rw[hF.len];exact h);rw[<-this];simp
  refine⟨((i+1:Nat):Int),wo,?_⟩;intro In w3 D;exact⟨(i+1,U.set i [.bool A0,.slice A1 A2 A3,.bool A4,.slice A5 A6 A7],_,w3),⟨h,L.tr D.cG,Kz.rel D (bo w)⟩,Sub.gn [] D,by dsimp only;omega⟩
 have h:i=n:=aS N (by simpa using h);subst h;exact rtn L fun I' we re=>hF.done (by simp) (by unfold maxLen;omega) re (id:=0) rfl (re.nn 0 _ rfl (by intros;simp) (by simp))
theorem E5{b:Rat}(X:Old S w)(F:dx w S v xs)(hb:eP w S u b)(A:xs.length<=1000000):
  eF PG F'.nh #[v,u] w (eM w fun v' Y=>dV Y FF w.heap.size [(w.heap.size,Y.heap.size)] v' xs.length (cz xs b)):=by
 have L:=bR w;obtain⟨ax,cx,rfl,hcx,hmx⟩:=eE.shape F;obtain⟨g0,g1,g2,g3,g4,g5,g6,g7,rfl⟩:=hb.shape;have L0:rl b<=100000:=hb.rl;refine qq (by simp) ?_
 refine⟨xs.length,xs.length,rfl,rfl,aE _,by omega,by omega,Nat×List (List Value)×Iv×World,fun z=>⟨[(3,pP 0 0),(5,.o (.s 1 0 xs.length xs.length)),(11,sV ax xs.length cx),(12,iZ xs.length),(13,iN z.1)],[(0,.box T.Rat [.v (.bool g0),.v (.slice g1 g2 g3),.v (.bool g4),.v (.slice g5 g6 g7)]),(1,.arr T.Rat z.2.1.flatten)],2,z.2.2.1,z.2.2.2⟩,fun z=>xs.length-z.1,
  fun z=>z.1<=xs.length/\dO w.heap.size w z.2.2.2/\fF z.2.2.2 (Cf w z.2.2.1) (xs.length) z.1 z.2.1 (cz xs b),?_,?_⟩
 ·intro O J r;exact⟨(0,List.replicate (xs.length) f0,_,J),⟨by simp,L.tr r.cG,fF.start _ _ _ _⟩,Sub.gn [] r⟩
 rintro⟨i,U,iv,w1⟩ ⟨N,L,hF⟩;dsimp only at N L hF ⊢;refine ct.mk ?_ ?_<;>intro h
 ·have h:i<xs.length:=by simpa using h
  obtain⟨x,MO⟩:∃x,xs[i]? =some x:=⟨_,aA h⟩
  obtain⟨adx,csx,Ly,QB,-,Lw⟩:=eE.load F MO;obtain⟨f0,f1,f2,f3,f4,f5,f6,f7,rfl,QB⟩:=QB;refine⟨adx,Ly,by omega,[.bool f0,.slice f1 f2 f3,.bool f4,.slice f5 f6 f7],rfl,rdO Lw L X,?_⟩;refine bp (cE L (fun _ J v Y=>cI Y (Nf J Y) v (x*b)) (fun O J r=>wV (oS X r) (QB.v.br (kS L r X)) (hb.v.br (kS L r X))) ?_);rintro O _ _ _ LC r Z L h_ A;replace hF:=hF.bu r (bo w) Z (mC h_);have hd:=A.df (S:=FF) r.bs (mN h_);obtain⟨A0,A1,A2,A3,A4,A5,A6,A7,rfl⟩:=hd.shape;have Kz:=hF.next h (q:=_) (by rw[cz,aM,MO];rfl) hd
  refine⟨by omega,by have:=hF.flat;omega,(U.set i [.bool A0,.slice A1 A2 A3,.bool A4,.slice A5 A6 A7]).flatten,?_,?_⟩
  ·have:=jU (G:=[.bool A0,.slice A1 A2 A3,.bool A4,.slice A5 A6 A7]) hF.four (show i<U.length by rw[hF.len];exact h);rw[<-this];simp
  refine⟨((i+1:Nat):Int),wo,?_⟩;intro In w3 D;exact⟨(i+1,U.set i [.bool A0,.slice A1 A2 A3,.bool A4,.slice A5 A6 A7],_,w3),⟨h,L.tr D.cG,Kz.rel D (bo w)⟩,Sub.gn [] D,by dsimp only;omega⟩
 have h:i=xs.length:=aS N (by simpa using h);subst h;exact rtn L fun I' we re=>hF.done (by simp[cz]) (by unfold maxLen;omega) re (id:=1) rfl (re.nn 1 _ rfl (by intros;simp) (by simp))
theorem Ho(X:Old S w)(F:dx w S v xs)(hy:dx w S u ys)(hl:xs.length<=ys.length)(A:xs.length<=1000000):
  eF PG F'.qg #[v,u] w (eM w fun v' Y=>dV Y FF w.heap.size [(w.heap.size,Y.heap.size)] v' xs.length (fe xs ys)):=by
 have L:=bR w;obtain⟨ax,cx,rfl,hcx,hmx⟩:=eE.shape F;obtain⟨ay,cy,rfl,My,hmy⟩:=eE.shape hy;refine tZ (by simp) ?_
 refine⟨xs.length,xs.length,rfl,rfl,aE _,by omega,by omega,Nat×List (List Value)×Iv×World,fun z=>⟨[(0,sV ax xs.length cx),(1,sV ay ys.length cy),(5,.o (.s 0 0 xs.length xs.length)),(11,iZ xs.length),(12,iN z.1)],[(0,.arr T.Rat z.2.1.flatten)],1,z.2.2.1,z.2.2.2⟩,fun z=>xs.length-z.1,
  fun z=>z.1<=xs.length/\dO w.heap.size w z.2.2.2/\fF z.2.2.2 (Cf w z.2.2.1) (xs.length) z.1 z.2.1 (fe xs ys),?_,?_⟩
 ·intro O J r;exact⟨(0,List.replicate (xs.length) f0,_,J),⟨by simp,L.tr r.cG,fF.start _ _ _ _⟩,Sub.gn [] r⟩
 rintro⟨i,U,iv,w1⟩ ⟨N,L,hF⟩;dsimp only at N L hF ⊢;refine ct.mk ?_ ?_<;>intro h
 ·have h:i<xs.length:=by simpa using h
  obtain⟨x,MO⟩:∃x,xs[i]? =some x:=⟨_,aA h⟩
  obtain⟨y,hyi⟩:∃x,ys[i]? =some x:=⟨_,aA (by omega)⟩
  obtain⟨adx,csx,Ly,QB,-,Lw⟩:=eE.load F MO;obtain⟨f0,f1,f2,f3,f4,f5,f6,f7,rfl,QB⟩:=QB;obtain⟨ady,csy,Rt,Ox,-,NQ⟩:=eE.load hy hyi;obtain⟨q0,q1,q2,q3,q4,q5,q6,q7,rfl,Ox⟩:=Ox;refine cC hτ eG [.x 0,.x 1,.x 2,.x 3,.x 4,.x 5,.x 6,.x 7,.x 8,.x 9,.x 10,.x 11,.x 12] (by kernel_rfl) (by kernel_rfl) ?_;refine⟨adx,Ly,by omega,[.bool f0,.slice f1 f2 f3,.bool f4,.slice f5 f6 f7],rfl,rdO Lw L X,ady,Rt,by omega,[.bool q0,.slice q1 q2 q3,.bool q4,.slice q5 q6 q7],rfl,rdO NQ L X,?_⟩;refine cE L (fun _ J v Y=>cI Y (Nf J Y) v (x*y)) (fun O J r=>wV (oS X r) (QB.v.br (kS L r X)) (Ox.v.br (kS L r X))) ?_;rintro O _ _ _ LC r Z L h_ A;replace hF:=hF.bu r (bo w) Z (mC h_);have hd:=A.df (S:=FF) r.bs (mN h_);obtain⟨A0,A1,A2,A3,A4,A5,A6,A7,rfl⟩:=hd.shape;have Kz:=hF.next h (q:=_) (by rw[fe,List.getElem?_mapIdx,MO,List.getD,hyi];rfl) hd
  refine⟨by omega,by have:=hF.flat;omega,(U.set i [.bool A0,.slice A1 A2 A3,.bool A4,.slice A5 A6 A7]).flatten,?_,?_⟩
  ·have:=jU (G:=[.bool A0,.slice A1 A2 A3,.bool A4,.slice A5 A6 A7]) hF.four (show i<U.length by rw[hF.len];exact h);rw[<-this];simp
  refine⟨((i+1:Nat):Int),wo,?_⟩;intro In w3 D;exact⟨(i+1,U.set i [.bool A0,.slice A1 A2 A3,.bool A4,.slice A5 A6 A7],_,w3),⟨h,L.tr D.cG,Kz.rel D (bo w)⟩,Sub.gn [] D,by dsimp only;omega⟩
 have h:i=xs.length:=aS N (by simpa using h);subst h;exact rtn L fun I' we re=>hF.done (by simp[fe]) (by unfold maxLen;omega) re (id:=0) rfl (re.nn 0 _ rfl (by intros;simp) (by simp))
theorem Hq{vby vs:Value}{n:Nat}{qs ps:List Rat}(hC:Old C w)(X:Old S w)(Oy:gE w S v n qs)(L0:eP w S vby p)
  (hs:fL w C S vs ps) (MC:ps.length=n) (hdis:∀g,v.ownBlock=some g->¬S g) (hdc:∀g,v.ownBlock=some g->¬C g) (hq:∀q∈qs,rl q+1<=h) (hps:∀q∈ps,rl q+1<=h) (hb:rl p+1<=h) (hh:3*h<=90000):
  eF PG F'.mT #[v,vs,vby] w (fun e Y=>e= .returned (.tuple #[])/\w.grownBy Y v.ownBlock/\gE Y (Nw S w Y) v n (kY qs ps p)):=by
 obtain⟨U,Kr,Lo,Nj⟩:=Oy;have LR:∀g,v.ownBlock=some g->g<w.heap.size:=fun g R=>(ownsRow.low Kr g R).2;have Ms:∀iv g,v.ownBlock=some g->Out w.heap.size iv g:=fun iv g R=>.inl (LR g R);have hdis2:∀iv g,v.ownBlock=some g->¬Cv S w.heap.size iv g:=fun iv g R h=>by
  rcases h with h|⟨h,_⟩
  ·exact hdis g R h
  ·have:=LR g R;omega
 have hdis3:∀iv g,v.ownBlock=some g->¬Cv C w.heap.size iv g:=fun iv g R h=>by
  rcases h with h|⟨h,_⟩
  ·exact hdc g R h
  ·have:=LR g R;omega
 have QP:qs.length=n:=by rw[<-Nj.1,Lo]
 obtain⟨a,c,rfl,PZ⟩:=fQ Kr;obtain⟨b1,a1,n1,c1,b2,a2,n2,c2,rfl⟩:=L0.shape;obtain⟨asl,cs0,rfl,Nq,RA⟩:=hs.shape;rw[MC]at Nq RA hs ⊢;unfold maxLen at RA;replace Nj:=Nj.bw (S':=Cv S w.heap.size []) fun _ h=>.inl h;replace L0:=L0.arg [];replace hs:=hs.arg [];refine td (by simp) ?_;have MH:=Kr;have R:w.grownBy w (Value.slice a n c).ownBlock:=⟨rfl,rfl,rfl,aE _,fun _ _ _=>rfl⟩
 have hbyl:rl p<=100000:=L0.rl
 refine⟨Nat×List (List Value)×Iv×World,fun z=>⟨[(0,sV a n c),(5,pP 0 0),(8,sV asl n cs0),(9,iZ n),(10,iZ z.1)],
   [(0,.box T.Rat [.v (.bool b1),.v (.slice a1 n1 c1),.v (.bool b2),.v (.slice a2 n2 c2)])],1,z.2.2.1,z.2.2.2⟩,fun z=>n-z.1,
  fun z=>z.1<=n/\w.grownBy z.2.2.2 (Value.slice a n c).ownBlock/\z.2.2.2.ownsRow 0 T.Rat 4 (.slice a n c) n z.2.1.flatten/\z.2.1.length=n/\Fc z.2.2.2 (Cv S w.heap.size z.2.2.1) z.2.1 (fq z.1 (ue (-p) ps) qs)/\
   eP z.2.2.2 (Cv S w.heap.size z.2.2.1) (.agg #[.bool b1,.slice a1 n1 c1,.bool b2,.slice a2 n2 c2]) p/\fL z.2.2.2 (Cv C w.heap.size z.2.2.1) (Cv S w.heap.size z.2.2.1) (.slice asl n cs0) ps,?_,?_⟩
 ·intro O J r
  refine⟨(0,U,[],J),⟨by simp,fR R r.cG,ma MH (Ms []) r,Lo,by rw[qA];exact Nj.rel r X,L0.rel r X,hs.rel r hC X⟩,
   Sub.gn [] r⟩
 rintro⟨i,U,iv,w1⟩ ⟨N,R,Kr,Lo,Nj,L0,hs⟩;dsimp only at N R Kr Lo Nj L0 hs ⊢;refine ct.mk ?_ ?_<;>intro h
 ·have h:i<n:=by simpa using h
  obtain⟨G,Le⟩:∃G,U[i]? =some G:=⟨_,aA (by omega)⟩
  obtain⟨q,hqi⟩:∃q,qs[i]? =some q:=⟨_,aA (by omega)⟩
  obtain⟨f,QE⟩:∃f,ps[i]? =some f:=⟨_,aA (by omega)⟩
  have hF:=Nj.2 i G q Le (wW hqi);have hadd:ue (-p) ps i q=q-p*f:=by simp only[ue,List.getD,QE,Option.getD_some];grind
  obtain⟨d1,e1,m1,k1,d2,e2,m2,k2,rfl,hF⟩:=hF;have hrlq:=hq q (aD hqi);have hrlf:=hps f (aD QE);obtain⟨ad,fcs,LH,hff,LN⟩:=hs.load QE;obtain⟨f1,g1,o1,u1,f2,g2,o2,u2,rfl,hff⟩:=hff;refine⟨ad,LH,by omega,[.bool f1,.slice g1 o1 u1,.bool f2,.slice g2 o2 u2],rfl,fun O J r j x F=>?_,?_⟩
  ·have Li:=hs.rel r hC X;obtain⟨k2',k3⟩:=LN j x F;have:=Rel.same r hC k2';rw[aG,cA (w:=w1) (Y:=J) (by rw[dP,dP];exact this)];exact k3
  refine bp (bz (Id:=fun _ _ v _=>∃d,v= .bool d/\(d=true↔f=0)) (fun O J r=>oc (Rel.old r X) ((hff.rel r X).l (by omega))) ?_);rintro O wa v1 wb r Z MZ ⟨dz,rfl,hz⟩;replace L0:=L0.bu (E:=(wa.heap.size,wb.heap.size)::iv) r X Z fun x F=>aB _ F;replace Nj:=Nj.bu (E:=(wa.heap.size,wb.heap.size)::iv) r X Z fun x F=>aB _ F;replace hs:=hs.bu (E:=(wa.heap.size,wb.heap.size)::iv) r hC X Z fun x F=>aB _ F;replace hff:=hff.bu (E:=(wa.heap.size,wb.heap.size)::iv) r X Z fun x F=>aB _ F;replace hF:=hF.bu (E:=(wa.heap.size,wb.heap.size)::iv) r X Z fun x F=>aB _ F;replace Kr:wb.ownsRow 0 T.Rat 4 (.slice a n c) n U.flatten:=ownsRow.br (ma Kr (Ms iv) r) fun b hb=>Z.block b (by have:=LR b hb;have:=r.bs;omega);replace R:w.grownBy wb _:=fR R MZ;generalize (wa.heap.size,wb.heap.size)::iv=Kx at*
  cases dz
  ·refine cC hτ eG [.x 0,.x 1,.x 2,.x 3,.x 4,.x 5,.x 6,.x 7,.x 8,.x 9,.x 10,.x 11] (by kernel_rfl) (by kernel_rfl) ?_;obtain⟨g,rfl,LO⟩:=BG Kr Nj Le;refine⟨⟨g,0,none⟩,rfl,by omega,[.bool d1,.slice e1 m1 k1,.bool d2,.slice e2 m2 k2],rfl,fun O J r j x F=>?_,?_⟩
   ·have:=BG (ma Kr (Ms Kx) r) (Nj.rel r X) Le;obtain⟨g',V,I⟩:=this;injection V with V;rw[<-V]at I;exact I j x F
   have NG:=jz p f;refine bz (Id:=fun _ J v Y=>cI Y (Nf J Y) v (p*f)) (fun O J r=>wV (Rel.old r X) (L0.rel r X).v ((hff.rel r X).v (by omega))) ?_;rintro O wa v1 wb r Z MZ hP;have hPN:=hP.df (S:=S) r.bs (iv:=(wa.heap.size,wb.heap.size)::Kx) aH;replace L0:=L0.bu (E:=(wa.heap.size,wb.heap.size)::Kx) r X Z fun x F=>aB _ F;replace Nj:=Nj.bu (E:=(wa.heap.size,wb.heap.size)::Kx) r X Z fun x F=>aB _ F;replace hs:=hs.bu (E:=(wa.heap.size,wb.heap.size)::Kx) r hC X Z fun x F=>aB _ F;replace hF:=hF.bu (E:=(wa.heap.size,wb.heap.size)::Kx) r X Z fun x F=>aB _ F;replace Kr:wb.ownsRow 0 T.Rat 4 (.slice (some ⟨g,0,none⟩) n c) n U.flatten:=ownsRow.br (ma Kr (Ms Kx) r) fun b hb=>Z.block b (by have:=LR b hb;have:=r.bs;omega);replace R:w.grownBy wb _:=fR R MZ;generalize (wa.heap.size,wb.heap.size)::Kx=LV at*
   obtain⟨b5,a5,n5,c5,b6,a6,n6,c6,rfl⟩:=hPN.shape;refine bz (Id:=fun _ J v Y=>cI Y (Nf J Y) v (q-p*f)) (fun O J r=>GW (Rel.old r X) ((hF.rel r X).v (by omega)) ((hPN.rel r X).v (by omega))) ?_;rintro O wc v2 wd r Z MZ hQ;have hQN:=hQ.df (S:=S) r.bs (iv:=(wc.heap.size,wd.heap.size)::LV) aH;replace L0:=L0.bu (E:=(wc.heap.size,wd.heap.size)::LV) r X Z fun x F=>aB _ F;replace Nj:=Nj.bu (E:=(wc.heap.size,wd.heap.size)::LV) r X Z fun x F=>aB _ F;replace hs:=hs.bu (E:=(wc.heap.size,wd.heap.size)::LV) r hC X Z fun x F=>aB _ F;replace Kr:wd.ownsRow 0 T.Rat 4 (.slice (some ⟨g,0,none⟩) n c) n U.flatten:=ownsRow.br (ma Kr (Ms LV) r) fun b hb=>Z.block b (by have:=LR b hb;have:=r.bs;omega);replace R:w.grownBy wd _:=fR R MZ;generalize (wc.heap.size,wd.heap.size)::LV=MD at*
   obtain⟨b7,a7,n7,c7,b8,a8,n8,c8,rfl⟩:=hQN.shape;rw[<-hadd]at hQN;refine⟨⟨g,0,none⟩,rfl,by omega,?_⟩;intro O J r;have QQ:=ma Kr (Ms MD) r;have hF5:=(hQN.rel r X).yT;obtain⟨g',QR,Kt,MG,Ll,LL⟩:=nM (nv:=[.bool b7,.slice a7 n7 c7,.bool b8,.slice a8 n8 c8]) QQ rfl h rfl (by decide);injection QR with QR;injection QR with QR;subst QR;have QS:=jU (G:=[.bool b7,.slice a7 n7 c7,.bool b8,.slice a8 n8 c8]) Nj.xd (show i<U.length by omega);rw[QS]at MG;have Ma:∀x,Cv S w.heap.size MD x->(setCells J ⟨g,i*4,none⟩ [.bool b7,.slice a7 n7 c7,.bool b8,.slice a8 n8 c8]).heap[x]? =J.heap[x]? :=fun x F=>
    Ll.block x (Rel.old r X x F) fun e=>hdis2 MD g rfl (by injection e with e;rw[<-e];exact F)
   have Lx:(⟨g,0,none⟩:Addr).add ((i:Int).toNat*4)=⟨g,i*4,none⟩:=by rw[aG,cZ,aU]
   have hF6:=((Nj.rel r X).br Ma).set (j:=i) (hF5.br Ma);rw[mb (f:=ue (-p) ps) hqi]at hF6;have hby6:=(L0.rel r X).br Ma;have hkeep3:∀x,Cv C w.heap.size MD x->(setCells J ⟨g,i*4,none⟩ [.bool b7,.slice a7 n7 c7,.bool b8,.slice a8 n8 c8]).heap[x]? =J.heap[x]? :=fun x F=>
    Ll.block x (Rel.old r hC x F) fun e=>hdis3 MD g rfl (by injection e with e;rw[<-e];exact F)
   have hs6:=(hs.rel r hC X).br fun x F=>F.elim (hkeep3 x) (Ma x);replace R:w.grownBy (setCells J ⟨g,i*4,none⟩ [.bool b7,.slice a7 n7 c7,.bool b8,.slice a8 n8 c8]) (some g):=fZ (fR R r.cG) Ll;have Me:=fun id b hb A=>Rel.not r (fun _ h=>h) (Ms MD g rfl) id b hb A;refine⟨by rw[Lx],fun k W=>by rw[Lx];exact Kt k W,fun id b hb A=>by rw[Lx];exact Me id b hb A,fun Y Ln=>?_⟩;have Ln:Y=setCells J ⟨g,i*4,none⟩ [.bool b7,.slice a7 n7 c7,.bool b8,.slice a8 n8 c8]:=by rw[Ln];exact congrArg (fun x=>setCells J x _) Lx
   rw[<-Ln]at hF6 hby6 MG R LL hs6;refine⟨((i+1:Nat):Int),wo,?_⟩;intro In w3 D
   exact⟨(i+1,U.set i [.bool b7,.slice a7 n7 c7,.bool b8,.slice a8 n8 c8],MD,w3),⟨h,fR R D.cG,ma MG (Ms MD) D,by simpa using Lo,hF6.rel D X,hby6.rel D X,hs6.rel D hC X⟩,
    Sub.gn [] D,by dsimp only;omega⟩
  ·have Qk:f=0:=hz.1 rfl;have ON:ue (-p) ps i q=q:=by rw[hadd,Qk];grind
   refine⟨((i+1:Nat):Int),wo,?_⟩;intro In w3 D
   exact⟨(i+1,U,Kx,w3),⟨h,fR R D.cG,ma Kr (Ms Kx) D,Lo,by rw[<-CX hqi ON];exact Nj.rel D X,L0.rel D X,hs.rel D hC X⟩,
    Sub.gn [] D,by dsimp only;omega⟩
 ·have h:i=n:=by
   have:¬i<n:=by simpa using h
   omega
  subst h;intro J' w5 r5;refine⟨rfl,fR R r5.cG,U,ma Kr (Ms iv) r5,Lo,?_⟩;have:=(Nj.rel r5 X).bw (S':=Nw S w w5) fun g R=>Cv.nw R r5
  rwa [<-QP,sP]at this
section
variable{S:Nat->Prop}{w:World}{v u vx vk vp:Value}{z:Int}{M G9:List (List (Int×Int))}{b F9 P:List (Int×Int)}
end
end Go.Ex
namespace Go.Sx
open Go Go.Ex Go.Proofs
variable{G:List Value}{O:Nat->Sx.cd}
theorem Sub.Jo{B:Nat}{l tl:Env}{nx:Nat}{H tH:Hp}{iv:Iv}{w J:World}{id t n sz:Nat}{e:TypeId}(r:Rel H nx iv B w O J)(LK:cO H id=some (.vec e sz G))(A:(O id).nil=false)(ht:eX l t=some (.o (.w id n)))
  (hs:rS H tH) (ho:yx id tH=true) (V:AJ l tl) (I:lj nx tl):
  Sub B l nx O J ⟨(t,.o (.v (.slice (some ⟨(O id).g,0,none⟩) n (O id).cap)))::tl,tH,nx,((O id).g,(O id).g+1)::iv,J⟩:=
 ⟨O,r.free LK (by simp) A hs ho,fun u v hv=>qz A ht V I u v hv⟩
end Go.Sx
namespace Go.Ex
open Go Go.Sx Go.Proofs
end Go.Ex
namespace Go.Ex
open Go Go.Sx Go.Proofs
variable{U:List (List Value)}{qs ri:List Rat}{rv:List Value}{g:Nat}{a:Option Addr}{row:Option Nat}{q:Rat}{v:Value}
def Ob(rv:List Value)(g:Nat):Prop:=∃v∈rv,v.ownBlock=some g
def Lr(S:Nat->Prop)(B:Nat)(iv:Iv)(rv:List Value)(g:Nat):Prop:=Cv S B iv g/\¬Ob rv g
structure kJ(w:World)(S:Nat->Prop)(B:Nat)(iv:Iv)(rv:List Value)(n:Nat)(M:List (List Rat)):Prop where
 len:rv.length=M.length
 row:∀(i:Nat) v qs,rv[i]? =some v->M[i]? =some qs->gE w (Lr S B iv rv) v n qs
 wX:∀(i j:Nat) a b g,rv[i]? =some a->rv[j]? =some b->a.ownBlock=some g->b.ownBlock=some g->i=j
 new:∀g,Ob rv g->Cv FF B iv g
theorem Ob.append:Ob (rv++[v]) g↔Ob rv g\/v.ownBlock=some g:=by
 unfold Ob;simp[or_and_right,exists_or]
section
variable{S S':Nat->Prop}{H:Hp}{nx n:Nat}{iv E:Iv}{B:Nat}{w J Y:World}{O:Nat->Sx.cd}{rv:List Value}{M:List (List Rat)}
theorem kJ.nil:kJ w S B iv [] n []:=⟨rfl,fun i v qs h=>(by cases h),fun i j a b g h=>(by cases h),fun g ⟨v,hv,_⟩=>by cases hv⟩
theorem kJ.br(h:kJ w S B iv rv n M)(W:∀g,Cv S B iv g->Y.heap[g]? =w.heap[g]?):kJ Y S B iv rv n M:=
 ⟨h.len,fun i v qs V I=>(h.row i v qs V I).br fun g R=>R.elim (fun R=>W g R.1) fun R=>W g (Hr (h.new g ⟨v,aD V,R⟩)),h.wX,h.new⟩
theorem kJ.rel(h:kJ w S B iv rv n M)(r:Rel H nx iv B w O J)(X:∀g,S g->g<B):kJ J S B iv rv n M:=h.br fun _ R=>Rel.same r X R
theorem kJ.mono(h:kJ w S B iv rv n M)(hm:∀p,p∈iv->p∈E):kJ w S B E rv n M:=
 ⟨h.len,fun i v qs V I=>(h.row i v qs V I).bw fun _ R=>⟨R.1.mono hm,R.2⟩,h.wX,fun g R=>(h.new g R).mono hm⟩
theorem kJ.bu(h:kJ w S B iv rv n M)(r:Rel H nx iv B w O J)(X:∀g,S g->g<B)(Z:Ext J Y)(hm:∀p,p∈iv->p∈E):kJ Y S B E rv n M:=
 ((h.rel r X).br fun g R=>Z.block g (Rel.old r X g R)).mono hm
theorem kJ.low(h:kJ w S B iv rv n M)(R:Ob rv g):B<=g:=(h.new g R).elim (fun h=>h.elim) fun h=>h.1
theorem kJ.lt(h:kJ w S B iv rv n M)(r:Rel H nx iv B w O J)(R:Ob rv g):g<J.heap.size:=Rel.old r (iC B) g (h.new g R)
theorem Lr.grown(r:Rel H nx iv B w O J)(X:∀g,S g->g<B)(R:J.grownBy Y row)(Kr:∀g,row=some g->Ob rv g):∀g,Lr S B iv rv g->Y.heap[g]? =w.heap[g]? :=fun g h=>by
 rw[R.block g (Rel.old r X g h.1) fun e=>h.2 (Kr g e.symm),Rel.same r X h.1]
theorem kJ.cG(h:kJ w S B iv rv n M)(r:Rel H nx iv B w O J)(R:J.grownBy Y row)(Kr:∀g,row=some g->Ob rv g):dO B J Y:=
 dO.grown R (fun g e=>h.low (Kr g e)) r.bs
theorem kJ.setRow(h:kJ J S B iv rv n M)(LG:∀g,Cv S B iv g->g<J.heap.size){i:Nat}{vi:Value}(Po:rv[i]? =some vi)(Ll:J.grownBy Y vi.ownBlock)(hB:B<=J.heap.size)
  (hq:gE Y (Nw (Lr S B iv rv) J Y) vi n qs):kJ Y S B ((J.heap.size,Y.heap.size)::iv) rv n (M.set i qs):=by
 have hnw:∀g,Nw (Lr S B iv rv) J Y g->Lr S B ((J.heap.size,Y.heap.size)::iv) rv g:=fun g R=>by
  rcases R with R|R
  ·exact⟨R.1.mono fun p hp=>aB _ hp,R.2⟩
  ·exact⟨.inr ⟨by omega,_,_,aH,R.1,R.2⟩,fun hm=>by have:=LG g (Hr (h.new g hm));omega⟩
 refine⟨by rw[bH];exact h.len,fun k v ps V I=>?_,h.wX,fun g R=>(h.new g R).mono fun p hp=>aB _ hp⟩;by_cases W:i=k
 ·subst W;rw[Po]at V;injection V with V;subst V;rw[aR (by rw[<-h.len];exact(aC.1 Po).1)]at I;injection I with I;subst I;exact hq.bw hnw
 ·rw[aY W]at I;refine((h.row k v ps V I).br fun g R=>?_).bw fun g R=>⟨R.1.mono fun p hp=>aB _ hp,R.2⟩
  rcases R with R|R
  ·exact Ll.block g (LG g R.1) fun e=>R.2 ⟨vi,aD Po,e.symm⟩
  ·exact Ll.block g (LG g (Hr (h.new g ⟨v,aD V,R⟩))) fun e=>W (h.wX i k vi v g Po V e.symm R)
theorem kJ.zU(hM:kJ w S B iv rv n M)(r:Rel H nx iv B w O J)(X:∀g,S g->g<B){i j h:Nat}{vi vj vby:Value}{ri rj:List Rat}{p:Rat}(Lt:i≠j)(Po:rv[i]? =some vi)(OU:rv[j]? =some vj)(hri:M[i]? =some ri)(hrj:M[j]? =some rj)
  (L0:eP w (Lr S B iv rv) vby p) (hq:∀q∈ri,rl q+1<=h) (hqj:∀q∈rj,rl q+1<=h) (hb:rl p+1<=h) (hh:3*h<=90000):
  eF PG F'.mT #[vi,vj,vby] J (fun e Y=>e= .returned (.tuple #[])/\J.grownBy Y vi.ownBlock/\(∀g,vi.ownBlock=some g->Ob rv g)/\kJ Y S B ((J.heap.size,Y.heap.size)::iv) rv n (M.set i (kY ri rj p))):=by
 have RF:=hM.rel r X;have V:=RF.row i vi ri Po hri;have I:=RF.row j vj rj OU hrj;have ME:∀g,vi.ownBlock=some g->Ob rv g:=fun g R=>⟨_,aD Po,R⟩
 have hmj:∀g,vj.ownBlock=some g->Ob rv g:=fun g R=>⟨_,aD OU,R⟩
 refine(Hq (C:=fun g=>vj.ownBlock=some g) (S:=Lr S B iv rv) (fun x F=>hM.lt r (hmj x F)) (fun g R=>Rel.old r X g R.1) V (eP.br L0 fun g R=>Rel.same r X R.1) I.read I.len (fun g R F=>F.2 (ME g R)) (fun g R F=>Lt (hM.wX i j _ _ g Po OU R F)) hq hqj hb hh).mono fun e w8 Z=>?_;obtain⟨rfl,Ll,Kr⟩:=Z;exact⟨rfl,Ll,ME,RF.setRow (fun g R=>Rel.old r X g R) Po Ll r.bs Kr⟩
theorem kJ.form(hM:kJ w S B iv rv n M){i:Nat}(hv:rv[i]? =some v):∃a c,v= .slice a n c:=by
 obtain⟨qs,hq⟩:∃qs,M[i]? =some qs:=⟨_,aA (by rw[<-hM.len];exact(aC.1 hv).1)⟩
 obtain⟨a,c,h,_⟩:=(hM.row i v qs hv hq).form;exact⟨a,c,h⟩
theorem kJ.load(hM:kJ w S B iv rv n M){i k:Nat}{c:Nat}(hv:rv[i]? =some (.slice a n c))(hq:M[i]? =some qs)(W:qs[k]? =some q):
  ∃ad G,a=some ad/\iB w (Lr S B iv rv) G q/\∀j u,G[j]? =some u->Cv FF B iv ad.block/\w.cell? ((ad.add (k*4)).add j)=some u:=by
 obtain⟨ad,G,V,I,K⟩:=fL.load (hM.row i _ qs hv hq).read W;refine⟨ad,G,V,I,fun j u hu=>⟨?_,(K j u hu).2⟩⟩;have:=(K j u hu).1;exact hM.new _ ⟨_,aD hv,this⟩
theorem kJ.store(hM:kJ w S B iv rv n M)(r:Rel H nx iv B w O J)(X:∀g,S g->g<B){i k:Nat}{a1 a2:Option Addr}{c n1 c1 n2 c2:Nat}{b b2:Bool}(Po:rv[i]? =some (.slice a n c))(hri:M[i]? =some ri)(W:k<n)
  (hf:cI w (Lr S B iv rv) (.agg #[.bool b,.slice a1 n1 c1,.bool b2,.slice a2 n2 c2]) q):
  ∃g,a=some ⟨g,0,none⟩/\((⟨g,0,none⟩:Addr).add ((k:Int).toNat*4)).spot=none/\
   (∀j,j<4->(J.cell? (((⟨g,0,none⟩:Addr).add ((k:Int).toNat*4)).add j)).isSome=true/\J.frozen? (((⟨g,0,none⟩:Addr).add ((k:Int).toNat*4)).add j)=false)/\
   (∀id b,cO H id=some b->(O id).nil=false->(O id).g≠((⟨g,0,none⟩:Addr).add ((k:Int).toNat*4)).block)/\
   ∀Y,Y=setCells J ((⟨g,0,none⟩:Addr).add ((k:Int).toNat*4)) [.bool b,.slice a1 n1 c1,.bool b2,.slice a2 n2 c2]->kJ Y S B iv rv n (M.set i (ri.set k q))/\dO B J Y/\Rel H nx iv B Y O Y/\∀g,Lr S B iv rv g->Y.heap[g]? =w.heap[g]? :=by
 have RF:=hM.rel r X;have ME:∀g,(Value.slice a n c).ownBlock=some g->Ob rv g:=fun g R=>⟨_,aD Po,R⟩
 obtain⟨g,rfl,V,I,K,h4⟩:=(RF.row i _ ri Po hri).store W (hf.br fun g R=>Rel.same r X R.1) (fun g R F=>F.2 (ME g R)) (fun x F=>Rel.old r X x F.1);refine⟨g,rfl,V,K,fun id b hb A=>by rw[I];exact Rel.not r (iC B) (hM.new g (ME g rfl)) id b hb A,fun Y Ln=>?_⟩;obtain⟨k1,k2,k3⟩:=h4 Y Ln;have hs:=RF.setRow (fun g R=>Rel.old r X g R) Po k2 r.bs (k1.bw fun g R=>.inl R);refine⟨?_,hM.cG r k2 ME,r.uX (fun id b hb A=>Rel.not r (iC B) (hM.new g (ME g rfl)) id b hb A) k2,Lr.grown r X k2 ME⟩;refine⟨hs.len,fun j v qs h5 h6=>(hs.row j v qs h5 h6).bw fun x F=>⟨?_,F.2⟩,hs.wX,fun x F=>hM.new x F⟩;rcases F.1 with F|⟨m1,lo,N,m2,m3,m4⟩
 ·exact .inl F
 ·rcases List.mem_cons.1 m2 with e|m2
  ·injection e with e1 e2;subst e1 e2;omega
  ·exact .inr ⟨m1,lo,N,m2,m3,m4⟩
theorem kJ.push(hM:kJ w S B iv rv n M){gx c:Nat}(Rv:∀g,Cv S B iv g->g≠gx)(hBx:B<=gx)(Kr:gE w S (.slice (some ⟨gx,0,none⟩) n c) n qs)(X:∀g,S g->g<B):
  kJ w S B ((gx,gx+1)::iv) (rv++[.slice (some ⟨gx,0,none⟩) n c]) n (M++[qs]):=by
 have M7:∀g,Ob rv g->g≠gx:=fun g R=>Rv g (Hr (hM.new g R))
 have hlr:∀g,Lr S B iv rv g->Lr S B ((gx,gx+1)::iv) (rv++[.slice (some ⟨gx,0,none⟩) n c]) g:=fun g R=>⟨R.1.mono fun p hp=>aB _ hp,fun h=>by
  rcases Ob.append.1 h with h|h
  ·exact R.2 h
  ·injection h with h;exact Rv g R.1 h.symm⟩
 refine⟨by simp[hM.len],fun i v ps V I=>?_,fun i j a b g V I K h4=>?_,fun g R=>?_⟩
 ·rcases aO i rv.length with N|N
  ·rw[aJ N]at V;rw[aJ (by rw[<-hM.len];exact N)]at I;exact(hM.row i v ps V I).bw hlr
  ·have NU:i=rv.length:=by have:=(aC.1 V).1;simp at this;omega
   rw[NU,aN (aE _),bC]at V;rw[NU,hM.len,aN (aE _),bC]at I;simp at V I;subst V I;refine Kr.bw fun g R=>⟨.inl R,fun h=>?_⟩
   have:=X g R;rcases Ob.append.1 h with h|h
   ·have:=hM.low h;omega
   ·injection h with h;have h:gx=g:=h;omega
 ·have key:∀(k:Nat) v,(rv++[Value.slice (some ⟨gx,0,none⟩) n c])[k]? =some v->(k<rv.length/\rv[k]? =some v)\/(k=rv.length/\v= .slice (some ⟨gx,0,none⟩) n c):=fun k v W=>by
   rcases aO k rv.length with N|N
   ·rw[aJ N]at W;exact .inl ⟨N,W⟩
   ·have NU:k=rv.length:=by have:=(aC.1 W).1;simp at this;omega
    rw[NU,aN (aE _),bC]at W;simp at W;exact .inr ⟨NU,W.symm⟩
  rcases key i a V with⟨_,k1⟩|⟨e1,rfl⟩<;>rcases key j b I with⟨_,k2⟩|⟨e2,rfl⟩
  ·exact hM.wX i j a b g k1 k2 K h4
  ·injection h4 with h4;exact absurd h4.symm (M7 g ⟨a,aD k1,K⟩)
  ·injection K with K;exact absurd K.symm (M7 g ⟨b,aD k2,h4⟩)
  ·rw[e1,e2]
 ·rcases Ob.append.1 R with h|h
  ·exact(hM.new g h).mono fun p hp=>aB _ hp
  ·injection h with h;have h:gx=g:=h;subst h;exact .inr ⟨hBx,_,_,aH,aE _,bV _⟩
theorem kJ.drop(hM:kJ w S B iv (rv++[v]) n (M++[qs])):kJ w S B iv rv n M:=by
 have hl:rv.length=M.length:=by have:=hM.len;simpa using this
 have M7:∀g,Ob rv g->Ob (rv++[v]) g:=fun g R=>Ob.append.2 (.inl R);refine⟨hl,fun i u ps V I=>?_,fun i j a b g V I=>hM.wX i j a b g ?_ ?_,fun g R=>hM.new g (M7 g R)⟩
 ·have N:=(aC.1 V).1;exact(hM.row i u ps (by rw[aJ N];exact V) (by rw[aJ (by rw[<-hl];exact N)];exact I)).bw fun g R=>⟨R.1,fun h=>R.2 (M7 g h)⟩
 ·rw[aJ (aC.1 V).1];exact V
 ·rw[aJ (aC.1 I).1];exact I
theorem KO{id m:Nat}(r:Rel H nx iv B w O J)(h:cO H id=some (.vec T.Rat 4 U.flatten))(hl:U.length=m)(h0:0<m)(hm:m<=maxLen)(hF:Fc J S U qs):
  (O id).nil=false/\B<=(O id).g/\(∀g,Out B iv g->g≠(O id).g)/\gE J S (.slice (some ⟨(O id).g,0,none⟩) m (O id).cap) m qs:=by
 have LN:=gD hF.xd;rcases r.vec id _ _ _ h with⟨_,I⟩|⟨V,spare,I,K,h4⟩
 ·rw[I]at LN;rw[hl]at LN;simp at LN;omega
 ·refine⟨V,(r.low id _ h V).1,fun g R e=>?_,U,⟨by rw[LN,hl],.inr ⟨(O id).g,(O id).cap,_,rfl,aP _,I,?_,h4,by simpa using K,by rw[show m*4=U.flatten.length by rw[LN,hl]];simp⟩⟩,hl,hF⟩
  ·exact Rel.not r (fun _ h=>h) R id _ h V e.symm
  ·rw[List.length_append,LN,hl]at K;omega
end
end Go.Ex
namespace Go.Sx
open Go Go.Ex Go.Proofs
variable{O:Nat->Sx.cd}
theorem Sub.BI{B nx:Nat}{l:Env}{H:Hp}{iv:Iv}{w J:World}{t:uY}(id p e sz:Nat){bt:Nat}{G:List At}(LK:cO H id=some (.box bt G))(hp:G[p]? =some (.v (.slice none 0 0)))(Nq:lj nx l)(r:Rel H nx iv B w O J)
  (h:∀If,Rel ((id,.box bt (G.set p (.w nx 0)))::(nx,.vec e sz [])::H) (nx+1) iv B w If J->Sx.Sub B l (nx+1) If J t):Sx.Sub B l nx O J t:=by
 have r1:=r.push (.vec e sz []) ⟨0,0,true⟩ (Y:=J) rfl rfl rfl (aE _) (fun _ _=>rfl) (fun h=>by cases h) (.inl ⟨rfl,rfl⟩) trivial;have Kq:id≠nx:=Nat.ne_of_lt (r.keys id _ LK);have RG:cO ((nx,.vec e sz [])::H) id=some (.box bt G):=by rw[cL,aF (fun h=>Kq h.symm)];exact LK
 have Ql:=r1.nn id _ RG (by intros;simp) (by simp);have La:=r1.box id bt G RG;have OE:(G.set p (.w nx 0)).map (At.den (Sx.fI O nx ⟨0,0,true⟩))=G.map (At.den (Sx.fI O nx ⟨0,0,true⟩)):=by
  refine bJ fun j=>?_;rw[aM,aM];by_cases hj:p=j
  ·subst hj;rw[aR (aC.1 hp).1,hp];simp[At.den,dM]
  ·rw[aY hj]
 have r2:=r1.store (b':=.box bt (G.set p (.w nx 0))) (H':=(id,.box bt (G.set p (.w nx 0)))::(nx,.vec e sz [])::H) (Y:=J) RG (by simp) Ql (fun j=>by
  rw[cL];by_cases hj:id=j
  ·subst hj;rw[if_pos rfl]
  ·rw[aF hj,aF (fun h=>hj h.symm)]) rfl rfl rfl rfl (fun _ _=>rfl) ⟨Ql,by rw[OE];exact La⟩ (fun x F=>by
   rcases bB F with F|rfl
   ·exact r1.Eu id bt G RG x F
   ·exact bV nx)
 obtain⟨GE,V,I⟩:=h _ r2;refine⟨GE,V,fun x v hv=>?_⟩;obtain⟨K,v0,h4,h5⟩:=I x v hv;refine⟨K,v0,h4,?_⟩;rw[<-h5];exact SV.iQ (fun id LK=>ew id LK) (Nq.get _ _ h4)
end Go.Sx
namespace Go.Ex
open Go Go.Sx Go.Proofs
end Go.Ex
namespace Go.Ex
open Go Go.Sx Go.Proofs
inductive Tq where
 |nil
 |x (i:Nat) (t:Tq)
 |two (i:Nat) (t:Tq) (j:Nat) (u:Tq)
 |three (i:Nat) (t:Tq) (j:Nat) (u:Tq) (k:Nat) (v:Tq)
section
variable{P:Program}{τ:l9}{ops:Array Oper}{B n nx:Nat}{l:Env}{H:Hp}{iv:Iv}{w J:World}{O:Nat->Sx.cd}{a:Act}
end
end Go.Ex
