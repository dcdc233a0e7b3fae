/- Texts L31 to XTq: lemmas, each with its conditions. -/
import Derived.Test.YtgkpbdkechfgmaaGreatP9
namespace Go.Ex
variable{M:List (List Rat)}{E m:Mx}{B C r t:Nat}{σ:Nat->Nat}{v:Nat->Rat}{d p q:Rat}
structure ed where
 nodes:List (Int×Int×Int)
 bars:List (Int×Int×Rat)
 cM:List (Int×Int×Rat)
def ed.cols(f:ed):Nat:=f.bars.length+f.cM.length
def ed.node(f:ed)(n:Int):Int×Int×Int:=f.nodes.getD n.toNat (0,0,0)
def jR(f:ed)(b:Int×Int×Rat):List Int:=[(f.node b.2.1).1-(f.node b.1).1,(f.node b.2.1).2.1-(f.node b.1).2.1,(f.node b.2.1).2.2-(f.node b.1).2.2]
def yb(M:List (List Int))(r c:Nat)(d:Int):List (List Int):=M.set r ((M.getD r []).set c ((M.getD r []).getD c 0+d))
def putAt(M:List (List Int))(r c:Nat)(d:Int):List (List Int):=M.set r ((M.getD r []).set c d)
def fD(f:ed)(M:List (List Int))(i:Nat):Nat->List (List Int)
 |0=>M
 |k+1=>
  let b:=f.bars.getD i (0,0,0)
  let d:=(jR f b).getD k 0
  yb (yb (fD f M i k) (3*b.1+k).toNat i d) (3*b.2.1+k).toNat i (-d)
def eG(f:ed):Nat->List (List Int)
 |0=>List.replicate (3*f.nodes.length) (List.replicate f.cols 0)
 |i+1=>fD f (eG f i) i 3
def fG(f:ed):Nat->List (List Int)
 |0=>eG f f.bars.length
 |i+1=>
  let s:=f.cM.getD i (0,0,0)
  putAt (fG f i) (3*s.1+s.2.1).toNat (f.bars.length+i) 1
def jF(f:ed):List (List Int):=fG f f.cM.length
def ew(l:List Int):List Rat:=l.map fun(n:Int)=>(n:Rat)
def cY(f:ed):List (List Rat):=(jF f).map ew
abbrev Ld:=Int×Int×Int×Int
def HE(s:List Int)(r:Nat)(d:Int):List Int:=s.set r (s.getD r 0+d)
def df(l:List Rat)(b:Rat):List Rat:=l.map (· *b)
def lz(a b:List Rat):List Rat:=a.mapIdx fun i x=>x*b.getD i 0
def dI(f:ed):List Rat:=f.bars.map (·.2.2)++f.cM.map (·.2.2)
def kG(M:List (List Rat))(b:List Rat):List (List Rat):=M.mapIdx fun i r=>r++[b.getD i 0]
def kc(M:List (List Rat))(cols:Nat):List (List Rat):=eL (dh M cols).1 (dh M cols).2.1 cols cols
def nm(M:List (List Rat))(b:List Rat)(cols:Nat):Option (List Rat):=
 let e:=dh (kG M b) (cols+1)
 if cols∈e.2.1 then none else some (gW e.1 e.2.1 cols e.2.1.length)
def eO(st:List (List Rat))(fl:List Rat):List (List Rat):=st.map fun s=>st.map fun r=>fL (lz s fl) r s.length
def gQ(st:List (List Rat))(fl x:List Rat):List Rat:=st.map fun s=> -(fL (lz s fl) x s.length)
def lE(st:List (List Rat))(c x:List Rat):Nat->List Rat
 |0=>x
 |i+1=>(lE st c x i).mapIdx fun k q=>q+c.getD i 0*(st.getD i []).getD k 0
def Ib(B:Nat)(q:Rat):Prop:=∃z:Int,q=(z:Rat)∧z.natAbs<=B
theorem Ib.mono(h:Ib B q)(k:B<=C):Ib C q:=let⟨z,e,b⟩:=h;⟨z,e,aW b k⟩
theorem Ib.add(h:Ib B p)(k:Ib C q):Ib (B+C) (p+q):=by
 obtain⟨z,rfl,b⟩:=h;obtain⟨y,rfl,c⟩:=k;exact⟨z+y,by rw[Rat.intCast_add],by omega⟩
theorem Ib.mul(h:Ib B p)(k:Ib C q):Ib (B*C) (p*q):=by
 obtain⟨z,rfl,b⟩:=h;obtain⟨y,rfl,c⟩:=k;exact⟨z*y,by rw[Rat.intCast_mul],by rw[Int.natAbs_mul];exact Nat.mul_le_mul b c⟩
theorem Ib.neg(h:Ib B p):Ib B (-p):=by
 obtain⟨z,rfl,b⟩:=h;exact⟨-z,by rw[Rat.intCast_neg],by omega⟩
theorem Ib.sub(h:Ib B p)(k:Ib C q):Ib (B+C) (p-q):=by rw[Rat.sub_eq_add_neg];exact h.add k.neg
theorem Ib.zero(B:Nat):Ib B 0:=⟨0,rfl,aS _⟩
theorem Ib.one(h:1<=B):Ib B 1:=⟨1,rfl,h⟩
theorem Ib.int{z:Int}(h:z.natAbs<=B):Ib B (z:Rat):=⟨z,rfl,h⟩
theorem Ib.sum{B:Nat}{f:Nat->Rat}:∀(n:Nat),(∀k,k<n->Ib B (f k))->Ib (n*B) (cQ f n)
 |0,_=>Ib.zero _
 |n+1,h=>by rw[cQ,Nat.succ_mul];exact(Ib.sum n fun k hk=>h k (by omega)).add (h n (by omega))
def fB(B:Nat):Nat->Nat
 |0=>1
 |n+1=>(n+1)*(B*fB B n)
theorem Ib.qc{k:Nat}(h:Ib B q):Ib B (qc k*q):=by
 unfold Go.Ex.qc;split
 ·rw[show (-1:Rat)*q= -q by grind];exact h.neg
 ·rw[bm];exact h
theorem Ib.det{B:Nat}:∀(n:Nat) {m:Mx},(∀i j,i<n->j<n->Ib B (m i j))->Ib (fB B n) (eV n m)
 |0,_,_=>Ib.one (Nat.le_refl _)
 |n+1,m,h=>by
  unfold eV fB;exact Ib.sum (n+1) fun k hk=>((h 0 k (by omega) hk).mul (Ib.det n fun i j hi hj=>h (i+1) (skip k j) (by omega) (HA hj))).qc
theorem HF(B n:Nat):B*fB B n<=fB B (n+1):=Nat.le_mul_of_pos_left _ (Nat.succ_pos n)
theorem Lu(h:1<=B)(n:Nat):fB B n<=fB B (n+1):=aW (Nat.le_mul_of_pos_left _ h) (HF B n)
theorem qi{B a:Nat}(h:1<=B):∀{b:Nat},a<=b->fB B a<=fB B b
 |0,k=>by rw[Nat.le_zero.1 k];exact Nat.le_refl _
 |b+1,k=>by
  rcases aP b a with h1|h1
  ·rw[show a=b+1 by omega];exact Nat.le_refl _
  ·exact aW (qi h h1) (Lu h b)
theorem Mj{B R:Nat}:∀{n:Nat},n<=R->fB B n<=(R*B)^n
 |0,_=>Nat.le_refl _
 |n+1,h=>by
  rw[fB,Nat.pow_succ,<-bc,bL _ (R*B)];exact Nat.mul_le_mul (Nat.mul_le_mul_right B h) (Mj (by omega))
theorem Mk{R l n:Nat}(hn:n<=R)(h:R*B<=wt l):ln (fB B n)<=l*n+1:=by
 rw[gD,il];have h1:=aW (Mj (B:=B) hn) (Nat.pow_le_pow_left h n);rw[uq,<-Nat.pow_mul]at h1;have h2:=uq (l*n);have h3:=uo (l*n);rw[show 32*l*n=32*(l*n) by rw[bc]]at h1;omega
theorem qj{K:Nat}{D:Rat}(h0:D≠0)(hD:Ib K D)(hq:Ib K (D*q)):rl q<=ln K:=by
 obtain⟨d,rfl,b⟩:=hD;obtain⟨z,e,c⟩:=hq;have hd:d≠0:=fun e=>h0 (by rw[e];rfl);have e2:q=Rat.divInt z d:=by
  rw[Rat.divInt_eq_div,<-e,bK,bs (d:Rat) q,Rat.mul_assoc,Rat.mul_inv_cancel _ h0,Rat.mul_one]
 have:=jr (a:=z) hd;have:=fI b;have:=fI c;rw[e2];omega
theorem IS{n:Nat}(h:r<n):eV n (fh m r fun _=>0)=0:=by
 have h1:=kz 1 n r m h (fun _=>0) fun _=>0;rw[show (fun _:Nat=>(0:Rat)+1*0)=fun _=>0 from funext fun _=>by grind]at h1;grind
theorem ye{n r:Nat}{m:Mx}(h:r<n)(c:Nat->Rat)(v:Nat->Nat->Rat):∀s,eV n (fh m r fun j=>cQ (fun k=>c k*v k j) s)=cQ (fun k=>c k*eV n (fh m r (v k))) s
 |0=>IS h
 |s+1=>by
  have h1:=kz (c s) n r m h (fun j=>cQ (fun k=>c k*v k j) s) (v s);rw[ye h c v s]at h1;exact h1
theorem HG{n a b:Nat}(hb:b<n)(QM:a<b)(he:∀j,j<n->m a j=m b j):eV n m=0:=by
 obtain⟨b,rfl⟩:∃k,b=k+1:=⟨b-1,by omega⟩
 cases a with
 |zero=>exact lA b n m hb he
 |succ a=>
  have h1:=BL (m:=m) (k:=a) (n:=n) (by omega);rw[lA b n _ hb fun j hj=>?_]at h1
  ·grind
  ·rw[show uw 0 (a+1) 0=a+1 by unfold uw;rw[if_pos rfl],show uw 0 (a+1) (b+1)=b+1 by unfold uw;rw[aI (by omega),aI (by omega)]];exact he j hj
theorem Dv{n a b:Nat}(ha:a<n)(hb:b<n)(QM:a≠b)(he:∀j,j<n->m a j=m b j):eV n m=0:=by
 rcases Nat.lt_or_gt_of_ne QM with h|h
 ·exact HG hb h he
 ·exact HG ha h fun j hj=>(he j hj).symm
section
variable{E Z:Mx}{p:Nat->Nat}{r n:Nat}{v:Nat->Rat}
theorem Ru.coeff(h:Ru E p r n)(hv:dq E r n v):∀t,t<n->v t=cQ (fun i=>v (p i)*E i t) r:=by
 obtain⟨c,hc⟩:=hv;intro t ht;rw[hc t ht];refine cG fun i hi=>?_;rw[hc (p i) (h.lt i hi),fY hi fun k hk OS=>by rw[h.unit i k hi hk,aI OS,az],h.unit i i hi hi,if_pos rfl,Rat.mul_one]
def tO(Z:Mx)(p:Nat->Nat)(r:Nat):Rat:=eV r fun j i=>Z (r-1-i) (p (r-1-j))
theorem NQ(h:Ru E p r n)(hZ:∀i,i<r->dq E r n (Z i)){k:Nat}(hk:k<r)(ht:t<n):
  tO Z p r*E k t=eV r (fh (fun j i=>Z (r-1-i) (p (r-1-j))) (r-1-k) fun i=>Z (r-1-i) t):=by
 have e:∀i j,i<r->j<r->fh (fun j i=>Z (r-1-i) (p (r-1-j))) (r-1-k) (fun i=>Z (r-1-i) t) i j=fh (fun j i=>Z (r-1-i) (p (r-1-j))) (r-1-k) (fun i=>cQ (fun j=>E j t*Z (r-1-i) (p j)) r) i j:=fun i j hi hj=>by
  unfold fh;split
  ·show Z (r-1-j) t=cQ (fun l=>E l t*Z (r-1-j) (p l)) r;rw[h.coeff (hZ (r-1-j) (by omega)) t ht];exact cG fun l _=>bs _ _
  ·rfl
 rw[eh e,ye (v:=fun k i=>Z (r-1-i) (p k)) (by omega),fY hk fun j hj OS=>?_]
 ·rw[show fh (fun j i=>Z (r-1-i) (p (r-1-j))) (r-1-k) (fun i=>Z (r-1-i) (p k))=fun j i=>Z (r-1-i) (p (r-1-j))from ?_]
  ·rw[tO,bs]
  ·funext i j
   unfold fh;split
   ·rename_i hi;rw[hi,show r-1-(r-1-k)=k by omega]
   ·rfl
 ·rw[Dv (a:=r-1-k) (b:=r-1-j) (by omega) (by omega) (by omega) fun i hi=>?_,az];unfold fh;rw[if_pos rfl,aI (by omega)];show Z (r-1-i) (p j)=Z (r-1-i) (p (r-1-(r-1-j)));rw[show r-1-(r-1-j)=j by omega]
theorem NR(h:Ru E p r n)(hZ:∀i,i<r->dq E r n (Z i))(ht:t<n):
  eV (r+1) (fun j i=>if j=0 then Z (r-i) t else Z (r-i) (p (r-j)))=l7 E p r (Z r) n t*tO Z p r:=by
 obtain⟨m,hm⟩:∃m:Mx,m=fun j i=>if j=0 then Z (r-i) t else Z (r-i) (p (r-j)):=⟨_,rfl⟩
 obtain⟨w,hw⟩:∃w:Nat->Rat,w=fun i=>if i=0 then l7 E p r (Z r) n t else 0:=⟨_,rfl⟩
 rw[<-hm];have OR:∀j,j<r->∀i,m (r-j) i=Z (r-i) (p j):=fun j hj i=>by rw[hm];simp only;rw[aI (by omega),show r-(r-j)=j by omega]
 have e:∀i j,i<r+1->j<r+1->m i j=fh m 0 (fun i=>w i+1*cQ (fun j=>E j t*m (r-j) i) r) i j:=fun i j hi hj=>by
  unfold fh;split
  ·rename_i h0;subst h0;show m 0 j=w j+1*cQ (fun l=>E l t*m (r-l) j) r;rw[cG (g:=fun l=>E l t*Z (r-j) (p l)) fun l hl=>by rw[OR l hl],bm,hw];simp only
   by_cases hj0:j=0
   ·rw[if_pos hj0,hj0,hm];simp only[if_pos,Nat.sub_zero]
    unfold l7;rw[cG (f:=fun i=>if p i<n then Z r (p i)*E i t else 0) (g:=fun i=>E i t*Z r (p i)) fun l hl=>by rw[if_pos (h.lt l hl),bs]];grind
   ·rw[aI hj0,Rat.zero_add,hm];simp only[if_pos]
    rw[h.coeff (hZ (r-j) (by omega)) t ht];exact cG fun l _=>bs _ _
  ·rfl
 rw[eh e,kz 1 (r+1) 0 m (by omega),ye (v:=fun k i=>m (r-k) i) (by omega),cG (g:=fun _=>0) fun j hj=>?_,dU,az,bD]
 ·rw[eV,fY (i:=0) (by omega) fun k hk OS=>?_]
  ·unfold fh;rw[if_pos rfl,hw];simp only[if_pos]
   rw[show qc 0=1 by decide,bm,tO,eh fun i j hi hj=>?_];rw[aI (by omega),hm];simp only
   rw[aI (by omega),show skip 0 j=j+1 by unfold skip;rw[aI (by omega)],show r-(j+1)=r-1-j by omega,show r-(i+1)=r-1-i by omega]
  ·unfold fh;rw[if_pos rfl,hw];simp only
   rw[aI OS,bC,az]
 ·rw[Dv (a:=0) (b:=r-j) (by omega) (by omega) (by omega) fun i _=>?_,az];unfold fh;rw[if_pos rfl,aI (by omega)]
theorem Lv(d:Rat)(k t:Nat):l7 E p r (fun t=>d*v t) k t=d*l7 E p r v k t:=by
 unfold l7;rw[cG (g:=fun i=>d*if p i<k then v (p i)*E i t else 0) fun i _=>?_,dY]
 ·grind
 ·split
  ·rw[Rat.mul_assoc]
  ·rw[az]
theorem Lw(h:Ru E p r n){x:Nat->Rat}(hx:dq E r n fun t=>v t+ -(x t))(h0:∀i,i<r->x (p i)=0)(ht:t<n):x t=l7 E p r v n t:=by
 have h1:=h.coeff hx t ht;unfold l7;rw[cG (g:=fun i=>v (p i)*E i t) fun i hi=>if_pos (h.lt i hi)];rw[cG (g:=fun i=>v (p i)*E i t) fun i hi=>by rw[h0 i hi];grind]at h1;grind
end
structure yf(E:Mx)(p:Nat->Nat)(r n B:Nat)(Z:Mx):Prop where
 ru:Ru E p r n
 sp:∀i,i<r->dq E r n (Z i)
 ib:∀i t,i<r->t<n->Ib B (Z i t)
 nz:tO Z p r≠0
section
variable{E Z:Mx}{p:Nat->Nat}{r n B k:Nat}{v u:Nat->Rat}
theorem yf.start(E Z:Mx)(p:Nat->Nat)(n B:Nat):yf E p 0 n B Z:=
 ⟨⟨fun _ h=>(by omega),fun _ _ h=>(by omega),fun _ _ h=>(by omega),fun _ _ h=>(by omega)⟩,fun _ h=>(by omega),fun _ _ h=>(by omega),by show(1:Rat)≠0;decide⟩
theorem yf.push(h:yf E p r n B Z)(hd:d≠0)(hz:∀t,t<n->Ib B (d*v t))(hu:∀t,t<n->u t=l7 E p r v n t)(hk:k<n)(h0:u k≠0)(hl:∀t,t<k->u t=0):
  yf (kT E r u k) (fun i=>if i=r then k else p i) (r+1) n B fun i t=>if i=r then d*v t else Z i t:=by
 refine⟨h.ru.push hk (fun i hi=>by rw[hu _ (h.ru.lt i hi),HB h.ru hi]) h0 hl,fun i hi=>?_,fun i t hi ht=>?_,?_⟩
 ·by_cases h1:i=r
  ·exact((BP h0 hu h.ru.lt).mul d).congr fun t _=>by simp only[if_pos h1];rw[bs]
  ·exact((h.sp i (by omega)).trans fun j hj=>qh h0 j hj).congr fun t _=>by simp only[aI h1]
 ·by_cases h1:i=r
  ·simp only[if_pos h1];exact hz t ht
  ·simp only[aI h1];exact h.ib i t (by omega) ht
 ·have hb:=NR (Z:=fun i t=>if i=r then d*v t else Z i t) h.ru (fun i hi=>(h.sp i hi).congr fun t _=>by simp only[aI (Nat.ne_of_lt hi)]) hk;have e1:tO (fun i t=>if i=r then d*v t else Z i t) p r=tO Z p r:=eh fun i j hi hj=>by simp only;rw[aI (by omega)]
  simp only[if_pos]at hb;rw[Lv,<-hu k hk,e1]at hb;have e2:tO (fun i t=>if i=r then d*v t else Z i t) (fun i=>if i=r then k else p i) (r+1)=d*u k*tO Z p r:=by
   rw[<-hb];refine eh fun i j hi hj=>?_;by_cases h1:i=0
   ·subst h1;simp only[if_true]
    rw[if_pos (show r+1-1-0=r by omega),show r+1-1-j=r-j by omega]
   ·simp only[aI h1]
    rw[aI (show ¬r+1-1-i=r by omega),show r+1-1-j=r-j by omega,show r+1-1-i=r-i by omega]
  rw[e2];have Ol:∀{a b:Rat},a≠0->b≠0->a*b≠0:=fun ha hb e=>by
   rcases Rat.mul_eq_zero.1 e with h|h
   ·exact ha h
   ·exact hb h
  exact Ol (Ol hd h0) h.nz
theorem yf.den(h:yf E p r n B Z):Ib (fB B r) (tO Z p r):=Ib.det r fun i j hi hj=>h.ib _ _ (by omega) (h.ru.lt _ (by omega))
theorem yf.ent(h:yf E p r n B Z){i:Nat}(hi:i<r)(ht:t<n):Ib (fB B r) (tO Z p r*E i t):=by
 rw[NQ h.ru h.sp hi ht];refine Ib.det r fun j l hj hl=>?_;unfold fh;split
 ·exact h.ib _ _ (by omega) ht
 ·exact h.ib _ _ (by omega) (h.ru.lt _ (by omega))
theorem yf.Jr(h:yf E p r n B Z){i:Nat}(hi:i<r)(ht:t<n):rl (E i t)<=ln (fB B r):=qj h.nz h.den (h.ent hi ht)
theorem yf.l7(h:yf E p r n B Z)(hz:∀t,t<n->Ib B (d*v t))(k:Nat)(ht:t<n):Ib (fB B (r+1)) (d*tO Z p r*l7 E p r v k t):=by
 unfold Go.Ex.l7;rw[show ∀a b c s:Rat,a*b*(c-s)=b*(a*c)-(a*b)*s from fun a b c s=>by grind,<-dY,fB,Nat.succ_mul,Nat.add_comm];refine Ib.sub (by rw[bL B];exact h.den.mul (hz t ht)) (Ib.sum r fun i hi=>?_);split
 ·rw[show ∀a b c s:Rat,a*b*(c*s)=(a*c)*(b*s)from fun a b c s=>by grind];exact(hz _ (h.ru.lt i hi)).mul (h.ent hi ht)
 ·rw[az];exact Ib.zero _
theorem yf.Js(h:yf E p r n B Z)(hB:1<=B)(hd:d≠0)(hdB:Ib B d)(hz:∀t,t<n->Ib B (d*v t))(k:Nat)(ht:t<n):Go.Ex.rl (Go.Ex.l7 E p r v k t)<=ln (fB B (r+1)):=
 qj (fun e=>by rcases Rat.mul_eq_zero.1 e with e|e;exact hd e;exact h.nz e) ((hdB.mul h.den).mono (HF B r)) (h.l7 hz k ht)
end
def Dw(M:List (List Rat))(n B:Nat):Prop:=∀j,j<M.length->∃d:Rat,d≠0∧Ib B d∧∀t,t<n->Ib B (d*cW M j t)
theorem dq.Fm{F:Mx}{n:Nat}(h:dq E r n v)(e:∀i t,i<r->t<n->F i t=E i t):dq F r n v:=by
 obtain⟨c,hc⟩:=h;exact⟨c,fun t ht=>by rw[hc t ht];exact cG fun i hi=>by rw[e i t hi ht]⟩
theorem dq.more{s n:Nat}(h:dq E r n v)(k:r<=s):dq E s n v:=h.trans fun i hi=>dq.row (Nat.lt_of_lt_of_le hi k)
theorem Ru.congr{F:Mx}{p q:Nat->Nat}{n:Nat}(h:Ru E p r n)(e:∀i t,i<r->t<n->F i t=E i t)(ep:∀i,i<r->q i=p i):Ru F q r n:=
 ⟨fun i hi=>by rw[ep i hi];exact h.lt i hi,fun i j hi hj k=>h.inj i j hi hj (by rw[<-ep i hi,<-ep j hj];exact k),fun i j hi hj=>by rw[ep i hi,e j _ hj (h.lt i hi)];exact h.unit i j hi hj,
  fun i t hi ht=>by rw[ep i hi]at ht;rw[e i t hi (by have:=h.lt i hi;omega)];exact h.lead i t hi ht⟩
theorem yf.congr{F Z Y:Mx}{p q:Nat->Nat}{n:Nat}(h:yf E p r n B Z)(e:∀i t,i<r->t<n->F i t=E i t)(ep:∀i,i<r->q i=p i)(eZ:∀i t,i<r->t<n->Y i t=Z i t):yf F q r n B Y:=by
 refine⟨h.ru.congr e ep,fun i hi=>((h.sp i hi).congr fun t ht=>eZ i t hi ht).Fm e,fun i t hi ht=>by rw[eZ i t hi ht];exact h.ib i t hi ht,?_⟩;rw[show tO Y q r=tO Z p r from eh fun i j hi hj=>by rw[ep _ (by omega),eZ _ _ (by omega) (h.ru.lt _ (by omega))]];exact h.nz
theorem yg(row:List Rat):∀f k,k<=o0 row f k∧o0 row f k<=k+f∧(∀t,k<=t->t<o0 row f k->row.getD t 0=0)∧(o0 row f k<k+f->row.getD (o0 row f k) 0≠0)
 |0,k=>by
  unfold o0;exact⟨Nat.le_refl _,Nat.le_refl _,fun t h1 h2=>by omega,fun h=>by omega⟩
 |f+1,k=>by
  unfold o0;split
  ·rename_i h;obtain⟨h1,h2,h3,h4⟩:=yg row f (k+1);refine⟨by omega,by omega,fun t k1 k2=>?_,fun h5=>h4 (by omega)⟩;rcases aP k t with h5|h5
   ·exact h3 t h5 k2
   ·rw[show t=k by omega];exact h
  ·rename_i h;exact⟨Nat.le_refl _,by omega,fun t h1 h2=>by omega,fun _=>h⟩
theorem IT(row:List Rat)(n:Nat):tM row n<=n∧(∀t,t<tM row n->row.getD t 0=0)∧(tM row n≠n->row.getD (tM row n) 0≠0):=by
 obtain⟨_,h2,h3,h4⟩:=yg row n 0;unfold tM;exact⟨by omega,fun t h=>h3 t (aS _) h,fun h=>h4 (by omega)⟩
theorem IU(y:List Rat)(q:Rat)(t:Nat):(y.map (· / q)).getD t 0=y.getD t 0 / q:=by
 simp only[List.getD,aM]
 cases y[t]? with
 |none=>show(0:Rat)=0 / q;rw[bK,bC]
 |some x=>rfl
structure Fo(M:List (List Rat))(n B i:Nat)(s:wu)(p:Nat->Nat)(Z:Mx):Prop where
 ok:tN n n i s
 Nu:∀k,k<n->∀r:Nat,s.2.1[k]? =some (some r)↔r<s.1.length∧p r=k
 yh:yf (cW s.1) p s.1.length n B Z
 up:∀r,r<s.1.length->dq (cW M) i n (cW s.1 r)
 dn:∀j,j<i->dq (cW s.1) s.1.length n (cW M j)
section
variable{M:List (List Rat)}{n B i:Nat}{s:wu}{p:Nat->Nat}{Z:Mx}
theorem Fo.l7(h:Fo M n B i s p Z){x:List Rat}(hx:x.length=n):∀k,k<=n->∀t,t<n->(fZ s.1 s.2.1 x k).getD t 0=l7 (cW s.1) p s.1.length (fun t=>x.getD t 0) k t
 |0,_,t,ht=>by rw[Jl];rfl
 |k+1,hk,t,ht=>by
  have ih:=Fo.l7 h hx k (by omega);obtain⟨o,ho⟩:∃o,s.2.1[k]? =some o:=⟨_,aB (by rw[h.ok.at_];omega)⟩
  have hd:s.2.1.getD k none=o:=by rw[List.getD,ho];rfl
  rw[fZ,hd]
  cases o with
  |none=>
   simp only
   rw[ih t ht,Jm fun r hr e=>?_];have:=(h.Nu k (by omega) r).2 ⟨hr,e⟩;rw[ho]at this
   cases this
  |some r=>
   simp only
   obtain⟨hr,e⟩:=(h.Nu k (by omega) r).1 ho;rw[lu,uu (by rw[iA,hx];exact ht),ih t ht,ih k (by omega),<-e,Jn h.yh.ru hr];rfl
theorem Fo.step(h:Fo M n B i s p Z)(hM:gh n M)(hi:i<M.length)(hd:d≠0)(hz:∀t,t<n->Ib B (d*cW M i t)):
  ∃p' Z',Fo M n B (i+1) (jx n s i (M.getD i [])) p' Z':=by
 have hx:(M.getD i []).length=n:=hM.getD hi;have OV:=h.ok.step hx;obtain⟨y,hy⟩:∃y,fZ s.1 s.2.1 (M.getD i []) n=y:=⟨_,rfl⟩
 have hu:∀t,t<n->y.getD t 0=Go.Ex.l7 (cW s.1) p s.1.length (cW M i) n t:=fun t ht=>by rw[<-hy];exact h.l7 hx n (Nat.le_refl _) t ht
 have hyl:y.length=n:=by rw[<-hy,iA,hx]
 obtain⟨q1,q2,q3⟩:=IT y n;by_cases hq:tM y n=n
 ·have e:jx n s i (M.getD i [])=s:=by unfold jx;simp only[hy,hq,if_true]
  rw[e]at OV ⊢;refine⟨p,Z,OV,h.Nu,h.yh,fun r hr=>(h.up r hr).more (Nat.le_succ i),fun j hj=>?_⟩;rcases aP j i with h1|h1
  ·exact h.dn j h1
  ·rw[show j=i by omega];refine⟨fun j=>cW M i (p j),fun t ht=>?_⟩;have h2:=hu t ht;rw[q2 t (by omega)]at h2;unfold Go.Ex.l7 at h2;rw[cG (g:=fun j=>cW M i (p j)*cW s.1 j t) fun j hj=>if_pos (h.yh.ru.lt j hj)]at h2;grind
 ·have h0:=q3 hq;obtain⟨k,hk⟩:∃k,tM y n=k:=⟨_,rfl⟩
  rw[hk]at hq h0 q1 q2;have UN:k<n:=by omega
  have e:jx n s i (M.getD i [])=(gE s.1 (y.map (· / y.getD k 0)) k s.1.length++[y.map (· / y.getD k 0)],s.2.1.set k (some s.1.length),s.2.2++[i]):=by
   unfold jx;simp only[hy,hk,aI hq]
  rw[e]at OV ⊢;have hl:(gE s.1 (y.map (· / y.getD k 0)) k s.1.length).length=s.1.length:=fe ..;have RS:(gE s.1 (y.map (· / y.getD k 0)) k s.1.length++[y.map (· / y.getD k 0)]).length=s.1.length+1:=by rw[List.length_append,hl];rfl
  have hdv:∀t,t<n->(y.map (· / y.getD k 0)).getD t 0=y.getD t 0 / y.getD k 0:=fun t _=>IU y _ t;have hE:∀a t,a<s.1.length+1->t<n->cW (gE s.1 (y.map (· / y.getD k 0)) k s.1.length++[y.map (· / y.getD k 0)]) a t=kT (cW s.1) s.1.length (fun t=>y.getD t 0) k a t:=fun a t ha ht=>by
   unfold kT;by_cases h1:a=s.1.length
   ·rw[if_pos h1,<-hdv t ht,cW];congr 1;rw[List.getD,aN (by omega),hl,h1,bB];rfl
   ·have Qs:a<s.1.length:=by omega
    have hr:=aB Qs;have Pk:(s.1[a]).length=n:=h.ok.len _ (aX Qs);have hg:s.1.getD a []=s.1[a]:=by rw[List.getD,hr];rfl
    have OR:(gE s.1 (y.map (· / y.getD k 0)) k s.1.length++[y.map (· / y.getD k 0)]).getD a []=lu s.1[a] (y.map (· / y.getD k 0)) ((s.1[a]).getD k 0):=by
     rw[List.getD,aJ (by omega),gE,List.getElem?_mapIdx,hr];simp only[bY,Option.getD_some,if_pos Qs]
    rw[aI h1,cW,OR,lu,uu (by omega),hdv t ht];unfold cW;rw[hg]
  have hC:=h.yh.push hd hz hu UN h0 q2;have hu2:=NP (v:=cW M i) hu h.yh.ru.lt;refine⟨fun i=>if i=s.1.length then k else p i,fun a t=>if a=s.1.length then d*cW M i t else Z a t,OV,?_,?_,?_,?_⟩
  ·intro c hc r;dsimp only
   rw[RS];have OS:∀j,j<s.1.length->p j≠k:=fun j hj e=>h0 (by rw[hu k UN,<-e];exact HB h.yh.ru hj);by_cases h1:c=k
   ·rw[h1,aO (by rw[h.ok.at_];exact UN)];constructor
    ·intro e;injection e with e;injection e with e;exact⟨by omega,by rw[if_pos e.symm]⟩
    ·rintro⟨h2,h3⟩;by_cases h4:r=s.1.length
     ·rw[h4]
     ·rw[aI h4]at h3;exact absurd h3 (OS r (by omega))
   ·rw[aT (Ne.symm h1),h.Nu c hc r];constructor
    ·rintro⟨h2,h3⟩;exact⟨by omega,by rw[aI (by omega)];exact h3⟩
    ·rintro⟨h2,h3⟩;by_cases h4:r=s.1.length
     ·rw[if_pos h4]at h3;exact absurd h3.symm h1
     ·rw[aI h4]at h3;exact⟨by omega,h3⟩
  ·dsimp only
   rw[RS];exact hC.congr hE (fun _ _=>rfl) fun _ _ _ _=>rfl
  ·dsimp only
   rw[RS];intro a ha;refine((Jo (k:=k) hu2 a ha).trans fun b hb=>?_).congr fun t ht=>hE a t ha ht;by_cases h1:b=s.1.length
   ·exact(dq.row (show i<i+1 by omega)).congr fun t _=>by unfold jk;rw[if_pos h1]
   ·exact((h.up b (by omega)).more (Nat.le_succ i)).congr fun t _=>by unfold jk;rw[aI h1]
  ·dsimp only
   rw[RS];intro j hj;refine dq.Fm ?_ hE;rcases aP j i with h1|h1
   ·exact(h.dn j h1).trans fun b hb=>qh h0 b hb
   ·rw[show j=i by omega];exact BP h0 hu h.yh.ru.lt
end
theorem qk{M:List (List Rat)}{n B:Nat}(hM:gh n M)(hW:Dw M n B):∀i,i<=M.length->∃p Z,Fo M n B i (gq M n i) p Z
 |0,_=>⟨fun _=>0,fun _ _=>0,tN.start n n,fun k _ r=>⟨fun h=>(by
   simp only[gq,List.getElem?_replicate]at h
   split at h<;>cases h),fun h=>(by have:=h.1;simp[gq]at this)⟩,yf.start _ _ _ _ _,fun r h=>(by simp[gq]at h),fun j h=>by omega⟩
 |i+1,hi=>by
  obtain⟨p,Z,h⟩:=qk hM hW i (by omega);obtain⟨d,hd,-,hz⟩:=hW i (by omega);exact h.step hM (by omega) hd hz
theorem Jt{n:Nat}(hM:gh n M)(hW:Dw M n B)(hB:1<=B){i:Nat}(hi:i<=M.length):∀r∈(gq M n i).1,∀q∈r,rl q<=ln (fB B M.length):=fun r hr q hq=>by
 obtain⟨p,Z,h⟩:=qk hM hW i hi;obtain⟨a,ha⟩:=aQ hr;obtain⟨t,ht⟩:=aQ hq;have Qs:=(aD.1 ha).1;have TG:=(aD.1 ht).1;rw[h.ok.len r hr]at TG;have h1:=h.yh.Jr Qs TG;rw[cW,show(gq M n i).1.getD a []=r by rw[List.getD,ha];rfl,show r.getD t 0=q by rw[List.getD,ht];rfl]at h1;exact aW h1 (fI (qi hB (aW h.ok.le hi)))
theorem Ju{n:Nat}(hM:gh n M)(hW:Dw M n B)(hB:1<=B){i k:Nat}(hi:i<M.length)(hk:k<=n):∀q∈fZ (gq M n i).1 (gq M n i).2.1 (M.getD i []) k,rl q<=ln (fB B M.length):=fun q hq=>by
 obtain⟨p,Z,h⟩:=qk hM hW i (by omega);have hx:(M.getD i []).length=n:=hM.getD hi;obtain⟨t,ht⟩:=aQ hq;have TG:=(aD.1 ht).1;rw[iA,hx]at TG;have h1:=h.l7 hx k hk t TG;rw[show (fZ (gq M n i).1 (gq M n i).2.1 (M.getD i []) k).getD t 0=q by rw[List.getD,ht];rfl]at h1;obtain⟨d,hd,hdB,hz⟩:=hW i hi;rw[h1];exact aW (h.yh.Js hB hd hdB hz k TG) (fI (qi hB (by have:=h.ok.le;omega)))
theorem BQ{s:wu}:∀k,(cZ s k).1.length=(cZ s k).2.1.length∧(∀i,i<(cZ s k).2.1.length->∃r:Nat,s.2.1[(cZ s k).2.1.getD i 0]? =some (some r)∧(cZ s k).1.getD i []=s.1.getD r []∧(cZ s k).2.1.getD i 0<k)∧
  (∀i j,i<j->j<(cZ s k).2.1.length->(cZ s k).2.1.getD i 0<(cZ s k).2.1.getD j 0)∧∀q,q<k->∀r:Nat,s.2.1[q]? =some (some r)->∃i,i<(cZ s k).2.1.length∧(cZ s k).2.1.getD i 0=q
 |0=>⟨rfl,fun i h=>(by cases h),fun i j _ h=>(by cases h),fun q h=>by omega⟩
 |k+1=>by
  obtain⟨h1,h2,h3,h4⟩:=BQ (s:=s) k;have step:(∃r:Nat,s.2.1[k]? =some (some r)∧cZ s (k+1)=((cZ s k).1++[s.1.getD r []],(cZ s k).2.1++[k],(cZ s k).2.2++[s.2.2.getD r 0]))∨((∀r:Nat,s.2.1[k]? ≠some (some r))∧cZ s (k+1)=cZ s k):=by
   rw[cZ]
   cases ho:s.2.1[k]? with
   |none=>exact .inr ⟨fun r e=>(by cases e),by rw[show s.2.1.getD k none=none by rw[List.getD,ho];rfl]⟩
   |some o=>cases o with
    |none=>exact .inr ⟨fun r e=>(by cases e),by rw[show s.2.1.getD k none=none by rw[List.getD,ho];rfl]⟩
    |some r=>exact .inl ⟨r,rfl,by rw[show s.2.1.getD k none=some r by rw[List.getD,ho];rfl]⟩
  rcases step with⟨r,hr,e⟩|⟨hr,e⟩
  ·rw[e];have old:∀i,i<(cZ s k).2.1.length->((cZ s k).2.1++[k]).getD i 0=(cZ s k).2.1.getD i 0:=fun i hi=>by rw[List.getD,aJ hi,<-List.getD]
   have new:((cZ s k).2.1++[k]).getD (cZ s k).2.1.length 0=k:=by rw[List.getD,aN (Nat.le_refl _),bB];rfl
   have hlen:((cZ s k).2.1++[k]).length=(cZ s k).2.1.length+1:=by simp
   dsimp only
   rw[hlen];refine⟨by simp[h1],fun i hi=>?_,fun i j PE hj=>?_,fun q hq x hx=>?_⟩
   ·rcases aP i (cZ s k).2.1.length with h5|h5
    ·obtain⟨x,x1,x2,x3⟩:=h2 i h5;rw[old i h5];refine⟨x,x1,?_,by omega⟩;rw[List.getD,aJ (by omega),<-List.getD];exact x2
    ·rw[show i=(cZ s k).2.1.length by omega,new];refine⟨r,hr,?_,by omega⟩;rw[List.getD,aN (by omega),h1,bB];rfl
   ·rcases aP j (cZ s k).2.1.length with h5|h5
    ·rw[old i (by omega),old j h5];exact h3 i j PE h5
    ·rw[show j=(cZ s k).2.1.length by omega,new,old i (by omega)];obtain⟨_,_,_,x3⟩:=h2 i (by omega);exact x3
   ·rcases aP q k with h5|h5
    ·obtain⟨i,i1,i2⟩:=h4 q h5 x hx;exact⟨i,by omega,by rw[old i i1];exact i2⟩
    ·exact⟨(cZ s k).2.1.length,by omega,by rw[new];omega⟩
  ·rw[e];refine⟨h1,fun i hi=>?_,h3,fun q hq x hx=>?_⟩
   ·obtain⟨x,x1,x2,x3⟩:=h2 i hi;exact⟨x,x1,x2,by omega⟩
   ·rcases aP q k with h5|h5
    ·exact h4 q h5 x hx
    ·rw[show q=k by omega]at hx;exact absurd hx (hr x)
theorem iL{α:Type}{a b:List α}(d:α)(hl:a.length=b.length)(h:∀i,i<a.length->a.getD i d=b.getD i d):a=b:=by
 refine List.ext_getElem hl fun i h1 h2=>?_;have:=h i h1
 rwa [List.getD,List.getD,aB h1,aB h2]at this
theorem sJ{n:Nat}(hM:gh n M)(hW:Dw M n B):(dh M n).2.1=(cK M n).2∧(dh M n).1=(cK M n).1.take (cK M n).2.length:=by
 obtain⟨p,Z,h⟩:=qk hM hW M.length (Nat.le_refl _);obtain⟨h1,h2,h3,h4⟩:=BQ (s:=gq M n M.length) n;unfold dh;generalize gq M n M.length=s at*
 obtain⟨F,hF⟩:∃F,cZ s n=F:=⟨_,rfl⟩
 rw[hF]at h1 h2 h3 h4 ⊢;have OR:∀i,i<F.2.1.length->∃r,r<s.1.length∧p r=F.2.1.getD i 0∧F.1.getD i []=s.1.getD r []∧F.2.1.getD i 0<n:=fun i hi=>by
  obtain⟨r,r1,r2,r3⟩:=h2 i hi;obtain⟨k1,k2⟩:=(h.Nu _ r3 r).1 r1;exact⟨r,k1,k2,r2,r3⟩
 have inj:∀i j,i<F.2.1.length->j<F.2.1.length->F.2.1.getD i 0=F.2.1.getD j 0->i=j:=fun i j hi hj e=>by
  rcases bp i j with h5|h5|h5
  ·have:=h3 i j h5 hj;omega
  ·exact h5
  ·have:=h3 j i h5 hi;omega
 have hrf:Rf (cW F.1) (fun i=>F.2.1.getD i 0) F.2.1.length n:=by
  refine⟨fun i hi=>?_,h3,fun i j hi hj=>?_,fun i t hi ht=>?_⟩
  ·obtain⟨_,_,_,_,h5⟩:=OR i hi;exact h5
  ·obtain⟨a,a1,a2,a3,_⟩:=OR i hi;obtain⟨b,b1,b2,b3,_⟩:=OR j hj;rw[cW,b3,<-a2];have:=h.yh.ru.unit a b a1 b1;unfold cW at this;rw[this];by_cases h5:j=i
   ·rw[if_pos h5,if_pos (h.yh.ru.inj b a b1 a1 (by rw[a2,b2,h5]))]
   ·rw[aI h5,aI fun e=>h5 (inj j i hj hi (by rw[<-a2,<-b2,e]))]
  ·obtain⟨a,a1,a2,a3,_⟩:=OR i hi;rw[cW,a3];have:=h.yh.ru.lead a t a1 (by rw[a2];exact ht);unfold cW at this;exact this
 have WM:∀r,r<s.1.length->dq (cW F.1) F.2.1.length n (cW s.1 r):=fun r hr=>by
  have hp:=h.yh.ru.lt r hr;obtain⟨i,i1,i2⟩:=h4 (p r) hp r ((h.Nu _ hp r).2 ⟨hr,rfl⟩);obtain⟨a,a1,a2,a3,_⟩:=OR i i1;have e:a=r:=h.yh.ru.inj a r a1 hr (by rw[a2,i2]);exact(dq.row i1).congr fun t _=>by rw[cW,cW,a3,e]
 obtain⟨e1,e2,e3⟩:=Ds hM hrf (fun i hi=>by
  obtain⟨a,a1,a2,a3,_⟩:=OR i hi
  exact(h.up a a1).congr fun t _=>by rw[cW,cW,a3]) fun j hj=>(h.dn j hj).trans WM
 obtain⟨g1,g2,-,-,-⟩:=eK hM n (Nat.le_refl _);refine⟨iL 0 e1.symm fun i hi=>(e2 i hi).symm,iL [] ?_ fun i hi=>?_⟩
 ·rw[aZ,e1,h1];omega
 ·rw[h1]at hi;have Ta:i<(cK M n).2.length:=by omega
  obtain⟨a,a1,a2,a3,_⟩:=OR i hi;have QT:(F.1.getD i []).length=n:=by rw[a3];exact h.ok.len.getD a1
  have hg:((cK M n).1.take (cK M n).2.length).getD i []=(cK M n).1.getD i []:=by rw[List.getD,bO Ta,<-List.getD]
  rw[hg];refine iL 0 (by rw[QT,g1.getD (by omega)]) fun t ht=>?_;rw[QT]at ht;exact(e3 i t hi ht).symm
structure ElI(M:List (List Rat))(n B c:Nat)(s:List (List Rat)×List Nat)(σ:Nat->Nat)(Z:Mx):Prop where
 red:Nt n c s
 mon:Jk s
 len:s.1.length=M.length
 yh:yf (cW s.1) (fun i=>s.2.getD i 0) s.2.length n B Z
 OF:∀j,j<M.length->σ j<M.length
 rest:∀j,s.2.length<=j->j<M.length->∀t,t<n->cW s.1 j t=l7 (cW s.1) (fun i=>s.2.getD i 0) s.2.length (cW M (σ j)) n t
theorem ElI.step{n c:Nat}{s:List (List Rat)×List Nat}{Z:Mx}(h:ElI M n B c s σ Z)(hW:Dw M n B)(hc:c<n):∃σ' Z',ElI M n B (c+1) (dg s c) σ' Z':=by
 have Q7:=h.red.step hc;have hmon:=h.mon.step h.red hc;have hlen:(dg s c).1.length=M.length:=by rw[n9,h.len]
 obtain⟨hl,hle,hz,Qe,hu⟩:=h.red;rcases kF c hle with⟨e,h0⟩|⟨k,h1,h2,h3,e⟩
 ·rw[e]at Q7 hmon hlen ⊢;exact⟨σ,Z,Q7,hmon,hlen,h.yh,h.OF,h.rest⟩
 ·obtain⟨r1,r2⟩:=nc hl h1 h2 h3 e;have e2:(dg s c).2=s.2++[c]:=by rw[e]
  have e3:(dg s c).2.length=s.2.length+1:=by rw[e2];simp
  have hkM:k<M.length:=by rw[<-h.len];exact h2
  have hk:=h.rest k h1 hkM;obtain⟨d,hd,-,hdz⟩:=hW (σ k) (h.OF k hkM);have hC:=h.yh.push (u:=cW s.1 k) hd hdz hk hc h3 fun t ht=>hz k t h1 h2 ht;have hold:∀i,i<s.2.length->(dg s c).2.getD i 0=s.2.getD i 0:=fun i hi=>by rw[e2,List.getD,aJ hi,<-List.getD]
  have Q5:(dg s c).2.getD s.2.length 0=c:=by rw[e2,List.getD,aN (Nat.le_refl _),bB];rfl
  have hE:∀i t,i<s.2.length+1->t<n->cW (dg s c).1 i t=kT (cW s.1) s.2.length (cW s.1 k) c i t:=fun i t hi ht=>by
   unfold kT;by_cases Vf:i=s.2.length
   ·rw[if_pos Vf,Vf,r1,bK,bK,bm]
   ·rw[aI Vf,r2 i (by omega) Vf t ht,aI (by omega),bK,bK,bm]
  have Sp:yf (cW (dg s c).1) (fun i=>(dg s c).2.getD i 0) (dg s c).2.length n B fun i t=>if i=s.2.length then d*cW M (σ k) t else Z i t:=by
   rw[e3];refine hC.congr hE (fun i hi=>?_) fun _ _ _ _=>rfl;by_cases Vf:i=s.2.length
   ·rw[if_pos Vf,Vf,Q5]
   ·rw[aI Vf,hold i (by omega)]
  refine⟨fun j=>if j=k then σ s.2.length else σ j,_,Q7,hmon,hlen,Sp,fun j hj=>?_,fun j hj hjM t ht=>?_⟩
  ·split
   ·exact h.OF _ (by omega)
   ·exact h.OF j hj
  ·rw[e3]at hj;have hjs:j<s.1.length:=by rw[h.len];exact hjM
   obtain⟨jj,hjj⟩:∃jj,(if j=k then s.2.length else j)=jj:=⟨_,rfl⟩
   have hjr:s.2.length<=jj:=by rw[<-hjj];split<;>omega
   have Sn:jj<M.length:=by rw[<-hjj];split<;>omega
   have hσ:(if j=k then σ s.2.length else σ j)=σ jj:=by rw[<-hjj];split<;>rfl
   rw[hσ];refine Lw Sp.ru ?_ (fun i hi=>?_) ht
   ·have hr:dq (cW (dg s c).1) (dg s c).2.length n (cW (dg s c).1 s.2.length):=dq.row (by omega);have h5:dq (cW s.1) s.2.length n fun t=>cQ (fun i=>cW M (σ jj) (s.2.getD i 0)*cW s.1 i t) s.2.length:=⟨_,fun t _=>rfl⟩
    have h6:dq (cW (dg s c).1) (dg s c).2.length n fun t=>cQ (fun i=>cW M (σ jj) (s.2.getD i 0)*cW s.1 i t) s.2.length:=h5.trans fun i hi=>by
     rw[e3];exact dq.Fm (qh h3 i hi) hE
    refine(h6.add hr (cW s.1 jj c)).congr fun t ht=>?_;have h7:=h.rest jj hjr Sn t ht;unfold l7 at h7;rw[cG (g:=fun i=>cW M (σ jj) (s.2.getD i 0)*cW s.1 i t) fun i hi=>if_pos (h.yh.ru.lt i hi)]at h7;rw[r2 j hjs (by omega) t ht,hjj,r1,h7];grind
   ·rw[Q7.2.2.2.2 i j hi (by rw[hlen];exact hjM),aI (by omega)]
theorem pQ{M:List (List Rat)}{n B:Nat}(hM:gh n M)(hW:Dw M n B):∀c,c<=n->∃σ Z,ElI M n B c (cK M c) σ Z
 |0,_=>⟨fun j=>j,fun _ _=>0,⟨hM,aS _,fun _ _ _ _ h=>by omega,fun p hp=>(by cases hp),fun _ _ h=>(by cases h)⟩,⟨fun _ _ _ h=>(by cases h),fun _ _ h=>(by cases h)⟩,rfl,yf.start _ _ _ _ _,fun j hj=>hj,fun j _ hj t ht=>by
   show cW M j t=l7 (cW M) _ 0 (cW M j) n t;unfold l7;show _=_-0
   grind⟩
 |c+1,hc=>by
  obtain⟨σ,Z,h⟩:=pQ hM hW c (by omega);unfold cK at h ⊢;rw[bW,List.foldl_append];exact h.step hW (by omega)
theorem Fp{n:Nat}(hM:gh n M)(hW:Dw M n B)(hB:1<=B){c:Nat}(hc:c<=n):∀r∈(cK M c).1,∀q∈r,rl q<=ln (fB B M.length):=fun r hr q hq=>by
 obtain⟨σ,Z,h⟩:=pQ hM hW c hc;obtain⟨a,ha⟩:=aQ hr;obtain⟨t,ht⟩:=aQ hq;have Qs:=(aD.1 ha).1;have TG:=(aD.1 ht).1;rw[h.red.1 r hr]at TG;have hle:=h.red.2.1;have e:q=cW (cK M c).1 a t:=by rw[cW,show(cK M c).1.getD a []=r by rw[List.getD,ha];rfl,List.getD,ht];rfl
 rw[h.len]at Qs hle;rw[e];rcases aP a (cK M c).2.length with h1|h1
 ·exact aW (h.yh.Jr h1 TG) (fI (qi hB hle))
 ·obtain⟨d,hd,hdB,hz⟩:=hW _ (h.OF a Qs);rw[h.rest a h1 Qs t TG];exact aW (h.yh.Js hB hd hdB hz n TG) (fI (qi hB (by omega)))
end Go.Ex
namespace Go.Ex
open Go Go.Sx Go.Proofs
variable{K:List (List Rat)}{qs xs ys:List Rat}{cs:List Value}{h:Nat}{C S:Nat->Prop}{a:Option Addr}{p q:Rat}{u v:Value}{w:World}
section
variable{S:Nat->Prop}{H:Hp}{nx:Nat}{iv iv':Iv}{B:Nat}{w w' w2:World}{O:Nat->Sx.dL}{css:List (List Value)}{qs:List Rat}
theorem Fc.rel(h:Fc w (Cv S B iv) css qs)(r:Rel H nx iv B w O w')(hS:∀g,S g->g<B):Fc w' (Cv S B iv) css qs:=h.cC fun _ hg=>Rel.same r hS hg
theorem Fc.cD(h:Fc w (Cv S B iv) css qs)(r:Rel H nx iv B w O w')(hS:∀g,S g->g<B)(he:Ext w' w2)(hm:∀p,p∈iv->p∈iv'):Fc w2 (Cv S B iv') css qs:=
 ((h.rel r hS).cC fun g hg=>he.block g (Rel.old r hS g hg)).cF fun _ hg=>hg.mono hm
theorem Fc.push(h:Fc w S css qs)(hc:jA w S cs q):Fc w S (css++[cs]) (qs++[q]):=by
 refine⟨by simp[h.1],fun j x p h1 h2=>?_⟩;rcases aP j css.length with hi|hi
 ·rw[aJ hi]at h1;rw[aJ (by rw[<-h.1];exact hi)]at h2;exact h.2 j x p h1 h2
 ·have RX:j=css.length:=by have:=(aD.1 h1).1;simp at this;omega
  subst RX;rw[aN (Nat.le_refl _),bB]at h1;rw[h.1,aN (Nat.le_refl _),bB]at h2;simp at h1 h2;subst h1 h2;exact hc
end
section
variable{S S':Nat->Prop}{H:Hp}{nx:Nat}{iv iv':Iv}{B:Nat}{w w' w2:World}{O:Nat->Sx.dL}{v:Value}{b:List (Int×Int)}
end
def jf(qs:List Rat):List (Int×Int):=qs.map fun q=>(q.num,(q.den:Int))
theorem Bj(qs:List Rat):(jf qs).length=qs.length:=aL ..
theorem FE(qs:List Rat):(jf qs).map qQ=qs:=by
 unfold jf;rw[List.map_map];exact(List.map_congr_left fun q _=>sf q).trans (List.map_id qs)
theorem DE(K:List (List Rat)):kY (K.map jf)=K:=by
 unfold kY;rw[List.map_map];exact(List.map_congr_left fun q _=>FE q).trans (List.map_id K)
theorem cS.jf(h:cS w S v qs):fO w S v (jf qs):=by
 obtain⟨css,h1,h2,h3,h4⟩:=h;refine⟨css,by unfold Go.Ex.jf;rw[aL];exact h1,by unfold Go.Ex.jf;rw[aL];exact h2,h3,fun j cs x k1 k2=>?_⟩;unfold Go.Ex.jf at k2;rw[aM]at k2;obtain⟨q,hq,rfl⟩:=Option.map_eq_some_iff.1 k2;obtain⟨b,a,n,c,b2,a2,n2,c2,rfl,hr⟩:=h4 j cs q k1 hq;exact hr.four
theorem cT.jf(h:cT w S v K):ee w S v (K.map jf):=by
 obtain⟨rv,h1,h2,h3⟩:=h;refine⟨rv,by rw[aL];exact h1,by rw[aL];exact h2,fun i u x k1 k2=>?_⟩;rw[aM]at k2;obtain⟨q,hq,rfl⟩:=Option.map_eq_some_iff.1 k2;exact(h3 i u q k1 hq).jf
theorem Bk(h:∀q∈qs,rl q<=10000000000):Few (jf qs):=fun x hx=>by
 obtain⟨q,hq,rfl⟩:=aR.1 hx;exact⟨aW (fu q) (h q hq),aW (fJ q) (h q hq)⟩
section
variable{S:Nat->Prop}{w:World}{v u:Value}{M:List (List (Int×Int))}{b:List (Int×Int)}
end
theorem eJ.zero:eJ w S (.agg #[.bool false,.slice none 0 0,.bool false,.slice none 0 0]) 0:=
 ⟨_,_,_,_,0,0,rfl,⟨false,[],⟨_,rfl,cz.nil _ _⟩,rfl,aS _⟩,⟨false,[],⟨_,rfl,cz.nil _ _⟩,rfl,aS _⟩,by decide⟩
section
variable{S:Nat->Prop}{w:World}{v u:Value}{M:List (List (Int×Int))}{x:List Rat}
end
theorem qJ(q:Rat):rs (q-0)=rs q:=by rw[show q-0=q by grind]
theorem kL(n:Int)(w:World)(h1n: -9223372036854775808<=n)(h2n:n<=9223372036854775807):dx PG N.rP #[.int .i64 n] w (eH w fun v' w2=>cN w2 (Nf w w2) v' (n:Rat)):=by
 have hw:=bR w;refine vJ (by simp) ?_;refine cB (cE hw (fun _ w' v w2=>cN w2 (Nf w' w2) v ((n:Rat))) (fun O w' r=>GJ n w' h1n h2n) ?_);rintro O _ _ _ OZ r he hw h_ hn;have hd:=hn.dD (S:=FF) r.bz (mN h_);obtain⟨A0,A1,A2,A3,A4,A5,A6,A7,rfl⟩:=hd.shape;exact rtn hw fun ρe we re=>hd.out re (bw w)
theorem mR(hS:Old S w)(hq:eJ w S v q):dx PG N.tV #[v] w (eH w fun v' _=>∃d,v'= .bool d∧(d=true↔q=0)):=by
 have hw:=bR w;obtain⟨f0,f1,f2,f3,f4,f5,f6,f7,rfl⟩:=hq.shape;refine xA (by simp) ?_;refine cB (cE hw (fun _ w' v w2=>v= .int .i64 (rs q)) (fun O w' r=>(GK (oS hS r) (hq.v.cC (kS hw r hS)) (eJ.zero (S:=S)).v).mono fun _ _ ⟨v2,e1,e2,e3⟩=>⟨v2,e1,e2,by rw[e3,qJ]⟩) ?_);rintro O _ _ _ OZ r he hw h_ rfl;intro ρe we re;refine⟨_,rfl,hw.tr re.cL,_,rfl,?_⟩;rw[beq_iff_eq];exact oN
theorem GL(hS:Old S w)(hp:eJ w S v p)(hq:eJ w S u q)(h0:q≠0):dx PG N.wQ #[v,u] w (eH w fun v' w2=>cN w2 (Nf w w2) v' (p / q)):=by
 have hw:=bR w;obtain⟨f0,f1,f2,f3,f4,f5,f6,f7,rfl⟩:=hp.shape;obtain⟨g0,g1,g2,g3,g4,g5,g6,g7,rfl⟩:=hq.shape;refine z3 (by simp) ?_;refine cB (cE hw (fun _ w' v w2=>∃r,v= .tuple #[r,.int .i64 0]∧cN w2 (Nf w' w2) r (p / q)) (fun O w' r=>(Nh (oS hS r) (hp.v.cC (kS hw r hS)) (hq.v.cC (kS hw r hS))).mono fun _ _ ⟨v2,e1,e2,e3⟩=>⟨v2,e1,e2,e3.elim (fun h=>absurd h.1 h0) fun h=>h.2⟩) ?_);rintro O _ _ _ OZ r he hw h_ ⟨q1,rfl,k1⟩;have hd:=k1.dD (S:=FF) r.bz (mN h_);obtain⟨s1_0a,s1_0b,s1_0c,s1_0d,s1_0e,s1_0f,s1_0g,s1_0h,rfl⟩:=hd.shape;exact rtn hw fun ρe we re=>hd.out re (bw w)
theorem vU(hS:Old S w)(hq:eJ w S v q):dx PG N.wV #[v] w (eH w fun v' w2=>cN w2 (Nf w w2) v' (-q)):=by
 have hw:=bR w;obtain⟨f0,f1,f2,f3,f4,f5,f6,f7,rfl⟩:=hq.shape;refine z8 (by simp) ?_;refine cB (cE hw (fun _ w' v w2=>cN w2 (Nf w' w2) v (-q)) (fun O w' r=>(Ki (oS hS r) (eJ.zero (S:=S)).v (hq.v.cC (kS hw r hS))).mono fun _ _ ⟨v2,e1,e2,e3⟩=>⟨v2,e1,e2,by rwa [show (0:Rat)-q= -q by grind]at e3⟩) ?_);rintro O _ _ _ OZ r he hw h_ hn;have hd:=hn.dD (S:=FF) r.bz (mN h_);obtain⟨A0,A1,A2,A3,A4,A5,A6,A7,rfl⟩:=hd.shape;exact rtn hw fun ρe we re=>hd.out re (bw w)
theorem Kj(hS:Old S w)(hx:dM w S v xs)(hy:dM w S u ys)(hl:xs.length<=ys.length)(hqx:∀q∈xs,rl q+1<=h)(hqy:∀q∈ys,rl q+1<=h)(h2:2<=h)(hb:2*h*xs.length<=90000):
  dx PG N.wP #[v,u] w (eH w fun v' w2=>cN w2 (Nf w w2) v' (fL xs ys xs.length)):=by
 have hw:=bR w;obtain⟨ax,cx,rfl,Tz,UA⟩:=eD.shape hx;obtain⟨ay,cy,rfl,hcy,-⟩:=eD.shape hy;unfold maxLen at UA;refine zZ (by simp) ?_;refine cB (cE hw (fun _ w' v w2=>cN w2 (Nf w' w2) v (((0:Int):Rat))) (fun O w' r=>kL 0 w' (by decide) (by decide)) ?_);rintro O _ _ _ OZ r he hw h_ hn;have hd:=hn.dD (S:=FF) r.bz (mN h_);obtain⟨A0,A1,A2,A3,A4,A5,A6,A7,rfl⟩:=hd.shape;rw[show ((0:Int):Rat)=fL xs ys 0 from rfl]at hd
 refine⟨Nat×(Bool×Bool)×(Option Addr×Option Addr)×(Nat×Nat×Nat×Nat)×World×Iv,fun z=>⟨[(1,sV ay ys.length cy),(4,pP 0 0),(5,pP 1 0),(9,sV ax xs.length cx),(10,iZ xs.length),(11,iN z.1)],[(1,.box T.Rat [.v (.bool z.2.1.1),.v (.slice z.2.2.1.1 z.2.2.2.1.1 z.2.2.2.1.2.1),.v (.bool z.2.1.2),.v (.slice z.2.2.1.2 z.2.2.2.1.2.2.1 z.2.2.2.1.2.2.2)]),(0,.box T.Rat [.v (.bool false),.v (.slice none 0 0),.v (.bool false),.v (.slice none 0 0)])],2,z.2.2.2.2.2,z.2.2.2.2.1⟩,fun z=>xs.length-z.1,
  fun z=>z.1<=xs.length∧dT w.heap.size w z.2.2.2.2.1∧cN z.2.2.2.2.1 (Cf w z.2.2.2.2.2) (.agg #[.bool z.2.1.1,.slice z.2.2.1.1 z.2.2.2.1.1 z.2.2.2.1.2.1,.bool z.2.1.2,.slice z.2.2.1.2 z.2.2.2.1.2.2.1 z.2.2.2.1.2.2.2]) (fL xs ys z.1),?_,?_⟩
 ·intro O w' r;exact⟨(0,(A0,A4),(A1,A5),(A2,A3,A6,A7),w',OZ),⟨by simp,hw.tr r.cL,hd.rel r (bw w)⟩,Sub.gn [] r⟩
 rintro⟨i,⟨p0,p4⟩,⟨p1,p5⟩,⟨p2,p3,p6,p7⟩,w1,iv⟩ ⟨hi,hw,hd⟩;dsimp only at hi hw hd ⊢;refine dB.mk ?_ ?_<;>intro OQ
 ·have OQ:i<xs.length:=by simpa using OQ
  have hs:=zj hqx hqy h2 i;have Q6:2*h*i<=2*h*xs.length:=bP _ hi;have hs3:2*h*1<=2*h*xs.length:=bP _ (by omega);obtain⟨x,Pz⟩:∃x,xs[i]? =some x:=⟨_,aB OQ⟩
  obtain⟨y,VQ⟩:∃x,ys[i]? =some x:=⟨_,aB (by omega)⟩
  have hx3:=hqx x (aE Pz);have hy3:=hqy y (aE VQ);have RZ:xs.getD i 0=x:=by rw[List.getD,Pz];rfl
  have hy2:ys.getD i 0=y:=by rw[List.getD,VQ];rfl
  have hm:=hJ x y;obtain⟨adx,csx,Pu,Qg,-,Pt⟩:=eD.load hx Pz;obtain⟨ady,csy,UQ,RP,-,Q3⟩:=eD.load hy VQ;obtain⟨f0,f1,f2,f3,f4,f5,f6,f7,rfl,Qg⟩:=Qg;obtain⟨q0,q1,q2,q3,q4,q5,q6,q7,rfl,RP⟩:=RP;refine⟨adx,Pu,by omega,[.bool f0,.slice f1 f2 f3,.bool f4,.slice f5 f6 f7],rfl,rdO Pt hw hS,?_⟩;refine cB (cE hw (fun _ w' v w2=>∃d,v= .bool d∧(d=true↔x=0)) (fun O w' r=>mR (oS hS r) (Qg.cC (kS hw r hS))) ?_);rintro O _ _ _ OU r he hw h_ ⟨d1,rfl,Ol⟩;replace hd:=hd.cD r (bw w) he (mC h_)
  cases d1
  ·refine⟨ady,UQ,by omega,[.bool q0,.slice q1 q2 q3,.bool q4,.slice q5 q6 q7],rfl,rdO Q3 hw hS,?_⟩;refine cB (cE hw (fun _ w' v w2=>∃d,v= .bool d∧(d=true↔y=0)) (fun O w' r=>mR (oS hS r) (RP.cC (kS hw r hS))) ?_);rintro O _ _ _ Oi r he hw h_ ⟨d2,rfl,Pf⟩;replace hd:=hd.cD r (bw w) he (mC h_)
   cases d2
   ·refine cH hτ dN [.x 0,.x 1,.x 2,.x 3,.x 4,.x 5,.x 6,.x 7,.x 8] (by kernel_rfl) (by kernel_rfl) ?_;refine⟨ady,UQ,by omega,[.bool q0,.slice q1 q2 q3,.bool q4,.slice q5 q6 q7],rfl,rdO Q3 hw hS,?_⟩;refine cE hw (fun _ w' v w2=>cN w2 (Nf w' w2) v (x*y)) (fun O w' r=>zl (oS hS r) (Qg.v.cC (kS hw r hS)) (RP.v.cC (kS hw r hS))) ?_;rintro O _ _ _ Ow r he hw h_ hn;replace hd:=hd.cD r (bw w) he (mC h_);have hp:=hn.dD (S:=FF) r.bz (mN h_);obtain⟨C0,C1,C2,C3,C4,C5,C6,C7,rfl⟩:=hp.shape;refine cE hw (fun _ w' v w2=>cN w2 (Nf w' w2) v (fL xs ys i+x*y)) (fun O w' r=>Cn (Rel.old r (bw w)) ((hd.rel r (bw w)).v (by omega)) ((hp.rel r (bw w)).v (by omega))) ?_;rintro O _ _ _ QO r he hw h_ hn;have PM:=hn.dD (S:=FF) r.bz (mN h_);obtain⟨E0,E1,E2,E3,E4,E5,E6,E7,rfl⟩:=PM.shape;rw[show fL xs ys i+x*y=fL xs ys (i+1) by rw[fL,RZ,hy2]]at PM;refine⟨((i+1:Nat):Int),wo,?_⟩;intro ρ3 w3 r3;exact⟨(i+1,(E0,E4),(E1,E5),(E2,E3,E6,E7),w3,_),⟨OQ,hw.tr r3.cL,PM.rel r3 (bw w)⟩,Sub.gn [] r3,by dsimp only;omega⟩
   ·have Pg:y=0:=Pf.1 rfl;rw[show fL xs ys i=fL xs ys (i+1) by rw[fL,RZ,hy2,Pg,az,bD]]at hd;refine⟨((i+1:Nat):Int),wo,?_⟩;intro ρ3 w3 r3;exact⟨(i+1,(p0,p4),(p1,p5),(p2,p3,p6,p7),w3,_),⟨OQ,hw.tr r3.cL,hd.rel r3 (bw w)⟩,Sub.gn [] r3,by dsimp only;omega⟩
  ·have Rh:x=0:=Ol.1 rfl;rw[show fL xs ys i=fL xs ys (i+1) by rw[fL,RZ,hy2,Rh,bC,bD]]at hd;refine⟨((i+1:Nat):Int),wo,?_⟩;intro ρ3 w3 r3;exact⟨(i+1,(p0,p4),(p1,p5),(p2,p3,p6,p7),w3,_),⟨OQ,hw.tr r3.cL,hd.rel r3 (bw w)⟩,Sub.gn [] r3,by dsimp only;omega⟩
 have OQ:i=xs.length:=aU hi (by simpa using OQ);subst OQ;exact rtn hw fun ρe we re=>hd.out re (bw w)
structure fz(w:World)(S:Nat->Prop)(n i:Nat)(css:List (List Value))(qs:List Rat):Prop where
 len:css.length=n
 four:∀cs∈css,cs.length=4
 one:∀cs∈css,∀u∈cs,u.oneCell'=true
 at_:∀(j:Nat) cs q,j<i->css[j]? =some cs->qs[j]? =some q->jA w S cs q
section
variable{S S':Nat->Prop}{H:Hp}{nx n i:Nat}{iv iv':Iv}{B:Nat}{w w1 w' w2:World}{O:Nat->Sx.dL}{css:List (List Value)}{qs:List Rat}
theorem fz.cC(h:fz w S n i css qs)(hk:∀g,S g->w2.heap[g]? =w.heap[g]?):fz w2 S n i css qs:=⟨h.len,h.four,h.one,fun j cs q hj h1 h2=>(h.at_ j cs q hj h1 h2).cC hk⟩
theorem fz.cF(h:fz w S n i css qs)(hk:∀g,S g->S' g):fz w S' n i css qs:=⟨h.len,h.four,h.one,fun j cs q hj h1 h2=>(h.at_ j cs q hj h1 h2).cF hk⟩
theorem fz.rel(h:fz w (Cv S B iv) n i css qs)(r:Rel H nx iv B w O w')(hS:∀g,S g->g<B):fz w' (Cv S B iv) n i css qs:=h.cC fun _ hg=>Rel.same r hS hg
theorem fz.cD(h:fz w (Cv S B iv) n i css qs)(r:Rel H nx iv B w O w')(hS:∀g,S g->g<B)(he:Ext w' w2)(hm:∀p,p∈iv->p∈iv'):fz w2 (Cv S B iv') n i css qs:=
 ((h.rel r hS).cC fun g hg=>he.block g (Rel.old r hS g hg)).cF fun _ hg=>hg.mono hm
theorem fz.start(w:World)(S:Nat->Prop)(n:Nat)(qs:List Rat):fz w S n 0 (List.replicate n f0) qs:=
 ⟨by simp,fun cs hc=>by rw[b9 hc];rfl,fun cs hc u hu=>by rw[b9 hc]at hu;simp[f0]at hu;rcases hu with rfl|rfl|rfl|rfl<;>rfl,fun j cs q hj=>by omega⟩
theorem fz.next{b b2:Bool}{a2:Option Addr}{m c m2 c2:Nat}(h:fz w S n i css qs)(hi:i<n)(hq:qs[i]? =some q)(hf:cN w S (.agg #[.bool b,.slice a m c,.bool b2,.slice a2 m2 c2]) q):
  fz w S n (i+1) (css.set i [.bool b,.slice a m c,.bool b2,.slice a2 m2 c2]) qs:=by
 refine⟨by simp[h.len],fun cs hc=>?_,fun cs hc u hu=>?_,fun j cs p hj h1 h2=>?_⟩
 ·rcases a9 hc with hc|rfl
  ·exact h.four cs hc
  ·rfl
 ·rcases a9 hc with hc|rfl
  ·exact h.one cs hc u hu
  ·simp at hu;rcases hu with rfl|rfl|rfl|rfl<;>rfl
 ·by_cases PE:i=j
  ·subst PE;rw[aO (by rw[h.len];exact hi)]at h1;rw[hq]at h2;injection h1 with h1;injection h2 with h2;subst h1 h2;exact hf.uK
  ·rw[aT PE]at h1;exact h.at_ j cs p (by omega) h1 h2
theorem fz.flat(h:fz w S n i css qs):css.flatten.length=n*4:=by rw[eo h.four,h.len]
theorem fz.done{w0:World}(h:fz w1 (Cf w0 iv) n n css qs)(hl:qs.length=n)(hn:n<=maxLen)(r:Rel H nx iv w0.heap.size w1 O w'){id:Nat}(hH:cV H id=some (.arr T.Rat css.flatten))(Oe:(O id).nil=false):
  eE w' FF w0.heap.size [(w0.heap.size,w'.heap.size)] (.slice (some ⟨(O id).g,0,none⟩) n n) n qs:=by
 have h2:=h.rel r (bw w0);have Od:=r.low id _ hH Oe;refine⟨⟨css,⟨h.flat,.inr ⟨(O id).g,n,css.flatten.toArray,rfl,aS _,r.arr id _ _ hH,Nat.le_refl _,hn,by simpa using h.flat,?_⟩⟩,h.len,?_⟩,fun g hg=>?_⟩
 ·rw[<-h.flat];exact bH
 ·refine⟨by rw[h.len,hl],fun j cs q h3 h4=>?_⟩;refine(h2.at_ j cs q (by rw[<-hl];exact(aD.1 h4).1) h3 h4).cF fun g hg=>⟨?_,fun e=>?_⟩
  ·rcases hg with hg|⟨k1,lo,hi,k2,k3,k4⟩
   ·exact hg.elim
   ·exact .inr ⟨k1,_,_,bF.2 rfl,k1,by have:=r.qW lo hi k2;have:=r.size;omega⟩
  ·injection e with e;exact Rel.not r (bw w0) hg id _ hH Oe e
 ·injection hg with hg;subst hg;exact .inr ⟨Od.1,_,_,bF.2 rfl,Od.1,Od.2⟩
theorem gB.c(h:gB w S S v qs):cS w S v qs:=by
 obtain⟨css,h1,h2⟩:=h;exact⟨css,h1,h2.1,h2.nH,h2.2⟩
theorem eE.c(h:eE w S B iv v n qs):cS w (Cv S B iv) v qs:=h.read.c
theorem cS.rc(h:cS w S v qs):gB w S S v qs:=by
 obtain⟨css,h1,h2,h3,h4⟩:=h;exact⟨css,h1,h2,h4⟩
theorem gB.rel(h:gB w (Cv C B iv) (Cv S B iv) v qs)(r:Rel H nx iv B w O w')(hC:∀g,C g->g<B)(hS:∀g,S g->g<B):gB w' (Cv C B iv) (Cv S B iv) v qs:=
 h.cC fun _ hg=>hg.elim (Rel.same r hC) (Rel.same r hS)
theorem gB.cD(h:gB w (Cv C B iv) (Cv S B iv) v qs)(r:Rel H nx iv B w O w')(hC:∀g,C g->g<B)(hS:∀g,S g->g<B)(he:Ext w' w2)(hm:∀p,p∈iv->p∈iv'):gB w2 (Cv C B iv') (Cv S B iv') v qs:=
 ((h.rel r hC hS).cC fun g hg=>he.block g (hg.elim (Rel.old r hC g) (Rel.old r hS g))).cF (fun _ hg=>hg.mono hm) (fun _ hg=>hg.mono hm)
theorem gB.arg(h:gB w C S v qs)(iv:Iv):gB w (Cv C w.heap.size iv) (Cv S w.heap.size iv) v qs:=h.cF (fun _ h=>.inl h) (fun _ h=>.inl h)
theorem gB.shape(h:gB w C S v qs):∃a c,v= .slice a qs.length c∧qs.length<=c∧qs.length<=maxLen:=by
 obtain⟨css,⟨h0,_,_,a,c,h1,h2,_⟩,_⟩:=h;exact⟨a,c,h1,h2,h0⟩
theorem gB.load{n c j:Nat}(h:gB w C S (.slice a n c) qs)(hq:qs[j]? =some q):
  ∃ad cs,a=some ad∧jA w S cs q∧∀k u,cs[k]? =some u->C ad.block∧w.cell? ((ad.add (j*4)).add k)=some u:=by
 obtain⟨css,⟨h0,h1,h2,a',c',e,h3,h4⟩,hf⟩:=h;injection e with e1 e2 e3;subst e1;obtain⟨cs,Ok⟩:∃cs,css[j]? =some cs:=⟨_,aB (by rw[hf.1];exact(aD.1 hq).1)⟩
 have hF:=hf.2 j cs q Ok hq;have hl:=hF.len;obtain⟨ad,k1,k2,k3⟩:=h4 (j*4+0) _ (flat_get hf.nH Ok 0 _ (aB (show 0<cs.length by omega)));refine⟨ad,cs,k1,hF,fun k u hu=>?_⟩;obtain⟨ad2,m1,m2,m3⟩:=h4 (j*4+k) u (flat_get hf.nH Ok k u hu);rw[k1]at m1;injection m1 with m1;subst m1;refine⟨m2,?_⟩;rw[<-m3];have:(ad.add (j*4)).add k=ad.add (j*4+k):=by
  unfold Addr.add;split<;>split<;>simp_all<;>omega
 rw[this]
theorem Ed{j:Nat}{c:Nat}(h:w.ownsRow 0 T.Rat 4 (.slice a n c) n css.flatten)(hf:Fc w S css qs)(hj:css[j]? =some cs):
  ∃g,a=some ⟨g,0,none⟩∧∀k u,cs[k]? =some u->w.cell? ((Addr.add ⟨g,0,none⟩ (j*4)).add k)=some u:=by
 rcases h.2 with⟨h1,h0⟩|⟨g,cap,cur,RH,_⟩
 ·have:=h.1;rw[eo hf.nH]at this;have:=(aD.1 hj).1;omega
 ·injection RH with h1 h2 h3;subst h1;refine⟨g,rfl,fun k u hu=>?_⟩;have:=h.cells (g:=g) rfl (j*4+k) u (flat_get hf.nH hj k u hu);rw[dA,dA];rw[dA]at this;rw[Nat.add_assoc];exact this
end
theorem zm(n:Nat)(w:World)(hn:n<=1000000):dx PG N.rR #[.int .i64 n] w (eH w fun v' w2=>eE w2 FF w.heap.size [(w.heap.size,w2.heap.size)] v' n (List.replicate n 0)):=by
 have hw:=bR w;refine vM (by simp) ?_
 refine⟨n,n,rfl,rfl,Nat.le_refl _,by omega,by omega,Nat×List (List Value)×Iv×World,fun z=>⟨[(3,.o (.s 0 0 n n)),(8,iZ n),(9,iN z.1)],[(0,.arr T.Rat z.2.1.flatten)],1,z.2.2.1,z.2.2.2⟩,fun z=>n-z.1,
  fun z=>z.1<=n∧dT w.heap.size w z.2.2.2∧fz z.2.2.2 (Cf w z.2.2.1) (n) z.1 z.2.1 (List.replicate n 0),?_,?_⟩
 ·intro O w' r;exact⟨(0,List.replicate (n) f0,_,w'),⟨by simp,hw.tr r.cL,fz.start _ _ _ _⟩,Sub.gn [] r⟩
 rintro⟨i,css,iv,w1⟩ ⟨hi,hw,hF⟩;dsimp only at hi hw hF ⊢;refine dB.mk ?_ ?_<;>intro h
 ·have h:i<n:=by simpa using h
  refine cB (cE hw (fun _ w' v w2=>cN w2 (Nf w' w2) v (((0:Int):Rat))) (fun O w' r=>kL 0 w' (by decide) (by decide)) ?_);rintro O _ _ _ OZ r he hw h_ hn;replace hF:=hF.cD r (bw w) he (mC h_);have hd:=hn.dD (S:=FF) r.bz (mN h_);obtain⟨A0,A1,A2,A3,A4,A5,A6,A7,rfl⟩:=hd.shape;have Oh:=hF.next h (q:=_) (by simp[h]) hd
  refine⟨by omega,by have:=hF.flat;omega,(css.set i [.bool A0,.slice A1 A2 A3,.bool A4,.slice A5 A6 A7]).flatten,?_,?_⟩
  ·have:=jI (cs:=[.bool A0,.slice A1 A2 A3,.bool A4,.slice A5 A6 A7]) hF.four (show i<css.length by rw[hF.len];exact h);rw[<-this];simp
  refine⟨((i+1:Nat):Int),wo,?_⟩;intro ρ3 w3 r3;exact⟨(i+1,css.set i [.bool A0,.slice A1 A2 A3,.bool A4,.slice A5 A6 A7],_,w3),⟨h,hw.tr r3.cL,Oh.rel r3 (bw w)⟩,Sub.gn [] r3,by dsimp only;omega⟩
 have h:i=n:=aU hi (by simpa using h);subst h;exact rtn hw fun ρe we re=>hF.done (by simp) (by unfold maxLen;omega) re (id:=0) rfl (re.nn 0 _ rfl (by intros;simp) (by simp))
theorem Ig{b:Rat}(hS:Old S w)(hx:dM w S v xs)(hb:eJ w S u b)(hn:xs.length<=1000000):
  dx PG N.p9 #[v,u] w (eH w fun v' w2=>eE w2 FF w.heap.size [(w.heap.size,w2.heap.size)] v' xs.length (df xs b)):=by
 have hw:=bR w;obtain⟨ax,cx,rfl,Tz,UA⟩:=eD.shape hx;obtain⟨g0,g1,g2,g3,g4,g5,g6,g7,rfl⟩:=hb.shape;have Oq:rl b<=100000:=hb.rl;refine tz (by simp) ?_
 refine⟨xs.length,xs.length,rfl,rfl,Nat.le_refl _,by omega,by omega,Nat×List (List Value)×Iv×World,fun z=>⟨[(3,pP 0 0),(5,.o (.s 1 0 xs.length xs.length)),(11,sV ax xs.length cx),(12,iZ xs.length),(13,iN z.1)],[(0,.box T.Rat [.v (.bool g0),.v (.slice g1 g2 g3),.v (.bool g4),.v (.slice g5 g6 g7)]),(1,.arr T.Rat z.2.1.flatten)],2,z.2.2.1,z.2.2.2⟩,fun z=>xs.length-z.1,
  fun z=>z.1<=xs.length∧dT w.heap.size w z.2.2.2∧fz z.2.2.2 (Cf w z.2.2.1) (xs.length) z.1 z.2.1 (df xs b),?_,?_⟩
 ·intro O w' r;exact⟨(0,List.replicate (xs.length) f0,_,w'),⟨by simp,hw.tr r.cL,fz.start _ _ _ _⟩,Sub.gn [] r⟩
 rintro⟨i,css,iv,w1⟩ ⟨hi,hw,hF⟩;dsimp only at hi hw hF ⊢;refine dB.mk ?_ ?_<;>intro h
 ·have h:i<xs.length:=by simpa using h
  obtain⟨x,Pz⟩:∃x,xs[i]? =some x:=⟨_,aB h⟩
  obtain⟨adx,csx,Pu,Qg,-,Pt⟩:=eD.load hx Pz;obtain⟨f0,f1,f2,f3,f4,f5,f6,f7,rfl,Qg⟩:=Qg;refine⟨adx,Pu,by omega,[.bool f0,.slice f1 f2 f3,.bool f4,.slice f5 f6 f7],rfl,rdO Pt hw hS,?_⟩;refine cB (cE hw (fun _ w' v w2=>cN w2 (Nf w' w2) v (x*b)) (fun O w' r=>zl (oS hS r) (Qg.v.cC (kS hw r hS)) (hb.v.cC (kS hw r hS))) ?_);rintro O _ _ _ OZ r he hw h_ hn;replace hF:=hF.cD r (bw w) he (mC h_);have hd:=hn.dD (S:=FF) r.bz (mN h_);obtain⟨A0,A1,A2,A3,A4,A5,A6,A7,rfl⟩:=hd.shape;have Oh:=hF.next h (q:=_) (by rw[df,aM,Pz];rfl) hd
  refine⟨by omega,by have:=hF.flat;omega,(css.set i [.bool A0,.slice A1 A2 A3,.bool A4,.slice A5 A6 A7]).flatten,?_,?_⟩
  ·have:=jI (cs:=[.bool A0,.slice A1 A2 A3,.bool A4,.slice A5 A6 A7]) hF.four (show i<css.length by rw[hF.len];exact h);rw[<-this];simp
  refine⟨((i+1:Nat):Int),wo,?_⟩;intro ρ3 w3 r3;exact⟨(i+1,css.set i [.bool A0,.slice A1 A2 A3,.bool A4,.slice A5 A6 A7],_,w3),⟨h,hw.tr r3.cL,Oh.rel r3 (bw w)⟩,Sub.gn [] r3,by dsimp only;omega⟩
 have h:i=xs.length:=aU hi (by simpa using h);subst h;exact rtn hw fun ρe we re=>hF.done (by simp[df]) (by unfold maxLen;omega) re (id:=1) rfl (re.nn 1 _ rfl (by intros;simp) (by simp))
theorem MP(hS:Old S w)(hx:dM w S v xs)(hy:dM w S u ys)(hl:xs.length<=ys.length)(hn:xs.length<=1000000):
  dx PG N.tc #[v,u] w (eH w fun v' w2=>eE w2 FF w.heap.size [(w.heap.size,w2.heap.size)] v' xs.length (lz xs ys)):=by
 have hw:=bR w;obtain⟨ax,cx,rfl,Tz,UA⟩:=eD.shape hx;obtain⟨ay,cy,rfl,hcy,hmy⟩:=eD.shape hy;refine xG (by simp) ?_
 refine⟨xs.length,xs.length,rfl,rfl,Nat.le_refl _,by omega,by omega,Nat×List (List Value)×Iv×World,fun z=>⟨[(0,sV ax xs.length cx),(1,sV ay ys.length cy),(5,.o (.s 0 0 xs.length xs.length)),(11,iZ xs.length),(12,iN z.1)],[(0,.arr T.Rat z.2.1.flatten)],1,z.2.2.1,z.2.2.2⟩,fun z=>xs.length-z.1,
  fun z=>z.1<=xs.length∧dT w.heap.size w z.2.2.2∧fz z.2.2.2 (Cf w z.2.2.1) (xs.length) z.1 z.2.1 (lz xs ys),?_,?_⟩
 ·intro O w' r;exact⟨(0,List.replicate (xs.length) f0,_,w'),⟨by simp,hw.tr r.cL,fz.start _ _ _ _⟩,Sub.gn [] r⟩
 rintro⟨i,css,iv,w1⟩ ⟨hi,hw,hF⟩;dsimp only at hi hw hF ⊢;refine dB.mk ?_ ?_<;>intro h
 ·have h:i<xs.length:=by simpa using h
  obtain⟨x,Pz⟩:∃x,xs[i]? =some x:=⟨_,aB h⟩
  obtain⟨y,VQ⟩:∃x,ys[i]? =some x:=⟨_,aB (by omega)⟩
  obtain⟨adx,csx,Pu,Qg,-,Pt⟩:=eD.load hx Pz;obtain⟨f0,f1,f2,f3,f4,f5,f6,f7,rfl,Qg⟩:=Qg;obtain⟨ady,csy,UQ,RP,-,Q3⟩:=eD.load hy VQ;obtain⟨q0,q1,q2,q3,q4,q5,q6,q7,rfl,RP⟩:=RP;refine cH hτ dN [.x 0,.x 1,.x 2,.x 3,.x 4,.x 5,.x 6,.x 7,.x 8,.x 9,.x 10,.x 11,.x 12] (by kernel_rfl) (by kernel_rfl) ?_;refine⟨adx,Pu,by omega,[.bool f0,.slice f1 f2 f3,.bool f4,.slice f5 f6 f7],rfl,rdO Pt hw hS,ady,UQ,by omega,[.bool q0,.slice q1 q2 q3,.bool q4,.slice q5 q6 q7],rfl,rdO Q3 hw hS,?_⟩;refine cE hw (fun _ w' v w2=>cN w2 (Nf w' w2) v (x*y)) (fun O w' r=>zl (oS hS r) (Qg.v.cC (kS hw r hS)) (RP.v.cC (kS hw r hS))) ?_;rintro O _ _ _ OZ r he hw h_ hn;replace hF:=hF.cD r (bw w) he (mC h_);have hd:=hn.dD (S:=FF) r.bz (mN h_);obtain⟨A0,A1,A2,A3,A4,A5,A6,A7,rfl⟩:=hd.shape;have Oh:=hF.next h (q:=_) (by rw[lz,List.getElem?_mapIdx,Pz,List.getD,VQ];rfl) hd
  refine⟨by omega,by have:=hF.flat;omega,(css.set i [.bool A0,.slice A1 A2 A3,.bool A4,.slice A5 A6 A7]).flatten,?_,?_⟩
  ·have:=jI (cs:=[.bool A0,.slice A1 A2 A3,.bool A4,.slice A5 A6 A7]) hF.four (show i<css.length by rw[hF.len];exact h);rw[<-this];simp
  refine⟨((i+1:Nat):Int),wo,?_⟩;intro ρ3 w3 r3;exact⟨(i+1,css.set i [.bool A0,.slice A1 A2 A3,.bool A4,.slice A5 A6 A7],_,w3),⟨h,hw.tr r3.cL,Oh.rel r3 (bw w)⟩,Sub.gn [] r3,by dsimp only;omega⟩
 have h:i=xs.length:=aU hi (by simpa using h);subst h;exact rtn hw fun ρe we re=>hF.done (by simp[lz]) (by unfold maxLen;omega) re (id:=0) rfl (re.nn 0 _ rfl (by intros;simp) (by simp))
theorem MQ{vby vs:Value}{n:Nat}{ps:List Rat}(hC:Old C w)(hS:Old S w)(hrw:gK w S v n qs)(Oq:eJ w S vby p)
  (hs:gB w C S vs ps) (Ph:ps.length=n) (hdis:∀g,v.ownBlock=some g->¬S g) (Th:∀g,v.ownBlock=some g->¬C g) (hq:∀q∈qs,rl q+1<=h) (hps:∀q∈ps,rl q+1<=h) (hb:rl p+1<=h) (hh:3*h<=90000):
  dx PG N.oD #[v,vs,vby] w (fun e w2=>e= .returned (.tuple #[])∧w.grownBy w2 v.ownBlock∧gK w2 (Nw S w w2) v n (lu qs ps p)):=by
 obtain⟨css,OR,PY,Pa⟩:=hrw;have Od:∀g,v.ownBlock=some g->g<w.heap.size:=fun g hg=>(ownsRow.low OR g hg).2;have PJ:∀iv g,v.ownBlock=some g->Out w.heap.size iv g:=fun iv g hg=>.inl (Od g hg);have Uk:∀iv g,v.ownBlock=some g->¬Cv S w.heap.size iv g:=fun iv g hg h=>by
  rcases h with h|⟨h,_⟩
  ·exact hdis g hg h
  ·have:=Od g hg;omega
 have Ul:∀iv g,v.ownBlock=some g->¬Cv C w.heap.size iv g:=fun iv g hg h=>by
  rcases h with h|⟨h,_⟩
  ·exact Th g hg h
  ·have:=Od g hg;omega
 have SA:qs.length=n:=by rw[<-Pa.1,PY]
 obtain⟨a,c,rfl,TY⟩:=ig OR;obtain⟨b1,a1,n1,c1,b2,a2,n2,c2,rfl⟩:=Oq.shape;obtain⟨asl,cs0,rfl,Re,UM⟩:=hs.shape;rw[Ph]at Re UM hs ⊢;unfold maxLen at UM;replace Pa:=Pa.cF (S':=Cv S w.heap.size []) fun _ h=>.inl h;replace Oq:=Oq.arg [];replace hs:=hs.arg [];refine xM (by simp) ?_;have Pb:=OR;have hg:w.grownBy w (Value.slice a n c).ownBlock:=⟨rfl,rfl,rfl,Nat.le_refl _,fun _ _ _=>rfl⟩
 have hbyl:rl p<=100000:=Oq.rl
 refine⟨Nat×List (List Value)×Iv×World,fun z=>⟨[(0,sV a n c),(5,pP 0 0),(8,sV asl n cs0),(9,iZ n),(10,iZ z.1)],
   [(0,.box T.Rat [.v (.bool b1),.v (.slice a1 n1 c1),.v (.bool b2),.v (.slice a2 n2 c2)])],1,z.2.2.1,z.2.2.2⟩,fun z=>n-z.1,
  fun z=>z.1<=n∧w.grownBy z.2.2.2 (Value.slice a n c).ownBlock∧z.2.2.2.ownsRow 0 T.Rat 4 (.slice a n c) n z.2.1.flatten∧z.2.1.length=n∧Fc z.2.2.2 (Cv S w.heap.size z.2.2.1) z.2.1 (gb z.1 (rE (-p) ps) qs)∧
   eJ z.2.2.2 (Cv S w.heap.size z.2.2.1) (.agg #[.bool b1,.slice a1 n1 c1,.bool b2,.slice a2 n2 c2]) p∧gB z.2.2.2 (Cv C w.heap.size z.2.2.1) (Cv S w.heap.size z.2.2.1) (.slice asl n cs0) ps,?_,?_⟩
 ·intro O w' r
  refine⟨(0,css,[],w'),⟨by simp,dW hg r.cL,gg Pb (PJ []) r,PY,by rw[oP];exact Pa.rel r hS,Oq.rel r hS,hs.rel r hC hS⟩,
   Sub.gn [] r⟩
 rintro⟨i,css,iv,w1⟩ ⟨hi,hg,OR,PY,Pa,Oq,hs⟩;dsimp only at hi hg OR PY Pa Oq hs ⊢;refine dB.mk ?_ ?_<;>intro h
 ·have h:i<n:=by simpa using h
  obtain⟨cs,Ok⟩:∃cs,css[i]? =some cs:=⟨_,aB (by omega)⟩
  obtain⟨q,Vo⟩:∃q,qs[i]? =some q:=⟨_,aB (by omega)⟩
  obtain⟨f,TC⟩:∃f,ps[i]? =some f:=⟨_,aB (by omega)⟩
  have hF:=Pa.2 i cs q Ok (uL Vo);have TN:rE (-p) ps i q=q-p*f:=by simp only[rE,List.getD,TC,Option.getD_some];grind
  obtain⟨d1,e1,m1,k1,d2,e2,m2,k2,rfl,hF⟩:=hF;have hrlq:=hq q (aE Vo);have hrlf:=hps f (aE TC);obtain⟨ad,fcs,Om,Tj,Ot⟩:=hs.load TC;obtain⟨f1,g1,o1,u1,f2,g2,o2,u2,rfl,Tj⟩:=Tj;refine⟨ad,Om,by omega,[.bool f1,.slice g1 o1 u1,.bool f2,.slice g2 o2 u2],rfl,fun O w' r j x hx=>?_,?_⟩
  ·have Q6:=hs.rel r hC hS;obtain⟨k2',k3⟩:=Ot j x hx;have:=Rel.same r hC k2';rw[aF,cJ (w:=w1) (w2:=w') (by rw[c9,c9];exact this)];exact k3
  refine cB (cI (Φ:=fun _ _ v _=>∃d,v= .bool d∧(d=true↔f=0)) (fun O w' r=>mR (Rel.old r hS) ((Tj.rel r hS).l (by omega))) ?_);rintro O wa v1 wb r he QL ⟨dz,rfl,hz⟩;replace Oq:=Oq.cD (iv':=(wa.heap.size,wb.heap.size)::iv) r hS he fun x hx=>aC _ hx;replace Pa:=Pa.cD (iv':=(wa.heap.size,wb.heap.size)::iv) r hS he fun x hx=>aC _ hx;replace hs:=hs.cD (iv':=(wa.heap.size,wb.heap.size)::iv) r hC hS he fun x hx=>aC _ hx;replace Tj:=Tj.cD (iv':=(wa.heap.size,wb.heap.size)::iv) r hS he fun x hx=>aC _ hx;replace hF:=hF.cD (iv':=(wa.heap.size,wb.heap.size)::iv) r hS he fun x hx=>aC _ hx;replace OR:wb.ownsRow 0 T.Rat 4 (.slice a n c) n css.flatten:=ownsRow.cC (gg OR (PJ iv) r) fun b hb=>he.block b (by have:=Od b hb;have:=r.bz;omega);replace hg:w.grownBy wb _:=dW hg QL;generalize (wa.heap.size,wb.heap.size)::iv=OU at*
  cases dz
  ·refine cH hτ dN [.x 0,.x 1,.x 2,.x 3,.x 4,.x 5,.x 6,.x 7,.x 8,.x 9,.x 10,.x 11] (by kernel_rfl) (by kernel_rfl) ?_;obtain⟨g,rfl,Oo⟩:=Ed OR Pa Ok;refine⟨⟨g,0,none⟩,rfl,by omega,[.bool d1,.slice e1 m1 k1,.bool d2,.slice e2 m2 k2],rfl,fun O w' r j x hx=>?_,?_⟩
   ·have:=Ed (gg OR (PJ OU) r) (Pa.rel r hS) Ok;obtain⟨g',h1,h2⟩:=this;injection h1 with h1;rw[<-h1]at h2;exact h2 j x hx
   have QT:=hJ p f;refine cI (Φ:=fun _ w' v w2=>cN w2 (Nf w' w2) v (p*f)) (fun O w' r=>zl (Rel.old r hS) (Oq.rel r hS).v ((Tj.rel r hS).v (by omega))) ?_;rintro O wa v1 wb r he QL hP;have hPN:=hP.dD (S:=S) r.bz (iv:=(wa.heap.size,wb.heap.size)::OU) aG;replace Oq:=Oq.cD (iv':=(wa.heap.size,wb.heap.size)::OU) r hS he fun x hx=>aC _ hx;replace Pa:=Pa.cD (iv':=(wa.heap.size,wb.heap.size)::OU) r hS he fun x hx=>aC _ hx;replace hs:=hs.cD (iv':=(wa.heap.size,wb.heap.size)::OU) r hC hS he fun x hx=>aC _ hx;replace hF:=hF.cD (iv':=(wa.heap.size,wb.heap.size)::OU) r hS he fun x hx=>aC _ hx;replace OR:wb.ownsRow 0 T.Rat 4 (.slice (some ⟨g,0,none⟩) n c) n css.flatten:=ownsRow.cC (gg OR (PJ OU) r) fun b hb=>he.block b (by have:=Od b hb;have:=r.bz;omega);replace hg:w.grownBy wb _:=dW hg QL;generalize (wa.heap.size,wb.heap.size)::OU=Oi at*
   obtain⟨b5,a5,n5,c5,b6,a6,n6,c6,rfl⟩:=hPN.shape;refine cI (Φ:=fun _ w' v w2=>cN w2 (Nf w' w2) v (q-p*f)) (fun O w' r=>Ki (Rel.old r hS) ((hF.rel r hS).v (by omega)) ((hPN.rel r hS).v (by omega))) ?_;rintro O wc v2 wd r he QL hQ;have WV:=hQ.dD (S:=S) r.bz (iv:=(wc.heap.size,wd.heap.size)::Oi) aG;replace Oq:=Oq.cD (iv':=(wc.heap.size,wd.heap.size)::Oi) r hS he fun x hx=>aC _ hx;replace Pa:=Pa.cD (iv':=(wc.heap.size,wd.heap.size)::Oi) r hS he fun x hx=>aC _ hx;replace hs:=hs.cD (iv':=(wc.heap.size,wd.heap.size)::Oi) r hC hS he fun x hx=>aC _ hx;replace OR:wd.ownsRow 0 T.Rat 4 (.slice (some ⟨g,0,none⟩) n c) n css.flatten:=ownsRow.cC (gg OR (PJ Oi) r) fun b hb=>he.block b (by have:=Od b hb;have:=r.bz;omega);replace hg:w.grownBy wd _:=dW hg QL;generalize (wc.heap.size,wd.heap.size)::Oi=Ow at*
   obtain⟨b7,a7,n7,c7,b8,a8,n8,c8,rfl⟩:=WV.shape;rw[<-TN]at WV;refine⟨⟨g,0,none⟩,rfl,by omega,?_⟩;intro O w' r;have SB:=gg OR (PJ Ow) r;have hF5:=(WV.rel r hS).uK;obtain⟨g',R4,OV,QA,Oc,Oj⟩:=kC (nv:=[.bool b7,.slice a7 n7 c7,.bool b8,.slice a8 n8 c8]) SB rfl h rfl (by decide);injection R4 with R4;injection R4 with R4;subst R4;have Se:=jI (cs:=[.bool b7,.slice a7 n7 c7,.bool b8,.slice a8 n8 c8]) Pa.nH (show i<css.length by omega);rw[Se]at QA;have Pc:∀x,Cv S w.heap.size Ow x->(setCells w' ⟨g,i*4,none⟩ [.bool b7,.slice a7 n7 c7,.bool b8,.slice a8 n8 c8]).heap[x]? =w'.heap[x]? :=fun x hx=>
    Oc.block x (Rel.old r hS x hx) fun e=>Uk Ow g rfl (by injection e with e;rw[<-e];exact hx)
   have PZ:(⟨g,0,none⟩:Addr).add ((i:Int).toNat*4)=⟨g,i*4,none⟩:=by rw[aF,dA,aV]
   have hF6:=((Pa.rel r hS).cC Pc).set (j:=i) (hF5.cC Pc);rw[lP (f:=rE (-p) ps) Vo]at hF6;have Um:=(Oq.rel r hS).cC Pc;have SL:∀x,Cv C w.heap.size Ow x->(setCells w' ⟨g,i*4,none⟩ [.bool b7,.slice a7 n7 c7,.bool b8,.slice a8 n8 c8]).heap[x]? =w'.heap[x]? :=fun x hx=>
    Oc.block x (Rel.old r hC x hx) fun e=>Ul Ow g rfl (by injection e with e;rw[<-e];exact hx)
   have hs6:=(hs.rel r hC hS).cC fun x hx=>hx.elim (SL x) (Pc x);replace hg:w.grownBy (setCells w' ⟨g,i*4,none⟩ [.bool b7,.slice a7 n7 c7,.bool b8,.slice a8 n8 c8]) (some g):=fg (dW hg r.cL) Oc;have Px:=fun id b hb hn=>Rel.not r (fun _ h=>h) (PJ Ow g rfl) id b hb hn;refine⟨by rw[PZ],fun k hk=>by rw[PZ];exact OV k hk,fun id b hb hn=>by rw[PZ];exact Px id b hb hn,fun w2 PO=>?_⟩;have PO:w2=setCells w' ⟨g,i*4,none⟩ [.bool b7,.slice a7 n7 c7,.bool b8,.slice a8 n8 c8]:=by rw[PO];exact congrArg (fun x=>setCells w' x _) PZ
   rw[<-PO]at hF6 Um QA hg Oj hs6;refine⟨((i+1:Nat):Int),wo,?_⟩;intro ρ3 w3 r3
   exact⟨(i+1,css.set i [.bool b7,.slice a7 n7 c7,.bool b8,.slice a8 n8 c8],Ow,w3),⟨h,dW hg r3.cL,gg QA (PJ Ow) r3,by simpa using PY,hF6.rel r3 hS,Um.rel r3 hS,hs6.rel r3 hC hS⟩,
    Sub.gn [] r3,by dsimp only;omega⟩
  ·have hf0:f=0:=hz.1 rfl;have RW:rE (-p) ps i q=q:=by rw[TN,hf0];grind
   refine⟨((i+1:Nat):Int),wo,?_⟩;intro ρ3 w3 r3
   exact⟨(i+1,css,OU,w3),⟨h,dW hg r3.cL,gg OR (PJ OU) r3,PY,by rw[<-zn Vo RW];exact Pa.rel r3 hS,Oq.rel r3 hS,hs.rel r3 hC hS⟩,
    Sub.gn [] r3,by dsimp only;omega⟩
 ·have h:i=n:=by
   have:¬i<n:=by simpa using h
   omega
  subst h;intro ρ5 w5 r5;refine⟨rfl,dW hg r5.cL,css,gg OR (PJ iv) r5,PY,?_⟩;have:=(Pa.rel r5 hS).cF (S':=Nw S w w5) fun g hg=>Cv.nw hg r5
  rwa [<-SA,qq]at this
section
variable{S:Nat->Prop}{w:World}{v u vx vk vp:Value}{z:Int}{M K:List (List (Int×Int))}{b X P:List (Int×Int)}
end
end Go.Ex
namespace Go.Sx
open Go Go.Ex Go.Proofs
variable{cs:List Value}{O:Nat->Sx.dL}
theorem Sub.aAE{B:Nat}{l tl:Env}{nx:Nat}{H tH:Hp}{iv:Iv}{w w':World}{id t n sz:Nat}{e:TypeId}(r:Rel H nx iv B w O w')(Oy:cV H id=some (.vec e sz cs))(hn:(O id).nil=false)(ht:fR l t=some (.o (.w id n)))
  (hs:ug H tH) (ho:CC id tH=true) (h1:D4 l tl) (h2:l6 nx tl):
  Sub B l nx O w' ⟨(t,.o (.v (.slice (some ⟨(O id).g,0,none⟩) n (O id).cap)))::tl,tH,nx,((O id).g,(O id).g+1)::iv,w'⟩:=
 ⟨O,r.free Oy (by simp) hn hs ho,fun u v hv=>uI hn ht h1 h2 u v hv⟩
end Go.Sx
namespace Go.Ex
open Go Go.Sx Go.Proofs
end Go.Ex
namespace Go.Ex
open Go Go.Sx Go.Proofs
variable{css:List (List Value)}{qs ri:List Rat}{rv:List Value}{g:Nat}{a:Option Addr}{row:Option Nat}{q:Rat}{v:Value}
def Ob(rv:List Value)(g:Nat):Prop:=∃v∈rv,v.ownBlock=some g
def Lr(S:Nat->Prop)(B:Nat)(iv:Iv)(rv:List Value)(g:Nat):Prop:=Cv S B iv g∧¬Ob rv g
structure lQ(w:World)(S:Nat->Prop)(B:Nat)(iv:Iv)(rv:List Value)(n:Nat)(M:List (List Rat)):Prop where
 len:rv.length=M.length
 row:∀(i:Nat) v qs,rv[i]? =some v->M[i]? =some qs->gK w (Lr S B iv rv) v n qs
 rW:∀(i j:Nat) a b g,rv[i]? =some a->rv[j]? =some b->a.ownBlock=some g->b.ownBlock=some g->i=j
 new:∀g,Ob rv g->Cv FF B iv g
theorem Ob.append:Ob (rv++[v]) g↔Ob rv g∨v.ownBlock=some g:=by
 unfold Ob;simp[or_and_right,exists_or]
section
variable{S S':Nat->Prop}{H:Hp}{nx n:Nat}{iv iv':Iv}{B:Nat}{w w' w2:World}{O:Nat->Sx.dL}{rv:List Value}{M:List (List Rat)}
theorem lQ.nil:lQ w S B iv [] n []:=⟨rfl,fun i v qs h=>(by cases h),fun i j a b g h=>(by cases h),fun g ⟨v,hv,_⟩=>by cases hv⟩
theorem lQ.cC(h:lQ w S B iv rv n M)(hk:∀g,Cv S B iv g->w2.heap[g]? =w.heap[g]?):lQ w2 S B iv rv n M:=
 ⟨h.len,fun i v qs h1 h2=>(h.row i v qs h1 h2).cC fun g hg=>hg.elim (fun hg=>hk g hg.1) fun hg=>hk g (Cg (h.new g ⟨v,aE h1,hg⟩)),h.rW,h.new⟩
theorem lQ.rel(h:lQ w S B iv rv n M)(r:Rel H nx iv B w O w')(hS:∀g,S g->g<B):lQ w' S B iv rv n M:=h.cC fun _ hg=>Rel.same r hS hg
theorem lQ.mono(h:lQ w S B iv rv n M)(hm:∀p,p∈iv->p∈iv'):lQ w S B iv' rv n M:=
 ⟨h.len,fun i v qs h1 h2=>(h.row i v qs h1 h2).cF fun _ hg=>⟨hg.1.mono hm,hg.2⟩,h.rW,fun g hg=>(h.new g hg).mono hm⟩
theorem lQ.cD(h:lQ w S B iv rv n M)(r:Rel H nx iv B w O w')(hS:∀g,S g->g<B)(he:Ext w' w2)(hm:∀p,p∈iv->p∈iv'):lQ w2 S B iv' rv n M:=
 ((h.rel r hS).cC fun g hg=>he.block g (Rel.old r hS g hg)).mono hm
theorem lQ.low(h:lQ w S B iv rv n M)(hg:Ob rv g):B<=g:=(h.new g hg).elim (fun h=>h.elim) fun h=>h.1
theorem lQ.lt(h:lQ w S B iv rv n M)(r:Rel H nx iv B w O w')(hg:Ob rv g):g<w'.heap.size:=Rel.old r (eI B) g (h.new g hg)
theorem Lr.grown(r:Rel H nx iv B w O w')(hS:∀g,S g->g<B)(hg:w'.grownBy w2 row)(OR:∀g,row=some g->Ob rv g):∀g,Lr S B iv rv g->w2.heap[g]? =w.heap[g]? :=fun g h=>by
 rw[hg.block g (Rel.old r hS g h.1) fun e=>h.2 (OR g e.symm),Rel.same r hS h.1]
theorem lQ.cL(h:lQ w S B iv rv n M)(r:Rel H nx iv B w O w')(hg:w'.grownBy w2 row)(OR:∀g,row=some g->Ob rv g):dT B w' w2:=
 dT.grown hg (fun g e=>h.low (OR g e)) r.bz
theorem lQ.setRow(h:lQ w' S B iv rv n M)(Ou:∀g,Cv S B iv g->g<w'.heap.size){i:Nat}{vi:Value}(SU:rv[i]? =some vi)(Oc:w'.grownBy w2 vi.ownBlock)(hB:B<=w'.heap.size)
  (hq:gK w2 (Nw (Lr S B iv rv) w' w2) vi n qs):lQ w2 S B ((w'.heap.size,w2.heap.size)::iv) rv n (M.set i qs):=by
 have hnw:∀g,Nw (Lr S B iv rv) w' w2 g->Lr S B ((w'.heap.size,w2.heap.size)::iv) rv g:=fun g hg=>by
  rcases hg with hg|hg
  ·exact⟨hg.1.mono fun p hp=>aC _ hp,hg.2⟩
  ·exact⟨.inr ⟨by omega,_,_,aG,hg.1,hg.2⟩,fun hm=>by have:=Ou g (Cg (h.new g hm));omega⟩
 refine⟨by rw[bX];exact h.len,fun k v ps h1 h2=>?_,h.rW,fun g hg=>(h.new g hg).mono fun p hp=>aC _ hp⟩;by_cases hk:i=k
 ·subst hk;rw[SU]at h1;injection h1 with h1;subst h1;rw[aO (by rw[<-h.len];exact(aD.1 SU).1)]at h2;injection h2 with h2;subst h2;exact hq.cF hnw
 ·rw[aT hk]at h2;refine((h.row k v ps h1 h2).cC fun g hg=>?_).cF fun g hg=>⟨hg.1.mono fun p hp=>aC _ hp,hg.2⟩
  rcases hg with hg|hg
  ·exact Oc.block g (Ou g hg.1) fun e=>hg.2 ⟨vi,aE SU,e.symm⟩
  ·exact Oc.block g (Ou g (Cg (h.new g ⟨v,aE h1,hg⟩))) fun e=>hk (h.rW i k vi v g SU h1 e.symm hg)
theorem lQ.Cj(hM:lQ w S B iv rv n M)(r:Rel H nx iv B w O w')(hS:∀g,S g->g<B){i j h:Nat}{vi vj vby:Value}{ri rj:List Rat}{p:Rat}(PE:i≠j)(SU:rv[i]? =some vi)(Sf:rv[j]? =some vj)(S5:M[i]? =some ri)(hrj:M[j]? =some rj)
  (Oq:eJ w (Lr S B iv rv) vby p) (hq:∀q∈ri,rl q+1<=h) (hqj:∀q∈rj,rl q+1<=h) (hb:rl p+1<=h) (hh:3*h<=90000):
  dx PG N.oD #[vi,vj,vby] w' (fun e w2=>e= .returned (.tuple #[])∧w'.grownBy w2 vi.ownBlock∧(∀g,vi.ownBlock=some g->Ob rv g)∧lQ w2 S B ((w'.heap.size,w2.heap.size)::iv) rv n (M.set i (lu ri rj p))):=by
 have SW:=hM.rel r hS;have h1:=SW.row i vi ri SU S5;have h2:=SW.row j vj rj Sf hrj;have QZ:∀g,vi.ownBlock=some g->Ob rv g:=fun g hg=>⟨_,aE SU,hg⟩
 have hmj:∀g,vj.ownBlock=some g->Ob rv g:=fun g hg=>⟨_,aE Sf,hg⟩
 refine(MQ (C:=fun g=>vj.ownBlock=some g) (S:=Lr S B iv rv) (fun x hx=>hM.lt r (hmj x hx)) (fun g hg=>Rel.old r hS g hg.1) h1 (eJ.cC Oq fun g hg=>Rel.same r hS hg.1) h2.read h2.len (fun g hg hx=>hx.2 (QZ g hg)) (fun g hg hx=>PE (hM.rW i j _ _ g SU Sf hg hx)) hq hqj hb hh).mono fun e w8 he=>?_;obtain⟨rfl,Oc,OR⟩:=he;exact⟨rfl,Oc,QZ,SW.setRow (fun g hg=>Rel.old r hS g hg) SU Oc r.bz OR⟩
theorem lQ.form(hM:lQ w S B iv rv n M){i:Nat}(hv:rv[i]? =some v):∃a c,v= .slice a n c:=by
 obtain⟨qs,hq⟩:∃qs,M[i]? =some qs:=⟨_,aB (by rw[<-hM.len];exact(aD.1 hv).1)⟩
 obtain⟨a,c,h,_⟩:=(hM.row i v qs hv hq).form;exact⟨a,c,h⟩
theorem lQ.load(hM:lQ w S B iv rv n M){i k:Nat}{c:Nat}(hv:rv[i]? =some (.slice a n c))(hq:M[i]? =some qs)(hk:qs[k]? =some q):
  ∃ad cs,a=some ad∧jA w (Lr S B iv rv) cs q∧∀j u,cs[j]? =some u->Cv FF B iv ad.block∧w.cell? ((ad.add (k*4)).add j)=some u:=by
 obtain⟨ad,cs,h1,h2,h3⟩:=gB.load (hM.row i _ qs hv hq).read hk;refine⟨ad,cs,h1,h2,fun j u hu=>⟨?_,(h3 j u hu).2⟩⟩;have:=(h3 j u hu).1;exact hM.new _ ⟨_,aE hv,this⟩
theorem lQ.store(hM:lQ w S B iv rv n M)(r:Rel H nx iv B w O w')(hS:∀g,S g->g<B){i k:Nat}{a1 a2:Option Addr}{c n1 c1 n2 c2:Nat}{b b2:Bool}(SU:rv[i]? =some (.slice a n c))(S5:M[i]? =some ri)(hk:k<n)
  (hf:cN w (Lr S B iv rv) (.agg #[.bool b,.slice a1 n1 c1,.bool b2,.slice a2 n2 c2]) q):
  ∃g,a=some ⟨g,0,none⟩∧((⟨g,0,none⟩:Addr).add ((k:Int).toNat*4)).spot=none∧
   (∀j,j<4->(w'.cell? (((⟨g,0,none⟩:Addr).add ((k:Int).toNat*4)).add j)).isSome=true∧w'.frozen? (((⟨g,0,none⟩:Addr).add ((k:Int).toNat*4)).add j)=false)∧
   (∀id b,cV H id=some b->(O id).nil=false->(O id).g≠((⟨g,0,none⟩:Addr).add ((k:Int).toNat*4)).block)∧
   ∀w2,w2=setCells w' ((⟨g,0,none⟩:Addr).add ((k:Int).toNat*4)) [.bool b,.slice a1 n1 c1,.bool b2,.slice a2 n2 c2]->lQ w2 S B iv rv n (M.set i (ri.set k q))∧dT B w' w2∧Rel H nx iv B w2 O w2∧∀g,Lr S B iv rv g->w2.heap[g]? =w.heap[g]? :=by
 have SW:=hM.rel r hS;have QZ:∀g,(Value.slice a n c).ownBlock=some g->Ob rv g:=fun g hg=>⟨_,aE SU,hg⟩
 obtain⟨g,rfl,h1,h2,h3,h4⟩:=(SW.row i _ ri SU S5).store hk (hf.cC fun g hg=>Rel.same r hS hg.1) (fun g hg hx=>hx.2 (QZ g hg)) (fun x hx=>Rel.old r hS x hx.1);refine⟨g,rfl,h1,h3,fun id b hb hn=>by rw[h2];exact Rel.not r (eI B) (hM.new g (QZ g rfl)) id b hb hn,fun w2 PO=>?_⟩;obtain⟨k1,k2,k3⟩:=h4 w2 PO;have hs:=SW.setRow (fun g hg=>Rel.old r hS g hg) SU k2 r.bz (k1.cF fun g hg=>.inl hg);refine⟨?_,hM.cL r k2 QZ,r.yH (fun id b hb hn=>Rel.not r (eI B) (hM.new g (QZ g rfl)) id b hb hn) k2,Lr.grown r hS k2 QZ⟩;refine⟨hs.len,fun j v qs h5 h6=>(hs.row j v qs h5 h6).cF fun x hx=>⟨?_,hx.2⟩,hs.rW,fun x hx=>hM.new x hx⟩;rcases hx.1 with hx|⟨m1,lo,hi,m2,m3,m4⟩
 ·exact .inl hx
 ·rcases List.mem_cons.1 m2 with e|m2
  ·injection e with e1 e2;subst e1 e2;omega
  ·exact .inr ⟨m1,lo,hi,m2,m3,m4⟩
theorem lQ.push(hM:lQ w S B iv rv n M){gx c:Nat}(WW:∀g,Cv S B iv g->g≠gx)(hBx:B<=gx)(OR:gK w S (.slice (some ⟨gx,0,none⟩) n c) n qs)(hS:∀g,S g->g<B):
  lQ w S B ((gx,gx+1)::iv) (rv++[.slice (some ⟨gx,0,none⟩) n c]) n (M++[qs]):=by
 have RG:∀g,Ob rv g->g≠gx:=fun g hg=>WW g (Cg (hM.new g hg))
 have hlr:∀g,Lr S B iv rv g->Lr S B ((gx,gx+1)::iv) (rv++[.slice (some ⟨gx,0,none⟩) n c]) g:=fun g hg=>⟨hg.1.mono fun p hp=>aC _ hp,fun h=>by
  rcases Ob.append.1 h with h|h
  ·exact hg.2 h
  ·injection h with h;exact WW g hg.1 h.symm⟩
 refine⟨by simp[hM.len],fun i v ps h1 h2=>?_,fun i j a b g h1 h2 h3 h4=>?_,fun g hg=>?_⟩
 ·rcases aP i rv.length with hi|hi
  ·rw[aJ hi]at h1;rw[aJ (by rw[<-hM.len];exact hi)]at h2;exact(hM.row i v ps h1 h2).cF hlr
  ·have RX:i=rv.length:=by have:=(aD.1 h1).1;simp at this;omega
   rw[RX,aN (Nat.le_refl _),bB]at h1;rw[RX,hM.len,aN (Nat.le_refl _),bB]at h2;simp at h1 h2;subst h1 h2;refine OR.cF fun g hg=>⟨.inl hg,fun h=>?_⟩
   have:=hS g hg;rcases Ob.append.1 h with h|h
   ·have:=hM.low h;omega
   ·injection h with h;have h:gx=g:=h;omega
 ·have key:∀(k:Nat) v,(rv++[Value.slice (some ⟨gx,0,none⟩) n c])[k]? =some v->(k<rv.length∧rv[k]? =some v)∨(k=rv.length∧v= .slice (some ⟨gx,0,none⟩) n c):=fun k v hk=>by
   rcases aP k rv.length with hi|hi
   ·rw[aJ hi]at hk;exact .inl ⟨hi,hk⟩
   ·have RX:k=rv.length:=by have:=(aD.1 hk).1;simp at this;omega
    rw[RX,aN (Nat.le_refl _),bB]at hk;simp at hk;exact .inr ⟨RX,hk.symm⟩
  rcases key i a h1 with⟨_,k1⟩|⟨e1,rfl⟩<;>rcases key j b h2 with⟨_,k2⟩|⟨e2,rfl⟩
  ·exact hM.rW i j a b g k1 k2 h3 h4
  ·injection h4 with h4;exact absurd h4.symm (RG g ⟨a,aE k1,h3⟩)
  ·injection h3 with h3;exact absurd h3.symm (RG g ⟨b,aE k2,h4⟩)
  ·rw[e1,e2]
 ·rcases Ob.append.1 hg with h|h
  ·exact(hM.new g h).mono fun p hp=>aC _ hp
  ·injection h with h;have h:gx=g:=h;subst h;exact .inr ⟨hBx,_,_,aG,Nat.le_refl _,bV _⟩
theorem lQ.drop(hM:lQ w S B iv (rv++[v]) n (M++[qs])):lQ w S B iv rv n M:=by
 have hl:rv.length=M.length:=by have:=hM.len;simpa using this
 have RG:∀g,Ob rv g->Ob (rv++[v]) g:=fun g hg=>Ob.append.2 (.inl hg);refine⟨hl,fun i u ps h1 h2=>?_,fun i j a b g h1 h2=>hM.rW i j a b g ?_ ?_,fun g hg=>hM.new g (RG g hg)⟩
 ·have hi:=(aD.1 h1).1;exact(hM.row i u ps (by rw[aJ hi];exact h1) (by rw[aJ (by rw[<-hl];exact hi)];exact h2)).cF fun g hg=>⟨hg.1,fun h=>hg.2 (RG g h)⟩
 ·rw[aJ (aD.1 h1).1];exact h1
 ·rw[aJ (aD.1 h2).1];exact h2
theorem aAU{id m:Nat}(r:Rel H nx iv B w O w')(h:cV H id=some (.vec T.Rat 4 css.flatten))(hl:css.length=m)(h0:0<m)(hm:m<=maxLen)(hF:Fc w' S css qs):
  (O id).nil=false∧B<=(O id).g∧(∀g,Out B iv g->g≠(O id).g)∧gK w' S (.slice (some ⟨(O id).g,0,none⟩) m (O id).cap) m qs:=by
 have Ot:=eo hF.nH;rcases r.vec id _ _ _ h with⟨_,h2⟩|⟨h1,spare,h2,h3,h4⟩
 ·rw[h2]at Ot;rw[hl]at Ot;simp at Ot;omega
 ·refine⟨h1,(r.low id _ h h1).1,fun g hg e=>?_,css,⟨by rw[Ot,hl],.inr ⟨(O id).g,(O id).cap,_,rfl,aS _,h2,?_,h4,by simpa using h3,by rw[show m*4=css.flatten.length by rw[Ot,hl]];simp⟩⟩,hl,hF⟩
  ·exact Rel.not r (fun _ h=>h) hg id _ h h1 e.symm
  ·rw[List.length_append,Ot,hl]at h3;omega
end
end Go.Ex
namespace Go.Sx
open Go Go.Ex Go.Proofs
variable{O:Nat->Sx.dL}
theorem Sub.Ee{B nx:Nat}{l:Env}{H:Hp}{iv:Iv}{w w':World}{t:vt}(id p e sz:Nat){bt:Nat}{cs:List At}(Oy:cV H id=some (.box bt cs))(hp:cs[p]? =some (.v (.slice none 0 0)))(Re:l6 nx l)(r:Rel H nx iv B w O w')
  (h:∀ρ1,Rel ((id,.box bt (cs.set p (.w nx 0)))::(nx,.vec e sz [])::H) (nx+1) iv B w ρ1 w'->Sx.Sub B l (nx+1) ρ1 w' t):Sx.Sub B l nx O w' t:=by
 have r1:=r.push (.vec e sz []) ⟨0,0,true⟩ (w2:=w') rfl rfl rfl (Nat.le_refl _) (fun _ _=>rfl) (fun h=>by cases h) (.inl ⟨rfl,rfl⟩) trivial;have OS:id≠nx:=Nat.ne_of_lt (r.keys id _ Oy);have Vp:cV ((nx,.vec e sz [])::H) id=some (.box bt cs):=by rw[cU,aI (fun h=>OS h.symm)];exact Oy
 have UC:=r1.nn id _ Vp (by intros;simp) (by simp);have Oz:=r1.box id bt cs Vp;have SM:(cs.set p (.w nx 0)).map (At.den (Sx.fh O nx ⟨0,0,true⟩))=cs.map (At.den (Sx.fh O nx ⟨0,0,true⟩)):=by
  refine bG fun j=>?_;rw[aM,aM];by_cases hj:p=j
  ·subst hj;rw[aO (aD.1 hp).1,hp];simp[At.den,dw]
  ·rw[aT hj]
 have r2:=r1.store (b':=.box bt (cs.set p (.w nx 0))) (H':=(id,.box bt (cs.set p (.w nx 0)))::(nx,.vec e sz [])::H) (w2:=w') Vp (by simp) UC (fun j=>by
  rw[cU];by_cases hj:id=j
  ·subst hj;rw[if_pos rfl]
  ·rw[aI hj,aI (fun h=>hj h.symm)]) rfl rfl rfl rfl (fun _ _=>rfl) ⟨UC,by rw[SM];exact Oz⟩ (fun x hx=>by
   rcases a9 hx with hx|rfl
   ·exact r1.JJ id bt cs Vp x hx
   ·exact bV nx)
 obtain⟨ρ',h1,h2⟩:=h _ r2;refine⟨ρ',h1,fun x v hv=>?_⟩;obtain⟨h3,v0,h4,h5⟩:=h2 x v hv;refine⟨h3,v0,h4,?_⟩;rw[<-h5];exact SV.jU (fun id Oy=>fm id Oy) (Re.get _ _ h4)
end Go.Sx
namespace Go.Ex
open Go Go.Sx Go.Proofs
end Go.Ex
namespace Go.Ex
open Go Go.Sx Go.Proofs
inductive Tq where
 |nil
 |x (i:Nat) (t:Tq)
 |two (i:Nat) (t:Tq) (j:Nat) (u:Tq)
 |three (i:Nat) (t:Tq) (j:Nat) (u:Tq) (k:Nat) (v:Tq)
section
variable{P:Program}{τ:mo}{ops:Array Oper}{B n nx:Nat}{l:Env}{H:Hp}{iv:Iv}{w w':World}{O:Nat->Sx.dL}{a:Act}
end
end Go.Ex
