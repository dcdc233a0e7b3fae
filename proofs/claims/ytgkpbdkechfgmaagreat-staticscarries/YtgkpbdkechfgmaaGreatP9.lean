/- Texts L30 to X130: lemmas, each with its conditions. -/
import Derived.Test.YtgkpbdkechfgmaaGreatP8
namespace Go.Ex
variable{E M:List (List Rat)}{r row u:List Rat}{m:Mx}{B C t:Nat}{σ:Nat->Nat}{v x:Nat->Rat}{d p q:Rat}
def mL(row ug:List Rat)(by_:Rat):List Rat:=row.mapIdx (sM (-by_) ug)
theorem tT(row ug:List Rat)(b:Rat):(mL row ug b).length=row.length:=List.length_mapIdx
theorem zI(row ug:List Rat):mL row ug 0=row:=by
 refine bK fun j=>?_;rw[mL,List.getElem?_mapIdx]
 cases row[j]? with
 |none=>rfl
 |some q=>exact congrArg some (by rw[sM,Rat.neg_zero,bE,bW])
def ou(row:List Rat):Nat->Nat->Nat
 |0,k=>k
 |f+1,k=>if row.getD k 0=0 then ou row f (k+1)else k
def tU(row:List Rat)(cols:Nat):Nat:=ou row cols 0
theorem KL{k:Nat}:∀(f j:Nat),(∀i,j<=i->i<j+k->row.getD i 0=0)->k<=f->(k<f->row.getD (j+k) 0≠0)->ou row f j=j+k:=by
 induction k with
 |zero=>
  intro f j _ _ h
  cases f with
  |zero=>rfl
  |succ f=>rw[ou,aJ (by have:=h (by omega);rwa [bw]at this)];rfl
 |succ k ih=>
  intro f j h0 hf h
  cases f with
  |zero=>omega
  |succ f=>
   rw[ou,if_pos (h0 j (aF _) (by omega)),ih f (j+1) (fun i h1 h2=>h0 i (by omega) (by omega)) (by omega) (fun h1=>by rw[Nat.add_assoc,Nat.add_comm 1 k];exact h (by omega))];omega
theorem Hf{cols k:Nat}(h0:∀i,i<k->row.getD i 0=0)(hk:k<=cols)(h:k<cols->row.getD k 0≠0):tU row cols=k:=by
 rw[tU,KL (k:=k) cols 0 (fun i _ h2=>h0 i (by omega)) hk (fun h1=>by rw[aR];exact h h1),aR]
abbrev xZ:=List (List Rat)×List (Option Nat)×List Nat
def fq(E:List (List Rat))(at_:List (Option Nat))(row:List Rat):Nat->List Rat
 |0=>row
 |k+1=>match at_.getD k none with
  |some j=>mL (fq E at_ row k) (E.getD j []) ((fq E at_ row k).getD k 0)
  |none=>fq E at_ row k
theorem iE(E:List (List Rat))(at_:List (Option Nat))(row:List Rat):∀k,(fq E at_ row k).length=row.length
 |0=>rfl
 |k+1=>by
  rw[fq];split
  ·rw[tT,iE E at_ row k]
  ·exact iE E at_ row k
def gN(E:List (List Rat))(u:List Rat)(p i:Nat):List (List Rat):=E.mapIdx fun j r=>if j<i then mL r u (r.getD p 0)else r
def kE(cols:Nat)(s:xZ)(i:Nat)(row:List Rat):xZ:=
 let r:=fq s.1 s.2.1 row cols
 let p:=tU r cols
 if p=cols then s else
  let u:=r.map (· / r.getD p 0)
  (gN s.1 u p s.1.length++[u],s.2.1.set p (some s.1.length),s.2.2++[i])
def hJ(M:List (List Rat))(cols:Nat):Nat->xZ
 |0=>([],List.replicate cols none,[])
 |i+1=>kE cols (hJ M cols i) i (M.getD i [])
def dE(s:xZ):Nat->List (List Rat)×List Nat×List Nat
 |0=>([],[],[])
 |k+1=>match s.2.1.getD k none with
  |some r=>((dE s k).1++[s.1.getD r []],(dE s k).2.1++[k],(dE s k).2.2++[s.2.2.getD r 0])
  |none=>dE s k
def dT(M:List (List Rat))(cols:Nat):List (List Rat)×List Nat×List Nat:=dE (hJ M cols M.length) cols
structure tV(n cols i:Nat)(s:xZ):Prop where
 len:fZ n s.1
 at_:s.2.1.length=cols
 ug:s.2.2.length=s.1.length
 lt:∀(k r:Nat),s.2.1[k]? =some (some r)->r<s.1.length
 le:s.1.length<=i
 fr:∀j∈s.2.2,j<i
theorem fz(E:List (List Rat))(u:List Rat)(p i:Nat):(gN E u p i).length=E.length:=List.length_mapIdx
theorem GZ(E:List (List Rat))(u:List Rat)(p:Nat):gN E u p 0=E:=by
 refine bK fun j=>?_;rw[gN,List.getElem?_mapIdx]
 cases E[j]? <;>rfl
theorem Ej{p i:Nat}(h:E[i]? =some r):(gN E u p i)[i]? =some r:=by
 rw[gN,List.getElem?_mapIdx,h];exact congrArg some (aJ (Nat.lt_irrefl i))
theorem zJ{p i:Nat}(h:E[i]? =some r):gN E u p (i+1)=(gN E u p i).set i (mL r u (r.getD p 0)):=by
 refine bK fun j=>?_;have hi:=(aD.1 h).1;by_cases hj:i=j
 ·subst hj;rw[aV (by rw[fz];exact hi),gN,List.getElem?_mapIdx,h];exact congrArg some (if_pos (bZ i))
 ·rw[aZ hj,gN,gN,List.getElem?_mapIdx,List.getElem?_mapIdx]
  cases E[j]? with
  |none=>rfl
  |some r=>
   have e:(j<i+1)↔(j<i):=by omega
   simp only[Option.map_some,e]
theorem Im{p i n:Nat}(h:fZ n E):fZ n (gN E u p i):=fun r hr=>by
 obtain⟨j,hj⟩:=aS hr;rw[gN,List.getElem?_mapIdx]at hj
 cases hE:E[j]? with
 |none=>rw[hE]at hj;cases hj
 |some x=>
  rw[hE]at hj;have hx:=h x (aC hE);simp only[Option.map_some,Option.some.injEq]at hj;subst hj;split
  ·rw[tT];exact hx
  ·exact hx
theorem tV.start(n cols:Nat):tV n cols 0 ([],List.replicate cols none,[]):=
 ⟨(fun r hr=>by cases hr),bG ..,rfl,(fun (k r:Nat) h=>by rw[List.getElem?_replicate]at h;split at h<;>cases h),aF _,fun j hj=>by cases hj⟩
theorem tV.step{n cols i:Nat}{s:xZ}(h:tV n cols i s)(hr:row.length=n):tV n cols (i+1) (kE cols s i row):=by
 unfold kE;dsimp only
 split
 ·exact⟨h.len,h.at_,h.ug,h.lt,Nat.le_succ_of_le h.le,fun j hj=>Nat.lt_succ_of_lt (h.fr j hj)⟩
 ·refine⟨fun r hm=>?_,by simp[h.at_],by simp[h.ug,fz],fun k r hk=>?_,?_,fun j hj=>?_⟩
  ·rcases bS.1 hm with hm|hm
   ·exact Im h.len r hm
   ·rw[bB]at hm;subst hm;rw[aK,iE,hr]
  ·dsimp only at hk ⊢;rw[List.length_append,fz,List.length_singleton];rw[List.getElem?_set]at hk;split at hk
   ·split at hk
    ·injection hk with hk;injection hk with hk;omega
    ·cases hk
   ·have:=h.lt k r hk;omega
  ·dsimp only
   rw[List.length_append,fz,List.length_singleton];have:=h.le;omega
  ·rcases bS.1 hj with hj|hj
   ·exact Nat.lt_succ_of_lt (h.fr j hj)
   ·rw[bB]at hj;omega
theorem zK{M:List (List Rat)}{n:Nat}(cols:Nat)(hM:fZ n M):∀i,i<=M.length->tV n cols i (hJ M cols i)
 |0,_=>tV.start n cols
 |i+1,hi=>by
  have hm:=aB (l:=M) (show i<M.length by omega);refine(zK cols hM i (by omega)).step ?_;rw[List.getD,hm];exact hM _ (aC hm)
structure fA where
 nodes:List (Int×Int×Int)
 bars:List (Int×Int×Rat)
 cX:List (Int×Int×Rat)
def fA.cols(f:fA):Nat:=f.bars.length+f.cX.length
def fA.node(f:fA)(n:Int):Int×Int×Int:=f.nodes.getD n.toNat (0,0,0)
def sS(f:fA)(b:Int×Int×Rat):List Int:=[(f.node b.2.1).1-(f.node b.1).1,(f.node b.2.1).2.1-(f.node b.1).2.1,(f.node b.2.1).2.2-(f.node b.1).2.2]
def tW(M:List (List Int))(r c:Nat)(d:Int):List (List Int):=M.set r ((M.getD r []).set c ((M.getD r []).getD c 0+d))
def putAt(M:List (List Int))(r c:Nat)(d:Int):List (List Int):=M.set r ((M.getD r []).set c d)
def eV(f:fA)(M:List (List Int))(i:Nat):Nat->List (List Int)
 |0=>M
 |k+1=>
  let b:=f.bars.getD i (0,0,0)
  let d:=(sS f b).getD k 0
  tW (tW (eV f M i k) (3*b.1+k).toNat i d) (3*b.2.1+k).toNat i (-d)
def du(f:fA):Nat->List (List Int)
 |0=>List.replicate (3*f.nodes.length) (List.replicate f.cols 0)
 |i+1=>eV f (du f i) i 3
def fG(f:fA):Nat->List (List Int)
 |0=>du f f.bars.length
 |i+1=>
  let s:=f.cX.getD i (0,0,0)
  putAt (fG f i) (3*s.1+s.2.1).toNat (f.bars.length+i) 1
def gk(f:fA):List (List Int):=fG f f.cX.length
def c9(l:List Int):List Rat:=l.map fun(n:Int)=>(n:Rat)
def cP(f:fA):List (List Rat):=(gk f).map c9
def cd(M:List (List Rat))(cols:Nat):List (List Rat):=(List.range cols).map fun k=>M.map fun r=>r.getD k 0
abbrev Ld:=Int×Int×Int×Int
def Hg(s:List Int)(r:Nat)(d:Int):List Int:=s.set r (s.getD r 0+d)
def cW(l:List Rat)(b:Rat):List Rat:=l.map (· *b)
def fR(a b:List Rat):List Rat:=a.mapIdx fun i x=>x*b.getD i 0
def dO(f:fA):List Rat:=f.bars.map (·.2.2)++f.cX.map (·.2.2)
def jo(M:List (List Rat))(b:List Rat):List (List Rat):=M.mapIdx fun i r=>r++[b.getD i 0]
def ko(M:List (List Rat))(cols:Nat):List (List Rat):=eU (dT M cols).1 (dT M cols).2.1 cols cols
def oI(M:List (List Rat))(b:List Rat)(cols:Nat):Option (List Rat):=
 let e:=dT (jo M b) (cols+1)
 if cols∈e.2.1 then none else some (fy e.1 e.2.1 cols e.2.1.length)
def eW(st:List (List Rat))(fl:List Rat):List (List Rat):=st.map fun s=>st.map fun r=>dP (fR s fl) r s.length
def gh(st:List (List Rat))(fl x:List Rat):List Rat:=st.map fun s=> -(dP (fR s fl) x s.length)
def lQ(st:List (List Rat))(c x:List Rat):Nat->List Rat
 |0=>x
 |i+1=>(lQ st c x i).mapIdx fun k q=>q+c.getD i 0*(st.getD i []).getD k 0
def fb:fA:=⟨[(0,0,0),(0,0,4),(3,0,0)],[(0,2,1),(1,2,1)],[(0,0,0),(0,1,0),(0,2,0),(1,0,0),(1,1,0),(1,2,0),(2,1,0)]⟩
def Ib(B:Nat)(q:Rat):Prop:=∃z:Int,q=(z:Rat)∧z.natAbs<=B
theorem Ib.mono(h:Ib B q)(k:B<=C):Ib C q:=let⟨z,e,b⟩:=h;⟨z,e,aX b k⟩
theorem Ib.add(h:Ib B p)(k:Ib C q):Ib (B+C) (p+q):=by
 obtain⟨z,rfl,b⟩:=h;obtain⟨y,rfl,c⟩:=k;exact⟨z+y,by rw[Rat.intCast_add],by omega⟩
theorem Ib.mul(h:Ib B p)(k:Ib C q):Ib (B*C) (p*q):=by
 obtain⟨z,rfl,b⟩:=h;obtain⟨y,rfl,c⟩:=k;exact⟨z*y,by rw[Rat.intCast_mul],by rw[Int.natAbs_mul];exact Nat.mul_le_mul b c⟩
theorem Ib.neg(h:Ib B p):Ib B (-p):=by
 obtain⟨z,rfl,b⟩:=h;exact⟨-z,by rw[Rat.intCast_neg],by omega⟩
theorem Ib.sub(h:Ib B p)(k:Ib C q):Ib (B+C) (p-q):=by rw[Rat.sub_eq_add_neg];exact h.add k.neg
theorem Ib.zero(B:Nat):Ib B 0:=⟨0,rfl,aQ _⟩
theorem Ib.one(h:1<=B):Ib B 1:=⟨1,rfl,h⟩
theorem Ib.int{z:Int}(h:z.natAbs<=B):Ib B (z:Rat):=⟨z,rfl,h⟩
theorem Ib.sum{B:Nat}{f:Nat->Rat}:∀(n:Nat),(∀k,k<n->Ib B (f k))->Ib (n*B) (cZ f n)
 |0,_=>Ib.zero _
 |n+1,h=>by rw[cZ,Nat.succ_mul];exact(Ib.sum n fun k hk=>h k (by omega)).add (h n (by omega))
def fB(B:Nat):Nat->Nat
 |0=>1
 |n+1=>(n+1)*(B*fB B n)
theorem Ib.sR{k:Nat}(h:Ib B q):Ib B (sR k*q):=by
 unfold Go.Ex.sR;split
 ·rw[show (-1:Rat)*q= -q by grind];exact h.neg
 ·rw[bp];exact h
theorem Ib.det{B:Nat}:∀(n:Nat) {m:Mx},(∀i j,i<n->j<n->Ib B (m i j))->Ib (fB B n) (fp n m)
 |0,_,_=>Ib.one (aF _)
 |n+1,m,h=>by
  unfold fp fB;exact Ib.sum (n+1) fun k hk=>((h 0 k (by omega) hk).mul (Ib.det n fun i j hi hj=>h (i+1) (skip k j) (by omega) (Hb hj))).sR
theorem Hh(B n:Nat):B*fB B n<=fB B (n+1):=Nat.le_mul_of_pos_left _ (Nat.succ_pos n)
theorem M5(h:1<=B)(n:Nat):fB B n<=fB B (n+1):=aX (Nat.le_mul_of_pos_left _ h) (Hh B n)
theorem ql{B a:Nat}(h:1<=B):∀{b:Nat},a<=b->fB B a<=fB B b
 |0,k=>by rw[Nat.le_zero.1 k];exact aF _
 |b+1,k=>by
  rcases aP b a with h1|h1
  ·rw[show a=b+1 by omega];exact aF _
  ·exact aX (ql h h1) (M5 h b)
theorem NK{B R:Nat}:∀{n:Nat},n<=R->fB B n<=(R*B)^n
 |0,_=>aF _
 |n+1,h=>by
  rw[fB,Nat.pow_succ,<-bh,bV _ (R*B)];exact Nat.mul_le_mul (Nat.mul_le_mul_right B h) (NK (by omega))
theorem KM{R l n:Nat}(hn:n<=R)(h:R*B<=wt l):ln (fB B n)<=l*n+1:=by
 rw[gB,iw];have h1:=aX (NK (B:=B) hn) (Nat.pow_le_pow_left h n);rw[uw,<-Nat.pow_mul]at h1;have h2:=uw (l*n);have h3:=yp (l*n);rw[show 32*l*n=32*(l*n) by rw[bh]]at h1;omega
theorem tX{K:Nat}{D:Rat}(h0:D≠0)(hD:Ib K D)(hq:Ib K (D*q)):rl q<=ln K:=by
 obtain⟨d,rfl,b⟩:=hD;obtain⟨z,e,c⟩:=hq;have hd:d≠0:=fun e=>h0 (by rw[e];rfl);have e2:q=Rat.divInt z d:=by
  rw[Rat.divInt_eq_div,<-e,b9,bg (d:Rat) q,Rat.mul_assoc,Rat.mul_inv_cancel _ h0,Rat.mul_one]
 have:=jv (a:=z) hd;have:=fP b;have:=fP c;rw[e2];omega
theorem Ip{n r:Nat}(h:r<n):fp n (gl m r fun _=>0)=0:=by
 have h1:=nI 1 n r m h (fun _=>0) fun _=>0;rw[show (fun _:Nat=>(0:Rat)+1*0)=fun _=>0 from funext fun _=>by grind]at h1;grind
theorem zN{n r:Nat}{m:Mx}(h:r<n)(c:Nat->Rat)(v:Nat->Nat->Rat):∀s,fp n (gl m r fun j=>cZ (fun k=>c k*v k j) s)=cZ (fun k=>c k*fp n (gl m r (v k))) s
 |0=>Ip h
 |s+1=>by
  have h1:=nI (c s) n r m h (fun j=>cZ (fun k=>c k*v k j) s) (v s);rw[zN h c v s]at h1;exact h1
theorem Hi{n a b:Nat}(hb:b<n)(Pf:a<b)(he:∀j,j<n->m a j=m b j):fp n m=0:=by
 obtain⟨b,rfl⟩:∃k,b=k+1:=⟨b-1,by omega⟩
 cases a with
 |zero=>exact oG b n m hb he
 |succ a=>
  have h1:=Ii (m:=m) (k:=a) (n:=n) (by omega);rw[oG b n _ hb fun j hj=>?_]at h1
  ·grind
  ·rw[show lE 0 (a+1) 0=a+1 by unfold lE;rw[if_pos rfl],show lE 0 (a+1) (b+1)=b+1 by unfold lE;rw[aJ (by omega),aJ (by omega)]];exact he j hj
theorem Ek{n a b:Nat}(ha:a<n)(hb:b<n)(Pf:a≠b)(he:∀j,j<n->m a j=m b j):fp n m=0:=by
 rcases Nat.lt_or_gt_of_ne Pf with h|h
 ·exact Hi hb h he
 ·exact Hi ha h fun j hj=>(he j hj).symm
section
variable{E Z:Mx}{p:Nat->Nat}{r n:Nat}{v:Nat->Rat}
theorem Ru.coeff(h:Ru E p r n)(hv:eJ E r n v):∀t,t<n->v t=cZ (fun i=>v (p i)*E i t) r:=by
 obtain⟨c,hc⟩:=hv;intro t ht;rw[hc t ht];refine cL fun i hi=>?_;rw[hc (p i) (h.lt i hi),eh hi fun k hk OD=>by rw[h.unit i k hi hk,aJ OD,bC],h.unit i i hi hi,if_pos rfl,Rat.mul_one]
def tY(Z:Mx)(p:Nat->Nat)(r:Nat):Rat:=fp r fun j i=>Z (r-1-i) (p (r-1-j))
theorem No(h:Ru E p r n)(hZ:∀i,i<r->eJ E r n (Z i)){k:Nat}(hk:k<r)(ht:t<n):
  tY Z p r*E k t=fp r (gl (fun j i=>Z (r-1-i) (p (r-1-j))) (r-1-k) fun i=>Z (r-1-i) t):=by
 have e:∀i j,i<r->j<r->gl (fun j i=>Z (r-1-i) (p (r-1-j))) (r-1-k) (fun i=>Z (r-1-i) t) i j=gl (fun j i=>Z (r-1-i) (p (r-1-j))) (r-1-k) (fun i=>cZ (fun j=>E j t*Z (r-1-i) (p j)) r) i j:=fun i j hi hj=>by
  unfold gl;split
  ·show Z (r-1-j) t=cZ (fun l=>E l t*Z (r-1-j) (p l)) r;rw[h.coeff (hZ (r-1-j) (by omega)) t ht];exact cL fun l _=>bg _ _
  ·rfl
 rw[iY e,zN (v:=fun k i=>Z (r-1-i) (p k)) (by omega),eh hk fun j hj OD=>?_]
 ·rw[show gl (fun j i=>Z (r-1-i) (p (r-1-j))) (r-1-k) (fun i=>Z (r-1-i) (p k))=fun j i=>Z (r-1-i) (p (r-1-j))from ?_]
  ·rw[tY,bg]
  ·funext i j
   unfold gl;split
   ·rename_i hi;rw[hi,show r-1-(r-1-k)=k by omega]
   ·rfl
 ·rw[Ek (a:=r-1-k) (b:=r-1-j) (by omega) (by omega) (by omega) fun i hi=>?_,bC];unfold gl;rw[if_pos rfl,aJ (by omega)];show Z (r-1-i) (p j)=Z (r-1-i) (p (r-1-(r-1-j)));rw[show r-1-(r-1-j)=j by omega]
theorem Np(h:Ru E p r n)(hZ:∀i,i<r->eJ E r n (Z i))(ht:t<n):
  fp (r+1) (fun j i=>if j=0 then Z (r-i) t else Z (r-i) (p (r-j)))=mE E p r (Z r) n t*tY Z p r:=by
 obtain⟨m,hm⟩:∃m:Mx,m=fun j i=>if j=0 then Z (r-i) t else Z (r-i) (p (r-j)):=⟨_,rfl⟩
 obtain⟨w,hw⟩:∃w:Nat->Rat,w=fun i=>if i=0 then mE E p r (Z r) n t else 0:=⟨_,rfl⟩
 rw[<-hm];have OE:∀j,j<r->∀i,m (r-j) i=Z (r-i) (p j):=fun j hj i=>by rw[hm];simp only;rw[aJ (by omega),show r-(r-j)=j by omega]
 have e:∀i j,i<r+1->j<r+1->m i j=gl m 0 (fun i=>w i+1*cZ (fun j=>E j t*m (r-j) i) r) i j:=fun i j hi hj=>by
  unfold gl;split
  ·rename_i h0;subst h0;show m 0 j=w j+1*cZ (fun l=>E l t*m (r-l) j) r;rw[cL (g:=fun l=>E l t*Z (r-j) (p l)) fun l hl=>by rw[OE l hl],bp,hw];simp only
   by_cases Ui:j=0
   ·rw[if_pos Ui,Ui,hm];simp only[if_pos,Nat.sub_zero]
    unfold mE;rw[cL (f:=fun i=>if p i<n then Z r (p i)*E i t else 0) (g:=fun i=>E i t*Z r (p i)) fun l hl=>by rw[if_pos (h.lt l hl),bg]];grind
   ·rw[aJ Ui,Rat.zero_add,hm];simp only[if_pos]
    rw[h.coeff (hZ (r-j) (by omega)) t ht];exact cL fun l _=>bg _ _
  ·rfl
 rw[iY e,nI 1 (r+1) 0 m (by omega),zN (v:=fun k i=>m (r-k) i) (by omega),cL (g:=fun _=>0) fun j hj=>?_,dm,bC,bW]
 ·rw[fp,eh (i:=0) (by omega) fun k hk OD=>?_]
  ·unfold gl;rw[if_pos rfl,hw];simp only[if_pos]
   rw[show sR 0=1 by decide,bp,tY,iY fun i j hi hj=>?_];rw[aJ (by omega),hm];simp only
   rw[aJ (by omega),show skip 0 j=j+1 by unfold skip;rw[aJ (by omega)],show r-(j+1)=r-1-j by omega,show r-(i+1)=r-1-i by omega]
  ·unfold gl;rw[if_pos rfl,hw];simp only
   rw[aJ OD,bE,bC]
 ·rw[Ek (a:=0) (b:=r-j) (by omega) (by omega) (by omega) fun i _=>?_,bC];unfold gl;rw[if_pos rfl,aJ (by omega)]
theorem M6(d:Rat)(k t:Nat):mE E p r (fun t=>d*v t) k t=d*mE E p r v k t:=by
 unfold mE;rw[cL (g:=fun i=>d*if p i<k then v (p i)*E i t else 0) fun i _=>?_,eR]
 ·grind
 ·split
  ·rw[Rat.mul_assoc]
  ·rw[bC]
theorem M7(h:Ru E p r n)(hx:eJ E r n fun t=>v t+ -(x t))(h0:∀i,i<r->x (p i)=0)(ht:t<n):x t=mE E p r v n t:=by
 have h1:=h.coeff hx t ht;unfold mE;rw[cL (g:=fun i=>v (p i)*E i t) fun i hi=>if_pos (h.lt i hi)];rw[cL (g:=fun i=>v (p i)*E i t) fun i hi=>by rw[h0 i hi];grind]at h1;grind
end
structure zO(E:Mx)(p:Nat->Nat)(r n B:Nat)(Z:Mx):Prop where
 ru:Ru E p r n
 sp:∀i,i<r->eJ E r n (Z i)
 ib:∀i t,i<r->t<n->Ib B (Z i t)
 nz:tY Z p r≠0
section
variable{E Z:Mx}{p:Nat->Nat}{r n B k:Nat}{v u:Nat->Rat}
theorem zO.start(E Z:Mx)(p:Nat->Nat)(n B:Nat):zO E p 0 n B Z:=
 ⟨⟨fun _ h=>(by omega),fun _ _ h=>(by omega),fun _ _ h=>(by omega),fun _ _ h=>(by omega)⟩,fun _ h=>(by omega),fun _ _ h=>(by omega),by show(1:Rat)≠0;decide⟩
theorem zO.push(h:zO E p r n B Z)(hd:d≠0)(hz:∀t,t<n->Ib B (d*v t))(hu:∀t,t<n->u t=mE E p r v n t)(hk:k<n)(h0:u k≠0)(hl:∀t,t<k->u t=0):
  zO (k8 E r u k) (fun i=>if i=r then k else p i) (r+1) n B fun i t=>if i=r then d*v t else Z i t:=by
 refine⟨h.ru.push hk (fun i hi=>by rw[hu _ (h.ru.lt i hi),Hd h.ru hi]) h0 hl,fun i hi=>?_,fun i t hi ht=>?_,?_⟩
 ·by_cases h1:i=r
  ·exact((Bn h0 hu h.ru.lt).mul d).congr fun t _=>by simp only[if_pos h1];rw[bg]
  ·exact((h.sp i (by omega)).trans fun j hj=>qk h0 j hj).congr fun t _=>by simp only[aJ h1]
 ·by_cases h1:i=r
  ·simp only[if_pos h1];exact hz t ht
  ·simp only[aJ h1];exact h.ib i t (by omega) ht
 ·have hb:=Np (Z:=fun i t=>if i=r then d*v t else Z i t) h.ru (fun i hi=>(h.sp i hi).congr fun t _=>by simp only[aJ (Nat.ne_of_lt hi)]) hk;have e1:tY (fun i t=>if i=r then d*v t else Z i t) p r=tY Z p r:=iY fun i j hi hj=>by simp only;rw[aJ (by omega)]
  simp only[if_pos]at hb;rw[M6,<-hu k hk,e1]at hb;have e2:tY (fun i t=>if i=r then d*v t else Z i t) (fun i=>if i=r then k else p i) (r+1)=d*u k*tY Z p r:=by
   rw[<-hb];refine iY fun i j hi hj=>?_;by_cases h1:i=0
   ·subst h1;simp only[if_true]
    rw[if_pos (show r+1-1-0=r by omega),show r+1-1-j=r-j by omega]
   ·simp only[aJ h1]
    rw[aJ (show ¬r+1-1-i=r by omega),show r+1-1-j=r-j by omega,show r+1-1-i=r-i by omega]
  rw[e2];have OR:∀{a b:Rat},a≠0->b≠0->a*b≠0:=fun ha hb e=>by
   rcases Rat.mul_eq_zero.1 e with h|h
   ·exact ha h
   ·exact hb h
  exact OR (OR hd h0) h.nz
theorem zO.den(h:zO E p r n B Z):Ib (fB B r) (tY Z p r):=Ib.det r fun i j hi hj=>h.ib _ _ (by omega) (h.ru.lt _ (by omega))
theorem zO.ent(h:zO E p r n B Z){i:Nat}(hi:i<r)(ht:t<n):Ib (fB B r) (tY Z p r*E i t):=by
 rw[No h.ru h.sp hi ht];refine Ib.det r fun j l hj hl=>?_;unfold gl;split
 ·exact h.ib _ _ (by omega) ht
 ·exact h.ib _ _ (by omega) (h.ru.lt _ (by omega))
theorem zO.KN(h:zO E p r n B Z){i:Nat}(hi:i<r)(ht:t<n):rl (E i t)<=ln (fB B r):=tX h.nz h.den (h.ent hi ht)
theorem zO.mE(h:zO E p r n B Z)(hz:∀t,t<n->Ib B (d*v t))(k:Nat)(ht:t<n):Ib (fB B (r+1)) (d*tY Z p r*mE E p r v k t):=by
 unfold Go.Ex.mE;rw[show ∀a b c s:Rat,a*b*(c-s)=b*(a*c)-(a*b)*s from fun a b c s=>by grind,<-eR,fB,Nat.succ_mul,Nat.add_comm];refine Ib.sub (by rw[bV B];exact h.den.mul (hz t ht)) (Ib.sum r fun i hi=>?_);split
 ·rw[show ∀a b c s:Rat,a*b*(c*s)=(a*c)*(b*s)from fun a b c s=>by grind];exact(hz _ (h.ru.lt i hi)).mul (h.ent hi ht)
 ·rw[bC];exact Ib.zero _
theorem zO.KO(h:zO E p r n B Z)(hB:1<=B)(hd:d≠0)(hdB:Ib B d)(hz:∀t,t<n->Ib B (d*v t))(k:Nat)(ht:t<n):Go.Ex.rl (Go.Ex.mE E p r v k t)<=ln (fB B (r+1)):=
 tX (fun e=>by rcases Rat.mul_eq_zero.1 e with e|e;exact hd e;exact h.nz e) ((hdB.mul h.den).mono (Hh B r)) (h.mE hz k ht)
end
def BF(M:List (List Rat))(n B:Nat):Prop:=∀j,j<M.length->∃d:Rat,d≠0∧Ib B d∧∀t,t<n->Ib B (d*dD M j t)
theorem eJ.Ga{E F:Mx}{r n:Nat}(h:eJ E r n v)(e:∀i t,i<r->t<n->F i t=E i t):eJ F r n v:=by
 obtain⟨c,hc⟩:=h;exact⟨c,fun t ht=>by rw[hc t ht];exact cL fun i hi=>by rw[e i t hi ht]⟩
theorem eJ.more{E:Mx}{r s n:Nat}(h:eJ E r n v)(k:r<=s):eJ E s n v:=h.trans fun i hi=>eJ.row (Nat.lt_of_lt_of_le hi k)
theorem Ru.congr{E F:Mx}{p q:Nat->Nat}{r n:Nat}(h:Ru E p r n)(e:∀i t,i<r->t<n->F i t=E i t)(ep:∀i,i<r->q i=p i):Ru F q r n:=
 ⟨fun i hi=>by rw[ep i hi];exact h.lt i hi,fun i j hi hj k=>h.inj i j hi hj (by rw[<-ep i hi,<-ep j hj];exact k),fun i j hi hj=>by rw[ep i hi,e j _ hj (h.lt i hi)];exact h.unit i j hi hj,
  fun i t hi ht=>by rw[ep i hi]at ht;rw[e i t hi (by have:=h.lt i hi;omega)];exact h.lead i t hi ht⟩
theorem zO.congr{E F Z Y:Mx}{p q:Nat->Nat}{r n:Nat}(h:zO E p r n B Z)(e:∀i t,i<r->t<n->F i t=E i t)(ep:∀i,i<r->q i=p i)(eZ:∀i t,i<r->t<n->Y i t=Z i t):zO F q r n B Y:=by
 refine⟨h.ru.congr e ep,fun i hi=>((h.sp i hi).congr fun t ht=>eZ i t hi ht).Ga e,fun i t hi ht=>by rw[eZ i t hi ht];exact h.ib i t hi ht,?_⟩;rw[show tY Y q r=tY Z p r from iY fun i j hi hj=>by rw[ep _ (by omega),eZ _ _ (by omega) (h.ru.lt _ (by omega))]];exact h.nz
theorem zP(row:List Rat):∀f k,k<=ou row f k∧ou row f k<=k+f∧(∀t,k<=t->t<ou row f k->row.getD t 0=0)∧(ou row f k<k+f->row.getD (ou row f k) 0≠0)
 |0,k=>by
  unfold ou;exact⟨aF _,aF _,fun t h1 h2=>by omega,fun h=>by omega⟩
 |f+1,k=>by
  unfold ou;split
  ·rename_i h;obtain⟨h1,h2,h3,h4⟩:=zP row f (k+1);refine⟨by omega,by omega,fun t k1 k2=>?_,fun h5=>h4 (by omega)⟩;rcases aP k t with h5|h5
   ·exact h3 t h5 k2
   ·rw[show t=k by omega];exact h
  ·rename_i h;exact⟨aF _,by omega,fun t h1 h2=>by omega,fun _=>h⟩
theorem Iq(row:List Rat)(n:Nat):tU row n<=n∧(∀t,t<tU row n->row.getD t 0=0)∧(tU row n≠n->row.getD (tU row n) 0≠0):=by
 obtain⟨_,h2,h3,h4⟩:=zP row n 0;unfold tU;exact⟨by omega,fun t h=>h3 t (aQ _) h,fun h=>h4 (by omega)⟩
theorem Ir(y:List Rat)(q:Rat)(t:Nat):(y.map (· / q)).getD t 0=y.getD t 0 / q:=by
 simp only[List.getD,aM]
 cases y[t]? with
 |none=>show(0:Rat)=0 / q;rw[b9,bE]
 |some x=>rfl
structure Gb(M:List (List Rat))(n B i:Nat)(s:xZ)(p:Nat->Nat)(Z:Mx):Prop where
 ok:tV n n i s
 piv:∀k,k<n->∀r:Nat,s.2.1[k]? =some (some r)↔r<s.1.length∧p r=k
 zQ:zO (dD s.1) p s.1.length n B Z
 up:∀r,r<s.1.length->eJ (dD M) i n (dD s.1 r)
 dn:∀j,j<i->eJ (dD s.1) s.1.length n (dD M j)
section
variable{M:List (List Rat)}{n B i:Nat}{s:xZ}{p:Nat->Nat}{Z:Mx}
theorem Gb.mE(h:Gb M n B i s p Z){x:List Rat}(hx:x.length=n):∀k,k<=n->∀t,t<n->(fq s.1 s.2.1 x k).getD t 0=mE (dD s.1) p s.1.length (fun t=>x.getD t 0) k t
 |0,_,t,ht=>by rw[KG];rfl
 |k+1,hk,t,ht=>by
  have ih:=Gb.mE h hx k (by omega);obtain⟨o,ho⟩:∃o,s.2.1[k]? =some o:=⟨_,aB (by rw[h.ok.at_];omega)⟩
  have hd:s.2.1.getD k none=o:=by rw[List.getD,ho];rfl
  rw[fq,hd]
  cases o with
  |none=>
   simp only
   rw[ih t ht,KH fun r hr e=>?_];have:=(h.piv k (by omega) r).2 ⟨hr,e⟩;rw[ho]at this
   cases this
  |some r=>
   simp only
   obtain⟨hr,e⟩:=(h.piv k (by omega) r).1 ho;rw[mL,ux (by rw[iE,hx];exact ht),ih t ht,ih k (by omega),<-e,KI h.zQ.ru hr];rfl
theorem Gb.step(h:Gb M n B i s p Z)(hM:fZ n M)(hi:i<M.length)(hd:d≠0)(hz:∀t,t<n->Ib B (d*dD M i t)):
  ∃p' Z',Gb M n B (i+1) (kE n s i (M.getD i [])) p' Z':=by
 have hx:(M.getD i []).length=n:=hM.getD hi;have OF:=h.ok.step hx;obtain⟨y,hy⟩:∃y,fq s.1 s.2.1 (M.getD i []) n=y:=⟨_,rfl⟩
 have hu:∀t,t<n->y.getD t 0=Go.Ex.mE (dD s.1) p s.1.length (dD M i) n t:=fun t ht=>by rw[<-hy];exact h.mE hx n (aF _) t ht
 have VA:y.length=n:=by rw[<-hy,iE,hx]
 obtain⟨q1,q2,q3⟩:=Iq y n;by_cases hq:tU y n=n
 ·have e:kE n s i (M.getD i [])=s:=by unfold kE;simp only[hy,hq,if_true]
  rw[e]at OF ⊢;refine⟨p,Z,OF,h.piv,h.zQ,fun r hr=>(h.up r hr).more (Nat.le_succ i),fun j hj=>?_⟩;rcases aP j i with h1|h1
  ·exact h.dn j h1
  ·rw[show j=i by omega];refine⟨fun j=>dD M i (p j),fun t ht=>?_⟩;have h2:=hu t ht;rw[q2 t (by omega)]at h2;unfold Go.Ex.mE at h2;rw[cL (g:=fun j=>dD M i (p j)*dD s.1 j t) fun j hj=>if_pos (h.zQ.ru.lt j hj)]at h2;grind
 ·have h0:=q3 hq;obtain⟨k,hk⟩:∃k,tU y n=k:=⟨_,rfl⟩
  rw[hk]at hq h0 q1 q2;have hkn:k<n:=by omega
  have e:kE n s i (M.getD i [])=(gN s.1 (y.map (· / y.getD k 0)) k s.1.length++[y.map (· / y.getD k 0)],s.2.1.set k (some s.1.length),s.2.2++[i]):=by
   unfold kE;simp only[hy,hk,aJ hq]
  rw[e]at OF ⊢;have hl:(gN s.1 (y.map (· / y.getD k 0)) k s.1.length).length=s.1.length:=fz ..;have RI:(gN s.1 (y.map (· / y.getD k 0)) k s.1.length++[y.map (· / y.getD k 0)]).length=s.1.length+1:=by rw[List.length_append,hl];rfl
  have hdv:∀t,t<n->(y.map (· / y.getD k 0)).getD t 0=y.getD t 0 / y.getD k 0:=fun t _=>Ir y _ t;have hE:∀a t,a<s.1.length+1->t<n->dD (gN s.1 (y.map (· / y.getD k 0)) k s.1.length++[y.map (· / y.getD k 0)]) a t=k8 (dD s.1) s.1.length (fun t=>y.getD t 0) k a t:=fun a t ha ht=>by
   unfold k8;by_cases h1:a=s.1.length
   ·rw[if_pos h1,<-hdv t ht,dD];congr 1;rw[List.getD,aN (by omega),hl,h1,bI];rfl
   ·have Ok:a<s.1.length:=by omega
    have hr:=aB Ok;have Of:(s.1[a]).length=n:=h.ok.len _ (aY Ok);have hg:s.1.getD a []=s.1[a]:=by rw[List.getD,hr];rfl
    have OE:(gN s.1 (y.map (· / y.getD k 0)) k s.1.length++[y.map (· / y.getD k 0)]).getD a []=mL s.1[a] (y.map (· / y.getD k 0)) ((s.1[a]).getD k 0):=by
     rw[List.getD,aL (by omega),gN,List.getElem?_mapIdx,hr];simp only[Option.map_some,Option.getD_some,if_pos Ok]
    rw[aJ h1,dD,OE,mL,ux (by omega),hdv t ht];unfold dD;rw[hg]
  have hC:=h.zQ.push hd hz hu hkn h0 q2;have TD:=Nn (v:=dD M i) hu h.zQ.ru.lt;refine⟨fun i=>if i=s.1.length then k else p i,fun a t=>if a=s.1.length then d*dD M i t else Z a t,OF,?_,?_,?_,?_⟩
  ·intro c hc r;dsimp only
   rw[RI];have OD:∀j,j<s.1.length->p j≠k:=fun j hj e=>h0 (by rw[hu k hkn,<-e];exact Hd h.zQ.ru hj);by_cases h1:c=k
   ·rw[h1,aV (by rw[h.ok.at_];exact hkn)];constructor
    ·intro e;injection e with e;injection e with e;exact⟨by omega,by rw[if_pos e.symm]⟩
    ·rintro⟨h2,h3⟩;by_cases h4:r=s.1.length
     ·rw[h4]
     ·rw[aJ h4]at h3;exact absurd h3 (OD r (by omega))
   ·rw[aZ (Ne.symm h1),h.piv c hc r];constructor
    ·rintro⟨h2,h3⟩;exact⟨by omega,by rw[aJ (by omega)];exact h3⟩
    ·rintro⟨h2,h3⟩;by_cases h4:r=s.1.length
     ·rw[if_pos h4]at h3;exact absurd h3.symm h1
     ·rw[aJ h4]at h3;exact⟨by omega,h3⟩
  ·dsimp only
   rw[RI];exact hC.congr hE (fun _ _=>rfl) fun _ _ _ _=>rfl
  ·dsimp only
   rw[RI];intro a ha;refine((KJ (k:=k) TD a ha).trans fun b hb=>?_).congr fun t ht=>hE a t ha ht;by_cases h1:b=s.1.length
   ·exact(eJ.row (show i<i+1 by omega)).congr fun t _=>by unfold jn;rw[if_pos h1]
   ·exact((h.up b (by omega)).more (Nat.le_succ i)).congr fun t _=>by unfold jn;rw[aJ h1]
  ·dsimp only
   rw[RI];intro j hj;refine eJ.Ga ?_ hE;rcases aP j i with h1|h1
   ·exact(h.dn j h1).trans fun b hb=>qk h0 b hb
   ·rw[show j=i by omega];exact Bn h0 hu h.zQ.ru.lt
end
theorem qm{M:List (List Rat)}{n B:Nat}(hM:fZ n M)(hW:BF M n B):∀i,i<=M.length->∃p Z,Gb M n B i (hJ M n i) p Z
 |0,_=>⟨fun _=>0,fun _ _=>0,tV.start n n,fun k _ r=>⟨fun h=>(by
   simp only[hJ,List.getElem?_replicate]at h
   split at h<;>cases h),fun h=>(by have:=h.1;simp[hJ]at this)⟩,zO.start _ _ _ _ _,fun r h=>(by simp[hJ]at h),fun j h=>by omega⟩
 |i+1,hi=>by
  obtain⟨p,Z,h⟩:=qm hM hW i (by omega);obtain⟨d,hd,-,hz⟩:=hW i (by omega);exact h.step hM (by omega) hd hz
theorem KP{n:Nat}(hM:fZ n M)(hW:BF M n B)(hB:1<=B){i:Nat}(hi:i<=M.length):∀r∈(hJ M n i).1,∀q∈r,rl q<=ln (fB B M.length):=fun r hr q hq=>by
 obtain⟨p,Z,h⟩:=qm hM hW i hi;obtain⟨a,ha⟩:=aS hr;obtain⟨t,ht⟩:=aS hq;have Ok:=(aD.1 ha).1;have SS:=(aD.1 ht).1;rw[h.ok.len r hr]at SS;have h1:=h.zQ.KN Ok SS;rw[dD,show(hJ M n i).1.getD a []=r by rw[List.getD,ha];rfl,show r.getD t 0=q by rw[List.getD,ht];rfl]at h1;exact aX h1 (fP (ql hB (aX h.ok.le hi)))
theorem KQ{n:Nat}(hM:fZ n M)(hW:BF M n B)(hB:1<=B){i k:Nat}(hi:i<M.length)(hk:k<=n):∀q∈fq (hJ M n i).1 (hJ M n i).2.1 (M.getD i []) k,rl q<=ln (fB B M.length):=fun q hq=>by
 obtain⟨p,Z,h⟩:=qm hM hW i (by omega);have hx:(M.getD i []).length=n:=hM.getD hi;obtain⟨t,ht⟩:=aS hq;have SS:=(aD.1 ht).1;rw[iE,hx]at SS;have h1:=h.mE hx k hk t SS;rw[show (fq (hJ M n i).1 (hJ M n i).2.1 (M.getD i []) k).getD t 0=q by rw[List.getD,ht];rfl]at h1;obtain⟨d,hd,hdB,hz⟩:=hW i hi;rw[h1];exact aX (h.zQ.KO hB hd hdB hz k SS) (fP (ql hB (by have:=h.ok.le;omega)))
theorem Bo{s:xZ}:∀k,(dE s k).1.length=(dE s k).2.1.length∧(∀i,i<(dE s k).2.1.length->∃r:Nat,s.2.1[(dE s k).2.1.getD i 0]? =some (some r)∧(dE s k).1.getD i []=s.1.getD r []∧(dE s k).2.1.getD i 0<k)∧
  (∀i j,i<j->j<(dE s k).2.1.length->(dE s k).2.1.getD i 0<(dE s k).2.1.getD j 0)∧∀q,q<k->∀r:Nat,s.2.1[q]? =some (some r)->∃i,i<(dE s k).2.1.length∧(dE s k).2.1.getD i 0=q
 |0=>⟨rfl,fun i h=>(by cases h),fun i j _ h=>(by cases h),fun q h=>by omega⟩
 |k+1=>by
  obtain⟨h1,h2,h3,h4⟩:=Bo (s:=s) k;have step:(∃r:Nat,s.2.1[k]? =some (some r)∧dE s (k+1)=((dE s k).1++[s.1.getD r []],(dE s k).2.1++[k],(dE s k).2.2++[s.2.2.getD r 0]))∨((∀r:Nat,s.2.1[k]? ≠some (some r))∧dE s (k+1)=dE s k):=by
   rw[dE]
   cases ho:s.2.1[k]? with
   |none=>exact .inr ⟨fun r e=>(by cases e),by rw[show s.2.1.getD k none=none by rw[List.getD,ho];rfl]⟩
   |some o=>cases o with
    |none=>exact .inr ⟨fun r e=>(by cases e),by rw[show s.2.1.getD k none=none by rw[List.getD,ho];rfl]⟩
    |some r=>exact .inl ⟨r,rfl,by rw[show s.2.1.getD k none=some r by rw[List.getD,ho];rfl]⟩
  rcases step with⟨r,hr,e⟩|⟨hr,e⟩
  ·rw[e];have old:∀i,i<(dE s k).2.1.length->((dE s k).2.1++[k]).getD i 0=(dE s k).2.1.getD i 0:=fun i hi=>by rw[List.getD,aL hi,<-List.getD]
   have new:((dE s k).2.1++[k]).getD (dE s k).2.1.length 0=k:=by rw[List.getD,aN (aF _),bI];rfl
   have hlen:((dE s k).2.1++[k]).length=(dE s k).2.1.length+1:=by simp
   dsimp only
   rw[hlen];refine⟨by simp[h1],fun i hi=>?_,fun i j Pa hj=>?_,fun q hq x hx=>?_⟩
   ·rcases aP i (dE s k).2.1.length with h5|h5
    ·obtain⟨x,x1,x2,x3⟩:=h2 i h5;rw[old i h5];refine⟨x,x1,?_,by omega⟩;rw[List.getD,aL (by omega),<-List.getD];exact x2
    ·rw[show i=(dE s k).2.1.length by omega,new];refine⟨r,hr,?_,by omega⟩;rw[List.getD,aN (by omega),h1,bI];rfl
   ·rcases aP j (dE s k).2.1.length with h5|h5
    ·rw[old i (by omega),old j h5];exact h3 i j Pa h5
    ·rw[show j=(dE s k).2.1.length by omega,new,old i (by omega)];obtain⟨_,_,_,x3⟩:=h2 i (by omega);exact x3
   ·rcases aP q k with h5|h5
    ·obtain⟨i,i1,i2⟩:=h4 q h5 x hx;exact⟨i,by omega,by rw[old i i1];exact i2⟩
    ·exact⟨(dE s k).2.1.length,by omega,by rw[new];omega⟩
  ·rw[e];refine⟨h1,fun i hi=>?_,h3,fun q hq x hx=>?_⟩
   ·obtain⟨x,x1,x2,x3⟩:=h2 i hi;exact⟨x,x1,x2,by omega⟩
   ·rcases aP q k with h5|h5
    ·exact h4 q h5 x hx
    ·rw[show q=k by omega]at hx;exact absurd hx (hr x)
theorem fH{α:Type}{a b:List α}(d:α)(hl:a.length=b.length)(h:∀i,i<a.length->a.getD i d=b.getD i d):a=b:=by
 refine List.ext_getElem hl fun i h1 h2=>?_;have:=h i h1
 rwa [List.getD,List.getD,aB h1,aB h2]at this
theorem lS{n:Nat}(hM:fZ n M)(hW:BF M n B):(dT M n).2.1=(cN M n).2∧(dT M n).1=(cN M n).1.take (cN M n).2.length:=by
 obtain⟨p,Z,h⟩:=qm hM hW M.length (aF _);obtain⟨h1,h2,h3,h4⟩:=Bo (s:=hJ M n M.length) n;unfold dT;generalize hJ M n M.length=s at*
 obtain⟨F,hF⟩:∃F,dE s n=F:=⟨_,rfl⟩
 rw[hF]at h1 h2 h3 h4 ⊢;have OE:∀i,i<F.2.1.length->∃r,r<s.1.length∧p r=F.2.1.getD i 0∧F.1.getD i []=s.1.getD r []∧F.2.1.getD i 0<n:=fun i hi=>by
  obtain⟨r,r1,r2,r3⟩:=h2 i hi;obtain⟨k1,k2⟩:=(h.piv _ r3 r).1 r1;exact⟨r,k1,k2,r2,r3⟩
 have inj:∀i j,i<F.2.1.length->j<F.2.1.length->F.2.1.getD i 0=F.2.1.getD j 0->i=j:=fun i j hi hj e=>by
  rcases bs i j with h5|h5|h5
  ·have:=h3 i j h5 hj;omega
  ·exact h5
  ·have:=h3 j i h5 hi;omega
 have hrf:Rf (dD F.1) (fun i=>F.2.1.getD i 0) F.2.1.length n:=by
  refine⟨fun i hi=>?_,h3,fun i j hi hj=>?_,fun i t hi ht=>?_⟩
  ·obtain⟨_,_,_,_,h5⟩:=OE i hi;exact h5
  ·obtain⟨a,a1,a2,a3,_⟩:=OE i hi;obtain⟨b,b1,b2,b3,_⟩:=OE j hj;rw[dD,b3,<-a2];have:=h.zQ.ru.unit a b a1 b1;unfold dD at this;rw[this];by_cases h5:j=i
   ·rw[if_pos h5,if_pos (h.zQ.ru.inj b a b1 a1 (by rw[a2,b2,h5]))]
   ·rw[aJ h5,aJ fun e=>h5 (inj j i hj hi (by rw[<-a2,<-b2,e]))]
  ·obtain⟨a,a1,a2,a3,_⟩:=OE i hi;rw[dD,a3];have:=h.zQ.ru.lead a t a1 (by rw[a2];exact ht);unfold dD at this;exact this
 have hsp:∀r,r<s.1.length->eJ (dD F.1) F.2.1.length n (dD s.1 r):=fun r hr=>by
  have hp:=h.zQ.ru.lt r hr;obtain⟨i,i1,i2⟩:=h4 (p r) hp r ((h.piv _ hp r).2 ⟨hr,rfl⟩);obtain⟨a,a1,a2,a3,_⟩:=OE i i1;have e:a=r:=h.zQ.ru.inj a r a1 hr (by rw[a2,i2]);exact(eJ.row i1).congr fun t _=>by rw[dD,dD,a3,e]
 obtain⟨e1,e2,e3⟩:=Eh hM hrf (fun i hi=>by
  obtain⟨a,a1,a2,a3,_⟩:=OE i hi
  exact(h.up a a1).congr fun t _=>by rw[dD,dD,a3]) fun j hj=>(h.dn j hj).trans hsp
 obtain⟨g1,g2,-,-,-⟩:=dc hM n (aF _);refine⟨fH 0 e1.symm fun i hi=>(e2 i hi).symm,fH [] ?_ fun i hi=>?_⟩
 ·rw[aW,e1,h1];omega
 ·rw[h1]at hi;have RB:i<(cN M n).2.length:=by omega
  obtain⟨a,a1,a2,a3,_⟩:=OE i hi;have Pz:(F.1.getD i []).length=n:=by rw[a3];exact h.ok.len.getD a1
  have hg:((cN M n).1.take (cN M n).2.length).getD i []=(cN M n).1.getD i []:=by rw[List.getD,bT RB,<-List.getD]
  rw[hg];refine fH 0 (by rw[Pz,g1.getD (by omega)]) fun t ht=>?_;rw[Pz]at ht;exact(e3 i t hi ht).symm
structure ElI(M:List (List Rat))(n B c:Nat)(s:List (List Rat)×List Nat)(σ:Nat->Nat)(Z:Mx):Prop where
 red:Red n c s
 mon:KF s
 len:s.1.length=M.length
 zQ:zO (dD s.1) (fun i=>s.2.getD i 0) s.2.length n B Z
 org:∀j,j<M.length->σ j<M.length
 rest:∀j,s.2.length<=j->j<M.length->∀t,t<n->dD s.1 j t=mE (dD s.1) (fun i=>s.2.getD i 0) s.2.length (dD M (σ j)) n t
theorem ElI.step{n c:Nat}{s:List (List Rat)×List Nat}{Z:Mx}(h:ElI M n B c s σ Z)(hW:BF M n B)(hc:c<n):∃σ' Z',ElI M n B (c+1) (db s c) σ' Z':=by
 have QA:=h.red.step hc;have hmon:=h.mon.step h.red hc;have hlen:(db s c).1.length=M.length:=by rw[oD,h.len]
 obtain⟨hl,hle,hz,Qz,hu⟩:=h.red;rcases j1 c hle with⟨e,h0⟩|⟨k,h1,h2,h3,e⟩
 ·rw[e]at QA hmon hlen ⊢;exact⟨σ,Z,QA,hmon,hlen,h.zQ,h.org,h.rest⟩
 ·obtain⟨r1,r2⟩:=lN hl h1 h2 h3 e;have e2:(db s c).2=s.2++[c]:=by rw[e]
  have e3:(db s c).2.length=s.2.length+1:=by rw[e2];simp
  have hkM:k<M.length:=by rw[<-h.len];exact h2
  have hk:=h.rest k h1 hkM;obtain⟨d,hd,-,hdz⟩:=hW (σ k) (h.org k hkM);have hC:=h.zQ.push (u:=dD s.1 k) hd hdz hk hc h3 fun t ht=>hz k t h1 h2 ht;have hold:∀i,i<s.2.length->(db s c).2.getD i 0=s.2.getD i 0:=fun i hi=>by rw[e2,List.getD,aL hi,<-List.getD]
  have Pj:(db s c).2.getD s.2.length 0=c:=by rw[e2,List.getD,aN (aF _),bI];rfl
  have hE:∀i t,i<s.2.length+1->t<n->dD (db s c).1 i t=k8 (dD s.1) s.2.length (dD s.1 k) c i t:=fun i t hi ht=>by
   unfold k8;by_cases SU:i=s.2.length
   ·rw[if_pos SU,SU,r1,b9,b9,bp]
   ·rw[aJ SU,r2 i (by omega) SU t ht,aJ (by omega),b9,b9,bp]
  have Uj:zO (dD (db s c).1) (fun i=>(db s c).2.getD i 0) (db s c).2.length n B fun i t=>if i=s.2.length then d*dD M (σ k) t else Z i t:=by
   rw[e3];refine hC.congr hE (fun i hi=>?_) fun _ _ _ _=>rfl;by_cases SU:i=s.2.length
   ·rw[if_pos SU,SU,Pj]
   ·rw[aJ SU,hold i (by omega)]
  refine⟨fun j=>if j=k then σ s.2.length else σ j,_,QA,hmon,hlen,Uj,fun j hj=>?_,fun j hj hjM t ht=>?_⟩
  ·split
   ·exact h.org _ (by omega)
   ·exact h.org j hj
  ·rw[e3]at hj;have hjs:j<s.1.length:=by rw[h.len];exact hjM
   obtain⟨jj,hjj⟩:∃jj,(if j=k then s.2.length else j)=jj:=⟨_,rfl⟩
   have hjr:s.2.length<=jj:=by rw[<-hjj];split<;>omega
   have TA:jj<M.length:=by rw[<-hjj];split<;>omega
   have hσ:(if j=k then σ s.2.length else σ j)=σ jj:=by rw[<-hjj];split<;>rfl
   rw[hσ];refine M7 Uj.ru ?_ (fun i hi=>?_) ht
   ·have hr:eJ (dD (db s c).1) (db s c).2.length n (dD (db s c).1 s.2.length):=eJ.row (by omega);have h5:eJ (dD s.1) s.2.length n fun t=>cZ (fun i=>dD M (σ jj) (s.2.getD i 0)*dD s.1 i t) s.2.length:=⟨_,fun t _=>rfl⟩
    have h6:eJ (dD (db s c).1) (db s c).2.length n fun t=>cZ (fun i=>dD M (σ jj) (s.2.getD i 0)*dD s.1 i t) s.2.length:=h5.trans fun i hi=>by
     rw[e3];exact eJ.Ga (qk h3 i hi) hE
    refine(h6.add hr (dD s.1 jj c)).congr fun t ht=>?_;have h7:=h.rest jj hjr TA t ht;unfold mE at h7;rw[cL (g:=fun i=>dD M (σ jj) (s.2.getD i 0)*dD s.1 i t) fun i hi=>if_pos (h.zQ.ru.lt i hi)]at h7;rw[r2 j hjs (by omega) t ht,hjj,r1,h7];grind
   ·rw[QA.2.2.2.2 i j hi (by rw[hlen];exact hjM),aJ (by omega)]
theorem pZ{M:List (List Rat)}{n B:Nat}(hM:fZ n M)(hW:BF M n B):∀c,c<=n->∃σ Z,ElI M n B c (cN M c) σ Z
 |0,_=>⟨fun j=>j,fun _ _=>0,⟨hM,aQ _,fun _ _ _ _ h=>by omega,fun p hp=>(by cases hp),fun _ _ h=>(by cases h)⟩,⟨fun _ _ _ h=>(by cases h),fun _ _ h=>(by cases h)⟩,rfl,zO.start _ _ _ _ _,fun j hj=>hj,fun j _ hj t ht=>by
   show dD M j t=mE (dD M) _ 0 (dD M j) n t;unfold mE;show _=_-0
   grind⟩
 |c+1,hc=>by
  obtain⟨σ,Z,h⟩:=pZ hM hW c (by omega);unfold cN at h ⊢;rw[bM,List.foldl_append];exact h.step hW (by omega)
theorem zR{n:Nat}(hM:fZ n M)(hW:BF M n B)(hB:1<=B){c:Nat}(hc:c<=n):∀r∈(cN M c).1,∀q∈r,rl q<=ln (fB B M.length):=fun r hr q hq=>by
 obtain⟨σ,Z,h⟩:=pZ hM hW c hc;obtain⟨a,ha⟩:=aS hr;obtain⟨t,ht⟩:=aS hq;have Ok:=(aD.1 ha).1;have SS:=(aD.1 ht).1;rw[h.red.1 r hr]at SS;have hle:=h.red.2.1;have e:q=dD (cN M c).1 a t:=by rw[dD,show(cN M c).1.getD a []=r by rw[List.getD,ha];rfl,List.getD,ht];rfl
 rw[h.len]at Ok hle;rw[e];rcases aP a (cN M c).2.length with h1|h1
 ·exact aX (h.zQ.KN h1 SS) (fP (ql hB hle))
 ·obtain⟨d,hd,hdB,hz⟩:=hW _ (h.org a Ok);rw[h.rest a h1 Ok t SS];exact aX (h.zQ.KO hB hd hdB hz n SS) (fP (ql hB (by omega)))
end Go.Ex
namespace Go.Ex
open Go Go.Sx Go.Proofs
variable{K M:List (List Rat)}{qs x xs ys:List Rat}{cs:List Value}{h:Nat}{S:Nat->Prop}{q:Rat}{u v:Value}{w:World}
theorem Fh{a c i k:Nat}(h:i<k):(di M a c k)[i]? =(di M a c (i+1))[i]? :=by
 simp only[di,List.getElem?_mapIdx]
 have:(i<k∧i≠a)↔(i<i+1∧i≠a):=by omega
 simp[this,h]
theorem Fi{n cols:Nat}(hS:Old S w)(hm:da w S v M)(hlen:fZ n M)(hn:n<=1000)(hR:M.length<=1000)(Px:cols<=n)(hB:∀c,c<=cols->Ht (cN M c).1 h)(hh:3*h<=90000):
  eA PG N.rb #[v,.int .i64 cols] w (eF w fun v' w2=>∃vm vp,v'= .tuple #[vm,vp]∧da w2 (Nw S w w2) vm (cN M cols).1∧dR w2 (Nf w w2) vp (cN M cols).2):=by
 have hw:=bR w;replace hm:=da.arg hm [];obtain⟨rv0,⟨Rp,hl0,h1,am,cm,rfl,Rk,Ov⟩,hl,hrows⟩:=hm;unfold maxLen at Rp;have Pu:gZ w (Cv S w.heap.size []) rv0 M:=⟨hl,h1,hrows⟩
 refine vZ (by simp) ?_;refine .inl ?_;refine⟨rv0,hl0,h1,fun O w' r Ol=>?_,?_⟩
 ·obtain⟨u0,Qv⟩:∃u,rv0[0]? =some u:=⟨_,aB (by omega)⟩
  obtain⟨ad,ha,_,_⟩:=Ov 0 u0 Qv;refine⟨ad,ha,fun j u hj=>?_⟩;obtain⟨ad2,Ok,q1,q2⟩:=Ov j u hj;rw[ha]at Ok;injection Ok with Ok;subst Ok;rw[cH (w:=w) (w2:=w') (by rw[dN];exact Rel.same r hS q1)];exact q2
 refine⟨rfl,by omega,by unfold maxLen;omega,?_⟩;rw[aR M.length]
 refine⟨Nat×List Value×List (List Rat)×List Nat×World×Iv,fun z=>⟨[(1,iZ cols),(6,.o (.w 0 M.length)),(7,.o (.w 1 z.2.2.2.1.length)),(8,iN z.1)],[(1,.vec T.int 1 (z.2.2.2.1.map fun c:Nat=>.int .i64 (c:Int))),(0,.vec T.gA 1 z.2.1)],2,z.2.2.2.2.2,z.2.2.2.2.1⟩,fun z=>cols-z.1,
  fun z=>z.1<=cols∧(z.2.2.1,z.2.2.2.1)=(List.range z.1).foldl db (M,[])∧fZ n z.2.2.1∧(z.2.2.1.length=M.length∧z.2.2.2.1.length<=M.length)∧eE w.heap.size w z.2.2.2.2.1∧gZ z.2.2.2.2.1 (Cv S w.heap.size z.2.2.2.2.2) z.2.1 z.2.2.1,?_,?_⟩
 ·intro O w' r
  exact⟨(0,rv0,M,[],w',[]),⟨aQ _,rfl,hlen,⟨rfl,aQ _⟩,hw.tr r.cQ,Pu.rel r hS⟩,Sub.nil 7 T.int 1 rfl (by simp[j8,SV.sc,At.sc,fa]) r fun ρ1 r1=>
   Sub.gn [(0,1),(1,2)] r1⟩
 rintro⟨c,rv,M1,pv,w1,iv⟩ ⟨hc,Qx,Sq,hInv,hw,Pu⟩;dsimp only at hc Qx Sq hInv hw Pu ⊢;obtain⟨hI1,hI2⟩:=hInv;have hI4:Ht M1 h:=by
  have h5:=hB c hc;rw[show cN M c=(M1,pv)from Qx.symm]at h5;exact h5
 have Of:rv.length=M.length:=by rw[Pu.1,hI1]
 refine dK.mk ?_ ?_<;>intro OC
 ·have OC:c<cols:=by simpa using OC
  refine⟨by simp,Nat×World×Iv,fun z=>⟨[(1,iZ cols),(6,.o (.w 0 M.length)),(7,.o (.w 1 pv.length)),(8,iN c),(9,iN pv.length),(10,iN z.1)],[(1,.vec T.int 1 (pv.map fun c:Nat=>.int .i64 (c:Int))),(0,.vec T.gA 1 rv)],2,z.2.2,z.2.1⟩,fun z=>M.length-z.1,
   fun z=>pv.length<=z.1∧z.1<=M.length∧(∀j,pv.length<=j->j<z.1->dD M1 j c=0)∧eE w.heap.size w z.2.1∧gZ z.2.1 (Cv S w.heap.size z.2.2) rv M1,?_,?_⟩
  ·intro O w' r;exact⟨(pv.length,w',iv),⟨aF _,hI2,fun j h3 h4=>by dsimp only at h4;omega,hw.tr r.cQ,Pu.rel r hS⟩,Sub.gn [] r⟩
  rintro⟨k,w2,iv⟩ ⟨RA,VM,hkz,hw,Pu⟩;dsimp only at RA VM hkz hw Pu ⊢;have hRl:=Pu.1;refine⟨by rw[Of,aR,aT],?_⟩;refine dK.mk ?_ ?_<;>intro OH
  ·have OH:k<M.length:=by have:=aI OH;omega
   obtain⟨u,x,hu,hx,hux⟩:=Pu.get (i:=k) (by omega);have PZ:=Sq x (aC hx);obtain⟨y,hy⟩:∃y,x[c]? =some y:=⟨_,aB (by omega)⟩
   have QJ:dD M1 k c=y:=by simp[dD,List.getD,hx,hy]
   obtain⟨au,cu,rfl,hcu,-⟩:=cY.shape hux;obtain⟨ad,cs,OY,hF,_,SR⟩:=cY.load hux hy;obtain⟨p0,p1,p2,p3,p4,p5,p6,p7,rfl,hF⟩:=hF;refine⟨by simp[Of],by omega,.slice au x.length cu,by simpa using hu,ad,OY,by omega,[.bool p0,.slice p1 p2 p3,.bool p4,.slice p5 p6 p7],rfl,fun O w' r i x hx=>?_,?_⟩
   ·obtain⟨k1,k2⟩:=SR i x hx;rw[aE,cH (w:=w2) (w2:=w') (by rw[dN,dN];exact Rel.same r hS k1)];exact k2
   refine cF (cE hw (fun _ w' v w2=>v= .int .i64 (rs y)) (fun O w' r=>od (Rel.old r hS) (hF.rel r hS)) ?_);rintro O _ _ PS OJ r he hw h_ rfl;replace Pu:=Pu.cG r hS he (mC h_);refine dK.mk ?_ ?_<;>intro hs
   ·have hs:y=0:=ky.1 (by simpa using hs);refine⟨((k+1:Nat):Int),wo,?_⟩;intro ρ3 w3 r3
    exact⟨(k+1,w3,_),⟨by dsimp only;omega,OH,fun j h3 h4=>by
      by_cases hj:j=k
      ·rw[hj,QJ,hs]
      ·exact hkz j h3 (by dsimp only at h4;omega),hw.tr r3.cQ,Pu.rel r3 hS⟩,Sub.gn [] r3,by dsimp only;omega⟩
   have hs:y≠0:=fun e=>by rw[e]at hs;exact absurd hs (by decide)
   refine⟨by rw[Of,aR,aT],?_⟩;refine dK.mk (fun hge=>absurd (aI hge) (by omega)) (fun _=>?_);obtain⟨uk,xk,huk,hxk,huxk⟩:=Pu.get (i:=k) (by omega);obtain⟨ur,xr,Sm,Rr,huxr⟩:=Pu.get (i:=pv.length) (by omega);have hukc:=Pu.2.1 uk (aC huk);have hurc:=Pu.2.1 ur (aC Sm);obtain⟨aur,cur,rfl,-,-⟩:=cY.shape huxr;obtain⟨auk,cuk,rfl,-,-⟩:=cY.shape huxk;have hsw:fV [] M1 pv.length k=(M1.set pv.length xk).set k xr:=by simp[fV,List.getD,hxk,Rr]
   have Uk:pv.length<M.length:=by omega
   have OD:dD M1 k c≠0:=by rw[QJ];exact hs
   have Oi:=yu (s:=(M1,pv)) (c:=c) (k:=k) RA (by show k<M1.length;omega) hkz OD;dsimp only at Oi;have hHt2:=hI4.swap (i:=pv.length) (j:=k) (by omega) (by omega);have hat2:=Ed (M:=M1) (i:=pv.length) (j:=k) (c:=c) (by omega) (by omega);have hc1:Ht (di (scaled (fV [] M1 pv.length k) pv.length c) pv.length c M.length) h:=by
    have h5:=hB (c+1) OC;rw[show cN M (c+1)=db (M1,pv) c by unfold cN;rw[bM,List.foldl_append,<-Qx];rfl,Oi,hI1]at h5;exact h5
   have VN:(∀r,(scaled (fV [] M1 pv.length k) pv.length c)[pv.length]? =some r->∀q∈r,rl q+1<=h)∧∀j r,j≠pv.length->(scaled (fV [] M1 pv.length k) pv.length c)[j]? =some r->∀q∈r,rl q+1<=h:=
    ⟨fun r hr=>hc1 r (aC (i:=pv.length) (by rw[sO];exact hr)),fun j r hj hr=>hHt2 r (aC (i:=j) (by unfold Go.Ex.scaled at hr;rwa [aZ (Ne.symm hj)]at hr))⟩
   have RW:=(Pu.set (i:=pv.length) hukc huxk).set (i:=k) hurc huxr;rw[<-hsw]at RW;have Vn:fZ n (fV [] M1 pv.length k):=by
    rw[hsw];exact(Sq.set (Sq xk (aC hxk))).set (Sq xr (aC Rr))
   have PQ:(fV [] M1 pv.length k).length=M.length:=by rw[jc,hI1]
   generalize hrv2:(rv.set pv.length (.slice auk xk.length cuk)).set k (.slice aur xr.length cur)=rv2 at RW;have QT:rv2.length=M.length:=by rw[RW.1,PQ]
   refine cM hτ df [.x 0,.x 1,.x 2,.x 3,.x 4,.x 5,.x 6,.x 7,.x 8,.x 9,.x 10,.x 11,.x 12,.x 13,.x 14,.x 15] (by kernel_rfl) (by kernel_rfl) ?_;refine⟨by simp[Of],by omega,.slice auk xk.length cuk,by simpa using huk,by simp[Of],by omega,.slice aur xr.length cur,by simpa using Sm,by simp[Of],by omega,by simp[Of,QT];omega,rv.set pv.length (.slice auk xk.length cuk),by rw[aE,aT];exact gC (by simp[Of,QT];omega),by simp[Of],by omega,by simp[Of,QT];omega,rv2,by rw[aE,aT,<-hrv2];exact gC (by simp[Of,QT];omega),?_⟩;obtain⟨u2,x2,TD,RM,Sr⟩:=RW.get (i:=pv.length) (by omega);have hx2l:=Vn x2 (aC RM);obtain⟨y2,To⟩:∃y,x2[c]? =some y:=⟨_,aB (by omega)⟩
   have hat3:dD (fV [] M1 pv.length k) pv.length c=y2:=by simp[dD,List.getD,RM,To]
   have hy20:y2≠0:=by rw[<-hat3,hat2];exact OD
   have Qu:(fV [] M1 pv.length k).getD pv.length []=x2:=by simp[List.getD,RM]
   have hscl:scaled (fV [] M1 pv.length k) pv.length c=(fV [] M1 pv.length k).set pv.length (x2.map (· *(1 / y2))):=by rw[scaled,Qu,hat3]
   rw[hscl]at Oi VN hc1;have QE:=hHt2.at RM;have UF:=QE y2 (aC To);have hinv:=Kp hy20;have R6:((fV [] M1 pv.length k).set pv.length (x2.map (· *(1 / y2)))).length=M.length:=by rw[bF,PQ]
   have hget3:((fV [] M1 pv.length k).set pv.length (x2.map (· *(1 / y2))))[pv.length]? =some (x2.map (· *(1 / y2))):=aV (by omega);have Vo:fZ n ((fV [] M1 pv.length k).set pv.length (x2.map (· *(1 / y2)))):=Vn.set (by rw[aK];exact hx2l);generalize fV [] M1 pv.length k=M2 at*
   obtain⟨au2,cu2,rfl,hcu2,-⟩:=cY.shape Sr;obtain⟨ad2,cs2,Pc,R5,_,hlc2⟩:=cY.load Sr To;obtain⟨q0,q1,q2,q3,q4,q5,q6,q7,rfl,R5⟩:=R5;replace Of:=QT;refine cM hτ df [.x 1,.x 2,.x 3,.x 4,.x 5,.x 6,.x 7,.p 12,.x 0,.x 8,.x 9,.x 10,.x 11,.x 12,.x 13,.x 14] (by kernel_rfl) (by kernel_rfl) ?_;refine⟨by simp[Of],by omega,.slice au2 x2.length cu2,by simpa using TD,ad2,Pc,by omega,[.bool q0,.slice q1 q2 q3,.bool q4,.slice q5 q6 q7],rfl,fun O w' r i x hx=>?_,?_⟩
   ·obtain⟨k1,k2⟩:=hlc2 i x hx;rw[aE,cH (w:=PS) (w2:=w') (by rw[dN,dN];exact Rel.same r hS k1)];exact k2
   refine cE hw (fun _ w' v w2=>cT w2 (Nf w' w2) v (1:Rat)) (fun O w' r=>(show ((1:Int):Rat)=1 from rfl)▸qW 1 w' (by decide) (by decide)) ?_;rintro O _ _ _ OG r he hw h_ hn;replace RW:=RW.cG r hS he (mC h_);replace Sr:=cS.cG Sr r hS he (mC h_);replace R5:=R5.cG r hS he (mC h_);have h_1:=hn.dB (S:=FF) r.cD (mN h_);obtain⟨A0,A1,A2,A3,A4,A5,A6,A7,rfl⟩:=h_1.shape;refine cE hw (fun _ w' v w2=>∃q,v= .tuple #[q,.int .i64 0]∧cT w2 (Nf w' w2) q (1 / y2)) (fun O w' r=>JO (Rel.old r hS) (((h_1.rel r (cC w)).l (by rw[Ko];decide)).cK fun g hg=>Cv.false hg) (R5.rel r hS) hy20) ?_;rintro O _ _ _ ON r he hw h_ ⟨q,rfl,k1⟩;replace RW:=RW.cG r hS he (mC h_);replace Sr:=cS.cG Sr r hS he (mC h_);have PN:=k1.dB (S:=FF) r.cD (mN h_);obtain⟨s3_0a,s3_0b,s3_0c,s3_0d,s3_0e,s3_0f,s3_0g,s3_0h,rfl⟩:=PN.shape;refine cM hτ df [.x 0,.x 1,.x 2,.x 3,.x 4,.x 5,.x 6,.x 7,.x 8,.x 9] (by kernel_rfl) (by kernel_rfl) ?_;refine⟨by simp[Of],by omega,.slice au2 x2.length cu2,by simpa using TD,?_⟩;refine cE hw (fun _ w' v w2=>cI w2 (Nf w' w2) v (x2.map (· *(1 / y2)))) (fun O w' r=>(wD x2 (1 / y2))▸Dj (Rel.old r hS) (cS.nil w' _) (cS.rel Sr r hS) (((PN.rel r (cC w)).l (by omega)).cK fun g hg=>Cv.false hg) (.inl rfl) (by omega) (fun y hy=>by have:=QE y hy;omega)) ?_;rintro O _ _ _ OZ r he hw h_ hn;replace RW:=RW.cG r hS he (mC h_);have hx3:=cI.dB (S:=FF) hn r.cD (mN h_);obtain⟨a3,c3,rfl,hc3,-⟩:=cY.shape hx3;have hRV3:=RW.set (i:=pv.length) (u:=.slice a3 (x2.map (· *(1 / y2))).length c3) rfl (cS.cK (cI.l hx3 fun q hq=>by have:=VN.1 _ hget3 q hq;omega) fun g hg=>Cv.false hg);obtain⟨rv3,hrv3⟩:∃rv3,rv3=rv2.set pv.length (.slice a3 (x2.map (· *(1 / y2))).length c3):=⟨_,rfl⟩
   rw[<-hrv3]at hRV3;generalize x2.map (· *(1 / y2))=x3 at*
   generalize hM3:M2.set pv.length x3=M3 at*
   refine⟨by simp[Of],by omega,by simp[Of,QT];omega,rv3,by rw[aE,aT,hrv3];exact gC (by simp[Of,QT];omega),?_⟩;have hrl3:rv3.length=M.length:=by rw[hRV3.1,R6]
   refine⟨Nat×List Value×World×Iv,fun z=>⟨[(1,iZ cols),(6,.o (.w 0 M.length)),(7,.o (.w 1 pv.length)),(8,iN c),(9,iN pv.length),(13,iN z.1)],[(1,.vec T.int 1 (pv.map fun c:Nat=>.int .i64 (c:Int))),(0,.vec T.gA 1 z.2.1)],2,z.2.2.2,z.2.2.1⟩,fun z=>M.length-z.1,
    fun z=>z.1<=M.length∧eE w.heap.size w z.2.2.1∧gZ z.2.2.1 (Cv S w.heap.size z.2.2.2) z.2.1 (di M3 pv.length c z.1),?_,?_⟩
   ·intro O w' r;exact⟨(0,rv3,w',OZ),⟨aQ _,hw.tr r.cQ,by dsimp only;rw[DD];exact hRV3.rel r hS⟩,Sub.gn [] r⟩
   rintro⟨i,rv,w4,iv⟩ ⟨hi,hw,Pu⟩;dsimp only at hi hw Pu ⊢;have Of:rv.length=M.length:=by rw[Pu.1,gq,R6]
   refine⟨by rw[Of,aR,aT],?_⟩;refine dK.mk ?_ ?_<;>intro VO
   ·have VO:i<M.length:=by have:=aI VO;omega
    refine dK.mk ?_ ?_<;>intro SU
    ·have SU:i≠pv.length:=fun e=>by rw[e]at SU;simp at SU
     obtain⟨u4,x4,hu4,hx4,S4⟩:=Pu.get (i:=i) (by rw[gq];omega);obtain⟨u5,x5,hu5,hx5,TT⟩:=Pu.get (i:=pv.length) (by rw[gq];omega);rw[Gm _ _ _ _ _ (aF _)]at hx4;rw[sO]at hx5;have hx4l:=Vo x4 (aC hx4);have hx5l:=Vo x5 (aC hx5);obtain⟨y4,hy4⟩:∃y,x4[c]? =some y:=⟨_,aB (by omega)⟩
     have hy4d:x4.getD c 0=y4:=by simp[List.getD,hy4]
     have hx5d:M3.getD pv.length []=x5:=by simp[List.getD,hx5]
     have RS:=VN.2 i x4 SU hx4;have hb5:=VN.1 x5 hx5;have hyb4:=RS y4 (aC hy4);have hrn:=lY y4;obtain⟨au4,cu4,rfl,hcu4,-⟩:=cY.shape S4;obtain⟨au5,cu5,rfl,hcu5,-⟩:=cY.shape TT;obtain⟨ad4,cs4,had4,hF4,_,hlc4⟩:=cY.load S4 hy4;obtain⟨e0,e1,e2,e3,e4,e5,e6,e7,rfl,hF4⟩:=hF4;refine⟨by simp[Of],by omega,.slice au4 x4.length cu4,by simpa using hu4,ad4,had4,by omega,[.bool e0,.slice e1 e2 e3,.bool e4,.slice e5 e6 e7],rfl,fun O w' r i x hx=>?_,?_⟩
     ·obtain⟨k1,k2⟩:=hlc4 i x hx;rw[aE,cH (w:=w4) (w2:=w') (by rw[dN,dN];exact Rel.same r hS k1)];exact k2
     refine cF (cE hw (fun _ w' v w2=>v= .int .i64 (rs y4)) (fun O w' r=>od (Rel.old r hS) (hF4.rel r hS)) ?_);rintro O _ _ RO PF r he hw h_ rfl;replace Pu:=Pu.cG r hS he (mC h_);replace S4:=cS.cG S4 r hS he (mC h_);replace TT:=cS.cG TT r hS he (mC h_);refine dK.mk ?_ ?_<;>intro hs4
     ·have hs4:y4≠0:=fun e=>by rw[e]at hs4;exact absurd hs4 (by decide)
      obtain⟨ad6,cs6,had6,hF6,_,hlc6⟩:=cY.load S4 hy4;obtain⟨f0,f1,f2',f3,f4,f5,f6,f7,rfl,hF6⟩:=hF6;refine cM hτ df [.x 0,.x 1,.x 2,.x 3,.x 4,.x 5,.x 6,.x 7,.x 8,.x 9,.x 10,.x 11,.x 12,.x 13,.x 14,.x 15,.x 16,.x 17,.x 18,.x 19,.x 20] (by kernel_rfl) (by kernel_rfl) ?_;refine⟨by simp[Of],by omega,.slice au4 x4.length cu4,by simpa using hu4,by simp[Of],by omega,.slice au5 x5.length cu5,by simpa using hu5,by simp[Of],by omega,.slice au4 x4.length cu4,by simpa using hu4,ad6,had6,by omega,[.bool f0,.slice f1 f2' f3,.bool f4,.slice f5 f6 f7],rfl,fun O w' r i x hx=>?_,?_⟩
      ·obtain⟨k1,k2⟩:=hlc6 i x hx;rw[aE,cH (w:=RO) (w2:=w') (by rw[dN,dN];exact Rel.same r hS k1)];exact k2
      refine cE hw (fun _ w' v w2=>cT w2 (Nf w' w2) v (-y4)) (fun O w' r=>HK (Rel.old r hS) (hF6.rel r hS)) ?_;rintro O _ _ _ Q2 r he hw h_ hn;replace Pu:=Pu.cG r hS he (mC h_);replace S4:=cS.cG S4 r hS he (mC h_);replace TT:=cS.cG TT r hS he (mC h_);have hng:=hn.dB (S:=FF) r.cD (mN h_);obtain⟨C0,C1,C2,C3,C4,C5,C6,C7,rfl⟩:=hng.shape;refine cE hw (fun _ w' v w2=>cI w2 (Nf w' w2) v (jr x4 x5 (-y4))) (fun O w' r=>Dj (Rel.old r hS) (cS.rel S4 r hS) (cS.rel TT r hS) (((hng.rel r (cC w)).l (by omega)).cK fun g hg=>Cv.false hg) (.inr (by omega)) (by omega) (fun y hy=>by have:=hb5 y hy;omega)) ?_;rintro O _ _ _ RP r he hw h_ hn;replace Pu:=Pu.cG r hS he (mC h_);have hx7:=cI.dB (S:=FF) hn r.cD (mN h_);obtain⟨a7,c7,rfl,hc7,-⟩:=cY.shape hx7;have Pj:(di M3 pv.length c i).set i (jr x4 x5 (-y4))=di M3 pv.length c (i+1):=by
       rw[<-DE hx4 SU,hy4d,hx5d,HL _ (by omega)]
      have hrow7:(di M3 pv.length c (i+1))[i]? =some (jr x4 x5 (-y4)):=by rw[<-Pj];exact aV (by rw[gq];omega)
      have hb7:=hc1.at (i:=i) (by rw[Fh VO];exact hrow7);replace Pu:=Pu.set (i:=i) (u:=.slice a7 (jr x4 x5 (-y4)).length c7) rfl (cS.cK (cI.l hx7 fun q hq=>by have:=hb7 q hq;omega) fun g hg=>Cv.false hg);rw[Pj]at Pu;refine⟨by simp[Of],by omega,by simp[Of];omega,rv.set i (.slice a7 (jr x4 x5 (-y4)).length c7),by rw[aE,aT];exact gC (by omega),((i+1:Nat):Int),wo,?_⟩;intro ρ3 w3 r3;exact⟨(i+1,rv.set i (.slice a7 (jr x4 x5 (-y4)).length c7),w3,_),⟨VO,hw.tr r3.cQ,by dsimp only;rw[show i+1=i+1 from rfl];exact Pu.rel r3 hS⟩,Sub.gn [] r3,by dsimp only;omega⟩
     have hs4:y4=0:=ky.1 (by simpa using hs4);refine⟨((i+1:Nat):Int),wo,?_⟩;intro ρ3 w3 r3;exact⟨(i+1,rv,w3,_),⟨VO,hw.tr r3.cQ,by dsimp only;rw[Cs hx4 (by rw[hy4d,hs4])];exact Pu.rel r3 hS⟩,Sub.gn [] r3,by dsimp only;omega⟩
    have hir1:(i:Int)=pv.length:=by simpa using SU
    have SU:i=pv.length:=by omega
    refine⟨((i+1:Nat):Int),wo,?_⟩;intro ρ3 w3 r3;exact⟨(i+1,rv,w3,_),⟨VO,hw.tr r3.cQ,by dsimp only;rw[show di M3 pv.length c (i+1)=di M3 pv.length c i by rw[SU,<-DF]];exact Pu.rel r3 hS⟩,Sub.gn [] r3,by dsimp only;omega⟩
   have VO:i=M.length:=by have:=aH VO;omega
   subst VO;refine .inl ?_;refine⟨by simp,by omega,by unfold maxLen;omega,?_⟩;have hpm:(pv++[c]).map (fun c:Nat=>Value.int .i64 (c:Int))=pv.map (fun c:Nat=>Value.int .i64 (c:Int))++[.int .i64 (c:Int)]:=by simp
   rw[hI1]at Oi;refine⟨((c+1:Nat):Int),wo,?_⟩;intro ρ3 w3 r3;have hs:db (M1,pv) c=((di M3 pv.length c M.length),(pv++[c])):=Oi;have hf2:((di M3 pv.length c M.length),(pv++[c]))=(List.range (c+1)).foldl db (M,[]):=by rw[bM,List.foldl_append,<-Qx];exact hs.symm
   have RB:(db (M1,pv) c).1.length=M.length∧(db (M1,pv) c).2.length<=M.length:=by
    have h5:=(dc hlen (c+1) (by omega)).2.1;have h6:=eB M (c+1);rw[show cN M (c+1)=db (M1,pv) c by unfold cN;rw[bM,List.foldl_append,<-Qx];rfl]at h5 h6;omega
   have PQ:=fZ.step (s:=(M1,pv)) (c:=c) Sq;rw[hs]at RB PQ;exact⟨(c+1,rv,(di M3 pv.length c M.length),(pv++[c]),w3,_),⟨OC,hf2,PQ,RB,hw.tr r3.cQ,Pu.rel r3 hS⟩,Sub.gn [(1,3)] r3 ⟨by dsimp only;rw[hpm];rfl,rfl,trivial⟩ ⟨rfl,rfl,by dsimp only;rw[List.length_append,List.length_singleton];rfl,rfl,trivial⟩,by dsimp only;omega⟩
  have OH:k=M.length:=by have:=aH OH;omega
  refine⟨by rw[Of,aR,aT],?_⟩;refine dK.mk (fun _=>?_) (fun hge=>absurd (aH hge) (by omega));refine⟨((c+1:Nat):Int),wo,?_⟩;intro ρ3 w3 r3;have hs:db (M1,pv) c=(M1,pv):=Ie RA (by show k=M1.length;omega) hkz;have hf2:(M1,pv)=(List.range (c+1)).foldl db (M,[]):=by rw[bM,List.foldl_append,<-Qx];exact hs.symm
  have RB:(db (M1,pv) c).1.length=M.length∧(db (M1,pv) c).2.length<=M.length:=by
   have h5:=(dc hlen (c+1) (by omega)).2.1;have h6:=eB M (c+1);rw[show cN M (c+1)=db (M1,pv) c by unfold cN;rw[bM,List.foldl_append,<-Qx];rfl]at h5 h6;omega
  have PQ:=fZ.step (s:=(M1,pv)) (c:=c) Sq;rw[hs]at RB PQ;exact⟨(c+1,rv,M1,pv,w3,_),⟨OC,hf2,PQ,RB,hw.tr r3.cQ,Pu.rel r3 hS⟩,Sub.gn [] r3,by dsimp only;omega⟩
 have OC:c=cols:=aO hc (by simpa using OC);subst OC;have QA:cN M c=(M1,pv):=Qx.symm;rw[QA];intro ρe we re;refine⟨_,rfl,hw.tr re.cQ,_,_,rfl,⟨rv,?_,Pu.1,fun i u x h1 h2=>cS.out (Pu.2.2 i u x h1 h2) re hS⟩,?_⟩
 ·have:=re.iG (id:=0) (sz:=1) (m:=M.length) rfl (by rw[Of,aT]) (by unfold maxLen;omega) (by decide) Pu.2.1;rw[show (M1,pv).1.length=M.length from hI1];exact this.cK fun g hg=>.inr hg
 ·have:=re.iG (id:=1) (sz:=1) (m:=pv.length) rfl (by simp) (by unfold maxLen;omega) (by decide) (fun u hu=>by
   obtain⟨_,_,rfl⟩:=aU.1 hu
   rfl)
  exact this.cK fun g hg=>.inr hg
theorem JP{M:List (List (Int×Int))}{b:List (Int×Int)}{h0:Nat}(hS:Old S w)(h:jh w S v M)(hL:da w S v (ir M))(hu:cS w S u (b.map iI))(Ph:∀r∈M,r.length=gS M)(PX:b.length=M.length)(hR:M.length<=1000)(hn:gS M<=999)
  (hB:∀c,c<=gS M->Ht (cN (dH (ir M) (b.map iI)) c).1 h0) (hh:3*h0<=90000):
  eA PG N.qB #[v,u] w (eF w fun v' w2=>(∃j,(cN (dH (ir M) (b.map iI)) (gS M)).2.length<=j∧j<M.length∧dD (cN (dH (ir M) (b.map iI)) (gS M)).1 j (gS M)≠0∧v'= .tuple #[.slice none 0 0,.bool false])∨
   ((∀j,(cN (dH (ir M) (b.map iI)) (gS M)).2.length<=j->j<M.length->dD (cN (dH (ir M) (b.map iI)) (gS M)).1 j (gS M)=0)∧∃vx,v'= .tuple #[vx,.bool true]∧cI w2 (Nf w w2) vx (fy (cN (dH (ir M) (b.map iI)) (gS M)).1 (cN (dH (ir M) (b.map iI)) (gS M)).2 (gS M) (cN (dH (ir M) (b.map iI)) (gS M)).2.length))):=by
 have hw:=bR w;have QQ:(ir M).length=M.length:=by simp[ir]
 have Vp:fZ (gS M) (ir M):=fun r hr=>by
  rw[ir]at hr;obtain⟨x,hx,rfl⟩:=aU.1 hr;rw[aK];exact Ph x hx
 have hlen:=gH (b:=b.map iI) Vp;have Sb:(dH (ir M) (b.map iI)).length=M.length:=by rw[eH,QQ]
 replace h:=jh.arg h [];replace hL:=da.arg hL [];replace hu:=cS.arg hu [];obtain⟨am,cm,rfl,Rk,Qg⟩:=dM.shape h;obtain⟨ab,cb,rfl,Pq,-⟩:=cY.shape hu;refine AM (by simp) ?_;refine cF (cE hw (fun _ w' v w2=>v= .int .i64 (gS M)) (fun O w' r=>HM (Rel.old r hS) (jh.rel h r hS)) ?_);rintro O _ v1 _ OJ r he hw h_ rfl;replace hL:=da.cG hL r hS he (mC h_);replace hu:=cS.cG hu r hS he (mC h_);refine cF (cO (Φ:=fun _ w' v w2=>da w2 (Nw (Cv S w.heap.size OJ) w' w2) v (dH (ir M) (b.map iI))) (fun O w' r=>LV (Rel.old r hS) (da.rel hL r hS) (cS.rel hu r hS) (by rw[aK,QQ];exact PX) (fun r hr=>by rw[Vp r hr];omega) (by omega)) ?_);rintro O Pn v2 PJ r he hb hn;replace hw:=hw.tr hb;have hW:=da.old hn r.cD;generalize (Pn.heap.size,PJ.heap.size)::OJ=OG at*
 refine cF (cO (Φ:=fun _ w' v w2=>∃vm vp,v= .tuple #[vm,vp]∧da w2 (Nw (Cv S w.heap.size OG) w' w2) vm (cN (dH (ir M) (b.map iI)) (gS M)).1∧dR w2 (Nf w' w2) vp (cN (dH (ir M) (b.map iI)) (gS M)).2) (fun O w' r=>Fi (Rel.old r hS) (da.rel hW r hS) hlen (by omega) (by omega) (by omega) hB hh) ?_);rintro O PH v3 PD r he hb ⟨vm,vp,rfl,k1,k2⟩;replace hw:=hw.tr hb;have hA:=da.old k1 r.cD;have hP:=dR.dB (S:=FF) k2 r.cD (iv:=(PH.heap.size,PD.heap.size)::OG) aG;generalize (PH.heap.size,PD.heap.size)::OG=ON at*
 obtain⟨aA,cA,rfl,hcA,-⟩:=dM.shape hA;have hPs:=hP;obtain⟨-,-,-,ap,cp,rfl,hcp,-⟩:=hPs;have hAl:=eB (dH (ir M) (b.map iI)) (gS M);obtain⟨-,PR,-,Qz,-⟩:=dc hlen (gS M) (by omega);rw[hAl]at PR;have hAh:=hB (gS M) (aF _);have hAlen:=FC (cols:=gS M) hlen;rw[Sb]at hAl PR;generalize (cN (dH (ir M) (b.map iI)) (gS M)).1=A at*
 generalize (cN (dH (ir M) (b.map iI)) (gS M)).2=pv at*
 generalize gS M=cols at*
 rw[<-hAl]at hR PR ⊢
 refine⟨cols,cols,rfl,rfl,aF _,by omega,by omega,Nat×List (List Value)×World×Iv,fun z=>⟨[(6,iZ cols),(7,sV aA A.length cA),(8,sV ap pv.length cp),(9,.o (.s 0 0 cols cols)),(10,iN z.1)],[(0,.arr T.Rat z.2.1.flatten)],1,z.2.2.2,z.2.2.1⟩,fun z=>cols-z.1,
  fun z=>z.1<=cols∧z.2.1.length=cols∧(∀x∈z.2.1,x.length=4)∧eE w.heap.size w z.2.2.1∧da z.2.2.1 (Cv S w.heap.size z.2.2.2) (.slice aA A.length cA) A∧dR z.2.2.1 (Cf w z.2.2.2) (.slice ap pv.length cp) pv∧
   kJ z.2.2.1 (Cf w z.2.2.2) z.2.1 z.1,?_,?_⟩
 ·intro O w' r
  exact⟨(0,List.replicate cols [.bool false,.slice none 0 0,.bool false,.slice none 0 0],w',ON),⟨aQ _,by simp,fun x hx=>by rw[bP hx];rfl,hw.tr r.cQ,da.rel hA r hS,dR.rel hP r (cC w),fun j cs hj=>by dsimp only at hj;omega⟩,
   Sub.gn [] r⟩
 rintro⟨k,css,w2,iv⟩ ⟨hk,PU,R4,hw,hA,hP,hz⟩;dsimp only at hk PU R4 hw hA hP hz ⊢;refine dK.mk ?_ ?_<;>intro OH
 ·have OH:k<cols:=by simpa using OH
  refine cF (cE hw (fun _ w' v w2=>cT w2 (Nf w' w2) v (0)) (fun O w' r=>(show ((0:Int):Rat)=0 from rfl)▸qW 0 w' (by decide) (by decide)) ?_);rintro O _ _ _ OZ r he hw h_ hn;replace hA:=da.cG hA r hS he (mC h_);replace hP:=dR.cG hP r (cC w) he (mC h_);replace hz:=hz.cG r (cC w) he (mC h_);have h_0:=hn.dB (S:=FF) r.cD (mN h_);obtain⟨A0,A1,A2,A3,A4,A5,A6,A7,rfl⟩:=h_0.shape;refine⟨by omega,?_⟩;have OX:=eY R4;refine⟨by rw[aE,OX];omega,(css.set k [.bool A0,.slice A1 A2 A3,.bool A4,.slice A5 A6 A7]).flatten,by rw[aE,aR];exact jN (css:=css) (j:=k) R4 (by omega),((k+1:Nat):Int),wo,?_⟩;intro ρ3 w3 r3
  exact⟨(k+1,css.set k [.bool A0,.slice A1 A2 A3,.bool A4,.slice A5 A6 A7],w3,_),⟨OH,by simp[PU],LW R4 rfl,hw.tr r3.cQ,da.rel hA r3 hS,dR.rel hP r3 (cC w),(hz.rel r3 (cC w)).push (h_0.rel r3 (cC w)).qS⟩,
   Sub.gn [] r3,by dsimp only;omega⟩
 have OH:k=cols:=aO hk (by simpa using OH);subst OH;have hFc:Fc w2 (Cf w iv) css (fy A pv k 0):=by
  refine⟨by rw[PU,jH],fun j cs q h1 h2=>?_⟩;have hj:=(aD.1 h1).1;simp only[fy,List.range_zero,List.foldl_nil,List.getElem?_replicate]at h2;split at h2
  ·injection h2 with h2;rw[<-h2];exact hz j cs (by omega) h1
  ·cases h2
 refine⟨Nat×Nat×World×Iv,fun z=>⟨[(9,.o (.v (.slice (some ⟨z.2.1,0,none⟩) k k))),(6,iZ k),(7,sV aA A.length cA),(8,sV ap pv.length cp),(11,iN z.1)],[],1,z.2.2.2,z.2.2.1⟩,fun z=>A.length-z.1,
  fun z=>z.1<=A.length∧(∀j,pv.length<=j->j<z.1->dD A j k=0)∧eE w.heap.size w z.2.2.1∧(∀p,p∈iv->p∈z.2.2.2)∧¬Cv S w.heap.size iv z.2.1∧w.heap.size<=z.2.1∧da z.2.2.1 (Cv S w.heap.size iv) (.slice aA A.length cA) A∧dR z.2.2.1 (Cf w iv) (.slice ap pv.length cp) pv∧
   dg z.2.2.1 FF w.heap.size z.2.2.2 (.slice (some ⟨z.2.1,0,none⟩) k k) k (fy A pv k (min z.1 pv.length)),?_,?_⟩
 ·intro O w' r
  exact⟨(0,(O 0).g,w',((O 0).g,(O 0).g+1)::iv),⟨aQ _,fun j h3 h4=>by dsimp only at h4;omega,hw.tr r.cQ,fun p hp=>List.mem_cons_of_mem _ hp,fun hg=>Rel.not r hS hg 0 _ rfl (r.fits (id:=0) rfl).1 rfl,(r.low 0 _ rfl (r.fits (id:=0) rfl).1).1,da.rel hA r hS,dR.rel hP r (cC w),by dsimp only;rw[Nat.zero_min];exact dg.kA r (id:=0) rfl PU (by unfold maxLen;omega) hFc⟩,
   Sub.kA r (id:=0) (t:=9) rfl rfl trivial rfl ⟨rfl,rfl,rfl,rfl,trivial⟩ (by simp[j8,SV.sc,At.sc])⟩
 rintro⟨i,gx,w5,PF⟩ ⟨hi,hzr,hw,QD,Q9,hxB,hA,hP,hX⟩;dsimp only at hi hzr hw QD Q9 hxB hA hP hX ⊢;refine dK.mk ?_ ?_<;>intro RB
 ·have RB:i<A.length:=by simpa using RB
  obtain⟨ra,Vq⟩:∃r,A[i]? =some r:=⟨_,aB (by omega)⟩
  have hral:=hAlen ra (aC Vq);obtain⟨adm,um,Qd,Oh,km1,km2⟩:=dM.load hA Vq;obtain⟨au,cu,rfl,hcu,-⟩:=cY.shape Oh;obtain⟨q,hq⟩:∃q,ra[k]? =some q:=⟨_,aB (by omega)⟩
  have QJ:dD A i k=q:=by simp[dD,List.getD,Vq,hq]
  obtain⟨adq,cs,TG,hF,_,hl⟩:=cY.load Oh hq;obtain⟨b3,a3,n3,c3,b4,a4,n4,c4,rfl,hF⟩:=hF;have R7:∀{H nx O w'},Rel H nx PF w.heap.size w5 O w'->∀{g},Cv S w.heap.size iv g->w'.heap[g]? =w5.heap[g]? :=fun r g hg=>Rel.same r hS (hg.mono QD);refine dK.mk ?_ ?_<;>intro Vr
  ·have Vr:i<pv.length:=by simpa using Vr
   obtain⟨p,hpi⟩:∃p,pv[i]? =some p:=⟨_,aB Vr⟩
   have hpd:pv.getD i 0=p:=by simp[List.getD,hpi]
   have hpcol:=Qz p (aC hpi);have hPs:=hP;obtain⟨_,_,_,_,_,hpe,_,hpcell⟩:=hPs;injection hpe with hpe1 hpe2 hpe3;subst hpe1 hpe3;obtain⟨adp,Qr,kp1,kp2⟩:=hpcell i (.int .i64 (p:Int)) (by rw[aM,hpi];rfl);rw[Nat.min_eq_left (by omega)]at hX;refine cM hτ df [.x 0,.x 1,.x 2,.x 3,.x 4,.x 5,.x 6,.x 7,.x 8,.x 9,.x 10,.x 11,.x 12,.x 13,.x 14] (by kernel_rfl) (by kernel_rfl) ?_;refine⟨adp,Qr,by omega,.int .i64 (p:Int),fun O w' r=>?_,?_⟩
   ·rw[aE,aT,cH (w:=w5) (w2:=w') (by rw[dN];exact R7 r (D7 kp1))];exact kp2
   refine⟨adm,Qd,by omega,.slice au ra.length cu,fun O w' r=>?_,?_⟩
   ·rw[aE,cH (w:=w5) (w2:=w') (by rw[dN];exact R7 r km1)];exact km2
   refine⟨adq,TG,by omega,[.bool b3,.slice a3 n3 c3,.bool b4,.slice a4 n4 c4],rfl,fun O w' r j u hu=>?_,?_⟩
   ·obtain⟨k1,k2⟩:=hl j u hu;rw[aE,cH (w:=w5) (w2:=w') (by rw[dN,dN];exact R7 r k1)];exact k2
   refine cO (Φ:=fun _ w' v w2=>cT w2 (Nf w' w2) v q) (fun O w' r=>gF (fun g hg=>Rel.old r hS g (hg.mono QD)) (hF.cJ fun g hg=>R7 r hg)) ?_;rintro O wa v1 wb r he hb hO;have hON:cT wb (fun g=>Cf w ((wa.heap.size,wb.heap.size)::PF) g∧(Value.slice (some ⟨gx,0,none⟩) k k).ownBlock≠some g) v1 q:=hO.cK fun g hg=>by
    rcases hg with hg|hg
    ·exact hg.elim
    ·have hB:=r.cD;have:=Rel.old r hS gx (D7 (hX.new gx rfl));refine⟨.inr ⟨by omega,_,_,aG,hg.1,hg.2⟩,fun e=>?_⟩;have e2:gx=_:=Option.some.inj e;omega
   replace hX:=hX.cG (iv':=(wa.heap.size,wb.heap.size)::PF) r (cC w) he fun x hx=>List.mem_cons_of_mem _ hx;have TU:∀g,Cv S w.heap.size iv g->wb.heap[g]? =w5.heap[g]? :=fun g hg=>by rw[he.block g (Rel.old r hS g (hg.mono QD)),Rel.same r hS (hg.mono QD)]
   replace hA:=da.cJ hA TU;replace hP:=ij.cJ hP fun g hg=>TU g (D7 hg);replace hw:=hw.tr hb;replace QD:∀p,p∈iv->p∈(wa.heap.size,wb.heap.size)::PF:=fun p hp=>List.mem_cons_of_mem _ (QD p hp);generalize (wa.heap.size,wb.heap.size)::PF=Q2 at*
   obtain⟨b1,a1,n1,c1,b2,a2,n2,c2,rfl⟩:=hON.shape;refine⟨⟨gx,0,none⟩,rfl,by omega,?_⟩;intro O w' r;obtain⟨_,TF,h1,h2',h3,h4,h5⟩:=(hX.rel r (cC w)).store hpcol (cT.cJ hON fun g hg=>Rel.same r (cC w) hg.1) r (cC w);injection TF with TF;injection TF with TF;subst TF;have TU:∀g,Cv S w.heap.size iv g->w'.heap[g]? =wb.heap[g]? :=fun g hg=>Rel.same r hS (hg.mono QD);replace hw:=hw.tr r.cQ;have hold:∀g,Cv S w.heap.size Q2 g->g<w'.heap.size:=Rel.old r hS;refine⟨h1,h2',h3,fun w2 Oz=>?_⟩;obtain⟨hX,PV,-⟩:=h5 w2 Oz;have hkp2:∀g,Cv S w.heap.size iv g->w2.heap[g]? =wb.heap[g]? :=fun g hg=>by
    rw[<-TU g hg];exact PV.block g (hold g (hg.mono QD)) fun e=>by injection e with e;subst e;exact Q9 hg
   replace hA:=da.cJ hA hkp2;replace hP:=ij.cJ hP fun g hg=>hkp2 g (D7 hg);replace hw:eE w.heap.size w w2:=hw.tr (eE.grown PV (fun g hg=>by injection hg with hg;subst hg;exact hxB) (by have:=hw.size;omega));rw[<-QJ,<-hpd,<-gV]at hX;refine⟨((i+1:Nat):Int),wo,?_⟩;intro ρ3 w3 r3;have TU:∀g,Cv S w.heap.size iv g->w3.heap[g]? =w2.heap[g]? :=fun g hg=>Rel.same r3 hS (hg.mono QD)
   exact⟨(i+1,gx,w3,Q2),⟨RB,fun j h3 h4=>by dsimp only at h4;omega,hw.tr r3.cQ,QD,Q9,hxB,da.cJ hA TU,ij.cJ hP fun g hg=>TU g (D7 hg),by dsimp only;rw[Nat.min_eq_left (by omega)];exact hX.rel r3 (cC w)⟩,
    Sub.gn [] r3,by dsimp only;omega⟩
  have Vr:pv.length<=i:=by have:=aH Vr;omega
  refine⟨adm,Qd,by omega,.slice au ra.length cu,fun O w' r=>?_,?_⟩
  ·rw[aE,cH (w:=w5) (w2:=w') (by rw[dN];exact R7 r km1)];exact km2
  refine⟨adq,TG,by omega,[.bool b3,.slice a3 n3 c3,.bool b4,.slice a4 n4 c4],rfl,fun O w' r j u hu=>?_,?_⟩
  ·obtain⟨k1,k2⟩:=hl j u hu;rw[aE,cH (w:=w5) (w2:=w') (by rw[dN,dN];exact R7 r k1)];exact k2
  refine cF (cO (Φ:=fun _ w' v w2=>v= .int .i64 (rs q)) (fun O w' r=>od (fun g hg=>Rel.old r hS g (hg.mono QD)) (hF.cJ fun g hg=>R7 r hg)) ?_);rintro O wa v1 wb r he hb rfl;replace hX:=hX.cG (iv':=(wa.heap.size,wb.heap.size)::PF) r (cC w) he fun x hx=>List.mem_cons_of_mem _ hx;have TU:∀g,Cv S w.heap.size iv g->wb.heap[g]? =w5.heap[g]? :=fun g hg=>by rw[he.block g (Rel.old r hS g (hg.mono QD)),Rel.same r hS (hg.mono QD)]
  replace hA:=da.cJ hA TU;replace hP:=ij.cJ hP fun g hg=>TU g (D7 hg);replace hw:=hw.tr hb;replace QD:∀p,p∈iv->p∈(wa.heap.size,wb.heap.size)::PF:=fun p hp=>List.mem_cons_of_mem _ (QD p hp);generalize (wa.heap.size,wb.heap.size)::PF=Q2 at*
  refine dK.mk ?_ ?_<;>intro hs
  ·have hs:q≠0:=fun e=>by rw[ky.2 e]at hs;exact absurd hs (by decide)
   exact rtn hw fun ρe we re=>.inl ⟨i,Vr,RB,by rw[QJ];exact hs,rfl⟩
  have hs:q=0:=ky.1 (by simpa using hs);refine⟨((i+1:Nat):Int),wo,?_⟩;intro ρ3 w3 r3;have TU:∀g,Cv S w.heap.size iv g->w3.heap[g]? =wb.heap[g]? :=fun g hg=>Rel.same r3 hS (hg.mono QD)
  exact⟨(i+1,gx,w3,Q2),⟨RB,fun j h3 h4=>by
    by_cases hj:j=i
    ·rw[hj,QJ,hs]
    ·exact hzr j h3 (by dsimp only at h4;omega),hw.tr r3.cQ,QD,Q9,hxB,da.cJ hA TU,ij.cJ hP fun g hg=>TU g (D7 hg),by dsimp only;rw[Nat.min_eq_right (by omega),<-Nat.min_eq_right Vr];exact hX.rel r3 (cC w)⟩,
   Sub.gn [] r3,by dsimp only;omega⟩
 have RB:i=A.length:=aO hi (by simpa using RB);subst RB;rw[Nat.min_eq_right PR]at hX;intro ρe we re;refine⟨_,rfl,hw.tr re.cQ,.inr ⟨hzr,_,rfl,?_⟩⟩;exact cI.out hX.aAu re (cC w)
theorem Lj(hS:Old S w)(hx:cS w S v xs)(hy:cS w S u ys)(hl:xs.length=ys.length)(Tn:∀q∈xs,rl q+1<=h)(hqy:∀q∈ys,rl q+1<=h)(h2:2<=h)(hb:2*h*xs.length<=90000):
  eA PG N.CF #[v,u] w (eF w fun v' w2=>cT w2 (Nf w w2) v' (dP xs ys xs.length)):=by
 have hw:=bR w;obtain⟨ax,cx,rfl,Sf,SI⟩:=hx.shape;obtain⟨ay,cy,rfl,hcy,-⟩:=hy.shape;unfold maxLen at SI;refine DQ (by simp) ?_;refine cF (cE hw (fun _ w' v w2=>cT w2 (Nf w' w2) v (((0:Int):Rat))) (fun O w' r=>qW 0 w' (by decide) (by decide)) ?_);rintro O _ _ _ OJ r he hw h_ hn;have hd:=hn.dB (S:=FF) r.cD (mN h_);obtain⟨A0,A1,A2,A3,A4,A5,A6,A7,rfl⟩:=hd.shape;rw[show ((0:Int):Rat)=dP xs ys 0 from rfl]at hd
 refine⟨Nat×(Bool×Bool)×(Option Addr×Option Addr)×(Nat×Nat×Nat×Nat)×World×Iv,fun z=>⟨[(0,sV ax xs.length cx),(1,sV ay ys.length cy),(4,pP 0 0),(5,pP 1 0),(6,iN z.1)],[(1,.box T.Rat [.v (.bool z.2.1.1),.v (.slice z.2.2.1.1 z.2.2.2.1.1 z.2.2.2.1.2.1),.v (.bool z.2.1.2),.v (.slice z.2.2.1.2 z.2.2.2.1.2.2.1 z.2.2.2.1.2.2.2)]),(0,.box T.Rat [.v (.bool false),.v (.slice none 0 0),.v (.bool false),.v (.slice none 0 0)])],2,z.2.2.2.2.2,z.2.2.2.2.1⟩,fun z=>xs.length-z.1,
  fun z=>z.1<=xs.length∧eE w.heap.size w z.2.2.2.2.1∧cT z.2.2.2.2.1 (Cf w z.2.2.2.2.2) (.agg #[.bool z.2.1.1,.slice z.2.2.1.1 z.2.2.2.1.1 z.2.2.2.1.2.1,.bool z.2.1.2,.slice z.2.2.1.2 z.2.2.2.1.2.2.1 z.2.2.2.1.2.2.2]) (dP xs ys z.1),?_,?_⟩
 ·intro O w' r;exact⟨(0,(A0,A4),(A1,A5),(A2,A3,A6,A7),w',OJ),⟨by simp,hw.tr r.cQ,hd.rel r (cC w)⟩,Sub.gn [] r⟩
 rintro⟨i,⟨p0,p4⟩,⟨p1,p5⟩,⟨p2,p3,p6,p7⟩,w1,iv⟩ ⟨hi,hw,hd⟩;dsimp only at hi hw hd ⊢;refine dK.mk ?_ ?_<;>intro OC
 ·have OC:i<xs.length:=by simpa using OC
  have hs:=kW Tn hqy h2 i;have QS:2*h*i<=2*h*xs.length:=bY _ hi;have hs3:2*h*1<=2*h*xs.length:=bY _ (by omega);obtain⟨x,PL⟩:∃x,xs[i]? =some x:=⟨_,aB OC⟩
  obtain⟨y,SJ⟩:∃x,ys[i]? =some x:=⟨_,aB (by omega)⟩
  have hx3:=Tn x (aC PL);have hy3:=hqy y (aC SJ);have RM:xs.getD i 0=x:=by rw[List.getD,PL];rfl
  have To:ys.getD i 0=y:=by rw[List.getD,SJ];rfl
  have hm:=jE x y;obtain⟨adx,csx,PC,Qn,-,Oa⟩:=cY.load hx PL;obtain⟨ady,csy,Ts,RE,-,QP⟩:=cY.load hy SJ;obtain⟨f0,f1,f2,f3,f4,f5,f6,f7,rfl,Qn⟩:=Qn;obtain⟨q0,q1,q2,q3,q4,q5,q6,q7,rfl,RE⟩:=RE;refine cM hτ df [.x 0,.x 1,.x 2,.x 3,.x 4,.x 5,.x 6,.x 7,.x 8,.x 9,.x 10,.x 11] (by kernel_rfl) (by kernel_rfl) ?_;refine⟨adx,PC,by omega,[.bool f0,.slice f1 f2 f3,.bool f4,.slice f5 f6 f7],rfl,rdO Oa hw hS,ady,Ts,by omega,[.bool q0,.slice q1 q2 q3,.bool q4,.slice q5 q6 q7],rfl,rdO QP hw hS,?_⟩;refine cE hw (fun _ w' v w2=>cT w2 (Nf w' w2) v (x*y)) (fun O w' r=>H0 (oS hS r) (Qn.cJ (kS hw r hS)) (RE.cJ (kS hw r hS))) ?_;rintro O _ _ _ OG r he hw h_ hn;replace hd:=hd.cG r (cC w) he (mC h_);have hp:=hn.dB (S:=FF) r.cD (mN h_);obtain⟨C0,C1,C2,C3,C4,C5,C6,C7,rfl⟩:=hp.shape;refine cE hw (fun _ w' v w2=>cT w2 (Nf w' w2) v (dP xs ys i+x*y)) (fun O w' r=>HZ (Rel.old r (cC w)) ((hd.rel r (cC w)).l (by omega)) ((hp.rel r (cC w)).l (by omega))) ?_;rintro O _ _ _ ON r he hw h_ hn;have Oc:=hn.dB (S:=FF) r.cD (mN h_);obtain⟨E0,E1,E2,E3,E4,E5,E6,E7,rfl⟩:=Oc.shape;rw[show dP xs ys i+x*y=dP xs ys (i+1) by rw[dP,RM,To]]at Oc;refine⟨((i+1:Nat):Int),wo,?_⟩;intro ρ3 w3 r3;exact⟨(i+1,(E0,E4),(E1,E5),(E2,E3,E6,E7),w3,_),⟨OC,hw.tr r3.cQ,Oc.rel r3 (cC w)⟩,Sub.gn [] r3,by dsimp only;omega⟩
 have OC:i=xs.length:=aO hi (by simpa using OC);subst OC;exact rtn hw fun ρe we re=>hd.out re (cC w)
section
variable{S:Nat->Prop}{H:Hp}{nx:Nat}{iv iv':Iv}{B:Nat}{w w' w2:World}{O:Nat->Sx.dx}{css:List (List Value)}{qs:List Rat}
theorem Fc.rel(h:Fc w (Cv S B iv) css qs)(r:Rel H nx iv B w O w')(hS:∀g,S g->g<B):Fc w' (Cv S B iv) css qs:=h.cJ fun _ hg=>Rel.same r hS hg
theorem Fc.cG(h:Fc w (Cv S B iv) css qs)(r:Rel H nx iv B w O w')(hS:∀g,S g->g<B)(he:Ext w' w2)(hm:∀p,p∈iv->p∈iv'):Fc w2 (Cv S B iv') css qs:=
 ((h.rel r hS).cJ fun g hg=>he.block g (Rel.old r hS g hg)).cK fun _ hg=>hg.mono hm
theorem Fc.push(h:Fc w S css qs)(hc:iU w S cs q):Fc w S (css++[cs]) (qs++[q]):=by
 refine⟨by simp[h.1],fun j x p h1 h2=>?_⟩;rcases aP j css.length with hi|hi
 ·rw[aL hi]at h1;rw[aL (by rw[<-h.1];exact hi)]at h2;exact h.2 j x p h1 h2
 ·have RT:j=css.length:=by have:=(aD.1 h1).1;simp at this;omega
  subst RT;rw[aN (aF _),bI]at h1;rw[h.1,aN (aF _),bI]at h2;simp at h1 h2;subst h1 h2;exact hc
end
section
variable{S S':Nat->Prop}{H:Hp}{nx:Nat}{iv iv':Iv}{B:Nat}{w w' w2:World}{O:Nat->Sx.dx}{v:Value}{b:List (Int×Int)}
end
def j6(qs:List Rat):List (Int×Int):=qs.map fun q=>(q.num,(q.den:Int))
theorem wG(qs:List Rat):(j6 qs).length=qs.length:=aK ..
theorem mg(qs:List Rat):(j6 qs).map iI=qs:=by
 unfold j6;rw[List.map_map];exact(List.map_congr_left fun q _=>om q).trans (List.map_id qs)
theorem HQ(K:List (List Rat)):ir (K.map j6)=K:=by
 unfold ir;rw[List.map_map];exact(List.map_congr_left fun q _=>mg q).trans (List.map_id K)
theorem cI.j6(h:cI w S v qs):q8 w S v (j6 qs):=by
 obtain⟨css,h1,h2,h3,h4⟩:=h;refine⟨css,by unfold Go.Ex.j6;rw[aK];exact h1,by unfold Go.Ex.j6;rw[aK];exact h2,h3,fun j cs x k1 k2=>?_⟩;unfold Go.Ex.j6 at k2;rw[aM]at k2;obtain⟨q,hq,rfl⟩:=Option.map_eq_some_iff.1 k2;obtain⟨b,a,n,c,b2,a2,n2,c2,rfl,hr⟩:=h4 j cs q k1 hq;exact hr.four
theorem cR.j6(h:cR w S v K):jh w S v (K.map j6):=by
 obtain⟨rv,h1,h2,h3⟩:=h;refine⟨rv,by rw[aK];exact h1,by rw[aK];exact h2,fun i u x k1 k2=>?_⟩;rw[aM]at k2;obtain⟨q,hq,rfl⟩:=Option.map_eq_some_iff.1 k2;exact(h3 i u q k1 hq).j6
section
variable{S:Nat->Prop}{w:World}{v u:Value}{M:List (List (Int×Int))}{b:List (Int×Int)}
end
theorem cR.l(h:cR w S v K)(hq:∀r∈K,∀q∈r,rl q<=100000):da w S v K:=by
 obtain⟨rv,h1,h2,h3⟩:=h;exact⟨rv,h1,h2,fun i u x k1 k2=>(h3 i u x k1 k2).l (hq x (aC k2))⟩
theorem ei(M:List (List Rat))(x:List Rat):(ew M x).length=M.length:=aK ..
theorem eS.zero:eS w S (.agg #[.bool false,.slice none 0 0,.bool false,.slice none 0 0]) 0:=
 ⟨_,_,_,_,0,0,rfl,⟨false,[],⟨_,rfl,dQ.nil _ _⟩,rfl,aQ _⟩,⟨false,[],⟨_,rfl,dQ.nil _ _⟩,rfl,aQ _⟩,by decide⟩
theorem Ft(hS:Old S w)(hM:da w S v M)(hx:cS w S u x)(OE:∀r∈M,r.length=x.length)(hqM:Ht M h)(Tn:∀q∈x,rl q+1<=h)(h2:2<=h)(hb:2*h*x.length<=90000)(hR:M.length<=1000000):
  eA PG N.xI #[v,u] w (eF w fun v' w2=>cI w2 (Nf w w2) v' (ew M x)):=by
 have hw:=bR w;obtain⟨am,cm,rfl,Rk,Qg⟩:=dM.shape hM;obtain⟨ax,cx,rfl,Sf,-⟩:=cY.shape hx;unfold maxLen at Qg;refine AQ (by simp) ?_
 refine⟨Nat×List (List Value)×World×Iv,fun z=>⟨[(0,sV am M.length cm),(1,sV ax x.length cx),(5,.o (.w 0 z.2.1.length)),(6,iN z.1)],[(0,.vec T.Rat 4 z.2.1.flatten)],1,z.2.2.2,z.2.2.1⟩,fun z=>M.length-z.1,
  fun z=>z.1<=M.length∧eE w.heap.size w z.2.2.1∧Fc z.2.2.1 (Cf w z.2.2.2) z.2.1 ((ew M x).take z.1),?_,?_⟩
 ·intro O w' r
  exact⟨(0,[],w',[]),⟨aQ _,hw.tr r.cQ,by simp[Fc]⟩,Sub.nil 5 T.Rat 4 rfl (by simp[j8,SV.sc,At.sc,fa]) r fun ρ1 r1=>
   Sub.gn [] r1⟩
 rintro⟨i,css,w1,iv⟩ ⟨hi,hw,hC⟩;dsimp only at hi hw hC ⊢;have PU:css.length=i:=by rw[hC.1,aW,ei];omega
 have OX:=eY hC.uS;refine dK.mk ?_ ?_<;>intro OC
 ·have OC:i<M.length:=by simpa using OC
  obtain⟨ra,Vq⟩:∃r,M[i]? =some r:=⟨_,aB OC⟩
  have hral:=OE ra (aC Vq);obtain⟨adm,um,Qd,Oh,km1,km2⟩:=dM.load hM Vq;obtain⟨au,cu,rfl,hcu,-⟩:=cY.shape Oh;refine⟨adm,Qd,by omega,.slice au ra.length cu,rd1 km2 hw (hS _ km1),?_⟩;refine cF (cE hw (fun _ w' v w2=>cT w2 (Nf w' w2) v (dP ra x ra.length)) (fun O w' r=>Lj (oS hS r) (cS.cJ Oh ((kS hw r hS))) (cS.cJ hx ((kS hw r hS))) hral (hqM ra (aC Vq)) Tn h2 (by rw[hral];exact hb)) ?_);rintro O _ _ PS OJ r he hw h_ hn;replace hC:=hC.cG r (cC w) he (mC h_);have hd:=hn.dB (S:=FF) r.cD (mN h_);obtain⟨A0,A1,A2,A3,A4,A5,A6,A7,rfl⟩:=hd.shape;have Uj:Fc PS (Cf w OJ) (css++[[.bool A0,.slice A1 A2 A3,.bool A4,.slice A5 A6 A7]]) ((ew M x).take (i+1)):=by
   have e:(ew M x)[i]? =some (dP ra x ra.length):=by rw[ew,aM,Vq];rfl
   rw[List.take_add_one,e];exact hC.push hd.qS
  have Pt:css.flatten++([.bool A0,.slice A1 A2 A3,.bool A4,.slice A5 A6 A7]:List Value)=(css++([[.bool A0,.slice A1 A2 A3,.bool A4,.slice A5 A6 A7]]:List (List Value))).flatten:=by simp
  refine .inl ?_;refine⟨by omega,by omega,by unfold maxLen;omega,((i+1:Nat):Int),wo,?_⟩;intro ρ3 w3 r3;exact⟨(i+1,css++[[.bool A0,.slice A1 A2 A3,.bool A4,.slice A5 A6 A7]],w3,_),⟨OC,hw.tr r3.cQ,Uj.rel r3 (cC w)⟩,Sub.gn [(0,2)] r3 ⟨by dsimp only;rw[<-Pt];rfl,trivial⟩ ⟨rfl,rfl,by dsimp only;rw[List.length_append,List.length_singleton];rfl,rfl,trivial⟩,by dsimp only;omega⟩
 have OC:i=M.length:=aO hi (by simpa using OC);intro ρe we re;refine⟨_,rfl,hw.tr re.cQ,?_⟩;rw[List.take_of_length_le (by rw[ei];omega)]at hC;have h5:=re.iG (id:=0) (sz:=4) (m:=css.length) rfl OX (by unfold maxLen;omega) (by decide) hC.one;have h6:=hC.rel re (cC w);refine⟨css,?_,h6.1,h6.uS,fun j cs q k1 k2=>(h6.2 j cs q k1 k2).cK fun _ hg=>Cv.nw hg re⟩;rw[<-hC.1];exact h5.cK fun g hg=>.inr hg
section
variable{S:Nat->Prop}{w:World}{v u:Value}{M:List (List (Int×Int))}{x:List Rat}
end
theorem qR(q:Rat):rs (q-0)=rs q:=by rw[show q-0=q by grind]
theorem jM(n:Int)(w:World)(h1n: -9223372036854775808<=n)(h2n:n<=9223372036854775807):eA PG N.rU #[.int .i64 n] w (eF w fun v' w2=>cT w2 (Nf w w2) v' (n:Rat)):=by
 have hw:=bR w;refine vQ (by simp) ?_;refine cF (cE hw (fun _ w' v w2=>cT w2 (Nf w' w2) v ((n:Rat))) (fun O w' r=>Gt n w' h1n h2n) ?_);rintro O _ _ _ OJ r he hw h_ hn;have hd:=hn.dB (S:=FF) r.cD (mN h_);obtain⟨A0,A1,A2,A3,A4,A5,A6,A7,rfl⟩:=hd.shape;exact rtn hw fun ρe we re=>hd.out re (cC w)
theorem kx(hS:Old S w)(hq:eS w S v q):eA PG N.tj #[v] w (eF w fun v' _=>∃d,v'= .bool d∧(d=true↔q=0)):=by
 have hw:=bR w;obtain⟨f0,f1,f2,f3,f4,f5,f6,f7,rfl⟩:=hq.shape;refine xb (by simp) ?_;refine cF (cE hw (fun _ w' v w2=>v= .int .i64 (rs q)) (fun O w' r=>(D6 (oS hS r) (hq.v.cJ (kS hw r hS)) (eS.zero (S:=S)).v).mono fun _ _ ⟨v2,e1,e2,e3⟩=>⟨v2,e1,e2,by rw[e3,qR]⟩) ?_);rintro O _ _ _ OJ r he hw h_ rfl;intro ρe we re;refine⟨_,rfl,hw.tr re.cQ,_,rfl,?_⟩;rw[beq_iff_eq];exact ky
theorem LD{p:Rat}(hS:Old S w)(hp:eS w S v p)(hq:eS w S u q)(h0:q≠0):eA PG N.xE #[v,u] w (eF w fun v' w2=>cT w2 (Nf w w2) v' (p / q)):=by
 have hw:=bR w;obtain⟨f0,f1,f2,f3,f4,f5,f6,f7,rfl⟩:=hp.shape;obtain⟨g0,g1,g2,g3,g4,g5,g6,g7,rfl⟩:=hq.shape;refine AK (by simp) ?_;refine cF (cE hw (fun _ w' v w2=>∃r,v= .tuple #[r,.int .i64 0]∧cT w2 (Nf w' w2) r (p / q)) (fun O w' r=>(OA (oS hS r) (hp.v.cJ (kS hw r hS)) (hq.v.cJ (kS hw r hS))).mono fun _ _ ⟨v2,e1,e2,e3⟩=>⟨v2,e1,e2,e3.elim (fun h=>absurd h.1 h0) fun h=>h.2⟩) ?_);rintro O _ _ _ OJ r he hw h_ ⟨q1,rfl,k1⟩;have hd:=k1.dB (S:=FF) r.cD (mN h_);obtain⟨s1_0a,s1_0b,s1_0c,s1_0d,s1_0e,s1_0f,s1_0g,s1_0h,rfl⟩:=hd.shape;exact rtn hw fun ρe we re=>hd.out re (cC w)
theorem LF(hS:Old S w)(hq:eS w S v q):eA PG N.xL #[v] w (eF w fun v' w2=>cT w2 (Nf w w2) v' (-q)):=by
 have hw:=bR w;obtain⟨f0,f1,f2,f3,f4,f5,f6,f7,rfl⟩:=hq.shape;refine AT (by simp) ?_;refine cF (cE hw (fun _ w' v w2=>cT w2 (Nf w' w2) v (-q)) (fun O w' r=>(LG (oS hS r) (eS.zero (S:=S)).v (hq.v.cJ (kS hw r hS))).mono fun _ _ ⟨v2,e1,e2,e3⟩=>⟨v2,e1,e2,by rwa [show (0:Rat)-q= -q by grind]at e3⟩) ?_);rintro O _ _ _ OJ r he hw h_ hn;have hd:=hn.dB (S:=FF) r.cD (mN h_);obtain⟨A0,A1,A2,A3,A4,A5,A6,A7,rfl⟩:=hd.shape;exact rtn hw fun ρe we re=>hd.out re (cC w)
theorem AZ(hS:Old S w)(hx:cS w S v xs)(hy:cS w S u ys)(hl:xs.length<=ys.length)(Tn:∀q∈xs,rl q+1<=h)(hqy:∀q∈ys,rl q+1<=h)(h2:2<=h)(hb:2*h*xs.length<=90000):
  eA PG N.xD #[v,u] w (eF w fun v' w2=>cT w2 (Nf w w2) v' (dP xs ys xs.length)):=by
 have hw:=bR w;obtain⟨ax,cx,rfl,Sf,SI⟩:=cY.shape hx;obtain⟨ay,cy,rfl,hcy,-⟩:=cY.shape hy;unfold maxLen at SI;refine AJ (by simp) ?_;refine cF (cE hw (fun _ w' v w2=>cT w2 (Nf w' w2) v (((0:Int):Rat))) (fun O w' r=>jM 0 w' (by decide) (by decide)) ?_);rintro O _ _ _ OJ r he hw h_ hn;have hd:=hn.dB (S:=FF) r.cD (mN h_);obtain⟨A0,A1,A2,A3,A4,A5,A6,A7,rfl⟩:=hd.shape;rw[show ((0:Int):Rat)=dP xs ys 0 from rfl]at hd
 refine⟨Nat×(Bool×Bool)×(Option Addr×Option Addr)×(Nat×Nat×Nat×Nat)×World×Iv,fun z=>⟨[(1,sV ay ys.length cy),(4,pP 0 0),(5,pP 1 0),(9,sV ax xs.length cx),(10,iZ xs.length),(11,iN z.1)],[(1,.box T.Rat [.v (.bool z.2.1.1),.v (.slice z.2.2.1.1 z.2.2.2.1.1 z.2.2.2.1.2.1),.v (.bool z.2.1.2),.v (.slice z.2.2.1.2 z.2.2.2.1.2.2.1 z.2.2.2.1.2.2.2)]),(0,.box T.Rat [.v (.bool false),.v (.slice none 0 0),.v (.bool false),.v (.slice none 0 0)])],2,z.2.2.2.2.2,z.2.2.2.2.1⟩,fun z=>xs.length-z.1,
  fun z=>z.1<=xs.length∧eE w.heap.size w z.2.2.2.2.1∧cT z.2.2.2.2.1 (Cf w z.2.2.2.2.2) (.agg #[.bool z.2.1.1,.slice z.2.2.1.1 z.2.2.2.1.1 z.2.2.2.1.2.1,.bool z.2.1.2,.slice z.2.2.1.2 z.2.2.2.1.2.2.1 z.2.2.2.1.2.2.2]) (dP xs ys z.1),?_,?_⟩
 ·intro O w' r;exact⟨(0,(A0,A4),(A1,A5),(A2,A3,A6,A7),w',OJ),⟨by simp,hw.tr r.cQ,hd.rel r (cC w)⟩,Sub.gn [] r⟩
 rintro⟨i,⟨p0,p4⟩,⟨p1,p5⟩,⟨p2,p3,p6,p7⟩,w1,iv⟩ ⟨hi,hw,hd⟩;dsimp only at hi hw hd ⊢;refine dK.mk ?_ ?_<;>intro OC
 ·have OC:i<xs.length:=by simpa using OC
  have hs:=kW Tn hqy h2 i;have QS:2*h*i<=2*h*xs.length:=bY _ hi;have hs3:2*h*1<=2*h*xs.length:=bY _ (by omega);obtain⟨x,PL⟩:∃x,xs[i]? =some x:=⟨_,aB OC⟩
  obtain⟨y,SJ⟩:∃x,ys[i]? =some x:=⟨_,aB (by omega)⟩
  have hx3:=Tn x (aC PL);have hy3:=hqy y (aC SJ);have RM:xs.getD i 0=x:=by rw[List.getD,PL];rfl
  have To:ys.getD i 0=y:=by rw[List.getD,SJ];rfl
  have hm:=jE x y;obtain⟨adx,csx,PC,Qn,-,Oa⟩:=cY.load hx PL;obtain⟨ady,csy,Ts,RE,-,QP⟩:=cY.load hy SJ;obtain⟨f0,f1,f2,f3,f4,f5,f6,f7,rfl,Qn⟩:=Qn;obtain⟨q0,q1,q2,q3,q4,q5,q6,q7,rfl,RE⟩:=RE;refine⟨adx,PC,by omega,[.bool f0,.slice f1 f2 f3,.bool f4,.slice f5 f6 f7],rfl,rdO Oa hw hS,?_⟩;refine cF (cE hw (fun _ w' v w2=>∃d,v= .bool d∧(d=true↔x=0)) (fun O w' r=>kx (oS hS r) (Qn.cJ (kS hw r hS))) ?_);rintro O _ _ _ OG r he hw h_ ⟨d1,rfl,OR⟩;replace hd:=hd.cG r (cC w) he (mC h_)
  cases d1
  ·refine⟨ady,Ts,by omega,[.bool q0,.slice q1 q2 q3,.bool q4,.slice q5 q6 q7],rfl,rdO QP hw hS,?_⟩;refine cF (cE hw (fun _ w' v w2=>∃d,v= .bool d∧(d=true↔y=0)) (fun O w' r=>kx (oS hS r) (RE.cJ (kS hw r hS))) ?_);rintro O _ _ _ ON r he hw h_ ⟨d2,rfl,Oq⟩;replace hd:=hd.cG r (cC w) he (mC h_)
   cases d2
   ·refine cM hτ df [.x 0,.x 1,.x 2,.x 3,.x 4,.x 5,.x 6,.x 7,.x 8] (by kernel_rfl) (by kernel_rfl) ?_;refine⟨ady,Ts,by omega,[.bool q0,.slice q1 q2 q3,.bool q4,.slice q5 q6 q7],rfl,rdO QP hw hS,?_⟩;refine cE hw (fun _ w' v w2=>cT w2 (Nf w' w2) v (x*y)) (fun O w' r=>Aa (oS hS r) (Qn.v.cJ (kS hw r hS)) (RE.v.cJ (kS hw r hS))) ?_;rintro O _ _ _ OZ r he hw h_ hn;replace hd:=hd.cG r (cC w) he (mC h_);have hp:=hn.dB (S:=FF) r.cD (mN h_);obtain⟨C0,C1,C2,C3,C4,C5,C6,C7,rfl⟩:=hp.shape;refine cE hw (fun _ w' v w2=>cT w2 (Nf w' w2) v (dP xs ys i+x*y)) (fun O w' r=>Gu (Rel.old r (cC w)) ((hd.rel r (cC w)).v (by omega)) ((hp.rel r (cC w)).v (by omega))) ?_;rintro O _ _ _ PF r he hw h_ hn;have Oc:=hn.dB (S:=FF) r.cD (mN h_);obtain⟨E0,E1,E2,E3,E4,E5,E6,E7,rfl⟩:=Oc.shape;rw[show dP xs ys i+x*y=dP xs ys (i+1) by rw[dP,RM,To]]at Oc;refine⟨((i+1:Nat):Int),wo,?_⟩;intro ρ3 w3 r3;exact⟨(i+1,(E0,E4),(E1,E5),(E2,E3,E6,E7),w3,_),⟨OC,hw.tr r3.cQ,Oc.rel r3 (cC w)⟩,Sub.gn [] r3,by dsimp only;omega⟩
   ·have Pe:y=0:=Oq.1 rfl;rw[show dP xs ys i=dP xs ys (i+1) by rw[dP,RM,To,Pe,bC,bW]]at hd;refine⟨((i+1:Nat):Int),wo,?_⟩;intro ρ3 w3 r3;exact⟨(i+1,(p0,p4),(p1,p5),(p2,p3,p6,p7),w3,_),⟨OC,hw.tr r3.cQ,hd.rel r3 (cC w)⟩,Sub.gn [] r3,by dsimp only;omega⟩
  ·have Qi:x=0:=OR.1 rfl;rw[show dP xs ys i=dP xs ys (i+1) by rw[dP,RM,To,Qi,bE,bW]]at hd;refine⟨((i+1:Nat):Int),wo,?_⟩;intro ρ3 w3 r3;exact⟨(i+1,(p0,p4),(p1,p5),(p2,p3,p6,p7),w3,_),⟨OC,hw.tr r3.cQ,hd.rel r3 (cC w)⟩,Sub.gn [] r3,by dsimp only;omega⟩
 have OC:i=xs.length:=aO hi (by simpa using OC);subst OC;exact rtn hw fun ρe we re=>hd.out re (cC w)
end Go.Ex
