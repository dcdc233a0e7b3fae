/- Texts L15 to L29: lemmas, each with its conditions. -/
import Derived.Test.YtgkpbdkechfgmaaGreatP7
namespace Go.Ex
variable{s:List (List Rat)×List Nat}{r:List Rat}
theorem eB(M:List (List Rat))(cols:Nat):(cN M cols).1.length=M.length:=by
 have key:∀(l:List Nat) (s:List (List Rat)×List Nat),(l.foldl db s).1.length=s.1.length:=by
  intro l
  induction l with
  |nil=>exact fun s=>rfl
  |cons c l ih=>exact fun s=>by rw[List.foldl_cons,ih,oD]
 exact key _ _
theorem sN{M:List (List Rat)}{c:Nat}:∀f k j,k<=j->j<iS M c f k->dD M j c=0
 |0,k,j,h1,h2=>by simp only[iS]at h2;omega
 |f+1,k,j,h1,h2=>by
  unfold iS at h2;split at h2
  ·rename_i h0;rcases aP k j with h|h
   ·exact sN f (k+1) j h h2
   ·rw[show j=k by omega];exact h0
  ·omega
theorem j1(c:Nat)(hle:s.2.length<=s.1.length):(db s c=s∧∀j,s.2.length<=j->j<s.1.length->dD s.1 j c=0)∨
  ∃k,s.2.length<=k∧k<s.1.length∧dD s.1 k c≠0∧db s c=(di (scaled (fV [] s.1 s.2.length k) s.2.length c) s.2.length c s.1.length,s.2++[c]):=by
 have h1:=yv s.1 c (s.1.length-s.2.length) s.2.length;by_cases hk:iS s.1 c (s.1.length-s.2.length) s.2.length=s.1.length
 ·exact .inl ⟨yt (.inr hk),fun j hj hl=>sN (s.1.length-s.2.length) s.2.length j hj (by omega)⟩
 ·exact .inr ⟨_,h1.1,by omega,yw s.1 c _ _ (by omega),yu h1.1 (by omega) (fun j h2 h3=>sN _ _ j h2 h3) (yw s.1 c _ _ (by omega))⟩
theorem ux{p:Rat}{s:List Rat}{c:Nat}(h:c<r.length):(r.mapIdx (sM p s)).getD c 0=r.getD c 0+p*s.getD c 0:=by
 simp only[List.getD,List.getElem?_mapIdx,aB h]
 rfl
theorem yx{k:Rat}{c:Nat}:(r.map (· *k)).getD c 0=r.getD c 0*k:=by
 simp only[List.getD,aM]
 cases r[c]? with
 |none=>exact(bE k).symm
 |some q=>rfl
theorem lN{c k n:Nat}(hl:fZ n s.1)(h1:s.2.length<=k)(h2:k<s.1.length)(h3:dD s.1 k c≠0)(e:db s c=(di (scaled (fV [] s.1 s.2.length k) s.2.length c) s.2.length c s.1.length,s.2++[c])):
  (∀t,dD (db s c).1 s.2.length t=dD s.1 k t*(1 / dD s.1 k c))∧
  ∀j,j<s.1.length->j≠s.2.length->∀t,t<n->dD (db s c).1 j t=dD s.1 (if j=k then s.2.length else j) t+ -(dD s.1 (if j=k then s.2.length else j) c)*(dD s.1 k t*(1 / dD s.1 k c)):=by
 have hp:s.2.length<s.1.length:=by omega
 have hsw:dD (fV [] s.1 s.2.length k) s.2.length c=dD s.1 k c:=Ed hp h2;have TN:(scaled (fV [] s.1 s.2.length k) s.2.length c).getD s.2.length []=(s.1.getD k []).map (· *(1 / dD s.1 k c)):=by
  unfold scaled;rw[hsw,List.getD,aV (by rw[jc];exact hp)];simp only[Option.getD_some]
  congr 1;rw[List.getD,List.getD,Bk hp h2]
 have OE:∀j,j<s.1.length->j≠s.2.length->(scaled (fV [] s.1 s.2.length k) s.2.length c)[j]? =some (s.1.getD (if j=k then s.2.length else j) []):=fun j hj OD=>by
  unfold scaled;rw[aZ (Ne.symm OD)];unfold fV;by_cases Ro:j=k
  ·subst Ro;rw[aV (by simpa using hj),if_pos rfl]
  ·rw[aZ (Ne.symm Ro),aZ (Ne.symm OD),aJ Ro,List.getD,aB hj];rfl
 have hgp:(di (scaled (fV [] s.1 s.2.length k) s.2.length c) s.2.length c s.1.length).getD s.2.length []=(s.1.getD k []).map (· *(1 / dD s.1 k c)):=by
  rw[<-TN];simp only[List.getD,sO]
 rw[e];refine⟨fun t=>?_,fun j hj OD t ht=>?_⟩
 ·show((di (scaled (fV [] s.1 s.2.length k) s.2.length c) s.2.length c s.1.length).getD s.2.length []).getD t 0=_;rw[hgp,yx];rfl
 ·have hgj:(di (scaled (fV [] s.1 s.2.length k) s.2.length c) s.2.length c s.1.length).getD j []=(s.1.getD (if j=k then s.2.length else j) []).mapIdx (sM (-((s.1.getD (if j=k then s.2.length else j) []).getD c 0)) ((s.1.getD k []).map (· *(1 / dD s.1 k c)))):=by
   simp only[List.getD,di,List.getElem?_mapIdx,OE j hj OD,Option.map_some,Option.getD_some]
   rw[if_pos ⟨hj,OD⟩];exact congrArg (fun P=>(s.1.getD (if j=k then s.2.length else j) []).mapIdx (sM (-((s.1.getD (if j=k then s.2.length else j) []).getD c 0)) P)) TN
  show((di (scaled (fV [] s.1 s.2.length k) s.2.length c) s.2.length c s.1.length).getD j []).getD t 0=_;rw[hgj,ux (by rw[hl.getD (by split<;>omega)];exact ht),yx];rfl
theorem tP{x:Rat}(h:x≠0):x*(1 / x)=1:=by rw[b9,bp,Rat.mul_inv_cancel x h]
def Red(n c:Nat)(s:List (List Rat)×List Nat):Prop:=fZ n s.1∧s.2.length<=s.1.length∧(∀j t,s.2.length<=j->j<s.1.length->t<c->dD s.1 j t=0)∧(∀p∈s.2,p<c)∧
 ∀i j,i<s.2.length->j<s.1.length->dD s.1 j (s.2.getD i 0)=if j=i then 1 else 0
theorem Red.step{n c:Nat}(h:Red n c s)(hc:c<n):Red n (c+1) (db s c):=by
 obtain⟨hl,hle,hz,Qz,hu⟩:=h;rcases j1 c hle with⟨e,h0⟩|⟨k,h1,h2,h3,e⟩
 ·rw[e];refine⟨hl,hle,fun j t hj TA ht=>?_,fun p hp=>by have:=Qz p hp;omega,hu⟩;rcases aP t c with h|h
  ·exact hz j t hj TA h
  ·rw[show t=c by omega];exact h0 j hj TA
 ·obtain⟨r1,r2⟩:=lN hl h1 h2 h3 e;have hlen:(db s c).1.length=s.1.length:=oD s c;have e2:(db s c).2=s.2++[c]:=by rw[e]
  have e3:(db s c).2.length=s.2.length+1:=by rw[e2];simp
  have Pm:∀j,j<s.1.length->j≠s.2.length->dD (db s c).1 j c=0:=fun j hj OD=>by
   rw[r2 j hj OD c hc,tP h3,Rat.mul_one,Rat.add_neg_cancel]
  refine⟨hl.step,by rw[e3,hlen];omega,fun j t hj TA ht=>?_,fun p hp=>?_,fun i j hi hj=>?_⟩
  ·rw[e3]at hj;rw[hlen]at TA;rcases aP t c with h|h
   ·rw[r2 j TA (by omega) t (by omega),hz k t h1 h2 h,hz (if j=k then s.2.length else j) t (by split<;>omega) (by split<;>omega) h,bE,bC,Rat.zero_add]
   ·rw[show t=c by omega];exact Pm j TA (by omega)
  ·rw[e2]at hp;rcases bS.1 hp with hp|hp
   ·have:=Qz p hp;omega
   ·rw[bB.1 hp];omega
  ·rw[e3]at hi;rw[hlen]at hj;rcases aP i s.2.length with h|h
   ·have hg:(db s c).2.getD i 0=s.2.getD i 0:=by rw[e2,List.getD,aL h,<-List.getD]
    have hpm:s.2.getD i 0<c:=Qz _ (by rw[List.getD,aB h];exact aY h);have RA:dD s.1 k (s.2.getD i 0)=0:=hz k _ h1 h2 hpm;rw[hg];by_cases hjp:j=s.2.length
    ·rw[hjp,r1,RA,bE,aJ (by omega)]
    ·rw[r2 j hj hjp _ (by omega),RA,bE,bC,bW];by_cases Ro:j=k
     ·rw[if_pos Ro,hu i _ h (by omega),aJ (by omega),aJ (by omega)]
     ·rw[aJ Ro,hu i j h hj]
   ·have hg:(db s c).2.getD i 0=c:=by rw[e2,List.getD,aN h,show i-s.2.length=0 by omega];rfl
    rw[hg];by_cases hjp:j=s.2.length
    ·rw[hjp,r1,tP h3,if_pos (by omega)]
    ·rw[Pm j hj hjp,aJ (by omega)]
theorem dc{M:List (List Rat)}{n:Nat}(hl:fZ n M):∀cols,cols<=n->Red n cols (cN M cols)
 |0,_=>⟨hl,aQ _,fun _ _ _ _ h=>by omega,fun p hp=>(by cases hp),fun _ _ h=>(by cases h)⟩
 |c+1,h=>by
  have ih:=dc hl c (by omega);unfold cN at ih ⊢;rw[bM,List.foldl_append];exact ih.step (by omega)
abbrev Mx:=Nat->Nat->Rat
def skip(k j:Nat):Nat:=if j<k then j else j+1
def sR(k:Nat):Rat:=if k % 2=1 then -1 else 1
def cZ(f:Nat->Rat):Nat->Rat
 |0=>0
 |n+1=>cZ f n+f n
def fp:Nat->Mx->Rat
 |0,_=>1
 |n+1,m=>cZ (fun k=>sR k*(m 0 k*fp n fun i j=>m (i+1) (skip k j))) (n+1)
theorem cL{f g:Nat->Rat}:∀{n:Nat},(∀k,k<n->f k=g k)->cZ f n=cZ g n
 |0,_=>rfl
 |n+1,h=>by rw[cZ,cZ,cL fun k hk=>h k (by omega),h n (by omega)]
theorem dm:∀(n:Nat),cZ (fun _=>0) n=0
 |0=>rfl
 |n+1=>by rw[cZ,dm n,bW]
theorem gJ(f g:Nat->Rat):∀(n:Nat),cZ (fun k=>f k+g k) n=cZ f n+cZ g n
 |0=>(bW 0).symm
 |n+1=>by rw[cZ,cZ,cZ,gJ f g n];grind
theorem eR(p:Rat)(f:Nat->Rat):∀(n:Nat),cZ (fun k=>p*f k) n=p*cZ f n
 |0=>(bC p).symm
 |n+1=>by rw[cZ,cZ,eR p f n];grind
theorem nH(f:Nat->Rat)(n:Nat):cZ (fun k=> -f k) n= -cZ f n:=by
 have h:=eR (-1) f n;rw[show (-1:Rat)*cZ f n= -cZ f n by grind]at h;rw[<-h];exact cL fun k _=>by grind
theorem zE(f:Nat->Rat):∀(n:Nat),cZ f (n+1)=f 0+cZ (fun k=>f (k+1)) n
 |0=>by show 0+f 0=f 0+0;grind
 |n+1=>by rw[cZ,zE f n,cZ];grind
theorem Hb{k j n:Nat}(h:j<n):skip k j<n+1:=by unfold skip;split<;>omega
theorem Ig{k l:Nat}(h:k<=l)(j:Nat):skip k (skip l j)=skip (l+1) (skip k j):=by
 unfold skip;grind
theorem iY:∀{n:Nat} {m m':Mx},(∀i j,i<n->j<n->m i j=m' i j)->fp n m=fp n m'
 |0,_,_,_=>rfl
 |n+1,m,m',h=>by
  unfold fp;refine cL fun k hk=>?_;rw[h 0 k (by omega) hk,iY fun i j hi hj=>h (i+1) (skip k j) (by omega) (Hb hj)]
def gl(m:Mx)(r:Nat)(u:Nat->Rat):Mx:=fun i j=>if i=r then u j else m i j
theorem uy(m:Mx)(r k:Nat)(u:Nat->Rat):(fun i j=>gl m (r+1) u (i+1) (skip k j))=gl (fun i j=>m (i+1) (skip k j)) r fun j=>u (skip k j):=by
 funext i j
 unfold gl;by_cases h:i=r
 ·rw[if_pos h,if_pos (by omega)]
 ·rw[aJ h,aJ (by omega)]
theorem nI(p:Rat):∀(n r:Nat) (m:Mx),r<n->∀(u v:Nat->Rat),fp n (gl m r fun j=>u j+p*v j)=fp n (gl m r u)+p*fp n (gl m r v)
 |0,_,_,h,_,_=>by omega
 |n+1,0,m,_,u,v=>by
  unfold fp;rw[<-eR,<-gJ];refine cL fun k _=>?_;have e:∀x:Nat->Rat,(fun i j=>gl m 0 x (i+1) (skip k j))=fun i j=>m (i+1) (skip k j):=fun x=>by
   funext i j;unfold gl;rw[aJ (by omega)]
  rw[e,e,e];unfold gl;rw[if_pos rfl,if_pos rfl,if_pos rfl];grind
 |n+1,r+1,m,h,u,v=>by
  unfold fp;rw[<-eR,<-gJ];refine cL fun k _=>?_;rw[uy,uy,uy,nI p n r _ (by omega) (fun j=>u (skip k j)) fun j=>v (skip k j)];have e:∀x:Nat->Rat,gl m (r+1) x 0 k=m 0 k:=fun x=>by unfold gl;rw[aJ (by omega)]
  rw[e,e,e];grind
theorem zF{F:Nat->Nat->Rat}:∀{n:Nat},(∀k l,k<=l->l<n->F k l+F (l+1) k=0)->cZ (fun k=>cZ (F k) n) (n+1)=0
 |0,_=>by show 0+0=(0:Rat);grind
 |n+1,h=>by
  have ih:=zF (F:=F) (n:=n) fun k l h1 h2=>h k l h1 (by omega);have h3:cZ (fun k=>F k n+F (n+1) k) (n+1)=0:=by
   rw[cL (g:=fun _=>0) fun k hk=>h k n (by omega) (by omega),dm]
  rw[gJ]at h3;rw[cZ];have h4:cZ (fun k=>cZ (F k) (n+1)) (n+1)=cZ (fun k=>cZ (F k) n) (n+1)+cZ (fun k=>F k n) (n+1):=by
   rw[<-gJ];rfl
  rw[h4,ih,Rat.zero_add];exact h3
def lE(a b i:Nat):Nat:=if i=a then b else if i=b then a else i
theorem Ih(r i:Nat):lE (r+1) (r+2) (i+1)=lE r (r+1) i+1:=by
 unfold lE;by_cases h:i=r
 ·rw[if_pos (by omega),if_pos h]
 ·rw[aJ (by omega),aJ h];by_cases h2:i=r+1
  ·rw[if_pos (by omega),if_pos h2]
  ·rw[aJ (by omega),aJ h2]
theorem KB(k:Nat):sR (k+1)= -sR k:=by
 unfold sR;by_cases h:k % 2=1
 ·rw[if_pos h,aJ (by omega)];grind
 ·rw[aJ h,if_pos (by omega)]
theorem Ef(n:Nat)(m:Mx):fp (n+2) m=cZ (fun k=>cZ (fun l=>sR k*sR l*(m 0 k*m 1 (skip k l))*fp n fun i j=>m (i+2) (skip k (skip l j))) (n+1)) (n+2):=by
 rw[fp];refine cL fun k _=>?_;rw[fp,<-eR,<-eR];refine cL fun l _=>?_;grind
theorem zG:∀(n r:Nat) (m:Mx),r+1<n->fp n (fun i j=>m (lE r (r+1) i) j)= -fp n m
 |0,_,_,h=>by omega
 |1,_,_,h=>by omega
 |n+2,0,m,_=>by
  rw[Ef,Ef,<-nH];have key:cZ (fun k=>cZ (fun l=>sR k*sR l*(m 1 k*m 0 (skip k l))*(fp n fun i j=>m (i+2) (skip k (skip l j)))+sR k*sR l*(m 0 k*m 1 (skip k l))*fp n fun i j=>m (i+2) (skip k (skip l j))) (n+1)) (n+2)=0:=by
   refine zF fun k l h1 h2=>?_;have e1:skip k l=l+1:=by unfold skip;rw[aJ (by omega)]
   have e2:skip (l+1) k=k:=by unfold skip;rw[if_pos (by omega)]
   have e3:(fun i j=>m (i+2) (skip (l+1) (skip k j)))=fun i j=>m (i+2) (skip k (skip l j)):=by
    funext i j;rw[Ig h1]
   rw[e1,e2,e3,KB];grind
  have h4:cZ (fun k=>cZ (fun l=>sR k*sR l*(m 1 k*m 0 (skip k l))*(fp n fun i j=>m (i+2) (skip k (skip l j)))+sR k*sR l*(m 0 k*m 1 (skip k l))*fp n fun i j=>m (i+2) (skip k (skip l j))) (n+1)) (n+2)=
    cZ (fun k=>cZ (fun l=>sR k*sR l*(m 1 k*m 0 (skip k l))*fp n fun i j=>m (i+2) (skip k (skip l j))) (n+1)) (n+2)+cZ (fun k=>cZ (fun l=>sR k*sR l*(m 0 k*m 1 (skip k l))*fp n fun i j=>m (i+2) (skip k (skip l j))) (n+1)) (n+2):=by
   rw[<-gJ];exact cL fun k _=>gJ _ _ _
  rw[h4]at key;have h5:cZ (fun k=> -cZ (fun l=>sR k*sR l*(m 0 k*m 1 (skip k l))*fp n fun i j=>m (i+2) (skip k (skip l j))) (n+1)) (n+2)= -cZ (fun k=>cZ (fun l=>sR k*sR l*(m 0 k*m 1 (skip k l))*fp n fun i j=>m (i+2) (skip k (skip l j))) (n+1)) (n+2):=nH _ _;rw[h5];have h6:cZ (fun k=>cZ (fun l=>sR k*sR l*(m (lE 0 1 0) k*m (lE 0 1 1) (skip k l))*fp n fun i j=>m (lE 0 1 (i+2)) (skip k (skip l j))) (n+1)) (n+2)=cZ (fun k=>cZ (fun l=>sR k*sR l*(m 1 k*m 0 (skip k l))*fp n fun i j=>m (i+2) (skip k (skip l j))) (n+1)) (n+2):=by
   refine cL fun k _=>cL fun l _=>?_;have e:∀i,lE 0 1 (i+2)=i+2:=fun i=>by unfold lE;rw[aJ (by omega),aJ (by omega)]
   simp only[e]
   rfl
  rw[show (0:Nat)+1=1 from rfl,h6];grind
 |n+2,r+1,m,h=>by
  rw[fp,fp,<-nH];refine cL fun k _=>?_;have e:(fun i j=>m (lE (r+1) (r+1+1) (i+1)) (skip k j))=fun i j=>m (lE r (r+1) i+1) (skip k j):=by
   funext i j
   rw[show r+1+1=r+2 from rfl,Ih]
  have ih:fp (n+1) (fun i j=>m (lE r (r+1) i+1) (skip k j))= -fp (n+1) fun i j=>m (i+1) (skip k j):=zG (n+1) r (fun i j=>m (i+1) (skip k j)) (by omega);rw[e,ih];rw[show lE (r+1) (r+1+1) 0=0 by unfold lE;rw[aJ (by omega),aJ (by omega)]];grind
theorem oG:∀(k n:Nat) (m:Mx),k+1<n->(∀j,j<n->m 0 j=m (k+1) j)->fp n m=0
 |0,n,m,h,he=>by
  have h1:=zG n 0 m h;rw[iY (m':=m) fun i j hi hj=>?_]at h1
  ·grind
  ·unfold lE;by_cases h0:i=0
   ·rw[if_pos h0,h0];exact(he j hj).symm
   ·rw[aJ h0];by_cases h2:i=1
    ·rw[if_pos h2,h2];exact he j hj
    ·rw[aJ h2]
 |k+1,n,m,h,he=>by
  have h1:=zG n (k+1) m h;rw[oG k n _ (by omega) fun j hj=>?_]at h1
  ·grind
  ·rw[show lE (k+1) (k+1+1) 0=0 by unfold lE;rw[aJ (by omega),aJ (by omega)],show lE (k+1) (k+1+1) (k+1)=k+1+1 by unfold lE;rw[if_pos rfl]];exact he j hj
theorem Eg(m:Mx)(r:Nat):gl m r (m r)=m:=by
 funext i j
 unfold gl;by_cases h:i=r
 ·rw[if_pos h,h]
 ·rw[aJ h]
theorem Ii{n k:Nat}{m:Mx}(h:k+1<n):fp n (fun i j=>m (lE 0 (k+1) i) j)= -fp n m:=by
 have z:∀u:Nat->Rat,fp n (gl (gl m 0 u) (k+1) u)=0:=fun u=>oG k n _ h fun j _=>by
  unfold gl;rw[aJ (by omega),if_pos rfl,if_pos rfl]
 have cm:∀u v:Nat->Rat,gl (gl m 0 u) (k+1) v=gl (gl m (k+1) v) 0 u:=fun u v=>by
  funext i j;unfold gl
  by_cases h1:i=k+1
  ·rw[if_pos h1,aJ (by omega),if_pos h1]
  ·rw[aJ h1,aJ h1]
 have l1:∀u v x:Nat->Rat,fp n (gl (gl m 0 u) (k+1) fun j=>v j+1*x j)=fp n (gl (gl m 0 u) (k+1) v)+1*fp n (gl (gl m 0 u) (k+1) x):=fun u v x=>nI 1 n (k+1) _ h v x;have l2:∀u v x:Nat->Rat,fp n (gl (gl m 0 fun j=>v j+1*x j) (k+1) u)=fp n (gl (gl m 0 v) (k+1) u)+1*fp n (gl (gl m 0 x) (k+1) u):=fun u v x=>by
  rw[cm,cm,cm];exact nI 1 n 0 _ (by omega) v x
 have h1:=z fun j=>m 0 j+1*m (k+1) j;rw[l1,l2,l2,z,z]at h1;have e1:gl (gl m 0 (m 0)) (k+1) (m (k+1))=m:=by rw[Eg,Eg]
 have e2:gl (gl m 0 (m (k+1))) (k+1) (m 0)=fun i j=>m (lE 0 (k+1) i) j:=by
  funext i j;unfold gl lE
  by_cases h1:i=k+1
  ·rw[if_pos h1,aJ (by omega),if_pos h1]
  ·rw[aJ h1];by_cases h0:i=0
   ·rw[if_pos h0,if_pos h0]
   ·rw[aJ h0,aJ h0,aJ h1]
 rw[e1,e2]at h1;grind
theorem iy(f:Nat->Rat)(p:Rat)(n:Nat):cZ (fun k=>f k*p) n=cZ f n*p:=by
 rw[bg,<-eR];exact cL fun k _=>bg ..
theorem tR(f g:Nat->Rat):∀(n:Nat),cZ (fun k=>f k-g k) n=cZ f n-cZ g n
 |0=>by show(0:Rat)=0-0;grind
 |n+1=>by rw[cZ,cZ,cZ,tR f g n];grind
theorem eh{f:Nat->Rat}{i:Nat}:∀{n:Nat},i<n->(∀k,k<n->k≠i->f k=0)->cZ f n=f i
 |0,h,_=>by omega
 |n+1,h,hz=>by
  rw[cZ];rcases aP i n with h1|h1
  ·rw[eh h1 fun k hk OD=>hz k (by omega) OD,hz n (by omega) (by omega),bW]
  ·obtain rfl:i=n:=by omega
   rw[cL (g:=fun _=>0) fun k hk=>hz k (by omega) (by omega),dm,Rat.zero_add]
theorem sq_nonneg(x:Rat):0<=x*x:=by
 rcases Rat.le_total (a:=0) (b:=x)with h|h
 ·exact Rat.mul_nonneg h h
 ·have:=Rat.mul_nonneg (show 0<= -x by grind) (show 0<= -x by grind);grind
end Go.Ex
namespace Go.Ex
open Go Go.Sx Go.Proofs
variable{M:List (List (Int×Int))}{cs:List Value}{j:Nat}{S:Nat->Prop}{a a1 a2:Option Addr}{q:Rat}{w:World}
theorem HM{v:Value}(hS:Old S w)(h:jh w S v M):eA PG N.r9 #[v] w (eF w fun v' _=>v'= .int .i64 (gS M)):=by
 have hn:=h;obtain⟨a,c,rfl,hc,hm⟩:=dM.shape h;refine vY (by simp) ?_
 cases M with
 |nil=>
  intro ρe we re;exact⟨_,rfl,re.cQ,rfl⟩
 |cons r t=>
  obtain⟨ad,u,rfl,hu,h1,h2⟩:=dM.load h (j:=0) (x:=r) rfl;obtain⟨a2,c2,rfl⟩:=dM.Lw hu;refine⟨ad,rfl,⟨by omega,by simp⟩,.slice a2 r.length c2,fun O w' r'=>by simpa using kV hS eE.refl r' h1 (by simpa using h2),?_⟩;intro ρe we re;exact⟨_,rfl,re.cQ,rfl⟩
theorem iU.len(h:iU w S cs q):cs.length=4:=by obtain⟨_,_,_,_,_,_,_,_,rfl,_⟩:=h;rfl
def Fc(w:World)(S:Nat->Prop)(css:List (List Value))(qs:List Rat):Prop:=css.length=qs.length∧∀(j:Nat) cs q,css[j]? =some cs->qs[j]? =some q->iU w S cs q
section
variable{S S':Nat->Prop}{w w2:World}{cs:List Value}{css:List (List Value)}{q:Rat}{qs:List Rat}
theorem Fc.cJ(h:Fc w S css qs)(hk:∀g,S g->w2.heap[g]? =w.heap[g]?):Fc w2 S css qs:=⟨h.1,fun j cs q h1 h2=>(h.2 j cs q h1 h2).cJ hk⟩
theorem Fc.cK(h:Fc w S css qs)(hk:∀g,S g->S' g):Fc w S' css qs:=⟨h.1,fun j cs q h1 h2=>(h.2 j cs q h1 h2).cK hk⟩
theorem Fc.uS(h:Fc w S css qs):∀cs∈css,cs.length=4:=fun cs hc=>by
 obtain⟨j,hj⟩:=aS hc;have hl:=(aD.1 hj).1;exact(h.2 j cs _ hj (aB (by rw[<-h.1];exact hl))).len
theorem Fc.one(h:Fc w S css qs):∀u∈css.flatten,u.oneCell'=true:=fun u hu=>by
 obtain⟨cs,hc,hu⟩:=List.mem_flatten.1 hu;obtain⟨j,hj⟩:=aS hc;have hl:=(aD.1 hj).1;obtain⟨_,_,_,_,_,_,_,_,rfl,_⟩:=h.2 j cs _ hj (aB (by rw[<-h.1];exact hl));simp at hu;rcases hu with rfl|rfl|rfl|rfl<;>rfl
theorem Fc.set(h:Fc w S css qs)(hq:iU w S cs q):Fc w S (css.set j cs) (qs.set j q):=by
 refine⟨by simp[h.1],fun i c p h1 h2=>?_⟩;by_cases Pa:j=i
 ·subst Pa;have hl:=(aD.1 h1).1;rw[aV (by simpa using hl)]at h1;rw[aV (by have:=h.1;simp at hl;omega)]at h2;injection h1 with h1;injection h2 with h2;subst h1 h2;exact hq
 ·rw[aZ Pa]at h1 h2;exact h.2 i c p h1 h2
end
def gP(w:World)(C S:Nat->Prop)(v:Value)(qs:List Rat):Prop:=∃css,ij w C 4 v css.flatten qs.length∧Fc w S css qs
section
variable{C C' S S':Nat->Prop}{H:Hp}{nx:Nat}{iv iv':Iv}{B:Nat}{w w' w2:World}{O:Nat->Sx.dx}{v:Value}{qs:List Rat}
theorem gP.cJ(h:gP w C S v qs)(hk:∀g,C g∨S g->w2.heap[g]? =w.heap[g]?):gP w2 C S v qs:=by
 obtain⟨css,h1,h2⟩:=h;exact⟨css,h1.cJ fun g hg=>hk g (.inl hg),h2.cJ fun g hg=>hk g (.inr hg)⟩
theorem gP.cK(h:gP w C S v qs)(hk:∀g,C g->C' g)(Uy:∀g,S g->S' g):gP w C' S' v qs:=by
 obtain⟨css,h1,h2⟩:=h;exact⟨css,h1.cK hk,h2.cK Uy⟩
end
def iV(w:World)(S:Nat->Prop)(v:Value)(n:Nat)(qs:List Rat):Prop:=∃css,w.ownsRow 0 T.Rat 4 v n css.flatten∧css.length=n∧Fc w S css qs
section
variable{S S' C:Nat->Prop}{H:Hp}{nx n:Nat}{iv iv':Iv}{B:Nat}{w w' w2:World}{O:Nat->Sx.dx}{v:Value}{qs:List Rat}
theorem iV.cJ(h:iV w S v n qs)(hk:∀g,S g∨v.ownBlock=some g->w2.heap[g]? =w.heap[g]?):iV w2 S v n qs:=by
 obtain⟨css,h1,h2,h3⟩:=h;exact⟨css,ownsRow.cJ h1 fun g hg=>hk g (.inr hg),h2,h3.cJ fun g hg=>hk g (.inl hg)⟩
theorem iV.cK(h:iV w S v n qs)(hk:∀g,S g->S' g):iV w S' v n qs:=by
 obtain⟨css,h1,h2,h3⟩:=h;exact⟨css,h1,h2,h3.cK hk⟩
theorem iV.len(h:iV w S v n qs):qs.length=n:=by
 obtain⟨css,h1,h2,h3⟩:=h;rw[<-h3.1,h2]
theorem iV.form(h:iV w S v n qs):∃a c,v= .slice a n c∧n<=c:=by
 obtain⟨css,h1,h2,h3⟩:=h;exact je h1
theorem iV.le(h:iV w S v n qs):n<=maxLen:=by
 obtain⟨css,h1,h2,h3⟩:=h;rcases h1.2 with⟨_,h0⟩|⟨_,_,_,_,_,_,h1,h2,_⟩
 ·omega
 ·omega
theorem iV.read(h:iV w S v n qs):gP w (fun g=>v.ownBlock=some g) S v qs:=by
 have hl:=h.len;have hn:=h.le;obtain⟨css,h1,h2,h3⟩:=h;refine⟨css,?_,h3⟩;rw[hl];rcases h1.2 with⟨rfl,rfl⟩|⟨g,cap,cur,rfl,hb,hc,hmc,Q3,Oy,Rn⟩
 ·refine⟨hn,h1.1,h3.one,none,0,rfl,aF _,fun j u hu=>?_⟩;have:=h1.1;rw[Nat.zero_mul]at this;rw[List.eq_nil_of_length_eq_zero this]at hu
  cases hu
 ·refine⟨hn,h1.1,h3.one,_,cap,rfl,hmc,fun j u hu=>⟨_,rfl,rfl,?_⟩⟩;exact h1.cells (g:=g) rfl j u hu
theorem iV.store{c n1 c1 n2 c2:Nat}{b b2:Bool}(h:iV w S (.slice a n c) n qs)(hj:j<n)(hf:cT w S (.agg #[.bool b,.slice a1 n1 c1,.bool b2,.slice a2 n2 c2]) q)(hoff:∀g,(Value.slice a n c).ownBlock=some g->¬S g)(hS:Old S w):
  ∃g,a=some ⟨g,0,none⟩∧((⟨g,0,none⟩:Addr).add ((j:Int).toNat*4)).spot=none∧((⟨g,0,none⟩:Addr).add ((j:Int).toNat*4)).block=g∧
   (∀k,k<4->(w.cell? (((⟨g,0,none⟩:Addr).add ((j:Int).toNat*4)).add k)).isSome=true∧w.frozen? (((⟨g,0,none⟩:Addr).add ((j:Int).toNat*4)).add k)=false)∧
   ∀w2,w2=setCells w ((⟨g,0,none⟩:Addr).add ((j:Int).toNat*4)) [.bool b,.slice a1 n1 c1,.bool b2,.slice a2 n2 c2]->iV w2 S (.slice a n c) n (qs.set j q)∧w.grownBy w2 (some g)∧w2.heap.size=w.heap.size:=by
 obtain⟨css,h1,h2,h3⟩:=h;obtain⟨g,rfl,OF,QX,PV,Oy⟩:=pT (nv:=[.bool b,.slice a1 n1 c1,.bool b2,.slice a2 n2 c2]) h1 rfl hj rfl (by decide);have OY:(⟨g,0,none⟩:Addr).add ((j:Int).toNat*4)=⟨g,j*4,none⟩:=by rw[aE,dV,aR]
 refine⟨g,rfl,by rw[OY],by rw[OY],fun k hk=>by rw[OY];exact OF k hk,fun w2 Oz=>?_⟩;rw[OY]at Oz;subst Oz;have UP:=jN (cs:=[.bool b,.slice a1 n1 c1,.bool b2,.slice a2 n2 c2]) h3.uS (show j<css.length by omega);rw[UP]at QX;have QY:∀x,S x->(setCells w ⟨g,j*4,none⟩ [.bool b,.slice a1 n1 c1,.bool b2,.slice a2 n2 c2]).heap[x]? =w.heap[x]? :=fun x hx=>
  PV.block x (hS x hx) fun e=>hoff g rfl (by injection e with e;rw[<-e];exact hx)
 exact⟨⟨_,QX,by simpa using h2,(h3.cJ QY).set (hf.cJ QY).qS⟩,PV,Oy⟩
structure dg(w:World)(S:Nat->Prop)(B:Nat)(iv:Iv)(v:Value)(n:Nat)(qs:List Rat):Prop where
 row:iV w (fun g=>Cv S B iv g∧v.ownBlock≠some g) v n qs
 new:∀g,v.ownBlock=some g->Cv FF B iv g
theorem dg.cJ(h:dg w S B iv v n qs)(hk:∀g,Cv S B iv g->w2.heap[g]? =w.heap[g]?):dg w2 S B iv v n qs:=
 ⟨h.row.cJ fun g hg=>hk g (hg.elim (fun h=>h.1) fun hg=>(h.new g hg).elim (fun h=>h.elim) .inr),h.new⟩
theorem dg.rel(h:dg w S B iv v n qs)(r:Rel H nx iv B w O w')(hS:∀g,S g->g<B):dg w' S B iv v n qs:=h.cJ fun _ hg=>Rel.same r hS hg
theorem dg.cG(h:dg w S B iv v n qs)(r:Rel H nx iv B w O w')(hS:∀g,S g->g<B)(he:Ext w' w2)(hm:∀p,p∈iv->p∈iv'):dg w2 S B iv' v n qs:=
 have h2:=(h.rel r hS).cJ fun g hg=>he.block g (Rel.old r hS g hg)
 ⟨h2.row.cK fun _ hg=>⟨hg.1.mono hm,hg.2⟩,fun g hg=>(h2.new g hg).mono hm⟩
theorem dg.dB(h:dg w2 FF w'.heap.size [(w'.heap.size,w2.heap.size)] v n qs)(hB:B<=w'.heap.size)(hm:(w'.heap.size,w2.heap.size)∈iv):dg w2 S B iv v n qs:=by
 have key:∀g {X:Nat->Prop},Cv FF w'.heap.size [(w'.heap.size,w2.heap.size)] g->Cv X B iv g:=fun g X hg=>by
  rcases hg with hg|⟨h1,lo,hi,h2,h3,h4⟩
  ·exact hg.elim
  ·simp at h2;obtain⟨rfl,rfl⟩:=h2;exact .inr ⟨by omega,_,_,hm,h3,h4⟩
 exact⟨h.row.cK fun g hg=>⟨key g hg.1,hg.2⟩,fun g hg=>key g (h.new g hg)⟩
theorem dg.out{w0 w1:World}(h:dg w1 FF w0.heap.size iv v n qs)(r:Rel H nx iv w0.heap.size w1 O w'):dg w' FF w0.heap.size [(w0.heap.size,w'.heap.size)] v n qs:=by
 have h2:=h.rel r (cC w0);have key:∀g,Cf w0 iv g->Cf w0 [(w0.heap.size,w'.heap.size)] g:=fun g hg=>by
  rcases hg with hg|⟨h1,lo,hi,h2,h3,h4⟩
  ·exact hg.elim
  ·exact .inr ⟨h1,_,_,bB.2 rfl,h1,by have:=r.rM lo hi h2;have:=r.size;omega⟩
 exact⟨h2.row.cK fun g hg=>⟨key g hg.1,hg.2⟩,fun g hg=>key g (h2.new g hg)⟩
theorem dg.read(h:dg w S B iv v n qs):gP w (Cv S B iv) (Cv S B iv) v qs:=
 h.row.read.cK (fun g hg=>(h.new g hg).elim (fun h=>h.elim) .inr) fun _ hg=>hg.1
end
section
variable{S S':Nat->Prop}{H:Hp}{nx n:Nat}{iv iv':Iv}{B:Nat}{w w' w2:World}{O:Nat->Sx.dx}{v:Value}{qs:List Rat}
theorem dg.store{c n1 c1 n2 c2:Nat}{b b2:Bool}(h:dg w' S B iv (.slice a n c) n qs)(hj:j<n)(hf:cT w' (fun g=>Cv S B iv g∧(Value.slice a n c).ownBlock≠some g) (.agg #[.bool b,.slice a1 n1 c1,.bool b2,.slice a2 n2 c2]) q)
  (r:Rel H nx iv B w O w') (hS:∀g,S g->g<B):
  ∃g,a=some ⟨g,0,none⟩∧((⟨g,0,none⟩:Addr).add ((j:Int).toNat*4)).spot=none∧
   (∀k,k<4->(w'.cell? (((⟨g,0,none⟩:Addr).add ((j:Int).toNat*4)).add k)).isSome=true∧w'.frozen? (((⟨g,0,none⟩:Addr).add ((j:Int).toNat*4)).add k)=false)∧
   (∀id b,dF H id=some b->(O id).nil=false->(O id).g≠((⟨g,0,none⟩:Addr).add ((j:Int).toNat*4)).block)∧Cv FF B iv g∧
   ∀w2,w2=setCells w' ((⟨g,0,none⟩:Addr).add ((j:Int).toNat*4)) [.bool b,.slice a1 n1 c1,.bool b2,.slice a2 n2 c2]->dg w2 S B iv (.slice a n c) n (qs.set j q)∧w'.grownBy w2 (some g)∧w2.heap.size=w'.heap.size:=by
 obtain⟨g,rfl,h1,h2,h3,h4⟩:=h.row.store hj hf (fun g hg hx=>hx.2 hg) (fun x hx=>Rel.old r hS x hx.1);refine⟨g,rfl,h1,h3,fun id b hb hn=>by rw[h2];exact Rel.not r hS (D7 (h.new g rfl)) id b hb hn,h.new g rfl,fun w2 Oz=>?_⟩;obtain⟨k1,k2,k3⟩:=h4 w2 Oz;exact⟨⟨k1,h.new⟩,k2,k3⟩
end
end Go.Ex
namespace Go.Sx
open Go Go.Ex Go.Proofs
variable{cs:List Value}{O:Nat->Sx.dx}
theorem Sub.kA{B:Nat}{l tl:Env}{nx:Nat}{H tH:Hp}{iv:Iv}{w w':World}{id t n c:Nat}{e:TypeId}(r:Rel H nx iv B w O w')(Om:dF H id=some (.arr e cs))(ht:fX l t=some (.o (.s id 0 n c)))
  (hs:uj H tH) (ho:EB id tH=true) (h1:EN l tl) (h2:j8 nx tl):
  Sub B l nx O w' ⟨(t,.o (.v (.slice (some ⟨(O id).g,0,none⟩) n c)))::tl,tH,nx,((O id).g,(O id).g+1)::iv,w'⟩:=by
 refine⟨O,r.free Om (by simp) (r.fits Om).1 hs ho,fun u v hv=>?_⟩;rw[ee]at hv;split at hv
 ·rename_i e;subst e;injection hv with hv;subst hv;exact⟨trivial,_,ht,rfl⟩
 ·exact⟨h2.get u v hv,v,h1.get u v hv,rfl⟩
end Go.Sx
namespace Go.Ex
open Go Go.Sx Go.Proofs
end Go.Ex
namespace Go.Ex
open Go Go.Sx Go.Proofs
variable{H:Hp}{iv:Iv}{css:List (List Value)}{qs:List Rat}{cs:List Value}{B nx:Nat}{S:Nat->Prop}{O:Nat->Sx.dx}{w w':World}
def dh(w:World)(S:Nat->Prop)(rv:List Value)(K:List (List Rat)):Prop:=rv.length=K.length∧(∀u∈rv,u.oneCell'=true)∧∀(i:Nat) u r,rv[i]? =some u->K[i]? =some r->cI w S u r
section
variable{S S':Nat->Prop}{H:Hp}{nx:Nat}{iv iv':Iv}{B:Nat}{w w' w2:World}{O:Nat->Sx.dx}{rv:List Value}{K:List (List Rat)}
theorem dh.cJ(h:dh w S rv K)(hk:∀g,S g->w2.heap[g]? =w.heap[g]?):dh w2 S rv K:=⟨h.1,h.2.1,fun i u x h1 h2=>cI.cJ (h.2.2 i u x h1 h2) hk⟩
theorem dh.cK(h:dh w S rv K)(hk:∀g,S g->S' g):dh w S' rv K:=⟨h.1,h.2.1,fun i u x h1 h2=>cI.cK (h.2.2 i u x h1 h2) hk⟩
theorem dh.rel(h:dh w (Cv S B iv) rv K)(r:Rel H nx iv B w O w')(hS:∀g,S g->g<B):dh w' (Cv S B iv) rv K:=h.cJ fun _ hg=>Rel.same r hS hg
theorem dh.cG(h:dh w (Cv S B iv) rv K)(r:Rel H nx iv B w O w')(hS:∀g,S g->g<B)(he:Ext w' w2)(hm:∀p,p∈iv->p∈iv'):dh w2 (Cv S B iv') rv K:=
 ((h.rel r hS).cJ fun g hg=>he.block g (Rel.old r hS g hg)).cK fun _ hg=>hg.mono hm
theorem dh.push{u:Value}{x:List Rat}(h:dh w S rv K)(hu:u.oneCell'=true)(hx:cI w S u x):dh w S (rv++[u]) (K++[x]):=by
 refine⟨by simp[h.1],fun v hv=>?_,fun i v y h1 h2=>?_⟩
 ·rcases bS.1 hv with hv|hv
  ·exact h.2.1 v hv
  ·simp at hv;subst hv;exact hu
 ·rcases aP i rv.length with hi|hi
  ·rw[aL hi]at h1;rw[aL (by rw[<-h.1];exact hi)]at h2;exact h.2.2 i v y h1 h2
  ·have RT:i=rv.length:=by have:=(aD.1 h1).1;simp at this;omega
   subst RT;rw[aN (aF _),bI]at h1;rw[h.1,aN (aF _),bI]at h2;simp at h1 h2;subst h1 h2;exact hx
end
theorem aAS(r:Rel H nx iv B w O w'){id n:Nat}(h:dF H id=some (.arr T.Rat css.flatten))(hl:css.length=n)(h4:∀cs∈css,cs.length=4)(hn:n<=maxLen):
  w'.ownsRow 0 T.Rat 4 (.slice (some ⟨(O id).g,0,none⟩) n n) n css.flatten:=by
 have hf:=eY h4;rw[hl]at hf;exact⟨hf,.inr ⟨(O id).g,n,css.flatten.toArray,rfl,aQ _,r.arr id _ _ h,aF _,hn,by simpa using hf,by rw[<-hf];exact bD⟩⟩
theorem dg.kA(r:Rel H nx iv B w O w'){id n:Nat}(h:dF H id=some (.arr T.Rat css.flatten))(hl:css.length=n)(hn:n<=maxLen)(hc:Fc w (Cv FF B iv) css qs):
  dg w' S B (((O id).g,(O id).g+1)::iv) (.slice (some ⟨(O id).g,0,none⟩) n n) n qs:=by
 refine⟨⟨css,aAS r h hl hc.uS hn,hl,(hc.cJ fun g hg=>Rel.same r (gQ B) hg).cK fun g hg=>⟨?_,fun e=>?_⟩⟩,fun g hg=>?_⟩
 ·exact D7 (hg.mono fun p hp=>List.mem_cons_of_mem _ hp)
 ·injection e with e;exact Rel.not r (gQ B) hg id _ h (r.fits h).1 e
 ·injection hg with hg;subst hg;exact .inr ⟨(r.low id _ h (r.fits h).1).1,_,_,aG,aF _,bZ _⟩
theorem dg.aAu{n:Nat}{v:Value}(h:dg w S B iv v n qs):cI w (Cv S B iv) v qs:=by
 obtain⟨css,h1,h2⟩:=h.read;exact⟨css,h1,h2.1,h2.uS,h2.2⟩
def kJ(w:World)(S:Nat->Prop)(css:List (List Value))(k:Nat):Prop:=∀(j:Nat) cs,j<k->css[j]? =some cs->iU w S cs 0
theorem kJ.rel{k:Nat}(h:kJ w (Cv S B iv) css k)(r:Rel H nx iv B w O w')(hS:∀g,S g->g<B):kJ w' (Cv S B iv) css k:=fun j cs h1 h2=>(h j cs h1 h2).cJ fun _ hg=>Rel.same r hS hg
theorem kJ.cG{iv':Iv}{w2:World}{k:Nat}(h:kJ w (Cv S B iv) css k)(r:Rel H nx iv B w O w')(hS:∀g,S g->g<B)(he:Ext w' w2)(hm:∀p,p∈iv->p∈iv'):kJ w2 (Cv S B iv') css k:=fun j cs h1 h2=>
 (((h.rel r hS) j cs h1 h2).cJ fun g hg=>he.block g (Rel.old r hS g hg)).cK fun _ hg=>hg.mono hm
theorem kJ.push{k:Nat}(h:kJ w S css k)(hc:iU w S cs 0):kJ w S (css.set k cs) (k+1):=fun j x hj hx=>by
 rw[List.getElem?_set]at hx;split at hx
 ·split at hx
  ·injection hx with hx;subst hx;exact hc
  ·cases hx
 ·exact h j x (by omega) hx
theorem LW{k:Nat}(h:∀x∈css,x.length=4)(hc:cs.length=4):∀x∈css.set k cs,x.length=4:=fun x hx=>by
 rcases bJ hx with h1|h1
 ·exact h x h1
 ·rw[h1];exact hc
end Go.Ex
namespace Go.Ex
theorem Jy(s:List (List Rat)×List Nat)(c:Nat):(db s c).2=s.2∨(db s c).2=s.2++[c]:=by
 unfold db;split
 ·dsimp only
  split
  ·exact .inl rfl
  ·exact .inr rfl
 ·exact .inl rfl
theorem iD(M:List (List Rat)):∀c:Nat,(∀p∈((List.range c).foldl db (M,[])).2,p<c)∧(((List.range c).foldl db (M,[])).2).Pairwise (· < ·)∧((List.range c).filter fun j=>decide (j∉((List.range c).foldl db (M,[])).2)).length+((List.range c).foldl db (M,[])).2.length=c:=by
 intro c
 induction c with
 |zero=>simp
 |succ c ih=>
  rw[bM,List.foldl_append,List.foldl_cons,List.foldl_nil];generalize (List.range c).foldl db (M,[])=s at*
  obtain⟨h1,h2,h3⟩:=ih;have hc:c∉s.2:=fun h=>by have:=h1 c h;omega
  rcases Jy s c with e|e
  ·rw[e];refine⟨fun p hp=>by have:=h1 p hp;omega,h2,?_⟩;rw[List.filter_append,List.length_append];simp only[List.filter_cons,hc,not_false_eq_true,decide_true,if_true,List.filter_nil,List.length_singleton]
   omega
  ·rw[e];refine⟨fun p hp=>?_,?_,?_⟩
   ·rcases bS.1 hp with hp|hp
    ·have:=h1 p hp;omega
    ·simp at hp;omega
   ·rw[List.pairwise_append];exact⟨h2,by simp,fun a ha b hb=>by simp at hb;subst hb;exact h1 a ha⟩
   ·rw[List.filter_append,List.length_append];have:(List.range c).filter (fun j=>decide (j∉s.2++[c]))=(List.range c).filter (fun j=>decide (j∉s.2)):=List.filter_congr fun j hj=>by
     have:=List.mem_range.1 hj;have OD:j≠c:=by omega
     simp[OD]
    have h0:(([c]:List Nat).filter fun j=>decide (j∉s.2++[c])).length=0:=by simp
    rw[this,List.length_append,List.length_singleton,h0];omega
end Go.Ex
namespace Go.Ex
open Go Go.Sx Go.Proofs
variable{next:Act->World->Prop}{Q:Exit->Act->World->Prop}{K:KT}{cs:List Value}{O:Nat->Sx.dx}
section
variable{S S':Nat->Prop}{H:Hp}{nx:Nat}{iv iv':Iv}{B:Nat}{w w' w2:World}{O:Nat->Sx.dx}{v:Value}{M:List (List (Int×Int))}
end
theorem H3(x y:Rat):x-y+y=x:=by rw[Rat.sub_eq_add_neg,Rat.add_assoc,Rat.neg_add_cancel,bW]
theorem Dx(p q:Rat):p-q=0↔p=q:=by
 constructor
 ·intro h;have:=congrArg (· +q) h;simpa [H3,Rat.zero_add]using this
 ·intro h;rw[h,Rat.sub_self]
theorem Fs{p q:Rat}:rs (p-q)=0↔p=q:=by rw[ky,Dx]
def fnV(g:Nat):Value:=.func (.func g) #[] #[]
def dP(xs ys:List Rat):Nat->Rat
 |0=>0
 |i+1=>dP xs ys i+xs.getD i 0*ys.getD i 0
theorem kW{xs ys:List Rat}{h:Nat}(hx:∀q∈xs,rl q+1<=h)(hy:∀q∈ys,rl q+1<=h)(h2:2<=h):∀i:Nat,rl (dP xs ys i)<=2*h*i+2
 |0=>by rw[dP];exact aX (by decide:rl 0<=2) (by omega)
 |i+1=>by
  have h3:=kW hx hy h2 i;have h4:=oM (dP xs ys i) (xs.getD i 0*ys.getD i 0);have h5:=jE (xs.getD i 0) (ys.getD i 0);have h6:=Hy hx h2 i;have h7:=Hy hy h2 i;rw[dP,bU];omega
section
variable{S S':Nat->Prop}{H:Hp}{nx:Nat}{iv iv':Iv}{B:Nat}{w w' w2:World}{O:Nat->Sx.dx}{v:Value}{qs:List Rat}
end
section
variable{S S':Nat->Prop}{H:Hp}{nx:Nat}{iv iv':Iv}{B:Nat}{w w' w2:World}{O:Nat->Sx.dx}{v:Value}{M:List (List Rat)}
end
section
variable{S S':Nat->Prop}{H:Hp}{nx:Nat}{iv iv':Iv}{B:Nat}{w w' w2:World}{O:Nat->Sx.dx}{v:List Value}{M:List (List Rat)}
end
theorem nE(w:World)(t e:TypeId)(a:Option Addr)(n c n' c':Nat)(h:PG.underlying t=some (.slice e)):
  (binOp .eql t (.slice a n c) (.slice none n' c')).run PG w= .ok (.bool a.isNone) w:=by
 have:∀d,(Op.equalIn (d+1) t (.slice a n c) (.slice none n' c')).run PG w= .ok a.isNone w:=fun d=>by cases a<;>simp[Op.equalIn,run_underlying h]
 simp only[binOp]
 cases a<;>simp[Op.equal,Op.maxDepth,this 9999]
abbrev vmO(gm R:Nat):Value:=.slice (some ⟨gm,0,none⟩) R R
def Lm'(S:Nat->Prop)(B:Nat)(iv:Iv)(gm R:Nat)(rv:List Value)(g:Nat):Prop:=Cv S B iv g∧¬Mb (vmO gm R) rv g
structure aAo(w:World)(S:Nat->Prop)(B:Nat)(iv:Iv)(gm R n:Nat)(rv:List Value)(M:List (List Rat)):Prop where
 mat:aA3 w (Lm' S B iv gm R rv) (vmO gm R) rv n M
 y8:∀g,Mb (vmO gm R) rv g->Cv FF B iv g
 rows:rv.length=R
section
variable{S S':Nat->Prop}{H:Hp}{nx gm R n:Nat}{iv iv':Iv}{B:Nat}{w w' w2:World}{O:Nat->Sx.dx}{rv:List Value}{M:List (List Rat)}
structure aAy(w:World)(S:Nat->Prop)(B:Nat)(iv:Iv)(gm R n:Nat)(rv:List Value)(M:List (List Rat))(i:Nat)(vb:Value):Prop where
 out:w.ownsRow 0 T.row 1 (vmO gm R) R (rv.set i vb)
 was:∃w0,aAo w0 S B iv gm R n rv M∧∀g,Cv S B iv g->g≠gm->w.heap[g]? =w0.heap[g]?
end
section
variable{S:Nat->Prop}{H:Hp}{nx gm R:Nat}{iv iv':Iv}{B:Nat}{w w' w2:World}{O:Nat->Sx.dx}{rv:List Value}{css:List (List Value)}{qs:List Rat}
end
inductive Tp where
 |nil
 |x (i:Nat) (t:Tp)
 |two (i:Nat) (t:Tp) (j:Nat) (u:Tp)
 |kA (id:Nat) (t:Tp)
def uc(ops:Array Oper):Tp->Array Bool->Bool
 | .nil,lx=>(Region.ready .any ops lx).isEmpty
 | .x i t,lx=>match ops[i]? with
  |none=>false
  |some o=>(Region.ready .any ops lx).contains i&&((Region.ready .any ops lx).all (fun j=>Nat.beq j i)||tB o.op&&EG ops (iR lx.toList 0) [] i o)&&uc ops t (lx.setIfInBounds i true)
 | .two i t j u,lx=>match Region.ready .any ops lx with
  |[a,b]=>Nat.beq a i&&(Nat.beq b j&&(uc ops t (lx.setIfInBounds i true)&&uc ops u (lx.setIfInBounds j true)))
  |_=>false
 | .kA _ t,lx=>uc ops t lx
def Jc(P:Program)(τ:mz)(B:Nat)(all:List Oper):Tp->Env->Hp->Nat->Iv->World->KT->Prop
 | .nil,l,H,nx,iv,w,K=>K l H nx iv w
 | .x i t,l,H,nx,iv,w,K=>nh all i (fun o=>fh (!fI o) P τ B all o l H nx iv w (fun l' H' OI iv' w'=>Jc P τ B all t l' H' OI iv' w' K))
 | .two i t j u,l,H,nx,iv,w,K=>nh all i (fun o=>fh (!fI o) P τ B all o l H nx iv w (fun l' H' OI iv' w'=>Jc P τ B all t l' H' OI iv' w' K))∧
   nh all j (fun o=>fh (!fI o) P τ B all o l H nx iv w (fun l' H' OI iv' w'=>Jc P τ B all u l' H' OI iv' w' K))
 | .kA id t,l,H,nx,iv,w,K=>∃H' b,dF H id=some b∧b≠ .dead∧uj H H'∧EB id H'=true∧∀O w',Rel H nx iv B w O w'->(O id).nil=false∧∃l',(∀u v,fX l' u=some v->v.sc nx∧∃v',fX l u=some v'∧v'.den O=v.den O)∧Jc P τ B all t l' H' nx (((O id).g,(O id).g+1)::iv) w' K
section
variable{P:Program}{τ:mz}{ops:Array Oper}{B n nx:Nat}{l:Env}{H:Hp}{iv:Iv}{w w':World}{O:Nat->Sx.dx}{a:Act}
theorem ML(hτ:fQ P τ)(OF:∀(j:Nat) o,ops[j]? =some o->∀d,o.dst=some d->d<n){i:Nat}
  (h:nh ops.toList i (fun o=>fh (!fI o) P τ B ops.toList o l H nx iv w K)) (sat:Sat n l H nx iv B w O a w')
  (hn:∀l' H' OI iv' w2 ρ' a' w3,K l' H' OI iv' w2->Sat n l' H' OI iv' B w2 ρ' a' w3->next a' w3):
  wpOp P ops Q i (fun a' w2=>((∀o,ops[i]? =some o->pC o=false)->Ext w' w2)∧next a' w2) a w':=by
 obtain⟨o,ho,h1⟩:=gE h;rw[bA]at ho;have hd:=OF i o ho;unfold fh at h1;refine mH ho ?_;rcases iu sat h1 with⟨hw,l1,h2,sat1⟩|⟨hw,l1,h2,sat1⟩
 ·refine .inl ⟨hw,?_⟩
  cases hR:tB o.op with
  |true=>
   obtain⟨v,hK,QW,OK⟩:=(j0 hτ h2 sat1 hR).resolve_right (fun hh=>by have:=hh.1;rw[lH hR]at this;cases this);obtain⟨l2,h3,sat2⟩:=fC sat1 hK hd QW;exact k5 (OK w' (.inr sat1.rel)) ⟨fun _=>Ext.refl _,hn _ _ _ _ _ _ _ _ h3 sat2⟩
  |false=>
   cases hA:Jh o.op with
   |true=>
    obtain⟨b,v,mk,obj,hK,OW,hb,hv,Tx,Pb,Ty⟩:=lG hτ h2 sat1 hA;have Og:Rel ((nx,b)::H) (nx+1) iv B w (Sx.gl O nx ⟨w'.heap.size,0,false⟩) (w'.alloc obj):=
     sat1.rel.push b _ rfl rfl rfl (by simp) (fun k hk=>heap_alloc_old _ _ hk) (fun _=>⟨aF _,by simp⟩) (Pb _ _ (heap_alloc_new _ _)) hb
    obtain⟨l2,h3,sat2⟩:=fC (sat1.next Og (Nat.le_succ _) (fun id Om=>gb id Om)) hK hd hv;rw[Tx]at sat2;exact k5 (v:=mk w'.heap.size) (w2:=w'.alloc obj) (Ty w') ⟨fun _=>Ext.alloc _ _,hn _ _ _ _ _ _ _ _ h3 sat2⟩
   |false=>
    cases hH:pC o with
    |false=>
     rw[mi hH]at h2;refine sF h2 sat1 hR hA hH fun v w2 hK he hs=>⟨fun _=>he,?_⟩
     obtain⟨l2,h3,sat2⟩:=fC (v:=.o (.v v)) hs hK hd trivial;exact hn _ _ _ _ _ _ _ _ h3 sat2
    |true=>
     refine lI hτ h2 sat1 fun v H' OI iv' w2 ρ' w3 hK sat2 hv=>⟨fun hs=>(by rw[hs o ho]at hH;cases hH),?_⟩
     obtain⟨l2,h3,sat3⟩:=fC sat2 hK hd hv;exact hn _ _ _ _ _ _ _ _ h3 sat3
 ·obtain⟨l2,h4,sat3⟩:=fC sat1 h2 hd trivial;exact .inr ⟨hw,fun _=>Ext.refl _,hn _ _ _ _ _ _ _ _ h4 sat3⟩
theorem mB(hτ:fQ P τ)(OF:∀(j:Nat) o,ops[j]? =some o->∀d,o.dst=some d->d<n)(OS:∀(j:Nat) (o:Oper) cs b,ops[j]? =some o->o.op≠ .select cs b){K:KT}{Q0:Act->World->Prop}
  (hQ:∀l' H' OI iv' w2 ρ' a' w3,K l' H' OI iv' w2->Sat n l' H' OI iv' B w2 ρ' a' w3->Q0 a' w3):
  ∀(t:Tp) (fuel:Nat) (la:Array Bool) (l:Env) (H:Hp) (nx:Nat) (iv:Iv) (w:World) (O:Nat->Sx.dx) (a:Act) (w':World),MS la<=fuel->la.size=ops.size->uc ops t la=true->Jc P τ B ops.toList t l H nx iv w K->Sat n l H nx iv B w O a w'->sE P .any ops (QN Q0) fuel la a w'
 | .nil,fuel,la,l,H,nx,iv,w,O,a,w',_,_,hc,h,s=>by
  simp only[uc,List.isEmpty_iff]at hc;exact wP hc ⟨rfl,hQ _ _ _ _ _ _ _ _ h s⟩ fuel
 | .x i t,fuel,la,l,H,nx,iv,w,O,a,w',hf,hz,hc,h,s=>by
  unfold uc at hc;obtain⟨o,ho,h1⟩:=gE h;rw[bA]at ho;simp only[ho,a9,Bool.or_eq_true]at hc;obtain⟨⟨c1,c2⟩,c3⟩:=hc;have c1:i∈Region.ready .any ops la:=by simpa using c1
  obtain⟨PW,-⟩:=eK.1 c1;have Ti:=jQ PW;obtain⟨f,rfl⟩:∃f,fuel=f+1:=⟨fuel-1,by omega⟩
  have Oq:(la.setIfInBounds i true).size=ops.size:=by rw[bO,hz]
  rcases c2 with c2|⟨hR,c4⟩
  ·refine⟨fun h0=>(by rw[h0]at c1;cases c1),fun j hj=>?_⟩;have Ox:j=i:=eM (List.all_eq_true.1 c2 j hj);subst Ox;exact ML hτ OF h s fun _ _ _ _ _ _ _ _ hk hs=>mB hτ OF OS hQ t f _ _ _ _ _ _ _ _ _ (by omega) Oq c3 hk hs
  ·obtain⟨y8,Oe,QE,hb3,RS⟩:=yZ c4 hz;unfold fh at h1;have hd:=OF i o ho;rcases iu s h1 with⟨hw,l1,h2,sat1⟩|⟨hw,l1,h2,sat1⟩
   ·obtain⟨v,hK,QW,OK⟩:=(j0 hτ h2 sat1 hR).resolve_right (fun hh=>by have:=hh.1;rw[lH hR]at this;cases this);obtain⟨l2,h3,sat2⟩:=fC sat1 hK hd QW;refine kl (pu:=GJ o.op) (v:=v.den O) ho OS (fun c a w hq=>absurd hq.1 (by simp)) y8 Oe f la a w' QE RS c1 (.inl ⟨hw,fun w3 he=>OK w3 (he.imp id fun he=>sat1.rel.ext he)⟩) ?_;exact mB hτ OF OS hQ t f _ _ _ _ _ _ _ _ _ (by omega) Oq c3 h3 sat2
   ·obtain⟨l2,h3,sat2⟩:=fC (v:=.o (.v undef)) sat1 h2 hd trivial;refine kl (pu:=GJ o.op) (v:=undef) ho OS (fun c a w hq=>absurd hq.1 (by simp)) y8 Oe f la a w' QE RS c1 (.inr ⟨hw,rfl⟩) ?_;exact mB hτ OF OS hQ t f _ _ _ _ _ _ _ _ _ (by omega) Oq c3 h3 sat2
 | .two i t k u,fuel,la,l,H,nx,iv,w,O,a,w',hf,hz,hc,h,s=>by
  simp only[uc]at hc;split at hc
  ·rename_i x y hr;simp only[a9]at hc;obtain⟨c1,c2,c3,c4⟩:=hc;have hx:=bQ c1;have hy:=bQ c2;subst hx;subst hy;obtain⟨h1,h2⟩:=h;have Ra:x∈Region.ready .any ops la:=by rw[hr];simp
   have Un:y∈Region.ready .any ops la:=by rw[hr];simp
   have u1:=jQ (eK.1 Ra).1;have u2:=jQ (eK.1 Un).1;obtain⟨f,rfl⟩:∃f,fuel=f+1:=⟨fuel-1,by omega⟩
   refine⟨fun h0=>(by rw[hr]at h0;cases h0),fun j hj=>?_⟩;rw[hr,List.mem_cons,bB]at hj;rcases hj with rfl|rfl
   ·exact ML hτ OF h1 s fun _ _ _ _ _ _ _ _ hk hs=>mB hτ OF OS hQ t f _ _ _ _ _ _ _ _ _ (by omega) (by rw[bO,hz]) c3 hk hs
   ·exact ML hτ OF h2 s fun _ _ _ _ _ _ _ _ hk hs=>mB hτ OF OS hQ u f _ _ _ _ _ _ _ _ _ (by omega) (by rw[bO,hz]) c4 hk hs
  ·cases hc
 | .kA id t,fuel,la,l,H,nx,iv,w,O,a,w',hf,hz,hc,h,s=>by
  obtain⟨H',b,Om,hd,hs,ho,h⟩:=h;obtain⟨hn,l',hl,h⟩:=h _ _ s.rel;exact mB hτ OF OS hQ t fuel la l' H' nx _ w' O a w' hf hz hc h ⟨s.rel.free Om hd hn hs ho,s.size,s.defers,fun u v hv=>by obtain⟨-,v',h1,h2⟩:=hl u v hv;rw[<-h2];exact s.env u v' h1,fun u v hv=>(hl u v hv).1⟩
theorem GB(hτ:fQ P τ)(hm:P.follows .mixedOrders=true)(t:Tp)(hs:Region.noSelect ops=true)(hc:uc ops t (Array.replicate ops.size false)=true)
  (h:Jc P τ B ops.toList t l H nx iv w K):ui P B ops l H nx iv w K:=by
 refine⟨fun n O a w' OF sat Q hQ id=>?_⟩;refine wp_mono (Q':=Q) (c:=.region id ops true) (wp_region_any (Q:=QN (Q .normal)) hm (sG _ _ _ _ ?_)) (fun e a w hq=>by obtain⟨rfl,hq⟩:=hq;exact hq);refine mB hτ (fun j o ho d hd=>?_) (Region.noSelect_spec hs) hQ t _ _ _ _ _ _ _ O _ _ ?_ (by simp) hc h ⟨sat.rel.drew,sat.size,sat.defers,sat.env,sat.sc⟩
 ·have:=List.all_eq_true.1 OF o (aC (by rw[bA];exact ho));rw[hd]at this;have h5:d+1<=n:=by simpa [Nat.blt]using this
  exact h5
 ·unfold MS;refine aX List.countP_le_length ?_;simp
end
theorem jL{l tl:Env}{nx t id n:Nat}(hn:(O id).nil=false)(ht:fX l t=some (.o (.w id n)))(h1:EN l tl)(h2:j8 nx tl):∀u v,fX ((t,.o (.v (.slice (some ⟨(O id).g,0,none⟩) n (O id).cap)))::tl) u=some v->v.sc nx∧∃v',fX l u=some v'∧v'.den O=v.den O:=fun u v hv=>by
 rw[ee]at hv;split at hv
 ·rename_i e;subst e;injection hv with hv;subst hv;exact⟨trivial,_,ht,by simp[SV.den,At.den,hn]⟩
 ·exact⟨h2.get u v hv,v,h1.get u v hv,rfl⟩
theorem o7{H:Hp}{nx:Nat}{iv:Iv}{B:Nat}{w w':World}(r:Rel H nx iv B w O w'){id t m sz:Nat}(h:dF H id=some (.vec t sz cs))(hm:cs.length=m*sz)(Ra:m<=maxLen)(hs:0<sz)(h0:0<m)(h1:∀u∈cs,u.oneCell'=true):
  (O id).nil=false∧B<=(O id).g∧ij w' (fun g=>g=(O id).g) sz (.slice (some ⟨(O id).g,0,none⟩) m (O id).cap) cs m:=by
 rcases r.vec id t sz _ h with⟨hn,rfl⟩|⟨hn,spare,hb,hc,Q3⟩
 ·have:=Nat.mul_pos h0 hs;simp at hm;omega
 ·refine⟨hn,(r.low id _ h hn).1,Ra,hm,h1,some ⟨(O id).g,0,none⟩,(O id).cap,rfl,?_,fun j x hx=>⟨_,rfl,rfl,?_⟩⟩
  ·have h1:(cs++spare).length=cs.length+spare.length:=List.length_append;have h2:m*sz<=(O id).cap*sz:=by omega
   exact bo h2 hs
  ·rw[dV,cell_of hb,aR,aL (aD.1 hx).1];exact hx
end Go.Ex
namespace Go.Ex
section
variable{M:List (List Rat)}{b:List Rat}{n:Nat}
def dH(M:List (List Rat))(b:List Rat):List (List Rat):=M.mapIdx fun i r=>r++[b.getD i 0]
theorem gH(hl:fZ n M):fZ (n+1) (dH M b):=fun r hr=>by
 obtain⟨i,hi⟩:=aS hr;unfold dH at hi;rw[List.getElem?_mapIdx]at hi
 cases hx:M[i]? with
 |none=>rw[hx]at hi;cases hi
 |some x=>
  rw[hx]at hi;injection hi with hi;subst hi;rw[List.length_append,hl x (aC hx)];rfl
theorem eH:(dH M b).length=M.length:=by simp[dH]
end
end Go.Ex
namespace Go.Ex
open Go Go.Sx Go.Proofs
variable{K M:List (List Rat)}{b:List Rat}{rv:List Value}{S:Nat->Prop}{q:Rat}{u:Value}{w:World}
theorem gZ.cK{S':Nat->Prop}(h:gZ w S rv K)(hk:∀g,S g->S' g):gZ w S' rv K:=⟨h.1,h.2.1,fun i u x h1 h2=>cS.cK (h.2.2 i u x h1 h2) hk⟩
theorem gZ.push{x:List Rat}(h:gZ w S rv K)(hu:u.oneCell'=true)(hx:cS w S u x):gZ w S (rv++[u]) (K++[x]):=by
 refine⟨by simp[h.1],fun v hv=>?_,fun i v y h1 h2=>?_⟩
 ·rcases bS.1 hv with hv|hv
  ·exact h.2.1 v hv
  ·simp at hv;subst hv;exact hu
 ·rcases aP i rv.length with hi|hi
  ·rw[aL hi]at h1;rw[aL (by rw[<-h.1];exact hi)]at h2;exact h.2.2 i v y h1 h2
  ·have RT:i=rv.length:=by have:=(aD.1 h1).1;simp at this;omega
   subst RT;rw[aN (aF _),bI]at h1;rw[h.1,aN (aF _),bI]at h2;simp at h1 h2;subst h1 h2;exact hx
theorem LV{v:Value}(hS:Old S w)(h:da w S v M)(hu:cS w S u b)(PX:b.length=M.length)(OE:∀r∈M,r.length<=1000)(hR:M.length<=1000):
  eA PG N.xM #[v,u] w (eF w fun v' w2=>da w2 (Nw S w w2) v' (dH M b)):=by
 have hw:=bR w;replace h:=da.arg h [];replace hu:=cS.arg hu [];obtain⟨am,cm,rfl,Rk,-⟩:=dM.shape h;obtain⟨ab,cb,rfl,Pq,-⟩:=cY.shape hu;refine AU (by simp) ?_
 refine⟨Nat×List Value×World×Iv,fun z=>⟨[(0,sV am M.length cm),(1,sV ab b.length cb),(5,.o (.w 0 z.2.1.length)),(6,iN z.1)],[(0,.vec T.gA 1 z.2.1)],1,z.2.2.2,z.2.2.1⟩,fun z=>M.length-z.1,
  fun z=>z.1<=M.length∧eE w.heap.size w z.2.2.1∧da z.2.2.1 (Cv S w.heap.size z.2.2.2) (.slice am M.length cm) M∧cS z.2.2.1 (Cv S w.heap.size z.2.2.2) (.slice ab b.length cb) b∧gZ z.2.2.1 (Cv S w.heap.size z.2.2.2) z.2.1 ((dH M b).take z.1),?_,?_⟩
 ·intro O w' r
  exact⟨(0,[],w',[]),⟨aQ _,hw.tr r.cQ,da.rel h r hS,cS.rel hu r hS,by simp[gZ]⟩,Sub.nil 5 T.gA 1 rfl (by simp[j8,SV.sc,At.sc,fa]) r fun ρ1 r1=>
   Sub.gn [] r1⟩
 rintro⟨i,rv,w1,iv⟩ ⟨hi,hw,h,hu,hK⟩;dsimp only at hi hw h hu hK ⊢;have Of:rv.length=i:=by rw[hK.1,aW,eH];omega
 refine dK.mk ?_ ?_<;>intro OC
 ·have OC:i<M.length:=by simpa using OC
  obtain⟨x,hx⟩:∃r,M[i]? =some r:=⟨_,aB OC⟩
  have PZ:=OE x (aC hx);obtain⟨q,hq⟩:∃r,b[i]? =some r:=⟨_,aB (by omega)⟩
  have Tt:b.getD i 0=q:=by rw[List.getD,hq];rfl
  have OL:(dH M b).take (i+1)=(dH M b).take i++[x++[q]]:=by
   rw[List.take_add_one,show(dH M b)[i]? =some (x++[q]) by rw[dH,List.getElem?_mapIdx,hx,<-Tt];rfl];rfl
  obtain⟨adm,um,Qd,Oh,km1,km2⟩:=dM.load h hx;obtain⟨css,⟨-,g1,g2,a0,c0,rfl,g4,g5⟩,PU,R4,On⟩:=Oh;have OX:=eY R4;obtain⟨adq,cs,TG,hF,_,hl⟩:=cY.load hu hq;obtain⟨b3,a3,n3,c3,b4,a4,n4,c4,rfl,hF⟩:=hF;have Rw:([]++css.flatten++([.bool b3,.slice a3 n3 c3,.bool b4,.slice a4 n4 c4]:List Value)).length=(x.length+1)*4:=by rw[List.nil_append,List.length_append,g1];simp;omega
  have Rx:∀u∈[]++css.flatten++([.bool b3,.slice a3 n3 c3,.bool b4,.slice a4 n4 c4]:List Value),u.oneCell'=true:=fun u hu=>by
   rw[List.nil_append]at hu;rcases bS.1 hu with hu|hu
   ·exact g2 u hu
   ·simp at hu;rcases hu with rfl|rfl|rfl|rfl<;>rfl
  have Ry:∀{H nx O w' g c OG},Rel H nx iv w.heap.size w1 O w'->w.heap.size<=g->ij w' (fun y=>y=g) 4 (.slice (some ⟨g,0,none⟩) (x.length+1) c) ([]++css.flatten++([.bool b3,.slice a3 n3 c3,.bool b4,.slice a4 n4 c4]:List Value)) (x.length+1)->(g,g+1)∈OG::iv->
    cS w' (Cv S w.heap.size (OG::iv)) (.slice (some ⟨g,0,none⟩) (x.length+1) c) (x++[q]):=by
   intro H nx O w' g c OG r hg hs hm;have hk:∀y,Cv S w.heap.size iv y->Cv S w.heap.size (OG::iv) y:=fun y hy=>hy.mono fun p hp=>List.mem_cons_of_mem _ hp;refine⟨css++[[.bool b3,.slice a3 n3 c3,.bool b4,.slice a4 n4 c4]],?_,by simp[PU],fun cs hc=>?_,fun j cs y k1 k2=>?_⟩
   ·rw[List.nil_append]at hs;rw[List.length_append,List.length_singleton,List.flatten_append];simp only[List.flatten_cons,List.flatten_nil,List.append_nil]
    exact hs.cK fun y hy=>.inr ⟨by omega,g,g+1,hm,by omega,by omega⟩
   ·rcases bS.1 hc with hc|hc
    ·exact R4 cs hc
    ·rw[bB.1 hc];rfl
   ·rcases aP j css.length with hj|hj
    ·rw[aL hj]at k1;rw[aL (by omega)]at k2;exact((On j cs y k1 k2).cJ fun y hy=>Rel.same r hS hy).cK hk
    ·have Ui:j=css.length:=by have:=(aD.1 k1).1;simp at this;omega
     rw[Ui,aN (aF _),bI]at k1;rw[Ui,PU,aN (aF _),bI]at k2;simp at k1 k2;rw[<-k1,<-k2];exact⟨_,_,_,_,_,_,_,_,rfl,(hF.cJ fun y hy=>Rel.same r hS hy).cK hk⟩
  refine GB hτ df (.x 0 (.x 2 (.x 3 (.x 4 (.x 5 (.x 7 (.x 8 (.x 9 (.two 1 (.two 6 (.x 10 (.x 11 (.x 12 (.kA 4 (.x 13 (.x 14 (.x 15 .nil))))))) 10 (.two 6 (.x 11 (.x 12 (.kA 4 (.x 13 (.x 14 (.x 15 .nil)))))) 11 (.x 6 (.x 12 (.kA 4 (.x 13 (.x 14 (.x 15 .nil)))))))) 10 (.two 1 (.two 6 (.x 11 (.x 12 (.kA 4 (.x 13 (.x 14 (.x 15 .nil)))))) 11 (.x 6 (.x 12 (.kA 4 (.x 13 (.x 14 (.x 15 .nil))))))) 11 (.x 1 (.x 6 (.x 12 (.kA 4 (.x 13 (.x 14 (.x 15 .nil))))))))))))))))) (by kernel_rfl) (by kernel_rfl) ?_;refine⟨adm,Qd,by omega,.slice a0 x.length c0,fun O w' r=>?_,?_⟩
  ·rw[aE,cH (w:=w1) (w2:=w') (by rw[dN];exact Rel.same r hS km1)];exact km2
  refine⟨adq,TG,by omega,?_,?_⟩
  ·refine⟨?_,?_⟩
   ·refine .inl ?_;refine⟨css.flatten,g1,g2,fun O w' r Ol=>?_,?_⟩
    ·obtain⟨u0,Qv⟩:∃u,css.flatten[0]? =some u:=⟨_,aB (by omega)⟩
     obtain⟨ad,ha,_,_⟩:=g5 0 u0 Qv;refine⟨ad,ha,fun j u hj=>?_⟩;obtain⟨ad2,Ok,q1,q2⟩:=g5 j u hj;rw[ha]at Ok;injection Ok with Ok;subst Ok;rw[cH (w:=w1) (w2:=w') (by rw[dN];exact Rel.same r hS q1)];exact q2
    refine⟨rfl,by omega,by unfold maxLen;omega,?_⟩;rw[aR x.length];refine⟨[.bool b3,.slice a3 n3 c3,.bool b4,.slice a4 n4 c4],rfl,fun O w' r j u hu=>?_,?_⟩
    ·obtain⟨k1,k2⟩:=hl j u hu;rw[aE,cH (w:=w1) (w2:=w') (by rw[dN,dN];exact Rel.same r hS k1)];exact k2
    refine .inl ?_;refine⟨by rw[<-g1];rfl,by omega,by unfold maxLen;omega,[(0,.vec T.gA 1 rv)],_,rfl,by simp,⟨rfl,trivial⟩,rfl,fun O w' r=>?_⟩;have hv:=o7 r (id:=4) (sz:=4) (m:=x.length+1) rfl Rw (by unfold maxLen;omega) (by decide) (by omega) Rx;refine⟨hv.1,_,jL (tl:=[(13,.o (.w 0 rv.length)),(0,sV am M.length cm),(1,sV ab b.length cb),(6,iN i)]) hv.1 (t:=25) (n:=x.length+1) rfl ⟨rfl,rfl,rfl,rfl,trivial⟩ (by simp[j8,SV.sc,At.sc]),?_⟩;have Pj:=Ry r hv.2.1 hv.2.2 aG;replace hK:=(gZ.cK (hK.rel r hS) (fun g hg=>hg.mono fun p hp=>List.mem_cons_of_mem _ hp)).push rfl Pj;replace h:=da.cK (da.rel h r hS) fun g hg=>hg.mono fun p hp=>List.mem_cons_of_mem ((O 4).g,(O 4).g+1) hp;replace hu:=cS.cK (cS.rel hu r hS) fun g hg=>hg.mono fun p hp=>List.mem_cons_of_mem ((O 4).g,(O 4).g+1) hp;rw[<-OL]at hK;replace hw:=hw.tr r.cQ;generalize (O 4).g=gx at*
    generalize (O 4).cap=cx at*
    generalize (gx,gx+1)::iv=OG at*
    refine .inl ?_;refine⟨by simp,by omega,by unfold maxLen;omega,((i+1:Nat):Int),wo,?_⟩;intro ρ3 w3 r3;exact⟨(i+1,rv++[.slice (some ⟨gx,0,none⟩) (x.length+1) cx],w3,_),⟨OC,hw.tr r3.cQ,da.rel h r3 hS,cS.rel hu r3 hS,hK.rel r3 hS⟩,Sub.gn [(0,6)] r3 (hE:=⟨rfl,rfl,by dsimp only;rw[List.length_append,List.length_singleton];rfl,rfl,trivial⟩),by dsimp only;omega⟩
   ·refine⟨[.bool b3,.slice a3 n3 c3,.bool b4,.slice a4 n4 c4],rfl,fun O w' r j u hu=>?_,?_⟩
    ·obtain⟨k1,k2⟩:=hl j u hu;rw[aE,cH (w:=w1) (w2:=w') (by rw[dN,dN];exact Rel.same r hS k1)];exact k2
    refine⟨?_,?_⟩
    ·refine .inl ?_;refine⟨css.flatten,g1,g2,fun O w' r Ol=>?_,?_⟩
     ·obtain⟨u0,Qv⟩:∃u,css.flatten[0]? =some u:=⟨_,aB (by omega)⟩
      obtain⟨ad,ha,_,_⟩:=g5 0 u0 Qv;refine⟨ad,ha,fun j u hj=>?_⟩;obtain⟨ad2,Ok,q1,q2⟩:=g5 j u hj;rw[ha]at Ok;injection Ok with Ok;subst Ok;rw[cH (w:=w1) (w2:=w') (by rw[dN];exact Rel.same r hS q1)];exact q2
     refine⟨rfl,by omega,by unfold maxLen;omega,?_⟩;rw[aR x.length];refine .inl ?_;refine⟨by rw[<-g1];rfl,by omega,by unfold maxLen;omega,[(0,.vec T.gA 1 rv)],_,rfl,by simp,⟨rfl,trivial⟩,rfl,fun O w' r=>?_⟩;have hv:=o7 r (id:=4) (sz:=4) (m:=x.length+1) rfl Rw (by unfold maxLen;omega) (by decide) (by omega) Rx;refine⟨hv.1,_,jL (tl:=[(13,.o (.w 0 rv.length)),(0,sV am M.length cm),(1,sV ab b.length cb),(6,iN i)]) hv.1 (t:=25) (n:=x.length+1) rfl ⟨rfl,rfl,rfl,rfl,trivial⟩ (by simp[j8,SV.sc,At.sc]),?_⟩;have Pj:=Ry r hv.2.1 hv.2.2 aG;replace hK:=(gZ.cK (hK.rel r hS) (fun g hg=>hg.mono fun p hp=>List.mem_cons_of_mem _ hp)).push rfl Pj;replace h:=da.cK (da.rel h r hS) fun g hg=>hg.mono fun p hp=>List.mem_cons_of_mem ((O 4).g,(O 4).g+1) hp;replace hu:=cS.cK (cS.rel hu r hS) fun g hg=>hg.mono fun p hp=>List.mem_cons_of_mem ((O 4).g,(O 4).g+1) hp;rw[<-OL]at hK;replace hw:=hw.tr r.cQ;generalize (O 4).g=gx at*
     generalize (O 4).cap=cx at*
     generalize (gx,gx+1)::iv=OG at*
     refine .inl ?_;refine⟨by simp,by omega,by unfold maxLen;omega,((i+1:Nat):Int),wo,?_⟩;intro ρ3 w3 r3;exact⟨(i+1,rv++[.slice (some ⟨gx,0,none⟩) (x.length+1) cx],w3,_),⟨OC,hw.tr r3.cQ,da.rel h r3 hS,cS.rel hu r3 hS,hK.rel r3 hS⟩,Sub.gn [(0,6)] r3 (hE:=⟨rfl,rfl,by dsimp only;rw[List.length_append,List.length_singleton];rfl,rfl,trivial⟩),by dsimp only;omega⟩
    ·refine .inl ?_;refine⟨css.flatten,g1,g2,fun O w' r Ol=>?_,?_⟩
     ·obtain⟨u0,Qv⟩:∃u,css.flatten[0]? =some u:=⟨_,aB (by omega)⟩
      obtain⟨ad,ha,_,_⟩:=g5 0 u0 Qv;refine⟨ad,ha,fun j u hj=>?_⟩;obtain⟨ad2,Ok,q1,q2⟩:=g5 j u hj;rw[ha]at Ok;injection Ok with Ok;subst Ok;rw[cH (w:=w1) (w2:=w') (by rw[dN];exact Rel.same r hS q1)];exact q2
     refine⟨rfl,by omega,by unfold maxLen;omega,?_⟩;rw[aR x.length];refine .inl ?_;refine⟨by rw[<-g1];rfl,by omega,by unfold maxLen;omega,[(0,.vec T.gA 1 rv)],_,rfl,by simp,⟨rfl,trivial⟩,rfl,fun O w' r=>?_⟩;have hv:=o7 r (id:=4) (sz:=4) (m:=x.length+1) rfl Rw (by unfold maxLen;omega) (by decide) (by omega) Rx;refine⟨hv.1,_,jL (tl:=[(13,.o (.w 0 rv.length)),(0,sV am M.length cm),(1,sV ab b.length cb),(6,iN i)]) hv.1 (t:=25) (n:=x.length+1) rfl ⟨rfl,rfl,rfl,rfl,trivial⟩ (by simp[j8,SV.sc,At.sc]),?_⟩;have Pj:=Ry r hv.2.1 hv.2.2 aG;replace hK:=(gZ.cK (hK.rel r hS) (fun g hg=>hg.mono fun p hp=>List.mem_cons_of_mem _ hp)).push rfl Pj;replace h:=da.cK (da.rel h r hS) fun g hg=>hg.mono fun p hp=>List.mem_cons_of_mem ((O 4).g,(O 4).g+1) hp;replace hu:=cS.cK (cS.rel hu r hS) fun g hg=>hg.mono fun p hp=>List.mem_cons_of_mem ((O 4).g,(O 4).g+1) hp;rw[<-OL]at hK;replace hw:=hw.tr r.cQ;generalize (O 4).g=gx at*
     generalize (O 4).cap=cx at*
     generalize (gx,gx+1)::iv=OG at*
     refine .inl ?_;refine⟨by simp,by omega,by unfold maxLen;omega,((i+1:Nat):Int),wo,?_⟩;intro ρ3 w3 r3;exact⟨(i+1,rv++[.slice (some ⟨gx,0,none⟩) (x.length+1) cx],w3,_),⟨OC,hw.tr r3.cQ,da.rel h r3 hS,cS.rel hu r3 hS,hK.rel r3 hS⟩,Sub.gn [(0,6)] r3 (hE:=⟨rfl,rfl,by dsimp only;rw[List.length_append,List.length_singleton];rfl,rfl,trivial⟩),by dsimp only;omega⟩
  ·refine⟨[.bool b3,.slice a3 n3 c3,.bool b4,.slice a4 n4 c4],rfl,fun O w' r j u hu=>?_,?_⟩
   ·obtain⟨k1,k2⟩:=hl j u hu;rw[aE,cH (w:=w1) (w2:=w') (by rw[dN,dN];exact Rel.same r hS k1)];exact k2
   refine⟨?_,?_⟩
   ·refine⟨?_,?_⟩
    ·refine .inl ?_;refine⟨css.flatten,g1,g2,fun O w' r Ol=>?_,?_⟩
     ·obtain⟨u0,Qv⟩:∃u,css.flatten[0]? =some u:=⟨_,aB (by omega)⟩
      obtain⟨ad,ha,_,_⟩:=g5 0 u0 Qv;refine⟨ad,ha,fun j u hj=>?_⟩;obtain⟨ad2,Ok,q1,q2⟩:=g5 j u hj;rw[ha]at Ok;injection Ok with Ok;subst Ok;rw[cH (w:=w1) (w2:=w') (by rw[dN];exact Rel.same r hS q1)];exact q2
     refine⟨rfl,by omega,by unfold maxLen;omega,?_⟩;rw[aR x.length];refine .inl ?_;refine⟨by rw[<-g1];rfl,by omega,by unfold maxLen;omega,[(0,.vec T.gA 1 rv)],_,rfl,by simp,⟨rfl,trivial⟩,rfl,fun O w' r=>?_⟩;have hv:=o7 r (id:=4) (sz:=4) (m:=x.length+1) rfl Rw (by unfold maxLen;omega) (by decide) (by omega) Rx;refine⟨hv.1,_,jL (tl:=[(13,.o (.w 0 rv.length)),(0,sV am M.length cm),(1,sV ab b.length cb),(6,iN i)]) hv.1 (t:=25) (n:=x.length+1) rfl ⟨rfl,rfl,rfl,rfl,trivial⟩ (by simp[j8,SV.sc,At.sc]),?_⟩;have Pj:=Ry r hv.2.1 hv.2.2 aG;replace hK:=(gZ.cK (hK.rel r hS) (fun g hg=>hg.mono fun p hp=>List.mem_cons_of_mem _ hp)).push rfl Pj;replace h:=da.cK (da.rel h r hS) fun g hg=>hg.mono fun p hp=>List.mem_cons_of_mem ((O 4).g,(O 4).g+1) hp;replace hu:=cS.cK (cS.rel hu r hS) fun g hg=>hg.mono fun p hp=>List.mem_cons_of_mem ((O 4).g,(O 4).g+1) hp;rw[<-OL]at hK;replace hw:=hw.tr r.cQ;generalize (O 4).g=gx at*
     generalize (O 4).cap=cx at*
     generalize (gx,gx+1)::iv=OG at*
     refine .inl ?_;refine⟨by simp,by omega,by unfold maxLen;omega,((i+1:Nat):Int),wo,?_⟩;intro ρ3 w3 r3;exact⟨(i+1,rv++[.slice (some ⟨gx,0,none⟩) (x.length+1) cx],w3,_),⟨OC,hw.tr r3.cQ,da.rel h r3 hS,cS.rel hu r3 hS,hK.rel r3 hS⟩,Sub.gn [(0,6)] r3 (hE:=⟨rfl,rfl,by dsimp only;rw[List.length_append,List.length_singleton];rfl,rfl,trivial⟩),by dsimp only;omega⟩
    ·refine .inl ?_;refine⟨css.flatten,g1,g2,fun O w' r Ol=>?_,?_⟩
     ·obtain⟨u0,Qv⟩:∃u,css.flatten[0]? =some u:=⟨_,aB (by omega)⟩
      obtain⟨ad,ha,_,_⟩:=g5 0 u0 Qv;refine⟨ad,ha,fun j u hj=>?_⟩;obtain⟨ad2,Ok,q1,q2⟩:=g5 j u hj;rw[ha]at Ok;injection Ok with Ok;subst Ok;rw[cH (w:=w1) (w2:=w') (by rw[dN];exact Rel.same r hS q1)];exact q2
     refine⟨rfl,by omega,by unfold maxLen;omega,?_⟩;rw[aR x.length];refine .inl ?_;refine⟨by rw[<-g1];rfl,by omega,by unfold maxLen;omega,[(0,.vec T.gA 1 rv)],_,rfl,by simp,⟨rfl,trivial⟩,rfl,fun O w' r=>?_⟩;have hv:=o7 r (id:=4) (sz:=4) (m:=x.length+1) rfl Rw (by unfold maxLen;omega) (by decide) (by omega) Rx;refine⟨hv.1,_,jL (tl:=[(13,.o (.w 0 rv.length)),(0,sV am M.length cm),(1,sV ab b.length cb),(6,iN i)]) hv.1 (t:=25) (n:=x.length+1) rfl ⟨rfl,rfl,rfl,rfl,trivial⟩ (by simp[j8,SV.sc,At.sc]),?_⟩;have Pj:=Ry r hv.2.1 hv.2.2 aG;replace hK:=(gZ.cK (hK.rel r hS) (fun g hg=>hg.mono fun p hp=>List.mem_cons_of_mem _ hp)).push rfl Pj;replace h:=da.cK (da.rel h r hS) fun g hg=>hg.mono fun p hp=>List.mem_cons_of_mem ((O 4).g,(O 4).g+1) hp;replace hu:=cS.cK (cS.rel hu r hS) fun g hg=>hg.mono fun p hp=>List.mem_cons_of_mem ((O 4).g,(O 4).g+1) hp;rw[<-OL]at hK;replace hw:=hw.tr r.cQ;generalize (O 4).g=gx at*
     generalize (O 4).cap=cx at*
     generalize (gx,gx+1)::iv=OG at*
     refine .inl ?_;refine⟨by simp,by omega,by unfold maxLen;omega,((i+1:Nat):Int),wo,?_⟩;intro ρ3 w3 r3;exact⟨(i+1,rv++[.slice (some ⟨gx,0,none⟩) (x.length+1) cx],w3,_),⟨OC,hw.tr r3.cQ,da.rel h r3 hS,cS.rel hu r3 hS,hK.rel r3 hS⟩,Sub.gn [(0,6)] r3 (hE:=⟨rfl,rfl,by dsimp only;rw[List.length_append,List.length_singleton];rfl,rfl,trivial⟩),by dsimp only;omega⟩
   ·refine .inl ?_;refine⟨css.flatten,g1,g2,fun O w' r Ol=>?_,?_⟩
    ·obtain⟨u0,Qv⟩:∃u,css.flatten[0]? =some u:=⟨_,aB (by omega)⟩
     obtain⟨ad,ha,_,_⟩:=g5 0 u0 Qv;refine⟨ad,ha,fun j u hj=>?_⟩;obtain⟨ad2,Ok,q1,q2⟩:=g5 j u hj;rw[ha]at Ok;injection Ok with Ok;subst Ok;rw[cH (w:=w1) (w2:=w') (by rw[dN];exact Rel.same r hS q1)];exact q2
    refine⟨rfl,by omega,by unfold maxLen;omega,?_⟩;rw[aR x.length];refine .inl ?_;refine⟨by rw[<-g1];rfl,by omega,by unfold maxLen;omega,[(0,.vec T.gA 1 rv)],_,rfl,by simp,⟨rfl,trivial⟩,rfl,fun O w' r=>?_⟩;have hv:=o7 r (id:=4) (sz:=4) (m:=x.length+1) rfl Rw (by unfold maxLen;omega) (by decide) (by omega) Rx;refine⟨hv.1,_,jL (tl:=[(13,.o (.w 0 rv.length)),(0,sV am M.length cm),(1,sV ab b.length cb),(6,iN i)]) hv.1 (t:=25) (n:=x.length+1) rfl ⟨rfl,rfl,rfl,rfl,trivial⟩ (by simp[j8,SV.sc,At.sc]),?_⟩;have Pj:=Ry r hv.2.1 hv.2.2 aG;replace hK:=(gZ.cK (hK.rel r hS) (fun g hg=>hg.mono fun p hp=>List.mem_cons_of_mem _ hp)).push rfl Pj;replace h:=da.cK (da.rel h r hS) fun g hg=>hg.mono fun p hp=>List.mem_cons_of_mem ((O 4).g,(O 4).g+1) hp;replace hu:=cS.cK (cS.rel hu r hS) fun g hg=>hg.mono fun p hp=>List.mem_cons_of_mem ((O 4).g,(O 4).g+1) hp;rw[<-OL]at hK;replace hw:=hw.tr r.cQ;generalize (O 4).g=gx at*
    generalize (O 4).cap=cx at*
    generalize (gx,gx+1)::iv=OG at*
    refine .inl ?_;refine⟨by simp,by omega,by unfold maxLen;omega,((i+1:Nat):Int),wo,?_⟩;intro ρ3 w3 r3;exact⟨(i+1,rv++[.slice (some ⟨gx,0,none⟩) (x.length+1) cx],w3,_),⟨OC,hw.tr r3.cQ,da.rel h r3 hS,cS.rel hu r3 hS,hK.rel r3 hS⟩,Sub.gn [(0,6)] r3 (hE:=⟨rfl,rfl,by dsimp only;rw[List.length_append,List.length_singleton];rfl,rfl,trivial⟩),by dsimp only;omega⟩
 have OC:i=M.length:=aO hi (by simpa using OC);rw[OC,List.take_of_length_le (by rw[eH];omega)]at hK;intro ρe we re;refine⟨_,rfl,hw.tr re.cQ,rv,?_,hK.1,fun i u x h1 h2=>cS.out (hK.2.2 i u x h1 h2) re hS⟩;have:=re.iG (id:=0) (sz:=1) (m:=rv.length) rfl (by rw[aT]) (by unfold maxLen;omega) (by decide) hK.2.1;rw[<-hK.1];exact this.cK fun g hg=>.inr hg
section
variable{S:Nat->Prop}{H:Hp}{nx:Nat}{iv0:Iv}{B:Nat}{w w' w2:World}{O:Nat->Sx.dx}{v:Value}{xs:List Rat}
end
theorem lj:rs q<0↔q<0:=by rw[rs,Int.sign_neg_iff,<-Int.not_le,Rat.num_nonneg,Rat.not_le]
theorem o9:0<rs q↔0<q:=by
 have h:=lj (q:= -q);rw[Nk]at h;constructor
 ·intro k;have:=h.1 (by omega);grind
 ·intro k;have:=h.2 (by grind);omega
end Go.Ex
namespace Go.Ex
variable{M:List (List Rat)}{s:List (List Rat)×List Nat}{pv:List Nat}{l:List Rat}{j r:Nat}{p q:Nat->Nat}{u v:Nat->Rat}
def ju:List Nat->(Nat->Rat)->Rat
 |[],_=>0
 |t::l,g=>g t+ju l g
theorem yz{g h:Nat->Rat}:∀{l:List Nat},(∀t∈l,g t=h t)->ju l g=ju l h
 |[],_=>rfl
 |t::l,e=>by show g t+_=h t+_;rw[e t aG,yz fun s hs=>e s (List.mem_cons_of_mem _ hs)]
theorem Bm{g:Nat->Rat}:∀{l:List Nat},(∀t∈l,g t=0)->ju l g=0
 |[],_=>rfl
 |t::l,e=>by show g t+_=0;rw[e t aG,Bm fun s hs=>e s (List.mem_cons_of_mem _ hs),bW]
theorem wV(g:Nat->Rat):∀l k:List Nat,ju (l++k) g=ju l g+ju k g
 |[],k=>(Rat.zero_add _).symm
 |t::l,k=>by show g t+ju (l++k) g=g t+ju l g+ju k g;rw[wV g l k,Rat.add_assoc]
theorem Ee(g:Nat->Rat):∀l:List Nat,ju l (fun t=> -g t)= -ju l g
 |[]=>rfl
 |t::l=>by show -g t+ju l _= -(g t+ju l g);rw[Ee g l,Rat.neg_add]
theorem wW(p:Nat->Bool)(g:Nat->Rat):∀l:List Nat,ju l g=ju (l.filter p) g+ju (l.filter fun t=> !p t) g
 |[]=>(bW 0).symm
 |t::l=>by
  show g t+ju l g=_;rw[wW p g l,List.filter_cons,List.filter_cons]
  cases p t with
  |true=>show _=g t+_+_;rw[Rat.add_assoc];rfl
  |false=>
   show _=ju (l.filter p) g+(g t+_)
   rw[<-Rat.add_assoc,Rat.add_comm (g t),Rat.add_assoc]
theorem zA{g:Nat->Rat}{s:Nat}:∀{l:List Nat},l.Nodup->s∈l->(∀t∈l,t≠s->g t=0)->ju l g=g s
 |[],_,hm,_=>by cases hm
 |t::l,hn,hm,h=>by
  show g t+ju l g=g s;have RV:=List.nodup_cons.1 hn;rcases List.mem_cons.1 hm with rfl|hm
  ·rw[Bm fun u hu=>h u (List.mem_cons_of_mem _ hu) fun e=>RV.1 (e▸hu),bW]
  ·rw[h t aG (fun e=>RV.1 (e▸hm)),Rat.zero_add,zA RV.2 hm fun u hu=>h u (List.mem_cons_of_mem _ hu)]
theorem zB{i t:Nat}{v:Rat}:(l.set i v).getD t 0=if i=t∧i<l.length then v else l.getD t 0:=by
 simp only[List.getD,List.getElem?_set]
 by_cases h:i=t
 ·subst h;by_cases hl:i<l.length
  ·simp[hl]
  ·simp[hl]
 ·simp[h]
theorem zC{F:Nat->List Rat}{pv:List Nat}{f:Nat->Rat}(hF:∀i,F (i+1)=(F i).set (pv.getD i 0) (f i)){t:Nat}(ht:t∉pv):∀i,i<=pv.length->(F i).getD t 0=(F 0).getD t 0
 |0,_=>rfl
 |i+1,h=>by
  rw[hF,zB,aJ fun e=>ht (by rw[<-e.1,List.getD,aB (by omega)];exact aY _)];exact zC hF ht i (by omega)
theorem Jz(hp:pv.Pairwise (· < ·)){i:Nat}(Pa:j<i)(hi:i<pv.length):pv.getD j 0<pv.getD i 0:=by
 rw[List.getD,List.getD,aB hi,aB (by omega)];exact List.pairwise_iff_getElem.1 hp j i _ _ Pa
theorem oE{F:Nat->List Rat}{pv:List Nat}{f:Nat->Rat}{n:Nat}(hF:∀i,F (i+1)=(F i).set (pv.getD i 0) (f i))(hl:∀i,(F i).length=n)(hp:pv.Pairwise (· < ·))(hn:∀p∈pv,p<n){j:Nat}:∀i,i<=pv.length->j<i->(F i).getD (pv.getD j 0) 0=f j
 |0,_,h=>by omega
 |i+1,h,hj=>by
  rw[hF,zB];rcases aP j i with h1|h1
  ·have:=Jz hp h1 (by omega);rw[aJ (by omega)];exact oE hF hl hp hn i (by omega) h1
  ·have e:j=i:=by omega
   subst e;have hm:pv.getD j 0<(F j).length:=by rw[hl];exact hn _ (by rw[List.getD,aB (by omega)];exact aY _)
   rw[if_pos ⟨rfl,hm⟩]
def ew(M:List (List Rat))(x:List Rat):List Rat:=M.map fun r=>dP r x r.length
abbrev jC(pv:List Nat)(n:Nat):List Nat:=(List.range n).filter fun c=>decide (c∉pv)
section
variable{M:List (List Rat)}{x:List Rat}{n:Nat}
end
structure Diff(A:List (List Rat))(pv:List Nat)(n:Nat)(x:List Rat):Prop where
 up:pv.Pairwise (· < ·)
 lt:∀p∈pv,p<n
 le:pv.length<=A.length
 unit:∀i j,i<pv.length->j<A.length->dD A j (pv.getD i 0)=if j=i then 1 else 0
 sum:∀j,j<A.length->ju (List.range n) (fun t=>dD A j t*x.getD t 0)=dD A j n
section
variable{A:List (List Rat)}{pv:List Nat}{n:Nat}{x:List Rat}
theorem sP{t:Nat}(h:t∈pv):∃j,j<pv.length∧pv.getD j 0=t:=by
 obtain⟨j,hj,rfl⟩:=List.mem_iff_getElem.1 h;exact⟨j,hj,by rw[List.getD,aB hj];rfl⟩
theorem pX{c t:Nat}(ht:t∉pv)(hc:c<n):(gI A pv n c pv.length).getD t 0=if t=c then 1 else 0:=by
 rw[zC (F:=gI A pv n c) (fun i=>gz A pv n c i) ht _ (aF _)];show((List.replicate n (0:Rat)).set c 1).getD t 0=_;rw[zB,bG];by_cases h:c=t
 ·rw[if_pos ⟨h,hc⟩,if_pos h.symm]
 ·rw[aJ (fun e=>h e.1),aJ (fun e=>h e.symm)];simp only[List.getD,List.getElem?_replicate]
  split<;>rfl
theorem Diff.kin(h:Diff A pv n x){c:Nat}(hj:j<pv.length):(gI A pv n c pv.length).getD (pv.getD j 0) 0= -(dD A j c):=
 oE (F:=gI A pv n c) (f:=fun i=> -(dD A i c)) (fun i=>gz A pv n c i) (kD A pv n c) h.up h.lt _ (aF _) hj
theorem tQ{t:Nat}(ht:t∉pv):(fy A pv n pv.length).getD t 0=0:=by
 rw[zC (F:=fy A pv n) (fun i=>gV A pv n i) ht _ (aF _)];show(List.replicate n (0:Rat)).getD t 0=0;simp only[List.getD,List.getElem?_replicate]
 split<;>rfl
theorem Diff.xin(h:Diff A pv n x)(hj:j<pv.length):(fy A pv n pv.length).getD (pv.getD j 0) 0=dD A j n:=
 oE (F:=fy A pv n) (f:=fun i=>dD A i n) (fun i=>gV A pv n i) (jH A pv n) h.up h.lt _ (aF _) hj
theorem sQ:(jC pv n).Nodup:=List.Pairwise.filter _ List.nodup_range
theorem lO{c:Nat}:c∈jC pv n↔c<n∧c∉pv:=by
 unfold jC;rw[List.mem_filter,List.mem_range,decide_eq_true_eq]
theorem Diff.rest(h:Diff A pv n x){t:Nat}(ht:t<n):x.getD t 0+(fy A pv n pv.length).getD t 0* -1=ju (jC pv n) fun c=>x.getD c 0*(gI A pv n c pv.length).getD t 0:=by
 by_cases hp:t∈pv
 ·obtain⟨j,hj,rfl⟩:=sP hp;have hs:=h.sum j (Nat.lt_of_lt_of_le hj h.le);rw[wW (fun c=>decide (c∉pv)),zA (s:=pv.getD j 0) (l:=(List.range n).filter fun t=> !decide (t∉pv)) (List.Pairwise.filter _ List.nodup_range) (List.mem_filter.2 ⟨List.mem_range.2 ht,by rw[bL fun e=>e hp];rfl⟩) (fun s hs OD=>?_),h.unit j j hj (Nat.lt_of_lt_of_le hj h.le),if_pos rfl,bp]at hs
  ·rw[h.xin hj,yz (h:=fun c=> -(dD A j c*x.getD c 0)) fun c hc=>by rw[h.kin hj,Rat.mul_neg,bg],Ee,<-hs];generalize x.getD (pv.getD j 0) 0=q;generalize ju _ _=s;rw[Rat.mul_neg,Rat.mul_one,Rat.neg_add,<-Rat.add_assoc,Rat.add_comm q,Rat.add_assoc,Rat.add_neg_cancel,bW]
  ·have QS:s∈pv:=by simpa using(List.mem_filter.1 hs).2
   obtain⟨i,hi,rfl⟩:=sP QS;rw[h.unit i j hi (Nat.lt_of_lt_of_le hj h.le),aJ (fun e=>OD (by rw[e])),bE]
 ·rw[tQ hp,bE,bW,zA (s:=t) sQ (lO.2 ⟨ht,hp⟩) fun c hc OD=>by rw[pX hp (lO.1 hc).1,aJ (Ne.symm OD),bC],pX hp ht,if_pos rfl,Rat.mul_one]
theorem pY{k:Nat}(hk:k<(jC pv n).length):(jC pv n).getD k 0∈jC pv n:=by rw[List.getD,aB hk];exact aY hk
theorem oF{k:Nat}{r:List Rat}(h:(eU A pv n n)[k]? =some r):k<(jC pv n).length∧r=gI A pv n ((jC pv n).getD k 0) pv.length:=by
 unfold eU at h;rw[aM]at h;obtain⟨c,hc,rfl⟩:=Option.map_eq_some_iff.1 h;refine⟨(aD.1 hc).1,?_⟩;rw[List.getD,hc];rfl
theorem KA{i k:Nat}(hi:i<(jC pv n).length)(hk:k<(jC pv n).length)(e:(jC pv n).getD i 0=(jC pv n).getD k 0):i=k:=by
 rw[List.getD,List.getD,aB hi,aB hk]at e;rcases bs i k with h|h|h
 ·exact absurd e (List.pairwise_iff_getElem.1 sQ i k hi hk h)
 ·exact h
 ·exact absurd e.symm (List.pairwise_iff_getElem.1 sQ k i hk hi h)
theorem zD{k i:Nat}{r s:List Rat}(hr:(eU A pv n n)[k]? =some r)(hs:(eU A pv n n)[i]? =some s):s.getD ((jC pv n).getD k 0) 0=if i=k then 1 else 0:=by
 obtain⟨hk,-⟩:=oF hr;obtain⟨hi,rfl⟩:=oF hs;have hm:=lO.1 (pY hk);rw[pX hm.2 (lO.1 (pY hi)).1];by_cases h:i=k
 ·rw[h,if_pos rfl,if_pos rfl]
 ·rw[aJ (fun e=>h (KA hi hk e.symm)),aJ h]
end
theorem lP(f:Nat->Nat->Rat)(m:Nat):∀n,cZ (fun i=>cZ (f i) m) n=cZ (fun j=>cZ (fun i=>f i j) n) m
 |0=>(dm m).symm
 |n+1=>by
  show cZ (fun i=>cZ (f i) m) n+cZ (f n) m=cZ (fun j=>cZ (fun i=>f i j) n+f n j) m;rw[gJ,lP f m n]
theorem oH(x y:List Rat):∀n,dP x y n=cZ (fun t=>x.getD t 0*y.getD t 0) n
 |0=>rfl
 |n+1=>by rw[dP,oH x y n];rfl
theorem wX{f:Nat->Rat}:∀{n:Nat},(∀k,k<n->0<=f k)->0<=cZ f n
 |0,_=>Rat.le_refl
 |n+1,h=>by
  have h1:=wX (n:=n) fun k hk=>h k (by omega);have h2:=h n (by omega);show 0<=cZ f n+f n;grind
theorem wY{f:Nat->Rat}:∀{n:Nat},(∀k,k<n->0<=f k)->cZ f n<=0->∀k,k<n->f k=0
 |0,_,_,k,hk=>by omega
 |n+1,h,h0,k,hk=>by
  have h1:=wX (n:=n) fun k hk=>h k (by omega);have h2:=h n (by omega);have h3:cZ f n+f n<=0:=h0;rcases aP k n with h4|h4
  ·exact wY (fun k hk=>h k (by omega)) (by grind) k h4
  ·rw[show k=n by omega];grind
def Ct(m:Mx)(n w:Nat):Prop:=∀x:Nat->Rat,(∀t,t<w->cZ (fun i=>x i*m i t) n=0)->∀i,i<n->x i=0
theorem KC(f:Nat->Rat){n a b:Nat}(ha:a<n)(hb:b<n):cZ (fun i=>f (lE a b i)) n=cZ f n:=by
 have h1:cZ (fun i=>(if i=a then f b-f a else 0)+(if i=b then f a-f b else 0)) n=0:=by
  rw[gJ,eh ha fun k _ OD=>aJ OD,eh hb fun k _ OD=>aJ OD,if_pos rfl,if_pos rfl];grind
 have h2:cZ (fun i=>f (lE a b i)) n-cZ f n=0:=by
  rw[<-tR,<-h1];refine cL fun k _=>?_;unfold lE;by_cases h3:k=a
  ·subst h3;rw[if_pos rfl,if_pos rfl];by_cases h4:k=b
   ·subst h4;rw[if_pos rfl];grind
   ·rw[aJ h4];grind
  ·rw[aJ h3,aJ h3];by_cases h4:k=b
   ·subst h4;rw[if_pos rfl,if_pos rfl];grind
   ·rw[aJ h4,aJ h4];grind
 grind
theorem Cu(a b i:Nat):lE a b (lE a b i)=i:=by
 unfold lE;by_cases h1:i=a
 ·rw[if_pos h1];by_cases h2:b=a
  ·rw[if_pos h2];omega
  ·rw[aJ h2,if_pos rfl];omega
 ·rw[aJ h1];by_cases h2:i=b
  ·rw[if_pos h2,if_pos rfl];omega
  ·rw[aJ h2,aJ h1,aJ h2]
theorem Nl{a b i n:Nat}(ha:a<n)(hb:b<n)(hi:i<n):lE a b i<n:=by unfold lE;split<;>(try split)<;>omega
theorem Ct.lE{m:Mx}{n w a b:Nat}(h:Ct m n w)(ha:a<n)(hb:b<n):Ct (fun i t=>m (lE a b i) t) n w:=fun x hx i hi=>by
 have h1:=h (fun i=>x (Go.Ex.lE a b i)) (fun t ht=>by
  rw[<-hx t ht,<-KC (fun i=>x i*m (Go.Ex.lE a b i) t) ha hb]
  exact cL fun k _=>by simp only[Cu]) (Go.Ex.lE a b i) (Nl ha hb hi)
 simp only[Cu]at h1;exact h1
section
variable{m m':Mx}{n w p:Nat}{κ:Rat}{q:Nat->Rat}
def mK(p:Nat)(q x:Nat->Rat)(n:Nat):Rat:=cZ (fun j=>if j=p then 0 else x j*q j) n
theorem Hc(hp:p<n)(h1:∀t,t<w->m' p t=κ*m p t)(h2:∀j t,j<n->j≠p->t<w->m' j t=m j t+q j*m' p t)(x:Nat->Rat){t:Nat}(ht:t<w):
  cZ (fun j=>x j*m' j t) n=cZ (fun j=>(if j=p then κ*(x p+mK p q x n)else x j)*m j t) n:=by
 have h3:cZ (fun j=>x j*m' j t) n-cZ (fun j=>(if j=p then κ*(x p+mK p q x n)else x j)*m j t) n=0:=by
  rw[<-tR];have h4:∀j,j<n->x j*m' j t-(if j=p then κ*(x p+mK p q x n)else x j)*m j t=(if j=p then 0 else x j*q j)*(κ*m p t)+(if j=p then -(mK p q x n*(κ*m p t))else 0):=fun j hj=>by
   by_cases h5:j=p
   ·subst h5;rw[if_pos rfl,if_pos rfl,if_pos rfl,h1 t ht];grind
   ·rw[aJ h5,aJ h5,aJ h5,h2 j t hj h5 ht,h1 t ht];grind
  rw[cL h4,gJ,iy,eh hp fun k _ OD=>aJ OD,if_pos rfl];unfold mK;grind
 grind
theorem Ct.mix(hi:Ct m n w)(hκ:κ≠0)(hp:p<n)(h1:∀t,t<w->m' p t=κ*m p t)(h2:∀j t,j<n->j≠p->t<w->m' j t=m j t+q j*m' p t):Ct m' n w:=fun x hx=>by
 have h3:=hi _ fun t ht=>(Hc hp h1 h2 x ht).symm.trans (hx t ht);have h4:∀j,j<n->j≠p->x j=0:=fun j hj OD=>by have:=h3 j hj;rwa [aJ OD]at this
 have h5:mK p q x n=0:=by
  unfold mK;rw[cL (g:=fun _=>0) fun j hj=>?_,dm];by_cases h6:j=p
  ·rw[if_pos h6]
  ·rw[aJ h6,h4 j hj h6,bE]
 have h6:=h3 p hp;rw[if_pos rfl,h5,bW]at h6;intro i hi;by_cases h7:i=p
 ·rw[h7];exact(Rat.mul_eq_zero.1 h6).resolve_left hκ
 ·exact h4 i hi h7
theorem Ct.aAX(hi:Ct m' n w)(hκ:κ≠0)(hp:p<n)(h1:∀t,t<w->m' p t=κ*m p t)(h2:∀j t,j<n->j≠p->t<w->m' j t=m j t+q j*m' p t):Ct m n w:=fun y hy=>by
 have hk:κ*κ⁻¹=1:=Rat.mul_inv_cancel _ hκ;have h3:=hi (fun j=>if j=p then y p*κ⁻¹-mK p q y n else y j) fun t ht=>by
  rw[Hc hp h1 h2 _ ht,<-hy t ht];refine cL fun j hj=>?_;have h5:mK p q (fun j=>if j=p then y p*κ⁻¹-mK p q y n else y j) n=mK p q y n:=by
   unfold mK;refine cL fun i _=>?_;by_cases h6:i=p
   ·rw[if_pos h6,if_pos h6]
   ·rw[aJ h6,aJ h6];simp only[aJ h6]
  rw[h5,if_pos rfl];by_cases h6:j=p
  ·rw[if_pos h6,h6];grind
  ·rw[aJ h6,aJ h6]
 have h4:∀j,j<n->j≠p->y j=0:=fun j hj OD=>by have:=h3 j hj;rwa [aJ OD]at this
 have h5:mK p q y n=0:=by
  unfold mK;rw[cL (g:=fun _=>0) fun j hj=>?_,dm];by_cases h6:j=p
  ·rw[if_pos h6]
  ·rw[aJ h6,h4 j hj h6,bE]
 have h6:=h3 p hp;rw[if_pos rfl,h5]at h6;intro i hi;by_cases h7:i=p
 ·rw[h7];grind
 ·exact h4 i hi h7
end
theorem Ct.congr{m m':Mx}{n w:Nat}(h:Ct m n w)(e:∀i t,i<n->t<w->m' i t=m i t):Ct m' n w:=fun x hx=>h x fun t ht=>by
 rw[<-hx t ht];exact cL fun i hi=>by rw[e i t hi ht]
theorem KD{c w:Nat}(hl:fZ w s.1)(hle:s.2.length<=s.1.length):Ct (dD (db s c).1) s.1.length w↔Ct (dD s.1) s.1.length w:=by
 rcases j1 c hle with⟨e,-⟩|⟨k,h1,h2,h3,e⟩
 ·rw[e]
 ·obtain⟨r1,r2⟩:=lN hl h1 h2 h3 e;have hp:s.2.length<s.1.length:=by omega
  have hs:lE s.2.length k s.2.length=k:=by unfold lE;rw[if_pos rfl]
  have hκ:(1 / dD s.1 k c)≠0:=fun e=>by have:=tP h3;rw[e,bC]at this;exact absurd this (by decide)
  have q1:∀t,t<w->dD (db s c).1 s.2.length t=(1 / dD s.1 k c)*(fun i t=>dD s.1 (lE s.2.length k i) t) s.2.length t:=fun t _=>by
   simp only[hs]
   rw[r1,bg]
  have q2:∀j t,j<s.1.length->j≠s.2.length->t<w->dD (db s c).1 j t=(fun i t=>dD s.1 (lE s.2.length k i) t) j t+(fun j=> -(dD s.1 (lE s.2.length k j) c)) j*dD (db s c).1 s.2.length t:=fun j t hj OD ht=>by
   rw[r2 j hj OD t ht,r1];have:lE s.2.length k j=if j=k then s.2.length else j:=by unfold lE;rw[aJ OD]
   simp only[this]
  constructor
  ·intro h;have h4:=(Ct.aAX h hκ hp q1 q2).lE hp h2;exact h4.congr fun i t _ _=>by simp only[Cu]
  ·intro h;exact Ct.mix (h.lE hp h2) hκ hp q1 q2
theorem wZ{M:List (List Rat)}{w:Nat}(hl:fZ w M):∀cols,cols<=w->(Ct (dD (cN M cols).1) M.length w↔Ct (dD M) M.length w)
 |0,_=>Iff.rfl
 |c+1,h=>by
  have ih:=wZ hl c (by omega);have hr:=dc hl c (by omega);have h1:=eB M c;rw[<-ih];have h2:=KD (c:=c) hr.1 hr.2.1;rw[h1]at h2;rw[<-h2];unfold cN;rw[bM,List.foldl_append];exact Iff.rfl
def eJ(E:Mx)(r n:Nat)(v:Nat->Rat):Prop:=∃c:Nat->Rat,∀t,t<n->v t=cZ (fun i=>c i*E i t) r
structure Rf(E:Mx)(p:Nat->Nat)(r n:Nat):Prop where
 lt:∀i,i<r->p i<n
 mono:∀i j,i<j->j<r->p i<p j
 unit:∀i j,i<r->j<r->E j (p i)=if j=i then 1 else 0
 lead:∀i t,i<r->t<p i->E i t=0
section
variable{E F:Mx}{p q:Nat->Nat}{r s n:Nat}{v:Nat->Rat}
theorem Rf.coeff(h:Rf E p r n)(hv:eJ E r n v):∀t,t<n->v t=cZ (fun i=>v (p i)*E i t) r:=by
 obtain⟨c,hc⟩:=hv;intro t ht;rw[hc t ht];refine cL fun i hi=>?_;rw[hc (p i) (h.lt i hi),eh hi fun k hk OD=>by rw[h.unit i k hi hk,aJ OD,bC],h.unit i i hi hi,if_pos rfl,Rat.mul_one]
theorem Rf.MY(h:Rf E p r n)(hv:eJ E r n v){t:Nat}(ht:t<n)(h0:v t≠0)(hz:∀k,k<t->v k=0):∃i,i<r∧p i=t:=by
 refine Decidable.byContradiction fun Qy=>h0 ?_;rw[h.coeff hv t ht,cL (g:=fun _=>0) fun i hi=>?_,dm];rcases bs (p i) t with h1|h1|h1
 ·rw[hz _ h1,bE]
 ·exact absurd ⟨i,hi,h1⟩ Qy
 ·rw[h.lead i t hi h1,bC]
theorem Rf.NJ(h:Rf E p r n)(k:Rf F q s n)(hE:∀i,i<r->eJ F s n (E i)){i:Nat}(hi:i<r):∃j,j<s∧q j=p i:=
 k.MY (hE i hi) (h.lt i hi) (by rw[h.unit i i hi hi,if_pos rfl];decide) fun t ht=>h.lead i t hi ht
theorem Rf.KE(h:Rf E p r n)(k:Rf F q s n)(hE:∀i,i<r->eJ F s n (E i))(hF:∀j,j<s->eJ E r n (F j)):∀i,i<r->i<s∧p i=q i:=by
 intro i
 induction i using Nat.strongRecOn with
 |ind i ih=>
  intro hi;obtain⟨j,hj,e1⟩:=h.NJ k hE hi;have Ox:i<=j:=by
   refine Nat.le_of_not_lt fun OU=>?_;have h1:=(ih j OU (by omega)).2;have h2:=h.mono j i OU hi;omega
  have his:i<s:=by omega
  refine⟨his,?_⟩;obtain⟨l,hl,e2⟩:=k.NJ h hF his;have hli:i<=l:=by
   refine Nat.le_of_not_lt fun OU=>?_;have h1:=(ih l OU hl).2;have h2:=k.mono l i OU his;omega
  have h3:q i<=q j:=by
   rcases aP i j with h4|h4
   ·exact Nat.le_of_lt (k.mono i j h4 hj)
   ·rw[show i=j by omega];exact aF _
  have h5:p i<=p l:=by
   rcases aP i l with h4|h4
   ·exact Nat.le_of_lt (h.mono i l h4 hl)
   ·rw[show i=l by omega];exact aF _
  omega
theorem Rf.one(h:Rf E p r n)(k:Rf F q s n)(hE:∀i,i<r->eJ F s n (E i))(hF:∀j,j<s->eJ E r n (F j)):r=s∧(∀i,i<r->p i=q i)∧∀i t,i<r->t<n->E i t=F i t:=by
 have h1:=h.KE k hE hF;have h2:=k.KE h hF hE;have Uz:r=s:=by
  rcases bs r s with h3|h3|h3
  ·have:=(h2 r h3).1;omega
  ·exact h3
  ·have:=(h1 s h3).1;omega
 refine⟨Uz,fun i hi=>(h1 i hi).2,fun i t hi ht=>?_⟩;rw[k.coeff (hE i hi) t ht,eh (i:=i) (by omega) fun j hj OD=>by rw[<-(h1 j (by omega)).2,h.unit j i (by omega) hi,aJ (Ne.symm OD),bE],<-(h1 i hi).2,h.unit i i hi hi,if_pos rfl,bp]
end
theorem eJ.row{E:Mx}{n i:Nat}(hi:i<r):eJ E r n (E i):=⟨fun k=>if k=i then 1 else 0,fun t _=>by
 rw[eh hi fun k _ OD=>by simp only[aJ OD,bE]]
 simp only[if_pos,bp]⟩
theorem eJ.add{E:Mx}{n:Nat}(h:eJ E r n u)(k:eJ E r n v)(x:Rat):eJ E r n fun t=>u t+x*v t:=by
 obtain⟨c,hc⟩:=h;obtain⟨d,hd⟩:=k;refine⟨fun i=>c i+x*d i,fun t ht=>?_⟩;show u t+x*v t=cZ (fun i=>(c i+x*d i)*E i t) r;rw[hc t ht,hd t ht,<-eR,<-gJ];exact cL fun i _=>by grind
theorem eJ.mul{E:Mx}{n:Nat}(h:eJ E r n u)(x:Rat):eJ E r n fun t=>u t*x:=by
 obtain⟨c,hc⟩:=h;refine⟨fun i=>c i*x,fun t ht=>?_⟩;show u t*x=cZ (fun i=>(c i*x)*E i t) r;rw[hc t ht,<-iy];exact cL fun i _=>by grind
theorem eJ.congr{E:Mx}{n:Nat}(h:eJ E r n u)(e:∀t,t<n->v t=u t):eJ E r n v:=by
 obtain⟨c,hc⟩:=h;exact⟨c,fun t ht=>by rw[e t ht,hc t ht]⟩
theorem eJ.trans{E F:Mx}{s n:Nat}(h:eJ E r n v)(k:∀i,i<r->eJ F s n (E i)):eJ F s n v:=by
 obtain⟨c,hc⟩:=h;have key:∀m,m<=r->eJ F s n fun t=>cZ (fun i=>c i*E i t) m:=by
  intro m
  induction m with
  |zero=>intro _;exact⟨fun _=>0,fun t _=>by rw[cL (g:=fun _=>0) fun i _=>bE _,dm];rfl⟩
  |succ m ih=>
   intro hm;exact(ih (by omega)).add (k m (by omega)) (c m)
 exact(key r (aF _)).congr fun t ht=>hc t ht
def KF(s:List (List Rat)×List Nat):Prop:=(∀i j,i<j->j<s.2.length->s.2.getD i 0<s.2.getD j 0)∧∀i t,i<s.2.length->t<s.2.getD i 0->dD s.1 i t=0
theorem KF.step{n c:Nat}(h:KF s)(hr:Red n c s)(hc:c<n):KF (db s c):=by
 obtain⟨hl,hle,hz,Qz,hu⟩:=hr;rcases j1 c hle with⟨e,-⟩|⟨k,h1,h2,h3,e⟩
 ·rw[e];exact h
 ·obtain⟨r1,r2⟩:=lN hl h1 h2 h3 e;have e2:(db s c).2=s.2++[c]:=by rw[e]
  have hold:∀i,i<s.2.length->(db s c).2.getD i 0=s.2.getD i 0:=fun i hi=>by rw[e2,List.getD,aL hi,<-List.getD]
  have Pj:(db s c).2.getD s.2.length 0=c:=by rw[e2,List.getD,aN (aF _),bI];rfl
  have OU:∀i,i<s.2.length->s.2.getD i 0<c:=fun i hi=>Qz _ (by rw[List.getD,aB hi];exact aY _);have hlen:(db s c).2.length=s.2.length+1:=by rw[e2];simp
  refine⟨fun i j Pa hj=>?_,fun i t hi ht=>?_⟩
  ·rw[hlen]at hj;rcases aP j s.2.length with h4|h4
   ·rw[hold i (by omega),hold j h4];exact h.1 i j Pa h4
   ·rw[show j=s.2.length by omega,Pj,hold i (by omega)];exact OU i (by omega)
  ·rw[hlen]at hi;rcases aP i s.2.length with h4|h4
   ·rw[hold i h4]at ht;have h5:=OU i h4;rw[r2 i (by omega) (by omega) t (by omega),hz k t h1 h2 (by omega),aJ (by omega),h.2 i t h4 ht,bE,bC,Rat.zero_add]
   ·rw[show i=s.2.length by omega]at ht ⊢;rw[Pj]at ht;rw[r1,hz k t h1 h2 ht,bE]
theorem tS{M:List (List Rat)}{n:Nat}(hl:fZ n M):∀cols,cols<=n->KF (cN M cols)
 |0,_=>⟨fun _ _ _ h=>(by cases h),fun _ _ h=>(by cases h)⟩
 |c+1,h=>by
  have ih:=tS hl c (by omega);have hr:=dc hl c (by omega);unfold cN at ih hr ⊢;rw[bM,List.foldl_append];exact ih.step hr (by omega)
theorem zH{n:Nat}(hl:fZ n M):Rf (dD (cN M n).1) (fun i=>(cN M n).2.getD i 0) (cN M n).2.length n:=by
 obtain⟨h1,h2,h3,h4,h5⟩:=dc hl n (aF _);obtain⟨k1,k2⟩:=tS hl n (aF _);refine⟨fun i hi=>h4 _ (by rw[List.getD,aB hi];exact aY _),k1,fun i j hi hj=>h5 i j hi (by omega),k2⟩
theorem MZ{c n:Nat}(hl:fZ n s.1)(hle:s.2.length<=s.1.length):(∀j,j<s.1.length->eJ (dD s.1) s.1.length n (dD (db s c).1 j))∧∀j,j<s.1.length->eJ (dD (db s c).1) s.1.length n (dD s.1 j):=by
 rcases j1 c hle with⟨e,-⟩|⟨k,h1,h2,h3,e⟩
 ·rw[e];exact⟨fun j hj=>eJ.row hj,fun j hj=>eJ.row hj⟩
 ·obtain⟨r1,r2⟩:=lN hl h1 h2 h3 e;have hp:s.2.length<s.1.length:=by omega
  have a1:eJ (dD s.1) s.1.length n (dD (db s c).1 s.2.length):=((eJ.row h2).mul (1 / dD s.1 k c)).congr fun t _=>r1 t;have b1:eJ (dD (db s c).1) s.1.length n (dD s.1 k):=((eJ.row hp).mul (dD s.1 k c)).congr fun t _=>by rw[r1,Rat.mul_assoc,bg (1 / _),tP h3,Rat.mul_one]
  refine⟨fun j hj=>?_,fun j hj=>?_⟩
  ·by_cases h4:j=s.2.length
   ·rw[h4];exact a1
   ·exact((eJ.row (show (if j=k then s.2.length else j)<s.1.length by split<;>omega)).add (eJ.row h2) (-(dD s.1 (if j=k then s.2.length else j) c)*(1 / dD s.1 k c))).congr fun t ht=>by rw[r2 j hj h4 t ht];grind
  ·by_cases h4:j=k
   ·rw[h4];exact b1
   ·obtain⟨i,hi,OD,Pa⟩:∃i,i<s.1.length∧i≠s.2.length∧(if i=k then s.2.length else i)=j:=by
     by_cases h5:j=s.2.length
     ·exact⟨k,h2,fun e6=>h4 (h5.trans e6.symm),by rw[if_pos rfl,h5]⟩
     ·exact⟨j,hj,h5,aJ h4⟩
    refine((eJ.row hi).add (eJ.row hp) (dD s.1 j c)).congr fun t ht=>?_;rw[r2 i hi OD t ht,Pa,r1];grind
theorem jV{M:List (List Rat)}{n:Nat}(hl:fZ n M):∀cols,cols<=n->(∀j,j<M.length->eJ (dD M) M.length n (dD (cN M cols).1 j))∧∀j,j<M.length->eJ (dD (cN M cols).1) M.length n (dD M j)
 |0,_=>⟨fun j hj=>eJ.row hj,fun j hj=>eJ.row hj⟩
 |c+1,h=>by
  obtain⟨i1,i2⟩:=jV hl c (by omega);have hr:=dc hl c (by omega);have h1:=eB M c;have h2:=MZ (c:=c) hr.1 hr.2.1;rw[h1]at h2;have e:(cN M (c+1))=db (cN M c) c:=by unfold cN;rw[bM,List.foldl_append];rfl
  rw[e];exact⟨fun j hj=>(h2.1 j hj).trans i1,fun j hj=>(i2 j hj).trans h2.2⟩
theorem eJ.cut{E:Mx}{m n:Nat}(h:eJ E m n v)(hz:∀i t,r<=i->i<m->t<n->E i t=0):eJ E r n v:=by
 refine h.trans fun i hi=>?_;rcases aP i r with h1|h1
 ·exact eJ.row h1
 ·exact⟨fun _=>0,fun t ht=>by rw[hz i t h1 hi ht,cL (g:=fun _=>0) fun k _=>bE _,dm]⟩
theorem Eh{n:Nat}{F:Mx}(hl:fZ n M)(k:Rf F q r n)(h1:∀i,i<r->eJ (dD M) M.length n (F i))(h2:∀j,j<M.length->eJ F r n (dD M j)):
  (cN M n).2.length=r∧(∀i,i<r->(cN M n).2.getD i 0=q i)∧∀i t,i<r->t<n->dD (cN M n).1 i t=F i t:=by
 obtain⟨a1,a2⟩:=jV hl n (aF _);obtain⟨-,hle,hz,-,-⟩:=dc hl n (aF _);rw[eB]at hle hz;have h:=zH hl;obtain⟨e1,e2,e3⟩:=h.one k (fun i hi=>(a1 i (by omega)).trans h2) fun j hj=>((h1 j hj).trans a2).cut fun i t hi hm ht=>hz i t hi hm ht;exact⟨e1,fun i hi=>e2 i (by omega),fun i t hi ht=>e3 i t (by omega) ht⟩
structure Ru(E:Mx)(p:Nat->Nat)(r n:Nat):Prop where
 lt:∀i,i<r->p i<n
 inj:∀i j,i<r->j<r->p i=p j->i=j
 unit:∀i j,i<r->j<r->E j (p i)=if j=i then 1 else 0
 lead:∀i t,i<r->t<p i->E i t=0
def mE(E:Mx)(p:Nat->Nat)(r:Nat)(v:Nat->Rat)(k t:Nat):Rat:=v t-cZ (fun i=>if p i<k then v (p i)*E i t else 0) r
theorem KG(E:Mx)(p:Nat->Nat)(r:Nat)(v:Nat->Rat)(t:Nat):mE E p r v 0 t=v t:=by
 unfold mE;rw[cL (g:=fun _=>0) fun i _=>aJ (by omega),dm];grind
section
variable{E:Mx}{p:Nat->Nat}{r n:Nat}{v:Nat->Rat}
theorem KH{k t:Nat}(h:∀i,i<r->p i≠k):mE E p r v (k+1) t=mE E p r v k t:=by
 unfold mE;rw[cL fun i hi=>?_];have:=h i hi;by_cases h1:p i<k
 ·rw[if_pos h1,if_pos (by omega)]
 ·rw[aJ h1,aJ (by omega)]
theorem Nm(h:Ru E p r n){i:Nat}(hi:i<r):mE E p r v (p i) (p i)=v (p i):=by
 unfold mE;rw[cL (g:=fun _=>0) fun j hj=>?_,dm]
 ·grind
 ·by_cases h1:p j<p i
  ·rw[if_pos h1,h.unit i j hi hj,aJ (fun e=>by rw[e]at h1;omega),bC]
  ·rw[aJ h1]
theorem KI(h:Ru E p r n){i t:Nat}(hi:i<r):mE E p r v (p i+1) t=mE E p r v (p i) t+ -(mE E p r v (p i) (p i))*E i t:=by
 rw[Nm h hi];unfold mE;have e:cZ (fun j=>if p j<p i+1 then v (p j)*E j t else 0) r=cZ (fun j=>(if p j<p i then v (p j)*E j t else 0)+(if j=i then v (p i)*E i t else 0)) r:=by
  refine cL fun j hj=>?_;by_cases h1:j=i
  ·subst h1;rw[if_pos (by omega),aJ (by omega),if_pos rfl,Rat.zero_add]
  ·have h2:p j≠p i:=fun e=>h1 (h.inj j i hj hi e);rw[aJ h1,bW];by_cases h3:p j<p i
   ·rw[if_pos h3,if_pos (by omega)]
   ·rw[aJ h3,aJ (by omega)]
 rw[e,gJ,eh hi fun k _ OD=>aJ OD,if_pos rfl];grind
theorem Hd(h:Ru E p r n){i:Nat}(hi:i<r):mE E p r v n (p i)=0:=by
 unfold mE;rw[eh hi fun k hk OD=>?_,if_pos (h.lt i hi),h.unit i i hi hi,if_pos rfl]
 ·grind
 ·rw[if_pos (h.lt k hk),h.unit i k hi hk,aJ OD,bC]
end
def k8(E:Mx)(r:Nat)(u:Nat->Rat)(k:Nat):Mx:=fun i t=>if i=r then u t / u k else E i t+ -(E i k)*(u t / u k)
theorem Ru.push{E:Mx}{n k:Nat}(h:Ru E p r n)(hk:k<n)(hu:∀i,i<r->u (p i)=0)(h0:u k≠0)(hz:∀t,t<k->u t=0):
  Ru (k8 E r u k) (fun i=>if i=r then k else p i) (r+1) n:=by
 have OD:∀i,i<r->p i≠k:=fun i hi e=>h0 (e▸hu i hi);have Pm:u k / u k=1:=by rw[b9,Rat.mul_inv_cancel _ h0]
 have OM:∀i,i<r->u (p i) / u k=0:=fun i hi=>by rw[hu i hi,b9,bE]
 refine⟨fun i hi=>?_,fun i j hi hj e=>?_,fun i j hi hj=>?_,fun i t hi ht=>?_⟩
 ·split
  ·exact hk
  ·exact h.lt i (by omega)
 ·by_cases h1:i=r
  ·by_cases h2:j=r
   ·omega
   ·rw[if_pos h1,aJ h2]at e;exact absurd e.symm (OD j (by omega))
  ·by_cases h2:j=r
   ·rw[aJ h1,if_pos h2]at e;exact absurd e (OD i (by omega))
   ·rw[aJ h1,aJ h2]at e;exact h.inj i j (by omega) (by omega) e
 ·unfold k8;by_cases h1:i=r
  ·rw[if_pos h1];by_cases h2:j=r
   ·rw[if_pos h2,if_pos (by omega),Pm]
   ·rw[aJ h2,aJ (by omega),Pm];grind
  ·rw[aJ h1];by_cases h2:j=r
   ·rw[if_pos h2,aJ (by omega),OM i (by omega)]
   ·rw[aJ h2,OM i (by omega),bC,bW];exact h.unit i j (by omega) (by omega)
 ·unfold k8;by_cases h1:i=r
  ·rw[if_pos h1]at ht;rw[if_pos h1,hz t ht,b9,bE]
  ·rw[aJ h1]at ht;rw[aJ h1,h.lead i t (by omega) ht,Rat.zero_add];rcases aP t k with h2|h2
   ·rw[hz t h2,b9,bE,bC]
   ·rw[h.lead i k (by omega) (by omega)];grind
def jn(E:Mx)(r:Nat)(v:Nat->Rat):Mx:=fun i t=>if i=r then v t else E i t
section
variable{E:Mx}{p:Nat->Nat}{r n k:Nat}{u v:Nat->Rat}
theorem Ij(i:Nat)(hi:i<r):eJ (jn E r v) (r+1) n (E i):=(eJ.row (show i<r+1 by omega)).congr fun t _=>by unfold jn;rw[aJ (by omega)]
theorem Nn(hu:∀t,t<n->u t=mE E p r v n t)(hl:∀i,i<r->p i<n):eJ (jn E r v) (r+1) n u:=by
 refine⟨fun i=>if i=r then 1 else -(v (p i)),fun t ht=>?_⟩;rw[hu t ht];show mE E p r v n t=cZ (fun i=>(if i=r then 1 else -(v (p i)))*jn E r v i t) r+(if r=r then 1 else -(v (p r)))*jn E r v r t;rw[if_pos rfl,cL (g:=fun i=> -(v (p i)*E i t)) fun i hi=>by unfold jn;rw[aJ (by omega),aJ (by omega),Rat.neg_mul],nH];unfold mE jn;rw[if_pos rfl,cL (g:=fun i=>v (p i)*E i t) fun i hi=>if_pos (hl i hi)];grind
theorem KJ(hu:eJ (jn E r v) (r+1) n u):∀i,i<r+1->eJ (jn E r v) (r+1) n (k8 E r u k i):=fun i hi=>by
 by_cases h1:i=r
 ·exact(hu.mul (1 / u k)).congr fun t _=>by unfold k8;rw[if_pos h1,b9,b9,bp]
 ·exact((Ij i (by omega)).add hu (-(E i k)*(1 / u k))).congr fun t _=>by unfold k8;rw[aJ h1,b9,b9];grind
theorem He(h0:u k≠0):eJ (k8 E r u k) (r+1) n u:=((eJ.row (show r<r+1 by omega)).mul (u k)).congr fun t _=>by
 unfold k8;rw[if_pos rfl,Rat.div_mul_cancel h0]
theorem qk(h0:u k≠0)(i:Nat)(hi:i<r):eJ (k8 E r u k) (r+1) n (E i):=((eJ.row (show i<r+1 by omega)).add (He h0) (E i k / u k)).congr fun t _=>by
 unfold k8;rw[aJ (by omega),b9,b9];grind
theorem Bn(h0:u k≠0)(hu:∀t,t<n->u t=mE E p r v n t)(hl:∀i,i<r->p i<n):eJ (k8 E r u k) (r+1) n v:=by
 have h1:eJ (jn E r u) (r+1) n v:=by
  refine⟨fun i=>if i=r then 1 else v (p i),fun t ht=>?_⟩;show v t=cZ (fun i=>(if i=r then 1 else v (p i))*jn E r u i t) r+(if r=r then 1 else v (p r))*jn E r u r t;rw[if_pos rfl,cL (g:=fun i=>v (p i)*E i t) fun i hi=>by unfold jn;rw[aJ (by omega),aJ (by omega)]];unfold jn;rw[if_pos rfl,hu t ht];unfold mE;rw[cL (g:=fun i=>v (p i)*E i t) fun i hi=>if_pos (hl i hi)];grind
 refine h1.trans fun i hi=>?_;by_cases h2:i=r
 ·exact(He h0).congr fun t _=>by unfold jn;rw[if_pos h2]
 ·exact(qk h0 i (by omega)).congr fun t _=>by unfold jn;rw[aJ h2]
end
end Go.Ex
