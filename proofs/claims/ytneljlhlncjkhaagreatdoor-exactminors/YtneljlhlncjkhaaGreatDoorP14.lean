/- A part of the proof: texts L18 to X87. Each tells its conditions in its theorems. -/
import Derived.Test.YtneljlhlncjkhaaGreatDoorP13
/- Determinants by the first row, of functions of two places: rows may be exchanged (the sign turns) and multiples of one row added to another. Plain. -/
namespace Go.Ex
abbrev Mx:=Nat→Nat→Rat
def skip(k j:Nat):Nat:=if j<k then j else j+1
def sgd(k:Nat):Rat:=if k % 2=1 then -1 else 1
def sumR(f:Nat→Rat):Nat→Rat
 |0=>0
 |n+1=>sumR f n+f n
def detF:Nat→Mx→Rat
 |0,_=>1
 |n+1,m=>sumR (fun k=>sgd k*(m 0 k*detF n fun i j=>m (i+1) (skip k j))) (n+1)
theorem sumR_congr{f g:Nat→Rat}:∀{n:Nat},(∀k,k<n→f k=g k)→sumR f n=sumR g n
 |0,_=>rfl
 |n+1,h=>by rw[sumR,sumR,sumR_congr fun k hk=>h k (by omega),h n (by omega)]
theorem sumR_zero:∀(n:Nat),sumR (fun _=>0) n=0
 |0=>rfl
 |n+1=>by rw[sumR,sumR_zero n,Rat.add_zero]
theorem sumR_add(f g:Nat→Rat):∀(n:Nat),sumR (fun k=>f k+g k) n=sumR f n+sumR g n
 |0=>(Rat.add_zero 0).symm
 |n+1=>by rw[sumR,sumR,sumR,sumR_add f g n];grind
theorem sumR_mul(p:Rat)(f:Nat→Rat):∀(n:Nat),sumR (fun k=>p*f k) n=p*sumR f n
 |0=>(Rat.mul_zero p).symm
 |n+1=>by rw[sumR,sumR,sumR_mul p f n];grind
theorem sumR_neg(f:Nat→Rat)(n:Nat):sumR (fun k=> -f k) n= -sumR f n:=by
 have h:=sumR_mul (-1) f n
 rw[show (-1:Rat)*sumR f n= -sumR f n by grind]at h
 rw[←h]
 exact sumR_congr fun k _=>by grind
theorem sumR_first(f:Nat→Rat):∀(n:Nat),sumR f (n+1)=f 0+sumR (fun k=>f (k+1)) n
 |0=>by show 0+f 0=f 0+0;grind
 |n+1=>by rw[sumR,sumR_first f n,sumR];grind
theorem skip_lt{k j n:Nat}(h:j<n):skip k j<n+1:=by unfold skip;split<;>omega
theorem skip_skip{k l:Nat}(h:k≤l)(j:Nat):skip k (skip l j)=skip (l+1) (skip k j):=by
 unfold skip
 grind
theorem detF_congr:∀{n:Nat} {m m':Mx},(∀i j,i<n→j<n→m i j=m' i j)→detF n m=detF n m'
 |0,_,_,_=>rfl
 |n+1,m,m',h=>by
  unfold detF
  refine sumR_congr fun k hk=>?_
  rw[h 0 k (by omega) hk,detF_congr fun i j hi hj=>h (i+1) (skip k j) (by omega) (skip_lt hj)]
/-- a row set anew -/
def upd(m:Mx)(r:Nat)(u:Nat→Rat):Mx:=fun i j=>if i=r then u j else m i j
theorem upd_minor(m:Mx)(r k:Nat)(u:Nat→Rat):(fun i j=>upd m (r+1) u (i+1) (skip k j))=upd (fun i j=>m (i+1) (skip k j)) r fun j=>u (skip k j):=by
 funext i j
 unfold upd
 by_cases h:i=r
 ·rw[if_pos h,if_pos (by omega)]
 ·rw[if_neg h,if_neg (by omega)]
theorem detF_lin(p:Rat):∀(n r:Nat) (m:Mx),r<n→∀(u v:Nat→Rat),detF n (upd m r fun j=>u j+p*v j)=detF n (upd m r u)+p*detF n (upd m r v)
 |0,_,_,h,_,_=>by omega
 |n+1,0,m,_,u,v=>by
  unfold detF
  rw[←sumR_mul,←sumR_add]
  refine sumR_congr fun k _=>?_
  have e:∀x:Nat→Rat,(fun i j=>upd m 0 x (i+1) (skip k j))=fun i j=>m (i+1) (skip k j):=fun x=>by
   funext i j;unfold upd;rw[if_neg (by omega)]
  rw[e,e,e]
  unfold upd
  rw[if_pos rfl,if_pos rfl,if_pos rfl]
  grind
 |n+1,r+1,m,h,u,v=>by
  unfold detF
  rw[←sumR_mul,←sumR_add]
  refine sumR_congr fun k _=>?_
  rw[upd_minor,upd_minor,upd_minor,detF_lin p n r _ (by omega) (fun j=>u (skip k j)) fun j=>v (skip k j)]
  have e:∀x:Nat→Rat,upd m (r+1) x 0 k=m 0 k:=fun x=>by unfold upd;rw[if_neg (by omega)]
  rw[e,e,e]
  grind
/-- a sum over pairs that cancel -/
theorem pairs_zero{F:Nat→Nat→Rat}:∀{n:Nat},(∀k l,k≤l→l<n→F k l+F (l+1) k=0)→sumR (fun k=>sumR (F k) n) (n+1)=0
 |0,_=>by show 0+0=(0:Rat);grind
 |n+1,h=>by
  have ih:=pairs_zero (F:=F) (n:=n) fun k l h1 h2=>h k l h1 (by omega)
  have h3:sumR (fun k=>F k n+F (n+1) k) (n+1)=0:=by
   rw[sumR_congr (g:=fun _=>0) fun k hk=>h k n (by omega) (by omega),sumR_zero]
  rw[sumR_add]at h3
  rw[sumR]
  have h4:sumR (fun k=>sumR (F k) (n+1)) (n+1)=sumR (fun k=>sumR (F k) n) (n+1)+sumR (fun k=>F k n) (n+1):=by
   rw[←sumR_add];rfl
  rw[h4,ih,Rat.zero_add]
  exact h3
def swp(a b i:Nat):Nat:=if i=a then b else if i=b then a else i
theorem swp_minor(r i:Nat):swp (r+1) (r+2) (i+1)=swp r (r+1) i+1:=by
 unfold swp
 by_cases h:i=r
 ·rw[if_pos (by omega),if_pos h]
 ·rw[if_neg (by omega),if_neg h]
  by_cases h2:i=r+1
  ·rw[if_pos (by omega),if_pos h2]
  ·rw[if_neg (by omega),if_neg h2]
theorem sgd_succ(k:Nat):sgd (k+1)= -sgd k:=by
 unfold sgd
 by_cases h:k % 2=1
 ·rw[if_pos h,if_neg (by omega)];grind
 ·rw[if_neg h,if_pos (by omega)]
theorem detF_two(n:Nat)(m:Mx):detF (n+2) m=sumR (fun k=>sumR (fun l=>sgd k*sgd l*(m 0 k*m 1 (skip k l))*detF n fun i j=>m (i+2) (skip k (skip l j))) (n+1)) (n+2):=by
 rw[detF]
 refine sumR_congr fun k _=>?_
 rw[detF,←sumR_mul,←sumR_mul]
 refine sumR_congr fun l _=>?_
 grind
/-- neighbouring rows exchanged -/
theorem detF_adj:∀(n r:Nat) (m:Mx),r+1<n→detF n (fun i j=>m (swp r (r+1) i) j)= -detF n m
 |0,_,_,h=>by omega
 |1,_,_,h=>by omega
 |n+2,0,m,_=>by
  rw[detF_two,detF_two,←sumR_neg]
  have key:sumR (fun k=>sumR (fun l=>sgd k*sgd l*(m 1 k*m 0 (skip k l))*(detF n fun i j=>m (i+2) (skip k (skip l j)))+sgd k*sgd l*(m 0 k*m 1 (skip k l))*detF n fun i j=>m (i+2) (skip k (skip l j))) (n+1)) (n+2)=0:=by
   refine pairs_zero fun k l h1 h2=>?_
   have e1:skip k l=l+1:=by unfold skip;rw[if_neg (by omega)]
   have e2:skip (l+1) k=k:=by unfold skip;rw[if_pos (by omega)]
   have e3:(fun i j=>m (i+2) (skip (l+1) (skip k j)))=fun i j=>m (i+2) (skip k (skip l j)):=by
    funext i j;rw[skip_skip h1]
   rw[e1,e2,e3,sgd_succ]
   grind
  have h4:sumR (fun k=>sumR (fun l=>sgd k*sgd l*(m 1 k*m 0 (skip k l))*(detF n fun i j=>m (i+2) (skip k (skip l j)))+sgd k*sgd l*(m 0 k*m 1 (skip k l))*detF n fun i j=>m (i+2) (skip k (skip l j))) (n+1)) (n+2)=
    sumR (fun k=>sumR (fun l=>sgd k*sgd l*(m 1 k*m 0 (skip k l))*detF n fun i j=>m (i+2) (skip k (skip l j))) (n+1)) (n+2)+sumR (fun k=>sumR (fun l=>sgd k*sgd l*(m 0 k*m 1 (skip k l))*detF n fun i j=>m (i+2) (skip k (skip l j))) (n+1)) (n+2):=by
   rw[←sumR_add]
   exact sumR_congr fun k _=>sumR_add _ _ _
  rw[h4]at key
  have h5:sumR (fun k=> -sumR (fun l=>sgd k*sgd l*(m 0 k*m 1 (skip k l))*detF n fun i j=>m (i+2) (skip k (skip l j))) (n+1)) (n+2)= -sumR (fun k=>sumR (fun l=>sgd k*sgd l*(m 0 k*m 1 (skip k l))*detF n fun i j=>m (i+2) (skip k (skip l j))) (n+1)) (n+2):=sumR_neg _ _
  rw[h5]
  have h6:sumR (fun k=>sumR (fun l=>sgd k*sgd l*(m (swp 0 1 0) k*m (swp 0 1 1) (skip k l))*detF n fun i j=>m (swp 0 1 (i+2)) (skip k (skip l j))) (n+1)) (n+2)=sumR (fun k=>sumR (fun l=>sgd k*sgd l*(m 1 k*m 0 (skip k l))*detF n fun i j=>m (i+2) (skip k (skip l j))) (n+1)) (n+2):=by
   refine sumR_congr fun k _=>sumR_congr fun l _=>?_
   have e:∀i,swp 0 1 (i+2)=i+2:=fun i=>by unfold swp;rw[if_neg (by omega),if_neg (by omega)]
   simp only[e]
   rfl
  rw[show (0:Nat)+1=1 from rfl,h6]
  grind
 |n+2,r+1,m,h=>by
  rw[detF,detF,←sumR_neg]
  refine sumR_congr fun k _=>?_
  have e:(fun i j=>m (swp (r+1) (r+1+1) (i+1)) (skip k j))=fun i j=>m (swp r (r+1) i+1) (skip k j):=by
   funext i j
   rw[show r+1+1=r+2 from rfl,swp_minor]
  have ih:detF (n+1) (fun i j=>m (swp r (r+1) i+1) (skip k j))= -detF (n+1) fun i j=>m (i+1) (skip k j):=detF_adj (n+1) r (fun i j=>m (i+1) (skip k j)) (by omega)
  rw[e,ih]
  rw[show swp (r+1) (r+1+1) 0=0 by unfold swp;rw[if_neg (by omega),if_neg (by omega)]]
  grind
/-- two equal rows -/
theorem detF_twice:∀(k n:Nat) (m:Mx),k+1<n→(∀j,j<n→m 0 j=m (k+1) j)→detF n m=0
 |0,n,m,h,he=>by
  have h1:=detF_adj n 0 m h
  rw[detF_congr (m':=m) fun i j hi hj=>?_]at h1
  ·grind
  ·unfold swp
   by_cases h0:i=0
   ·rw[if_pos h0,h0];exact(he j hj).symm
   ·rw[if_neg h0]
    by_cases h2:i=1
    ·rw[if_pos h2,h2];exact he j hj
    ·rw[if_neg h2]
 |k+1,n,m,h,he=>by
  have h1:=detF_adj n (k+1) m h
  rw[detF_twice k n _ (by omega) fun j hj=>?_]at h1
  ·grind
  ·rw[show swp (k+1) (k+1+1) 0=0 by unfold swp;rw[if_neg (by omega),if_neg (by omega)],show swp (k+1) (k+1+1) (k+1)=k+1+1 by unfold swp;rw[if_pos rfl]]
   exact he j hj
theorem upd_self(m:Mx)(r:Nat):upd m r (m r)=m:=by
 funext i j
 unfold upd
 by_cases h:i=r
 ·rw[if_pos h,h]
 ·rw[if_neg h]
/-- a multiple of the first row added to another -/
theorem detF_addrow{n r:Nat}{m:Mx}(p:Rat)(h:r+1<n):detF n (upd m (r+1) fun j=>m (r+1) j+p*m 0 j)=detF n m:=by
 rw[detF_lin p n (r+1) m h,upd_self,detF_twice r n (upd m (r+1) (m 0)) h fun j _=>?_]
 ·grind
 ·unfold upd;rw[if_neg (by omega),if_pos rfl]
/-- the first row and another exchanged -/
theorem detF_swap{n k:Nat}{m:Mx}(h:k+1<n):detF n (fun i j=>m (swp 0 (k+1) i) j)= -detF n m:=by
 have z:∀u:Nat→Rat,detF n (upd (upd m 0 u) (k+1) u)=0:=fun u=>detF_twice k n _ h fun j _=>by
  unfold upd;rw[if_neg (by omega),if_pos rfl,if_pos rfl]
 have cm:∀u v:Nat→Rat,upd (upd m 0 u) (k+1) v=upd (upd m (k+1) v) 0 u:=fun u v=>by
  funext i j;unfold upd
  by_cases h1:i=k+1
  ·rw[if_pos h1,if_neg (by omega),if_pos h1]
  ·rw[if_neg h1,if_neg h1]
 have l1:∀u v x:Nat→Rat,detF n (upd (upd m 0 u) (k+1) fun j=>v j+1*x j)=detF n (upd (upd m 0 u) (k+1) v)+1*detF n (upd (upd m 0 u) (k+1) x):=fun u v x=>detF_lin 1 n (k+1) _ h v x
 have l2:∀u v x:Nat→Rat,detF n (upd (upd m 0 fun j=>v j+1*x j) (k+1) u)=detF n (upd (upd m 0 v) (k+1) u)+1*detF n (upd (upd m 0 x) (k+1) u):=fun u v x=>by
  rw[cm,cm,cm];exact detF_lin 1 n 0 _ (by omega) v x
 have h1:=z fun j=>m 0 j+1*m (k+1) j
 rw[l1,l2,l2,z,z]at h1
 have e1:upd (upd m 0 (m 0)) (k+1) (m (k+1))=m:=by rw[upd_self,upd_self]
 have e2:upd (upd m 0 (m (k+1))) (k+1) (m 0)=fun i j=>m (swp 0 (k+1) i) j:=by
  funext i j;unfold upd swp
  by_cases h1:i=k+1
  ·rw[if_pos h1,if_neg (by omega),if_pos h1]
  ·rw[if_neg h1]
   by_cases h0:i=0
   ·rw[if_pos h0,if_pos h0]
   ·rw[if_neg h0,if_neg h0,if_neg h1]
 rw[e1,e2]at h1
 grind
theorem detF_col0:∀(n:Nat) (m:Mx),0<n→(∀i,i<n→m i 0=0)→detF n m=0
 |0,_,h,_=>by omega
 |n+1,m,_,h=>by
  rw[detF,sumR_first,h 0 (by omega),sumR_congr (g:=fun _=>0) fun k hk=>?_,sumR_zero]
  ·grind
  ·rw[detF_col0 n _ (by omega) fun i hi=>by
    show m (i+1) (skip (k+1) 0)=0
    rw[show skip (k+1) 0=0 by unfold skip;rw[if_pos (by omega)]]
    exact h (i+1) (by omega)]
   grind
/-- a first column with one number at its head -/
theorem detF_head{n:Nat}{m:Mx}(h:∀i,i<n→m (i+1) 0=0):detF (n+1) m=m 0 0*detF n fun i j=>m (i+1) (j+1):=by
 rw[detF,sumR_first,sumR_congr (g:=fun _=>0) fun k hk=>?_,sumR_zero]
 ·rw[show sgd 0=1 from rfl,show(fun i j=>m (i+1) (skip 0 j))=fun i j=>m (i+1) (j+1)from rfl]
  grind
 ·rw[detF_col0 n _ (by omega) fun i hi=>by
   show m (i+1) (skip (k+1) 0)=0
   rw[show skip (k+1) 0=0 by unfold skip;rw[if_pos (by omega)]]
   exact h i hi]
  grind
/-- multiples of the first row added to the next ones, up to i -/
theorem detF_clear{n:Nat}{m:Mx}(p:Nat→Rat):∀(i:Nat),i<n→detF n (fun r j=>if 0<r∧r≤i then m r j+p r*m 0 j else m r j)=detF n m
 |0,_=>detF_congr fun r j _ _=>if_neg (by omega)
 |i+1,h=>by
  refine Eq.trans ?_ (detF_clear p i (by omega))
  refine Eq.trans (detF_congr fun r j hr hj=>?_) (detF_addrow (r:=i) (p (i+1)) h)
  unfold upd
  grind
end Go.Ex

/- Elimination without exchanges, and determinants. Plain. -/
namespace Go.Ex
/-- the determinant of rows and columns from c on, below n -/
def subD(M:List (List Rat))(c n:Nat):Rat:=detF (n-c) fun i j=>at2 M (c+i) (c+j)
/-- rows behind c, less the multiple of the row c that clears the column c, up to i -/
def elimTo(M:List (List Rat))(c i:Nat):List (List Rat):=M.mapIdx fun j r=>if c<j∧j<i then r.mapIdx (addR (-(r.getD c 0 / at2 M c c)) (M.getD c []))else r
theorem subD_done(M:List (List Rat))(n:Nat):subD M n n=1:=by unfold subD;rw[Nat.sub_self];rfl
theorem elimTo_length(M:List (List Rat))(c i:Nat):(elimTo M c i).length=M.length:=by simp[elimTo]
theorem elimTo_start(M:List (List Rat))(c i:Nat)(h:i≤c+1):elimTo M c i=M:=by
 refine List.ext_getElem? fun j=>?_
 unfold elimTo
 rw[List.getElem?_mapIdx]
 cases M[j]? with
 |none=>rfl
 |some r=>simp only[Option.map_some];rw[if_neg (by omega)]
theorem elimTo_at(M:List (List Rat))(c i j:Nat)(h:j≤c∨i≤j):(elimTo M c i)[j]? =M[j]? :=by
 unfold elimTo
 rw[List.getElem?_mapIdx]
 cases M[j]? with
 |none=>rfl
 |some r=>simp only[Option.map_some];rw[if_neg (by omega)]
theorem elimTo_succ{M:List (List Rat)}{c i:Nat}{r:List Rat}(h:M[i]? =some r)(hc:c<i):(elimTo M c i).set i (r.mapIdx (addR (-(r.getD c 0 / at2 M c c)) (M.getD c [])))=elimTo M c (i+1):=by
 have hl:=(List.getElem?_eq_some_iff.1 h).1
 refine List.ext_getElem? fun j=>?_
 by_cases hij:i=j
 ·subst hij
  rw[List.getElem?_set_self (by rw[elimTo_length];exact hl)]
  unfold elimTo
  rw[List.getElem?_mapIdx,h]
  simp only[Option.map_some]
  rw[if_pos (by omega)]
 ·rw[List.getElem?_set_ne hij]
  unfold elimTo
  rw[List.getElem?_mapIdx,List.getElem?_mapIdx]
  cases M[j]? with
  |none=>rfl
  |some r=>
   simp only[Option.map_some]
   by_cases hj:c<j∧j<i
   ·rw[if_pos hj,if_pos (by omega)]
   ·rw[if_neg hj,if_neg (by omega)]
theorem getD_addR'{p:Rat}{r s:List Rat}{c:Nat}(h:c<r.length):(r.mapIdx (addR p s)).getD c 0=r.getD c 0+p*s.getD c 0:=by
 simp only[List.getD,List.getElem?_mapIdx,List.getElem?_eq_getElem h]
 rfl
theorem elimTo_at2{M:List (List Rat)}{c n i j:Nat}(hl:Len n M)(hi:i<M.length)(hc:c<i)(hj:j<n){k:Nat}(hik:i<k):at2 (elimTo M c k) i j=at2 M i j+ -(at2 M i c / at2 M c c)*at2 M c j:=by
 have h1:M[i]? =some M[i]:=List.getElem?_eq_getElem hi
 have h2:(M[i]).length=n:=hl _ (List.getElem_mem hi)
 show((elimTo M c k).getD i []).getD j 0=_
 have h3:(elimTo M c k).getD i []=(M[i]).mapIdx (addR (-((M[i]).getD c 0 / at2 M c c)) (M.getD c [])):=by
  rw[List.getD,elimTo,List.getElem?_mapIdx,h1]
  simp only[Option.map_some,Option.getD_some]
  rw[if_pos ⟨hc,hik⟩]
 rw[h3,getD_addR' (by omega)]
 have h4:M.getD i []=M[i]:=by rw[List.getD,h1];rfl
 unfold at2
 rw[h4]
theorem elimTo_at2'{M:List (List Rat)}{c i j k:Nat}(h:i≤c∨k≤i):at2 (elimTo M c k) i j=at2 M i j:=by
 unfold at2
 rw[show (elimTo M c k).getD i []=M.getD i [] by simp only[List.getD,elimTo_at M c k i h]]
/-- a step of the elimination -/
theorem subD_elim{M:List (List Rat)}{c n w:Nat}(hl:Len w M)(hw:n≤w)(hn:n≤M.length)(hc:c<n)(h0:at2 M c c≠0){k:Nat}(hk:n≤k):subD M c n=at2 M c c*subD (elimTo M c k) (c+1) n:=by
 obtain⟨d,hd⟩:∃d,n=c+1+d:=⟨n-(c+1),by omega⟩
 subst hd
 unfold subD
 rw[show c+1+d-c=d+1 by omega,show c+1+d-(c+1)=d by omega]
 rw[←detF_clear (fun r=> -(at2 M (c+r) c / at2 M c c)) d (by omega),detF_head fun i hi=>?_]
 ·simp only[Nat.add_zero]
  rw[if_neg (by omega)]
  congr 1
  refine detF_congr fun i j hi hj=>?_
  rw[if_pos (by omega),show c+1+i=c+(i+1) by omega,show c+1+j=c+(j+1) by omega,elimTo_at2 (i:=c+(i+1)) hl (by omega) (by omega) (by omega) (by omega)]
 ·simp only[Nat.add_zero]
  rw[if_pos (by omega),Rat.neg_mul,Rat.div_mul_cancel h0]
  grind
theorem subD_swap{M:List (List Rat)}{c n k:Nat}(hk:c<k)(hn:k<n)(hl:n≤M.length):subD (swapL [] M c k) c n= -subD M c n:=by
 obtain⟨d,hd⟩:∃d,k=c+(d+1):=⟨k-c-1,by omega⟩
 subst hd
 unfold subD
 rw[←detF_swap (k:=d) (by omega)]
 refine detF_congr fun i j hi hj=>?_
 unfold at2
 congr 1
 simp only[List.getD]
 unfold swp swapL
 by_cases h0:i=0
 ·subst h0
  simp only[Nat.add_zero,if_pos]
  rw[List.getElem?_set_ne (by omega),List.getElem?_set_self (by omega),List.getD,List.getElem?_eq_getElem (by omega)]
  rfl
 ·rw[if_neg h0]
  by_cases h1:i=d+1
  ·subst h1
   simp only[Nat.add_zero,if_pos]
   rw[List.getElem?_set_self (by simp;omega),List.getD,List.getElem?_eq_getElem (show c<M.length by omega)]
   rfl
  ·rw[if_neg h1,List.getElem?_set_ne (by omega),List.getElem?_set_ne (by omega)]
theorem subD_zero{M:List (List Rat)}{c n:Nat}(hc:c<n)(h:∀j,c≤j→j<n→at2 M j c=0):subD M c n=0:=
 detF_col0 _ _ (by omega) fun i hi=>h (c+i) (by omega) (by omega)
theorem elimTo_len{M:List (List Rat)}{w c k:Nat}(hl:Len w M):Len w (elimTo M c k):=fun r hr=>by
 obtain⟨i,hi⟩:=List.getElem?_of_mem hr
 unfold elimTo at hi
 rw[List.getElem?_mapIdx]at hi
 cases hx:M[i]? with
 |none=>rw[hx]at hi;cases hi
 |some x=>
  rw[hx]at hi
  injection hi with hi
  subst hi
  have:=hl x (List.mem_of_getElem? hx)
  split
  ·rw[List.length_mapIdx];exact this
  ·exact this
end Go.Ex

/- Elimination without exchanges: sizes, leading minors. Plain. -/
namespace Go.Ex
theorem at2_ht'{M:List (List Rat)}{h:Nat}(H:Ht M h)(h2:2≤h)(i j:Nat):rl (at2 M i j)+1≤h:=by
 show rl ((M.getD i []).getD j 0)+1≤h
 refine rl_getD (fun q hq=>?_) h2 j
 cases hy:M[i]? with
 |none=>rw[show M.getD i []=[] by simp[List.getD,hy]]at hq;cases hq
 |some y=>rw[show M.getD i []=y by simp[List.getD,hy]]at hq;exact H.at hy q hq
theorem Ht.elim{M:List (List Rat)}{h c k:Nat}(H:Ht M h)(h2:2≤h)(h0:at2 M c c≠0):Ht (elimTo M c k) (4*h):=fun r hr q hq=>by
 obtain⟨i,hi⟩:=List.getElem?_of_mem hr
 unfold elimTo at hi
 rw[List.getElem?_mapIdx]at hi
 cases hx:M[i]? with
 |none=>rw[hx]at hi;cases hi
 |some x=>
  rw[hx]at hi
  injection hi with hi
  subst hi
  have hxq:=H.at hx
  have hc:∀j,rl ((M.getD c []).getD j 0)+1≤h:=at2_ht' H h2 c
  split at hq
  ·obtain⟨j,hj⟩:=List.getElem?_of_mem hq
   rw[List.getElem?_mapIdx]at hj
   cases hy:x[j]? with
   |none=>rw[hy]at hj;cases hj
   |some y=>
    rw[hy]at hj
    injection hj with hj
    subst hj
    have h3:=hxq y (List.mem_of_getElem? hy)
    have h4:=hc j
    have h5:=hc c
    have h6:=rl_getD hxq h2 c
    have h7:=rl_div (x.getD c 0) h0
    have h8:=rl_neg (x.getD c 0 / at2 M c c)
    have h9:=rl_mul (-(x.getD c 0 / at2 M c c)) ((M.getD c []).getD j 0)
    have h10:=rl_add y (-(x.getD c 0 / at2 M c c)*(M.getD c []).getD j 0)
    have h11:rl (at2 M c c)+1≤h:=h5
    show rl (y+ -(x.getD c 0 / at2 M c c)*(M.getD c []).getD j 0)+1≤4*h
    omega
  ·have:=hxq q hq;omega
/-- the leading minors -/
def minorsF(M:List (List Rat)):List Rat:=(List.range M.length).map fun k=>subD M 0 (k+1)
theorem minorsF_length(M:List (List Rat)):(minorsF M).length=M.length:=by simp[minorsF]
theorem minorsF_get{M:List (List Rat)}{k:Nat}(h:k<M.length):(minorsF M)[k]? =some (subD M 0 (k+1)):=by
 rw[minorsF,List.getElem?_map,List.getElem?_range h];rfl
theorem subD_congr{M N:List (List Rat)}{c n:Nat}(h:∀i j,c≤i→i<n→c≤j→j<n→at2 M i j=at2 N i j):subD M c n=subD N c n:=
 detF_congr fun i j hi hj=>h (c+i) (c+j) (by omega) (by omega) (by omega) (by omega)
/-- the first n rows, and of them the first n elements -/
theorem subD_prefix{M:List (List Rat)}{n:Nat}:subD (tk n (M.take n)) 0 n=subD M 0 n:=subD_congr fun i j _ hi _ hj=>by
 rw[at2_tk hj]
 unfold at2
 rw[show (M.take n).getD i []=M.getD i [] by simp[List.getD,List.getElem?_take,hi]]
end Go.Ex

/- A matrix of a call's own making that is held raw, row by row: rows are added to each other, and exchanged. No condition. -/
namespace Go.Ex
open Go Go.Sx Go.Proofs

abbrev vmO(gm R:Nat):Value:=.slice (some ⟨gm,0,none⟩) R R
/-- what lies in S or is new, but not in the matrix -/
def Lm'(S:Nat→Prop)(B:Nat)(iv:Iv)(gm R:Nat)(rv:List Value)(g:Nat):Prop:=Cv S B iv g∧¬Mb (vmO gm R) rv g
structure MatO(w:World)(S:Nat→Prop)(B:Nat)(iv:Iv)(gm R n:Nat)(rv:List Value)(M:List (List Rat)):Prop where
 mat:MatW w (Lm' S B iv gm R rv) (vmO gm R) rv n M
 blk:∀g,Mb (vmO gm R) rv g→Cv (fun _=>False) B iv g
 rows:rv.length=R
section
variable{S S':Nat→Prop}{H:Hp}{nx gm R n:Nat}{iv iv':Iv}{B:Nat}{w w' w2:World}{ρ:Nat→Sx.Val}{rv:List Value}{M:List (List Rat)}
theorem MatO.keep(h:MatO w S B iv gm R n rv M)(hk:∀g,Cv S B iv g→w2.heap[g]? =w.heap[g]?):MatO w2 S B iv gm R n rv M:=
 ⟨h.mat.keep fun g hg=>hk g (hg.elim (fun h=>h.1) fun hg=>cvF (h.blk g hg)),h.blk,h.rows⟩
theorem MatO.rel(h:MatO w S B iv gm R n rv M)(r:Rel H nx iv B w ρ w')(hS:∀g,S g→g<B):MatO w' S B iv gm R n rv M:=h.keep fun _ hg=>Rel.same r hS hg
theorem MatO.mono(h:MatO w S B iv gm R n rv M)(hm:∀p,p∈iv→p∈iv'):MatO w S B iv' gm R n rv M:=
 ⟨h.mat.weak fun _ hg=>⟨hg.1.mono hm,hg.2⟩,fun g hg=>(h.blk g hg).mono hm,h.rows⟩
theorem MatO.past(h:MatO w S B iv gm R n rv M)(r:Rel H nx iv B w ρ w')(hS:∀g,S g→g<B)(he:Ext w' w2)(hm:∀p,p∈iv→p∈iv'):MatO w2 S B iv' gm R n rv M:=
 ((h.rel r hS).keep fun g hg=>he.block g (Rel.old r hS g hg)).mono hm
theorem MatO.out(h:MatO w S B iv gm R n rv M):Cv (fun _=>False) B iv gm:=h.blk gm (.inl rfl)
theorem MatO.len(h:MatO w S B iv gm R n rv M):M.length=R:=h.mat.len.symm.trans h.rows
/-- a cell of the matrix, later -/
theorem MatO.cell(h:MatO w S B iv gm R n rv M)(r:Rel H nx iv B w ρ w'){a:Addr}{x:Value}(hb:Mb (vmO gm R) rv a.block)(hc:w.cell? a=some x):w'.cell? a=some x:=by
 rw[cell_of_heap (Rel.same r (oldF' B) (h.blk _ hb))];exact hc
/-- limbs beside the matrix -/
theorem FracR.beside{S0:Nat→Prop}{v:Value}{q:Rat}(h:FracR w2 (Nw (fun _=>False) w' w2) v q)(hM:MatO w S B iv gm R n rv M)(r:Rel H nx iv B w ρ w'):FracR w2 (Lm' S0 B ((w'.heap.size,w2.heap.size)::iv) gm R rv) v q:=
 h.weak fun g hg=>by
  rcases hg with hg|hg
  ·exact hg.elim
  ·exact⟨.inr ⟨by have:=r.baseLe;omega,_,_,List.mem_cons_self,hg.1,hg.2⟩,fun hm=>by have:=Rel.old r (oldF' B) g (hM.blk g hm);omega⟩
theorem FracR.besideL{S0:Nat→Prop}{v:Value}{q:Rat}(h:FracR w2 (Nw (Lm' S0 B iv gm R rv) w' w2) v q)(hM:MatO w S B iv gm R n rv M)(r:Rel H nx iv B w ρ w'):FracR w2 (Lm' S0 B ((w'.heap.size,w2.heap.size)::iv) gm R rv) v q:=
 h.weak fun g hg=>by
  rcases hg with hg|hg
  ·exact⟨hg.1.mono fun p hp=>List.mem_cons_of_mem _ hp,hg.2⟩
  ·exact⟨.inr ⟨by have:=r.baseLe;omega,_,_,List.mem_cons_self,hg.1,hg.2⟩,fun hm=>by have:=Rel.old r (oldF' B) g (hM.blk g hm);omega⟩
theorem Lm'.old(r:Rel H nx iv B w ρ w')(hS:∀g,S g→g<B):Old (Lm' S B iv gm R rv) w':=fun g hg=>Rel.old r hS g hg.1
theorem FracR.relL{v:Value}{q:Rat}(h:FracR w (Lm' S B iv gm R rv) v q)(r:Rel H nx iv B w ρ w')(hS:∀g,S g→g<B):FracR w' (Lm' S B iv gm R rv) v q:=h.keep fun _ hg=>Rel.same r hS hg.1
theorem FracR.pastL{v:Value}{q:Rat}(h:FracR w (Lm' S B iv gm R rv) v q)(r:Rel H nx iv B w ρ w')(hS:∀g,S g→g<B)(he:Ext w' w2)(hm:∀p,p∈iv→p∈iv'):FracR w2 (Lm' S B iv' gm R rv) v q:=
 ((h.relL r hS).keep fun g hg=>he.block g (Rel.old r hS g hg.1)).weak fun _ hg=>⟨hg.1.mono hm,hg.2⟩
/-- another row, times a number, is added to a row -/
theorem MatO.add_c(hM:MatO w S B iv gm R n rv M)(r:Rel H nx iv B w ρ w')(hS:∀g,S g→g<B){i c:Nat}{vi vc vby:Value}{ri rc:List Rat}{p:Rat}(hn:n≤maxLen)(hic:i≠c)(hvi:rv[i]? =some vi)(hvc:rv[c]? =some vc)(hri:M[i]? =some ri)(hrc:M[c]? =some rc)
  (hby:FracR w (Lm' S B iv gm R rv) vby p) (hq:∀q∈ri,rl q≤2000000000) (hqc:∀q∈rc,rl q≤2000000000) (hb:rl p≤2000000000):
  Con PG N.exact_row_add #[vi,vby,vc] w' (fun e w2=>e= .returned (.tuple #[])∧w'.grownBy w2 vi.ownBlock∧(∀g,vi.ownBlock=some g→Mb (vmO gm R) rv g)∧MatO w2 S B ((w'.heap.size,w2.heap.size)::iv) gm R n rv (M.set i (ri.mapIdx (addR p rc)))):=by
 have hMr:=hM.rel r hS
 obtain⟨css,hr1,hr2,hr3⟩:=hMr.mat.row i _ ri hvi hri
 obtain⟨hR1,hR2⟩:=hMr.mat.rowR hvc hrc hn
 have hmi:∀g,vi.ownBlock=some g→Mb (vmO gm R) rv g:=fun g hg=>.inr ⟨_,List.mem_of_getElem? hvi,hg⟩
 refine(Go.Ex.add_c (C:=fun g=>vc.ownBlock=some g) (fun x hx=>hMr.mat.low x (.inr ⟨_,List.mem_of_getElem? hvc,hx⟩)) (Lm'.old r hS) hr1 hr3 hr2 (hby.relL r hS) hR1 hR2 (fun x hx hx2=>hx2.2 (hmi x hx)) (fun x hx hx2=>hic (hMr.mat.dis i c _ _ x hvi hvc hx hx2)) hq hqc hb).mono fun e w8 he=>?_
 obtain⟨rfl,hgr,css',hr4,hr5,hr6⟩:=he
 have hM3:=hMr.mat.setRow (S':=Nw (Lm' S B iv gm R rv) w' w8) (Lm'.old r hS) (fun x hx hx2=>hx.2 hx2) hvi hgr (fun x hx=>.inl hx) ⟨css',hr4,hr5,hr6⟩
 refine⟨rfl,hgr,hmi,hM3.weak fun g hg=>?_,fun g hg=>(hM.blk g hg).mono fun p hp=>List.mem_cons_of_mem _ hp,hM.rows⟩
 rcases hg with hg|hg
 ·exact⟨hg.1.mono fun p hp=>List.mem_cons_of_mem _ hp,hg.2⟩
 ·exact⟨.inr ⟨by have:=r.baseLe;omega,_,_,List.mem_cons_self,hg.1,hg.2⟩,fun hm=>by have:=Rel.old r (oldF' B) g (hM.blk g hm);omega⟩
/-- what lies beside the matrix is kept by it -/
theorem Lm'.grown(r:Rel H nx iv B w ρ w')(hS:∀g,S g→g<B){row:Option Nat}(hg:w'.grownBy w2 row)(hrow:∀g,row=some g→Mb (vmO gm R) rv g):∀g,Lm' S B iv gm R rv g→w2.heap[g]? =w.heap[g]? :=fun g h=>by
 rw[hg.block g (Rel.old r hS g h.1) fun e=>h.2 (hrow g e.symm),Rel.same r hS h.1]
theorem MatO.base(hM:MatO w S B iv gm R n rv M){g:Nat}(h:Mb (vmO gm R) rv g):B≤g:=(hM.blk g h).elim (fun h=>h.elim) fun h=>h.1
theorem MatO.bel(hM:MatO w S B iv gm R n rv M)(r:Rel H nx iv B w ρ w'){row:Option Nat}(hg:w'.grownBy w2 row)(hrow:∀g,row=some g→Mb (vmO gm R) rv g):Bel B w' w2:=
 Bel.grown hg (fun g e=>hM.base (hrow g e)) r.baseLe
/-- half of an exchange -/
structure HalfO(w:World)(S:Nat→Prop)(B:Nat)(iv:Iv)(gm R n:Nat)(rv:List Value)(M:List (List Rat))(i:Nat)(vb:Value):Prop where
 out:w.ownsRow 0 T.row 1 (vmO gm R) R (rv.set i vb)
 was:∃w0,MatO w0 S B iv gm R n rv M∧∀g,Cv S B iv g→g≠gm→w.heap[g]? =w0.heap[g]?
theorem HalfO.keep{i:Nat}{vb:Value}(h:HalfO w S B iv gm R n rv M i vb)(hk:∀g,Cv S B iv g→w2.heap[g]? =w.heap[g]?):HalfO w2 S B iv gm R n rv M i vb:=by
 obtain⟨w0,h1,h2⟩:=h.was
 exact⟨ownsRow.keep h.out fun g hg=>by injection hg with hg;subst hg;exact hk _ (cvF h1.out),w0,h1,fun g hg hne=>(hk g hg).trans (h2 g hg hne)⟩
theorem MatO.swap1(hM:MatO w S B iv gm R n rv M)(r:Rel H nx iv B w ρ w')(hS:∀g,S g→g<B){i:Nat}{vb:Value}(hi:i<R):
  ((⟨gm,0,none⟩:Addr).add ((i:Int).toNat*1)).spot=none∧(∀k,k<1→(w'.cell? (((⟨gm,0,none⟩:Addr).add ((i:Int).toNat*1)).add k)).isSome=true∧w'.frozen? (((⟨gm,0,none⟩:Addr).add ((i:Int).toNat*1)).add k)=false)∧
  (∀id b,getH H id=some b→(ρ id).nil=false→(ρ id).g≠((⟨gm,0,none⟩:Addr).add ((i:Int).toNat*1)).block)∧
  ∀w4,w4=setCells w' ((⟨gm,0,none⟩:Addr).add ((i:Int).toNat*1)) [vb]→HalfO w4 S B iv gm R n rv M i vb∧w'.grownBy w4 (some gm):=by
 have hMr:=hM.rel r hS
 have had:(⟨gm,0,none⟩:Addr).add ((i:Int).toNat*1)=⟨gm,i*1,none⟩:=by rw[Int.toNat_natCast,addr_add,Nat.zero_add]
 have hrow:w'.ownsRow 0 T.row 1 (vmO gm R) R rv:=by have:=hMr.mat.out;rwa [hM.rows]at this
 obtain⟨g',e,hok,hst,hgr,hsz⟩:=storeRow (nv:=[vb]) hrow rfl (show i<R from hi) rfl (by decide)
 injection e with e
 injection e with e
 subst e
 rw[set_one (by rw[hM.rows];exact hi)]at hst
 rw[had]
 refine⟨rfl,hok,Rel.not r (oldF' B) hM.out,fun w4 hw4=>?_⟩
 rw[hw4]
 exact⟨⟨hst,w',hMr,fun g hg hne=>hgr.block g (Rel.old r hS g hg) fun e=>hne (by injection e)⟩,hgr⟩
theorem HalfO.rel{i:Nat}{vb:Value}(h:HalfO w S B iv gm R n rv M i vb)(r:Rel H nx iv B w ρ w')(hS:∀g,S g→g<B):HalfO w' S B iv gm R n rv M i vb:=h.keep fun _ hg=>Rel.same r hS hg
theorem HalfO.swap2{i j:Nat}{va vb:Value}(hH:HalfO w S B iv gm R n rv M i vb)(r:Rel H nx iv B w ρ w')(hS:∀g,S g→g<B)(hi:rv[i]? =some va)(hj:rv[j]? =some vb):
  ((⟨gm,0,none⟩:Addr).add ((j:Int).toNat*1)).spot=none∧(∀k,k<1→(w'.cell? (((⟨gm,0,none⟩:Addr).add ((j:Int).toNat*1)).add k)).isSome=true∧w'.frozen? (((⟨gm,0,none⟩:Addr).add ((j:Int).toNat*1)).add k)=false)∧
  (∀id b,getH H id=some b→(ρ id).nil=false→(ρ id).g≠((⟨gm,0,none⟩:Addr).add ((j:Int).toNat*1)).block)∧
  ∀w4,w4=setCells w' ((⟨gm,0,none⟩:Addr).add ((j:Int).toNat*1)) [va]→MatO w4 S B iv gm R n ((rv.set i vb).set j va) (swapL [] M i j)∧(∀g,Mb (vmO gm R) ((rv.set i vb).set j va) g↔Mb (vmO gm R) rv g)∧w'.grownBy w4 (some gm):=by
 have hHr:=hH.rel r hS
 obtain⟨w0,hM,hwas⟩:=hHr.was
 have had:(⟨gm,0,none⟩:Addr).add ((j:Int).toNat*1)=⟨gm,j*1,none⟩:=by rw[Int.toNat_natCast,addr_add,Nat.zero_add]
 have hjR:j<R:=by rw[←hM.rows];exact(List.getElem?_eq_some_iff.1 hj).1
 obtain⟨g',e,hok,hst,hgr,hsz⟩:=storeRow (nv:=[va]) hHr.out rfl hjR rfl (by decide)
 injection e with e
 injection e with e
 subst e
 rw[set_one (by rw[List.length_set,hM.rows];exact hjR)]at hst
 rw[had]
 refine⟨rfl,hok,Rel.not r (oldF' B) hM.out,fun w4 hw4=>?_⟩
 rw[hw4]
 have hmb:∀g,Mb (vmO gm R) ((rv.set i vb).set j va) g↔Mb (vmO gm R) rv g:=fun g=>Mb.swap hi hj
 have hst2:(setCells w' ⟨gm,j*1,none⟩ [va]).ownsRow 0 T.row 1 (vmO gm R) rv.length ((rv.set i vb).set j va):=by rw[hM.rows];exact hst
 have hsw:=hM.mat.swap (w2:=setCells w' ⟨gm,j*1,none⟩ [va]) (fun g hg hm=>hg.2 hm) hi hj hst2 fun g hg hne=>by
  have hne:g≠gm:=fun e=>hne (by rw[e];rfl)
  have hgc:Cv S B iv g:=hg.elim (fun h=>h.1) fun h=>cvF (hM.blk g h)
  rw[hgr.block g (Rel.old r hS g hgc) (fun e=>hne (by injection e)),hwas g hgc hne]
 have hiff:∀g,Lm' S B iv gm R ((rv.set i vb).set j va) g↔Lm' S B iv gm R rv g:=fun g=>and_congr_right fun _=>not_congr (hmb g)
 exact⟨⟨hsw.weak fun g hg=>(hiff g).2 hg,fun g hg=>hM.blk g ((hmb g).1 hg),by simp[hM.rows]⟩,hmb,hgr⟩
/-- rows in an array of one's own that is given up -/
theorem RowsX.give(h:RowsX w S B iv rv n M)(r:Rel H nx iv B w ρ w')(hS:∀g,S g→g<B){id:Nat}(hH:getH H id=some (.arr T.row rv))(hnil:(ρ id).nil=false)(hR:rv.length≤maxLen)(h1:∀u∈rv,u.oneCell'=true):
  MatO w' S B (((ρ id).g,(ρ id).g+1)::iv) (ρ id).g rv.length n rv M:=by
 have hm:=h.mat r hS hH hnil hR h1
 refine⟨hm.weak fun g hg=>⟨hg.1.mono fun p hp=>List.mem_cons_of_mem _ hp,hg.2⟩,fun g hg=>?_,rfl⟩
 rcases hg with hg|⟨u,hu,hg⟩
 ·injection hg with hg
  subst hg
  exact .inr ⟨(r.low id _ hH hnil).1,_,_,List.mem_cons_self,Nat.le_refl _,Nat.lt_succ_self _⟩
 ·exact(h.new u hu g hg).mono fun p hp=>List.mem_cons_of_mem _ hp
end
end Go.Ex

/- Determinants of package exact: det. Printed by program. No condition but sizes. -/
namespace Go.Ex
open Go Go.Sx Go.Proofs

theorem RowR.take{C S:Nat→Prop}{w:World}{a:Option Addr}{m n c:Nat}{qs:List Rat}(h:RowR w C S (.slice a m c) qs)(hn:n≤m):RowR w C S (.slice a n c) (qs.take n):=by
 obtain⟨css,⟨h0,h1,h2,a',c',e,h3,h4⟩,hf⟩:=h
 injection e with e1 e2 e3
 subst e1 e2 e3
 have hl:(css.take n).length=(qs.take n).length:=by rw[List.length_take,List.length_take,hf.1]
 have hq:(qs.take n).length=n:=by rw[List.length_take];omega
 have hpre:∀(j:Nat) u,(css.take n).flatten[j]? =some u→css.flatten[j]? =some u:=fun j u hu=>by
  have:css.flatten=(css.take n).flatten++(css.drop n).flatten:=by rw[←List.flatten_append,List.take_append_drop]
  rw[this,List.getElem?_append_left (List.getElem?_eq_some_iff.1 hu).1]
  exact hu
 refine⟨css.take n,⟨by rw[hq];omega,?_,fun u hu=>h2 u ?_,a,c,by rw[hq],by rw[hq];omega,fun j u hu=>h4 j u (hpre j u hu)⟩,hl,fun j cs q k1 k2=>hf.2 j cs q ?_ ?_⟩
 ·rw[flat_len fun cs hc=>hf.len4 cs (List.mem_of_mem_take hc),hl]
 ·obtain⟨j,hj⟩:=List.getElem?_of_mem hu
  exact List.mem_of_getElem? (hpre j u hj)
 ·rw[List.getElem?_take]at k1;split at k1;exact k1;cases k1
 ·rw[List.getElem?_take]at k2;split at k2;exact k2;cases k2
theorem swap_len{M:List (List Rat)}{n i j:Nat}(hl:Len n M)(hi:i<M.length)(hj:j<M.length):Len n (swapL [] M i j):=fun r hr=>by
 unfold swapL at hr
 rcases List.mem_or_eq_of_mem_set hr with h1|h1
 ·rcases List.mem_or_eq_of_mem_set h1 with h2|h2
  ·exact hl r h2
  ·rw[h2];exact hl _ (getD_mem hj)
 ·rw[h1];exact hl _ (getD_mem hi)
theorem pref_take{M:List (List Rat)}{n k:Nat}{r:List Rat}(h:M[k]? =some r)(hk:k<n):(tk n (M.take n)).take (k+1)=(tk n (M.take n)).take k++[r.take n]:=by
 rw[List.take_add_one,tk,List.getElem?_map,List.getElem?_take,if_pos hk,h];rfl
theorem MatO.elemR{w:World}{S:Nat→Prop}{B:Nat}{iv:Iv}{gm R n k c:Nat}{rv:List Value}{M:List (List Rat)}(h:MatO w S B iv gm R n rv M)(hk:k<R)(hc:c<n):
  ∃g ck q d1 e1 m1 k1 d2 e2 m2 k2,ElemW w (Lm' S B iv gm R rv) rv n M gm k c g ck q d1 e1 m1 k1 d2 e2 m2 k2∧Mb (vmO gm R) rv g:=by
 obtain⟨gm',g,ck,q,d1,e1,m1,k1,d2,e2,m2,k2,e,hE⟩:=h.mat.elem (k:=k) (c:=c) (by rw[h.rows];exact hk) hc
 injection e with e
 injection e with e
 subst e
 exact⟨g,ck,q,d1,e1,m1,k1,d2,e2,m2,k2,hE,.inr ⟨_,List.mem_of_getElem? hE.rv,rfl⟩⟩
theorem det_c{S:Nat→Prop}{w:World}{vm:Value}{M:List (List Rat)}{n R h:Nat}(hS0:Old S w)(hM0:MatR w S vm M)(hrow:∀r∈M,r.length=R)(hnR:n≤R)(hnM:n≤M.length)(hR:R≤1000)(hht:Ht M h)(h2:2≤h)(hbd:4^n*h≤500000000):
  Con PG N.exact_det #[vm,.int .i64 n] w (Ret w fun v' w2=>FracR w2 (Nw (fun _=>False) w w2) v' (subD M 0 n)):=by
 have hS:=hS0
 have hw:Bel w.heap.size w w:=Bel.refl
 obtain⟨am,cm,rfl,hcm,hmm⟩:=SlicesR.shape hM0
 unfold maxLen at hmm
 refine in_exact_det (by simp) ?_
 conv=>whnf
 refine⟨n,n,rfl,rfl,Nat.le_refl _,by omega,by omega,?_⟩
 conv=>whnf
 refine⟨List Value×World×Iv,fun z=>⟨[(0,.o (.v (.slice am M.length cm))),(1,.o (.v (.int .i64 n))),(4,.o (.p 0 0)),(5,.o (.s 1 0 n n)),(14,.o (.v (.int .i64 n))),(15,.o (.v (.int .i64 (z.1.length:Nat))))],[(1,.arr T.row (z.1++List.replicate (n-z.1.length) (.slice none 0 0))),(0,.box T.fraction [.v (.bool false),.v (.slice none 0 0),.v (.bool false),.v (.slice none 0 0)])],2,z.2.2,z.2.1⟩,fun z=>n-z.1.length,
  fun z=>z.1.length≤n∧Bel w.heap.size w z.2.1∧RowsX z.2.1 S w.heap.size z.2.2 z.1 n ((tk n (M.take n)).take z.1.length)∧(∀u∈z.1,u.oneCell'=true),?_,?_⟩
 ·intro ρ w' r
  exact⟨([],w',[]),⟨Nat.zero_le _,hw.tr r.bel,by simpa using RowsX.nil _ _ _ _ _,by simp⟩,Sub.gen [] r ⟨rfl,rfl,trivial⟩ ⟨rfl,rfl,rfl,rfl,rfl,rfl,trivial⟩ (by simp[ScH,Blk.scopd,At.sc]) (by simp[ScE,SV.sc,At.sc]) (by rfl) (fun lo hi h=>h)⟩
 clear hw
 rintro⟨rv,w1,iv⟩ ⟨hi,hw,hF,h1c⟩
 dsimp only at hi hw hF h1c ⊢
 conv=>whnf
 refine BrS.mk (fun hib=>?_) (fun hib=>?_)
 ·have hib:rv.length<n:=by simpa using hib
  obtain⟨ra,hra⟩:∃r,M[rv.length]? =some r:=⟨_,List.getElem?_eq_getElem (by omega)⟩
  have hral:=hrow ra (List.mem_of_getElem? hra)
  obtain⟨adx,ux,rfl,hFx,hx1,hx2⟩:=SlicesR.load hM0 hra
  obtain⟨aux,cux,rfl,hcux,-⟩:=hFx.shape
  conv=>whnf
  refine⟨adx,rfl,⟨by omega,by omega⟩,?_⟩
  conv=>whnf
  refine⟨.slice aux ra.length cux,fun ρ w' r=>?_,?_⟩
  ·rw[Int.toNat_natCast,cell_of_heap (w:=w) (w2:=w') (by rw[addB];exact(hw.tr r.bel).block _ (hS _ hx1))]
   exact hx2
  conv=>whnf
  have hpre:=RowR.take (n:=n) (hFx.from (k:=0) (by omega)) (by omega)
  refine⟨⟨by omega,by omega,by omega⟩,(if (cux:Int)=((0:Nat):Int)then aux else aux.map (·.add (0*4))),n,cux-0,rfl,by omega,by omega,?_⟩
  rw[List.drop_zero]at hpre
  generalize (if (cux:Int)=((0:Nat):Int)then aux else aux.map (·.add (0*4)))=adp at*
  generalize cux-0=cdp at*
  have hprl:(ra.take n).length=n:=by rw[List.length_take];omega
  conv=>whnf
  refine callE_S (callE_con (Φ:=fun _ w' v w2=>RowW w2 S v n (ra.take n)∧∀g,v.ownBlock=some g→w'.heap.size≤g∧g<w2.heap.size) (fun ρ w' r=>?_) ?_)
  ·have:=cloneR_c (w:=w') (fun g hg=>by have:=hS g hg;have:=r.baseLe;omega) (fun g hg=>by have:=hS g hg;have:=r.baseLe;omega) (hpre.keep fun g hg=>(hw.tr r.bel).block g (hS g (hg.elim id id))) (by omega) (by omega)
   rw[hprl]at this
   exact this
  rintro ρ wa1 v1 wb1 r he hb ⟨hn1,hn2⟩
  have hF2:=hF.snoc r hS he (hn1.weak fun g hg=>⟨.inl hg,fun e=>by have:=hS g hg;have:=hn2 g e;have:=r.baseLe;omega,fun⟨u,hu,e⟩=>(hF.new u hu g e).elim (fun h=>h.elim) fun h=>by have:=hS g hg;omega⟩) hn2
  rw[←pref_take hra hib]at hF2
  replace hw:=hw.tr hb
  obtain⟨a3,c3,rfl,-⟩:=hn1.form
  clear r he hb hn1 hn2 hF
  generalize (wa1.heap.size,wb1.heap.size)::iv=iv1 at*
  conv=>whnf
  refine⟨⟨by omega,by omega⟩,?_⟩
  conv=>whnf
  refine⟨by simp;omega,(rv++[.slice a3 n c3])++List.replicate (n-(rv.length+1)) (.slice none 0 0),?_,?_⟩
  ·have h5:n-rv.length=(n-(rv.length+1))+1:=by omega
   simp[h5,List.replicate_succ]
  conv=>whnf
  refine⟨((rv.length+1:Nat):Int),by rw[wrap64]<;>omega,?_⟩
  conv=>whnf
  intro ρ3 w3 r3
  have hl3:(rv++[Value.slice a3 n c3]).length=rv.length+1:=by simp
  refine⟨(rv++[.slice a3 n c3],w3,iv1),⟨by dsimp only;rw[hl3];exact hib,hw.tr r3.bel,by dsimp only;rw[hl3];exact hF2.rel r3 hS,fun u hu=>?_⟩,Sub.gen [] r3 ⟨by dsimp only;rw[hl3];rfl,rfl,trivial⟩ ⟨rfl,rfl,rfl,rfl,rfl,by dsimp only;rw[hl3];rfl,trivial⟩ (by simp[ScH,Blk.scopd,At.sc]) (by simp[ScE,SV.sc,At.sc]) (by rfl) (fun lo hi h=>h),by dsimp only;rw[hl3];omega⟩
  rcases List.mem_append.1 hu with hu|hu
  ·exact h1c u hu
  ·simp at hu;subst hu;rfl
 have hib:rv.length=n:=Nat.le_antisymm hi (by simpa using hib)
 rw[hib,List.take_of_length_le (by rw[tk_length,List.length_take];exact Nat.min_le_left ..)]at hF
 rw[hib,Nat.sub_self,List.replicate_zero,List.append_nil]
 conv=>whnf
 refine callE_S (callE_con (Φ:=fun _ w' v w2=>FracR w2 (Nw (fun _=>False) w' w2) v ((1:Int):Rat)) (fun ρ w' r=>whole_c 1 w' (by decide) (by decide)) ?_)
 rintro ρ wa1 v1 wb1 r he hb hn
 replace hw:=hw.tr hb
 have hO:=hn.lim (rv:=rv) r fun u hu g hg=>hF.new u hu g hg
 replace hF:RowsX wb1 S w.heap.size ((wa1.heap.size,wb1.heap.size)::iv) rv n (tk n (M.take n)):=hF.past r hS he fun x hx=>List.mem_cons_of_mem _ hx
 clear r he hb hn
 generalize (wa1.heap.size,wb1.heap.size)::iv=iv1 at*
 obtain⟨s1_0,s1_1,s1_2,s1_3,s1_4,s1_5,s1_6,s1_7,rfl⟩:=hO.shape
 rw[show ((1:Int):Rat)=1 by decide]at hO
 conv=>whnf
 have hDlen:Len n (tk n (M.take n)):=fun r hr=>by
  obtain⟨x,hx,rfl⟩:=List.mem_map.1 hr
  rw[List.length_take,hrow x (List.mem_of_mem_take hx)];omega
 have hDht:Ht (tk n (M.take n)) h:=fun r hr q hq=>by
  obtain⟨x,hx,rfl⟩:=List.mem_map.1 hr
  exact hht x (List.mem_of_mem_take hx) q (List.mem_of_mem_take hq)
 refine⟨Nat×(Nat×List Value×List (List Rat)×Rat)×((Bool×Bool)×(Option Addr×Option Addr)×(Nat×Nat×Nat×Nat))×World×Iv,fun z=>⟨[(5,.o (.v (.slice (some ⟨z.2.1.1,0,none⟩) n n))),(1,.o (.v (.int .i64 n))),(4,.o (.p 0 0)),(7,.o (.p 2 0)),(30,.o (.v (.int .i64 n))),(31,.o (.v (.int .i64 ((z.1:Nat):Int))))],[(2,.box T.fraction [.v (.bool z.2.2.1.1.1),.v (.slice z.2.2.1.2.1.1 z.2.2.1.2.2.1 z.2.2.1.2.2.2.1),.v (.bool z.2.2.1.1.2),.v (.slice z.2.2.1.2.1.2 z.2.2.1.2.2.2.2.1 z.2.2.1.2.2.2.2.2)]),(0,.box T.fraction [.v (.bool false),.v (.slice none 0 0),.v (.bool false),.v (.slice none 0 0)])],3,z.2.2.2.2,z.2.2.2.1⟩,fun z=>n-z.1,
  fun z=>z.1≤n∧Bel w.heap.size w z.2.2.2.1∧MatO z.2.2.2.1 S w.heap.size z.2.2.2.2 z.2.1.1 n n z.2.1.2.1 z.2.1.2.2.1∧FracR z.2.2.2.1 (Lm' (fun _=>False) w.heap.size z.2.2.2.2 z.2.1.1 n z.2.1.2.1) (.agg #[.bool z.2.2.1.1.1,.slice z.2.2.1.2.1.1 z.2.2.1.2.2.1 z.2.2.1.2.2.2.1,.bool z.2.2.1.1.2,.slice z.2.2.1.2.1.2 z.2.2.1.2.2.2.2.1 z.2.2.1.2.2.2.2.2]) z.2.1.2.2.2∧Len n z.2.1.2.2.1∧Ht z.2.1.2.2.1 (4^z.1*h)∧rl z.2.1.2.2.2≤4^z.1*h∧z.2.1.2.2.2*subD z.2.1.2.2.1 z.1 n=subD M 0 n,?_,?_⟩
 ·intro ρ w' r
  have hnil:=r.nn 1 _ rfl (by intros;simp) (by simp)
  have hG:=hF.give r hS (id:=1) rfl hnil (by unfold maxLen;omega) h1c
  rw[hib]at hG
  refine⟨(0,((ρ 1).g,rv,tk n (M.take n),1),((s1_0,s1_4),(s1_1,s1_5),(s1_2,s1_3,s1_6,s1_7)),w',((ρ 1).g,(ρ 1).g+1)::iv1),⟨Nat.zero_le _,hw.tr r.bel,hG,(hO.keep fun g hg=>Rel.same r (oldF w) hg.1).weak fun g hg=>⟨hg.1.mono fun p hp=>List.mem_cons_of_mem _ hp,fun hm=>?_⟩,hDlen,by rw[Nat.pow_zero,Nat.one_mul];exact hDht,by rw[rl_one,Nat.pow_zero];omega,by rw[subD_prefix,Rat.one_mul]⟩,Sub.give r (id:=1) (t:=5) rfl rfl ⟨rfl,rfl,trivial⟩ rfl ⟨rfl,rfl,rfl,rfl,rfl,trivial⟩ (by simp[ScE,SV.sc,At.sc])⟩
  rcases hm with hm|⟨u,hu,hm⟩
  ·injection hm with hm
   exact Rel.not r (oldF w) hg.1 1 _ rfl hnil hm
  ·exact hg.2 ⟨u,hu,hm⟩
 clear hw hF hO hDlen hDht hib hi h1c
 rintro⟨c,⟨gm,rv1,M1,q0⟩,⟨⟨p0,p4⟩,⟨p1,p5⟩,⟨p2,p3,p6,p7⟩⟩,w1,iv⟩ ⟨hc,hw,hM,hO,hlen,hht1,hql,hD⟩
 dsimp only at hc hw hM hO hlen hht1 hql hD ⊢
 conv=>whnf
 refine BrS.mk (fun hcb=>?_) (fun hcb=>?_)
 ·have hcb:c<n:=by simpa using hcb
  have hHb:4^(c+1)*h≤500000000:=Nat.le_trans (Nat.mul_le_mul_right _ (Nat.pow_le_pow_right (by decide) hcb)) hbd
  have hpow:4^(c+1)*h=4*(4^c*h):=by rw[Nat.pow_succ,Nat.mul_comm (4^c) 4,Nat.mul_assoc]
  have hH2:2≤4^c*h:=Nat.le_trans h2 (Nat.le_mul_of_pos_left _ (Nat.pow_pos (by decide)))
  rw[hpow]at hHb
  obtain⟨hh,hhe⟩:∃x,x=4^c*h:=⟨_,rfl⟩
  rw[←hhe]at hht1 hql hH2 hHb hpow
  have hM1l:=hM.len
  conv=>whnf
  refine⟨Nat×World×Iv,fun z=>⟨[(5,.o (.v (.slice (some ⟨gm,0,none⟩) n n))),(1,.o (.v (.int .i64 n))),(4,.o (.p 0 0)),(7,.o (.p 2 0)),(30,.o (.v (.int .i64 n))),(31,.o (.v (.int .i64 ((c:Nat):Int)))),(8,.o (.v (.int .i64 ((c:Nat):Int)))),(9,.o (.v (.int .i64 ((z.1:Nat):Int))))],[(2,.box T.fraction [.v (.bool p0),.v (.slice p1 p2 p3),.v (.bool p4),.v (.slice p5 p6 p7)]),(0,.box T.fraction [.v (.bool false),.v (.slice none 0 0),.v (.bool false),.v (.slice none 0 0)])],3,z.2.2,z.2.1⟩,fun z=>n-z.1,
   fun z=>c≤z.1∧z.1≤n∧Bel w.heap.size w z.2.1∧MatO z.2.1 S w.heap.size z.2.2 gm n n rv1 M1∧FracR z.2.1 (Lm' (fun _=>False) w.heap.size z.2.2 gm n rv1) (.agg #[.bool p0,.slice p1 p2 p3,.bool p4,.slice p5 p6 p7]) q0∧∀j,c≤j→j<z.1→at2 M1 j c=0,?_,?_⟩
  ·intro ρ w' r
   exact⟨(c,w',iv),⟨Nat.le_refl _,Nat.le_of_lt hcb,hw.tr r.bel,hM.rel r hS,hO.relL r (oldF w),fun j h1 h2=>by dsimp only at h2;omega⟩,Sub.gen [] r ⟨rfl,rfl,trivial⟩ ⟨rfl,rfl,rfl,rfl,rfl,rfl,rfl,rfl,trivial⟩ (by simp[ScH,Blk.scopd,At.sc]) (by simp[ScE,SV.sc,At.sc]) (by rfl) (fun lo hi h=>h)⟩
  clear hw hM hO
  rintro⟨k,w2,iv⟩ ⟨hck,hk,hw,hM,hO,hz⟩
  dsimp only at hck hk hw hM hO hz ⊢
  conv=>whnf
  refine BrS.mk (fun hkb=>?_) (fun hkb=>?_)
  ·have hkb:k<n:=by simpa using hkb
   obtain⟨gk,cd,qd,d1,d2,d3,d4,d5,d6,d7,d8,hEd,hgd⟩:=hM.elemR (k:=k) (c:=c) (by omega) (by omega)
   conv=>whnf
   refine⟨⟨gm,0,none⟩,rfl,⟨by omega,by omega⟩,?_⟩
   conv=>whnf
   refine⟨_,fun ρ w' r=>hM.cell r (.inl (by rw[addB];rfl)) hEd.outer,?_⟩
   conv=>whnf
   refine⟨⟨gk,0,none⟩,rfl,⟨by omega,by omega⟩,?_⟩
   conv=>whnf
   refine⟨[.bool d1,.slice d2 d3 d4,.bool d5,.slice d6 d7 d8],rfl,fun ρ w' r j x hx=>hM.cell r (by rw[addB,addB];exact hgd) (hEd.cells j x hx),?_⟩
   conv=>whnf
   have hqd:=hEd.at_
   refine callE_S (callE_con (Φ:=fun _ w' v w2=>v= .int .i64 (rs qd)) (fun ρ w' r=>fsign_c (Lm'.old r hS) (hEd.frac.relL r hS)) ?_)
   rintro ρ wa11 v11 wb11 r he hb rfl
   replace hw:=hw.tr hb
   replace hM:=MatO.past (iv':=(wa11.heap.size,wb11.heap.size)::iv) hM r hS he fun x hx=>List.mem_cons_of_mem _ hx
   replace hO:=FracR.pastL (iv':=(wa11.heap.size,wb11.heap.size)::iv) hO r (oldF w) he fun x hx=>List.mem_cons_of_mem _ hx
   clear r he hb
   generalize (wa11.heap.size,wb11.heap.size)::iv=iv11 at*
   clear hEd hgd
   conv=>whnf
   refine BrS.mk (fun hs=>?_) (fun hs=>?_)
   ·have hs:qd=0:=rs_zero.1 (by simpa using hs)
    conv=>whnf
    refine⟨((k+1:Nat):Int),by rw[wrap64]<;>omega,?_⟩
    conv=>whnf
    intro ρ3 w3 r3
    refine⟨(k+1,w3,_),⟨by dsimp only;omega,hkb,hw.tr r3.bel,hM.rel r3 hS,hO.relL r3 (oldF w),fun j h1 h2=>?_⟩,Sub.gen [] r3 ⟨rfl,rfl,trivial⟩ ⟨rfl,rfl,rfl,rfl,rfl,rfl,rfl,rfl,trivial⟩ (by simp[ScH,Blk.scopd,At.sc]) (by simp[ScE,SV.sc,At.sc]) (by rfl) (fun lo hi h=>h),by dsimp only;omega⟩
    rcases Nat.lt_or_ge j k with h3|h3
    ·exact hz j h1 h3
    ·rw[show j=k by dsimp only at h2;omega,hqd,hs]
   have hs:qd≠0:=fun e=>by rw[rs_zero.2 e]at hs;simp at hs
   rw[←hqd]at hs
   clear hqd hz
   conv=>whnf
   refine BrS.mk (fun hkn=>absurd (eq_of_beq hkn) (by omega)) (fun _=>?_)
   conv=>whnf
   refine BrS.mk (fun hkc=>?_) (fun hkc=>?_)
   ·have hkc:k≠c:=fun e=>by rw[e]at hkc;simp at hkc
    obtain⟨gk,cd,qd,d1,d2,d3,d4,d5,d6,d7,d8,hEd,hgd⟩:=hM.elemR (k:=k) (c:=c) (by omega) (by omega)
    obtain⟨gc,ce,qe,e1,e2,e3,e4,e5,e6,e7,e8,hEe,hge⟩:=hM.elemR (k:=c) (c:=c) (by omega) (by omega)
    have hvk:=hEd.rv
    have hvc:=hEe.rv
    have hgB:w.heap.size≤gm:=hM.base (.inl rfl)
    have hMbg:∀g,some gm=some g→Mb (vmO gm n) rv1 g:=fun g e=>by injection e with e;subst e;exact .inl rfl
    conv=>whnf
    refine drawn_of_pi hτ hmix [.x 0,.x 1,.x 2,.x 3,.x 4,.x 5,.x 6,.x 7,.x 8,.x 9,.x 10,.x 11,.x 12,.x 13,.x 14,.x 15] (by kernel_rfl) (by kernel_rfl) ?_
    conv=>whnf
    refine⟨⟨gm,0,none⟩,rfl,⟨by omega,by omega⟩,?_⟩
    conv=>whnf
    refine⟨_,fun ρ w' r=>hM.cell r (.inl (by rw[addB];rfl)) hEd.outer,?_⟩
    conv=>whnf
    refine⟨⟨gm,0,none⟩,rfl,⟨by omega,by omega⟩,?_⟩
    conv=>whnf
    refine⟨_,fun ρ w' r=>hM.cell r (.inl (by rw[addB];rfl)) hEe.outer,?_⟩
    conv=>whnf
    refine⟨⟨gm,0,none⟩,rfl,⟨by omega,by omega⟩,?_⟩
    conv=>whnf
    intro ρ w' r
    obtain⟨x1,x2,x3,x4⟩:=hM.swap1 r hS (i:=c) (vb:=.slice (some ⟨gk,0,none⟩) n cd) hcb
    replace hw:=hw.tr r.bel
    refine⟨x1,x2,x3,fun w4 hw4=>?_⟩
    obtain⟨hH,hgr⟩:=x4 w4 hw4
    replace hO:=hO.keep (Lm'.grown r (oldF w) hgr hMbg)
    replace hw:=hw.tr (Bel.grown hgr (fun g e=>by injection e with e;subst e;exact hgB) r.baseLe)
    clear r hM x1 x2 x3 x4 hw4 hgr hEd hEe hgd hge
    conv=>whnf
    refine⟨⟨gm,0,none⟩,rfl,⟨by omega,by omega⟩,?_⟩
    conv=>whnf
    intro ρ w' r
    obtain⟨x1,x2,x3,x4⟩:=hH.swap2 r hS hvc hvk
    replace hw:=hw.tr r.bel
    refine⟨x1,x2,x3,fun w6 hw6=>?_⟩
    obtain⟨hM,hiff,hgr⟩:=x4 w6 hw6
    replace hO:=(hO.keep (Lm'.grown r (oldF w) hgr hMbg)).weak (S':=Lm' (fun _=>False) w.heap.size iv11 gm n ((rv1.set c (.slice (some ⟨gk,0,none⟩) n cd)).set k (.slice (some ⟨gc,0,none⟩) n ce))) fun g hg=>⟨hg.1,fun hm=>hg.2 ((hiff g).1 hm)⟩
    replace hw:=hw.tr (Bel.grown hgr (fun g e=>by injection e with e;subst e;exact hgB) r.baseLe)
    have h0:at2 (swapL [] M1 c k) c c≠0:=by rw[at2_swap (by omega) (by omega)];exact hs
    replace hht1:=hht1.swap (i:=c) (j:=k) (by omega) (by omega)
    have hD2: -q0*subD (swapL [] M1 c k) c n=subD M 0 n:=by
     rw[subD_swap (Nat.lt_of_le_of_ne hck (Ne.symm hkc)) hkb (by omega),←hD];grind
    have hlen2:Len n (swapL [] M1 c k):=swap_len hlen (by omega) (by omega)
    have hM2l:=hM.len
    clear r hH x1 x2 x3 x4 hw6 hgr hiff hvk hvc hs hMbg hD hlen hM1l
    generalize (rv1.set c (Value.slice (some ⟨gk,0,none⟩) n cd)).set k (Value.slice (some ⟨gc,0,none⟩) n ce)=rv2 at*
    generalize swapL [] M1 c k=M2 at*
    conv=>whnf
    refine callE_S (callE_con (Φ:=fun _ w' v w2=>FracR w2 (Nw (Lm' (fun _=>False) w.heap.size iv11 gm n rv2) w' w2) v (-q0)) (fun ρ w' r=>fminus_c (Lm'.old r (oldF w)) (hO.relL r (oldF w))) ?_)
    rintro ρ wa21 v21 wb21 r he hb hn
    replace hw:=hw.tr hb
    have hO2:=hn.besideL hM r
    replace hM:=MatO.past (iv':=(wa21.heap.size,wb21.heap.size)::iv11) hM r hS he fun x hx=>List.mem_cons_of_mem _ hx
    clear r he hb hn
    generalize (wa21.heap.size,wb21.heap.size)::iv11=iv21 at*
    clear hO
    have hql2:rl (-q0)≤hh:=by rw[rl_neg];exact hql
    obtain⟨s21_0,s21_1,s21_2,s21_3,s21_4,s21_5,s21_6,s21_7,rfl⟩:=hO2.shape
    conv=>whnf
    obtain⟨gf,cf,qf,f1,f2,f3,f4,f5,f6,f7,f8,hEf,hgf⟩:=hM.elemR (k:=c) (c:=c) (by omega) (by omega)
    have hqf:qf=at2 M2 c c:=hEf.at_.symm
    have hlf:=at2_ht' hht1 hH2 c c
    rw[←hqf]at hlf h0
    have hlm:=rl_mul (-q0) qf
    conv=>whnf
    refine drawn_of_pi hτ hmix [.x 0,.x 1,.x 2,.x 3,.x 4,.x 5,.x 6,.x 7,.x 8,.x 9] (by kernel_rfl) (by kernel_rfl) ?_
    conv=>whnf
    refine⟨⟨gm,0,none⟩,rfl,⟨by omega,by omega⟩,?_⟩
    conv=>whnf
    refine⟨_,fun ρ w' r=>hM.cell r (.inl (by rw[addB];rfl)) hEf.outer,?_⟩
    conv=>whnf
    refine⟨⟨gf,0,none⟩,rfl,⟨by omega,by omega⟩,?_⟩
    conv=>whnf
    refine⟨[.bool f1,.slice f2 f3 f4,.bool f5,.slice f6 f7 f8],rfl,fun ρ w' r j x hx=>hM.cell r (by rw[addB,addB];exact hgf) (hEf.cells j x hx),?_⟩
    conv=>whnf
    refine callE_con (Φ:=fun _ w' v w2=>FracR w2 (Nw (fun _=>False) w' w2) v (-q0*qf)) (fun ρ w' r=>ftimes_c (Lm'.old r hS) (FracR.weak (hO2.relL r (oldF w)) fun _ hg=>(⟨cvF hg.1,hg.2⟩:Lm' S _ _ _ _ _ _)) (hEf.frac.relL r hS) (by omega) (by omega)) ?_
    rintro ρ wa22 v22 wb22 r he hb hn
    replace hw:=hw.tr hb
    have hO9:=hn.beside (S0:=fun _=>False) hM r
    replace hM:=MatO.past (iv':=(wa22.heap.size,wb22.heap.size)::iv21) hM r hS he fun x hx=>List.mem_cons_of_mem _ hx
    clear r he hb hn
    generalize (wa22.heap.size,wb22.heap.size)::iv21=iv22 at*
    clear hEf hgf hO2
    have hO:=hO9
    clear hO9
    obtain⟨s22_0,s22_1,s22_2,s22_3,s22_4,s22_5,s22_6,s22_7,rfl⟩:=hO.shape
    conv=>whnf
    refine⟨((c+1:Nat):Int),by rw[wrap64]<;>omega,?_⟩
    conv=>whnf
    have hht:=hht1
    rw[hqf]at h0
    refine⟨Nat×World×Iv,fun z=>⟨[(5,.o (.v (.slice (some ⟨gm,0,none⟩) n n))),(1,.o (.v (.int .i64 n))),(4,.o (.p 0 0)),(7,.o (.p 2 0)),(30,.o (.v (.int .i64 n))),(31,.o (.v (.int .i64 ((c:Nat):Int)))),(8,.o (.v (.int .i64 ((c:Nat):Int)))),(10,.o (.v (.int .i64 ((z.1:Nat):Int))))],[(2,.box T.fraction [.v (.bool s22_0),.v (.slice s22_1 s22_2 s22_3),.v (.bool s22_4),.v (.slice s22_5 s22_6 s22_7)]),(0,.box T.fraction [.v (.bool false),.v (.slice none 0 0),.v (.bool false),.v (.slice none 0 0)])],3,z.2.2,z.2.1⟩,fun z=>n-z.1,
     fun z=>c<z.1∧z.1≤n∧Bel w.heap.size w z.2.1∧MatO z.2.1 S w.heap.size z.2.2 gm n n rv2 (elimTo M2 c z.1)∧FracR z.2.1 (Lm' (fun _=>False) w.heap.size z.2.2 gm n rv2) (.agg #[.bool s22_0,.slice s22_1 s22_2 s22_3,.bool s22_4,.slice s22_5 s22_6 s22_7]) (-q0*qf),?_,?_⟩
    ·intro ρ w' r
     exact⟨(c+1,w',_),⟨Nat.lt_succ_self _,by dsimp only;omega,hw.tr r.bel,by rw[elimTo_start _ _ _ (Nat.le_refl _)];exact hM.rel r hS,hO.relL r (oldF w)⟩,
      Sub.gen [] r ⟨rfl,rfl,trivial⟩ ⟨rfl,rfl,rfl,rfl,rfl,rfl,rfl,rfl,trivial⟩ (by simp[ScH,Blk.scopd,At.sc]) (by simp[ScE,SV.sc,At.sc]) (by rfl) (fun lo hi h=>h)⟩
    clear hw hM hO
    rintro⟨i,w7,iv⟩ ⟨hci,hi,hw,hM,hO⟩
    dsimp only at hci hi hw hM hO ⊢
    conv=>whnf
    refine BrS.mk (fun hib=>?_) (fun hib=>?_)
    ·have hib:i<n:=by simpa using hib
     obtain⟨ri,hri⟩:∃r,M2[i]? =some r:=⟨_,List.getElem?_eq_getElem (by omega)⟩
     obtain⟨rc,hrc⟩:∃r,M2[c]? =some r:=⟨_,List.getElem?_eq_getElem (by omega)⟩
     have hri2:(elimTo M2 c i)[i]? =some ri:=by rw[elimTo_at _ _ _ _ (.inr (Nat.le_refl _))];exact hri
     have hrc2:(elimTo M2 c i)[c]? =some rc:=by rw[elimTo_at _ _ _ _ (.inl (Nat.le_refl _))];exact hrc
     obtain⟨gi,cd,qd,d1,d2,d3,d4,d5,d6,d7,d8,hEd,hgd⟩:=hM.elemR (k:=i) (c:=c) (by omega) (by omega)
     obtain⟨gc,ce,qe,e1,e2,e3,e4,e5,e6,e7,e8,hEe,hge⟩:=hM.elemR (k:=c) (c:=c) (by omega) (by omega)
     have hqd:qd=ri.getD c 0:=by
      rw[←hEd.at_];unfold at2
      rw[show (elimTo M2 c i).getD i []=ri by simp only[List.getD,hri2,Option.getD_some]]
     have hqe:qe=at2 M2 c c:=by rw[←hEe.at_,elimTo_at2' (.inl (Nat.le_refl _))]
     have hdi:=hht.at hri
     have hdc:=hht.at hrc
     have hl1:=rl_getD hdi (by omega) c
     have hl2:=at2_ht' hht (by omega) c c
     rw[←hqd]at hl1
     rw[←hqe]at hl2
     have hqe0:qe≠0:=hqe▸h0
     have hl3:=rl_div qd hqe0
     have hl4:=rl_neg (qd / qe)
     have hvd:=hEd.rv
     have hve:=hEe.rv
     conv=>whnf
     refine drawn_of_pi hτ hmix [.x 0,.x 1,.x 2,.x 3,.x 4,.x 5,.x 6,.x 7,.x 8,.x 9,.x 10,.x 11,.x 12,.x 13,.x 14,.x 15,.x 16,.x 17,.x 20,.x 21,.x 22,.x 23,.x 18,.x 19,.x 24] (by kernel_rfl) (by kernel_rfl) ?_
     conv=>whnf
     refine⟨⟨gm,0,none⟩,rfl,⟨by omega,by omega⟩,?_⟩
     conv=>whnf
     refine⟨_,fun ρ w' r=>hM.cell r (.inl (by rw[addB];rfl)) hEd.outer,?_⟩
     conv=>whnf
     refine⟨⟨gm,0,none⟩,rfl,⟨by omega,by omega⟩,?_⟩
     conv=>whnf
     refine⟨_,fun ρ w' r=>hM.cell r (.inl (by rw[addB];rfl)) hEd.outer,?_⟩
     conv=>whnf
     refine⟨⟨gi,0,none⟩,rfl,⟨by omega,by omega⟩,?_⟩
     conv=>whnf
     refine⟨[.bool d1,.slice d2 d3 d4,.bool d5,.slice d6 d7 d8],rfl,fun ρ w' r j x hx=>hM.cell r (by rw[addB,addB];exact hgd) (hEd.cells j x hx),?_⟩
     conv=>whnf
     refine⟨⟨gm,0,none⟩,rfl,⟨by omega,by omega⟩,?_⟩
     conv=>whnf
     refine⟨_,fun ρ w' r=>hM.cell r (.inl (by rw[addB];rfl)) hEe.outer,?_⟩
     conv=>whnf
     refine⟨⟨gc,0,none⟩,rfl,⟨by omega,by omega⟩,?_⟩
     conv=>whnf
     refine⟨[.bool e1,.slice e2 e3 e4,.bool e5,.slice e6 e7 e8],rfl,fun ρ w' r j x hx=>hM.cell r (by rw[addB,addB];exact hge) (hEe.cells j x hx),?_⟩
     conv=>whnf
     refine⟨⟨gm,0,none⟩,rfl,⟨by omega,by omega⟩,?_⟩
     conv=>whnf
     refine⟨_,fun ρ w' r=>hM.cell r (.inl (by rw[addB];rfl)) hEe.outer,?_⟩
     conv=>whnf
     refine callE_con (Φ:=fun _ w' v w2=>FracR w2 (Nw (fun _=>False) w' w2) v (qd / qe)) (fun ρ w' r=>fby_c (Lm'.old r hS) (hEd.frac.relL r hS) (hEe.frac.relL r hS) (by omega) (by omega) hqe0) ?_
     rintro ρ wa23 v23 wb23 r he hb hn
     replace hw:=hw.tr hb
     have hB:=hn.beside (S0:=S) hM r
     replace hM:=MatO.past (iv':=(wa23.heap.size,wb23.heap.size)::iv) hM r hS he fun x hx=>List.mem_cons_of_mem _ hx
     replace hO:=FracR.pastL (iv':=(wa23.heap.size,wb23.heap.size)::iv) hO r (oldF w) he fun x hx=>List.mem_cons_of_mem _ hx
     clear r he hb hn
     generalize (wa23.heap.size,wb23.heap.size)::iv=iv23 at*
     clear hEd hEe hgd hge
     obtain⟨s23_0,s23_1,s23_2,s23_3,s23_4,s23_5,s23_6,s23_7,rfl⟩:=hB.shape
     conv=>whnf
     refine callE_con (Φ:=fun _ w' v w2=>FracR w2 (Nw (Lm' S w.heap.size iv23 gm n rv2) w' w2) v (-(qd / qe))) (fun ρ w' r=>fminus_c (Lm'.old r hS) (hB.relL r hS)) ?_
     rintro ρ wa24 v24 wb24 r he hb hn
     replace hw:=hw.tr hb
     have hB2:=hn.besideL hM r
     replace hM:=MatO.past (iv':=(wa24.heap.size,wb24.heap.size)::iv23) hM r hS he fun x hx=>List.mem_cons_of_mem _ hx
     replace hO:=FracR.pastL (iv':=(wa24.heap.size,wb24.heap.size)::iv23) hO r (oldF w) he fun x hx=>List.mem_cons_of_mem _ hx
     clear r he hb hn
     generalize (wa24.heap.size,wb24.heap.size)::iv23=iv24 at*
     clear hB
     obtain⟨s24_0,s24_1,s24_2,s24_3,s24_4,s24_5,s24_6,s24_7,rfl⟩:=hB2.shape
     conv=>whnf
     refine⟨fun ρ w' r=>?_⟩
     refine(hM.add_c r hS (by unfold maxLen;omega) (Nat.ne_of_gt hci) hvd hve hri2 hrc2 hB2 (fun q hq=>by have:=hdi q hq;omega) (fun q hq=>by have:=hdc q hq;omega) (by omega)).mono fun e w8 he=>?_
     obtain⟨rfl,hgr,hmi,hM2⟩:=he
     have hw2:=(hw.tr r.bel).tr (hM.bel r hgr hmi)
     have hO2:=hO.keep (Lm'.grown r (oldF w) hgr hmi)
     replace hO2:=hO2.weak (S':=Lm' (fun _=>False) w.heap.size ((w'.heap.size,w8.heap.size)::iv24) gm n rv2) fun _ hg=>⟨hg.1.mono fun p hp=>List.mem_cons_of_mem _ hp,hg.2⟩
     refine⟨.tuple #[],_,(w'.heap.size,w8.heap.size)::iv24,rfl,r.rowedNew (fun x hx=>Rel.not r (oldF' _) (hM.blk x (hmi x hx))) hgr,?_⟩
     rw[hqd,hqe,show rc=M2.getD c [] by rw[List.getD,hrc];rfl,elimTo_succ hri hci]at hM2
     clear hM hO hw hgr hmi r hB2
     generalize (w'.heap.size,w8.heap.size)::iv24=iv9 at*
     conv=>whnf
     refine⟨((i+1:Nat):Int),by rw[wrap64]<;>omega,?_⟩
     conv=>whnf
     intro ρ3 w3 r3
     exact⟨(i+1,w3,_),⟨by dsimp only;omega,hib,hw2.tr r3.bel,hM2.rel r3 hS,hO2.relL r3 (oldF w)⟩,
      Sub.gen [] r3 ⟨rfl,rfl,trivial⟩ ⟨rfl,rfl,rfl,rfl,rfl,rfl,rfl,rfl,trivial⟩ (by simp[ScH,Blk.scopd,At.sc]) (by simp[ScE,SV.sc,At.sc]) (by rfl) (fun lo hi h=>h),by dsimp only;omega⟩
    have hib:i=n:=Nat.le_antisymm hi (by simpa using hib)
    rw[hib]at hM
    conv=>whnf
    refine⟨((c+1:Nat):Int),by rw[wrap64]<;>omega,?_⟩
    conv=>whnf
    intro ρ3 w3 r3
    refine⟨(c+1,(gm,rv2,elimTo M2 c n,-q0*qf),((s22_0,s22_4),(s22_1,s22_5),(s22_2,s22_3,s22_6,s22_7)),w3,_),⟨hcb,hw.tr r3.bel,hM.rel r3 hS,hO.relL r3 (oldF w),elimTo_len hlen2,by dsimp only;rw[hpow];exact hht.elim hH2 h0,by dsimp only;rw[hpow];omega,?_⟩,Sub.gen [] r3 ⟨rfl,rfl,trivial⟩ ⟨rfl,rfl,rfl,rfl,rfl,rfl,trivial⟩ (by simp[ScH,Blk.scopd,At.sc]) (by simp[ScE,SV.sc,At.sc]) (by rfl) (fun lo hi h=>h),by dsimp only;omega⟩
    dsimp only
    rw[←hD2,subD_elim (M:=M2) hlen2 (Nat.le_refl n) (by omega) hcb h0 (Nat.le_refl n),hqf,Rat.mul_assoc]
   have hkc:c=k:=by
    have h4:((k:Int)==(c:Int))=true:=by simpa using hkc
    have:=eq_of_beq h4
    omega
   subst hkc
   have h0:=hs
   clear hs
   conv=>whnf
   obtain⟨gf,cf,qf,f1,f2,f3,f4,f5,f6,f7,f8,hEf,hgf⟩:=hM.elemR (k:=c) (c:=c) (by omega) (by omega)
   have hqf:qf=at2 M1 c c:=hEf.at_.symm
   have hlf:=at2_ht' hht1 hH2 c c
   rw[←hqf]at hlf h0
   have hlm:=rl_mul (q0) qf
   conv=>whnf
   refine drawn_of_pi hτ hmix [.x 0,.x 1,.x 2,.x 3,.x 4,.x 5,.x 6,.x 7,.x 8,.x 9] (by kernel_rfl) (by kernel_rfl) ?_
   conv=>whnf
   refine⟨⟨gm,0,none⟩,rfl,⟨by omega,by omega⟩,?_⟩
   conv=>whnf
   refine⟨_,fun ρ w' r=>hM.cell r (.inl (by rw[addB];rfl)) hEf.outer,?_⟩
   conv=>whnf
   refine⟨⟨gf,0,none⟩,rfl,⟨by omega,by omega⟩,?_⟩
   conv=>whnf
   refine⟨[.bool f1,.slice f2 f3 f4,.bool f5,.slice f6 f7 f8],rfl,fun ρ w' r j x hx=>hM.cell r (by rw[addB,addB];exact hgf) (hEf.cells j x hx),?_⟩
   conv=>whnf
   refine callE_con (Φ:=fun _ w' v w2=>FracR w2 (Nw (fun _=>False) w' w2) v (q0*qf)) (fun ρ w' r=>ftimes_c (Lm'.old r hS) (FracR.weak (hO.relL r (oldF w)) fun _ hg=>(⟨cvF hg.1,hg.2⟩:Lm' S _ _ _ _ _ _)) (hEf.frac.relL r hS) (by omega) (by omega)) ?_
   rintro ρ wa31 v31 wb31 r he hb hn
   replace hw:=hw.tr hb
   have hO9:=hn.beside (S0:=fun _=>False) hM r
   replace hM:=MatO.past (iv':=(wa31.heap.size,wb31.heap.size)::iv11) hM r hS he fun x hx=>List.mem_cons_of_mem _ hx
   clear r he hb hn
   generalize (wa31.heap.size,wb31.heap.size)::iv11=iv31 at*
   clear hEf hgf hO
   have hO:=hO9
   clear hO9
   obtain⟨s31_0,s31_1,s31_2,s31_3,s31_4,s31_5,s31_6,s31_7,rfl⟩:=hO.shape
   conv=>whnf
   refine⟨((c+1:Nat):Int),by rw[wrap64]<;>omega,?_⟩
   conv=>whnf
   have hht:=hht1
   rw[hqf]at h0
   refine⟨Nat×World×Iv,fun z=>⟨[(5,.o (.v (.slice (some ⟨gm,0,none⟩) n n))),(1,.o (.v (.int .i64 n))),(4,.o (.p 0 0)),(7,.o (.p 2 0)),(30,.o (.v (.int .i64 n))),(31,.o (.v (.int .i64 ((c:Nat):Int)))),(8,.o (.v (.int .i64 ((c:Nat):Int)))),(10,.o (.v (.int .i64 ((z.1:Nat):Int))))],[(2,.box T.fraction [.v (.bool s31_0),.v (.slice s31_1 s31_2 s31_3),.v (.bool s31_4),.v (.slice s31_5 s31_6 s31_7)]),(0,.box T.fraction [.v (.bool false),.v (.slice none 0 0),.v (.bool false),.v (.slice none 0 0)])],3,z.2.2,z.2.1⟩,fun z=>n-z.1,
    fun z=>c<z.1∧z.1≤n∧Bel w.heap.size w z.2.1∧MatO z.2.1 S w.heap.size z.2.2 gm n n rv1 (elimTo M1 c z.1)∧FracR z.2.1 (Lm' (fun _=>False) w.heap.size z.2.2 gm n rv1) (.agg #[.bool s31_0,.slice s31_1 s31_2 s31_3,.bool s31_4,.slice s31_5 s31_6 s31_7]) (q0*qf),?_,?_⟩
   ·intro ρ w' r
    exact⟨(c+1,w',_),⟨Nat.lt_succ_self _,by dsimp only;omega,hw.tr r.bel,by rw[elimTo_start _ _ _ (Nat.le_refl _)];exact hM.rel r hS,hO.relL r (oldF w)⟩,
     Sub.gen [] r ⟨rfl,rfl,trivial⟩ ⟨rfl,rfl,rfl,rfl,rfl,rfl,rfl,rfl,trivial⟩ (by simp[ScH,Blk.scopd,At.sc]) (by simp[ScE,SV.sc,At.sc]) (by rfl) (fun lo hi h=>h)⟩
   clear hw hM hO
   rintro⟨i,w7,iv⟩ ⟨hci,hi,hw,hM,hO⟩
   dsimp only at hci hi hw hM hO ⊢
   conv=>whnf
   refine BrS.mk (fun hib=>?_) (fun hib=>?_)
   ·have hib:i<n:=by simpa using hib
    obtain⟨ri,hri⟩:∃r,M1[i]? =some r:=⟨_,List.getElem?_eq_getElem (by omega)⟩
    obtain⟨rc,hrc⟩:∃r,M1[c]? =some r:=⟨_,List.getElem?_eq_getElem (by omega)⟩
    have hri2:(elimTo M1 c i)[i]? =some ri:=by rw[elimTo_at _ _ _ _ (.inr (Nat.le_refl _))];exact hri
    have hrc2:(elimTo M1 c i)[c]? =some rc:=by rw[elimTo_at _ _ _ _ (.inl (Nat.le_refl _))];exact hrc
    obtain⟨gi,cd,qd,d1,d2,d3,d4,d5,d6,d7,d8,hEd,hgd⟩:=hM.elemR (k:=i) (c:=c) (by omega) (by omega)
    obtain⟨gc,ce,qe,e1,e2,e3,e4,e5,e6,e7,e8,hEe,hge⟩:=hM.elemR (k:=c) (c:=c) (by omega) (by omega)
    have hqd:qd=ri.getD c 0:=by
     rw[←hEd.at_];unfold at2
     rw[show (elimTo M1 c i).getD i []=ri by simp only[List.getD,hri2,Option.getD_some]]
    have hqe:qe=at2 M1 c c:=by rw[←hEe.at_,elimTo_at2' (.inl (Nat.le_refl _))]
    have hdi:=hht.at hri
    have hdc:=hht.at hrc
    have hl1:=rl_getD hdi (by omega) c
    have hl2:=at2_ht' hht (by omega) c c
    rw[←hqd]at hl1
    rw[←hqe]at hl2
    have hqe0:qe≠0:=hqe▸h0
    have hl3:=rl_div qd hqe0
    have hl4:=rl_neg (qd / qe)
    have hvd:=hEd.rv
    have hve:=hEe.rv
    conv=>whnf
    refine drawn_of_pi hτ hmix [.x 0,.x 1,.x 2,.x 3,.x 4,.x 5,.x 6,.x 7,.x 8,.x 9,.x 10,.x 11,.x 12,.x 13,.x 14,.x 15,.x 16,.x 17,.x 20,.x 21,.x 22,.x 23,.x 18,.x 19,.x 24] (by kernel_rfl) (by kernel_rfl) ?_
    conv=>whnf
    refine⟨⟨gm,0,none⟩,rfl,⟨by omega,by omega⟩,?_⟩
    conv=>whnf
    refine⟨_,fun ρ w' r=>hM.cell r (.inl (by rw[addB];rfl)) hEd.outer,?_⟩
    conv=>whnf
    refine⟨⟨gm,0,none⟩,rfl,⟨by omega,by omega⟩,?_⟩
    conv=>whnf
    refine⟨_,fun ρ w' r=>hM.cell r (.inl (by rw[addB];rfl)) hEd.outer,?_⟩
    conv=>whnf
    refine⟨⟨gi,0,none⟩,rfl,⟨by omega,by omega⟩,?_⟩
    conv=>whnf
    refine⟨[.bool d1,.slice d2 d3 d4,.bool d5,.slice d6 d7 d8],rfl,fun ρ w' r j x hx=>hM.cell r (by rw[addB,addB];exact hgd) (hEd.cells j x hx),?_⟩
    conv=>whnf
    refine⟨⟨gm,0,none⟩,rfl,⟨by omega,by omega⟩,?_⟩
    conv=>whnf
    refine⟨_,fun ρ w' r=>hM.cell r (.inl (by rw[addB];rfl)) hEe.outer,?_⟩
    conv=>whnf
    refine⟨⟨gc,0,none⟩,rfl,⟨by omega,by omega⟩,?_⟩
    conv=>whnf
    refine⟨[.bool e1,.slice e2 e3 e4,.bool e5,.slice e6 e7 e8],rfl,fun ρ w' r j x hx=>hM.cell r (by rw[addB,addB];exact hge) (hEe.cells j x hx),?_⟩
    conv=>whnf
    refine⟨⟨gm,0,none⟩,rfl,⟨by omega,by omega⟩,?_⟩
    conv=>whnf
    refine⟨_,fun ρ w' r=>hM.cell r (.inl (by rw[addB];rfl)) hEe.outer,?_⟩
    conv=>whnf
    refine callE_con (Φ:=fun _ w' v w2=>FracR w2 (Nw (fun _=>False) w' w2) v (qd / qe)) (fun ρ w' r=>fby_c (Lm'.old r hS) (hEd.frac.relL r hS) (hEe.frac.relL r hS) (by omega) (by omega) hqe0) ?_
    rintro ρ wa32 v32 wb32 r he hb hn
    replace hw:=hw.tr hb
    have hB:=hn.beside (S0:=S) hM r
    replace hM:=MatO.past (iv':=(wa32.heap.size,wb32.heap.size)::iv) hM r hS he fun x hx=>List.mem_cons_of_mem _ hx
    replace hO:=FracR.pastL (iv':=(wa32.heap.size,wb32.heap.size)::iv) hO r (oldF w) he fun x hx=>List.mem_cons_of_mem _ hx
    clear r he hb hn
    generalize (wa32.heap.size,wb32.heap.size)::iv=iv32 at*
    clear hEd hEe hgd hge
    obtain⟨s32_0,s32_1,s32_2,s32_3,s32_4,s32_5,s32_6,s32_7,rfl⟩:=hB.shape
    conv=>whnf
    refine callE_con (Φ:=fun _ w' v w2=>FracR w2 (Nw (Lm' S w.heap.size iv32 gm n rv1) w' w2) v (-(qd / qe))) (fun ρ w' r=>fminus_c (Lm'.old r hS) (hB.relL r hS)) ?_
    rintro ρ wa33 v33 wb33 r he hb hn
    replace hw:=hw.tr hb
    have hB2:=hn.besideL hM r
    replace hM:=MatO.past (iv':=(wa33.heap.size,wb33.heap.size)::iv32) hM r hS he fun x hx=>List.mem_cons_of_mem _ hx
    replace hO:=FracR.pastL (iv':=(wa33.heap.size,wb33.heap.size)::iv32) hO r (oldF w) he fun x hx=>List.mem_cons_of_mem _ hx
    clear r he hb hn
    generalize (wa33.heap.size,wb33.heap.size)::iv32=iv33 at*
    clear hB
    obtain⟨s33_0,s33_1,s33_2,s33_3,s33_4,s33_5,s33_6,s33_7,rfl⟩:=hB2.shape
    conv=>whnf
    refine⟨fun ρ w' r=>?_⟩
    refine(hM.add_c r hS (by unfold maxLen;omega) (Nat.ne_of_gt hci) hvd hve hri2 hrc2 hB2 (fun q hq=>by have:=hdi q hq;omega) (fun q hq=>by have:=hdc q hq;omega) (by omega)).mono fun e w8 he=>?_
    obtain⟨rfl,hgr,hmi,hM2⟩:=he
    have hw2:=(hw.tr r.bel).tr (hM.bel r hgr hmi)
    have hO2:=hO.keep (Lm'.grown r (oldF w) hgr hmi)
    replace hO2:=hO2.weak (S':=Lm' (fun _=>False) w.heap.size ((w'.heap.size,w8.heap.size)::iv33) gm n rv1) fun _ hg=>⟨hg.1.mono fun p hp=>List.mem_cons_of_mem _ hp,hg.2⟩
    refine⟨.tuple #[],_,(w'.heap.size,w8.heap.size)::iv33,rfl,r.rowedNew (fun x hx=>Rel.not r (oldF' _) (hM.blk x (hmi x hx))) hgr,?_⟩
    rw[hqd,hqe,show rc=M1.getD c [] by rw[List.getD,hrc];rfl,elimTo_succ hri hci]at hM2
    clear hM hO hw hgr hmi r hB2
    generalize (w'.heap.size,w8.heap.size)::iv33=iv9 at*
    conv=>whnf
    refine⟨((i+1:Nat):Int),by rw[wrap64]<;>omega,?_⟩
    conv=>whnf
    intro ρ3 w3 r3
    exact⟨(i+1,w3,_),⟨by dsimp only;omega,hib,hw2.tr r3.bel,hM2.rel r3 hS,hO2.relL r3 (oldF w)⟩,
     Sub.gen [] r3 ⟨rfl,rfl,trivial⟩ ⟨rfl,rfl,rfl,rfl,rfl,rfl,rfl,rfl,trivial⟩ (by simp[ScH,Blk.scopd,At.sc]) (by simp[ScE,SV.sc,At.sc]) (by rfl) (fun lo hi h=>h),by dsimp only;omega⟩
   have hib:i=n:=Nat.le_antisymm hi (by simpa using hib)
   rw[hib]at hM
   conv=>whnf
   refine⟨((c+1:Nat):Int),by rw[wrap64]<;>omega,?_⟩
   conv=>whnf
   intro ρ3 w3 r3
   refine⟨(c+1,(gm,rv1,elimTo M1 c n,q0*qf),((s31_0,s31_4),(s31_1,s31_5),(s31_2,s31_3,s31_6,s31_7)),w3,_),⟨hcb,hw.tr r3.bel,hM.rel r3 hS,hO.relL r3 (oldF w),elimTo_len hlen,by dsimp only;rw[hpow];exact hht.elim hH2 h0,by dsimp only;rw[hpow];omega,?_⟩,Sub.gen [] r3 ⟨rfl,rfl,trivial⟩ ⟨rfl,rfl,rfl,rfl,rfl,rfl,trivial⟩ (by simp[ScH,Blk.scopd,At.sc]) (by simp[ScE,SV.sc,At.sc]) (by rfl) (fun lo hi h=>h),by dsimp only;omega⟩
   dsimp only
   rw[←hD,subD_elim (M:=M1) hlen (Nat.le_refl n) (by omega) hcb h0 (Nat.le_refl n),hqf,Rat.mul_assoc]
  have hkb:k=n:=Nat.le_antisymm hk (by simpa using hkb)
  subst hkb
  conv=>whnf
  refine BrS.mk (fun _=>?_) (fun hne=>by simp at hne)
  conv=>whnf
  refine callE_S (callE_con (Φ:=fun _ w' v w2=>FracR w2 (Nw (fun _=>False) w' w2) v ((0:Int):Rat)) (fun ρ w' r=>whole_c 0 w' (by decide) (by decide)) ?_)
  rintro ρ wa11 v11 wb11 r he hb hn
  replace hw:=hw.tr hb
  have hZ:=hn.got (S:=fun _=>False) r.baseLe (iv:=(wa11.heap.size,wb11.heap.size)::iv) List.mem_cons_self
  clear r he hb hn
  generalize (wa11.heap.size,wb11.heap.size)::iv=iv11 at*
  obtain⟨s11_0,s11_1,s11_2,s11_3,s11_4,s11_5,s11_6,s11_7,rfl⟩:=hZ.shape
  conv=>whnf
  intro ρe we re
  refine⟨_,rfl,hw.tr re.bel,?_⟩
  rw[←hD,subD_zero hcb hz,Rat.mul_zero]
  exact hZ.out re (oldF w)
 have hcb:c=n:=Nat.le_antisymm hc (by simpa using hcb)
 subst hcb
 rw[subD_done,Rat.mul_one]at hD
 conv=>whnf
 intro ρe we re
 refine⟨_,rfl,hw.tr re.bel,?_⟩
 rw[←hD]
 exact(hO.relL re (oldF w)).weak fun g hg=>Cv.nw hg.1 re
end Go.Ex

/- Leading minors of package exact. Printed by program. No condition but sizes. -/
namespace Go.Ex
open Go Go.Sx Go.Proofs

end Go.Ex
namespace Go.Sx
open Go Go.Ex Go.Proofs
theorem Sub.trans{B nx:Nat}{l:Env}{ρ:Nat→Sx.Val}{w':World}{t t2:LoopI}(h:Sub B l nx ρ w' t)(k:∀ρ1,Rel t.H t.nx t.iv B t.w ρ1 w'→Sub B t.l t.nx ρ1 w' t2):Sub B l nx ρ w' t2:=by
 obtain⟨ρ1,r1,e1⟩:=h
 obtain⟨ρ2,r2,e2⟩:=k ρ1 r1
 exact⟨ρ2,r2,fun u v hv=>by
  obtain⟨s,v1,g1,d1⟩:=e2 u v hv
  obtain⟨_,v0,g0,d0⟩:=e1 u v1 g1
  exact⟨s,v0,g0,d0.trans d1⟩⟩
end Go.Sx
namespace Go.Ex
open Go Go.Sx Go.Proofs
section
variable{S:Nat→Prop}{H:Hp}{nx gm R:Nat}{iv iv':Iv}{B:Nat}{w w' w2:World}{ρ:Nat→Sx.Val}{rv:List Value}{css:List (List Value)}{qs:List Rat}
theorem Fr.relL(h:Fr w (Lm' S B iv gm R rv) css qs)(r:Rel H nx iv B w ρ w')(hS:∀g,S g→g<B):Fr w' (Lm' S B iv gm R rv) css qs:=h.keep fun _ hg=>Rel.same r hS hg.1
theorem Fr.pastL(h:Fr w (Lm' S B iv gm R rv) css qs)(r:Rel H nx iv B w ρ w')(hS:∀g,S g→g<B)(he:Ext w' w2)(hm:∀p,p∈iv→p∈iv'):Fr w2 (Lm' S B iv' gm R rv) css qs:=
 ((h.relL r hS).keep fun g hg=>he.block g (Rel.old r hS g hg.1)).weak fun _ hg=>⟨hg.1.mono hm,hg.2⟩
theorem Fr.push(h:Fr w S css qs){cs:List Value}{q:Rat}(hq:Frac4 w S cs q):Fr w S (css++[cs]) (qs++[q]):=by
 refine⟨by simp[h.1],fun j c x h1 h2=>?_⟩
 rcases Nat.lt_or_ge j css.length with hj|hj
 ·rw[List.getElem?_append_left hj]at h1
  rw[List.getElem?_append_left (by rw[←h.1];exact hj)]at h2
  exact h.2 j c x h1 h2
 ·rw[List.getElem?_append_right hj]at h1
  rw[List.getElem?_append_right (by rw[←h.1];exact hj),←h.1]at h2
  have:j-css.length=0:=by have:=(List.getElem?_eq_some_iff.1 h1).1;simp at this;omega
  rw[this]at h1 h2
  injection h1 with h1;injection h2 with h2
  subst h1 h2
  exact hq
end
theorem minors_c{S:Nat→Prop}{w:World}{vm:Value}{M:List (List Rat)}{h:Nat}(hS0:Old S w)(hM0:MatR w S vm M)(hrow:∀r∈M,r.length=M.length)(hR:M.length≤1000)(hht:Ht M h)(h2:2≤h)(hbd:4^M.length*h≤500000000):
  Con PG N.exact_minors #[vm] w (Ret w fun v' w2=>RowG w2 (Nw (fun _=>False) w w2) v' (minorsF M)):=by
 have hw:Bel w.heap.size w w:=Bel.refl
 have hS:=hS0
 obtain⟨am,cm,rfl,hcm,hmm⟩:=SlicesR.shape hM0
 obtain⟨R,hRe⟩:∃R,R=M.length:=⟨_,rfl⟩
 rw[←hRe]at hcm hmm hrow hR hbd hM0 ⊢
 unfold maxLen at hmm
 refine in_exact_minors (by simp) ?_
 conv=>whnf
 refine⟨R,R,rfl,rfl,Nat.le_refl _,by omega,by omega,?_⟩
 conv=>whnf
 refine⟨List Value×World×Iv,fun z=>⟨[(0,.o (.v (.slice am R cm))),(3,.o (.v (.slice none 0 0))),(4,.o (.s 0 0 R R)),(14,.o (.v (.int .i64 R))),(15,.o (.v (.int .i64 (z.1.length:Nat))))],[(0,.arr T.row (z.1++List.replicate (R-z.1.length) (.slice none 0 0)))],1,z.2.2,z.2.1⟩,fun z=>R-z.1.length,
  fun z=>z.1.length≤R∧Bel w.heap.size w z.2.1∧RowsX z.2.1 S w.heap.size z.2.2 z.1 R (M.take z.1.length)∧(∀u∈z.1,u.oneCell'=true),?_,?_⟩
 ·intro ρ w' r
  exact⟨([],w',[]),⟨Nat.zero_le _,hw.tr r.bel,by simpa using RowsX.nil _ _ _ _ _,by simp⟩,Sub.gen [] r ⟨rfl,trivial⟩ ⟨rfl,rfl,rfl,rfl,rfl,trivial⟩ (by simp[ScH,Blk.scopd,At.sc]) (by simp[ScE,SV.sc,At.sc]) (by rfl) (fun lo hi h=>h)⟩
 clear hw
 rintro⟨rv,w1,iv⟩ ⟨hi,hw,hF,h1c⟩
 dsimp only at hi hw hF h1c ⊢
 conv=>whnf
 refine BrS.mk (fun hib=>?_) (fun hib=>?_)
 ·have hib:rv.length<R:=by simpa using hib
  obtain⟨ra,hra⟩:∃r,M[rv.length]? =some r:=⟨_,List.getElem?_eq_getElem (by omega)⟩
  have hral:=hrow ra (List.mem_of_getElem? hra)
  obtain⟨adx,ux,rfl,hFx,hx1,hx2⟩:=SlicesR.load hM0 hra
  obtain⟨aux,cux,rfl,hcux,-⟩:=hFx.shape
  conv=>whnf
  refine⟨adx,rfl,⟨by omega,by omega⟩,?_⟩
  conv=>whnf
  refine⟨.slice aux ra.length cux,fun ρ w' r=>?_,?_⟩
  ·rw[Int.toNat_natCast,cell_of_heap (w:=w) (w2:=w') (by rw[addB];exact(hw.tr r.bel).block _ (hS _ hx1))]
   exact hx2
  conv=>whnf
  refine callE_S (callE_con (Φ:=fun _ w' v w2=>RowW w2 S v R ra∧∀g,v.ownBlock=some g→w'.heap.size≤g∧g<w2.heap.size) (fun ρ w' r=>?_) ?_)
  ·have:=cloneR_c (w:=w') (fun g hg=>by have:=hS g hg;have:=r.baseLe;omega) (fun g hg=>by have:=hS g hg;have:=r.baseLe;omega) (hFx.keep fun g hg=>(hw.tr r.bel).block g (hS g (hg.elim id id))) (by omega) (by omega)
   rw[hral]at this ⊢
   exact this
  rintro ρ wa1 v1 wb1 r he hb ⟨hn1,hn2⟩
  have hF2:=hF.snoc r hS he (hn1.weak fun g hg=>⟨.inl hg,fun e=>by have:=hS g hg;have:=hn2 g e;have:=r.baseLe;omega,fun⟨u,hu,e⟩=>(hF.new u hu g e).elim (fun h=>h.elim) fun h=>by have:=hS g hg;omega⟩) hn2
  rw[show M.take rv.length++[ra]=M.take (rv.length+1) by rw[List.take_add_one,hra];rfl]at hF2
  replace hw:=hw.tr hb
  obtain⟨a3,c3,rfl,-⟩:=hn1.form
  clear r he hb hn1 hn2 hF
  generalize (wa1.heap.size,wb1.heap.size)::iv=iv1 at*
  conv=>whnf
  refine⟨⟨by omega,by omega⟩,?_⟩
  conv=>whnf
  refine⟨by simp;omega,(rv++[.slice a3 R c3])++List.replicate (R-(rv.length+1)) (.slice none 0 0),?_,?_⟩
  ·have h5:R-rv.length=(R-(rv.length+1))+1:=by omega
   simp[h5,List.replicate_succ]
  conv=>whnf
  refine⟨((rv.length+1:Nat):Int),by rw[wrap64]<;>omega,?_⟩
  conv=>whnf
  intro ρ3 w3 r3
  have hl3:(rv++[Value.slice a3 R c3]).length=rv.length+1:=by simp
  refine⟨(rv++[.slice a3 R c3],w3,iv1),⟨by dsimp only;rw[hl3];exact hib,hw.tr r3.bel,by dsimp only;rw[hl3];exact hF2.rel r3 hS,fun u hu=>?_⟩,Sub.gen [] r3 ⟨by dsimp only;rw[hl3];rfl,trivial⟩ ⟨rfl,rfl,rfl,rfl,by dsimp only;rw[hl3];rfl,trivial⟩ (by simp[ScH,Blk.scopd,At.sc]) (by simp[ScE,SV.sc,At.sc]) (by rfl) (fun lo hi h=>h),by dsimp only;rw[hl3];omega⟩
  rcases List.mem_append.1 hu with hu|hu
  ·exact h1c u hu
  ·simp at hu;subst hu;rfl
 have hib:rv.length=R:=Nat.le_antisymm hi (by simpa using hib)
 rw[hib,List.take_of_length_le (by omega)]at hF
 rw[hib,Nat.sub_self,List.replicate_zero,List.append_nil]
 conv=>whnf
 refine callE_S (callE_con (Φ:=fun _ w' v w2=>FracR w2 (Nw (fun _=>False) w' w2) v ((1:Int):Rat)) (fun ρ w' r=>whole_c 1 w' (by decide) (by decide)) ?_)
 rintro ρ wa1 v1 wb1 r he hb hn
 replace hw:=hw.tr hb
 have hO:=hn.lim (rv:=rv) r fun u hu g hg=>hF.new u hu g hg
 replace hF:RowsX wb1 S w.heap.size ((wa1.heap.size,wb1.heap.size)::iv) rv R M:=hF.past r hS he fun x hx=>List.mem_cons_of_mem _ hx
 clear r he hb hn
 generalize (wa1.heap.size,wb1.heap.size)::iv=iv1 at*
 obtain⟨s1_0,s1_1,s1_2,s1_3,s1_4,s1_5,s1_6,s1_7,rfl⟩:=hO.shape
 rw[show ((1:Int):Rat)=1 by decide]at hO
 conv=>whnf
 refine⟨Nat×(Nat×List Value×List (List Rat)×Rat)×List (List Value)×((Bool×Bool)×(Option Addr×Option Addr)×(Nat×Nat×Nat×Nat))×World×Iv,fun z=>⟨[(4,.o (.v (.slice (some ⟨z.2.1.1,0,none⟩) R R))),(3,.o (.w 2 z.2.2.1.length)),(0,.o (.v (.slice am R cm))),(6,.o (.p 1 0)),(29,.o (.v (.int .i64 R))),(30,.o (.v (.int .i64 ((z.1:Nat):Int))))],[(2,.vec T.fraction 4 z.2.2.1.flatten),(1,.box T.fraction [.v (.bool z.2.2.2.1.1.1),.v (.slice z.2.2.2.1.2.1.1 z.2.2.2.1.2.2.1 z.2.2.2.1.2.2.2.1),.v (.bool z.2.2.2.1.1.2),.v (.slice z.2.2.2.1.2.1.2 z.2.2.2.1.2.2.2.2.1 z.2.2.2.1.2.2.2.2.2)])],3,z.2.2.2.2.2,z.2.2.2.2.1⟩,fun z=>R-z.1,
  fun z=>z.1≤R∧Bel w.heap.size w z.2.2.2.2.1∧MatO z.2.2.2.2.1 S w.heap.size z.2.2.2.2.2 z.2.1.1 R R z.2.1.2.1 z.2.1.2.2.1∧FracR z.2.2.2.2.1 (Lm' (fun _=>False) w.heap.size z.2.2.2.2.2 z.2.1.1 R z.2.1.2.1) (.agg #[.bool z.2.2.2.1.1.1,.slice z.2.2.2.1.2.1.1 z.2.2.2.1.2.2.1 z.2.2.2.1.2.2.2.1,.bool z.2.2.2.1.1.2,.slice z.2.2.2.1.2.1.2 z.2.2.2.1.2.2.2.2.1 z.2.2.2.1.2.2.2.2.2]) z.2.1.2.2.2∧Fr z.2.2.2.2.1 (Lm' (fun _=>False) w.heap.size z.2.2.2.2.2 z.2.1.1 R z.2.1.2.1) z.2.2.1 ((minorsF M).take z.1)∧Len R z.2.1.2.2.1∧Ht z.2.1.2.2.1 (4^z.1*h)∧rl z.2.1.2.2.2≤4^z.1*h∧∀k,z.1≤k→k≤R→z.2.1.2.2.2*subD z.2.1.2.2.1 z.1 k=subD M 0 k,?_,?_⟩
 ·intro ρ w' r
  have hnil:=r.nn 0 _ rfl (by intros;simp) (by simp)
  have hG:=hF.give r hS (id:=0) rfl hnil (by unfold maxLen;omega) h1c
  rw[hib]at hG
  refine⟨(0,((ρ 0).g,rv,M,1),[],((s1_0,s1_4),(s1_1,s1_5),(s1_2,s1_3,s1_6,s1_7)),w',((ρ 0).g,(ρ 0).g+1)::iv1),⟨Nat.zero_le _,hw.tr r.bel,hG,(hO.keep fun g hg=>Rel.same r (oldF w) hg.1).weak fun g hg=>⟨hg.1.mono fun p hp=>List.mem_cons_of_mem _ hp,fun hm=>?_⟩,by simp[Fr],hrow,by rw[Nat.pow_zero,Nat.one_mul];exact hht,by rw[rl_one,Nat.pow_zero];omega,fun k _ _=>Rat.one_mul _⟩,
   Sub.trans (Sub.give (tl:=[(3,.o (.v (.slice none 0 0))),(0,.o (.v (.slice am R cm))),(6,.o (.p 1 0)),(29,.o (.v (.int .i64 R))),(30,.o (.v (.int .i64 ((0:Nat):Int))))]) (tH:=[(1,.box T.fraction [.v (.bool s1_0),.v (.slice s1_1 s1_2 s1_3),.v (.bool s1_4),.v (.slice s1_5 s1_6 s1_7)])]) r (id:=0) (t:=4) rfl rfl ⟨rfl,trivial⟩ rfl ⟨rfl,rfl,rfl,rfl,rfl,trivial⟩ (by simp[ScE,SV.sc,At.sc])) fun ρ1 r1=>
    Sub.nil 3 T.fraction 4 rfl (by simp[ScE,SV.sc,At.sc]) r1 fun ρ2 r2=>Sub.gen [] r2 ⟨rfl,rfl,trivial⟩ ⟨rfl,rfl,rfl,rfl,rfl,rfl,trivial⟩ (by simp[ScH,Blk.scopd,At.sc]) (by simp[ScE,SV.sc,At.sc]) (by rfl) (fun lo hi h=>h)⟩
  rcases hm with hm|⟨u,hu,hm⟩
  ·injection hm with hm
   exact Rel.not r (oldF w) hg.1 0 _ rfl hnil hm
  ·exact hg.2 ⟨u,hu,hm⟩
 clear hw hF hO hib hi h1c
 rintro⟨c,⟨gm,rv1,M1,q0⟩,css,⟨⟨p0,p4⟩,⟨p1,p5⟩,⟨p2,p3,p6,p7⟩⟩,w1,iv⟩ ⟨hc,hw,hM,hO,hC,hlen,hht1,hql,hD⟩
 dsimp only at hc hw hM hO hC hlen hht1 hql hD ⊢
 have hfl:=flat_len hC.len4
 have hmf:=minorsF_length M
 have hcl:css.length=c:=by rw[hC.1,List.length_take];omega
 rw[hcl]at hfl
 conv=>whnf
 refine BrS.mk (fun hcb=>?_) (fun hcb=>?_)
 ·have hcb:c<R:=by simpa using hcb
  have hHb:4^(c+1)*h≤500000000:=Nat.le_trans (Nat.mul_le_mul_right _ (Nat.pow_le_pow_right (by decide) hcb)) hbd
  have hpow:4^(c+1)*h=4*(4^c*h):=by rw[Nat.pow_succ,Nat.mul_comm (4^c) 4,Nat.mul_assoc]
  have hH2:2≤4^c*h:=Nat.le_trans h2 (Nat.le_mul_of_pos_left _ (Nat.pow_pos (by decide)))
  rw[hpow]at hHb
  obtain⟨hh,hhe⟩:∃x,x=4^c*h:=⟨_,rfl⟩
  rw[←hhe]at hht1 hql hH2 hHb hpow
  have hM1l:=hM.len
  obtain⟨gk,cd,qd,d1,d2,d3,d4,d5,d6,d7,d8,hEd,hgd⟩:=hM.elemR (k:=c) (c:=c) (by omega) (by omega)
  conv=>whnf
  refine⟨⟨gm,0,none⟩,rfl,⟨by omega,by omega⟩,?_⟩
  conv=>whnf
  refine⟨_,fun ρ w' r=>hM.cell r (.inl (by rw[addB];rfl)) hEd.outer,?_⟩
  conv=>whnf
  refine⟨⟨gk,0,none⟩,rfl,⟨by omega,by omega⟩,?_⟩
  conv=>whnf
  refine⟨[.bool d1,.slice d2 d3 d4,.bool d5,.slice d6 d7 d8],rfl,fun ρ w' r j x hx=>hM.cell r (by rw[addB,addB];exact hgd) (hEd.cells j x hx),?_⟩
  conv=>whnf
  have hqd:=hEd.at_
  refine callE_S (callE_con (Φ:=fun _ w' v w2=>v= .int .i64 (rs qd)) (fun ρ w' r=>fsign_c (Lm'.old r hS) (hEd.frac.relL r hS)) ?_)
  rintro ρ wa11 v11 wb11 r he hb rfl
  replace hw:=hw.tr hb
  replace hM:=MatO.past (iv':=(wa11.heap.size,wb11.heap.size)::iv) hM r hS he fun x hx=>List.mem_cons_of_mem _ hx
  replace hO:=FracR.pastL (iv':=(wa11.heap.size,wb11.heap.size)::iv) hO r (oldF w) he fun x hx=>List.mem_cons_of_mem _ hx
  replace hC:=Fr.pastL (iv':=(wa11.heap.size,wb11.heap.size)::iv) hC r (oldF w) he fun x hx=>List.mem_cons_of_mem _ hx
  clear r he hb
  generalize (wa11.heap.size,wb11.heap.size)::iv=iv11 at*
  clear hEd hgd
  conv=>whnf
  refine BrS.mk (fun hs=>?_) (fun hs=>?_)
  ·clear hs hqd
   conv=>whnf
   refine⟨((c+1:Nat):Int),by rw[wrap64]<;>omega,?_⟩
   conv=>whnf
   refine⟨Nat×List (List Value)×World×Iv,fun z=>⟨[(3,.o (.w 2 z.2.1.length)),(0,.o (.v (.slice am R cm))),(8,.o (.v (.int .i64 ((z.1:Nat):Int))))],[(2,.vec T.fraction 4 z.2.1.flatten)],3,z.2.2.2,z.2.2.1⟩,fun z=>R+1-z.1,
    fun z=>c<z.1∧z.1≤R+1∧Bel w.heap.size w z.2.2.1∧Fr z.2.2.1 (Cv (fun _=>False) w.heap.size z.2.2.2) z.2.1 ((minorsF M).take (z.1-1)),?_,?_⟩
   ·intro ρ w' r
    exact⟨(c+1,css,w',_),⟨Nat.lt_succ_self _,by dsimp only;omega,hw.tr r.bel,by dsimp only;rw[Nat.add_sub_cancel];exact(Fr.relL hC r (oldF w)).weak fun g hg=>hg.1⟩,Sub.gen [] r ⟨rfl,trivial⟩ ⟨rfl,rfl,rfl,trivial⟩ (by simp[ScH,Blk.scopd,At.sc]) (by simp[ScE,SV.sc,At.sc]) (by rfl) (fun lo hi h=>h)⟩
   clear hw hM hO hC hfl hcl
   rintro⟨k,css,w2,iv⟩ ⟨hck,hk,hw,hC⟩
   dsimp only at hck hk hw hC ⊢
   have hfl:=flat_len hC.len4
   have hcl:css.length=k-1:=by rw[hC.1,List.length_take];omega
   conv=>whnf
   refine BrS.mk (fun hkb=>?_) (fun hkb=>?_)
   ·have hkb:k≤R:=by have:(k:Int)≤R:=(by simpa using hkb);omega
    conv=>whnf
    refine callE_S (callE_con (Φ:=fun _ w' v w2=>FracR w2 (Nw (fun _=>False) w' w2) v (subD M 0 k)) (fun ρ w' r=>det_c (h:=h) (fun g hg=>by have:=hS g hg;have:=r.baseLe;omega) (MatG.keep hM0 (fun g hg=>(hw.tr r.bel).block g (hS g hg))) hrow hkb (by omega) (by omega) hht h2 (Nat.le_trans (Nat.mul_le_mul_right _ (Nat.pow_le_pow_right (by decide) hkb)) hbd)) ?_)
    rintro ρ wa21 v21 wb21 r he hb hn
    replace hw:=hw.tr hb
    replace hC:=hC.past (iv':=(wa21.heap.size,wb21.heap.size)::iv) r (oldF w) he fun x hx=>List.mem_cons_of_mem _ hx
    have hd:=hn.got (S:=fun _=>False) r.baseLe (iv:=(wa21.heap.size,wb21.heap.size)::iv) List.mem_cons_self
    clear r he hb hn
    generalize (wa21.heap.size,wb21.heap.size)::iv=iv21 at*
    obtain⟨s21_0,s21_1,s21_2,s21_3,s21_4,s21_5,s21_6,s21_7,rfl⟩:=hd.shape
    conv=>whnf
    have hC2:Fr wb21 (Cv (fun _=>False) w.heap.size iv21) (css++[[.bool s21_0,.slice s21_1 s21_2 s21_3,.bool s21_4,.slice s21_5 s21_6 s21_7]]) ((minorsF M).take k):=by
     obtain⟨d,rfl⟩:∃d,k=d+1:=⟨k-1,by omega⟩
     rw[List.take_add_one,minorsF_get (by omega)]
     exact hC.push hd.four
    have hfl2:css.flatten++([.bool s21_0,.slice s21_1 s21_2 s21_3,.bool s21_4,.slice s21_5 s21_6 s21_7]:List Value)=(css++([[.bool s21_0,.slice s21_1 s21_2 s21_3,.bool s21_4,.slice s21_5 s21_6 s21_7]]:List (List Value))).flatten:=by simp
    clear hC hd
    refine .inl ?_
    conv=>whnf
    refine⟨by omega,by omega,by unfold maxLen;omega,?_⟩
    conv=>whnf
    refine⟨((k+1:Nat):Int),by rw[wrap64]<;>omega,?_⟩
    conv=>whnf
    intro ρ3 w3 r3
    exact⟨(k+1,css++[[.bool s21_0,.slice s21_1 s21_2 s21_3,.bool s21_4,.slice s21_5 s21_6 s21_7]],w3,_),⟨by dsimp only;omega,by dsimp only;omega,hw.tr r3.bel,by dsimp only;rw[Nat.add_sub_cancel];exact hC2.rel r3 (oldF w)⟩,Sub.gen [(2,4)] r3 ⟨by dsimp only;rw[←hfl2];rfl,trivial⟩ ⟨by dsimp only;rw[List.length_append,List.length_singleton];rfl,rfl,rfl,trivial⟩ (by simp[ScH,Blk.scopd,At.sc]) (by simp[ScE,SV.sc,At.sc]) (by rfl) (fun lo hi h=>h),by dsimp only;omega⟩
   have hkb:k=R+1:=by have:¬(k:Int)≤R:=(by simpa using hkb);omega
   conv=>whnf
   intro ρe we re
   refine⟨_,rfl,hw.tr re.bel,?_⟩
   have h5:=re.vecSeq (id:=2) (sz:=4) (m:=css.length) rfl hfl (by unfold maxLen;omega) (by decide) hC.one
   have h6:=hC.rel re (oldF w)
   rw[List.take_of_length_le (by omega)]at h6
   refine⟨css,?_,h6.weak fun _ hg=>Cv.nw hg re⟩
   rw[←h6.1]
   exact h5.weak fun g hg=>.inr hg
  have h0:at2 M1 c c≠0:=fun e=>by rw[←hqd,rs_zero.2 e]at hs;simp at hs
  clear hs hqd
  conv=>whnf
  obtain⟨gf,cf,qf,f1,f2,f3,f4,f5,f6,f7,f8,hEf,hgf⟩:=hM.elemR (k:=c) (c:=c) (by omega) (by omega)
  have hqf:qf=at2 M1 c c:=hEf.at_.symm
  have hlf:=at2_ht' hht1 hH2 c c
  rw[←hqf]at hlf h0
  have hlm:=rl_mul q0 qf
  conv=>whnf
  refine drawn_of_pi hτ hmix [.x 0,.x 1,.x 2,.x 3,.x 4,.x 5,.x 6,.x 7,.x 8,.x 9] (by kernel_rfl) (by kernel_rfl) ?_
  conv=>whnf
  refine⟨⟨gm,0,none⟩,rfl,⟨by omega,by omega⟩,?_⟩
  conv=>whnf
  refine⟨_,fun ρ w' r=>hM.cell r (.inl (by rw[addB];rfl)) hEf.outer,?_⟩
  conv=>whnf
  refine⟨⟨gf,0,none⟩,rfl,⟨by omega,by omega⟩,?_⟩
  conv=>whnf
  refine⟨[.bool f1,.slice f2 f3 f4,.bool f5,.slice f6 f7 f8],rfl,fun ρ w' r j x hx=>hM.cell r (by rw[addB,addB];exact hgf) (hEf.cells j x hx),?_⟩
  conv=>whnf
  refine callE_con (Φ:=fun _ w' v w2=>FracR w2 (Nw (fun _=>False) w' w2) v (q0*qf)) (fun ρ w' r=>ftimes_c (Lm'.old r hS) (FracR.weak (hO.relL r (oldF w)) fun _ hg=>(⟨cvF hg.1,hg.2⟩:Lm' S _ _ _ _ _ _)) (hEf.frac.relL r hS) (by omega) (by omega)) ?_
  rintro ρ wa12 v12 wb12 r he hb hn
  replace hw:=hw.tr hb
  have hO9:=hn.beside (S0:=fun _=>False) hM r
  replace hM:=MatO.past (iv':=(wa12.heap.size,wb12.heap.size)::iv11) hM r hS he fun x hx=>List.mem_cons_of_mem _ hx
  replace hC:=Fr.pastL (iv':=(wa12.heap.size,wb12.heap.size)::iv11) hC r (oldF w) he fun x hx=>List.mem_cons_of_mem _ hx
  clear r he hb hn
  generalize (wa12.heap.size,wb12.heap.size)::iv11=iv12 at*
  clear hEf hgf hO
  have hO:=hO9
  clear hO9
  obtain⟨s12_0,s12_1,s12_2,s12_3,s12_4,s12_5,s12_6,s12_7,rfl⟩:=hO.shape
  conv=>whnf
  have hval:q0*qf=subD M 0 (c+1):=by
   rw[←hD (c+1) (by omega) (by omega),subD_elim (M:=M1) hlen (n:=c+1) (by omega) (by omega) (by omega) (hqf▸h0) (Nat.le_refl _),subD_done,Rat.mul_one,hqf]
  obtain⟨css2,hcss⟩:∃x,x=css++[[.bool s12_0,.slice s12_1 s12_2 s12_3,.bool s12_4,.slice s12_5 s12_6 s12_7]]:=⟨_,rfl⟩
  have hC2:=hC.push hO.four
  rw[←hcss,hval,show(minorsF M).take c++[subD M 0 (c+1)]=(minorsF M).take (c+1) by rw[List.take_add_one,minorsF_get (by omega)];rfl]at hC2
  have hfl2:css.flatten++([.bool s12_0,.slice s12_1 s12_2 s12_3,.bool s12_4,.slice s12_5 s12_6 s12_7]:List Value)=css2.flatten:=by rw[hcss];simp
  have hcl2:css2.length=css.length+1:=by rw[hcss];simp
  clear hC
  have hC:=hC2
  clear hC2
  refine .inl ?_
  conv=>whnf
  refine⟨by omega,by omega,by unfold maxLen;omega,?_⟩
  conv=>whnf
  refine⟨((c+1:Nat):Int),by rw[wrap64]<;>omega,?_⟩
  conv=>whnf
  have hht:=hht1
  rw[hqf]at h0
  refine⟨Nat×World×Iv,fun z=>⟨[(4,.o (.v (.slice (some ⟨gm,0,none⟩) R R))),(3,.o (.w 2 css2.length)),(0,.o (.v (.slice am R cm))),(6,.o (.p 1 0)),(29,.o (.v (.int .i64 R))),(30,.o (.v (.int .i64 ((c:Nat):Int)))),(7,.o (.v (.int .i64 ((c:Nat):Int)))),(9,.o (.v (.int .i64 ((z.1:Nat):Int))))],[(2,.vec T.fraction 4 css2.flatten),(1,.box T.fraction [.v (.bool s12_0),.v (.slice s12_1 s12_2 s12_3),.v (.bool s12_4),.v (.slice s12_5 s12_6 s12_7)])],3,z.2.2,z.2.1⟩,fun z=>R-z.1,
   fun z=>c<z.1∧z.1≤R∧Bel w.heap.size w z.2.1∧MatO z.2.1 S w.heap.size z.2.2 gm R R rv1 (elimTo M1 c z.1)∧FracR z.2.1 (Lm' (fun _=>False) w.heap.size z.2.2 gm R rv1) (.agg #[.bool s12_0,.slice s12_1 s12_2 s12_3,.bool s12_4,.slice s12_5 s12_6 s12_7]) (q0*qf)∧Fr z.2.1 (Lm' (fun _=>False) w.heap.size z.2.2 gm R rv1) css2 ((minorsF M).take (c+1)),?_,?_⟩
  ·intro ρ w' r
   exact⟨(c+1,w',_),⟨Nat.lt_succ_self _,by dsimp only;omega,hw.tr r.bel,by rw[elimTo_start _ _ _ (Nat.le_refl _)];exact hM.rel r hS,hO.relL r (oldF w),Fr.relL hC r (oldF w)⟩,
    Sub.gen [(2,4)] r ⟨by rw[←hfl2];rfl,rfl,trivial⟩ ⟨rfl,by rw[hcl2];rfl,rfl,rfl,rfl,rfl,rfl,rfl,trivial⟩ (by simp[ScH,Blk.scopd,At.sc]) (by simp[ScE,SV.sc,At.sc]) (by rfl) (fun lo hi h=>h)⟩
  clear hw hM hO hC
  rintro⟨i,w7,iv⟩ ⟨hci,hi,hw,hM,hO,hC⟩
  dsimp only at hci hi hw hM hO hC ⊢
  conv=>whnf
  refine BrS.mk (fun hib=>?_) (fun hib=>?_)
  ·have hib:i<R:=by simpa using hib
   obtain⟨ri,hri⟩:∃r,M1[i]? =some r:=⟨_,List.getElem?_eq_getElem (by omega)⟩
   obtain⟨rc,hrc⟩:∃r,M1[c]? =some r:=⟨_,List.getElem?_eq_getElem (by omega)⟩
   have hri2:(elimTo M1 c i)[i]? =some ri:=by rw[elimTo_at _ _ _ _ (.inr (Nat.le_refl _))];exact hri
   have hrc2:(elimTo M1 c i)[c]? =some rc:=by rw[elimTo_at _ _ _ _ (.inl (Nat.le_refl _))];exact hrc
   obtain⟨gi,cd,qd,d1,d2,d3,d4,d5,d6,d7,d8,hEd,hgd⟩:=hM.elemR (k:=i) (c:=c) (by omega) (by omega)
   obtain⟨gc,ce,qe,e1,e2,e3,e4,e5,e6,e7,e8,hEe,hge⟩:=hM.elemR (k:=c) (c:=c) (by omega) (by omega)
   have hqd:qd=ri.getD c 0:=by
    rw[←hEd.at_];unfold at2
    rw[show (elimTo M1 c i).getD i []=ri by simp only[List.getD,hri2,Option.getD_some]]
   have hqe:qe=at2 M1 c c:=by rw[←hEe.at_,elimTo_at2' (.inl (Nat.le_refl _))]
   have hdi:=hht.at hri
   have hdc:=hht.at hrc
   have hl1:=rl_getD hdi (by omega) c
   have hl2:=at2_ht' hht (by omega) c c
   rw[←hqd]at hl1
   rw[←hqe]at hl2
   have hqe0:qe≠0:=hqe▸h0
   have hl3:=rl_div qd hqe0
   have hl4:=rl_neg (qd / qe)
   have hvd:=hEd.rv
   have hve:=hEe.rv
   conv=>whnf
   refine drawn_of_pi hτ hmix [.x 0,.x 1,.x 2,.x 3,.x 4,.x 5,.x 6,.x 7,.x 8,.x 9,.x 10,.x 11,.x 12,.x 13,.x 14,.x 15,.x 16,.x 17,.x 20,.x 21,.x 22,.x 23,.x 18,.x 19,.x 24] (by kernel_rfl) (by kernel_rfl) ?_
   conv=>whnf
   refine⟨⟨gm,0,none⟩,rfl,⟨by omega,by omega⟩,?_⟩
   conv=>whnf
   refine⟨_,fun ρ w' r=>hM.cell r (.inl (by rw[addB];rfl)) hEd.outer,?_⟩
   conv=>whnf
   refine⟨⟨gm,0,none⟩,rfl,⟨by omega,by omega⟩,?_⟩
   conv=>whnf
   refine⟨_,fun ρ w' r=>hM.cell r (.inl (by rw[addB];rfl)) hEd.outer,?_⟩
   conv=>whnf
   refine⟨⟨gi,0,none⟩,rfl,⟨by omega,by omega⟩,?_⟩
   conv=>whnf
   refine⟨[.bool d1,.slice d2 d3 d4,.bool d5,.slice d6 d7 d8],rfl,fun ρ w' r j x hx=>hM.cell r (by rw[addB,addB];exact hgd) (hEd.cells j x hx),?_⟩
   conv=>whnf
   refine⟨⟨gm,0,none⟩,rfl,⟨by omega,by omega⟩,?_⟩
   conv=>whnf
   refine⟨_,fun ρ w' r=>hM.cell r (.inl (by rw[addB];rfl)) hEe.outer,?_⟩
   conv=>whnf
   refine⟨⟨gc,0,none⟩,rfl,⟨by omega,by omega⟩,?_⟩
   conv=>whnf
   refine⟨[.bool e1,.slice e2 e3 e4,.bool e5,.slice e6 e7 e8],rfl,fun ρ w' r j x hx=>hM.cell r (by rw[addB,addB];exact hge) (hEe.cells j x hx),?_⟩
   conv=>whnf
   refine⟨⟨gm,0,none⟩,rfl,⟨by omega,by omega⟩,?_⟩
   conv=>whnf
   refine⟨_,fun ρ w' r=>hM.cell r (.inl (by rw[addB];rfl)) hEe.outer,?_⟩
   conv=>whnf
   refine callE_con (Φ:=fun _ w' v w2=>FracR w2 (Nw (fun _=>False) w' w2) v (qd / qe)) (fun ρ w' r=>fby_c (Lm'.old r hS) (hEd.frac.relL r hS) (hEe.frac.relL r hS) (by omega) (by omega) hqe0) ?_
   rintro ρ wa13 v13 wb13 r he hb hn
   replace hw:=hw.tr hb
   have hB:=hn.beside (S0:=S) hM r
   replace hM:=MatO.past (iv':=(wa13.heap.size,wb13.heap.size)::iv) hM r hS he fun x hx=>List.mem_cons_of_mem _ hx
   replace hO:=FracR.pastL (iv':=(wa13.heap.size,wb13.heap.size)::iv) hO r (oldF w) he fun x hx=>List.mem_cons_of_mem _ hx
   replace hC:=Fr.pastL (iv':=(wa13.heap.size,wb13.heap.size)::iv) hC r (oldF w) he fun x hx=>List.mem_cons_of_mem _ hx
   clear r he hb hn
   generalize (wa13.heap.size,wb13.heap.size)::iv=iv13 at*
   clear hEd hEe hgd hge
   obtain⟨s13_0,s13_1,s13_2,s13_3,s13_4,s13_5,s13_6,s13_7,rfl⟩:=hB.shape
   conv=>whnf
   refine callE_con (Φ:=fun _ w' v w2=>FracR w2 (Nw (Lm' S w.heap.size iv13 gm R rv1) w' w2) v (-(qd / qe))) (fun ρ w' r=>fminus_c (Lm'.old r hS) (hB.relL r hS)) ?_
   rintro ρ wa14 v14 wb14 r he hb hn
   replace hw:=hw.tr hb
   have hB2:=hn.besideL hM r
   replace hM:=MatO.past (iv':=(wa14.heap.size,wb14.heap.size)::iv13) hM r hS he fun x hx=>List.mem_cons_of_mem _ hx
   replace hO:=FracR.pastL (iv':=(wa14.heap.size,wb14.heap.size)::iv13) hO r (oldF w) he fun x hx=>List.mem_cons_of_mem _ hx
   replace hC:=Fr.pastL (iv':=(wa14.heap.size,wb14.heap.size)::iv13) hC r (oldF w) he fun x hx=>List.mem_cons_of_mem _ hx
   clear r he hb hn
   generalize (wa14.heap.size,wb14.heap.size)::iv13=iv14 at*
   clear hB
   obtain⟨s14_0,s14_1,s14_2,s14_3,s14_4,s14_5,s14_6,s14_7,rfl⟩:=hB2.shape
   conv=>whnf
   refine⟨fun ρ w' r=>?_⟩
   refine(hM.add_c r hS (by unfold maxLen;omega) (Nat.ne_of_gt hci) hvd hve hri2 hrc2 hB2 (fun q hq=>by have:=hdi q hq;omega) (fun q hq=>by have:=hdc q hq;omega) (by omega)).mono fun e w8 he=>?_
   obtain⟨rfl,hgr,hmi,hM2⟩:=he
   have hw2:=(hw.tr r.bel).tr (hM.bel r hgr hmi)
   have hO2:=hO.keep (Lm'.grown r (oldF w) hgr hmi)
   replace hO2:=hO2.weak (S':=Lm' (fun _=>False) w.heap.size ((w'.heap.size,w8.heap.size)::iv14) gm R rv1) fun _ hg=>⟨hg.1.mono fun p hp=>List.mem_cons_of_mem _ hp,hg.2⟩
   have hC2:=(hC.keep (Lm'.grown r (oldF w) hgr hmi)).weak (S':=Lm' (fun _=>False) w.heap.size ((w'.heap.size,w8.heap.size)::iv14) gm R rv1) fun _ hg=>⟨hg.1.mono fun p hp=>List.mem_cons_of_mem _ hp,hg.2⟩
   refine⟨.tuple #[],_,(w'.heap.size,w8.heap.size)::iv14,rfl,r.rowedNew (fun x hx=>Rel.not r (oldF' _) (hM.blk x (hmi x hx))) hgr,?_⟩
   rw[hqd,hqe,show rc=M1.getD c [] by rw[List.getD,hrc];rfl,elimTo_succ hri hci]at hM2
   clear hM hO hw hgr hmi r hB2 hC
   generalize (w'.heap.size,w8.heap.size)::iv14=iv9 at*
   conv=>whnf
   refine⟨((i+1:Nat):Int),by rw[wrap64]<;>omega,?_⟩
   conv=>whnf
   intro ρ3 w3 r3
   exact⟨(i+1,w3,_),⟨by dsimp only;omega,hib,hw2.tr r3.bel,hM2.rel r3 hS,hO2.relL r3 (oldF w),Fr.relL hC2 r3 (oldF w)⟩,
    Sub.gen [] r3 ⟨rfl,rfl,trivial⟩ ⟨rfl,rfl,rfl,rfl,rfl,rfl,rfl,rfl,trivial⟩ (by simp[ScH,Blk.scopd,At.sc]) (by simp[ScE,SV.sc,At.sc]) (by rfl) (fun lo hi h=>h),by dsimp only;omega⟩
  have hib:i=R:=Nat.le_antisymm hi (by simpa using hib)
  rw[hib]at hM
  conv=>whnf
  refine⟨((c+1:Nat):Int),by rw[wrap64]<;>omega,?_⟩
  conv=>whnf
  intro ρ3 w3 r3
  refine⟨(c+1,(gm,rv1,elimTo M1 c R,q0*qf),css2,((s12_0,s12_4),(s12_1,s12_5),(s12_2,s12_3,s12_6,s12_7)),w3,_),⟨hcb,hw.tr r3.bel,hM.rel r3 hS,hO.relL r3 (oldF w),Fr.relL hC r3 (oldF w),elimTo_len hlen,by dsimp only;rw[hpow];exact hht.elim hH2 h0,by dsimp only;rw[hpow];omega,fun k h3 h4=>?_⟩,Sub.gen [] r3 ⟨rfl,rfl,trivial⟩ ⟨rfl,rfl,rfl,rfl,rfl,rfl,trivial⟩ (by simp[ScH,Blk.scopd,At.sc]) (by simp[ScE,SV.sc,At.sc]) (by rfl) (fun lo hi h=>h),by dsimp only;omega⟩
  dsimp only at h3 ⊢
  rw[←hD k (by omega) h4,subD_elim (M:=M1) hlen h4 (by omega) h3 h0 h4,hqf,Rat.mul_assoc]
 have hcb:c=R:=Nat.le_antisymm hc (by simpa using hcb)
 replace hC:=hC.weak (S':=Cv (fun _=>False) w.heap.size iv) fun g hg=>hg.1
 rw[←hcl]at hfl
 conv=>whnf
 intro ρe we re
 refine⟨_,rfl,hw.tr re.bel,?_⟩
 have h5:=re.vecSeq (id:=2) (sz:=4) (m:=css.length) rfl hfl (by unfold maxLen;omega) (by decide) hC.one
 have h6:=hC.rel re (oldF w)
 rw[List.take_of_length_le (by omega)]at h6
 refine⟨css,?_,h6.weak fun _ hg=>Cv.nw hg re⟩
 rw[←h6.1]
 exact h5.weak fun g hg=>.inr hg
end Go.Ex

/- Package exact: CheckSolution. Printed by program. No condition but sizes. -/
namespace Go.Ex
open Go Go.Sx Go.Proofs

end Go.Ex

/- Regions that draw their order, by an order with branches; CheckSystem and Wider of the reference. Printed by program. No condition but sizes. -/
namespace Go.Ex
open Go Go.Sx Go.Proofs

inductive Tp where
 |nil
 |x (i:Nat) (t:Tp)
 |two (i:Nat) (t:Tp) (j:Nat) (u:Tp)
 |give (id:Nat) (t:Tp)
section
variable{P:Program}{τ:Tab}{ops:Array Oper}{B n nx:Nat}{l:Env}{H:Hp}{iv:Iv}{w w':World}{ρ:Nat→Sx.Val}{a:Act}
end
end Go.Ex

/- Elimination of a system: a contradiction is one, and the first columns alone give the same. Plain. -/
namespace Go.Ex
section
variable{M:List (List Rat)}{b:List Rat}{n:Nat}
end
end Go.Ex

/- Wider of the reference. Printed by program. No condition but sizes. -/
namespace Go.Ex
open Go Go.Sx Go.Proofs

theorem RowsV.weak{S S':Nat→Prop}{w:World}{rv:List Value}{K:List (List Rat)}(h:RowsV w S rv K)(hk:∀g,S g→S' g):RowsV w S' rv K:=⟨h.1,h.2.1,fun i u x h1 h2=>RatsL.weak (h.2.2 i u x h1 h2) hk⟩
theorem RowsV.push{S:Nat→Prop}{w:World}{rv:List Value}{K:List (List Rat)}{u:Value}{x:List Rat}(h:RowsV w S rv K)(hu:u.oneCell'=true)(hx:RatsL w S u x):RowsV w S (rv++[u]) (K++[x]):=by
 refine⟨by simp[h.1],fun v hv=>?_,fun i v y h1 h2=>?_⟩
 ·rcases List.mem_append.1 hv with hv|hv
  ·exact h.2.1 v hv
  ·simp at hv;subst hv;exact hu
 ·rcases Nat.lt_or_ge i rv.length with hi|hi
  ·rw[List.getElem?_append_left hi]at h1
   rw[List.getElem?_append_left (by rw[←h.1];exact hi)]at h2
   exact h.2.2 i v y h1 h2
  ·have hi0:i=rv.length:=by have:=(List.getElem?_eq_some_iff.1 h1).1;simp at this;omega
   subst hi0
   rw[List.getElem?_append_right (Nat.le_refl _),Nat.sub_self]at h1
   rw[h.1,List.getElem?_append_right (Nat.le_refl _),Nat.sub_self]at h2
   simp at h1 h2
   subst h1 h2
   exact hx
end Go.Ex
