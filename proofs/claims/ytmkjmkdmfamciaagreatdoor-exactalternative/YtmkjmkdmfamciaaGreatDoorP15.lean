/- A part of the proof: texts X91 to X95. Each tells its conditions in its theorems. -/
import Derived.Test.YtmkjmkdmfamciaaGreatDoorP13
import Derived.Test.YtmkjmkdmfamciaaGreatDoorP14
/- Solve, CheckSolution, Basic and IsContradiction at the sizes of the laws. Printed by program. No condition but sizes. -/
namespace Go.Ex
open Go Go.Sx Go.Proofs

/-- a list that the laws are told for -/
def SmallB(w:World)(S:Nat→Prop)(v:Value)(b:List (Int×Int)):Prop:=RatsL w S v (b.map ratioP)∧(∀q∈b.map ratioP,rl q≤3)∧Few b
theorem SmallB.keep{S:Nat→Prop}{w w2:World}{v:Value}{b:List (Int×Int)}(h:SmallB w S v b)(hk:∀g,S g→w2.heap[g]? =w.heap[g]?):SmallB w2 S v b:=⟨RatsL.keep h.1 hk,h.2⟩
theorem SmallB.weak{S S':Nat→Prop}{w:World}{v:Value}{b:List (Int×Int)}(h:SmallB w S v b)(hk:∀g,S g→S' g):SmallB w S' v b:=⟨RatsL.weak h.1 hk,h.2⟩
section
variable{S S':Nat→Prop}{H:Hp}{nx:Nat}{iv iv':Iv}{B:Nat}{w w' w2:World}{ρ:Nat→Sx.Val}{v:Value}{b:List (Int×Int)}
end

/-- numerators and denominators -/
def pairs(qs:List Rat):List (Int×Int):=qs.map fun q=>(q.num,(q.den:Int))
theorem pairs_len(qs:List Rat):(pairs qs).length=qs.length:=List.length_map ..
theorem pairs_ratio(qs:List Rat):(pairs qs).map ratioP=qs:=by
 unfold pairs
 rw[List.map_map]
 exact(List.map_congr_left fun q _=>ratio_self q).trans (List.map_id qs)
theorem RatsC.pairs{S:Nat→Prop}{w:World}{v:Value}{qs:List Rat}(h:RatsC w S v qs):RatsR w S v (pairs qs):=by
 obtain⟨css,h1,h2,h3,h4⟩:=h
 refine⟨css,by unfold Go.Ex.pairs;rw[List.length_map];exact h1,by unfold Go.Ex.pairs;rw[List.length_map];exact h2,h3,fun j cs x k1 k2=>?_⟩
 unfold Go.Ex.pairs at k2
 rw[List.getElem?_map]at k2
 obtain⟨q,hq,rfl⟩:=Option.map_eq_some_iff.1 k2
 obtain⟨b,a,n,c,b2,a2,n2,c2,rfl,hr⟩:=h4 j cs q k1 hq
 exact hr.four
theorem few_pairs{qs:List Rat}(h:∀q∈qs,rl q≤10000000000):Few (pairs qs):=fun x hx=>by
 obtain⟨q,hq,rfl⟩:=List.mem_map.1 hx
 exact⟨Nat.le_trans (rl_num q) (h q hq),Nat.le_trans (rl_den' q) (h q hq)⟩
section
variable{S:Nat→Prop}{w:World}{v u:Value}{M:List (List (Int×Int))}{b:List (Int×Int)}
theorem valsM_len(M:List (List (Int×Int))):(valsM M).length=M.length:=by simp[valsM]
theorem valsM_row(hall:∀r∈M,r.length=colsM M):Len (colsM M) (valsM M):=fun r hr=>by
 rw[valsM]at hr
 obtain⟨x,hx,rfl⟩:=List.mem_map.1 hr
 rw[List.length_map];exact hall x hx
theorem allF_ht{M:List (List Rat)}{b:List Rat}{h:Nat}(hM:Ht M h)(hb:∀q∈b,rl q+1≤h)(h2:2≤h):Ht (allF M b) h:=fun r hr q hq=>by
 obtain⟨i,hi⟩:=List.getElem?_of_mem hr
 unfold allF at hi
 rw[List.getElem?_mapIdx]at hi
 cases hx:M[i]? with
 |none=>rw[hx]at hi;cases hi
 |some x=>
  rw[hx]at hi
  injection hi with hi
  subst hi
  rcases List.mem_append.1 hq with hq|hq
  ·exact hM x (List.mem_of_getElem? hx) q hq
  ·rcases List.mem_cons.1 hq with hq|hq
   ·rw[hq];exact rl_getD hb h2 i
   ·unfold unitL at hq
    rcases List.mem_or_eq_of_mem_set hq with hq|hq
    ·rw[List.eq_of_mem_replicate hq];exact Nat.le_trans (by decide) h2
    ·rw[hq,rl_one];exact h2
end
end Go.Ex

/- CheckSolution of the reference, at the sizes of the laws. Printed by program. No condition but sizes. -/
namespace Go.Ex
open Go Go.Sx Go.Proofs

end Go.Ex

/- The law ExactAccepts. Printed by program. No condition but sizes. -/
namespace Go.Ex
open Go Go.Sx Go.Proofs

/-- Small and brief, called in a later world -/
theorem smallW_c{S:Nat→Prop}{w w':World}{v:Value}{M:List (List (Int×Int))}(hS:Old S w')(hk:∀g,S g→w'.heap[g]? =w.heap[g]?)(h:RatMR w S v M):
  Con PG N.law01_Small #[v] w' (Ret w' fun v' _=>∃d,v'= .bool d∧(d=true→SmallM w S v M)):=
 (smallM_c hS (RatMR.keep h hk)).mono fun _ _ ⟨v2,e1,e2,d,e3,e4⟩=>⟨v2,e1,e2,d,e3,fun hd=>(e4 hd).keep fun g hg=>(hk g hg).symm⟩
theorem briefW_c{S:Nat→Prop}{w w':World}{v:Value}{b:List (Int×Int)}(hS:Old S w')(hk:∀g,S g→w'.heap[g]? =w.heap[g]?)(h:RatsR w S v b):
  Con PG N.law01_brief #[v] w' (Ret w' fun v' _=>∃d,v'= .bool d∧(d=true→SmallB w S v b)):=by
 obtain⟨ks,hks,hbr⟩:=RatsR.brief h
 exact(brief_c hS (hks.keep hk)).mono fun _ _ ⟨v2,e1,e2,e3⟩=>⟨v2,e1,e2,_,e3,fun hd=>hbr (of_decide_eq_true hd)⟩
section
variable{S:Nat→Prop}{w:World}{v u vx vk vp:Value}{z:Int}{M K:List (List (Int×Int))}{b X P:List (Int×Int)}
end
end Go.Ex

/- Sums over rows: solutions of a system differ by sums of the kernel basis; a system whose right side is a combination of the columns has no contradiction. Plain. -/
namespace Go.Ex
def sumL:List Nat→(Nat→Rat)→Rat
 |[],_=>0
 |t::l,g=>g t+sumL l g
theorem sumL_congr{g h:Nat→Rat}:∀{l:List Nat},(∀t∈l,g t=h t)→sumL l g=sumL l h
 |[],_=>rfl
 |t::l,e=>by show g t+_=h t+_;rw[e t List.mem_cons_self,sumL_congr fun s hs=>e s (List.mem_cons_of_mem _ hs)]
theorem sumL_zero{g:Nat→Rat}:∀{l:List Nat},(∀t∈l,g t=0)→sumL l g=0
 |[],_=>rfl
 |t::l,e=>by show g t+_=0;rw[e t List.mem_cons_self,sumL_zero fun s hs=>e s (List.mem_cons_of_mem _ hs),Rat.add_zero]
theorem sumL_append(g:Nat→Rat):∀l k:List Nat,sumL (l++k) g=sumL l g+sumL k g
 |[],k=>(Rat.zero_add _).symm
 |t::l,k=>by show g t+sumL (l++k) g=g t+sumL l g+sumL k g;rw[sumL_append g l k,Rat.add_assoc]
theorem add4(a b c d:Rat):a+b+(c+d)=a+c+(b+d):=by rw[Rat.add_assoc,Rat.add_assoc,←Rat.add_assoc b,Rat.add_comm b c,Rat.add_assoc c]
theorem sumL_add(g h:Nat→Rat):∀l:List Nat,sumL l (fun t=>g t+h t)=sumL l g+sumL l h
 |[]=>(Rat.add_zero 0).symm
 |t::l=>by show g t+h t+sumL l _=g t+sumL l g+(h t+sumL l h);rw[sumL_add g h l,add4]
theorem sumL_mul(k:Rat)(g:Nat→Rat):∀l:List Nat,sumL l (fun t=>k*g t)=k*sumL l g
 |[]=>(Rat.mul_zero k).symm
 |t::l=>by show k*g t+sumL l _=k*(g t+sumL l g);rw[sumL_mul k g l,Rat.mul_add]
theorem sumL_neg(g:Nat→Rat):∀l:List Nat,sumL l (fun t=> -g t)= -sumL l g
 |[]=>rfl
 |t::l=>by show -g t+sumL l _= -(g t+sumL l g);rw[sumL_neg g l,Rat.neg_add]
theorem sumL_filter(p:Nat→Bool)(g:Nat→Rat):∀l:List Nat,sumL l g=sumL (l.filter p) g+sumL (l.filter fun t=> !p t) g
 |[]=>(Rat.add_zero 0).symm
 |t::l=>by
  show g t+sumL l g=_
  rw[sumL_filter p g l,List.filter_cons,List.filter_cons]
  cases p t with
  |true=>show _=g t+_+_;rw[Rat.add_assoc];rfl
  |false=>
   show _=sumL (l.filter p) g+(g t+_)
   rw[←Rat.add_assoc,Rat.add_comm (g t),Rat.add_assoc]
theorem sumL_one{g:Nat→Rat}{s:Nat}:∀{l:List Nat},l.Nodup→s∈l→(∀t∈l,t≠s→g t=0)→sumL l g=g s
 |[],_,hm,_=>by cases hm
 |t::l,hn,hm,h=>by
  show g t+sumL l g=g s
  have hn2:=List.nodup_cons.1 hn
  rcases List.mem_cons.1 hm with rfl|hm
  ·rw[sumL_zero fun u hu=>h u (List.mem_cons_of_mem _ hu) fun e=>hn2.1 (e▸hu),Rat.add_zero]
  ·rw[h t List.mem_cons_self (fun e=>hn2.1 (e▸hm)),Rat.zero_add,sumL_one hn2.2 hm fun u hu=>h u (List.mem_cons_of_mem _ hu)]
theorem sumL_map(f:Nat→Nat)(g:Nat→Rat):∀l:List Nat,sumL (l.map f) g=sumL l fun t=>g (f t)
 |[]=>rfl
 |t::l=>by show g (f t)+_=g (f t)+_;rw[sumL_map f g l]
theorem lin_sum:∀(r:List Rat) (φ:Nat→Rat),lin r φ=sumL (List.range r.length) fun t=>r.getD t 0*φ t
 |[],_=>rfl
 |a::r,φ=>by
  rw[List.length_cons,List.range_succ_eq_map]
  show a*φ 0+lin r _=a*φ 0+sumL ((List.range r.length).map Nat.succ) _
  rw[sumL_map,lin_sum r]
  rfl
theorem dotTo_sum(y z:List Rat):∀n:Nat,dotTo y z n=sumL (List.range n) fun t=>y.getD t 0*z.getD t 0
 |0=>rfl
 |n+1=>by
  rw[dotTo,dotTo_sum y z n,List.range_succ,sumL_append]
  show _=_+(_+0)
  rw[Rat.add_zero]
theorem getD_set{l:List Rat}{i t:Nat}{v:Rat}:(l.set i v).getD t 0=if i=t∧i<l.length then v else l.getD t 0:=by
 simp only[List.getD,List.getElem?_set]
 by_cases h:i=t
 ·subst h
  by_cases hl:i<l.length
  ·simp[hl]
  ·simp[hl]
 ·simp[h]
/-- values that are set one by one -/
theorem sets_out{F:Nat→List Rat}{pv:List Nat}{f:Nat→Rat}(hF:∀i,F (i+1)=(F i).set (pv.getD i 0) (f i)){t:Nat}(ht:t∉pv):∀i,i≤pv.length→(F i).getD t 0=(F 0).getD t 0
 |0,_=>rfl
 |i+1,h=>by
  rw[hF,getD_set,if_neg fun e=>ht (by rw[←e.1,List.getD,List.getElem?_eq_getElem (by omega)];exact List.getElem_mem _)]
  exact sets_out hF ht i (by omega)
theorem pv_ne{pv:List Nat}(hp:pv.Pairwise (· < ·)){i j:Nat}(hij:j<i)(hi:i<pv.length):pv.getD j 0<pv.getD i 0:=by
 rw[List.getD,List.getD,List.getElem?_eq_getElem hi,List.getElem?_eq_getElem (by omega)]
 exact List.pairwise_iff_getElem.1 hp j i _ _ hij
theorem sets_in{F:Nat→List Rat}{pv:List Nat}{f:Nat→Rat}{n:Nat}(hF:∀i,F (i+1)=(F i).set (pv.getD i 0) (f i))(hl:∀i,(F i).length=n)(hp:pv.Pairwise (· < ·))(hn:∀p∈pv,p<n){j:Nat}:∀i,i≤pv.length→j<i→(F i).getD (pv.getD j 0) 0=f j
 |0,_,h=>by omega
 |i+1,h,hj=>by
  rw[hF,getD_set]
  rcases Nat.lt_or_ge j i with h1|h1
  ·have:=pv_ne hp h1 (by omega)
   rw[if_neg (by omega)]
   exact sets_in hF hl hp hn i (by omega) h1
  ·have e:j=i:=by omega
   subst e
   have hm:pv.getD j 0<(F j).length:=by rw[hl];exact hn _ (by rw[List.getD,List.getElem?_eq_getElem (by omega)];exact List.getElem_mem _)
   rw[if_pos ⟨rfl,hm⟩]
def timesF(M:List (List Rat))(x:List Rat):List Rat:=M.map fun r=>dotTo r x r.length
abbrev freeL(pv:List Nat)(n:Nat):List Nat:=(List.range n).filter fun c=>decide (c∉pv)
def phi(x:List Rat)(n t:Nat):Rat:=if t<n then x.getD t 0 else if t=n then -1 else 0
theorem phi_lt{x:List Rat}{n t:Nat}(h:t<n):phi x n t=x.getD t 0:=if_pos h
theorem phi_eq{x:List Rat}{n:Nat}:phi x n n= -1:=by unfold phi;rw[if_neg (Nat.lt_irrefl n),if_pos rfl]
theorem phi_gt{x:List Rat}{n t:Nat}(h:n<t):phi x n t=0:=by unfold phi;rw[if_neg (by omega),if_neg (by omega)]
section
variable{M:List (List Rat)}{x:List Rat}{n:Nat}
/-- every row of the elimination is met by the combination -/
theorem row_sum(hl:Len n M){r:List Rat}(hr:r∈(reduceF (allF M (timesF M x)) n).1):sumL (List.range n) (fun t=>r.getD t 0*x.getD t 0)=r.getD n 0:=by
 have hlen:=reduceF_len (cols:=n) (allF_len (b:=timesF M x) hl) r hr
 have h1:=reduceF_lin (allF_len (b:=timesF M x) hl) (φ:=phi x n) (fun y hy=>by
  obtain⟨i,hi⟩:=List.getElem?_of_mem hy
  unfold allF at hi
  rw[List.getElem?_mapIdx]at hi
  cases hz:M[i]? with
  |none=>rw[hz]at hi;cases hi
  |some z=>
   rw[hz]at hi
   injection hi with hi
   subst hi
   have hzl:=hl z (List.mem_of_getElem? hz)
   have hb:(timesF M x).getD i 0=dotTo z x z.length:=by simp[timesF,List.getD,hz]
   rw[lin_append,hb,lin_congr (ψ:=fun t=>x.getD t 0) z fun j hj=>phi_lt (by omega),lin_dotTo,hzl]
   show dotTo z x n+(dotTo z x n*phi x n (n+0)+lin _ (fun j=>phi x n (n+(j+1))))=0
   rw[lin_congr (φ:=fun j=>phi x n (n+(j+1))) (ψ:=fun _=>0) _ fun j hj=>phi_gt (by omega),lin_zero,Nat.add_zero,phi_eq,Rat.add_zero,Rat.mul_neg,Rat.mul_one,Rat.add_neg_cancel]) n r hr
 rw[lin_sum,hlen,Nat.add_assoc,List.range_add,sumL_append,sumL_map,sumL_one (s:=0) (l:=List.range (1+M.length)) (g:=fun t=>r.getD (n+t) 0*phi x n (n+t)) List.nodup_range (List.mem_range.2 (by omega)) (fun t _ h=>by rw[phi_gt (by omega),Rat.mul_zero]),Nat.add_zero,phi_eq,Rat.mul_neg,Rat.mul_one,
  sumL_congr (h:=fun t=>r.getD t 0*x.getD t 0) fun t ht=>by rw[phi_lt (List.mem_range.1 ht)]]at h1
 generalize r.getD n 0=q at*
 generalize sumL (List.range n) _=s at*
 rw[←Rat.add_zero s,←Rat.neg_add_cancel q,←Rat.add_assoc,h1,Rat.zero_add]
/-- the system has a solution -/
theorem times_solvable(hl:Len n M){j:Nat}(h1:(reduceF (allF M (timesF M x)) n).2.length≤j)(h2:j<M.length):at2 (reduceF (allF M (timesF M x)) n).1 j n=0:=by
 have hred:=reduceF_red (allF_len (b:=timesF M x) hl) n (by omega)
 have hA:(reduceF (allF M (timesF M x)) n).1.length=M.length:=by rw[reduceF_length,allF_length]
 have:=row_sum (x:=x) hl (getD_mem (M:=(reduceF (allF M (timesF M x)) n).1) (i:=j) (by omega))
 rw[sumL_zero fun t ht=>by rw[show ((reduceF (allF M (timesF M x)) n).1.getD j []).getD t 0=0 from hred.2.2.1 j t h1 (by omega) (List.mem_range.1 ht),Rat.zero_mul]]at this
 exact this.symm
/-- no list is a contradiction -/
theorem times_nocontra(hl:Len n M){y:List Rat}(h:∀q∈throughF y M n M.length,q=0):dotTo y (timesF M x) M.length=0:=by
 have key:∀i,i≤M.length→dotTo y (timesF M x) i=sumL (List.range n) fun t=>dotTo y (colOf M t) i*x.getD t 0:=by
  intro i
  induction i with
  |zero=>exact fun _=>(sumL_zero fun t _=>by show(0:Rat)*_=0;rw[Rat.zero_mul]).symm
  |succ i ih=>
   intro hi
   obtain⟨r,hr⟩:∃r,M[i]? =some r:=⟨_,List.getElem?_eq_getElem hi⟩
   have hrl:=hl r (List.mem_of_getElem? hr)
   have hb:(timesF M x).getD i 0=sumL (List.range n) fun t=>r.getD t 0*x.getD t 0:=by rw[←hrl,←dotTo_sum];simp[timesF,List.getD,hr]
   rw[dotTo,ih (by omega),hb,←sumL_mul,←sumL_add]
   refine sumL_congr fun t _=>?_
   have hc:(colOf M t).getD i 0=r.getD t 0:=by simp[colOf,List.getD,hr]
   rw[dotTo,hc,Rat.add_mul,Rat.mul_assoc]
 rw[key _ (Nat.le_refl _)]
 refine sumL_zero fun t ht=>?_
 rw[h (dotTo y (colOf M t) M.length) (List.mem_map.2 ⟨t,ht,rfl⟩),Rat.zero_mul]
end
/-- the difference of two solutions, told by the kernel basis -/
structure Diff(A:List (List Rat))(pv:List Nat)(n:Nat)(x:List Rat):Prop where
 up:pv.Pairwise (· < ·)
 lt:∀p∈pv,p<n
 le:pv.length≤A.length
 unit:∀i j,i<pv.length→j<A.length→at2 A j (pv.getD i 0)=if j=i then 1 else 0
 sum:∀j,j<A.length→sumL (List.range n) (fun t=>at2 A j t*x.getD t 0)=at2 A j n
theorem times_diff{M:List (List Rat)}{x:List Rat}{n:Nat}(hl:Len n M):Diff (reduceF (allF M (timesF M x)) n).1 (reduceF (allF M (timesF M x)) n).2 n x:=by
 have hred:=reduceF_red (allF_len (b:=timesF M x) hl) n (by omega)
 have hpc:=pivots_count (allF M (timesF M x)) n
 exact⟨hpc.2.1,hpc.1,hred.2.1,hred.2.2.2.2,fun j hj=>row_sum hl (getD_mem hj)⟩
section
variable{A:List (List Rat)}{pv:List Nat}{n:Nat}{x:List Rat}
theorem mem_pv{t:Nat}(h:t∈pv):∃j,j<pv.length∧pv.getD j 0=t:=by
 obtain⟨j,hj,rfl⟩:=List.mem_iff_getElem.1 h
 exact⟨j,hj,by rw[List.getD,List.getElem?_eq_getElem hj];rfl⟩
theorem kvec_out{c t:Nat}(ht:t∉pv)(hc:c<n):(kvecTo A pv n c pv.length).getD t 0=if t=c then 1 else 0:=by
 rw[sets_out (F:=kvecTo A pv n c) (fun i=>kvecTo_succ A pv n c i) ht _ (Nat.le_refl _)]
 show((List.replicate n (0:Rat)).set c 1).getD t 0=_
 rw[getD_set,List.length_replicate]
 by_cases h:c=t
 ·rw[if_pos ⟨h,hc⟩,if_pos h.symm]
 ·rw[if_neg (fun e=>h e.1),if_neg (fun e=>h e.symm)]
  simp only[List.getD,List.getElem?_replicate]
  split<;>rfl
theorem Diff.kin(h:Diff A pv n x){c j:Nat}(hj:j<pv.length):(kvecTo A pv n c pv.length).getD (pv.getD j 0) 0= -(at2 A j c):=
 sets_in (F:=kvecTo A pv n c) (f:=fun i=> -(at2 A i c)) (fun i=>kvecTo_succ A pv n c i) (kvecTo_length A pv n c) h.up h.lt _ (Nat.le_refl _) hj
theorem xvec_out{t:Nat}(ht:t∉pv):(xvecTo A pv n pv.length).getD t 0=0:=by
 rw[sets_out (F:=xvecTo A pv n) (fun i=>xvecTo_succ A pv n i) ht _ (Nat.le_refl _)]
 show(List.replicate n (0:Rat)).getD t 0=0
 simp only[List.getD,List.getElem?_replicate]
 split<;>rfl
theorem Diff.xin(h:Diff A pv n x){j:Nat}(hj:j<pv.length):(xvecTo A pv n pv.length).getD (pv.getD j 0) 0=at2 A j n:=
 sets_in (F:=xvecTo A pv n) (f:=fun i=>at2 A i n) (fun i=>xvecTo_succ A pv n i) (xvecTo_length A pv n) h.up h.lt _ (Nat.le_refl _) hj
theorem free_nodup:(freeL pv n).Nodup:=List.Pairwise.filter _ List.nodup_range
theorem mem_free{c:Nat}:c∈freeL pv n↔c<n∧c∉pv:=by
 unfold freeL
 rw[List.mem_filter,List.mem_range,decide_eq_true_eq]
theorem Diff.rest(h:Diff A pv n x){t:Nat}(ht:t<n):x.getD t 0+(xvecTo A pv n pv.length).getD t 0* -1=sumL (freeL pv n) fun c=>x.getD c 0*(kvecTo A pv n c pv.length).getD t 0:=by
 by_cases hp:t∈pv
 ·obtain⟨j,hj,rfl⟩:=mem_pv hp
  have hs:=h.sum j (Nat.lt_of_lt_of_le hj h.le)
  rw[sumL_filter (fun c=>decide (c∉pv)),sumL_one (s:=pv.getD j 0) (l:=(List.range n).filter fun t=> !decide (t∉pv)) (List.Pairwise.filter _ List.nodup_range) (List.mem_filter.2 ⟨List.mem_range.2 ht,by rw[decide_eq_false fun e=>e hp];rfl⟩) (fun s hs hne=>?_),h.unit j j hj (Nat.lt_of_lt_of_le hj h.le),if_pos rfl,Rat.one_mul]at hs
  ·rw[h.xin hj,sumL_congr (h:=fun c=> -(at2 A j c*x.getD c 0)) fun c hc=>by rw[h.kin hj,Rat.mul_neg,Rat.mul_comm],sumL_neg,←hs]
   generalize x.getD (pv.getD j 0) 0=q
   generalize sumL _ _=s
   rw[Rat.mul_neg,Rat.mul_one,Rat.neg_add,←Rat.add_assoc,Rat.add_comm q,Rat.add_assoc,Rat.add_neg_cancel,Rat.add_zero]
  ·have hs2:s∈pv:=by simpa using(List.mem_filter.1 hs).2
   obtain⟨i,hi,rfl⟩:=mem_pv hs2
   rw[h.unit i j hi (Nat.lt_of_lt_of_le hj h.le),if_neg (fun e=>hne (by rw[e])),Rat.zero_mul]
 ·rw[xvec_out hp,Rat.zero_mul,Rat.add_zero,sumL_one (s:=t) free_nodup (mem_free.2 ⟨ht,hp⟩) fun c hc hne=>by rw[kvec_out hp (mem_free.1 hc).1,if_neg (Ne.symm hne),Rat.mul_zero],kvec_out hp ht,if_pos rfl,Rat.mul_one]
theorem free_get{k:Nat}(hk:k<(freeL pv n).length):(freeL pv n).getD k 0∈freeL pv n:=by rw[List.getD,List.getElem?_eq_getElem hk];exact List.getElem_mem hk
theorem kernel_get{k:Nat}{r:List Rat}(h:(kernelTo A pv n n)[k]? =some r):k<(freeL pv n).length∧r=kvecTo A pv n ((freeL pv n).getD k 0) pv.length:=by
 unfold kernelTo at h
 rw[List.getElem?_map]at h
 obtain⟨c,hc,rfl⟩:=Option.map_eq_some_iff.1 h
 refine⟨(List.getElem?_eq_some_iff.1 hc).1,?_⟩
 rw[List.getD,hc]
 rfl
theorem free_inj{i k:Nat}(hi:i<(freeL pv n).length)(hk:k<(freeL pv n).length)(e:(freeL pv n).getD i 0=(freeL pv n).getD k 0):i=k:=by
 rw[List.getD,List.getD,List.getElem?_eq_getElem hi,List.getElem?_eq_getElem hk]at e
 rcases Nat.lt_trichotomy i k with h|h|h
 ·exact absurd e (List.pairwise_iff_getElem.1 free_nodup i k hi hk h)
 ·exact h
 ·exact absurd e.symm (List.pairwise_iff_getElem.1 free_nodup k i hk hi h)
/-- the free column of a row of the kernel tells it -/
theorem kernel_own{k i:Nat}{r s:List Rat}(hr:(kernelTo A pv n n)[k]? =some r)(hs:(kernelTo A pv n n)[i]? =some s):s.getD ((freeL pv n).getD k 0) 0=if i=k then 1 else 0:=by
 obtain⟨hk,-⟩:=kernel_get hr
 obtain⟨hi,rfl⟩:=kernel_get hs
 have hm:=mem_free.1 (free_get hk)
 rw[kvec_out hm.2 (mem_free.1 (free_get hi)).1]
 by_cases h:i=k
 ·rw[h,if_pos rfl,if_pos rfl]
 ·rw[if_neg (fun e=>h (free_inj hi hk e.symm)),if_neg h]
/-- so does every column in which a row is 1 and the others 0 -/
theorem Diff.found(h:Diff A pv n x){k f:Nat}{r:List Rat}(hf:f<n)(hr:(kernelTo A pv n n)[k]? =some r)(h1:r.getD f 0=1)(h0:∀i s,i≠k→(kernelTo A pv n n)[i]? =some s→s.getD f 0=0):
  x.getD f 0+(xvecTo A pv n pv.length).getD f 0* -1=x.getD ((freeL pv n).getD k 0) 0:=by
 obtain⟨hk,rfl⟩:=kernel_get hr
 rw[h.rest hf,sumL_one (s:=(freeL pv n).getD k 0) free_nodup (free_get hk) fun c hc hne=>?_,h1,Rat.mul_one]
 obtain⟨i,hi,rfl⟩:=List.mem_iff_getElem.1 hc
 have hg:(freeL pv n)[i]=(freeL pv n).getD i 0:=by rw[List.getD,List.getElem?_eq_getElem hi];rfl
 rw[hg,h0 i _ (fun e=>hne (by rw[hg,e])) (by unfold kernelTo;rw[List.getElem?_map,List.getElem?_eq_getElem hi,Option.map_some,hg]),Rat.mul_zero]
/-- the sum of the first rows of the kernel -/
def backTo(A:List (List Rat))(pv:List Nat)(n:Nat)(x:List Rat)(k:Nat):List Rat:=(List.range n).map fun t=>sumL ((freeL pv n).take k) fun c=>x.getD c 0*(kvecTo A pv n c pv.length).getD t 0
theorem backTo_length(k:Nat):(backTo A pv n x k).length=n:=by simp[backTo]
theorem backTo_zero:backTo A pv n x 0=List.replicate n 0:=by
 unfold backTo
 simp only[List.take_zero,sumL]
 rw[List.map_const',List.length_range]
theorem backTo_succ{k:Nat}{r:List Rat}(hr:(kernelTo A pv n n)[k]? =some r):plusF (backTo A pv n x k) r (x.getD ((freeL pv n).getD k 0) 0)=backTo A pv n x (k+1):=by
 obtain⟨hk,rfl⟩:=kernel_get hr
 have hn:0<n:=by have:=(mem_free.1 (free_get hk)).1;omega
 refine List.ext_getElem? fun t=>?_
 rcases Nat.lt_or_ge t n with ht|ht
 ·rw[plusF_get (by rw[kvecTo_length];exact ht),if_pos (by rw[backTo_length];exact hn)]
  unfold backTo
  rw[List.getD,List.getElem?_map,List.getElem?_map,List.getElem?_range ht,List.take_add_one,List.getElem?_eq_getElem hk]
  simp only[Option.map_some,Option.getD_some,Option.toList_some]
  rw[sumL_append]
  congr 2
  show _=_*_+0
  rw[Rat.add_zero,Rat.mul_comm]
  have e:(freeL pv n).getD k 0=(freeL pv n)[k]:=by rw[List.getD,List.getElem?_eq_getElem hk];rfl
  rw[e]
 ·rw[List.getElem?_eq_none (by rw[plusF_length,kvecTo_length];exact ht),List.getElem?_eq_none (by rw[backTo_length];exact ht)]
theorem Diff.back(h:Diff A pv n x)(hx:x.length=n):backTo A pv n x (kernelTo A pv n n).length=plusF x (xvecTo A pv n pv.length) (-1):=by
 refine List.ext_getElem? fun t=>?_
 rcases Nat.lt_or_ge t n with ht|ht
 ·rw[plusF_get (by rw[xvecTo_length];exact ht),if_pos (by omega),h.rest ht]
  unfold backTo
  rw[List.getElem?_map,List.getElem?_range ht,Option.map_some,List.take_of_length_le (by unfold kernelTo;rw[List.length_map];exact Nat.le_refl _)]
 ·rw[List.getElem?_eq_none (by rw[backTo_length];exact ht),List.getElem?_eq_none (by rw[plusF_length,xvecTo_length];exact ht)]
end
end Go.Ex

/- Times of the reference, alone of the laws; Solve and CheckSolution for a right side that is a combination of the columns. Printed by program. No condition but sizes. -/
namespace Go.Ex
open Go Go.Sx Go.Proofs

theorem timesF_length(M:List (List Rat))(x:List Rat):(timesF M x).length=M.length:=List.length_map ..
theorem rl_timesF{M:List (List Rat)}{x:List Rat}{h n:Nat}(hM:Ht M h)(hx:∀q∈x,rl q+1≤h)(h2:2≤h)(hn:∀r∈M,r.length≤n):∀q∈timesF M x,rl q≤2*h*n+2:=fun q hq=>by
 obtain⟨r,hr,rfl⟩:=List.mem_map.1 hq
 have h3:=rl_dotTo (hM r hr) hx h2 r.length
 have:=Nat.mul_le_mul_left (2*h) (hn r hr)
 omega
theorem RatL.zero{w:World}{S:Nat→Prop}:RatL w S (.agg #[.bool false,.slice none 0 0,.bool false,.slice none 0 0]) 0:=
 ⟨_,_,_,_,0,0,rfl,⟨false,[],⟨_,rfl,Limbs.nil _ _⟩,rfl,Nat.zero_le _⟩,⟨false,[],⟨_,rfl,Limbs.nil _ _⟩,rfl,Nat.zero_le _⟩,by decide⟩
/-- an array of zeros, given up at a loop -/
theorem zerosL{H:Hp}{nx:Nat}{iv:Iv}{B:Nat}{w w':World}{ρ:Nat→Sx.Val}{S:Nat→Prop}(r:Rel H nx iv B w ρ w'){id n:Nat}(h:getH H id=some (.arr T.Rat (List.replicate n [Value.bool false,.slice none 0 0,.bool false,.slice none 0 0]).flatten))(hn:n≤maxLen):
  RatsL w' (Cv S B (((ρ id).g,(ρ id).g+1)::iv)) (.slice (some ⟨(ρ id).g,0,none⟩) n n) (List.replicate n 0):=by
 have h4:∀cs∈List.replicate n [Value.bool false,.slice none 0 0,.bool false,.slice none 0 0],cs.length=4:=fun cs hc=>by rw[List.eq_of_mem_replicate hc];rfl
 have hf:=flat_len h4
 rw[List.length_replicate]at hf
 refine⟨List.replicate n [.bool false,.slice none 0 0,.bool false,.slice none 0 0],⟨by rw[List.length_replicate];exact hn,by rw[List.length_replicate];exact hf,fun u hu=>?_,some ⟨(ρ id).g,0,none⟩,n,by rw[List.length_replicate],by rw[List.length_replicate];exact Nat.le_refl _,fun j u hu=>⟨_,rfl,?_,?_⟩⟩,by simp,h4,fun j cs q k1 k2=>?_⟩
 ·obtain⟨cs,hc,hu⟩:=List.mem_flatten.1 hu
  rw[List.eq_of_mem_replicate hc]at hu
  simp at hu
  rcases hu with rfl|rfl|rfl|rfl<;>rfl
 ·exact .inr ⟨(r.low id _ h (r.fits h).1).1,_,_,List.mem_cons_self,Nat.le_refl _,Nat.lt_succ_self _⟩
 ·rw[addr_add,cell_of (r.arr id _ _ h),Nat.zero_add]
  exact hu
 ·rw[List.eq_of_mem_replicate (List.mem_of_getElem? k1),List.eq_of_mem_replicate (List.mem_of_getElem? k2)]
  exact⟨_,_,_,_,_,_,_,_,rfl,RatL.zero⟩
theorem rTimes_c{S:Nat→Prop}{w:World}{v u:Value}{M:List (List Rat)}{x:List Rat}{h:Nat}(hS:Old S w)(hM:RatML w S v M)(hx:RatsL w S u x)(hrow:∀r∈M,r.length=x.length)(hqM:Ht M h)(hqx:∀q∈x,rl q+1≤h)(h2:2≤h)(hb:2*h*x.length≤90000)(hR:M.length≤1000000):
  Con PG N.ref01_Times #[v,u] w (Ret w fun v' w2=>RatsC w2 (Nw (fun _=>False) w w2) v' (timesF M x)):=by
 have hw:Bel w.heap.size w w:=Bel.refl
 obtain⟨am,cm,rfl,hcm,hmm⟩:=SlicesR.shape hM
 obtain⟨ax,cx,rfl,hcx,-⟩:=ListR.shape hx
 unfold maxLen at hmm
 refine in_ref01_Times (by simp) ?_
 conv=>whnf
 refine⟨Nat×List (List Value)×World×Iv,fun z=>⟨[(0,.o (.v (.slice am M.length cm))),(1,.o (.v (.slice ax x.length cx))),(5,.o (.w 0 z.2.1.length)),(6,.o (.v (.int .i64 ((z.1:Nat):Int))))],[(0,.vec T.Rat 4 z.2.1.flatten)],1,z.2.2.2,z.2.2.1⟩,fun z=>M.length-z.1,
  fun z=>z.1≤M.length∧Bel w.heap.size w z.2.2.1∧Fc z.2.2.1 (Cv (fun _=>False) w.heap.size z.2.2.2) z.2.1 ((timesF M x).take z.1),?_,?_⟩
 ·intro ρ w' r
  exact⟨(0,[],w',[]),⟨Nat.zero_le _,hw.tr r.bel,by simp[Fc]⟩,Sub.nil 5 T.Rat 4 rfl (by simp[ScE,SV.sc,At.sc,initE]) r fun ρ1 r1=>
   Sub.gen [] r1 ⟨rfl,trivial⟩ ⟨rfl,rfl,rfl,rfl,trivial⟩ (by simp[ScH,Blk.scopd]) (by simp[ScE,SV.sc,At.sc]) (by rfl) (fun lo hi h=>h)⟩
 clear hw
 rintro⟨i,css,w1,iv⟩ ⟨hi,hw,hC⟩
 dsimp only at hi hw hC ⊢
 have hcl:css.length=i:=by rw[hC.1,List.length_take,timesF_length];omega
 have hfl:=flat_len hC.len4
 conv=>whnf
 refine BrS.mk (fun hib=>?_) (fun hib=>?_)
 ·have hib:i<M.length:=by simpa using hib
  obtain⟨ra,hra⟩:∃r,M[i]? =some r:=⟨_,List.getElem?_eq_getElem hib⟩
  have hral:=hrow ra (List.mem_of_getElem? hra)
  obtain⟨adm,um,ham,hRm,km1,km2⟩:=SlicesR.load hM hra
  obtain⟨au,cu,rfl,hcu,-⟩:=ListR.shape hRm
  conv=>whnf
  refine⟨adm,ham,⟨by omega,by omega⟩,?_⟩
  conv=>whnf
  refine⟨.slice au ra.length cu,fun ρ w' r=>?_,?_⟩
  ·rw[Int.toNat_natCast,cell_of_heap (w:=w) (w2:=w') (by rw[addB];exact(hw.tr r.bel).block _ (hS _ km1))]
   exact km2
  conv=>whnf
  refine callE_S (callE_con (Φ:=fun _ w' v w2=>RatC w2 (Nw (fun _=>False) w' w2) v (dotTo ra x ra.length)) (fun ρ w' r=>rDot_c (fun g hg=>by have:=hS g hg;have:=r.baseLe;omega) (RatsL.keep hRm (fun g hg=>(hw.tr r.bel).block g (hS g hg))) (RatsL.keep hx (fun g hg=>(hw.tr r.bel).block g (hS g hg))) hral (hqM ra (List.mem_of_getElem? hra)) hqx h2 (by rw[hral];exact hb)) ?_)
  rintro ρ wa1 v1 wb1 r he hb hn
  replace hw:=hw.tr hb
  replace hC:=hC.past (iv':=(wa1.heap.size,wb1.heap.size)::iv) r (oldF w) he fun x hx=>List.mem_cons_of_mem _ hx
  have hd:=hn.got (S:=fun _=>False) r.baseLe (iv:=(wa1.heap.size,wb1.heap.size)::iv) List.mem_cons_self
  clear r he hb hn
  generalize (wa1.heap.size,wb1.heap.size)::iv=iv1 at*
  obtain⟨s1_0,s1_1,s1_2,s1_3,s1_4,s1_5,s1_6,s1_7,rfl⟩:=hd.shape
  conv=>whnf
  have hC2:Fc wb1 (Cv (fun _=>False) w.heap.size iv1) (css++[[.bool s1_0,.slice s1_1 s1_2 s1_3,.bool s1_4,.slice s1_5 s1_6 s1_7]]) ((timesF M x).take (i+1)):=by
   have e:(timesF M x)[i]? =some (dotTo ra x ra.length):=by rw[timesF,List.getElem?_map,hra];rfl
   rw[List.take_add_one,e]
   exact hC.push hd.fourC
  have hfl2:css.flatten++([.bool s1_0,.slice s1_1 s1_2 s1_3,.bool s1_4,.slice s1_5 s1_6 s1_7]:List Value)=(css++([[.bool s1_0,.slice s1_1 s1_2 s1_3,.bool s1_4,.slice s1_5 s1_6 s1_7]]:List (List Value))).flatten:=by simp
  clear hC hd
  refine .inl ?_
  conv=>whnf
  refine⟨by omega,by omega,by unfold maxLen;omega,?_⟩
  conv=>whnf
  refine⟨((i+1:Nat):Int),by rw[wrap64]<;>omega,?_⟩
  conv=>whnf
  intro ρ3 w3 r3
  exact⟨(i+1,css++[[.bool s1_0,.slice s1_1 s1_2 s1_3,.bool s1_4,.slice s1_5 s1_6 s1_7]],w3,_),⟨hib,hw.tr r3.bel,hC2.rel r3 (oldF w)⟩,Sub.gen [(0,2)] r3 ⟨by dsimp only;rw[←hfl2];rfl,trivial⟩ ⟨rfl,rfl,by dsimp only;rw[List.length_append,List.length_singleton];rfl,rfl,trivial⟩ (by simp[ScH,Blk.scopd]) (by simp[ScE,SV.sc,At.sc]) (by rfl) (fun lo hi h=>h),by dsimp only;omega⟩
 have hib:i=M.length:=Nat.le_antisymm hi (by simpa using hib)
 conv=>whnf
 intro ρe we re
 refine⟨_,rfl,hw.tr re.bel,?_⟩
 rw[List.take_of_length_le (by rw[timesF_length];omega)]at hC
 have h5:=re.vecSeq (id:=0) (sz:=4) (m:=css.length) rfl hfl (by unfold maxLen;omega) (by decide) hC.one
 have h6:=hC.rel re (oldF w)
 refine⟨css,?_,h6.1,h6.len4,fun j cs q k1 k2=>(h6.2 j cs q k1 k2).weak fun _ hg=>Cv.nw hg re⟩
 rw[←hC.1]
 exact h5.weak fun g hg=>.inr hg
theorem alone_c{S:Nat→Prop}{w:World}{v:Value}{K:List (List Rat)}{n k col:Nat}(hS:Old S w)(hK:RatMC w S v K)(hrow:∀r∈K,r.length=n)(hc:col<n):
  Con PG N.law01_alone #[v,.int .i64 k,.int .i64 col] w (Ret w fun v' _=>∃d,v'= .bool d∧(d=true→∀(j:Nat) s,j≠k→K[j]? =some s→s.getD col 0=0)∧((∀(j:Nat) s,j≠k→K[j]? =some s→s.getD col 0=0)→d=true)):=by
 have hw:Bel w.heap.size w w:=Bel.refl
 obtain⟨ak,ck,rfl,hck,hmk⟩:=SlicesR.shape hK
 unfold maxLen at hmk
 refine in_law01_alone (by simp) ?_
 conv=>whnf
 refine⟨Nat×World×Iv,fun z=>⟨[(0,.o (.v (.slice ak K.length ck))),(1,.o (.v (.int .i64 k))),(2,.o (.v (.int .i64 col))),(7,.o (.v (.int .i64 ((z.1:Nat):Int))))],[],0,z.2.2,z.2.1⟩,fun z=>K.length-z.1,
  fun z=>z.1≤K.length∧Bel w.heap.size w z.2.1∧∀(j:Nat) s,j<z.1→j≠k→K[j]? =some s→s.getD col 0=0,?_,?_⟩
 ·intro ρ w' r
  exact⟨(0,w',[]),⟨by simp,hw.tr r.bel,fun j s hj=>by dsimp only at hj;omega⟩,Sub.gen [] r trivial ⟨rfl,rfl,rfl,rfl,trivial⟩ (by simp[ScH]) (by simp[ScE,SV.sc,At.sc]) (by rfl) (fun lo hi h=>h)⟩
 clear hw
 rintro⟨i,w1,iv⟩ ⟨hi,hw,ht⟩
 dsimp only at hi hw ht ⊢
 conv=>whnf
 refine BrS.mk (fun hib=>?_) (fun hib=>?_)
 ·have hib:i<K.length:=by simpa using hib
  conv=>whnf
  refine BrS.mk (fun hik=>?_) (fun hik=>?_)
  ·have hik:i≠k:=fun e=>by rw[e]at hik;simp at hik
   obtain⟨ra,hra⟩:∃r,K[i]? =some r:=⟨_,List.getElem?_eq_getElem hib⟩
   have hral:=hrow ra (List.mem_of_getElem? hra)
   obtain⟨adm,um,ham,hRm,km1,km2⟩:=SlicesR.load hK hra
   obtain⟨au,cu,rfl,hcu,-⟩:=ListR.shape hRm
   obtain⟨q,hq⟩:∃q,ra[col]? =some q:=⟨_,List.getElem?_eq_getElem (by omega)⟩
   obtain⟨adq,cs,haq,hF,_,hl⟩:=ListR.load hRm hq
   obtain⟨b3,a3,n3,c3,b4,a4,n4,c4,rfl,hF⟩:=hF
   have hqd:ra.getD col 0=q:=by rw[List.getD,hq];rfl
   have hld:∀{H nx iv ρ w'},Rel H nx iv w.heap.size w1 ρ w'→w'.cell? (adm.add ((i:Int).toNat*1))=some (.slice au ra.length cu):=fun r=>by
    rw[Int.toNat_natCast,cell_of_heap (w:=w) (by rw[addB];exact(hw.tr r.bel).block _ (hS _ km1))]
    exact km2
   conv=>whnf
   refine⟨adm,ham,⟨by omega,by omega⟩,?_⟩
   conv=>whnf
   refine⟨.slice au ra.length cu,fun ρ w' r=>hld r,?_⟩
   conv=>whnf
   refine BrS.mk (fun hge=>absurd (of_decide_eq_true hge) (by omega)) (fun _=>?_)
   conv=>whnf
   refine⟨adm,ham,⟨by omega,by omega⟩,?_⟩
   conv=>whnf
   refine⟨.slice au ra.length cu,fun ρ w' r=>hld r,?_⟩
   conv=>whnf
   refine⟨adq,haq,⟨by omega,by omega⟩,?_⟩
   conv=>whnf
   refine⟨[.bool b3,.slice a3 n3 c3,.bool b4,.slice a4 n4 c4],rfl,fun ρ w' r j u hu=>?_,?_⟩
   ·obtain⟨k1,k2⟩:=hl j u hu
    rw[Int.toNat_natCast,cell_of_heap (w:=w) (w2:=w') (by rw[addB,addB];exact(hw.tr r.bel).block _ (hS _ k1))]
    exact k2
   conv=>whnf
   refine callE_S (callE_con (Φ:=fun _ w' v w2=>v= .int .i64 (rs q)) (fun ρ w' r=>rSignOf_c (fun g hg=>by have:=hS g hg;have:=r.baseLe;omega) (hF.keep (fun g hg=>(hw.tr r.bel).block g (hS g hg)))) ?_)
   rintro ρ wa1 v1 wb1 r he hb rfl
   replace hw:=hw.tr hb
   clear r he hb
   generalize (wa1.heap.size,wb1.heap.size)::iv=iv1 at*
   conv=>whnf
   clear hld
   refine BrS.mk (fun hs=>?_) (fun hs=>?_)
   ·have hs:q≠0:=fun e=>by rw[rs_zero.2 e]at hs;exact absurd hs (by decide)
    conv=>whnf
    intro ρe we re
    exact⟨_,rfl,hw.tr re.bel,false,rfl,fun h=>(by cases h),fun h=>absurd (hqd.symm.trans (h i ra hik hra)) hs⟩
   have hs:q=0:=rs_zero.1 (by simpa using hs)
   conv=>whnf
   refine⟨((i+1:Nat):Int),by rw[wrap64]<;>omega,?_⟩
   conv=>whnf
   intro ρ3 w3 r3
   refine⟨(i+1,w3,_),⟨hib,hw.tr r3.bel,fun j s hj hjk hs0=>?_⟩,Sub.gen [] r3 trivial ⟨rfl,rfl,rfl,rfl,trivial⟩ (by simp[ScH]) (by simp[ScE,SV.sc,At.sc]) (by rfl) (fun lo hi h=>h),by dsimp only;omega⟩
   rcases Nat.lt_or_ge j i with h1|h1
   ·exact ht j s h1 hjk hs0
   ·obtain rfl:j=i:=by dsimp only at hj;omega
    rw[hra]at hs0
    injection hs0 with hs0
    rw[←hs0,hqd,hs]
  have hik:i=k:=by
   have h4:((i:Int)==(k:Int))=true:=by simpa using hik
   have:=eq_of_beq h4
   omega
  conv=>whnf
  refine⟨((i+1:Nat):Int),by rw[wrap64]<;>omega,?_⟩
  conv=>whnf
  intro ρ3 w3 r3
  refine⟨(i+1,w3,_),⟨hib,hw.tr r3.bel,fun j s hj hjk hs=>?_⟩,Sub.gen [] r3 trivial ⟨rfl,rfl,rfl,rfl,trivial⟩ (by simp[ScH]) (by simp[ScE,SV.sc,At.sc]) (by rfl) (fun lo hi h=>h),by dsimp only;omega⟩
  rcases Nat.lt_or_ge j i with h1|h1
  ·exact ht j s h1 hjk hs
  ·obtain rfl:j=i:=by dsimp only at hj;omega
   exact absurd hik hjk
 have hib:i=K.length:=Nat.le_antisymm hi (by simpa using hib)
 conv=>whnf
 intro ρe we re
 exact⟨_,rfl,hw.tr re.bel,true,rfl,fun _ j s hjk hs=>ht j s (by have:=(List.getElem?_eq_some_iff.1 hs).1;omega) hjk hs,fun _=>rfl⟩
section
variable{S:Nat→Prop}{w:World}{v u:Value}{M:List (List (Int×Int))}{x:List Rat}
/-- the elimination of the system -/
abbrev altF(M:List (List (Int×Int)))(x:List Rat):List (List Rat)×List Nat:=reduceF (allF (valsM M) (timesF (valsM M) x)) (colsM M)
abbrev altX(M:List (List (Int×Int)))(x:List Rat):List Rat:=xvecTo (altF M x).1 (altF M x).2 (colsM M) (altF M x).2.length
abbrev altK(M:List (List (Int×Int)))(x:List Rat):List (List Rat):=kernelTo (altF M x).1 (altF M x).2 (colsM M) (colsM M)
theorem alt_sizes(hM:SmallM w S v M)(he:errM M=0)(hx:∀q∈x,rl q≤3):
  (∀r∈M,r.length=colsM M)∧M.length≤5∧colsM M≤5∧Ht (valsM M) 4∧(∀q∈timesF (valsM M) x,rl q≤42)∧Ht (allF (valsM M) (timesF (valsM M) x)) 43∧errS M (pairs (timesF (valsM M) x))=0∧4^M.length≤1024∧
  (∀q∈altX M x,rl q≤44032)∧∀r∈altK M x,r.length=colsM M∧∀q∈r,rl q≤4096:=by
 obtain⟨hall,hM5,hc5,hht,-⟩:=hM.sizes he
 have hb:∀q∈timesF (valsM M) x,rl q≤42:=rl_timesF (n:=5) hht (fun q hq=>by have:=hx q hq;omega) (by decide) fun r hr=>by rw[valsM_row hall r hr];exact hc5
 have hA:Ht (allF (valsM M) (timesF (valsM M) x)) 43:=allF_ht (hht.mono (by decide)) (fun q hq=>by have:=hb q hq;omega) (by decide)
 have hp4:4^M.length≤1024:=Nat.le_trans (Nat.pow_le_pow_right (by decide) hM5) (by decide)
 obtain⟨hAl,hpl,-,hAh⟩:=reduceF_inv (cols:=colsM M) hA (by decide)
 obtain⟨hBl,hql,-,hBh⟩:=reduceF_inv (cols:=colsM M) hht (by decide)
 rw[allF_length,valsM_len]at hpl
 rw[valsM_len]at hql
 have hAh':Ht (altF M x).1 (4^(altF M x).2.length*43):=hAh
 have hp:4^(altF M x).2.length≤1024:=Nat.le_trans (Nat.pow_le_pow_right (by decide) (Nat.le_trans hpl hM5)) (by decide)
 have hp1:=Nat.pow_pos (n:=(altF M x).2.length) (show 0<4 by decide)
 have hq:4^(reduceF (valsM M) (colsM M)).2.length≤1024:=Nat.le_trans (Nat.pow_le_pow_right (by decide) (Nat.le_trans hql hM5)) (by decide)
 have hq1:=Nat.pow_pos (n:=(reduceF (valsM M) (colsM M)).2.length) (show 0<4 by decide)
 have hK:altK M x=kernelTo (reduceF (valsM M) (colsM M)).1 (reduceF (valsM M) (colsM M)).2 (colsM M) (colsM M):=by
  rw[reduceF_M (b:=timesF (valsM M) x) (valsM_row hall)]
  exact(kernelTo_tk _ _ _).symm
 refine⟨hall,hM5,hc5,hht,hb,hA,?_,hp4,fun q hq=>?_,fun r hr=>?_⟩
 ·unfold errS
  rw[if_neg (by rw[he];decide),if_neg (by rw[pairs_len,timesF_length,valsM_len];exact fun h=>h rfl)]
 ·have:=xvecTo_ht hAh' (by omega) _ _ _ q hq
  omega
 ·rw[hK]at hr
  have h3:=kernelTo_ht hBh (by omega) _ _ _ r hr
  exact⟨h3.1,fun q hq=>by have:=h3.2 q hq;omega⟩
theorem SolveT_c(hS:Old S w)(h:RatMR w S v M)(hM:SmallM w S v M)(he:errM M=0)(hx:∀q∈x,rl q≤3)(hu:RatsC w S u (timesF (valsM M) x)):
  Con PG N.exact_Solve #[v,u] w (Ret w fun v' w2=>∃vx vk,v'= .tuple #[.agg #[.int .i64 0,vx,vk,.slice none 0 0],.int .i64 0]∧RatsC w2 (Nw (fun _=>False) w w2) vx (altX M x)∧RatMC w2 (Nw (fun _=>False) w w2) vk (altK M x)):=by
 obtain⟨hall,hM5,hc5,hht,hb,hA,hes,hp4,-,-⟩:=alt_sizes hM he hx
 refine(pubSolve_c (h0:=43) hS h (RatsC.pairs hu) (fun _=>⟨hM.2.2.2.2,few_pairs fun q hq=>by have:=hb q hq;omega,by rw[pairs_ratio];exact hA,by decide,by omega⟩)).mono fun _ w2 ⟨v2,e1,e2,e3⟩=>⟨v2,e1,e2,?_⟩
 obtain⟨-,s,rfl,A,pv,hred,hs⟩:=e3.resolve_left fun k=>k.1 hes
 rw[pairs_ratio]at hred
 have e1:A=(altF M x).1:=congrArg Prod.fst hred
 have e2:pv=(altF M x).2:=congrArg Prod.snd hred
 rw[e1,e2]at hs
 rcases hs with⟨j,vp,h1,h2,h3,-⟩|⟨vx,vk,h1,rfl,h3,h4⟩
 ·exact absurd (times_solvable (valsM_row hall) h1 (by rw[valsM_len];exact h2)) h3
 ·exact⟨vx,vk,rfl,h3,h4⟩
theorem CheckNo_c{t:Value}{Y:List (Int×Int)}(hS:Old S w)(h:RatMR w S v M)(hM:SmallM w S v M)(he:errM M=0)(hx:∀q∈x,rl q≤3)(hu:RatsC w S u (timesF (valsM M) x))(hy:RatsR w S t Y)(hyS:SmallB w S t Y):
  Con PG N.exact_CheckSolution #[v,u,.agg #[.int .i64 1,.slice none 0 0,.slice none 0 0,t]] w (Ret w fun v' _=>v'= .int .i64 25):=by
 obtain⟨hall,hM5,hc5,hht,hb,hA,hes,hp4,-,-⟩:=alt_sizes hM he hx
 refine(checkSolution_c (X:=[]) (K:=[]) (h0':=43) (h1:=43) hS h (RatsC.pairs hu) ⟨[],⟨by simp,by simp,by simp,none,0,rfl,Nat.le_refl _,by simp⟩,rfl,by simp,by simp⟩ ⟨[],⟨by simp,by simp,by simp,none,0,rfl,Nat.le_refl _,by simp⟩,rfl,by simp⟩ hy
  (fun _=>⟨hM.2.2.2.2,few_pairs fun q hq=>by have:=hb q hq;omega,by rw[pairs_ratio];exact hA,by decide,by omega⟩)
  (fun _=>⟨fun x hx=>(by cases hx),by simp,fun x hx=>(by cases hx),fun x hx=>(by cases hx),by simp,fun hl=>⟨hyS.2.2,fun q hq=>by have:=hyS.2.1 q hq;omega,hht.mono (by decide),fun q hq=>by rw[pairs_ratio]at hq;have:=hb q hq;omega,by decide,by omega⟩⟩)).mono fun _ w2 ⟨v2,e1,e2,e,e3,e4,_⟩=>⟨v2,e1,e2,?_⟩
 rw[e3,(e4 hes).2 fun hr=>?_]
 ·rfl
 ·rw[pairs_ratio]at hr
  rcases hr with⟨hz,_⟩|⟨-,-,-,h1,h2,h3⟩
  ·exact absurd hz (by decide)
  ·rw[h1,times_nocontra (valsM_row hall) h2]at h3
   exact absurd h3 (by decide)
end
end Go.Ex

/- The law ExactAlternative. Printed by program. No condition but sizes. -/
namespace Go.Ex
open Go Go.Sx Go.Proofs

theorem rl_sumL{g:Nat→Rat}{B:Nat}:∀{l:List Nat},(∀t∈l,rl (g t)≤B)→rl (sumL l g)≤(B+1)*l.length+2
 |[],_=>by show rl 0≤_;exact Nat.le_trans (by decide:rl 0≤2) (Nat.le_add_left ..)
 |t::l,h=>by
  have h1:=rl_sumL fun s hs=>h s (List.mem_cons_of_mem t hs)
  have h2:=h t List.mem_cons_self
  have h3:=rl_add (g t) (sumL l g)
  show rl (g t+sumL l g)≤_
  rw[List.length_cons,Nat.mul_add]
  omega
section
variable{S:Nat→Prop}{w:World}{v:Value}{M:List (List (Int×Int))}{x:List Rat}
abbrev altR(M:List (List (Int×Int)))(x:List Rat):List Rat:=plusF x (altX M x) (-1)
abbrev altB(M:List (List (Int×Int)))(x:List Rat)(k:Nat):List Rat:=backTo (altF M x).1 (altF M x).2 (colsM M) x k
theorem altB_sz(hM:SmallM w S v M)(he:errM M=0)(hx:∀q∈x,rl q≤3)(k:Nat):∀q∈altB M x k,rl q≤100000:=fun q hq=>by
 obtain⟨hall,hM5,hc5,hht,hb,hA,hes,hp4,hX,hK⟩:=alt_sizes hM he hx
 obtain⟨t,ht,rfl⟩:=List.mem_map.1 hq
 have hl:((freeL (altF M x).2 (colsM M)).take k).length≤5:=Nat.le_trans (List.length_take_le' ..) (Nat.le_trans (List.length_filter_le _ _) (by rw[List.length_range];exact hc5))
 have:=rl_sumL (B:=4099) (l:=(freeL (altF M x).2 (colsM M)).take k) (g:=fun c=>x.getD c 0*(kvecTo (altF M x).1 (altF M x).2 (colsM M) c (altF M x).2.length).getD t 0) fun c hc=>by
  have h1:=rl_mul (x.getD c 0) ((kvecTo (altF M x).1 (altF M x).2 (colsM M) c (altF M x).2.length).getD t 0)
  have h2:=rl_getD (r:=x) (h:=4) (fun q hq=>by have:=hx q hq;omega) (by decide) c
  have hm:kvecTo (altF M x).1 (altF M x).2 (colsM M) c (altF M x).2.length∈altK M x:=List.mem_map.2 ⟨c,List.mem_of_mem_take hc,rfl⟩
  have h3:=rl_getD (r:=kvecTo (altF M x).1 (altF M x).2 (colsM M) c (altF M x).2.length) (h:=4097) (fun q hq=>by have:=(hK _ hm).2 q hq;omega) (by decide) t
  omega
 have h5:=Nat.mul_le_mul_left 4100 hl
 omega
theorem altR_sz(hM:SmallM w S v M)(he:errM M=0)(hx:∀q∈x,rl q≤3):∀q∈altR M x,rl q≤50000:=fun q hq=>by
 obtain⟨hall,hM5,hc5,hht,hb,hA,hes,hp4,hX,hK⟩:=alt_sizes hM he hx
 obtain⟨t,ht,rfl⟩:=List.mem_map.1 hq
 have h2:=rl_getD (r:=x) (h:=4) (fun q hq=>by have:=hx q hq;omega) (by decide) t
 have h3:=rl_getD (r:=altX M x) (h:=44033) (fun q hq=>by have:=hX q hq;omega) (by decide) t
 have h4:=rl_mul ((altX M x).getD t 0) (-1)
 have h5:=rl_add (x.getD t 0) ((altX M x).getD t 0* -1)
 have h6:rl (-1:Rat)≤1:=by decide
 split<;>omega
end
theorem exactAlternative_c{S:Nat→Prop}{w:World}{v u t:Value}{M:List (List (Int×Int))}{X Y:List (Int×Int)}(hS:Old S w)(h:RatMR w S v M)(hx:RatsR w S u X)(hy:RatsR w S t Y):
  Con PG N.law01_ExactAlternative #[v,u,t] w (Ret w fun v' _=>v'= .bool true):=by
 have hw:Bel w.heap.size w w:=Bel.refl
 obtain⟨am,cm,rfl,hcm,hmm⟩:=SlicesR.shape h
 obtain⟨ax,cx,rfl,hcx,hmx⟩:=ListR.shape hx
 obtain⟨ay,cy,rfl,hcy,hmy⟩:=ListR.shape hy
 unfold maxLen at hmm hmx hmy
 refine in_law01_ExactAlternative (by simp) ?_
 conv=>whnf
 refine callE_S (callE_con (Φ:=fun _ w' v w2=>∃d,v= .bool d∧(d=true→SmallM w S (.slice am M.length cm) M)) (fun ρ w' r=>smallW_c (fun g hg=>by have:=hS g hg;have:=r.baseLe;omega) (fun g hg=>(hw.tr r.bel).block g (hS g hg)) h) ?_)
 rintro ρ wa1 v1 wb1 r he hb ⟨d,rfl,hd⟩
 replace hw:=hw.tr hb
 clear r he hb
 generalize (wa1.heap.size,wb1.heap.size)::[]=iv1 at*
 conv=>whnf
 cases d with
 |false=>
  conv=>whnf
  refine callE_S (callE_con (Φ:=fun _ w' v w2=>v= .bool true) (fun ρ w' r=>awake_c w') ?_)
  rintro ρ wa2 v2 wb2 r he hb rfl
  replace hw:=hw.tr hb
  clear r he hb
  generalize (wa2.heap.size,wb2.heap.size)::iv1=iv2 at*
  conv=>whnf
  intro ρe we re
  exact⟨_,rfl,hw.tr re.bel,rfl⟩
 |true=>
  have hM:=hd rfl
  clear hd
  conv=>whnf
  refine callE_S (callE_con (Φ:=fun _ w' v w2=>v= .int .i64 (errM M)) (fun ρ w' r=>rCheckMatrix_c (fun g hg=>by have:=hS g hg;have:=r.baseLe;omega) (RatMR.keep h (fun g hg=>(hw.tr r.bel).block g (hS g hg)))) ?_)
  rintro ρ wa2 v2 wb2 r he hb rfl
  replace hw:=hw.tr hb
  clear r he hb
  generalize (wa2.heap.size,wb2.heap.size)::iv1=iv2 at*
  conv=>whnf
  refine BrS.mk (fun he=>?_) (fun he=>?_)
  ·conv=>whnf
   refine callE_S (callE_con (Φ:=fun _ w' v w2=>v= .bool true) (fun ρ w' r=>awake_c w') ?_)
   rintro ρ wa3 v3 wb3 r he hb rfl
   replace hw:=hw.tr hb
   clear r he hb
   generalize (wa3.heap.size,wb3.heap.size)::iv2=iv3 at*
   conv=>whnf
   intro ρe we re
   exact⟨_,rfl,hw.tr re.bel,rfl⟩
  have he:errM M=0:=by
   have h4:(((errM M:Nat):Int)==(0:Int))=true:=by simpa using he
   have:=eq_of_beq h4
   omega
  conv=>whnf
  refine callE_S (callE_con (Φ:=fun _ w' v w2=>v= .int .i64 (colsM M)) (fun ρ w' r=>rColumns_c (fun g hg=>by have:=hS g hg;have:=r.baseLe;omega) (RatMR.keep h (fun g hg=>(hw.tr r.bel).block g (hS g hg)))) ?_)
  rintro ρ wa3 v3 wb3 r he hb rfl
  replace hw:=hw.tr hb
  clear r he hb
  generalize (wa3.heap.size,wb3.heap.size)::iv2=iv3 at*
  conv=>whnf
  refine BrS.mk (fun hXl=>?_) (fun hXl=>?_)
  ·conv=>whnf
   refine callE_S (callE_con (Φ:=fun _ w' v w2=>v= .bool true) (fun ρ w' r=>awake_c w') ?_)
   rintro ρ wa4 v4 wb4 r he hb rfl
   replace hw:=hw.tr hb
   clear r he hb
   generalize (wa4.heap.size,wb4.heap.size)::iv3=iv4 at*
   conv=>whnf
   intro ρe we re
   exact⟨_,rfl,hw.tr re.bel,rfl⟩
  have hXl:X.length=colsM M:=by
   have h4:(((X.length:Nat):Int)==((colsM M:Nat):Int))=true:=by simpa using hXl
   have:=eq_of_beq h4
   omega
  conv=>whnf
  refine callE_S (callE_con (Φ:=fun _ w' v w2=>∃d,v= .bool d∧(d=true→SmallB w S (.slice ax X.length cx) X)) (fun ρ w' r=>briefW_c (fun g hg=>by have:=hS g hg;have:=r.baseLe;omega) (fun g hg=>(hw.tr r.bel).block g (hS g hg)) hx) ?_)
  rintro ρ wa4 v4 wb4 r he hb ⟨d,rfl,hd⟩
  replace hw:=hw.tr hb
  clear r he hb
  generalize (wa4.heap.size,wb4.heap.size)::iv3=iv4 at*
  conv=>whnf
  cases d with
  |false=>
   conv=>whnf
   refine callE_S (callE_con (Φ:=fun _ w' v w2=>v= .bool true) (fun ρ w' r=>awake_c w') ?_)
   rintro ρ wa5 v5 wb5 r he hb rfl
   replace hw:=hw.tr hb
   clear r he hb
   generalize (wa5.heap.size,wb5.heap.size)::iv4=iv5 at*
   conv=>whnf
   intro ρe we re
   exact⟨_,rfl,hw.tr re.bel,rfl⟩
  |true=>
   have hXs:=hd rfl
   clear hd
   conv=>whnf
   refine BrS.mk (fun hYl=>?_) (fun hYl=>?_)
   ·conv=>whnf
    refine callE_S (callE_con (Φ:=fun _ w' v w2=>v= .bool true) (fun ρ w' r=>awake_c w') ?_)
    rintro ρ wa5 v5 wb5 r he hb rfl
    replace hw:=hw.tr hb
    clear r he hb
    generalize (wa5.heap.size,wb5.heap.size)::iv4=iv5 at*
    conv=>whnf
    intro ρe we re
    exact⟨_,rfl,hw.tr re.bel,rfl⟩
   have hYl:Y.length=M.length:=by
    have h4:(((Y.length:Nat):Int)==((M.length:Nat):Int))=true:=by simpa using hYl
    have:=eq_of_beq h4
    omega
   conv=>whnf
   refine callE_S (callE_con (Φ:=fun _ w' v w2=>∃d,v= .bool d∧(d=true→SmallB w S (.slice ay Y.length cy) Y)) (fun ρ w' r=>briefW_c (fun g hg=>by have:=hS g hg;have:=r.baseLe;omega) (fun g hg=>(hw.tr r.bel).block g (hS g hg)) hy) ?_)
   rintro ρ wa5 v5 wb5 r he hb ⟨d,rfl,hd⟩
   replace hw:=hw.tr hb
   clear r he hb
   generalize (wa5.heap.size,wb5.heap.size)::iv4=iv5 at*
   conv=>whnf
   cases d with
   |false=>
    conv=>whnf
    refine callE_S (callE_con (Φ:=fun _ w' v w2=>v= .bool true) (fun ρ w' r=>awake_c w') ?_)
    rintro ρ wa6 v6 wb6 r he hb rfl
    replace hw:=hw.tr hb
    clear r he hb
    generalize (wa6.heap.size,wb6.heap.size)::iv5=iv6 at*
    conv=>whnf
    intro ρe we re
    exact⟨_,rfl,hw.tr re.bel,rfl⟩
   |true=>
    have hYs:=hd rfl
    clear hd
    conv=>whnf
    obtain⟨hxL,hxq,-⟩:=hXs
    have hxl:(X.map ratioP).length=colsM M:=by rw[List.length_map];exact hXl
    obtain⟨hall,hM5,hc5,hht,hbq,hA,hes,hp4,hXq,hKq⟩:=alt_sizes hM he hxq
    have hdiff:=times_diff (x:=X.map ratioP) (valsM_row hall)
    have hRq:=altR_sz hM he hxq
    have hBq:=altB_sz hM he hxq
    have hback:=hdiff.back hxl
    have hXlen:(altX M (X.map ratioP)).length=colsM M:=xvecTo_length ..
    have hRlen:(altR M (X.map ratioP)).length=colsM M:=by rw[plusF_length];exact hXlen
    have hTl:(timesF (valsM M) (X.map ratioP)).length=M.length:=by rw[timesF_length,valsM_len]
    rw[hXl]at hcx hxL hx ⊢
    generalize X.map ratioP=x at*
    clear hmx
    refine callE_S (callE_con (Φ:=fun _ w' v w2=>RatsC w2 (Nw (fun _=>False) w' w2) v (timesF (valsM M) x)) (fun ρ w' r=>rTimes_c (h:=4) (fun g hg=>by have:=hS g hg;have:=r.baseLe;omega) (RatML.keep hM.2.2.1 (fun g hg=>(hw.tr r.bel).block g (hS g hg))) (RatsL.keep hxL (fun g hg=>(hw.tr r.bel).block g (hS g hg))) (fun r hr=>(valsM_row hall r hr).trans hxl.symm) hht (fun q hq=>by have:=hxq q hq;omega) (by decide) (by omega) (by rw[valsM_len];omega)) ?_)
    rintro ρ wa6 v6 wb6 r he hb k1
    replace hw:=hw.tr hb
    have hbv:=RatsC.got (S:=fun _=>False) k1 r.baseLe (iv:=(wa6.heap.size,wb6.heap.size)::iv5) List.mem_cons_self
    clear r he hb
    generalize (wa6.heap.size,wb6.heap.size)::iv5=iv6 at*
    clear k1
    obtain⟨ab,cb,rfl,hcb,-⟩:=ListR.shape hbv
    rw[hTl]at hcb hbv ⊢
    conv=>whnf
    refine callE_S (callE_con (Φ:=fun _ w' v w2=>∃vx vk,v= .tuple #[.agg #[.int .i64 0,vx,vk,.slice none 0 0],.int .i64 0]∧RatsC w2 (Nw (fun _=>False) w' w2) vx (altX M x)∧RatMC w2 (Nw (fun _=>False) w' w2) vk (altK M x)) (fun ρ w' r=>SolveT_c (Rel.old r hS) (RatMR.weak (RatMR.keep h (fun g hg=>(hw.tr r.bel).block g (hS g hg))) fun _ hg=>(.inl hg:Cv S w.heap.size _ _)) (SmallM.weak (SmallM.keep hM (fun g hg=>(hw.tr r.bel).block g (hS g hg))) fun _ hg=>(.inl hg:Cv S w.heap.size _ _)) he hxq (RatsC.weak (RatsC.rel hbv r (oldF w)) fun _ hg=>(cvF hg:Cv S w.heap.size _ _))) ?_)
    rintro ρ wa7 v7 wb7 r he hb ⟨vx,vk,rfl,k1,k2⟩
    replace hw:=hw.tr hb
    replace hbv:=RatsC.past (iv':=(wa7.heap.size,wb7.heap.size)::iv6) hbv r (oldF w) he fun x hx=>List.mem_cons_of_mem _ hx
    have hX:=RatsC.got (S:=fun _=>False) k1 r.baseLe (iv:=(wa7.heap.size,wb7.heap.size)::iv6) List.mem_cons_self
    have hK:=RatMC.got (S:=fun _=>False) k2 r.baseLe (iv:=(wa7.heap.size,wb7.heap.size)::iv6) List.mem_cons_self
    clear r he hb
    generalize (wa7.heap.size,wb7.heap.size)::iv6=iv7 at*
    clear k1 k2
    obtain⟨av,cv,rfl,hcv,-⟩:=ListR.shape hX
    rw[hXlen]at hcv hX ⊢
    obtain⟨ak,ck,rfl,hck,hmk⟩:=SlicesR.shape hK
    unfold maxLen at hmk
    conv=>whnf
    refine BrS.mk (fun hne=>by simp at hne) (fun _=>?_)
    conv=>whnf
    refine callE_S (callE_con (Φ:=fun _ w' v w2=>v= .int .i64 25) (fun ρ w' r=>CheckNo_c (Rel.old r hS) (RatMR.weak (RatMR.keep h (fun g hg=>(hw.tr r.bel).block g (hS g hg))) fun _ hg=>(.inl hg:Cv S w.heap.size _ _)) (SmallM.weak (SmallM.keep hM (fun g hg=>(hw.tr r.bel).block g (hS g hg))) fun _ hg=>(.inl hg:Cv S w.heap.size _ _)) he hxq (RatsC.weak (RatsC.rel hbv r (oldF w)) fun _ hg=>(cvF hg:Cv S w.heap.size _ _)) (RatsR.weak (RatsR.keep hy (fun g hg=>(hw.tr r.bel).block g (hS g hg))) fun _ hg=>(.inl hg:Cv S w.heap.size _ _)) (SmallB.weak (SmallB.keep hYs (fun g hg=>(hw.tr r.bel).block g (hS g hg))) fun _ hg=>(.inl hg:Cv S w.heap.size _ _))) ?_)
    rintro ρ wa8 v8 wb8 r he hb rfl
    replace hw:=hw.tr hb
    clear hbv
    replace hX:=RatsC.past (iv':=(wa8.heap.size,wb8.heap.size)::iv7) hX r (oldF w) he fun x hx=>List.mem_cons_of_mem _ hx
    replace hK:=RatMC.past (iv':=(wa8.heap.size,wb8.heap.size)::iv7) hK r (oldF w) he fun x hx=>List.mem_cons_of_mem _ hx
    clear r he hb
    generalize (wa8.heap.size,wb8.heap.size)::iv7=iv8 at*
    conv=>whnf
    refine drawn_of_pi hτ hmix [.x 0,.x 1,.x 2,.x 3,.x 4,.x 5] (by kernel_rfl) (by kernel_rfl) ?_
    conv=>whnf
    refine callE_con (Φ:=fun _ w' v w2=>RatC w2 (Nw (fun _=>False) w' w2) v (((-1:Int):Rat))) (fun ρ w' r=>rWholeAll_c (-1) w' (by decide) (by decide)) ?_
    rintro ρ wa9 v9 wb9 r he hb hn
    replace hw:=hw.tr hb
    replace hX:=RatsC.past (iv':=(wa9.heap.size,wb9.heap.size)::iv8) hX r (oldF w) he fun x hx=>List.mem_cons_of_mem _ hx
    replace hK:=RatMC.past (iv':=(wa9.heap.size,wb9.heap.size)::iv8) hK r (oldF w) he fun x hx=>List.mem_cons_of_mem _ hx
    have hm1:=hn.got (S:=fun _=>False) r.baseLe (iv:=(wa9.heap.size,wb9.heap.size)::iv8) List.mem_cons_self
    clear r he hb hn
    generalize (wa9.heap.size,wb9.heap.size)::iv8=iv9 at*
    obtain⟨s9_0,s9_1,s9_2,s9_3,s9_4,s9_5,s9_6,s9_7,rfl⟩:=hm1.shape
    conv=>whnf
    rw[show ((-1:Int):Rat)= -1 by decide]at hm1
    refine callE_con (Φ:=fun _ w' v w2=>RatsC w2 (Nw (fun _=>False) w' w2) v (altR M x)) (fun ρ w' r=>rPlus_c (Rel.old r hS) (RatsL.weak (RatsL.keep hxL (fun g hg=>(hw.tr r.bel).block g (hS g hg))) fun _ hg=>(.inl hg:Cv S w.heap.size _ _)) (RatsC.l (RatsC.weak (RatsC.rel hX r (oldF w)) fun _ hg=>(cvF hg:Cv S w.heap.size _ _)) fun q hq=>by have:=hXq q hq;omega) ((RatC.weak (hm1.rel r (oldF w)) fun _ hg=>(cvF hg:Cv S w.heap.size _ _)).l (by decide)) (.inr (hxl.trans hXlen.symm)) (by rw[hXlen];omega) (fun q hq=>by have:=hXq q hq;have h6:rl (-1:Rat)≤1:=(by decide);omega)) ?_
    rintro ρ wa10 v10 wb10 r he hb k1
    replace hw:=hw.tr hb
    clear hX
    replace hK:=RatMC.past (iv':=(wa10.heap.size,wb10.heap.size)::iv9) hK r (oldF w) he fun x hx=>List.mem_cons_of_mem _ hx
    clear hm1
    have hR:=RatsC.got (S:=fun _=>False) k1 r.baseLe (iv:=(wa10.heap.size,wb10.heap.size)::iv9) List.mem_cons_self
    clear r he hb
    generalize (wa10.heap.size,wb10.heap.size)::iv9=iv10 at*
    clear k1
    obtain⟨ar,cr,rfl,hcr,-⟩:=ListR.shape hR
    rw[hRlen]at hcr hR ⊢
    conv=>whnf
    refine⟨colsM M,colsM M,rfl,rfl,Nat.le_refl _,by omega,by omega,?_⟩
    conv=>whnf
    refine⟨Nat×(Option Addr×Nat)×World×Iv,fun z=>⟨[(11,.o (.v (.slice z.2.1.1 (colsM M) z.2.1.2))),(1,.o (.v (.slice ax (colsM M) cx))),(8,.o (.p 0 0)),(10,.o (.v (.slice ar (colsM M) cr))),(12,.o (.v (.int .i64 ((z.1:Nat):Int))))],[(0,.box T.Solution [.v (.int .i64 0),.v (.slice av (colsM M) cv),.v (.slice ak (altK M x).length ck),.v (.slice none 0 0)])],2,z.2.2.2,z.2.2.1⟩,fun z=>(altK M x).length-z.1,
     fun z=>z.1≤(altK M x).length∧Bel w.heap.size w z.2.2.1∧RatMC z.2.2.1 (Cv (fun _=>False) w.heap.size z.2.2.2) (.slice ak (altK M x).length ck) (altK M x)∧RatsC z.2.2.1 (Cv (fun _=>False) w.heap.size z.2.2.2) (.slice ar (colsM M) cr) (altR M x)∧RatsL z.2.2.1 (Cv (fun _=>False) w.heap.size z.2.2.2) (.slice z.2.1.1 (colsM M) z.2.1.2) (altB M x z.1),?_,?_⟩
    ·intro ρ w' r
     exact⟨(0,(some ⟨(ρ 1).g,0,none⟩,colsM M),w',((ρ 1).g,(ρ 1).g+1)::iv10),⟨Nat.zero_le _,hw.tr r.bel,RatMC.weak (RatMC.rel hK r (oldF w)) (fun g hg=>hg.mono fun p hp=>List.mem_cons_of_mem _ hp),RatsC.weak (RatsC.rel hR r (oldF w)) (fun g hg=>hg.mono fun p hp=>List.mem_cons_of_mem _ hp),by dsimp only;unfold altB;rw[backTo_zero];exact zerosL r (id:=1) rfl (by unfold maxLen;omega)⟩,
      Sub.give r (id:=1) (t:=11) rfl rfl ⟨rfl,trivial⟩ rfl ⟨rfl,rfl,rfl,rfl,trivial⟩ (by simp[ScE,SV.sc,At.sc])⟩
    clear hw hK hR
    rintro⟨k,⟨ak0,ck0⟩,w1,iv⟩ ⟨hk,hw,hK,hR,hBk⟩
    dsimp only at hk hw hK hR hBk ⊢
    conv=>whnf
    refine BrS.mk (fun hkb=>?_) (fun hkb=>?_)
    ·have hkb:k<(altK M x).length:=by simpa using hkb
     obtain⟨rk,hrk⟩:∃r,(altK M x)[k]? =some r:=⟨_,List.getElem?_eq_getElem hkb⟩
     obtain⟨hrl,hrq⟩:=hKq rk (List.mem_of_getElem? hrk)
     have hown:=mem_free.1 (free_get (kernel_get hrk).1)
     have hck0:rk.getD ((freeL (altF M x).2 (colsM M)).getD k 0) 0=1:=by rw[kernel_own hrk hrk,if_pos rfl]
     have hcz:∀(j:Nat) s,j≠k→(altK M x)[j]? =some s→s.getD ((freeL (altF M x).2 (colsM M)).getD k 0) 0=0:=fun j s hj hs=>by rw[kernel_own hrk hs,if_neg hj]
     obtain⟨ad1,u1,ha1,hR1,q1,p1⟩:=SlicesR.load hK hrk
     obtain⟨au1,cu1,rfl,hcu1,-⟩:=ListR.shape hR1
     conv=>whnf
     refine⟨ad1,ha1,⟨by omega,by omega⟩,?_⟩
     conv=>whnf
     refine⟨.slice au1 rk.length cu1,fun ρ w' r=>?_,?_⟩
     ·rw[Int.toNat_natCast,cell_of_heap (w:=w1) (w2:=w') (by rw[addB];exact Rel.same r (oldF w) q1)]
      exact p1
     conv=>whnf
     refine BrS.mk (fun hne=>by simp[hrl]at hne) (fun _=>?_)
     conv=>whnf
     clear ha1 hR1 q1 p1
     refine⟨Nat×World×Iv,fun z=>⟨[(11,.o (.v (.slice ak0 (colsM M) ck0))),(1,.o (.v (.slice ax (colsM M) cx))),(8,.o (.p 0 0)),(10,.o (.v (.slice ar (colsM M) cr))),(12,.o (.v (.int .i64 ((k:Nat):Int)))),(13,.o (.v (.int .i64 ((z.1:Nat):Int))))],[(0,.box T.Solution [.v (.int .i64 0),.v (.slice av (colsM M) cv),.v (.slice ak (altK M x).length ck),.v (.slice none 0 0)])],2,z.2.2,z.2.1⟩,fun z=>colsM M-z.1,
      fun z=>z.1≤colsM M∧(∀f,f<z.1→¬(rk.getD f 0=1∧∀(j:Nat) s,j≠k→(altK M x)[j]? =some s→s.getD f 0=0))∧Bel w.heap.size w z.2.1∧RatMC z.2.1 (Cv (fun _=>False) w.heap.size z.2.2) (.slice ak (altK M x).length ck) (altK M x)∧RatsC z.2.1 (Cv (fun _=>False) w.heap.size z.2.2) (.slice ar (colsM M) cr) (altR M x)∧RatsL z.2.1 (Cv (fun _=>False) w.heap.size z.2.2) (.slice ak0 (colsM M) ck0) (altB M x k),?_,?_⟩
     ·intro ρ w' r
      exact⟨(0,w',iv),⟨Nat.zero_le _,fun f hf=>by dsimp only at hf;omega,hw.tr r.bel,RatMC.rel hK r (oldF w),RatsC.rel hR r (oldF w),RatsL.rel hBk r (oldF w)⟩,
       Sub.gen [] r ⟨rfl,trivial⟩ ⟨rfl,rfl,rfl,rfl,rfl,rfl,trivial⟩ (by simp[ScH,Blk.scopd,At.sc]) (by simp[ScE,SV.sc,At.sc]) (by rfl) (fun lo hi h=>h)⟩
     clear hw hK hR hBk
     rintro⟨f,w2,iv⟩ ⟨hf,hno,hw,hK,hR,hBk⟩
     dsimp only at hf hno hw hK hR hBk ⊢
     conv=>whnf
     refine drawn_of_pi hτ hmix [.x 0,.x 1,.x 2,.x 3,.x 4,.x 5,.x 6,.x 7,.x 8,.x 9,.x 10,.x 11,.x 12,.x 13,.x 14,.x 15,.x 16,.x 17,.x 18,.x 19,.x 20,.x 21,.x 22,.x 23,.x 24] (by kernel_rfl) (by kernel_rfl) ?_
     conv=>whnf
     refine BrS.mk (fun hfb=>?_) (fun hfb=>?_)
     ·have hfb:f<colsM M:=by simpa using hfb
      obtain⟨q,hq⟩:∃q,rk[f]? =some q:=⟨_,List.getElem?_eq_getElem (by omega)⟩
      have hqd:rk.getD f 0=q:=by rw[List.getD,hq];rfl
      have hql:=hrq q (List.mem_of_getElem? hq)
      obtain⟨ad2,u2,ha2,hR2,q2,p2⟩:=SlicesR.load hK hrk
      obtain⟨au2,cu2,rfl,hcu2,-⟩:=ListR.shape hR2
      obtain⟨adq,csq,haq,hF,_,hl⟩:=ListR.load hR2 hq
      obtain⟨b3,a3,n3,c3,b4,a4,n4,c4,rfl,hF⟩:=hF
      conv=>whnf
      refine⟨ad2,ha2,⟨by omega,by omega⟩,?_⟩
      conv=>whnf
      refine⟨.slice au2 rk.length cu2,fun ρ w' r=>?_,?_⟩
      ·rw[Int.toNat_natCast,cell_of_heap (w:=w2) (w2:=w') (by rw[addB];exact Rel.same r (oldF w) q2)]
       exact p2
      conv=>whnf
      refine⟨adq,haq,⟨by omega,by omega⟩,?_⟩
      conv=>whnf
      refine⟨[.bool b3,.slice a3 n3 c3,.bool b4,.slice a4 n4 c4],rfl,fun ρ w' r j u hu=>?_,?_⟩
      ·obtain⟨k1,k2⟩:=hl j u hu
       rw[Int.toNat_natCast,cell_of_heap (w:=w2) (w2:=w') (by rw[addB,addB];exact Rel.same r (oldF w) k1)]
       exact k2
      conv=>whnf
      refine callE_con (Φ:=fun _ w' v w2=>RatC w2 (Nw (fun _=>False) w' w2) v (((1:Int):Rat))) (fun ρ w' r=>pubWhole_c 1 w' (by decide) (by decide)) ?_
      rintro ρ wa21 v21 wb21 r he hb hn
      replace hw:=hw.tr hb
      replace hK:=RatMC.past (iv':=(wa21.heap.size,wb21.heap.size)::iv) hK r (oldF w) he fun x hx=>List.mem_cons_of_mem _ hx
      replace hR:=RatsC.past (iv':=(wa21.heap.size,wb21.heap.size)::iv) hR r (oldF w) he fun x hx=>List.mem_cons_of_mem _ hx
      replace hBk:=RatsL.past (iv':=(wa21.heap.size,wb21.heap.size)::iv) hBk r (oldF w) he fun x hx=>List.mem_cons_of_mem _ hx
      replace hF:=hF.past (iv':=(wa21.heap.size,wb21.heap.size)::iv) r (oldF w) he fun x hx=>List.mem_cons_of_mem _ hx
      have hone:=hn.got (S:=fun _=>False) r.baseLe (iv:=(wa21.heap.size,wb21.heap.size)::iv) List.mem_cons_self
      clear r he hb hn
      generalize (wa21.heap.size,wb21.heap.size)::iv=iv21 at*
      obtain⟨s21_0,s21_1,s21_2,s21_3,s21_4,s21_5,s21_6,s21_7,rfl⟩:=hone.shape
      conv=>whnf
      rw[show ((1:Int):Rat)=1 by decide]at hone
      refine callE_con (Φ:=fun _ w' v w2=>v= .int .i64 (rs (q-1))) (fun ρ w' r=>vCmp_c (Rel.old r (oldF w)) ((hF.rel r (oldF w)).v (by omega)) ((hone.rel r (oldF w)).v (by decide))) ?_
      rintro ρ wa22 v22 wb22 r he hb rfl
      replace hw:=hw.tr hb
      replace hK:=RatMC.past (iv':=(wa22.heap.size,wb22.heap.size)::iv21) hK r (oldF w) he fun x hx=>List.mem_cons_of_mem _ hx
      replace hR:=RatsC.past (iv':=(wa22.heap.size,wb22.heap.size)::iv21) hR r (oldF w) he fun x hx=>List.mem_cons_of_mem _ hx
      replace hBk:=RatsL.past (iv':=(wa22.heap.size,wb22.heap.size)::iv21) hBk r (oldF w) he fun x hx=>List.mem_cons_of_mem _ hx
      clear hF
      clear hone
      clear r he hb
      generalize (wa22.heap.size,wb22.heap.size)::iv21=iv22 at*
      conv=>whnf
      clear hl hR2 q2 p2
      refine BrS.mk (fun hs=>?_) (fun hs=>?_)
      ·have hs:q≠1:=fun e=>by rw[rs_eq.2 e]at hs;exact absurd hs (by decide)
       conv=>whnf
       refine⟨((f+1:Nat):Int),by rw[wrap64]<;>omega,?_⟩
       conv=>whnf
       intro ρ3 w3 r3
       exact⟨(f+1,w3,_),⟨hfb,fun f2 h3=>by
         rcases Nat.lt_or_ge f2 f with h4|h4
         ·exact hno f2 h4
         ·rw[show f2=f by dsimp only at h3;omega];exact(fun e=>hs (hqd.symm.trans e.1)),hw.tr r3.bel,RatMC.rel hK r3 (oldF w),RatsC.rel hR r3 (oldF w),RatsL.rel hBk r3 (oldF w)⟩,
        Sub.gen [] r3 ⟨rfl,trivial⟩ ⟨rfl,rfl,rfl,rfl,rfl,rfl,trivial⟩ (by simp[ScH,Blk.scopd,At.sc]) (by simp[ScE,SV.sc,At.sc]) (by rfl) (fun lo hi h=>h),by dsimp only;omega⟩
      have hs:q=1:=rs_eq.1 (by simpa using hs)
      conv=>whnf
      refine callE_con (Φ:=fun _ w' v w2=>∃d,v= .bool d∧(d=true→∀(j:Nat) s,j≠k→(altK M x)[j]? =some s→s.getD f 0=0)∧((∀(j:Nat) s,j≠k→(altK M x)[j]? =some s→s.getD f 0=0)→d=true)) (fun ρ w' r=>alone_c (n:=colsM M) (Rel.old r (oldF w)) (RatMC.rel hK r (oldF w)) (fun r hr=>(hKq r hr).1) hfb) ?_
      rintro ρ wa23 v23 wb23 r he hb ⟨d,rfl,hd1,hd2⟩
      replace hw:=hw.tr hb
      replace hK:=RatMC.past (iv':=(wa23.heap.size,wb23.heap.size)::iv22) hK r (oldF w) he fun x hx=>List.mem_cons_of_mem _ hx
      replace hR:=RatsC.past (iv':=(wa23.heap.size,wb23.heap.size)::iv22) hR r (oldF w) he fun x hx=>List.mem_cons_of_mem _ hx
      replace hBk:=RatsL.past (iv':=(wa23.heap.size,wb23.heap.size)::iv22) hBk r (oldF w) he fun x hx=>List.mem_cons_of_mem _ hx
      clear r he hb
      generalize (wa23.heap.size,wb23.heap.size)::iv22=iv23 at*
      cases d with
      |false=>
       conv=>whnf
       refine⟨((f+1:Nat):Int),by rw[wrap64]<;>omega,?_⟩
       conv=>whnf
       intro ρ3 w3 r3
       exact⟨(f+1,w3,_),⟨hfb,fun f2 h3=>by
         rcases Nat.lt_or_ge f2 f with h4|h4
         ·exact hno f2 h4
         ·rw[show f2=f by dsimp only at h3;omega];exact(fun e=>absurd (hd2 e.2) (by decide)),hw.tr r3.bel,RatMC.rel hK r3 (oldF w),RatsC.rel hR r3 (oldF w),RatsL.rel hBk r3 (oldF w)⟩,
        Sub.gen [] r3 ⟨rfl,trivial⟩ ⟨rfl,rfl,rfl,rfl,rfl,rfl,trivial⟩ (by simp[ScH,Blk.scopd,At.sc]) (by simp[ScE,SV.sc,At.sc]) (by rfl) (fun lo hi h=>h),by dsimp only;omega⟩
      |true=>
       have hz:=hd1 rfl
       clear hd1 hd2
       conv=>whnf
       refine BrS.mk (fun hne=>absurd (eq_of_beq hne) (by omega)) (fun _=>?_)
       obtain⟨qf,hqf⟩:∃q,(altR M x)[f]? =some q:=⟨_,List.getElem?_eq_getElem (by omega)⟩
       have hqfl:=hRq qf (List.mem_of_getElem? hqf)
       have hqfe:qf=x.getD ((freeL (altF M x).2 (colsM M)).getD k 0) 0:=by
        rw[←hdiff.found hfb hrk (hqd.trans hs) hz]
        have h5:=plusF_get (xs:=x) (ys:=altX M x) (b:= -1) (j:=f) (by omega)
        rw[hqf,if_pos (by omega)]at h5
        injection h5
       obtain⟨ad4,u4,ha4,hR4,q4,p4⟩:=SlicesR.load hK hrk
       obtain⟨au4,cu4,rfl,hcu4,-⟩:=ListR.shape hR4
       obtain⟨adf,csf,haf,hFf,_,hlf⟩:=ListR.load hR hqf
       obtain⟨d3,e3,m3,o3,d4,e4,m4,o4,rfl,hFf⟩:=hFf
       conv=>whnf
       refine drawn_of_pi hτ hmix [.x 0,.x 1,.x 2,.x 3,.x 4,.x 5,.x 6,.x 7,.x 8,.x 9,.x 10,.x 11] (by kernel_rfl) (by kernel_rfl) ?_
       conv=>whnf
       refine⟨ad4,ha4,⟨by omega,by omega⟩,?_⟩
       conv=>whnf
       refine⟨.slice au4 rk.length cu4,fun ρ w' r=>?_,?_⟩
       ·rw[Int.toNat_natCast,cell_of_heap (w:=wb23) (w2:=w') (by rw[addB];exact Rel.same r (oldF w) q4)]
        exact p4
       conv=>whnf
       refine⟨adf,haf,⟨by omega,by omega⟩,?_⟩
       conv=>whnf
       refine⟨[.bool d3,.slice e3 m3 o3,.bool d4,.slice e4 m4 o4],rfl,fun ρ w' r j u hu=>?_,?_⟩
       ·obtain⟨k1,k2⟩:=hlf j u hu
        rw[Int.toNat_natCast,cell_of_heap (w:=wb23) (w2:=w') (by rw[addB,addB];exact Rel.same r (oldF w) k1)]
        exact k2
       conv=>whnf
       refine callE_con (Φ:=fun _ w' v w2=>RatsC w2 (Nw (fun _=>False) w' w2) v (altB M x (k+1))) (fun ρ w' r=>(show plusF (altB M x k) rk qf=altB M x (k+1) by rw[hqfe];exact backTo_succ hrk)▸rPlus_c (Rel.old r (oldF w)) (RatsL.rel hBk r (oldF w)) (RatsC.l (RatsC.rel hR4 r (oldF w)) fun q hq=>by have:=hrq q hq;omega) ((hFf.rel r (oldF w)).l (by omega)) (.inr ((backTo_length k).trans hrl.symm)) (by omega) (fun q hq=>by have:=hrq q hq;omega)) ?_
       rintro ρ wa24 v24 wb24 r he hb k1
       replace hw:=hw.tr hb
       replace hK:=RatMC.past (iv':=(wa24.heap.size,wb24.heap.size)::iv23) hK r (oldF w) he fun x hx=>List.mem_cons_of_mem _ hx
       replace hR:=RatsC.past (iv':=(wa24.heap.size,wb24.heap.size)::iv23) hR r (oldF w) he fun x hx=>List.mem_cons_of_mem _ hx
       clear hBk
       have hBk2:=RatsC.l (RatsC.got (S:=fun _=>False) k1 r.baseLe (iv:=(wa24.heap.size,wb24.heap.size)::iv23) List.mem_cons_self) (hBq (k+1))
       clear r he hb
       generalize (wa24.heap.size,wb24.heap.size)::iv23=iv24 at*
       clear k1
       have hbl2:(altB M x (k+1)).length=colsM M:=backTo_length _
       obtain⟨ak1,ck1,rfl,hck1,-⟩:=ListR.shape hBk2
       rw[hbl2]at hck1 hBk2 ⊢
       conv=>whnf
       refine⟨((k+1:Nat):Int),by rw[wrap64]<;>omega,?_⟩
       conv=>whnf
       intro ρ3 w3 r3
       exact⟨(k+1,(ak1,ck1),w3,_),⟨hkb,hw.tr r3.bel,RatMC.rel hK r3 (oldF w),RatsC.rel hR r3 (oldF w),RatsL.rel hBk2 r3 (oldF w)⟩,
        Sub.gen [] r3 ⟨rfl,trivial⟩ ⟨rfl,rfl,rfl,rfl,rfl,trivial⟩ (by simp[ScH,Blk.scopd,At.sc]) (by simp[ScE,SV.sc,At.sc]) (by rfl) (fun lo hi h=>h),by dsimp only;omega⟩
     have hfb:f=colsM M:=Nat.le_antisymm hf (by simpa using hfb)
     exact absurd ⟨hck0,hcz⟩ (hno _ (by rw[hfb];exact hown.1))
    have hkb:k=(altK M x).length:=Nat.le_antisymm hk (by simpa using hkb)
    have hbe:altB M x k=altR M x:=by rw[hkb];exact hback
    rw[hbe]at hBk
    clear hK
    conv=>whnf
    refine⟨Nat×World×Iv,fun z=>⟨[(1,.o (.v (.slice ax (colsM M) cx))),(10,.o (.v (.slice ar (colsM M) cr))),(11,.o (.v (.slice ak0 (colsM M) ck0))),(14,.o (.v (.int .i64 ((z.1:Nat):Int))))],[],2,z.2.2,z.2.1⟩,fun z=>colsM M-z.1,
     fun z=>z.1≤colsM M∧Bel w.heap.size w z.2.1∧RatsC z.2.1 (Cv (fun _=>False) w.heap.size z.2.2) (.slice ar (colsM M) cr) (altR M x)∧RatsL z.2.1 (Cv (fun _=>False) w.heap.size z.2.2) (.slice ak0 (colsM M) ck0) (altR M x),?_,?_⟩
    ·intro ρ w' r
     exact⟨(0,w',iv),⟨Nat.zero_le _,hw.tr r.bel,RatsC.rel hR r (oldF w),RatsL.rel hBk r (oldF w)⟩,
      Sub.gen [] r trivial ⟨rfl,rfl,rfl,rfl,trivial⟩ (by simp[ScH]) (by simp[ScE,SV.sc,At.sc]) (by rfl) (fun lo hi h=>h)⟩
    clear hw hR hBk
    rintro⟨i,w2,iv⟩ ⟨hi,hw,hR,hBk⟩
    dsimp only at hi hw hR hBk ⊢
    conv=>whnf
    refine BrS.mk (fun hib=>?_) (fun hib=>?_)
    ·have hib:i<colsM M:=by simpa using hib
     obtain⟨q,hq⟩:∃q,(altR M x)[i]? =some q:=⟨_,List.getElem?_eq_getElem (by omega)⟩
     have hqr:=hRq q (List.mem_of_getElem? hq)
     obtain⟨ad1,cs1,ha1,hF1,_,hl1⟩:=ListR.load hBk hq
     obtain⟨f0,f1,f2,f3,f4,f5,f6,f7,rfl,hF1⟩:=hF1
     obtain⟨ad2,cs2,ha2,hF2,_,hl2⟩:=ListR.load hR hq
     obtain⟨g0,g1,g2,g3,g4,g5,g6,g7,rfl,hF2⟩:=hF2
     conv=>whnf
     refine drawn_of_pi hτ hmix [.x 0,.x 1,.x 2,.x 3,.x 4,.x 5,.x 6,.x 7,.x 8,.x 9] (by kernel_rfl) (by kernel_rfl) ?_
     conv=>whnf
     refine⟨ad1,ha1,⟨by omega,by omega⟩,?_⟩
     conv=>whnf
     refine⟨[.bool f0,.slice f1 f2 f3,.bool f4,.slice f5 f6 f7],rfl,fun ρ w' r j u hu=>?_,?_⟩
     ·obtain⟨k1,k2⟩:=hl1 j u hu
      rw[Int.toNat_natCast,cell_of_heap (w:=w2) (w2:=w') (by rw[addB,addB];exact Rel.same r (oldF w) k1)]
      exact k2
     conv=>whnf
     refine⟨ad2,ha2,⟨by omega,by omega⟩,?_⟩
     conv=>whnf
     refine⟨[.bool g0,.slice g1 g2 g3,.bool g4,.slice g5 g6 g7],rfl,fun ρ w' r j u hu=>?_,?_⟩
     ·obtain⟨k1,k2⟩:=hl2 j u hu
      rw[Int.toNat_natCast,cell_of_heap (w:=w2) (w2:=w') (by rw[addB,addB];exact Rel.same r (oldF w) k1)]
      exact k2
     conv=>whnf
     refine callE_con (Φ:=fun _ w' v w2=>v= .int .i64 (rs (q-q))) (fun ρ w' r=>rCmp_c (Rel.old r (oldF w)) (hF1.rel r (oldF w)) ((hF2.rel r (oldF w)).l (by omega))) ?_
     rintro ρ wa41 v41 wb41 r he hb rfl
     replace hw:=hw.tr hb
     replace hR:=RatsC.past (iv':=(wa41.heap.size,wb41.heap.size)::iv) hR r (oldF w) he fun x hx=>List.mem_cons_of_mem _ hx
     replace hBk:=RatsL.past (iv':=(wa41.heap.size,wb41.heap.size)::iv) hBk r (oldF w) he fun x hx=>List.mem_cons_of_mem _ hx
     clear r he hb
     generalize (wa41.heap.size,wb41.heap.size)::iv=iv41 at*
     conv=>whnf
     refine BrS.mk (fun hs=>by rw[rs_eq.2 rfl]at hs;exact absurd hs (by decide)) (fun _=>?_)
     conv=>whnf
     refine⟨((i+1:Nat):Int),by rw[wrap64]<;>omega,?_⟩
     conv=>whnf
     intro ρ3 w3 r3
     exact⟨(i+1,w3,_),⟨hib,hw.tr r3.bel,RatsC.rel hR r3 (oldF w),RatsL.rel hBk r3 (oldF w)⟩,
      Sub.gen [] r3 trivial ⟨rfl,rfl,rfl,rfl,trivial⟩ (by simp[ScH]) (by simp[ScE,SV.sc,At.sc]) (by rfl) (fun lo hi h=>h),by dsimp only;omega⟩
    conv=>whnf
    refine callE_S (callE_con (Φ:=fun _ w' v w2=>v= .bool true) (fun ρ w' r=>awake_c w') ?_)
    rintro ρ wa41 v41 wb41 r he hb rfl
    replace hw:=hw.tr hb
    clear r he hb
    generalize (wa41.heap.size,wb41.heap.size)::iv=iv41 at*
    conv=>whnf
    intro ρe we re
    exact⟨_,rfl,hw.tr re.bel,rfl⟩
end Go.Ex
