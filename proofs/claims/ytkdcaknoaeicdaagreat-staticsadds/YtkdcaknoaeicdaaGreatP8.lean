/- A part of the proof: texts L17 to X131. Each tells its conditions in its theorems. -/
import Derived.Test.YtkdcaknoaeicdaaGreatP5
import Derived.Test.YtkdcaknoaeicdaaGreatP7
namespace Go.Ex
variable{M:List (List Rat)}{pv:List Nat}{l:List Rat}{E F m:Mx}{B C a j r:Nat}{p σ:Nat->Nat}{u v x:Nat->Rat}{d q:Rat}
def jY:List Nat->(Nat->Rat)->Rat
 |[],_=>0
 |t::l,g=>g t+jY l g
theorem xC{g h:Nat->Rat}:∀{l:List Nat},(∀t∈l,g t=h t)->jY l g=jY l h
 |[],_=>rfl
 |t::l,e=>by show g t+_=h t+_;rw[e t aI,xC fun s hs=>e s (aB _ hs)]
theorem zq{g:Nat->Rat}:∀{l:List Nat},(∀t∈l,g t=0)->jY l g=0
 |[],_=>rfl
 |t::l,e=>by show g t+_=0;rw[e t aI,zq fun s hs=>e s (aB _ hs),bV]
theorem uN(g:Nat->Rat):∀l k:List Nat,jY (l++k) g=jY l g+jY k g
 |[],k=>(Rat.zero_add _).symm
 |t::l,k=>by show g t+jY (l++k) g=g t+jY l g+jY k g;rw[uN g l k,Rat.add_assoc]
theorem Bz(g:Nat->Rat):∀l:List Nat,jY l (fun t=> -g t)= -jY l g
 |[]=>rfl
 |t::l=>by show -g t+jY l _= -(g t+jY l g);rw[Bz g l,Rat.neg_add]
theorem uO(p:Nat->Bool)(g:Nat->Rat):∀l:List Nat,jY l g=jY (l.filter p) g+jY (l.filter fun t=> !p t) g
 |[]=>(bV 0).symm
 |t::l=>by
  show g t+jY l g=_;rw[uO p g l,List.filter_cons,List.filter_cons]
  cases p t with
  |true=>show _=g t+_+_;rw[Rat.add_assoc];rfl
  |false=>
   show _=jY (l.filter p) g+(g t+_)
   rw[<-Rat.add_assoc,Rat.add_comm (g t),Rat.add_assoc]
theorem xD{g:Nat->Rat}{s:Nat}:∀{l:List Nat},l.Nodup->s∈l->(∀t∈l,t≠s->g t=0)->jY l g=g s
 |[],_,hm,_=>by cases hm
 |t::l,hn,hm,h=>by
  show g t+jY l g=g s;have hn2:=List.nodup_cons.1 hn;rcases List.mem_cons.1 hm with rfl|hm
  ·rw[zq fun u hu=>h u (aB _ hu) fun e=>hn2.1 (e▸hu),bV]
  ·rw[h t aI (fun e=>hn2.1 (e▸hm)),Rat.zero_add,xD hn2.2 hm fun u hu=>h u (aB _ hu)]
theorem xE{i t:Nat}{v:Rat}:(l.set i v).getD t 0=if i=t∧i<l.length then v else l.getD t 0:=by
 simp only[List.getD,List.getElem?_set]
 by_cases h:i=t
 ·subst h;by_cases hl:i<l.length
  ·simp[hl]
  ·simp[hl]
 ·simp[h]
theorem xF{F:Nat->List Rat}{pv:List Nat}{f:Nat->Rat}(hF:∀i,F (i+1)=(F i).set (pv.getD i 0) (f i)){t:Nat}(ht:t∉pv):∀i,i<=pv.length->(F i).getD t 0=(F 0).getD t 0
 |0,_=>rfl
 |i+1,h=>by
  rw[hF,xE,aF fun e=>ht (by rw[<-e.1,List.getD,aA (by omega)];exact aV _)];exact xF hF ht i (by omega)
theorem Gm(hp:pv.Pairwise (· < ·)){i:Nat}(hij:j<i)(hi:i<pv.length):pv.getD j 0<pv.getD i 0:=by
 rw[List.getD,List.getD,aA hi,aA (by omega)];exact List.pairwise_iff_getElem.1 hp j i _ _ hij
theorem mn{F:Nat->List Rat}{pv:List Nat}{f:Nat->Rat}{n:Nat}(hF:∀i,F (i+1)=(F i).set (pv.getD i 0) (f i))(hl:∀i,(F i).length=n)(hp:pv.Pairwise (· < ·))(hn:∀p∈pv,p<n){j:Nat}:∀i,i<=pv.length->j<i->(F i).getD (pv.getD j 0) 0=f j
 |0,_,h=>by omega
 |i+1,h,hj=>by
  rw[hF,xE];rcases aO j i with h1|h1
  ·have:=Gm hp h1 (by omega);rw[aF (by omega)];exact mn hF hl hp hn i (by omega) h1
  ·have e:j=i:=by omega
   subst e;have hm:pv.getD j 0<(F j).length:=by rw[hl];exact hn _ (by rw[List.getD,aA (by omega)];exact aV _)
   rw[if_pos ⟨rfl,hm⟩]
abbrev iR(pv:List Nat)(n:Nat):List Nat:=(List.range n).filter fun c=>decide (c∉pv)
section
variable{M:List (List Rat)}{x:List Rat}{n:Nat}
end
structure Diff(A:List (List Rat))(pv:List Nat)(n:Nat)(x:List Rat):Prop where
 up:pv.Pairwise (· < ·)
 lt:∀p∈pv,p<n
 le:pv.length<=A.length
 unit:∀i j,i<pv.length->j<A.length->cd A j (pv.getD i 0)=if j=i then 1 else 0
 sum:∀j,j<A.length->jY (List.range n) (fun t=>cd A j t*x.getD t 0)=cd A j n
section
variable{A:List (List Rat)}{pv:List Nat}{n:Nat}{x:List Rat}
theorem q8{t:Nat}(h:t∈pv):∃j,j<pv.length∧pv.getD j 0=t:=by
 obtain⟨j,hj,rfl⟩:=List.mem_iff_getElem.1 h;exact⟨j,hj,by rw[List.getD,aA hj];rfl⟩
theorem oM{c t:Nat}(ht:t∉pv)(hc:c<n):(fZ A pv n c pv.length).getD t 0=if t=c then 1 else 0:=by
 rw[xF (F:=fZ A pv n c) (fun i=>gN A pv n c i) ht _ (aE _)];show((List.replicate n (0:Rat)).set c 1).getD t 0=_;rw[xE,bE];by_cases h:c=t
 ·rw[if_pos ⟨h,hc⟩,if_pos h.symm]
 ·rw[aF (fun e=>h e.1),aF (fun e=>h e.symm)];simp only[List.getD,List.getElem?_replicate]
  split<;>rfl
theorem Diff.Ln(h:Diff A pv n x){c:Nat}(hj:j<pv.length):(fZ A pv n c pv.length).getD (pv.getD j 0) 0= -(cd A j c):=
 mn (F:=fZ A pv n c) (f:=fun i=> -(cd A i c)) (fun i=>gN A pv n c i) (j4 A pv n c) h.up h.lt _ (aE _) hj
theorem rV{t:Nat}(ht:t∉pv):(gJ A pv n pv.length).getD t 0=0:=by
 rw[xF (F:=gJ A pv n) (fun i=>gO A pv n i) ht _ (aE _)];show(List.replicate n (0:Rat)).getD t 0=0;simp only[List.getD,List.getElem?_replicate]
 split<;>rfl
theorem Diff.Lh(h:Diff A pv n x)(hj:j<pv.length):(gJ A pv n pv.length).getD (pv.getD j 0) 0=cd A j n:=
 mn (F:=gJ A pv n) (f:=fun i=>cd A i n) (fun i=>gO A pv n i) (j5 A pv n) h.up h.lt _ (aE _) hj
theorem q9:(iR pv n).Nodup:=List.Pairwise.filter _ List.nodup_range
theorem kV{c:Nat}:c∈iR pv n↔c<n∧c∉pv:=by
 unfold iR;rw[List.mem_filter,List.mem_range,decide_eq_true_eq]
theorem Diff.rest(h:Diff A pv n x){t:Nat}(ht:t<n):x.getD t 0+(gJ A pv n pv.length).getD t 0* -1=jY (iR pv n) fun c=>x.getD c 0*(fZ A pv n c pv.length).getD t 0:=by
 by_cases hp:t∈pv
 ·obtain⟨j,hj,rfl⟩:=q8 hp;have hs:=h.sum j (Nat.lt_of_lt_of_le hj h.le);rw[uO (fun c=>decide (c∉pv)),xD (s:=pv.getD j 0) (l:=(List.range n).filter fun t=> !decide (t∉pv)) (List.Pairwise.filter _ List.nodup_range) (List.mem_filter.2 ⟨List.mem_range.2 ht,by rw[bG fun e=>e hp];rfl⟩) (fun s hs hne=>?_),h.unit j j hj (Nat.lt_of_lt_of_le hj h.le),if_pos rfl,bp]at hs
  ·rw[h.Lh hj,xC (h:=fun c=> -(cd A j c*x.getD c 0)) fun c hc=>by rw[h.Ln hj,Rat.mul_neg,bh],Bz,<-hs];generalize x.getD (pv.getD j 0) 0=q;generalize jY _ _=s;rw[Rat.mul_neg,Rat.mul_one,Rat.neg_add,<-Rat.add_assoc,Rat.add_comm q,Rat.add_assoc,Rat.add_neg_cancel,bV]
  ·have hs2:s∈pv:=by simpa using(List.mem_filter.1 hs).2
   obtain⟨i,hi,rfl⟩:=q8 hs2;rw[h.unit i j hi (Nat.lt_of_lt_of_le hj h.le),aF (fun e=>hne (by rw[e])),bC]
 ·rw[rV hp,bC,bV,xD (s:=t) q9 (kV.2 ⟨ht,hp⟩) fun c hc hne=>by rw[oM hp (kV.1 hc).1,aF (Ne.symm hne),bA],oM hp ht,if_pos rfl,Rat.mul_one]
theorem oN{k:Nat}(hk:k<(iR pv n).length):(iR pv n).getD k 0∈iR pv n:=by rw[List.getD,aA hk];exact aV hk
theorem mo{k:Nat}{r:List Rat}(h:(eE A pv n n)[k]? =some r):k<(iR pv n).length∧r=fZ A pv n ((iR pv n).getD k 0) pv.length:=by
 unfold eE at h;rw[aM]at h;obtain⟨c,hc,rfl⟩:=Option.map_eq_some_iff.1 h;refine⟨(aC.1 hc).1,?_⟩;rw[List.getD,hc];rfl
theorem Gn{i k:Nat}(hi:i<(iR pv n).length)(hk:k<(iR pv n).length)(e:(iR pv n).getD i 0=(iR pv n).getD k 0):i=k:=by
 rw[List.getD,List.getD,aA hi,aA hk]at e;rcases bm i k with h|h|h
 ·exact absurd e (List.pairwise_iff_getElem.1 q9 i k hi hk h)
 ·exact h
 ·exact absurd e.symm (List.pairwise_iff_getElem.1 q9 k i hk hi h)
theorem xG{k i:Nat}{r s:List Rat}(hr:(eE A pv n n)[k]? =some r)(hs:(eE A pv n n)[i]? =some s):s.getD ((iR pv n).getD k 0) 0=if i=k then 1 else 0:=by
 obtain⟨hk,-⟩:=mo hr;obtain⟨hi,rfl⟩:=mo hs;have hm:=kV.1 (oN hk);rw[oM hm.2 (kV.1 (oN hi)).1];by_cases h:i=k
 ·rw[h,if_pos rfl,if_pos rfl]
 ·rw[aF (fun e=>h (Gn hi hk e.symm)),aF h]
end
theorem mH(f:Nat->Nat->Rat)(m:Nat):∀n,cR (fun i=>cR (f i) m) n=cR (fun j=>cR (fun i=>f i j) n) m
 |0=>(dQ m).symm
 |n+1=>by
  show cR (fun i=>cR (f i) m) n+cR (f n) m=cR (fun j=>cR (fun i=>f i j) n+f n j) m;rw[fO,mH f m n]
theorem qd(x y:List Rat):∀n,ef x y n=cR (fun t=>x.getD t 0*y.getD t 0) n
 |0=>rfl
 |n+1=>by rw[ef,qd x y n];rfl
theorem uP{f:Nat->Rat}:∀{n:Nat},(∀k,k<n->0<=f k)->0<=cR f n
 |0,_=>Rat.le_refl
 |n+1,h=>by
  have h1:=uP (n:=n) fun k hk=>h k (by omega);have h2:=h n (by omega);show 0<=cR f n+f n;grind
theorem uQ{f:Nat->Rat}:∀{n:Nat},(∀k,k<n->0<=f k)->cR f n<=0->∀k,k<n->f k=0
 |0,_,_,k,hk=>by omega
 |n+1,h,h0,k,hk=>by
  have h1:=uP (n:=n) fun k hk=>h k (by omega);have h2:=h n (by omega);have h3:cR f n+f n<=0:=h0;rcases aO k n with h4|h4
  ·exact uQ (fun k hk=>h k (by omega)) (by grind) k h4
  ·rw[show k=n by omega];grind
def Aj(m:Mx)(n w:Nat):Prop:=∀x:Nat->Rat,(∀t,t<w->cR (fun i=>x i*m i t) n=0)->∀i,i<n->x i=0
theorem Gq(f:Nat->Rat){n b:Nat}(ha:a<n)(hb:b<n):cR (fun i=>f (kN a b i)) n=cR f n:=by
 have h1:cR (fun i=>(if i=a then f b-f a else 0)+(if i=b then f a-f b else 0)) n=0:=by
  rw[fO,eS ha fun k _ hne=>aF hne,eS hb fun k _ hne=>aF hne,if_pos rfl,if_pos rfl];grind
 have h2:cR (fun i=>f (kN a b i)) n-cR f n=0:=by
  rw[<-rW,<-h1];refine cA fun k _=>?_;unfold kN;by_cases h3:k=a
  ·subst h3;rw[if_pos rfl,if_pos rfl];by_cases h4:k=b
   ·subst h4;rw[if_pos rfl];grind
   ·rw[aF h4];grind
  ·rw[aF h3,aF h3];by_cases h4:k=b
   ·subst h4;rw[if_pos rfl,if_pos rfl];grind
   ·rw[aF h4,aF h4];grind
 grind
theorem Ak(a b i:Nat):kN a b (kN a b i)=i:=by
 unfold kN;by_cases h1:i=a
 ·rw[if_pos h1];by_cases h2:b=a
  ·rw[if_pos h2];omega
  ·rw[aF h2,if_pos rfl];omega
 ·rw[aF h1];by_cases h2:i=b
  ·rw[if_pos h2,if_pos rfl];omega
  ·rw[aF h2,aF h1,aF h2]
theorem Jx{b i n:Nat}(ha:a<n)(hb:b<n)(hi:i<n):kN a b i<n:=by unfold kN;split<;>(try split)<;>omega
theorem Aj.kN{n w b:Nat}(h:Aj m n w)(ha:a<n)(hb:b<n):Aj (fun i t=>m (kN a b i) t) n w:=fun x hx i hi=>by
 have h1:=h (fun i=>x (Go.Ex.kN a b i)) (fun t ht=>by
  rw[<-hx t ht,<-Gq (fun i=>x i*m (Go.Ex.kN a b i) t) ha hb]
  exact cA fun k _=>by simp only[Ak]) (Go.Ex.kN a b i) (Jx ha hb hi)
 simp only[Ak]at h1;exact h1
section
variable{m m':Mx}{n w p:Nat}{κ:Rat}{q:Nat->Rat}
def kz(p:Nat)(q x:Nat->Rat)(n:Nat):Rat:=cR (fun j=>if j=p then 0 else x j*q j) n
theorem E7(hp:p<n)(h1:∀t,t<w->m' p t=κ*m p t)(h2:∀j t,j<n->j≠p->t<w->m' j t=m j t+q j*m' p t)(x:Nat->Rat){t:Nat}(ht:t<w):
  cR (fun j=>x j*m' j t) n=cR (fun j=>(if j=p then κ*(x p+kz p q x n)else x j)*m j t) n:=by
 have h3:cR (fun j=>x j*m' j t) n-cR (fun j=>(if j=p then κ*(x p+kz p q x n)else x j)*m j t) n=0:=by
  rw[<-rW];have h4:∀j,j<n->x j*m' j t-(if j=p then κ*(x p+kz p q x n)else x j)*m j t=(if j=p then 0 else x j*q j)*(κ*m p t)+(if j=p then -(kz p q x n*(κ*m p t))else 0):=fun j hj=>by
   by_cases h5:j=p
   ·subst h5;rw[if_pos rfl,if_pos rfl,if_pos rfl,h1 t ht];grind
   ·rw[aF h5,aF h5,aF h5,h2 j t hj h5 ht,h1 t ht];grind
  rw[cA h4,fO,kO,eS hp fun k _ hne=>aF hne,if_pos rfl];unfold kz;grind
 grind
theorem Aj.mix(hi:Aj m n w)(hκ:κ≠0)(hp:p<n)(h1:∀t,t<w->m' p t=κ*m p t)(h2:∀j t,j<n->j≠p->t<w->m' j t=m j t+q j*m' p t):Aj m' n w:=fun x hx=>by
 have h3:=hi _ fun t ht=>(E7 hp h1 h2 x ht).symm.trans (hx t ht);have h4:∀j,j<n->j≠p->x j=0:=fun j hj hne=>by have:=h3 j hj;rwa [aF hne]at this
 have h5:kz p q x n=0:=by
  unfold kz;rw[cA (g:=fun _=>0) fun j hj=>?_,dQ];by_cases h6:j=p
  ·rw[if_pos h6]
  ·rw[aF h6,h4 j hj h6,bC]
 have h6:=h3 p hp;rw[if_pos rfl,h5,bV]at h6;intro i hi;by_cases h7:i=p
 ·rw[h7];exact(Rat.mul_eq_zero.1 h6).resolve_left hκ
 ·exact h4 i hi h7
theorem Aj.Kg(hi:Aj m' n w)(hκ:κ≠0)(hp:p<n)(h1:∀t,t<w->m' p t=κ*m p t)(h2:∀j t,j<n->j≠p->t<w->m' j t=m j t+q j*m' p t):Aj m n w:=fun y hy=>by
 have hk:κ*κ⁻¹=1:=Rat.mul_inv_cancel _ hκ;have h3:=hi (fun j=>if j=p then y p*κ⁻¹-kz p q y n else y j) fun t ht=>by
  rw[E7 hp h1 h2 _ ht,<-hy t ht];refine cA fun j hj=>?_;have h5:kz p q (fun j=>if j=p then y p*κ⁻¹-kz p q y n else y j) n=kz p q y n:=by
   unfold kz;refine cA fun i _=>?_;by_cases h6:i=p
   ·rw[if_pos h6,if_pos h6]
   ·rw[aF h6,aF h6];simp only[aF h6]
  rw[h5,if_pos rfl];by_cases h6:j=p
  ·rw[if_pos h6,h6];grind
  ·rw[aF h6,aF h6]
 have h4:∀j,j<n->j≠p->y j=0:=fun j hj hne=>by have:=h3 j hj;rwa [aF hne]at this
 have h5:kz p q y n=0:=by
  unfold kz;rw[cA (g:=fun _=>0) fun j hj=>?_,dQ];by_cases h6:j=p
  ·rw[if_pos h6]
  ·rw[aF h6,h4 j hj h6,bC]
 have h6:=h3 p hp;rw[if_pos rfl,h5]at h6;intro i hi;by_cases h7:i=p
 ·rw[h7];grind
 ·exact h4 i hi h7
end
theorem Aj.congr{m':Mx}{n w:Nat}(h:Aj m n w)(e:∀i t,i<n->t<w->m' i t=m i t):Aj m' n w:=fun x hx=>h x fun t ht=>by
 rw[<-hx t ht];exact cA fun i hi=>by rw[e i t hi ht]
theorem Gr{s:List (List Rat)×List Nat}{c w:Nat}(hl:fp w s.1)(hle:s.2.length<=s.1.length):Aj (cd (db s c).1) s.1.length w↔Aj (cd s.1) s.1.length w:=by
 rcases iy c hle with⟨e,-⟩|⟨k,h1,h2,h3,e⟩
 ·rw[e]
 ·obtain⟨r1,r2⟩:=kU hl h1 h2 h3 e;have hp:s.2.length<s.1.length:=by omega
  have hs:kN s.2.length k s.2.length=k:=by unfold kN;rw[if_pos rfl]
  have hκ:(1 / cd s.1 k c)≠0:=fun e=>by have:=rU h3;rw[e,bA]at this;exact absurd this (by decide)
  have q1:∀t,t<w->cd (db s c).1 s.2.length t=(1 / cd s.1 k c)*(fun i t=>cd s.1 (kN s.2.length k i) t) s.2.length t:=fun t _=>by
   simp only[hs]
   rw[r1,bh]
  have q2:∀j t,j<s.1.length->j≠s.2.length->t<w->cd (db s c).1 j t=(fun i t=>cd s.1 (kN s.2.length k i) t) j t+(fun j=> -(cd s.1 (kN s.2.length k j) c)) j*cd (db s c).1 s.2.length t:=fun j t hj hne ht=>by
   rw[r2 j hj hne t ht,r1];have:kN s.2.length k j=if j=k then s.2.length else j:=by unfold kN;rw[aF hne]
   simp only[this]
  constructor
  ·intro h;have h4:=(Aj.Kg h hκ hp q1 q2).kN hp h2;exact h4.congr fun i t _ _=>by simp only[Ak]
  ·intro h;exact Aj.mix (h.kN hp h2) hκ hp q1 q2
theorem uR{M:List (List Rat)}{w:Nat}(hl:fp w M):∀cols,cols<=w->(Aj (cd (cG M cols).1) M.length w↔Aj (cd M) M.length w)
 |0,_=>Iff.rfl
 |c+1,h=>by
  have ih:=uR hl c (by omega);have hr:=dS hl c (by omega);have h1:=dw M c;rw[<-ih];have h2:=Gr (c:=c) hr.1 hr.2.1;rw[h1]at h2;rw[<-h2];unfold cG;rw[bT,List.foldl_append];exact Iff.rfl
def dh(E:Mx)(r n:Nat)(v:Nat->Rat):Prop:=∃c:Nat->Rat,∀t,t<n->v t=cR (fun i=>c i*E i t) r
structure Rf(E:Mx)(p:Nat->Nat)(r n:Nat):Prop where
 lt:∀i,i<r->p i<n
 mono:∀i j,i<j->j<r->p i<p j
 unit:∀i j,i<r->j<r->E j (p i)=if j=i then 1 else 0
 lead:∀i t,i<r->t<p i->E i t=0
section
variable{E F:Mx}{p q:Nat->Nat}{r s n:Nat}{v:Nat->Rat}
theorem Rf.coeff(h:Rf E p r n)(hv:dh E r n v):∀t,t<n->v t=cR (fun i=>v (p i)*E i t) r:=by
 obtain⟨c,hc⟩:=hv;intro t ht;rw[hc t ht];refine cA fun i hi=>?_;rw[hc (p i) (h.lt i hi),eS hi fun k hk hne=>by rw[h.unit i k hi hk,aF hne,bA],h.unit i i hi hi,if_pos rfl,Rat.mul_one]
theorem Rf.Ik(h:Rf E p r n)(hv:dh E r n v){t:Nat}(ht:t<n)(h0:v t≠0)(hz:∀k,k<t->v k=0):∃i,i<r∧p i=t:=by
 refine Decidable.byContradiction fun hno=>h0 ?_;rw[h.coeff hv t ht,cA (g:=fun _=>0) fun i hi=>?_,dQ];rcases bm (p i) t with h1|h1|h1
 ·rw[hz _ h1,bC]
 ·exact absurd ⟨i,hi,h1⟩ hno
 ·rw[h.lead i t hi h1,bA]
theorem Rf.J4(h:Rf E p r n)(k:Rf F q s n)(hE:∀i,i<r->dh F s n (E i)){i:Nat}(hi:i<r):∃j,j<s∧q j=p i:=
 k.Ik (hE i hi) (h.lt i hi) (by rw[h.unit i i hi hi,if_pos rfl];decide) fun t ht=>h.lead i t hi ht
theorem Rf.Gs(h:Rf E p r n)(k:Rf F q s n)(hE:∀i,i<r->dh F s n (E i))(hF:∀j,j<s->dh E r n (F j)):∀i,i<r->i<s∧p i=q i:=by
 intro i
 induction i using Nat.strongRecOn with
 |ind i ih=>
  intro hi;obtain⟨j,hj,e1⟩:=h.J4 k hE hi;have hji:i<=j:=by
   refine Nat.le_of_not_lt fun hlt=>?_;have h1:=(ih j hlt (by omega)).2;have h2:=h.mono j i hlt hi;omega
  have his:i<s:=by omega
  refine⟨his,?_⟩;obtain⟨l,hl,e2⟩:=k.J4 h hF his;have hli:i<=l:=by
   refine Nat.le_of_not_lt fun hlt=>?_;have h1:=(ih l hlt hl).2;have h2:=k.mono l i hlt his;omega
  have h3:q i<=q j:=by
   rcases aO i j with h4|h4
   ·exact Nat.le_of_lt (k.mono i j h4 hj)
   ·rw[show i=j by omega];exact aE _
  have h5:p i<=p l:=by
   rcases aO i l with h4|h4
   ·exact Nat.le_of_lt (h.mono i l h4 hl)
   ·rw[show i=l by omega];exact aE _
  omega
theorem Rf.one(h:Rf E p r n)(k:Rf F q s n)(hE:∀i,i<r->dh F s n (E i))(hF:∀j,j<s->dh E r n (F j)):r=s∧(∀i,i<r->p i=q i)∧∀i t,i<r->t<n->E i t=F i t:=by
 have h1:=h.Gs k hE hF;have h2:=k.Gs h hF hE;have hrs:r=s:=by
  rcases bm r s with h3|h3|h3
  ·have:=(h2 r h3).1;omega
  ·exact h3
  ·have:=(h1 s h3).1;omega
 refine⟨hrs,fun i hi=>(h1 i hi).2,fun i t hi ht=>?_⟩;rw[k.coeff (hE i hi) t ht,eS (i:=i) (by omega) fun j hj hne=>by rw[<-(h1 j (by omega)).2,h.unit j i (by omega) hi,aF (Ne.symm hne),bC],<-(h1 i hi).2,h.unit i i hi hi,if_pos rfl,bp]
end
theorem dh.row{n i:Nat}(hi:i<r):dh E r n (E i):=⟨fun k=>if k=i then 1 else 0,fun t _=>by
 rw[eS hi fun k _ hne=>by simp only[aF hne,bC]]
 simp only[if_pos,bp]⟩
theorem dh.add{n:Nat}(h:dh E r n u)(k:dh E r n v)(x:Rat):dh E r n fun t=>u t+x*v t:=by
 obtain⟨c,hc⟩:=h;obtain⟨d,hd⟩:=k;refine⟨fun i=>c i+x*d i,fun t ht=>?_⟩;show u t+x*v t=cR (fun i=>(c i+x*d i)*E i t) r;rw[hc t ht,hd t ht,<-eF,<-fO];exact cA fun i _=>by grind
theorem dh.mul{n:Nat}(h:dh E r n u)(x:Rat):dh E r n fun t=>u t*x:=by
 obtain⟨c,hc⟩:=h;refine⟨fun i=>c i*x,fun t ht=>?_⟩;show u t*x=cR (fun i=>(c i*x)*E i t) r;rw[hc t ht,<-kO];exact cA fun i _=>by grind
theorem dh.congr{n:Nat}(h:dh E r n u)(e:∀t,t<n->v t=u t):dh E r n v:=by
 obtain⟨c,hc⟩:=h;exact⟨c,fun t ht=>by rw[e t ht,hc t ht]⟩
theorem dh.trans{s n:Nat}(h:dh E r n v)(k:∀i,i<r->dh F s n (E i)):dh F s n v:=by
 obtain⟨c,hc⟩:=h;have key:∀m,m<=r->dh F s n fun t=>cR (fun i=>c i*E i t) m:=by
  intro m
  induction m with
  |zero=>intro _;exact⟨fun _=>0,fun t _=>by rw[cA (g:=fun _=>0) fun i _=>bC _,dQ];rfl⟩
  |succ m ih=>
   intro hm;exact(ih (by omega)).add (k m (by omega)) (c m)
 exact(key r (aE _)).congr fun t ht=>hc t ht
def Gt(s:List (List Rat)×List Nat):Prop:=(∀i j,i<j->j<s.2.length->s.2.getD i 0<s.2.getD j 0)∧∀i t,i<s.2.length->t<s.2.getD i 0->cd s.1 i t=0
theorem Gt.step{n c:Nat}{s:List (List Rat)×List Nat}(h:Gt s)(hr:K7 n c s)(hc:c<n):Gt (db s c):=by
 obtain⟨hl,hle,hz,hpc,hu⟩:=hr;rcases iy c hle with⟨e,-⟩|⟨k,h1,h2,h3,e⟩
 ·rw[e];exact h
 ·obtain⟨r1,r2⟩:=kU hl h1 h2 h3 e;have e2:(db s c).2=s.2++[c]:=by rw[e]
  have hold:∀i,i<s.2.length->(db s c).2.getD i 0=s.2.getD i 0:=fun i hi=>by rw[e2,List.getD,aK hi,<-List.getD]
  have hnew:(db s c).2.getD s.2.length 0=c:=by rw[e2,List.getD,aN (aE _),bH];rfl
  have hlt:∀i,i<s.2.length->s.2.getD i 0<c:=fun i hi=>hpc _ (by rw[List.getD,aA hi];exact aV _);have hlen:(db s c).2.length=s.2.length+1:=by rw[e2];simp
  refine⟨fun i j hij hj=>?_,fun i t hi ht=>?_⟩
  ·rw[hlen]at hj;rcases aO j s.2.length with h4|h4
   ·rw[hold i (by omega),hold j h4];exact h.1 i j hij h4
   ·rw[show j=s.2.length by omega,hnew,hold i (by omega)];exact hlt i (by omega)
  ·rw[hlen]at hi;rcases aO i s.2.length with h4|h4
   ·rw[hold i h4]at ht;have h5:=hlt i h4;rw[r2 i (by omega) (by omega) t (by omega),hz k t h1 h2 (by omega),aF (by omega),h.2 i t h4 ht,bC,bA,Rat.zero_add]
   ·rw[show i=s.2.length by omega]at ht ⊢;rw[hnew]at ht;rw[r1,hz k t h1 h2 ht,bC]
theorem rX{M:List (List Rat)}{n:Nat}(hl:fp n M):∀cols,cols<=n->Gt (cG M cols)
 |0,_=>⟨fun _ _ _ h=>(by cases h),fun _ _ h=>(by cases h)⟩
 |c+1,h=>by
  have ih:=rX hl c (by omega);have hr:=dS hl c (by omega);unfold cG at ih hr ⊢;rw[bT,List.foldl_append];exact ih.step hr (by omega)
theorem xK{n:Nat}(hl:fp n M):Rf (cd (cG M n).1) (fun i=>(cG M n).2.getD i 0) (cG M n).2.length n:=by
 obtain⟨h1,h2,h3,h4,h5⟩:=dS hl n (aE _);obtain⟨k1,k2⟩:=rX hl n (aE _);refine⟨fun i hi=>h4 _ (by rw[List.getD,aA hi];exact aV _),k1,fun i j hi hj=>h5 i j hi (by omega),k2⟩
theorem Il{s:List (List Rat)×List Nat}{c n:Nat}(hl:fp n s.1)(hle:s.2.length<=s.1.length):(∀j,j<s.1.length->dh (cd s.1) s.1.length n (cd (db s c).1 j))∧∀j,j<s.1.length->dh (cd (db s c).1) s.1.length n (cd s.1 j):=by
 rcases iy c hle with⟨e,-⟩|⟨k,h1,h2,h3,e⟩
 ·rw[e];exact⟨fun j hj=>dh.row hj,fun j hj=>dh.row hj⟩
 ·obtain⟨r1,r2⟩:=kU hl h1 h2 h3 e;have hp:s.2.length<s.1.length:=by omega
  have a1:dh (cd s.1) s.1.length n (cd (db s c).1 s.2.length):=((dh.row h2).mul (1 / cd s.1 k c)).congr fun t _=>r1 t;have b1:dh (cd (db s c).1) s.1.length n (cd s.1 k):=((dh.row hp).mul (cd s.1 k c)).congr fun t _=>by rw[r1,Rat.mul_assoc,bh (1 / _),rU h3,Rat.mul_one]
  refine⟨fun j hj=>?_,fun j hj=>?_⟩
  ·by_cases h4:j=s.2.length
   ·rw[h4];exact a1
   ·exact((dh.row (show (if j=k then s.2.length else j)<s.1.length by split<;>omega)).add (dh.row h2) (-(cd s.1 (if j=k then s.2.length else j) c)*(1 / cd s.1 k c))).congr fun t ht=>by rw[r2 j hj h4 t ht];grind
  ·by_cases h4:j=k
   ·rw[h4];exact b1
   ·obtain⟨i,hi,hne,hij⟩:∃i,i<s.1.length∧i≠s.2.length∧(if i=k then s.2.length else i)=j:=by
     by_cases h5:j=s.2.length
     ·exact⟨k,h2,fun e6=>h4 (h5.trans e6.symm),by rw[if_pos rfl,h5]⟩
     ·exact⟨j,hj,h5,aF h4⟩
    refine((dh.row hi).add (dh.row hp) (cd s.1 j c)).congr fun t ht=>?_;rw[r2 i hi hne t ht,hij,r1];grind
theorem iq{M:List (List Rat)}{n:Nat}(hl:fp n M):∀cols,cols<=n->(∀j,j<M.length->dh (cd M) M.length n (cd (cG M cols).1 j))∧∀j,j<M.length->dh (cd (cG M cols).1) M.length n (cd M j)
 |0,_=>⟨fun j hj=>dh.row hj,fun j hj=>dh.row hj⟩
 |c+1,h=>by
  obtain⟨i1,i2⟩:=iq hl c (by omega);have hr:=dS hl c (by omega);have h1:=dw M c;have h2:=Il (c:=c) hr.1 hr.2.1;rw[h1]at h2;have e:(cG M (c+1))=db (cG M c) c:=by unfold cG;rw[bT,List.foldl_append];rfl
  rw[e];exact⟨fun j hj=>(h2.1 j hj).trans i1,fun j hj=>(i2 j hj).trans h2.2⟩
theorem dh.cut{m n:Nat}(h:dh E m n v)(hz:∀i t,r<=i->i<m->t<n->E i t=0):dh E r n v:=by
 refine h.trans fun i hi=>?_;rcases aO i r with h1|h1
 ·exact dh.row h1
 ·exact⟨fun _=>0,fun t ht=>by rw[hz i t h1 hi ht,cA (g:=fun _=>0) fun k _=>bC _,dQ]⟩
theorem CC{n:Nat}{q:Nat->Nat}(hl:fp n M)(k:Rf F q r n)(h1:∀i,i<r->dh (cd M) M.length n (F i))(h2:∀j,j<M.length->dh F r n (cd M j)):
  (cG M n).2.length=r∧(∀i,i<r->(cG M n).2.getD i 0=q i)∧∀i t,i<r->t<n->cd (cG M n).1 i t=F i t:=by
 obtain⟨a1,a2⟩:=iq hl n (aE _);obtain⟨-,hle,hz,-,-⟩:=dS hl n (aE _);rw[dw]at hle hz;have h:=xK hl;obtain⟨e1,e2,e3⟩:=h.one k (fun i hi=>(a1 i (by omega)).trans h2) fun j hj=>((h1 j hj).trans a2).cut fun i t hi hm ht=>hz i t hi hm ht;exact⟨e1,fun i hi=>e2 i (by omega),fun i t hi ht=>e3 i t (by omega) ht⟩
structure Ru(E:Mx)(p:Nat->Nat)(r n:Nat):Prop where
 lt:∀i,i<r->p i<n
 inj:∀i j,i<r->j<r->p i=p j->i=j
 unit:∀i j,i<r->j<r->E j (p i)=if j=i then 1 else 0
 lead:∀i t,i<r->t<p i->E i t=0
def kp(E:Mx)(p:Nat->Nat)(r:Nat)(v:Nat->Rat)(k t:Nat):Rat:=v t-cR (fun i=>if p i<k then v (p i)*E i t else 0) r
theorem Gu(E:Mx)(p:Nat->Nat)(r:Nat)(v:Nat->Rat)(t:Nat):kp E p r v 0 t=v t:=by
 unfold kp;rw[cA (g:=fun _=>0) fun i _=>aF (by omega),dQ];grind
section
variable{E:Mx}{p:Nat->Nat}{r n:Nat}{v:Nat->Rat}
theorem Gv{k t:Nat}(h:∀i,i<r->p i≠k):kp E p r v (k+1) t=kp E p r v k t:=by
 unfold kp;rw[cA fun i hi=>?_];have:=h i hi;by_cases h1:p i<k
 ·rw[if_pos h1,if_pos (by omega)]
 ·rw[aF h1,aF (by omega)]
theorem Jy(h:Ru E p r n){i:Nat}(hi:i<r):kp E p r v (p i) (p i)=v (p i):=by
 unfold kp;rw[cA (g:=fun _=>0) fun j hj=>?_,dQ]
 ·grind
 ·by_cases h1:p j<p i
  ·rw[if_pos h1,h.unit i j hi hj,aF (fun e=>by rw[e]at h1;omega),bA]
  ·rw[aF h1]
theorem Gw(h:Ru E p r n){i t:Nat}(hi:i<r):kp E p r v (p i+1) t=kp E p r v (p i) t+ -(kp E p r v (p i) (p i))*E i t:=by
 rw[Jy h hi];unfold kp;have e:cR (fun j=>if p j<p i+1 then v (p j)*E j t else 0) r=cR (fun j=>(if p j<p i then v (p j)*E j t else 0)+(if j=i then v (p i)*E i t else 0)) r:=by
  refine cA fun j hj=>?_;by_cases h1:j=i
  ·subst h1;rw[if_pos (by omega),aF (by omega),if_pos rfl,Rat.zero_add]
  ·have h2:p j≠p i:=fun e=>h1 (h.inj j i hj hi e);rw[aF h1,bV];by_cases h3:p j<p i
   ·rw[if_pos h3,if_pos (by omega)]
   ·rw[aF h3,aF (by omega)]
 rw[e,fO,eS hi fun k _ hne=>aF hne,if_pos rfl];grind
theorem E8(h:Ru E p r n){i:Nat}(hi:i<r):kp E p r v n (p i)=0:=by
 unfold kp;rw[eS hi fun k hk hne=>?_,if_pos (h.lt i hi),h.unit i i hi hi,if_pos rfl]
 ·grind
 ·rw[if_pos (h.lt k hk),h.unit i k hi hk,aF hne,bA]
end
def jr(E:Mx)(r:Nat)(u:Nat->Rat)(k:Nat):Mx:=fun i t=>if i=r then u t / u k else E i t+ -(E i k)*(u t / u k)
theorem Ru.push{n k:Nat}(h:Ru E p r n)(hk:k<n)(hu:∀i,i<r->u (p i)=0)(h0:u k≠0)(hz:∀t,t<k->u t=0):
  Ru (jr E r u k) (fun i=>if i=r then k else p i) (r+1) n:=by
 have hne:∀i,i<r->p i≠k:=fun i hi e=>h0 (e▸hu i hi);have hone:u k / u k=1:=by rw[bc,Rat.mul_inv_cancel _ h0]
 have hz0:∀i,i<r->u (p i) / u k=0:=fun i hi=>by rw[hu i hi,bc,bC]
 refine⟨fun i hi=>?_,fun i j hi hj e=>?_,fun i j hi hj=>?_,fun i t hi ht=>?_⟩
 ·split
  ·exact hk
  ·exact h.lt i (by omega)
 ·by_cases h1:i=r
  ·by_cases h2:j=r
   ·omega
   ·rw[if_pos h1,aF h2]at e;exact absurd e.symm (hne j (by omega))
  ·by_cases h2:j=r
   ·rw[aF h1,if_pos h2]at e;exact absurd e (hne i (by omega))
   ·rw[aF h1,aF h2]at e;exact h.inj i j (by omega) (by omega) e
 ·unfold jr;by_cases h1:i=r
  ·rw[if_pos h1];by_cases h2:j=r
   ·rw[if_pos h2,if_pos (by omega),hone]
   ·rw[aF h2,aF (by omega),hone];grind
  ·rw[aF h1];by_cases h2:j=r
   ·rw[if_pos h2,aF (by omega),hz0 i (by omega)]
   ·rw[aF h2,hz0 i (by omega),bA,bV];exact h.unit i j (by omega) (by omega)
 ·unfold jr;by_cases h1:i=r
  ·rw[if_pos h1]at ht;rw[if_pos h1,hz t ht,bc,bC]
  ·rw[aF h1]at ht;rw[aF h1,h.lead i t (by omega) ht,Rat.zero_add];rcases aO t k with h2|h2
   ·rw[hz t h2,bc,bC,bA]
   ·rw[h.lead i k (by omega) (by omega)];grind
def jT(E:Mx)(r:Nat)(v:Nat->Rat):Mx:=fun i t=>if i=r then v t else E i t
section
variable{E:Mx}{p:Nat->Nat}{r n k:Nat}{u v:Nat->Rat}
theorem Ff(i:Nat)(hi:i<r):dh (jT E r v) (r+1) n (E i):=(dh.row (show i<r+1 by omega)).congr fun t _=>by unfold jT;rw[aF (by omega)]
theorem Jz(hu:∀t,t<n->u t=kp E p r v n t)(hl:∀i,i<r->p i<n):dh (jT E r v) (r+1) n u:=by
 refine⟨fun i=>if i=r then 1 else -(v (p i)),fun t ht=>?_⟩;rw[hu t ht];show kp E p r v n t=cR (fun i=>(if i=r then 1 else -(v (p i)))*jT E r v i t) r+(if r=r then 1 else -(v (p r)))*jT E r v r t;rw[if_pos rfl,cA (g:=fun i=> -(v (p i)*E i t)) fun i hi=>by unfold jT;rw[aF (by omega),aF (by omega),Rat.neg_mul],mF];unfold kp jT;rw[if_pos rfl,cA (g:=fun i=>v (p i)*E i t) fun i hi=>if_pos (hl i hi)];grind
theorem Gx(hu:dh (jT E r v) (r+1) n u):∀i,i<r+1->dh (jT E r v) (r+1) n (jr E r u k i):=fun i hi=>by
 by_cases h1:i=r
 ·exact(hu.mul (1 / u k)).congr fun t _=>by unfold jr;rw[if_pos h1,bc,bc,bp]
 ·exact((Ff i (by omega)).add hu (-(E i k)*(1 / u k))).congr fun t _=>by unfold jr;rw[aF h1,bc,bc];grind
theorem E9(h0:u k≠0):dh (jr E r u k) (r+1) n u:=((dh.row (show r<r+1 by omega)).mul (u k)).congr fun t _=>by
 unfold jr;rw[if_pos rfl,Rat.div_mul_cancel h0]
theorem pM(h0:u k≠0)(i:Nat)(hi:i<r):dh (jr E r u k) (r+1) n (E i):=((dh.row (show i<r+1 by omega)).add (E9 h0) (E i k / u k)).congr fun t _=>by
 unfold jr;rw[aF (by omega),bc,bc];grind
theorem zt(h0:u k≠0)(hu:∀t,t<n->u t=kp E p r v n t)(hl:∀i,i<r->p i<n):dh (jr E r u k) (r+1) n v:=by
 have h1:dh (jT E r u) (r+1) n v:=by
  refine⟨fun i=>if i=r then 1 else v (p i),fun t ht=>?_⟩;show v t=cR (fun i=>(if i=r then 1 else v (p i))*jT E r u i t) r+(if r=r then 1 else v (p r))*jT E r u r t;rw[if_pos rfl,cA (g:=fun i=>v (p i)*E i t) fun i hi=>by unfold jT;rw[aF (by omega),aF (by omega)]];unfold jT;rw[if_pos rfl,hu t ht];unfold kp;rw[cA (g:=fun i=>v (p i)*E i t) fun i hi=>if_pos (hl i hi)];grind
 refine h1.trans fun i hi=>?_;by_cases h2:i=r
 ·exact(E9 h0).congr fun t _=>by unfold jT;rw[if_pos h2]
 ·exact(pM h0 i (by omega)).congr fun t _=>by unfold jT;rw[aF h2]
end
def lA(row sw:List Rat)(by_:Rat):List Rat:=row.mapIdx (xA (-by_) sw)
theorem rY(row sw:List Rat)(b:Rat):(lA row sw b).length=row.length:=List.length_mapIdx
theorem xL(row sw:List Rat):lA row sw 0=row:=by
 refine bO fun j=>?_;rw[lA,List.getElem?_mapIdx]
 cases row[j]? with
 |none=>rfl
 |some q=>exact congrArg some (by rw[xA,Rat.neg_zero,bC,bV])
def nW(row:List Rat):Nat->Nat->Nat
 |0,k=>k
 |f+1,k=>if row.getD k 0=0 then nW row f (k+1)else k
def rZ(row:List Rat)(cols:Nat):Nat:=nW row cols 0
theorem Gz{row:List Rat}{k:Nat}:∀(f j:Nat),(∀i,j<=i->i<j+k->row.getD i 0=0)->k<=f->(k<f->row.getD (j+k) 0≠0)->nW row f j=j+k:=by
 induction k with
 |zero=>
  intro f j _ _ h
  cases f with
  |zero=>rfl
  |succ f=>rw[nW,aF (by have:=h (by omega);rwa [bq]at this)];rfl
 |succ k ih=>
  intro f j h0 hf h
  cases f with
  |zero=>omega
  |succ f=>
   rw[nW,if_pos (h0 j (aE _) (by omega)),ih f (j+1) (fun i h1 h2=>h0 i (by omega) (by omega)) (by omega) (fun h1=>by rw[Nat.add_assoc,Nat.add_comm 1 k];exact h (by omega))];omega
theorem Ea{row:List Rat}{cols k:Nat}(h0:∀i,i<k->row.getD i 0=0)(hk:k<=cols)(h:k<cols->row.getD k 0≠0):rZ row cols=k:=by
 rw[rZ,Gz (k:=k) cols 0 (fun i _ h2=>h0 i (by omega)) hk (fun h1=>by rw[aU];exact h h1),aU]
abbrev vC:=List (List Rat)×List (Option Nat)×List Nat
def fP(E:List (List Rat))(at_:List (Option Nat))(row:List Rat):Nat->List Rat
 |0=>row
 |k+1=>match at_.getD k none with
  |some j=>lA (fP E at_ row k) (E.getD j []) ((fP E at_ row k).getD k 0)
  |none=>fP E at_ row k
theorem gV(E:List (List Rat))(at_:List (Option Nat))(row:List Rat):∀k,(fP E at_ row k).length=row.length
 |0=>rfl
 |k+1=>by
  rw[fP];split
  ·rw[rY,gV E at_ row k]
  ·exact gV E at_ row k
def ff(E:List (List Rat))(u:List Rat)(p i:Nat):List (List Rat):=E.mapIdx fun j r=>if j<i then lA r u (r.getD p 0)else r
def j6(cols:Nat)(s:vC)(i:Nat)(row:List Rat):vC:=
 let r:=fP s.1 s.2.1 row cols
 let p:=rZ r cols
 if p=cols then s else
  let u:=r.map (· / r.getD p 0)
  (ff s.1 u p s.1.length++[u],s.2.1.set p (some s.1.length),s.2.2++[i])
def gP(M:List (List Rat))(cols:Nat):Nat->vC
 |0=>([],List.replicate cols none,[])
 |i+1=>j6 cols (gP M cols i) i (M.getD i [])
def cV(s:vC):Nat->List (List Rat)×List Nat×List Nat
 |0=>([],[],[])
 |k+1=>match s.2.1.getD k none with
  |some r=>((cV s k).1++[s.1.getD r []],(cV s k).2.1++[k],(cV s k).2.2++[s.2.2.getD r 0])
  |none=>cV s k
def dF(M:List (List Rat))(cols:Nat):List (List Rat)×List Nat×List Nat:=cV (gP M cols M.length) cols
structure r8(n cols i:Nat)(s:vC):Prop where
 len:fp n s.1
 at_:s.2.1.length=cols
 sw:s.2.2.length=s.1.length
 lt:∀(k r:Nat),s.2.1[k]? =some (some r)->r<s.1.length
 le:s.1.length<=i
 fr:∀j∈s.2.2,j<i
theorem fS(E:List (List Rat))(u:List Rat)(p i:Nat):(ff E u p i).length=E.length:=List.length_mapIdx
theorem D3(E:List (List Rat))(u:List Rat)(p:Nat):ff E u p 0=E:=by
 refine bO fun j=>?_;rw[ff,List.getElem?_mapIdx]
 cases E[j]? <;>rfl
theorem CE{E:List (List Rat)}{u:List Rat}{p i:Nat}{r:List Rat}(h:E[i]? =some r):(ff E u p i)[i]? =some r:=by
 rw[ff,List.getElem?_mapIdx,h];exact congrArg some (aF (Nat.lt_irrefl i))
theorem xM{E:List (List Rat)}{u:List Rat}{p i:Nat}{r:List Rat}(h:E[i]? =some r):ff E u p (i+1)=(ff E u p i).set i (lA r u (r.getD p 0)):=by
 refine bO fun j=>?_;have hi:=(aC.1 h).1;by_cases hj:i=j
 ·subst hj;rw[aT (by rw[fS];exact hi),ff,List.getElem?_mapIdx,h];exact congrArg some (if_pos (bl i))
 ·rw[aw hj,ff,ff,List.getElem?_mapIdx,List.getElem?_mapIdx]
  cases E[j]? with
  |none=>rfl
  |some r=>
   have e:(j<i+1)↔(j<i):=by omega
   simp only[Option.map_some,e]
theorem Fi{E:List (List Rat)}{u:List Rat}{p i n:Nat}(h:fp n E):fp n (ff E u p i):=fun r hr=>by
 obtain⟨j,hj⟩:=aR hr;rw[ff,List.getElem?_mapIdx]at hj
 cases hE:E[j]? with
 |none=>rw[hE]at hj;cases hj
 |some x=>
  rw[hE]at hj;have hx:=h x (aD hE);simp only[Option.map_some,Option.some.injEq]at hj;subst hj;split
  ·rw[rY];exact hx
  ·exact hx
theorem r8.start(n cols:Nat):r8 n cols 0 ([],List.replicate cols none,[]):=
 ⟨(fun r hr=>by cases hr),bE ..,rfl,(fun (k r:Nat) h=>by rw[List.getElem?_replicate]at h;split at h<;>cases h),aE _,fun j hj=>by cases hj⟩
theorem r8.step{n cols i:Nat}{s:vC}(h:r8 n cols i s){row:List Rat}(hr:row.length=n):r8 n cols (i+1) (j6 cols s i row):=by
 unfold j6;dsimp only
 split
 ·exact⟨h.len,h.at_,h.sw,h.lt,Nat.le_succ_of_le h.le,fun j hj=>Nat.lt_succ_of_lt (h.fr j hj)⟩
 ·refine⟨fun r hm=>?_,by simp[h.at_],by simp[h.sw,fS],fun k r hk=>?_,?_,fun j hj=>?_⟩
  ·rcases bK.1 hm with hm|hm
   ·exact Fi h.len r hm
   ·rw[bD]at hm;subst hm;rw[aL,gV,hr]
  ·dsimp only at hk ⊢;rw[List.length_append,fS,List.length_singleton];rw[List.getElem?_set]at hk;split at hk
   ·split at hk
    ·injection hk with hk;injection hk with hk;omega
    ·cases hk
   ·have:=h.lt k r hk;omega
  ·dsimp only
   rw[List.length_append,fS,List.length_singleton];have:=h.le;omega
  ·rcases bK.1 hj with hj|hj
   ·exact Nat.lt_succ_of_lt (h.fr j hj)
   ·rw[bD]at hj;omega
theorem xN{M:List (List Rat)}{n:Nat}(cols:Nat)(hM:fp n M):∀i,i<=M.length->r8 n cols i (gP M cols i)
 |0,_=>r8.start n cols
 |i+1,hi=>by
  have hm:=aA (l:=M) (show i<M.length by omega);refine(xN cols hM i (by omega)).step ?_;rw[List.getD,hm];exact hM _ (aD hm)
structure fT where
 nodes:List (Int×Int×Int)
 bars:List (Int×Int×Rat)
 cS:List (Int×Int×Rat)
def fT.cols(f:fT):Nat:=f.bars.length+f.cS.length
def fT.node(f:fT)(n:Int):Int×Int×Int:=f.nodes.getD n.toNat (0,0,0)
def xO(f:fT)(b:Int×Int×Rat):List Int:=[(f.node b.2.1).1-(f.node b.1).1,(f.node b.2.1).2.1-(f.node b.1).2.1,(f.node b.2.1).2.2-(f.node b.1).2.2]
def xP(M:List (List Int))(r c:Nat)(d:Int):List (List Int):=M.set r ((M.getD r []).set c ((M.getD r []).getD c 0+d))
def putAt(M:List (List Int))(r c:Nat)(d:Int):List (List Int):=M.set r ((M.getD r []).set c d)
def fQ(f:fT)(M:List (List Int))(i:Nat):Nat->List (List Int)
 |0=>M
 |k+1=>
  let b:=f.bars.getD i (0,0,0)
  let d:=(xO f b).getD k 0
  xP (xP (fQ f M i k) (3*b.1+k).toNat i d) (3*b.2.1+k).toNat i (-d)
def eU(f:fT):Nat->List (List Int)
 |0=>List.replicate (3*f.nodes.length) (List.replicate f.cols 0)
 |i+1=>fQ f (eU f i) i 3
def ei(f:fT):Nat->List (List Int)
 |0=>eU f f.bars.length
 |i+1=>
  let s:=f.cS.getD i (0,0,0)
  putAt (ei f i) (3*s.1+s.2.1).toNat (f.bars.length+i) 1
def ir(f:fT):List (List Int):=ei f f.cS.length
def dc(l:List Int):List Rat:=l.map fun(n:Int)=>(n:Rat)
def cM(f:fT):List (List Rat):=(ir f).map dc
def eN(M:List (List Rat))(cols:Nat):List (List Rat):=(List.range cols).map fun k=>M.map fun r=>r.getD k 0
abbrev Ld:=Int×Int×Int×Int
def CF(s:List Int)(r:Nat)(d:Int):List Int:=s.set r (s.getD r 0+d)
def dC(l:List Rat)(b:Rat):List Rat:=l.map (· *b)
def eh(a b:List Rat):List Rat:=a.mapIdx fun i x=>x*b.getD i 0
def cX(f:fT):List Rat:=f.bars.map (·.2.2)++f.cS.map (·.2.2)
def jU(M:List (List Rat))(b:List Rat):List (List Rat):=M.mapIdx fun i r=>r++[b.getD i 0]
def kD(M:List (List Rat))(cols:Nat):List (List Rat):=eE (dF M cols).1 (dF M cols).2.1 cols cols
def mr(M:List (List Rat))(b:List Rat)(cols:Nat):Option (List Rat):=
 let e:=dF (jU M b) (cols+1)
 if cols∈e.2.1 then none else some (gJ e.1 e.2.1 cols e.2.1.length)
def eI(st:List (List Rat))(fl:List Rat):List (List Rat):=st.map fun s=>st.map fun r=>ef (eh s fl) r s.length
def gB(st:List (List Rat))(fl x:List Rat):List Rat:=st.map fun s=> -(ef (eh s fl) x s.length)
def jV(st:List (List Rat))(c x:List Rat):Nat->List Rat
 |0=>x
 |i+1=>(jV st c x i).mapIdx fun k q=>q+c.getD i 0*(st.getD i []).getD k 0
def fD:fT:=⟨[(0,0,0),(0,0,4),(3,0,0)],[(0,2,1),(1,2,1)],[(0,0,0),(0,1,0),(0,2,0),(1,0,0),(1,1,0),(1,2,0),(2,1,0)]⟩
def Ib(B:Nat)(q:Rat):Prop:=∃z:Int,q=(z:Rat)∧z.natAbs<=B
theorem Ib.mono(h:Ib B q)(k:B<=C):Ib C q:=let⟨z,e,b⟩:=h;⟨z,e,ah b k⟩
theorem Ib.add{p:Rat}(h:Ib B p)(k:Ib C q):Ib (B+C) (p+q):=by
 obtain⟨z,rfl,b⟩:=h;obtain⟨y,rfl,c⟩:=k;exact⟨z+y,by rw[Rat.intCast_add],by omega⟩
theorem Ib.mul{p:Rat}(h:Ib B p)(k:Ib C q):Ib (B*C) (p*q):=by
 obtain⟨z,rfl,b⟩:=h;obtain⟨y,rfl,c⟩:=k;exact⟨z*y,by rw[Rat.intCast_mul],by rw[Int.natAbs_mul];exact Nat.mul_le_mul b c⟩
theorem Ib.neg{p:Rat}(h:Ib B p):Ib B (-p):=by
 obtain⟨z,rfl,b⟩:=h;exact⟨-z,by rw[Rat.intCast_neg],by omega⟩
theorem Ib.sub{p:Rat}(h:Ib B p)(k:Ib C q):Ib (B+C) (p-q):=by rw[Rat.sub_eq_add_neg];exact h.add k.neg
theorem Ib.zero(B:Nat):Ib B 0:=⟨0,rfl,aP _⟩
theorem Ib.one(h:1<=B):Ib B 1:=⟨1,rfl,h⟩
theorem Ib.int{z:Int}(h:z.natAbs<=B):Ib B (z:Rat):=⟨z,rfl,h⟩
theorem Ib.sum{B:Nat}{f:Nat->Rat}:∀(n:Nat),(∀k,k<n->Ib B (f k))->Ib (n*B) (cR f n)
 |0,_=>Ib.zero _
 |n+1,h=>by rw[cR,Nat.succ_mul];exact(Ib.sum n fun k hk=>h k (by omega)).add (h n (by omega))
def fB(B:Nat):Nat->Nat
 |0=>1
 |n+1=>(n+1)*(B*fB B n)
theorem Ib.qc{k:Nat}(h:Ib B q):Ib B (qc k*q):=by
 unfold Go.Ex.qc;split
 ·rw[show (-1:Rat)*q= -q by grind];exact h.neg
 ·rw[bp];exact h
theorem Ib.LP{B:Nat}:∀(n:Nat) {m:Mx},(∀i j,i<n->j<n->Ib B (m i j))->Ib (fB B n) (fN n m)
 |0,_,_=>Ib.one (aE _)
 |n+1,m,h=>by
  unfold fN fB;exact Ib.sum (n+1) fun k hk=>((h 0 k (by omega) hk).mul (Ib.LP n fun i j hi hj=>h (i+1) (skip k j) (by omega) (E6 hj))).qc
theorem Eb(B n:Nat):B*fB B n<=fB B (n+1):=Nat.le_mul_of_pos_left _ (Nat.succ_pos n)
theorem Io(h:1<=B)(n:Nat):fB B n<=fB B (n+1):=ah (Nat.le_mul_of_pos_left _ h) (Eb B n)
theorem pN{B a:Nat}(h:1<=B):∀{b:Nat},a<=b->fB B a<=fB B b
 |0,k=>by rw[Nat.le_zero.1 k];exact aE _
 |b+1,k=>by
  rcases aO b a with h1|h1
  ·rw[show a=b+1 by omega];exact aE _
  ·exact ah (pN h h1) (Io h b)
theorem J5{B R:Nat}:∀{n:Nat},n<=R->fB B n<=(R*B)^n
 |0,_=>aE _
 |n+1,h=>by
  rw[fB,Nat.pow_succ,<-bZ,bN _ (R*B)];exact Nat.mul_le_mul (Nat.mul_le_mul_right B h) (J5 (by omega))
theorem J6{R l n:Nat}(hn:n<=R)(h:R*B<=wt l):ln (fB B n)<=l*n+1:=by
 rw[fo,iI];have h1:=ah (J5 (B:=B) hn) (Nat.pow_le_pow_left h n);rw[tI,<-Nat.pow_mul]at h1;have h2:=tI (l*n);have h3:=wx (l*n);rw[show 32*l*n=32*(l*n) by rw[bZ]]at h1;omega
theorem wE{K:Nat}{D:Rat}(h0:D≠0)(hD:Ib K D)(hq:Ib K (D*q)):rl q<=ln K:=by
 obtain⟨d,rfl,b⟩:=hD;obtain⟨z,e,c⟩:=hq;have hd:d≠0:=fun e=>h0 (by rw[e];rfl);have e2:q=Rat.divInt z d:=by
  rw[Rat.divInt_eq_div,<-e,bc,bh (d:Rat) q,Rat.mul_assoc,Rat.mul_inv_cancel _ h0,Rat.mul_one]
 have:=jZ (a:=z) hd;have:=ee b;have:=ee c;rw[e2];omega
theorem Fk{n:Nat}(h:r<n):fN n (gH m r fun _=>0)=0:=by
 have h1:=mG 1 n r m h (fun _=>0) fun _=>0;rw[show (fun _:Nat=>(0:Rat)+1*0)=fun _=>0 from funext fun _=>by grind]at h1;grind
theorem xS{n r:Nat}{m:Mx}(h:r<n)(c:Nat->Rat)(v:Nat->Nat->Rat):∀s,fN n (gH m r fun j=>cR (fun k=>c k*v k j) s)=cR (fun k=>c k*fN n (gH m r (v k))) s
 |0=>Fk h
 |s+1=>by
  have h1:=mG (c s) n r m h (fun j=>cR (fun k=>c k*v k j) s) (v s);rw[xS h c v s]at h1;exact h1
theorem Ec{n b:Nat}(hb:b<n)(hab:a<b)(he:∀j,j<n->m a j=m b j):fN n m=0:=by
 obtain⟨b,rfl⟩:∃k,b=k+1:=⟨b-1,by omega⟩
 cases a with
 |zero=>exact mq b n m hb he
 |succ a=>
  have h1:=Fe (m:=m) (k:=a) (n:=n) (by omega);rw[mq b n _ hb fun j hj=>?_]at h1
  ·grind
  ·rw[show kN 0 (a+1) 0=a+1 by unfold kN;rw[if_pos rfl],show kN 0 (a+1) (b+1)=b+1 by unfold kN;rw[aF (by omega),aF (by omega)]];exact he j hj
theorem CI{n b:Nat}(ha:a<n)(hb:b<n)(hab:a≠b)(he:∀j,j<n->m a j=m b j):fN n m=0:=by
 rcases Nat.lt_or_gt_of_ne hab with h|h
 ·exact Ec hb h he
 ·exact Ec ha h fun j hj=>(he j hj).symm
section
variable{E Z:Mx}{p:Nat->Nat}{r n:Nat}{v:Nat->Rat}
theorem Ru.coeff(h:Ru E p r n)(hv:dh E r n v):∀t,t<n->v t=cR (fun i=>v (p i)*E i t) r:=by
 obtain⟨c,hc⟩:=hv;intro t ht;rw[hc t ht];refine cA fun i hi=>?_;rw[hc (p i) (h.lt i hi),eS hi fun k hk hne=>by rw[h.unit i k hi hk,aF hne,bA],h.unit i i hi hi,if_pos rfl,Rat.mul_one]
def r9(Z:Mx)(p:Nat->Nat)(r:Nat):Rat:=fN r fun j i=>Z (r-1-i) (p (r-1-j))
theorem KB(h:Ru E p r n)(hZ:∀i,i<r->dh E r n (Z i)){k t:Nat}(hk:k<r)(ht:t<n):
  r9 Z p r*E k t=fN r (gH (fun j i=>Z (r-1-i) (p (r-1-j))) (r-1-k) fun i=>Z (r-1-i) t):=by
 have e:∀i j,i<r->j<r->gH (fun j i=>Z (r-1-i) (p (r-1-j))) (r-1-k) (fun i=>Z (r-1-i) t) i j=gH (fun j i=>Z (r-1-i) (p (r-1-j))) (r-1-k) (fun i=>cR (fun j=>E j t*Z (r-1-i) (p j)) r) i j:=fun i j hi hj=>by
  unfold gH;split
  ·show Z (r-1-j) t=cR (fun l=>E l t*Z (r-1-j) (p l)) r;rw[h.coeff (hZ (r-1-j) (by omega)) t ht];exact cA fun l _=>bh _ _
  ·rfl
 rw[iA e,xS (v:=fun k i=>Z (r-1-i) (p k)) (by omega),eS hk fun j hj hne=>?_]
 ·rw[show gH (fun j i=>Z (r-1-i) (p (r-1-j))) (r-1-k) (fun i=>Z (r-1-i) (p k))=fun j i=>Z (r-1-i) (p (r-1-j))from ?_]
  ·rw[r9,bh]
  ·funext i j
   unfold gH;split
   ·rename_i hi;rw[hi,show r-1-(r-1-k)=k by omega]
   ·rfl
 ·rw[CI (a:=r-1-k) (b:=r-1-j) (by omega) (by omega) (by omega) fun i hi=>?_,bA];unfold gH;rw[if_pos rfl,aF (by omega)];show Z (r-1-i) (p j)=Z (r-1-i) (p (r-1-(r-1-j)));rw[show r-1-(r-1-j)=j by omega]
theorem KC(h:Ru E p r n)(hZ:∀i,i<r->dh E r n (Z i)){t:Nat}(ht:t<n):
  fN (r+1) (fun j i=>if j=0 then Z (r-i) t else Z (r-i) (p (r-j)))=kp E p r (Z r) n t*r9 Z p r:=by
 obtain⟨m,hm⟩:∃m:Mx,m=fun j i=>if j=0 then Z (r-i) t else Z (r-i) (p (r-j)):=⟨_,rfl⟩
 obtain⟨w,hw⟩:∃w:Nat->Rat,w=fun i=>if i=0 then kp E p r (Z r) n t else 0:=⟨_,rfl⟩
 rw[<-hm];have hrow:∀j,j<r->∀i,m (r-j) i=Z (r-i) (p j):=fun j hj i=>by rw[hm];simp only;rw[aF (by omega),show r-(r-j)=j by omega]
 have e:∀i j,i<r+1->j<r+1->m i j=gH m 0 (fun i=>w i+1*cR (fun j=>E j t*m (r-j) i) r) i j:=fun i j hi hj=>by
  unfold gH;split
  ·rename_i h0;subst h0;show m 0 j=w j+1*cR (fun l=>E l t*m (r-l) j) r;rw[cA (g:=fun l=>E l t*Z (r-j) (p l)) fun l hl=>by rw[hrow l hl],bp,hw];simp only
   by_cases hj0:j=0
   ·rw[if_pos hj0,hj0,hm];simp only[if_pos,Nat.sub_zero]
    unfold kp;rw[cA (f:=fun i=>if p i<n then Z r (p i)*E i t else 0) (g:=fun i=>E i t*Z r (p i)) fun l hl=>by rw[if_pos (h.lt l hl),bh]];grind
   ·rw[aF hj0,Rat.zero_add,hm];simp only[if_pos]
    rw[h.coeff (hZ (r-j) (by omega)) t ht];exact cA fun l _=>bh _ _
  ·rfl
 rw[iA e,mG 1 (r+1) 0 m (by omega),xS (v:=fun k i=>m (r-k) i) (by omega),cA (g:=fun _=>0) fun j hj=>?_,dQ,bA,bV]
 ·rw[fN,eS (i:=0) (by omega) fun k hk hne=>?_]
  ·unfold gH;rw[if_pos rfl,hw];simp only[if_pos]
   rw[show qc 0=1 by decide,bp,r9,iA fun i j hi hj=>?_];rw[aF (by omega),hm];simp only
   rw[aF (by omega),show skip 0 j=j+1 by unfold skip;rw[aF (by omega)],show r-(j+1)=r-1-j by omega,show r-(i+1)=r-1-i by omega]
  ·unfold gH;rw[if_pos rfl,hw];simp only
   rw[aF hne,bC,bA]
 ·rw[CI (a:=0) (b:=r-j) (by omega) (by omega) (by omega) fun i _=>?_,bA];unfold gH;rw[if_pos rfl,aF (by omega)]
theorem Ip(d:Rat)(k t:Nat):kp E p r (fun t=>d*v t) k t=d*kp E p r v k t:=by
 unfold kp;rw[cA (g:=fun i=>d*if p i<k then v (p i)*E i t else 0) fun i _=>?_,eF]
 ·grind
 ·split
  ·rw[Rat.mul_assoc]
  ·rw[bA]
theorem Iq(h:Ru E p r n)(hx:dh E r n fun t=>v t+ -(x t))(h0:∀i,i<r->x (p i)=0){t:Nat}(ht:t<n):x t=kp E p r v n t:=by
 have h1:=h.coeff hx t ht;unfold kp;rw[cA (g:=fun i=>v (p i)*E i t) fun i hi=>if_pos (h.lt i hi)];rw[cA (g:=fun i=>v (p i)*E i t) fun i hi=>by rw[h0 i hi];grind]at h1;grind
end
structure xT(E:Mx)(p:Nat->Nat)(r n B:Nat)(Z:Mx):Prop where
 ru:Ru E p r n
 sp:∀i,i<r->dh E r n (Z i)
 ib:∀i t,i<r->t<n->Ib B (Z i t)
 nz:r9 Z p r≠0
section
variable{E Z:Mx}{p:Nat->Nat}{r n B k:Nat}{v u:Nat->Rat}
theorem xT.start(E Z:Mx)(p:Nat->Nat)(n B:Nat):xT E p 0 n B Z:=
 ⟨⟨fun _ h=>(by omega),fun _ _ h=>(by omega),fun _ _ h=>(by omega),fun _ _ h=>(by omega)⟩,fun _ h=>(by omega),fun _ _ h=>(by omega),by show(1:Rat)≠0;decide⟩
theorem xT.push(h:xT E p r n B Z)(hd:d≠0)(hz:∀t,t<n->Ib B (d*v t))(hu:∀t,t<n->u t=kp E p r v n t)(hk:k<n)(h0:u k≠0)(hl:∀t,t<k->u t=0):
  xT (jr E r u k) (fun i=>if i=r then k else p i) (r+1) n B fun i t=>if i=r then d*v t else Z i t:=by
 refine⟨h.ru.push hk (fun i hi=>by rw[hu _ (h.ru.lt i hi),E8 h.ru hi]) h0 hl,fun i hi=>?_,fun i t hi ht=>?_,?_⟩
 ·by_cases h1:i=r
  ·exact((zt h0 hu h.ru.lt).mul d).congr fun t _=>by simp only[if_pos h1];rw[bh]
  ·exact((h.sp i (by omega)).trans fun j hj=>pM h0 j hj).congr fun t _=>by simp only[aF h1]
 ·by_cases h1:i=r
  ·simp only[if_pos h1];exact hz t ht
  ·simp only[aF h1];exact h.ib i t (by omega) ht
 ·have hb:=KC (Z:=fun i t=>if i=r then d*v t else Z i t) h.ru (fun i hi=>(h.sp i hi).congr fun t _=>by simp only[aF (Nat.ne_of_lt hi)]) hk;have e1:r9 (fun i t=>if i=r then d*v t else Z i t) p r=r9 Z p r:=iA fun i j hi hj=>by simp only;rw[aF (by omega)]
  simp only[if_pos]at hb;rw[Ip,<-hu k hk,e1]at hb;have e2:r9 (fun i t=>if i=r then d*v t else Z i t) (fun i=>if i=r then k else p i) (r+1)=d*u k*r9 Z p r:=by
   rw[<-hb];refine iA fun i j hi hj=>?_;by_cases h1:i=0
   ·subst h1;simp only[if_true]
    rw[if_pos (show r+1-1-0=r by omega),show r+1-1-j=r-j by omega]
   ·simp only[aF h1]
    rw[aF (show ¬r+1-1-i=r by omega),show r+1-1-j=r-j by omega,show r+1-1-i=r-i by omega]
  rw[e2];have hz1:∀{a b:Rat},a≠0->b≠0->a*b≠0:=fun ha hb e=>by
   rcases Rat.mul_eq_zero.1 e with h|h
   ·exact ha h
   ·exact hb h
  exact hz1 (hz1 hd h0) h.nz
theorem xT.den(h:xT E p r n B Z):Ib (fB B r) (r9 Z p r):=Ib.LP r fun i j hi hj=>h.ib _ _ (by omega) (h.ru.lt _ (by omega))
theorem xT.LQ(h:xT E p r n B Z){i t:Nat}(hi:i<r)(ht:t<n):Ib (fB B r) (r9 Z p r*E i t):=by
 rw[KB h.ru h.sp hi ht];refine Ib.LP r fun j l hj hl=>?_;unfold gH;split
 ·exact h.ib _ _ (by omega) ht
 ·exact h.ib _ _ (by omega) (h.ru.lt _ (by omega))
theorem xT.HB(h:xT E p r n B Z){i t:Nat}(hi:i<r)(ht:t<n):rl (E i t)<=ln (fB B r):=wE h.nz h.den (h.LQ hi ht)
theorem xT.kp(h:xT E p r n B Z)(hz:∀t,t<n->Ib B (d*v t))(k:Nat){t:Nat}(ht:t<n):Ib (fB B (r+1)) (d*r9 Z p r*kp E p r v k t):=by
 unfold Go.Ex.kp;rw[show ∀a b c s:Rat,a*b*(c-s)=b*(a*c)-(a*b)*s from fun a b c s=>by grind,<-eF,fB,Nat.succ_mul,Nat.add_comm];refine Ib.sub (by rw[bN B];exact h.den.mul (hz t ht)) (Ib.sum r fun i hi=>?_);split
 ·rw[show ∀a b c s:Rat,a*b*(c*s)=(a*c)*(b*s)from fun a b c s=>by grind];exact(hz _ (h.ru.lt i hi)).mul (h.LQ hi ht)
 ·rw[bA];exact Ib.zero _
theorem xT.HC(h:xT E p r n B Z)(hB:1<=B)(hd:d≠0)(hdB:Ib B d)(hz:∀t,t<n->Ib B (d*v t))(k:Nat){t:Nat}(ht:t<n):Go.Ex.rl (Go.Ex.kp E p r v k t)<=ln (fB B (r+1)):=
 wE (fun e=>by rcases Rat.mul_eq_zero.1 e with e|e;exact hd e;exact h.nz e) ((hdB.mul h.den).mono (Eb B r)) (h.kp hz k ht)
end
def Al(M:List (List Rat))(n B:Nat):Prop:=∀j,j<M.length->∃d:Rat,d≠0∧Ib B d∧∀t,t<n->Ib B (d*cd M j t)
theorem dh.D5{n:Nat}(h:dh E r n v)(e:∀i t,i<r->t<n->F i t=E i t):dh F r n v:=by
 obtain⟨c,hc⟩:=h;exact⟨c,fun t ht=>by rw[hc t ht];exact cA fun i hi=>by rw[e i t hi ht]⟩
theorem dh.more{s n:Nat}(h:dh E r n v)(k:r<=s):dh E s n v:=h.trans fun i hi=>dh.row (Nat.lt_of_lt_of_le hi k)
theorem Ru.congr{q:Nat->Nat}{n:Nat}(h:Ru E p r n)(e:∀i t,i<r->t<n->F i t=E i t)(ep:∀i,i<r->q i=p i):Ru F q r n:=
 ⟨fun i hi=>by rw[ep i hi];exact h.lt i hi,fun i j hi hj k=>h.inj i j hi hj (by rw[<-ep i hi,<-ep j hj];exact k),fun i j hi hj=>by rw[ep i hi,e j _ hj (h.lt i hi)];exact h.unit i j hi hj,
  fun i t hi ht=>by rw[ep i hi]at ht;rw[e i t hi (by have:=h.lt i hi;omega)];exact h.lead i t hi ht⟩
theorem xT.congr{Z Y:Mx}{q:Nat->Nat}{n:Nat}(h:xT E p r n B Z)(e:∀i t,i<r->t<n->F i t=E i t)(ep:∀i,i<r->q i=p i)(eZ:∀i t,i<r->t<n->Y i t=Z i t):xT F q r n B Y:=by
 refine⟨h.ru.congr e ep,fun i hi=>((h.sp i hi).congr fun t ht=>eZ i t hi ht).D5 e,fun i t hi ht=>by rw[eZ i t hi ht];exact h.ib i t hi ht,?_⟩;rw[show r9 Y q r=r9 Z p r from iA fun i j hi hj=>by rw[ep _ (by omega),eZ _ _ (by omega) (h.ru.lt _ (by omega))]];exact h.nz
theorem xU(row:List Rat):∀f k,k<=nW row f k∧nW row f k<=k+f∧(∀t,k<=t->t<nW row f k->row.getD t 0=0)∧(nW row f k<k+f->row.getD (nW row f k) 0≠0)
 |0,k=>by
  unfold nW;exact⟨aE _,aE _,fun t h1 h2=>by omega,fun h=>by omega⟩
 |f+1,k=>by
  unfold nW;split
  ·rename_i h;obtain⟨h1,h2,h3,h4⟩:=xU row f (k+1);refine⟨by omega,by omega,fun t k1 k2=>?_,fun h5=>h4 (by omega)⟩;rcases aO k t with h5|h5
   ·exact h3 t h5 k2
   ·rw[show t=k by omega];exact h
  ·rename_i h;exact⟨aE _,by omega,fun t h1 h2=>by omega,fun _=>h⟩
theorem Fl(row:List Rat)(n:Nat):rZ row n<=n∧(∀t,t<rZ row n->row.getD t 0=0)∧(rZ row n≠n->row.getD (rZ row n) 0≠0):=by
 obtain⟨_,h2,h3,h4⟩:=xU row n 0;unfold rZ;exact⟨by omega,fun t h=>h3 t (aP _) h,fun h=>h4 (by omega)⟩
theorem Fm(y:List Rat)(q:Rat)(t:Nat):(y.map (· / q)).getD t 0=y.getD t 0 / q:=by
 simp only[List.getD,aM]
 cases y[t]? with
 |none=>show(0:Rat)=0 / q;rw[bc,bC]
 |some x=>rfl
structure D6(M:List (List Rat))(n B i:Nat)(s:vC)(p:Nat->Nat)(Z:Mx):Prop where
 ok:r8 n n i s
 K8:∀k,k<n->∀r:Nat,s.2.1[k]? =some (some r)↔r<s.1.length∧p r=k
 xV:xT (cd s.1) p s.1.length n B Z
 up:∀r,r<s.1.length->dh (cd M) i n (cd s.1 r)
 dn:∀j,j<i->dh (cd s.1) s.1.length n (cd M j)
section
variable{M:List (List Rat)}{n B i:Nat}{s:vC}{p:Nat->Nat}{Z:Mx}
theorem D6.kp(h:D6 M n B i s p Z){x:List Rat}(hx:x.length=n):∀k,k<=n->∀t,t<n->(fP s.1 s.2.1 x k).getD t 0=kp (cd s.1) p s.1.length (fun t=>x.getD t 0) k t
 |0,_,t,ht=>by rw[Gu];rfl
 |k+1,hk,t,ht=>by
  have ih:=D6.kp h hx k (by omega);obtain⟨o,ho⟩:∃o,s.2.1[k]? =some o:=⟨_,aA (by rw[h.ok.at_];omega)⟩
  have hd:s.2.1.getD k none=o:=by rw[List.getD,ho];rfl
  rw[fP,hd]
  cases o with
  |none=>
   simp only
   rw[ih t ht,Gv fun r hr e=>?_];have:=(h.K8 k (by omega) r).2 ⟨hr,e⟩;rw[ho]at this
   cases this
  |some r=>
   simp only
   obtain⟨hr,e⟩:=(h.K8 k (by omega) r).1 ho;rw[lA,tJ (by rw[gV,hx];exact ht),ih t ht,ih k (by omega),<-e,Gw h.xV.ru hr];rfl
theorem D6.step(h:D6 M n B i s p Z)(hM:fp n M)(hi:i<M.length)(hd:d≠0)(hz:∀t,t<n->Ib B (d*cd M i t)):
  ∃p' Z',D6 M n B (i+1) (j6 n s i (M.getD i [])) p' Z':=by
 have hx:(M.getD i []).length=n:=hM.getD hi;have hok:=h.ok.step hx;obtain⟨y,hy⟩:∃y,fP s.1 s.2.1 (M.getD i []) n=y:=⟨_,rfl⟩
 have hu:∀t,t<n->y.getD t 0=Go.Ex.kp (cd s.1) p s.1.length (cd M i) n t:=fun t ht=>by rw[<-hy];exact h.kp hx n (aE _) t ht
 have hyl:y.length=n:=by rw[<-hy,gV,hx]
 obtain⟨q1,q2,q3⟩:=Fl y n;by_cases hq:rZ y n=n
 ·have e:j6 n s i (M.getD i [])=s:=by unfold j6;simp only[hy,hq,if_true]
  rw[e]at hok ⊢;refine⟨p,Z,hok,h.K8,h.xV,fun r hr=>(h.up r hr).more (Nat.le_succ i),fun j hj=>?_⟩;rcases aO j i with h1|h1
  ·exact h.dn j h1
  ·rw[show j=i by omega];refine⟨fun j=>cd M i (p j),fun t ht=>?_⟩;have h2:=hu t ht;rw[q2 t (by omega)]at h2;unfold Go.Ex.kp at h2;rw[cA (g:=fun j=>cd M i (p j)*cd s.1 j t) fun j hj=>if_pos (h.xV.ru.lt j hj)]at h2;grind
 ·have h0:=q3 hq;obtain⟨k,hk⟩:∃k,rZ y n=k:=⟨_,rfl⟩
  rw[hk]at hq h0 q1 q2;have hkn:k<n:=by omega
  have e:j6 n s i (M.getD i [])=(ff s.1 (y.map (· / y.getD k 0)) k s.1.length++[y.map (· / y.getD k 0)],s.2.1.set k (some s.1.length),s.2.2++[i]):=by
   unfold j6;simp only[hy,hk,aF hq]
  rw[e]at hok ⊢;have hl:(ff s.1 (y.map (· / y.getD k 0)) k s.1.length).length=s.1.length:=fS ..;have hnl:(ff s.1 (y.map (· / y.getD k 0)) k s.1.length++[y.map (· / y.getD k 0)]).length=s.1.length+1:=by rw[List.length_append,hl];rfl
  have hdv:∀t,t<n->(y.map (· / y.getD k 0)).getD t 0=y.getD t 0 / y.getD k 0:=fun t _=>Fm y _ t;have hE:∀a t,a<s.1.length+1->t<n->cd (ff s.1 (y.map (· / y.getD k 0)) k s.1.length++[y.map (· / y.getD k 0)]) a t=jr (cd s.1) s.1.length (fun t=>y.getD t 0) k a t:=fun a t ha ht=>by
   unfold jr;by_cases h1:a=s.1.length
   ·rw[if_pos h1,<-hdv t ht,cd];congr 1;rw[List.getD,aN (by omega),hl,h1,bH];rfl
   ·have ha2:a<s.1.length:=by omega
    have hr:=aA ha2;have hrl:(s.1[a]).length=n:=h.ok.len _ (aV ha2);have hg:s.1.getD a []=s.1[a]:=by rw[List.getD,hr];rfl
    have hrow:(ff s.1 (y.map (· / y.getD k 0)) k s.1.length++[y.map (· / y.getD k 0)]).getD a []=lA s.1[a] (y.map (· / y.getD k 0)) ((s.1[a]).getD k 0):=by
     rw[List.getD,aK (by omega),ff,List.getElem?_mapIdx,hr];simp only[Option.map_some,Option.getD_some,if_pos ha2]
    rw[aF h1,cd,hrow,lA,tJ (by omega),hdv t ht];unfold cd;rw[hg]
  have hC:=h.xV.push hd hz hu hkn h0 q2;have hu2:=Jz (v:=cd M i) hu h.xV.ru.lt;refine⟨fun i=>if i=s.1.length then k else p i,fun a t=>if a=s.1.length then d*cd M i t else Z a t,hok,?_,?_,?_,?_⟩
  ·intro c hc r;dsimp only
   rw[hnl];have hne:∀j,j<s.1.length->p j≠k:=fun j hj e=>h0 (by rw[hu k hkn,<-e];exact E8 h.xV.ru hj);by_cases h1:c=k
   ·rw[h1,aT (by rw[h.ok.at_];exact hkn)];constructor
    ·intro e;injection e with e;injection e with e;exact⟨by omega,by rw[if_pos e.symm]⟩
    ·rintro⟨h2,h3⟩;by_cases h4:r=s.1.length
     ·rw[h4]
     ·rw[aF h4]at h3;exact absurd h3 (hne r (by omega))
   ·rw[aw (Ne.symm h1),h.K8 c hc r];constructor
    ·rintro⟨h2,h3⟩;exact⟨by omega,by rw[aF (by omega)];exact h3⟩
    ·rintro⟨h2,h3⟩;by_cases h4:r=s.1.length
     ·rw[if_pos h4]at h3;exact absurd h3.symm h1
     ·rw[aF h4]at h3;exact⟨by omega,h3⟩
  ·dsimp only
   rw[hnl];exact hC.congr hE (fun _ _=>rfl) fun _ _ _ _=>rfl
  ·dsimp only
   rw[hnl];intro a ha;refine((Gx (k:=k) hu2 a ha).trans fun b hb=>?_).congr fun t ht=>hE a t ha ht;by_cases h1:b=s.1.length
   ·exact(dh.row (show i<i+1 by omega)).congr fun t _=>by unfold jT;rw[if_pos h1]
   ·exact((h.up b (by omega)).more (Nat.le_succ i)).congr fun t _=>by unfold jT;rw[aF h1]
  ·dsimp only
   rw[hnl];intro j hj;refine dh.D5 ?_ hE;rcases aO j i with h1|h1
   ·exact(h.dn j h1).trans fun b hb=>pM h0 b hb
   ·rw[show j=i by omega];exact zt h0 hu h.xV.ru.lt
end
theorem pO{M:List (List Rat)}{n B:Nat}(hM:fp n M)(hW:Al M n B):∀i,i<=M.length->∃p Z,D6 M n B i (gP M n i) p Z
 |0,_=>⟨fun _=>0,fun _ _=>0,r8.start n n,fun k _ r=>⟨fun h=>(by
   simp only[gP,List.getElem?_replicate]at h
   split at h<;>cases h),fun h=>(by have:=h.1;simp[gP]at this)⟩,xT.start _ _ _ _ _,fun r h=>(by simp[gP]at h),fun j h=>by omega⟩
 |i+1,hi=>by
  obtain⟨p,Z,h⟩:=pO hM hW i (by omega);obtain⟨d,hd,-,hz⟩:=hW i (by omega);exact h.step hM (by omega) hd hz
theorem HD{n:Nat}(hM:fp n M)(hW:Al M n B)(hB:1<=B){i:Nat}(hi:i<=M.length):∀r∈(gP M n i).1,∀q∈r,rl q<=ln (fB B M.length):=fun r hr q hq=>by
 obtain⟨p,Z,h⟩:=pO hM hW i hi;obtain⟨a,ha⟩:=aR hr;obtain⟨t,ht⟩:=aR hq;have ha2:=(aC.1 ha).1;have ht2:=(aC.1 ht).1;rw[h.ok.len r hr]at ht2;have h1:=h.xV.HB ha2 ht2;rw[cd,show(gP M n i).1.getD a []=r by rw[List.getD,ha];rfl,show r.getD t 0=q by rw[List.getD,ht];rfl]at h1;exact ah h1 (ee (pN hB (ah h.ok.le hi)))
theorem HE{n:Nat}(hM:fp n M)(hW:Al M n B)(hB:1<=B){i k:Nat}(hi:i<M.length)(hk:k<=n):∀q∈fP (gP M n i).1 (gP M n i).2.1 (M.getD i []) k,rl q<=ln (fB B M.length):=fun q hq=>by
 obtain⟨p,Z,h⟩:=pO hM hW i (by omega);have hx:(M.getD i []).length=n:=hM.getD hi;obtain⟨t,ht⟩:=aR hq;have ht2:=(aC.1 ht).1;rw[gV,hx]at ht2;have h1:=h.kp hx k hk t ht2;rw[show (fP (gP M n i).1 (gP M n i).2.1 (M.getD i []) k).getD t 0=q by rw[List.getD,ht];rfl]at h1;obtain⟨d,hd,hdB,hz⟩:=hW i hi;rw[h1];exact ah (h.xV.HC hB hd hdB hz k ht2) (ee (pN hB (by have:=h.ok.le;omega)))
theorem zu{s:vC}:∀k,(cV s k).1.length=(cV s k).2.1.length∧(∀i,i<(cV s k).2.1.length->∃r:Nat,s.2.1[(cV s k).2.1.getD i 0]? =some (some r)∧(cV s k).1.getD i []=s.1.getD r []∧(cV s k).2.1.getD i 0<k)∧
  (∀i j,i<j->j<(cV s k).2.1.length->(cV s k).2.1.getD i 0<(cV s k).2.1.getD j 0)∧∀q,q<k->∀r:Nat,s.2.1[q]? =some (some r)->∃i,i<(cV s k).2.1.length∧(cV s k).2.1.getD i 0=q
 |0=>⟨rfl,fun i h=>(by cases h),fun i j _ h=>(by cases h),fun q h=>by omega⟩
 |k+1=>by
  obtain⟨h1,h2,h3,h4⟩:=zu (s:=s) k;have step:(∃r:Nat,s.2.1[k]? =some (some r)∧cV s (k+1)=((cV s k).1++[s.1.getD r []],(cV s k).2.1++[k],(cV s k).2.2++[s.2.2.getD r 0]))∨((∀r:Nat,s.2.1[k]? ≠some (some r))∧cV s (k+1)=cV s k):=by
   rw[cV]
   cases ho:s.2.1[k]? with
   |none=>exact .inr ⟨fun r e=>(by cases e),by rw[show s.2.1.getD k none=none by rw[List.getD,ho];rfl]⟩
   |some o=>cases o with
    |none=>exact .inr ⟨fun r e=>(by cases e),by rw[show s.2.1.getD k none=none by rw[List.getD,ho];rfl]⟩
    |some r=>exact .inl ⟨r,rfl,by rw[show s.2.1.getD k none=some r by rw[List.getD,ho];rfl]⟩
  rcases step with⟨r,hr,e⟩|⟨hr,e⟩
  ·rw[e];have old:∀i,i<(cV s k).2.1.length->((cV s k).2.1++[k]).getD i 0=(cV s k).2.1.getD i 0:=fun i hi=>by rw[List.getD,aK hi,<-List.getD]
   have new:((cV s k).2.1++[k]).getD (cV s k).2.1.length 0=k:=by rw[List.getD,aN (aE _),bH];rfl
   have hlen:((cV s k).2.1++[k]).length=(cV s k).2.1.length+1:=by simp
   dsimp only
   rw[hlen];refine⟨by simp[h1],fun i hi=>?_,fun i j hij hj=>?_,fun q hq x hx=>?_⟩
   ·rcases aO i (cV s k).2.1.length with h5|h5
    ·obtain⟨x,x1,x2,x3⟩:=h2 i h5;rw[old i h5];refine⟨x,x1,?_,by omega⟩;rw[List.getD,aK (by omega),<-List.getD];exact x2
    ·rw[show i=(cV s k).2.1.length by omega,new];refine⟨r,hr,?_,by omega⟩;rw[List.getD,aN (by omega),h1,bH];rfl
   ·rcases aO j (cV s k).2.1.length with h5|h5
    ·rw[old i (by omega),old j h5];exact h3 i j hij h5
    ·rw[show j=(cV s k).2.1.length by omega,new,old i (by omega)];obtain⟨_,_,_,x3⟩:=h2 i (by omega);exact x3
   ·rcases aO q k with h5|h5
    ·obtain⟨i,i1,i2⟩:=h4 q h5 x hx;exact⟨i,by omega,by rw[old i i1];exact i2⟩
    ·exact⟨(cV s k).2.1.length,by omega,by rw[new];omega⟩
  ·rw[e];refine⟨h1,fun i hi=>?_,h3,fun q hq x hx=>?_⟩
   ·obtain⟨x,x1,x2,x3⟩:=h2 i hi;exact⟨x,x1,x2,by omega⟩
   ·rcases aO q k with h5|h5
    ·exact h4 q h5 x hx
    ·rw[show q=k by omega]at hx;exact absurd hx (hr x)
theorem gi{α:Type}{a b:List α}(d:α)(hl:a.length=b.length)(h:∀i,i<a.length->a.getD i d=b.getD i d):a=b:=by
 refine List.ext_getElem hl fun i h1 h2=>?_;have:=h i h1
 rwa [List.getD,List.getD,aA h1,aA h2]at this
theorem kW{n:Nat}(hM:fp n M)(hW:Al M n B):(dF M n).2.1=(cG M n).2∧(dF M n).1=(cG M n).1.take (cG M n).2.length:=by
 obtain⟨p,Z,h⟩:=pO hM hW M.length (aE _);obtain⟨h1,h2,h3,h4⟩:=zu (s:=gP M n M.length) n;unfold dF;generalize gP M n M.length=s at*
 obtain⟨F,hF⟩:∃F,cV s n=F:=⟨_,rfl⟩
 rw[hF]at h1 h2 h3 h4 ⊢;have hrow:∀i,i<F.2.1.length->∃r,r<s.1.length∧p r=F.2.1.getD i 0∧F.1.getD i []=s.1.getD r []∧F.2.1.getD i 0<n:=fun i hi=>by
  obtain⟨r,r1,r2,r3⟩:=h2 i hi;obtain⟨k1,k2⟩:=(h.K8 _ r3 r).1 r1;exact⟨r,k1,k2,r2,r3⟩
 have inj:∀i j,i<F.2.1.length->j<F.2.1.length->F.2.1.getD i 0=F.2.1.getD j 0->i=j:=fun i j hi hj e=>by
  rcases bm i j with h5|h5|h5
  ·have:=h3 i j h5 hj;omega
  ·exact h5
  ·have:=h3 j i h5 hi;omega
 have hrf:Rf (cd F.1) (fun i=>F.2.1.getD i 0) F.2.1.length n:=by
  refine⟨fun i hi=>?_,h3,fun i j hi hj=>?_,fun i t hi ht=>?_⟩
  ·obtain⟨_,_,_,_,h5⟩:=hrow i hi;exact h5
  ·obtain⟨a,a1,a2,a3,_⟩:=hrow i hi;obtain⟨b,b1,b2,b3,_⟩:=hrow j hj;rw[cd,b3,<-a2];have:=h.xV.ru.unit a b a1 b1;unfold cd at this;rw[this];by_cases h5:j=i
   ·rw[if_pos h5,if_pos (h.xV.ru.inj b a b1 a1 (by rw[a2,b2,h5]))]
   ·rw[aF h5,aF fun e=>h5 (inj j i hj hi (by rw[<-a2,<-b2,e]))]
  ·obtain⟨a,a1,a2,a3,_⟩:=hrow i hi;rw[cd,a3];have:=h.xV.ru.lead a t a1 (by rw[a2];exact ht);unfold cd at this;exact this
 have hsp:∀r,r<s.1.length->dh (cd F.1) F.2.1.length n (cd s.1 r):=fun r hr=>by
  have hp:=h.xV.ru.lt r hr;obtain⟨i,i1,i2⟩:=h4 (p r) hp r ((h.K8 _ hp r).2 ⟨hr,rfl⟩);obtain⟨a,a1,a2,a3,_⟩:=hrow i i1;have e:a=r:=h.xV.ru.inj a r a1 hr (by rw[a2,i2]);exact(dh.row i1).congr fun t _=>by rw[cd,cd,a3,e]
 obtain⟨e1,e2,e3⟩:=CC hM hrf (fun i hi=>by
  obtain⟨a,a1,a2,a3,_⟩:=hrow i hi
  exact(h.up a a1).congr fun t _=>by rw[cd,cd,a3]) fun j hj=>(h.dn j hj).trans hsp
 obtain⟨g1,g2,-,-,-⟩:=dS hM n (aE _);refine⟨gi 0 e1.symm fun i hi=>(e2 i hi).symm,gi [] ?_ fun i hi=>?_⟩
 ·rw[aW,e1,h1];omega
 ·rw[h1]at hi;have hi2:i<(cG M n).2.length:=by omega
  obtain⟨a,a1,a2,a3,_⟩:=hrow i hi;have hl1:(F.1.getD i []).length=n:=by rw[a3];exact h.ok.len.getD a1
  have hg:((cG M n).1.take (cG M n).2.length).getD i []=(cG M n).1.getD i []:=by rw[List.getD,bM hi2,<-List.getD]
  rw[hg];refine gi 0 (by rw[hl1,g1.getD (by omega)]) fun t ht=>?_;rw[hl1]at ht;exact(e3 i t hi ht).symm
structure LG(M:List (List Rat))(n B c:Nat)(s:List (List Rat)×List Nat)(σ:Nat->Nat)(Z:Mx):Prop where
 red:K7 n c s
 Lo:Gt s
 len:s.1.length=M.length
 xV:xT (cd s.1) (fun i=>s.2.getD i 0) s.2.length n B Z
 Ki:∀j,j<M.length->σ j<M.length
 rest:∀j,s.2.length<=j->j<M.length->∀t,t<n->cd s.1 j t=kp (cd s.1) (fun i=>s.2.getD i 0) s.2.length (cd M (σ j)) n t
theorem LG.step{n c:Nat}{s:List (List Rat)×List Nat}{Z:Mx}(h:LG M n B c s σ Z)(hW:Al M n B)(hc:c<n):∃σ' Z',LG M n B (c+1) (db s c) σ' Z':=by
 have hred:=h.red.step hc;have hmon:=h.Lo.step h.red hc;have hlen:(db s c).1.length=M.length:=by rw[mm,h.len]
 obtain⟨hl,hle,hz,hpc,hu⟩:=h.red;rcases iy c hle with⟨e,h0⟩|⟨k,h1,h2,h3,e⟩
 ·rw[e]at hred hmon hlen ⊢;exact⟨σ,Z,hred,hmon,hlen,h.xV,h.Ki,h.rest⟩
 ·obtain⟨r1,r2⟩:=kU hl h1 h2 h3 e;have e2:(db s c).2=s.2++[c]:=by rw[e]
  have e3:(db s c).2.length=s.2.length+1:=by rw[e2];simp
  have hkM:k<M.length:=by rw[<-h.len];exact h2
  have hk:=h.rest k h1 hkM;obtain⟨d,hd,-,hdz⟩:=hW (σ k) (h.Ki k hkM);have hC:=h.xV.push (u:=cd s.1 k) hd hdz hk hc h3 fun t ht=>hz k t h1 h2 ht;have hold:∀i,i<s.2.length->(db s c).2.getD i 0=s.2.getD i 0:=fun i hi=>by rw[e2,List.getD,aK hi,<-List.getD]
  have hnew:(db s c).2.getD s.2.length 0=c:=by rw[e2,List.getD,aN (aE _),bH];rfl
  have hE:∀i t,i<s.2.length+1->t<n->cd (db s c).1 i t=jr (cd s.1) s.2.length (cd s.1 k) c i t:=fun i t hi ht=>by
   unfold jr;by_cases hir:i=s.2.length
   ·rw[if_pos hir,hir,r1,bc,bc,bp]
   ·rw[aF hir,r2 i (by omega) hir t ht,aF (by omega),bc,bc,bp]
  have hC2:xT (cd (db s c).1) (fun i=>(db s c).2.getD i 0) (db s c).2.length n B fun i t=>if i=s.2.length then d*cd M (σ k) t else Z i t:=by
   rw[e3];refine hC.congr hE (fun i hi=>?_) fun _ _ _ _=>rfl;by_cases hir:i=s.2.length
   ·rw[if_pos hir,hir,hnew]
   ·rw[aF hir,hold i (by omega)]
  refine⟨fun j=>if j=k then σ s.2.length else σ j,_,hred,hmon,hlen,hC2,fun j hj=>?_,fun j hj hjM t ht=>?_⟩
  ·split
   ·exact h.Ki _ (by omega)
   ·exact h.Ki j hj
  ·rw[e3]at hj;have hjs:j<s.1.length:=by rw[h.len];exact hjM
   obtain⟨jj,hjj⟩:∃jj,(if j=k then s.2.length else j)=jj:=⟨_,rfl⟩
   have hjr:s.2.length<=jj:=by rw[<-hjj];split<;>omega
   have hjl:jj<M.length:=by rw[<-hjj];split<;>omega
   have hσ:(if j=k then σ s.2.length else σ j)=σ jj:=by rw[<-hjj];split<;>rfl
   rw[hσ];refine Iq hC2.ru ?_ (fun i hi=>?_) ht
   ·have hr:dh (cd (db s c).1) (db s c).2.length n (cd (db s c).1 s.2.length):=dh.row (by omega);have h5:dh (cd s.1) s.2.length n fun t=>cR (fun i=>cd M (σ jj) (s.2.getD i 0)*cd s.1 i t) s.2.length:=⟨_,fun t _=>rfl⟩
    have h6:dh (cd (db s c).1) (db s c).2.length n fun t=>cR (fun i=>cd M (σ jj) (s.2.getD i 0)*cd s.1 i t) s.2.length:=h5.trans fun i hi=>by
     rw[e3];exact dh.D5 (pM h3 i hi) hE
    refine(h6.add hr (cd s.1 jj c)).congr fun t ht=>?_;have h7:=h.rest jj hjr hjl t ht;unfold kp at h7;rw[cA (g:=fun i=>cd M (σ jj) (s.2.getD i 0)*cd s.1 i t) fun i hi=>if_pos (h.xV.ru.lt i hi)]at h7;rw[r2 j hjs (by omega) t ht,hjj,r1,h7];grind
   ·rw[hred.2.2.2.2 i j hi (by rw[hlen];exact hjM),aF (by omega)]
theorem oO{M:List (List Rat)}{n B:Nat}(hM:fp n M)(hW:Al M n B):∀c,c<=n->∃σ Z,LG M n B c (cG M c) σ Z
 |0,_=>⟨fun j=>j,fun _ _=>0,⟨hM,aP _,fun _ _ _ _ h=>by omega,fun p hp=>(by cases hp),fun _ _ h=>(by cases h)⟩,⟨fun _ _ _ h=>(by cases h),fun _ _ h=>(by cases h)⟩,rfl,xT.start _ _ _ _ _,fun j hj=>hj,fun j _ hj t ht=>by
   show cd M j t=kp (cd M) _ 0 (cd M j) n t;unfold kp;show _=_-0
   grind⟩
 |c+1,hc=>by
  obtain⟨σ,Z,h⟩:=oO hM hW c (by omega);unfold cG at h ⊢;rw[bT,List.foldl_append];exact h.step hW (by omega)
theorem D7{n:Nat}(hM:fp n M)(hW:Al M n B)(hB:1<=B){c:Nat}(hc:c<=n):∀r∈(cG M c).1,∀q∈r,rl q<=ln (fB B M.length):=fun r hr q hq=>by
 obtain⟨σ,Z,h⟩:=oO hM hW c hc;obtain⟨a,ha⟩:=aR hr;obtain⟨t,ht⟩:=aR hq;have ha2:=(aC.1 ha).1;have ht2:=(aC.1 ht).1;rw[h.red.1 r hr]at ht2;have hle:=h.red.2.1;have e:q=cd (cG M c).1 a t:=by rw[cd,show(cG M c).1.getD a []=r by rw[List.getD,ha];rfl,List.getD,ht];rfl
 rw[h.len]at ha2 hle;rw[e];rcases aO a (cG M c).2.length with h1|h1
 ·exact ah (h.xV.HB h1 ht2) (ee (pN hB hle))
 ·obtain⟨d,hd,hdB,hz⟩:=hW _ (h.Ki a ha2);rw[h.rest a h1 ha2 t ht2];exact ah (h.xV.HC hB hd hdB hz n ht2) (ee (pN hB (by omega)))
end Go.Ex
namespace Go.Ex
open Go Go.Sx Go.Proofs
variable{xs ys:List Rat}{cs:List Value}{C S:Nat->Prop}{a:Option Addr}{q:Rat}{u v:Value}{w:World}
section
variable{S:Nat->Prop}{H:Hp}{nx:Nat}{iv iv':Iv}{B:Nat}{w w' w2:World}{O:Nat->Sx.dU}{css:List (List Value)}{qs:List Rat}
theorem Fc.rel(h:Fc w (Cv S B iv) css qs)(r:Rel H nx iv B w O w')(hS:∀g,S g->g<B):Fc w' (Cv S B iv) css qs:=h.cB fun _ hg=>Rel.same r hS hg
theorem Fc.bz(h:Fc w (Cv S B iv) css qs)(r:Rel H nx iv B w O w')(hS:∀g,S g->g<B)(he:Ext w' w2)(hm:∀p,p∈iv->p∈iv'):Fc w2 (Cv S B iv') css qs:=
 ((h.rel r hS).cB fun g hg=>he.block g (Rel.old r hS g hg)).cC fun _ hg=>hg.mono hm
theorem Fc.push(h:Fc w S css qs)(hc:iT w S cs q):Fc w S (css++[cs]) (qs++[q]):=by
 refine⟨by simp[h.1],fun j x p h1 h2=>?_⟩;rcases aO j css.length with hi|hi
 ·rw[aK hi]at h1;rw[aK (by rw[<-h.1];exact hi)]at h2;exact h.2 j x p h1 h2
 ·have hi0:j=css.length:=by have:=(aC.1 h1).1;simp at this;omega
  subst hi0;rw[aN (aE _),bH]at h1;rw[h.1,aN (aE _),bH]at h2;simp at h1 h2;subst h1 h2;exact hc
end
section
variable{S S':Nat->Prop}{H:Hp}{nx:Nat}{iv iv':Iv}{B:Nat}{w w' w2:World}{O:Nat->Sx.dU}{v:Value}{b:List (Int×Int)}
end
def aAK(qs:List Rat):List (Int×Int):=qs.map fun q=>(q.num,(q.den:Int))
section
variable{S:Nat->Prop}{w:World}{v u:Value}{M:List (List (Int×Int))}{b:List (Int×Int)}
end
theorem eX.zero:eX w S (.agg #[.bool false,.slice none 0 0,.bool false,.slice none 0 0]) 0:=
 ⟨_,_,_,_,0,0,rfl,⟨false,[],⟨_,rfl,dA.nil _ _⟩,rfl,aP _⟩,⟨false,[],⟨_,rfl,dA.nil _ _⟩,rfl,aP _⟩,by decide⟩
section
variable{S:Nat->Prop}{w:World}{v u:Value}{M:List (List (Int×Int))}{x:List Rat}
end
theorem ow(q:Rat):rs (q-0)=rs q:=by rw[show q-0=q by grind]
theorem ke(n:Int)(w:World)(h1n: -9223372036854775808<=n)(h2n:n<=9223372036854775807):du PG N.qE #[.int .i64 n] w (eD w fun v' w2=>cP w2 (Nf w w2) v' (n:Rat)):=by
 have hw:cQ w.heap.size w w:=cQ.refl;refine tm (by simp) ?_;refine bu (cE hw (fun _ w' v w2=>cP w2 (Nf w' w2) v ((n:Rat))) (fun O w' r=>Dp n w' h1n h2n) ?_);rintro O wa1 v1 wb1 iv1 r he hw h_ hn;have hd:=hn.dB (S:=fun _=>False) r.bw (mN h_);obtain⟨s1_0,s1_1,s1_2,s1_3,s1_4,s1_5,s1_6,s1_7,rfl⟩:=hd.shape;intro ρe we re;exact⟨_,rfl,hw.tr re.cI,hd.out re (bs w)⟩
theorem pU(hS:Old S w)(hq:eX w S v q):du PG N.sH #[v] w (eD w fun v' _=>∃d,v'= .bool d∧(d=true↔q=0)):=by
 have hw:cQ w.heap.size w w:=cQ.refl;obtain⟨f0,f1,f2,f3,f4,f5,f6,f7,rfl⟩:=hq.shape;refine vN (by simp) ?_;refine bu (cE hw (fun _ w' v w2=>v= .int .i64 (rs q)) (fun O w' r=>(Dq (oS hS r) (hq.v.cB (kS hw r hS)) (eX.zero (S:=S)).v).mono fun _ _ ⟨v2,e1,e2,e3⟩=>⟨v2,e1,e2,by rw[e3,ow]⟩) ?_);rintro O wa1 v1 wb1 iv1 r he hw h_ rfl;intro ρe we re;refine⟨_,rfl,hw.tr re.cI,_,rfl,?_⟩;rw[beq_iff_eq];exact BJ
theorem KN{p:Rat}(hS:Old S w)(hp:eX w S v p)(hq:eX w S u q)(h0:q≠0):du PG N.u7 #[v,u] w (eD w fun v' w2=>cP w2 (Nf w w2) v' (p / q)):=by
 have hw:cQ w.heap.size w w:=cQ.refl;obtain⟨f0,f1,f2,f3,f4,f5,f6,f7,rfl⟩:=hp.shape;obtain⟨g0,g1,g2,g3,g4,g5,g6,g7,rfl⟩:=hq.shape;refine yN (by simp) ?_;refine bu (cE hw (fun _ w' v w2=>∃r,v= .tuple #[r,.int .i64 0]∧cP w2 (Nf w' w2) r (p / q)) (fun O w' r=>(KO (oS hS r) (hp.v.cB (kS hw r hS)) (hq.v.cB (kS hw r hS))).mono fun _ _ ⟨v2,e1,e2,e3⟩=>⟨v2,e1,e2,e3.elim (fun h=>absurd h.1 h0) fun h=>h.2⟩) ?_);rintro O wa1 v1 wb1 iv1 r he hw h_ ⟨q1,rfl,k1⟩;have hd:=k1.dB (S:=fun _=>False) r.bw (mN h_);obtain⟨s1_0a,s1_0b,s1_0c,s1_0d,s1_0e,s1_0f,s1_0g,s1_0h,rfl⟩:=hd.shape;intro ρe we re;exact⟨_,rfl,hw.tr re.cI,hd.out re (bs w)⟩
theorem Hb(hS:Old S w)(hq:eX w S v q):du PG N.ue #[v] w (eD w fun v' w2=>cP w2 (Nf w w2) v' (-q)):=by
 have hw:cQ w.heap.size w w:=cQ.refl;obtain⟨f0,f1,f2,f3,f4,f5,f6,f7,rfl⟩:=hq.shape;refine yT (by simp) ?_;refine bu (cE hw (fun _ w' v w2=>cP w2 (Nf w' w2) v (-q)) (fun O w' r=>(Hc (oS hS r) (eX.zero (S:=S)).v (hq.v.cB (kS hw r hS))).mono fun _ _ ⟨v2,e1,e2,e3⟩=>⟨v2,e1,e2,by rwa [show (0:Rat)-q= -q by grind]at e3⟩) ?_);rintro O wa1 v1 wb1 iv1 r he hw h_ hn;have hd:=hn.dB (S:=fun _=>False) r.bw (mN h_);obtain⟨s1_0,s1_1,s1_2,s1_3,s1_4,s1_5,s1_6,s1_7,rfl⟩:=hd.shape;intro ρe we re;exact⟨_,rfl,hw.tr re.cI,hd.out re (bs w)⟩
theorem Hd{h:Nat}(hS:Old S w)(hx:dx w S v xs)(hy:dx w S u ys)(hl:xs.length<=ys.length)(hqx:∀q∈xs,rl q+1<=h)(hqy:∀q∈ys,rl q+1<=h)(h2:2<=h)(hb:2*h*xs.length<=90000):
  du PG N.u9 #[v,u] w (eD w fun v' w2=>cP w2 (Nf w w2) v' (ef xs ys xs.length)):=by
 have hw:cQ w.heap.size w w:=cQ.refl;obtain⟨ax,cx,rfl,hcx,hmx⟩:=dZ.shape hx;obtain⟨ay,cy,rfl,hcy,-⟩:=dZ.shape hy;unfold maxLen at hmx;refine yO (by simp) ?_;refine bu (cE hw (fun _ w' v w2=>cP w2 (Nf w' w2) v (((0:Int):Rat))) (fun O w' r=>ke 0 w' (by decide) (by decide)) ?_);rintro O wa1 v1 wb1 iv1 r he hw h_ hn;have hd:=hn.dB (S:=fun _=>False) r.bw (mN h_);obtain⟨s1_0,s1_1,s1_2,s1_3,s1_4,s1_5,s1_6,s1_7,rfl⟩:=hd.shape;rw[show ((0:Int):Rat)=ef xs ys 0 from rfl]at hd
 refine⟨Nat×(Bool×Bool)×(Option Addr×Option Addr)×(Nat×Nat×Nat×Nat)×World×Iv,fun z=>⟨[(1,.o (.v (.slice ay ys.length cy))),(4,.o (.p 0 0)),(5,.o (.p 1 0)),(9,.o (.v (.slice ax xs.length cx))),(10,.o (.v (.int .i64 xs.length))),(11,.o (.v (.int .i64 ((z.1:Nat):Int))))],[(1,.box T.Rat [.v (.bool z.2.1.1),.v (.slice z.2.2.1.1 z.2.2.2.1.1 z.2.2.2.1.2.1),.v (.bool z.2.1.2),.v (.slice z.2.2.1.2 z.2.2.2.1.2.2.1 z.2.2.2.1.2.2.2)]),(0,.box T.Rat [.v (.bool false),.v (.slice none 0 0),.v (.bool false),.v (.slice none 0 0)])],2,z.2.2.2.2.2,z.2.2.2.2.1⟩,fun z=>xs.length-z.1,
  fun z=>z.1<=xs.length∧cQ w.heap.size w z.2.2.2.2.1∧cP z.2.2.2.2.1 (Cf w z.2.2.2.2.2) (.agg #[.bool z.2.1.1,.slice z.2.2.1.1 z.2.2.2.1.1 z.2.2.2.1.2.1,.bool z.2.1.2,.slice z.2.2.1.2 z.2.2.2.1.2.2.1 z.2.2.2.1.2.2.2]) (ef xs ys z.1),?_,?_⟩
 ·intro O w' r;exact⟨(0,(s1_0,s1_4),(s1_1,s1_5),(s1_2,s1_3,s1_6,s1_7),w',iv1),⟨by simp,hw.tr r.cI,hd.rel r (bs w)⟩,Sub.gn [] r⟩
 rintro⟨i,⟨p0,p4⟩,⟨p1,p5⟩,⟨p2,p3,p6,p7⟩,w1,iv⟩ ⟨hi,hw,hd⟩;dsimp only at hi hw hd ⊢;refine dH.mk (fun hib=>?_) (fun hib=>?_)
 ·have hib:i<xs.length:=by simpa using hib
  have hs:=y8 hqx hqy h2 i;have hs2:2*h*i<=2*h*xs.length:=bW _ hi;have hs3:2*h*1<=2*h*xs.length:=bW _ (by omega);obtain⟨x,hxi⟩:∃x,xs[i]? =some x:=⟨_,aA hib⟩
  obtain⟨y,hyi⟩:∃x,ys[i]? =some x:=⟨_,aA (by omega)⟩
  have hx3:=hqx x (aD hxi);have hy3:=hqy y (aD hyi);have hx2:xs.getD i 0=x:=by rw[List.getD,hxi];rfl
  have hy2:ys.getD i 0=y:=by rw[List.getD,hyi];rfl
  have hm:=jL x y;obtain⟨adx,csx,hax,hFx,-,hlx⟩:=dZ.load hx hxi;obtain⟨ady,csy,hay,hFy,-,hly⟩:=dZ.load hy hyi;obtain⟨f0,f1,f2,f3,f4,f5,f6,f7,rfl,hFx⟩:=hFx;obtain⟨q0,q1,q2,q3,q4,q5,q6,q7,rfl,hFy⟩:=hFy;refine⟨adx,hax,by omega,[.bool f0,.slice f1 f2 f3,.bool f4,.slice f5 f6 f7],rfl,rdO hlx hw hS,?_⟩;refine bu (cE hw (fun _ w' v w2=>∃d,v= .bool d∧(d=true↔x=0)) (fun O w' r=>pU (oS hS r) (hFx.cB (kS hw r hS))) ?_);rintro O wa2 v2 wb2 iv2 r he hw h_ ⟨d1,rfl,hz1⟩;replace hd:=hd.bz r (bs w) he (mC h_)
  cases d1
  ·refine⟨ady,hay,by omega,[.bool q0,.slice q1 q2 q3,.bool q4,.slice q5 q6 q7],rfl,rdO hly hw hS,?_⟩;refine bu (cE hw (fun _ w' v w2=>∃d,v= .bool d∧(d=true↔y=0)) (fun O w' r=>pU (oS hS r) (hFy.cB (kS hw r hS))) ?_);rintro O wa3 v3 wb3 iv3 r he hw h_ ⟨d2,rfl,hz2⟩;replace hd:=hd.bz r (bs w) he (mC h_)
   cases d2
   ·refine cD hτ df [.x 0,.x 1,.x 2,.x 3,.x 4,.x 5,.x 6,.x 7,.x 8] (by kernel_rfl) (by kernel_rfl) ?_;refine⟨ady,hay,by omega,[.bool q0,.slice q1 q2 q3,.bool q4,.slice q5 q6 q7],rfl,rdO hly hw hS,?_⟩;refine cE hw (fun _ w' v w2=>cP w2 (Nf w' w2) v (x*y)) (fun O w' r=>y9 (oS hS r) (hFx.v.cB (kS hw r hS)) (hFy.v.cB (kS hw r hS))) ?_;rintro O wa4 v4 wb4 iv4 r he hw h_ hn;replace hd:=hd.bz r (bs w) he (mC h_);have hp:=hn.dB (S:=fun _=>False) r.bw (mN h_);obtain⟨s4_0,s4_1,s4_2,s4_3,s4_4,s4_5,s4_6,s4_7,rfl⟩:=hp.shape;refine cE hw (fun _ w' v w2=>cP w2 (Nf w' w2) v (ef xs ys i+x*y)) (fun O w' r=>He (Rel.old r (bs w)) ((hd.rel r (bs w)).v (by omega)) ((hp.rel r (bs w)).v (by omega))) ?_;rintro O wa5 v5 wb5 iv5 r he hw h_ hn;have hd2:=hn.dB (S:=fun _=>False) r.bw (mN h_);obtain⟨s5_0,s5_1,s5_2,s5_3,s5_4,s5_5,s5_6,s5_7,rfl⟩:=hd2.shape;rw[show ef xs ys i+x*y=ef xs ys (i+1) by rw[ef,hx2,hy2]]at hd2;refine⟨((i+1:Nat):Int),wo,?_⟩;intro ρ3 w3 r3;exact⟨(i+1,(s5_0,s5_4),(s5_1,s5_5),(s5_2,s5_3,s5_6,s5_7),w3,_),⟨hib,hw.tr r3.cI,hd2.rel r3 (bs w)⟩,Sub.gn [] r3,by dsimp only;omega⟩
   ·have hy0:y=0:=hz2.1 rfl;rw[show ef xs ys i=ef xs ys (i+1) by rw[ef,hx2,hy2,hy0,bA,bV]]at hd;refine⟨((i+1:Nat):Int),wo,?_⟩;intro ρ3 w3 r3;exact⟨(i+1,(p0,p4),(p1,p5),(p2,p3,p6,p7),w3,_),⟨hib,hw.tr r3.cI,hd.rel r3 (bs w)⟩,Sub.gn [] r3,by dsimp only;omega⟩
  ·have hx0:x=0:=hz1.1 rfl;rw[show ef xs ys i=ef xs ys (i+1) by rw[ef,hx2,hy2,hx0,bC,bV]]at hd;refine⟨((i+1:Nat):Int),wo,?_⟩;intro ρ3 w3 r3;exact⟨(i+1,(p0,p4),(p1,p5),(p2,p3,p6,p7),w3,_),⟨hib,hw.tr r3.cI,hd.rel r3 (bs w)⟩,Sub.gn [] r3,by dsimp only;omega⟩
 have hib:i=xs.length:=aQ hi (by simpa using hib);subst hib;intro ρe we re;exact⟨_,rfl,hw.tr re.cI,hd.out re (bs w)⟩
structure fc(w:World)(S:Nat->Prop)(n i:Nat)(css:List (List Value))(qs:List Rat):Prop where
 len:css.length=n
 four:∀cs∈css,cs.length=4
 one:∀cs∈css,∀u∈cs,u.oneCell'=true
 at_:∀(j:Nat) cs q,j<i->css[j]? =some cs->qs[j]? =some q->iT w S cs q
section
variable{S S':Nat->Prop}{H:Hp}{nx n i:Nat}{iv iv':Iv}{B:Nat}{w w1 w' w2:World}{O:Nat->Sx.dU}{css:List (List Value)}{qs:List Rat}
theorem fc.cB(h:fc w S n i css qs)(hk:∀g,S g->w2.heap[g]? =w.heap[g]?):fc w2 S n i css qs:=⟨h.len,h.four,h.one,fun j cs q hj h1 h2=>(h.at_ j cs q hj h1 h2).cB hk⟩
theorem fc.cC(h:fc w S n i css qs)(hk:∀g,S g->S' g):fc w S' n i css qs:=⟨h.len,h.four,h.one,fun j cs q hj h1 h2=>(h.at_ j cs q hj h1 h2).cC hk⟩
theorem fc.rel(h:fc w (Cv S B iv) n i css qs)(r:Rel H nx iv B w O w')(hS:∀g,S g->g<B):fc w' (Cv S B iv) n i css qs:=h.cB fun _ hg=>Rel.same r hS hg
theorem fc.bz(h:fc w (Cv S B iv) n i css qs)(r:Rel H nx iv B w O w')(hS:∀g,S g->g<B)(he:Ext w' w2)(hm:∀p,p∈iv->p∈iv'):fc w2 (Cv S B iv') n i css qs:=
 ((h.rel r hS).cB fun g hg=>he.block g (Rel.old r hS g hg)).cC fun _ hg=>hg.mono hm
theorem fc.start(w:World)(S:Nat->Prop)(n:Nat)(qs:List Rat):fc w S n 0 (List.replicate n f0) qs:=
 ⟨by simp,fun cs hc=>by rw[List.eq_of_mem_replicate hc];rfl,fun cs hc u hu=>by rw[List.eq_of_mem_replicate hc]at hu;simp[f0]at hu;rcases hu with rfl|rfl|rfl|rfl<;>rfl,fun j cs q hj=>by omega⟩
theorem fc.next{b b2:Bool}{a2:Option Addr}{m c m2 c2:Nat}(h:fc w S n i css qs)(hi:i<n)(hq:qs[i]? =some q)(hf:cP w S (.agg #[.bool b,.slice a m c,.bool b2,.slice a2 m2 c2]) q):
  fc w S n (i+1) (css.set i [.bool b,.slice a m c,.bool b2,.slice a2 m2 c2]) qs:=by
 refine⟨by simp[h.len],fun cs hc=>?_,fun cs hc u hu=>?_,fun j cs p hj h1 h2=>?_⟩
 ·rcases bU hc with hc|rfl
  ·exact h.four cs hc
  ·rfl
 ·rcases bU hc with hc|rfl
  ·exact h.one cs hc u hu
  ·simp at hu;rcases hu with rfl|rfl|rfl|rfl<;>rfl
 ·by_cases hij:i=j
  ·subst hij;rw[aT (by rw[h.len];exact hi)]at h1;rw[hq]at h2;injection h1 with h1;injection h2 with h2;subst h1 h2;exact hf.s5
  ·rw[aw hij]at h1;exact h.at_ j cs p (by omega) h1 h2
theorem fc.flat(h:fc w S n i css qs):css.flatten.length=n*4:=by rw[fu h.four,h.len]
theorem fc.done{w0:World}(h:fc w1 (Cf w0 iv) n n css qs)(hl:qs.length=n)(hn:n<=maxLen)(r:Rel H nx iv w0.heap.size w1 O w'){id:Nat}(hH:cY H id=some (.arr T.Rat css.flatten))(hnil:(O id).nil=false):
  di w' (fun _=>False) w0.heap.size [(w0.heap.size,w'.heap.size)] (.slice (some ⟨(O id).g,0,none⟩) n n) n qs:=by
 have h2:=h.rel r (bs w0);have hlow:=r.low id _ hH hnil;refine⟨⟨css,⟨h.flat,.inr ⟨(O id).g,n,css.flatten.toArray,rfl,aP _,r.arr id _ _ hH,aE _,hn,by simpa using h.flat,?_⟩⟩,h.len,?_⟩,fun g hg=>?_⟩
 ·rw[<-h.flat];exact bF
 ·refine⟨by rw[h.len,hl],fun j cs q h3 h4=>?_⟩;refine(h2.at_ j cs q (by rw[<-hl];exact(aC.1 h4).1) h3 h4).cC fun g hg=>⟨?_,fun e=>?_⟩
  ·rcases hg with hg|⟨k1,lo,hi,k2,k3,k4⟩
   ·exact hg.elim
   ·exact .inr ⟨k1,_,_,bD.2 rfl,k1,by have:=r.rG lo hi k2;have:=r.size;omega⟩
  ·injection e with e;exact Rel.not r (bs w0) hg id _ hH hnil e
 ·injection hg with hg;subst hg;exact .inr ⟨hlow.1,_,_,bD.2 rfl,hlow.1,hlow.2⟩
theorem fh.c(h:fh w S S v qs):cF w S v qs:=by
 obtain⟨css,h1,h2⟩:=h;exact⟨css,h1,h2.1,h2.zN,h2.2⟩
theorem di.c(h:di w S B iv v n qs):cF w (Cv S B iv) v qs:=h.read.c
theorem cF.rc(h:cF w S v qs):fh w S S v qs:=by
 obtain⟨css,h1,h2,h3,h4⟩:=h;exact⟨css,h1,h2,h4⟩
theorem fh.rel(h:fh w (Cv C B iv) (Cv S B iv) v qs)(r:Rel H nx iv B w O w')(hC:∀g,C g->g<B)(hS:∀g,S g->g<B):fh w' (Cv C B iv) (Cv S B iv) v qs:=
 h.cB fun _ hg=>hg.elim (Rel.same r hC) (Rel.same r hS)
theorem fh.bz(h:fh w (Cv C B iv) (Cv S B iv) v qs)(r:Rel H nx iv B w O w')(hC:∀g,C g->g<B)(hS:∀g,S g->g<B)(he:Ext w' w2)(hm:∀p,p∈iv->p∈iv'):fh w2 (Cv C B iv') (Cv S B iv') v qs:=
 ((h.rel r hC hS).cB fun g hg=>he.block g (hg.elim (Rel.old r hC g) (Rel.old r hS g))).cC (fun _ hg=>hg.mono hm) (fun _ hg=>hg.mono hm)
theorem fh.arg(h:fh w C S v qs)(iv:Iv):fh w (Cv C w.heap.size iv) (Cv S w.heap.size iv) v qs:=h.cC (fun _ h=>.inl h) (fun _ h=>.inl h)
theorem fh.shape(h:fh w C S v qs):∃a c,v= .slice a qs.length c∧qs.length<=c∧qs.length<=maxLen:=by
 obtain⟨css,⟨h0,_,_,a,c,h1,h2,_⟩,_⟩:=h;exact⟨a,c,h1,h2,h0⟩
theorem fh.load{n c j:Nat}(h:fh w C S (.slice a n c) qs)(hq:qs[j]? =some q):
  ∃ad cs,a=some ad∧iT w S cs q∧∀k u,cs[k]? =some u->C ad.block∧w.cell? ((ad.add (j*4)).add k)=some u:=by
 obtain⟨css,⟨h0,h1,h2,a',c',e,h3,h4⟩,hf⟩:=h;injection e with e1 e2 e3;subst e1;obtain⟨cs,hcs⟩:∃cs,css[j]? =some cs:=⟨_,aA (by rw[hf.1];exact(aC.1 hq).1)⟩
 have hF:=hf.2 j cs q hcs hq;have hl:=hF.len;obtain⟨ad,k1,k2,k3⟩:=h4 (j*4+0) _ (flat_get hf.zN hcs 0 _ (aA (show 0<cs.length by omega)));refine⟨ad,cs,k1,hF,fun k u hu=>?_⟩;obtain⟨ad2,m1,m2,m3⟩:=h4 (j*4+k) u (flat_get hf.zN hcs k u hu);rw[k1]at m1;injection m1 with m1;subst m1;refine⟨m2,?_⟩;rw[<-m3];have:(ad.add (j*4)).add k=ad.add (j*4+k):=by
  unfold Addr.add;split<;>split<;>simp_all<;>omega
 rw[this]
theorem Ca{j:Nat}{c:Nat}(h:w.ownsRow 0 T.Rat 4 (.slice a n c) n css.flatten)(hf:Fc w S css qs)(hj:css[j]? =some cs):
  ∃g,a=some ⟨g,0,none⟩∧∀k u,cs[k]? =some u->w.cell? ((Addr.add ⟨g,0,none⟩ (j*4)).add k)=some u:=by
 rcases h.2 with⟨h1,h0⟩|⟨g,cap,cur,hv2,_⟩
 ·have:=h.1;rw[fu hf.zN]at this;have:=(aC.1 hj).1;omega
 ·injection hv2 with h1 h2 h3;subst h1;refine⟨g,rfl,fun k u hu=>?_⟩;have:=h.cells (g:=g) rfl (j*4+k) u (flat_get hf.zN hj k u hu);rw[dN,dN];rw[dN]at this;rw[Nat.add_assoc];exact this
end
theorem Cb(n:Nat)(w:World)(hn:n<=1000000):du PG N.qG #[.int .i64 n] w (eD w fun v' w2=>di w2 (fun _=>False) w.heap.size [(w.heap.size,w2.heap.size)] v' n (List.replicate n 0)):=by
 have hw:cQ w.heap.size w w:=cQ.refl;refine tt (by simp) ?_
 refine⟨n,n,rfl,rfl,aE _,by omega,by omega,Nat×List (List Value)×Iv×World,fun z=>⟨[(3,.o (.s 0 0 n n)),(8,.o (.v (.int .i64 n))),(9,.o (.v (.int .i64 ((z.1:Nat):Int))))],[(0,.arr T.Rat z.2.1.flatten)],1,z.2.2.1,z.2.2.2⟩,fun z=>n-z.1,
  fun z=>z.1<=n∧cQ w.heap.size w z.2.2.2∧fc z.2.2.2 (Cf w z.2.2.1) (n) z.1 z.2.1 (List.replicate n 0),?_,?_⟩
 ·intro O w' r;exact⟨(0,List.replicate (n) f0,_,w'),⟨by simp,hw.tr r.cI,fc.start _ _ _ _⟩,Sub.gn [] r⟩
 rintro⟨i,css,iv,w1⟩ ⟨hi,hw,hF⟩;dsimp only at hi hw hF ⊢;refine dH.mk (fun h=>?_) (fun h=>?_)
 ·have h:i<n:=by simpa using h
  refine bu (cE hw (fun _ w' v w2=>cP w2 (Nf w' w2) v (((0:Int):Rat))) (fun O w' r=>ke 0 w' (by decide) (by decide)) ?_);rintro O wa1 v1 wb1 iv1 r he hw h_ hn;replace hF:=hF.bz r (bs w) he (mC h_);have hd:=hn.dB (S:=fun _=>False) r.bw (mN h_);obtain⟨s1_0,s1_1,s1_2,s1_3,s1_4,s1_5,s1_6,s1_7,rfl⟩:=hd.shape;have hnext:=hF.next h (q:=_) (by simp[h]) hd
  refine⟨by omega,by have:=hF.flat;omega,(css.set i [.bool s1_0,.slice s1_1 s1_2 s1_3,.bool s1_4,.slice s1_5 s1_6 s1_7]).flatten,?_,?_⟩
  ·have:=jg (cs:=[.bool s1_0,.slice s1_1 s1_2 s1_3,.bool s1_4,.slice s1_5 s1_6 s1_7]) hF.four (show i<css.length by rw[hF.len];exact h);rw[<-this];simp
  refine⟨((i+1:Nat):Int),wo,?_⟩;intro ρ3 w3 r3;exact⟨(i+1,css.set i [.bool s1_0,.slice s1_1 s1_2 s1_3,.bool s1_4,.slice s1_5 s1_6 s1_7],_,w3),⟨h,hw.tr r3.cI,hnext.rel r3 (bs w)⟩,Sub.gn [] r3,by dsimp only;omega⟩
 have h:i=n:=aQ hi (by simpa using h);subst h;intro ρe we re;exact⟨_,rfl,hw.tr re.cI,hF.done (by simp) (by unfold maxLen;omega) re (id:=0) rfl (re.nn 0 _ rfl (by intros;simp) (by simp))⟩
theorem AN{b:Rat}(hS:Old S w)(hx:dx w S v xs)(hb:eX w S u b)(hn:xs.length<=1000000):
  du PG N.o6 #[v,u] w (eD w fun v' w2=>di w2 (fun _=>False) w.heap.size [(w.heap.size,w2.heap.size)] v' xs.length (dC xs b)):=by
 have hw:cQ w.heap.size w w:=cQ.refl;obtain⟨ax,cx,rfl,hcx,hmx⟩:=dZ.shape hx;obtain⟨g0,g1,g2,g3,g4,g5,g6,g7,rfl⟩:=hb.shape;have hby:rl b<=100000:=hb.rl;refine sU (by simp) ?_
 refine⟨xs.length,xs.length,rfl,rfl,aE _,by omega,by omega,Nat×List (List Value)×Iv×World,fun z=>⟨[(3,.o (.p 0 0)),(5,.o (.s 1 0 xs.length xs.length)),(11,.o (.v (.slice ax xs.length cx))),(12,.o (.v (.int .i64 xs.length))),(13,.o (.v (.int .i64 ((z.1:Nat):Int))))],[(0,.box T.Rat [.v (.bool g0),.v (.slice g1 g2 g3),.v (.bool g4),.v (.slice g5 g6 g7)]),(1,.arr T.Rat z.2.1.flatten)],2,z.2.2.1,z.2.2.2⟩,fun z=>xs.length-z.1,
  fun z=>z.1<=xs.length∧cQ w.heap.size w z.2.2.2∧fc z.2.2.2 (Cf w z.2.2.1) (xs.length) z.1 z.2.1 (dC xs b),?_,?_⟩
 ·intro O w' r;exact⟨(0,List.replicate (xs.length) f0,_,w'),⟨by simp,hw.tr r.cI,fc.start _ _ _ _⟩,Sub.gn [] r⟩
 rintro⟨i,css,iv,w1⟩ ⟨hi,hw,hF⟩;dsimp only at hi hw hF ⊢;refine dH.mk (fun h=>?_) (fun h=>?_)
 ·have h:i<xs.length:=by simpa using h
  obtain⟨x,hxi⟩:∃x,xs[i]? =some x:=⟨_,aA h⟩
  obtain⟨adx,csx,hax,hFx,-,hlx⟩:=dZ.load hx hxi;obtain⟨f0,f1,f2,f3,f4,f5,f6,f7,rfl,hFx⟩:=hFx;refine⟨adx,hax,by omega,[.bool f0,.slice f1 f2 f3,.bool f4,.slice f5 f6 f7],rfl,rdO hlx hw hS,?_⟩;refine bu (cE hw (fun _ w' v w2=>cP w2 (Nf w' w2) v (x*b)) (fun O w' r=>y9 (oS hS r) (hFx.v.cB (kS hw r hS)) (hb.v.cB (kS hw r hS))) ?_);rintro O wa1 v1 wb1 iv1 r he hw h_ hn;replace hF:=hF.bz r (bs w) he (mC h_);have hd:=hn.dB (S:=fun _=>False) r.bw (mN h_);obtain⟨s1_0,s1_1,s1_2,s1_3,s1_4,s1_5,s1_6,s1_7,rfl⟩:=hd.shape;have hnext:=hF.next h (q:=_) (by rw[dC,aM,hxi];rfl) hd
  refine⟨by omega,by have:=hF.flat;omega,(css.set i [.bool s1_0,.slice s1_1 s1_2 s1_3,.bool s1_4,.slice s1_5 s1_6 s1_7]).flatten,?_,?_⟩
  ·have:=jg (cs:=[.bool s1_0,.slice s1_1 s1_2 s1_3,.bool s1_4,.slice s1_5 s1_6 s1_7]) hF.four (show i<css.length by rw[hF.len];exact h);rw[<-this];simp
  refine⟨((i+1:Nat):Int),wo,?_⟩;intro ρ3 w3 r3;exact⟨(i+1,css.set i [.bool s1_0,.slice s1_1 s1_2 s1_3,.bool s1_4,.slice s1_5 s1_6 s1_7],_,w3),⟨h,hw.tr r3.cI,hnext.rel r3 (bs w)⟩,Sub.gn [] r3,by dsimp only;omega⟩
 have h:i=xs.length:=aQ hi (by simpa using h);subst h;intro ρe we re;exact⟨_,rfl,hw.tr re.cI,hF.done (by simp[dC]) (by unfold maxLen;omega) re (id:=1) rfl (re.nn 1 _ rfl (by intros;simp) (by simp))⟩
theorem FE(hS:Old S w)(hx:dx w S v xs)(hy:dx w S u ys)(hl:xs.length<=ys.length)(hn:xs.length<=1000000):
  du PG N.sC #[v,u] w (eD w fun v' w2=>di w2 (fun _=>False) w.heap.size [(w.heap.size,w2.heap.size)] v' xs.length (eh xs ys)):=by
 have hw:cQ w.heap.size w w:=cQ.refl;obtain⟨ax,cx,rfl,hcx,hmx⟩:=dZ.shape hx;obtain⟨ay,cy,rfl,hcy,hmy⟩:=dZ.shape hy;refine vI (by simp) ?_
 refine⟨xs.length,xs.length,rfl,rfl,aE _,by omega,by omega,Nat×List (List Value)×Iv×World,fun z=>⟨[(0,.o (.v (.slice ax xs.length cx))),(1,.o (.v (.slice ay ys.length cy))),(5,.o (.s 0 0 xs.length xs.length)),(11,.o (.v (.int .i64 xs.length))),(12,.o (.v (.int .i64 ((z.1:Nat):Int))))],[(0,.arr T.Rat z.2.1.flatten)],1,z.2.2.1,z.2.2.2⟩,fun z=>xs.length-z.1,
  fun z=>z.1<=xs.length∧cQ w.heap.size w z.2.2.2∧fc z.2.2.2 (Cf w z.2.2.1) (xs.length) z.1 z.2.1 (eh xs ys),?_,?_⟩
 ·intro O w' r;exact⟨(0,List.replicate (xs.length) f0,_,w'),⟨by simp,hw.tr r.cI,fc.start _ _ _ _⟩,Sub.gn [] r⟩
 rintro⟨i,css,iv,w1⟩ ⟨hi,hw,hF⟩;dsimp only at hi hw hF ⊢;refine dH.mk (fun h=>?_) (fun h=>?_)
 ·have h:i<xs.length:=by simpa using h
  obtain⟨x,hxi⟩:∃x,xs[i]? =some x:=⟨_,aA h⟩
  obtain⟨y,hyi⟩:∃x,ys[i]? =some x:=⟨_,aA (by omega)⟩
  obtain⟨adx,csx,hax,hFx,-,hlx⟩:=dZ.load hx hxi;obtain⟨f0,f1,f2,f3,f4,f5,f6,f7,rfl,hFx⟩:=hFx;obtain⟨ady,csy,hay,hFy,-,hly⟩:=dZ.load hy hyi;obtain⟨q0,q1,q2,q3,q4,q5,q6,q7,rfl,hFy⟩:=hFy;refine cD hτ df [.x 0,.x 1,.x 2,.x 3,.x 4,.x 5,.x 6,.x 7,.x 8,.x 9,.x 10,.x 11,.x 12] (by kernel_rfl) (by kernel_rfl) ?_;refine⟨adx,hax,by omega,[.bool f0,.slice f1 f2 f3,.bool f4,.slice f5 f6 f7],rfl,rdO hlx hw hS,ady,hay,by omega,[.bool q0,.slice q1 q2 q3,.bool q4,.slice q5 q6 q7],rfl,rdO hly hw hS,?_⟩;refine cE hw (fun _ w' v w2=>cP w2 (Nf w' w2) v (x*y)) (fun O w' r=>y9 (oS hS r) (hFx.v.cB (kS hw r hS)) (hFy.v.cB (kS hw r hS))) ?_;rintro O wa1 v1 wb1 iv1 r he hw h_ hn;replace hF:=hF.bz r (bs w) he (mC h_);have hd:=hn.dB (S:=fun _=>False) r.bw (mN h_);obtain⟨s1_0,s1_1,s1_2,s1_3,s1_4,s1_5,s1_6,s1_7,rfl⟩:=hd.shape;have hnext:=hF.next h (q:=_) (by rw[eh,List.getElem?_mapIdx,hxi,List.getD,hyi];rfl) hd
  refine⟨by omega,by have:=hF.flat;omega,(css.set i [.bool s1_0,.slice s1_1 s1_2 s1_3,.bool s1_4,.slice s1_5 s1_6 s1_7]).flatten,?_,?_⟩
  ·have:=jg (cs:=[.bool s1_0,.slice s1_1 s1_2 s1_3,.bool s1_4,.slice s1_5 s1_6 s1_7]) hF.four (show i<css.length by rw[hF.len];exact h);rw[<-this];simp
  refine⟨((i+1:Nat):Int),wo,?_⟩;intro ρ3 w3 r3;exact⟨(i+1,css.set i [.bool s1_0,.slice s1_1 s1_2 s1_3,.bool s1_4,.slice s1_5 s1_6 s1_7],_,w3),⟨h,hw.tr r3.cI,hnext.rel r3 (bs w)⟩,Sub.gn [] r3,by dsimp only;omega⟩
 have h:i=xs.length:=aQ hi (by simpa using h);subst h;intro ρe we re;exact⟨_,rfl,hw.tr re.cI,hF.done (by simp[eh]) (by unfold maxLen;omega) re (id:=0) rfl (re.nn 0 _ rfl (by intros;simp) (by simp))⟩
end Go.Ex
