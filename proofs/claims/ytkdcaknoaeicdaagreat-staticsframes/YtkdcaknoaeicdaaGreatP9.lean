/- A part of the proof: texts X101 to X88. Each tells its conditions in its theorems. -/
import Derived.Test.YtkdcaknoaeicdaaGreatP5
import Derived.Test.YtkdcaknoaeicdaaGreatP8
namespace Go.Ex
open Go Go.Sx Go.Proofs
abbrev J3(gm R:Nat):Value:=.slice (some ⟨gm,0,none⟩) R R
def KB(S:Nat->Prop)(B:Nat)(iv:Iv)(gm R:Nat)(rv:List Value)(g:Nat):Prop:=Cv S B iv g∧¬Mb (J3 gm R) rv g
structure Jb(w:World)(S:Nat->Prop)(B:Nat)(iv:Iv)(gm R n:Nat)(rv:List Value)(M:List (List Rat)):Prop where
 mat:JN w (KB S B iv gm R rv) (J3 gm R) rv n M
 yr:∀g,Mb (J3 gm R) rv g->Cv (fun _=>False) B iv g
 rows:rv.length=R
section
variable{S S':Nat->Prop}{H:Hp}{nx gm R n:Nat}{iv iv':Iv}{B:Nat}{w w' w2:World}{ρ:Nat->Sx.dc}{rv:List Value}{M:List (List Rat)}
structure aAF(w:World)(S:Nat->Prop)(B:Nat)(iv:Iv)(gm R n:Nat)(rv:List Value)(M:List (List Rat))(i:Nat)(vb:Value):Prop where
 out:w.ownsRow 0 T.row 1 (J3 gm R) R (rv.set i vb)
 was:∃w0,Jb w0 S B iv gm R n rv M∧∀g,Cv S B iv g->g≠gm->w.heap[g]? =w0.heap[g]?
end
section
variable{S:Nat->Prop}{H:Hp}{nx gm R:Nat}{iv iv':Iv}{B:Nat}{w w' w2:World}{ρ:Nat->Sx.dc}{rv:List Value}{css:List (List Value)}{qs:List Rat}
end
inductive Tp where
 |nil
 |x (i:Nat) (t:Tp)
 |two (i:Nat) (t:Tp) (j:Nat) (u:Tp)
 |mw (id:Nat) (t:Tp)
section
variable{P:Program}{τ:ky}{ops:Array Oper}{B n nx:Nat}{l:Env}{H:Hp}{iv:Iv}{w w':World}{ρ:Nat->Sx.dc}{a:Act}
end
theorem rk{l tl:Env}{nx t id n:Nat}{ρ:Nat->Sx.dc}(hn:(ρ id).nil=false)(ht:ef l t=some (.o (.w id n)))(h1:BC l tl)(h2:cV nx tl):∀u v,ef ((t,.o (.v (.slice (some ⟨(ρ id).g,0,none⟩) n (ρ id).cap)))::tl) u=some v->v.sc nx∧∃v',ef l u=some v'∧v'.den ρ=v.den ρ:=fun u v hv=>by
 rw[eI]at hv;split at hv
 ·rename_i e;subst e;injection hv with hv;subst hv;exact⟨trivial,_,ht,by simp[SV.den,At.den,hn]⟩
 ·exact⟨h2.get u v hv,v,h1.get u v hv,rfl⟩
theorem HX{H:Hp}{nx:Nat}{iv:Iv}{B:Nat}{w w':World}{ρ:Nat->Sx.dc}(r:Rel H nx iv B w ρ w'){id t m sz:Nat}{cs:List Value}(h:dA H id=some (.vec t sz cs))(hm:cs.length=m*sz)(hm1:m<=maxLen)(hs:0<sz)(h0:0<m)(h1:∀u∈cs,u.oneCell'=true):
  (ρ id).nil=false∧B<=(ρ id).g∧iS w' (fun g=>g=(ρ id).g) sz (.slice (some ⟨(ρ id).g,0,none⟩) m (ρ id).cap) cs m:=by
 rcases r.vec id t sz _ h with⟨hn,rfl⟩|⟨hn,spare,hb,hc,hcap⟩
 ·have:=Nat.mul_pos h0 hs;simp at hm;omega
 ·refine⟨hn,(r.low id _ h hn).1,hm1,hm,h1,some ⟨(ρ id).g,0,none⟩,(ρ id).cap,rfl,?_,fun j x hx=>⟨_,rfl,rfl,?_⟩⟩
  ·have h1:(cs++spare).length=cs.length+spare.length:=List.length_append;have h2:m*sz<=(ρ id).cap*sz:=by omega
   exact Nat.le_of_mul_le_mul_right h2 hs
  ·rw[dM,cell_of hb,aS,aL (aE.1 hx).1];exact hx
end Go.Ex
namespace Go.Ex
section
variable{M:List (List Rat)}{b:List Rat}{n:Nat}
end
end Go.Ex
namespace Go.Ex
open Go Go.Sx Go.Proofs
section
variable{S:Nat->Prop}{H:Hp}{nx:Nat}{iv0:Iv}{B:Nat}{w w' w2:World}{ρ:Nat->Sx.dc}{v:Value}{xs:List Rat}
end
theorem jy{q:Rat}:rs q<0↔q<0:=by rw[rs,Int.sign_neg_iff,<-Int.not_le,Rat.num_nonneg,Rat.not_le]
theorem mS{q:Rat}:0<rs q↔0<q:=by
 have h:=jy (q:= -q);rw[IN]at h;constructor
 ·intro k;have:=h.1 (by omega);grind
 ·intro k;have:=h.2 (by grind);omega
end Go.Ex
namespace Go.Ex
def JK:List Nat->(Nat->Rat)->Rat
 |[],_=>0
 |t::l,g=>g t+JK l g
theorem wL{l:List Rat}{i t:Nat}{v:Rat}:(l.set i v).getD t 0=if i=t∧i<l.length then v else l.getD t 0:=by
 simp only[List.getD,List.getElem?_set]
 by_cases h:i=t
 ·subst h;by_cases hl:i<l.length
  ·simp[hl]
  ·simp[hl]
 ·simp[h]
theorem BU{F:Nat->List Rat}{pv:List Nat}{f:Nat->Rat}(hF:∀i,F (i+1)=(F i).set (pv.getD i 0) (f i)){t:Nat}(ht:t∉pv):∀i,i<=pv.length->(F i).getD t 0=(F 0).getD t 0
 |0,_=>rfl
 |i+1,h=>by
  rw[hF,wL,aK fun e=>ht (by rw[<-e.1,List.getD,aB (by omega)];exact bL _)];exact BU hF ht i (by omega)
theorem FY{pv:List Nat}(hp:pv.Pairwise (· < ·)){i j:Nat}(hij:j<i)(hi:i<pv.length):pv.getD j 0<pv.getD i 0:=by
 rw[List.getD,List.getD,aB hi,aB (by omega)];exact List.pairwise_iff_getElem.1 hp j i _ _ hij
theorem D2{F:Nat->List Rat}{pv:List Nat}{f:Nat->Rat}{n:Nat}(hF:∀i,F (i+1)=(F i).set (pv.getD i 0) (f i))(hl:∀i,(F i).length=n)(hp:pv.Pairwise (· < ·))(hn:∀p∈pv,p<n){j:Nat}:∀i,i<=pv.length->j<i->(F i).getD (pv.getD j 0) 0=f j
 |0,_,h=>by omega
 |i+1,h,hj=>by
  rw[hF,wL];rcases aV j i with h1|h1
  ·have:=FY hp h1 (by omega);rw[aK (by omega)];exact D2 hF hl hp hn i (by omega) h1
  ·have e:j=i:=by omega
   subst e;have hm:pv.getD j 0<(F j).length:=by rw[hl];exact hn _ (by rw[List.getD,aB (by omega)];exact bL _)
   rw[if_pos ⟨rfl,hm⟩]
abbrev im(pv:List Nat)(n:Nat):List Nat:=(List.range n).filter fun c=>decide (c∉pv)
section
variable{M:List (List Rat)}{x:List Rat}{n:Nat}
end
structure Diff(A:List (List Rat))(pv:List Nat)(n:Nat)(x:List Rat):Prop where
 up:pv.Pairwise (· < ·)
 lt:∀p∈pv,p<n
 le:pv.length<=A.length
 unit:∀i j,i<pv.length->j<A.length->di A j (pv.getD i 0)=if j=i then 1 else 0
 sum:∀j,j<A.length->JK (List.range n) (fun t=>di A j t*x.getD t 0)=di A j n
section
variable{A:List (List Rat)}{pv:List Nat}{n:Nat}{x:List Rat}
theorem IP{t:Nat}(h:t∈pv):∃j,j<pv.length∧pv.getD j 0=t:=by
 obtain⟨j,hj,rfl⟩:=List.mem_iff_getElem.1 h;exact⟨j,hj,by rw[List.getD,aB hj];rfl⟩
theorem BV{c t:Nat}(ht:t∉pv)(hc:c<n):(ff A pv n c pv.length).getD t 0=if t=c then 1 else 0:=by
 rw[BU (F:=ff A pv n c) (fun i=>ga A pv n c i) ht _ (aG _)];show((List.replicate n (0:Rat)).set c 1).getD t 0=_;rw[wL,bQ];by_cases h:c=t
 ·rw[if_pos ⟨h,hc⟩,if_pos h.symm]
 ·rw[aK (fun e=>h e.1),aK (fun e=>h e.symm)];simp only[List.getD,List.getElem?_replicate]
  split<;>rfl
theorem wM:(im pv n).Nodup:=List.Pairwise.filter _ List.nodup_range
theorem qh{c:Nat}:c∈im pv n↔c<n∧c∉pv:=by
 unfold im;rw[List.mem_filter,List.mem_range,decide_eq_true_eq]
theorem qi{k:Nat}(hk:k<(im pv n).length):(im pv n).getD k 0∈im pv n:=by rw[List.getD,aB hk];exact bL hk
theorem pe{k:Nat}{r:List Rat}(h:(db A pv n n)[k]? =some r):k<(im pv n).length∧r=ff A pv n ((im pv n).getD k 0) pv.length:=by
 unfold db at h;rw[aO]at h;obtain⟨c,hc,rfl⟩:=Option.map_eq_some_iff.1 h;refine⟨(aE.1 hc).1,?_⟩;rw[List.getD,hc];rfl
theorem FZ{i k:Nat}(hi:i<(im pv n).length)(hk:k<(im pv n).length)(e:(im pv n).getD i 0=(im pv n).getD k 0):i=k:=by
 rw[List.getD,List.getD,aB hi,aB hk]at e;rcases bj i k with h|h|h
 ·exact absurd e (List.pairwise_iff_getElem.1 wM i k hi hk h)
 ·exact h
 ·exact absurd e.symm (List.pairwise_iff_getElem.1 wM k i hk hi h)
theorem wN{k i:Nat}{r s:List Rat}(hr:(db A pv n n)[k]? =some r)(hs:(db A pv n n)[i]? =some s):s.getD ((im pv n).getD k 0) 0=if i=k then 1 else 0:=by
 obtain⟨hk,-⟩:=pe hr;obtain⟨hi,rfl⟩:=pe hs;have hm:=qh.1 (qi hk);rw[BV hm.2 (qh.1 (qi hi)).1];by_cases h:i=k
 ·rw[h,if_pos rfl,if_pos rfl]
 ·rw[aK (fun e=>h (FZ hi hk e.symm)),aK h]
end
theorem wQ(f:Nat->Nat->Rat)(m:Nat):∀n,dU (fun i=>dU (f i) m) n=dU (fun j=>dU (fun i=>f i j) n) m
 |0=>(fJ m).symm
 |n+1=>by
  show dU (fun i=>dU (f i) m) n+dU (f n) m=dU (fun j=>dU (fun i=>f i j) n+f n j) m;rw[gb,wQ f m n]
section
variable{m m':Mx}{n w p:Nat}{κ:Rat}{q:Nat->Rat}
end
def du(E:Mx)(r n:Nat)(v:Nat->Rat):Prop:=∃c:Nat->Rat,∀t,t<n->v t=dU (fun i=>c i*E i t) r
structure Rf(E:Mx)(p:Nat->Nat)(r n:Nat):Prop where
 lt:∀i,i<r->p i<n
 mono:∀i j,i<j->j<r->p i<p j
 unit:∀i j,i<r->j<r->E j (p i)=if j=i then 1 else 0
 lead:∀i t,i<r->t<p i->E i t=0
section
variable{E F:Mx}{p q:Nat->Nat}{r s n:Nat}{v:Nat->Rat}
theorem Rf.coeff(h:Rf E p r n)(hv:du E r n v):∀t,t<n->v t=dU (fun i=>v (p i)*E i t) r:=by
 obtain⟨c,hc⟩:=hv;intro t ht;rw[hc t ht];refine cM fun i hi=>?_;rw[hc (p i) (h.lt i hi),fW hi fun k hk hne=>by rw[h.unit i k hi hk,aK hne,bU],h.unit i i hi hi,if_pos rfl,Rat.mul_one]
theorem Rf.HF(h:Rf E p r n)(hv:du E r n v){t:Nat}(ht:t<n)(h0:v t≠0)(hz:∀k,k<t->v k=0):∃i,i<r∧p i=t:=by
 refine Decidable.byContradiction fun hno=>h0 ?_;rw[h.coeff hv t ht,cM (g:=fun _=>0) fun i hi=>?_,fJ];rcases bj (p i) t with h1|h1|h1
 ·rw[hz _ h1,bS]
 ·exact absurd ⟨i,hi,h1⟩ hno
 ·rw[h.lead i t hi h1,bU]
theorem Rf.Hl(h:Rf E p r n)(k:Rf F q s n)(hE:∀i,i<r->du F s n (E i)){i:Nat}(hi:i<r):∃j,j<s∧q j=p i:=
 k.HF (hE i hi) (h.lt i hi) (by rw[h.unit i i hi hi,if_pos rfl];decide) fun t ht=>h.lead i t hi ht
theorem Rf.F1(h:Rf E p r n)(k:Rf F q s n)(hE:∀i,i<r->du F s n (E i))(hF:∀j,j<s->du E r n (F j)):∀i,i<r->i<s∧p i=q i:=by
 intro i
 induction i using Nat.strongRecOn with
 |ind i ih=>
  intro hi;obtain⟨j,hj,e1⟩:=h.Hl k hE hi;have hji:i<=j:=by
   refine Nat.le_of_not_lt fun hlt=>?_;have h1:=(ih j hlt (by omega)).2;have h2:=h.mono j i hlt hi;omega
  have his:i<s:=by omega
  refine⟨his,?_⟩;obtain⟨l,hl,e2⟩:=k.Hl h hF his;have hli:i<=l:=by
   refine Nat.le_of_not_lt fun hlt=>?_;have h1:=(ih l hlt hl).2;have h2:=k.mono l i hlt his;omega
  have h3:q i<=q j:=by
   rcases aV i j with h4|h4
   ·exact Nat.le_of_lt (k.mono i j h4 hj)
   ·rw[show i=j by omega];exact aG _
  have h5:p i<=p l:=by
   rcases aV i l with h4|h4
   ·exact Nat.le_of_lt (h.mono i l h4 hl)
   ·rw[show i=l by omega];exact aG _
  omega
theorem Rf.one(h:Rf E p r n)(k:Rf F q s n)(hE:∀i,i<r->du F s n (E i))(hF:∀j,j<s->du E r n (F j)):r=s∧(∀i,i<r->p i=q i)∧∀i t,i<r->t<n->E i t=F i t:=by
 have h1:=h.F1 k hE hF;have h2:=k.F1 h hF hE;have hrs:r=s:=by
  rcases bj r s with h3|h3|h3
  ·have:=(h2 r h3).1;omega
  ·exact h3
  ·have:=(h1 s h3).1;omega
 refine⟨hrs,fun i hi=>(h1 i hi).2,fun i t hi ht=>?_⟩;rw[k.coeff (hE i hi) t ht,fW (i:=i) (by omega) fun j hj hne=>by rw[<-(h1 j (by omega)).2,h.unit j i (by omega) hi,aK (Ne.symm hne),bS],<-(h1 i hi).2,h.unit i i hi hi,if_pos rfl,bq]
end
theorem du.row{E:Mx}{r n i:Nat}(hi:i<r):du E r n (E i):=⟨fun k=>if k=i then 1 else 0,fun t _=>by
 rw[fW hi fun k _ hne=>by simp only[aK hne,bS]]
 simp only[if_pos,bq]⟩
theorem du.add{E:Mx}{r n:Nat}{u v:Nat->Rat}(h:du E r n u)(k:du E r n v)(x:Rat):du E r n fun t=>u t+x*v t:=by
 obtain⟨c,hc⟩:=h;obtain⟨d,hd⟩:=k;refine⟨fun i=>c i+x*d i,fun t ht=>?_⟩;show u t+x*v t=dU (fun i=>(c i+x*d i)*E i t) r;rw[hc t ht,hd t ht,<-gK,<-gb];exact cM fun i _=>by grind
theorem du.mul{E:Mx}{r n:Nat}{u:Nat->Rat}(h:du E r n u)(x:Rat):du E r n fun t=>u t*x:=by
 obtain⟨c,hc⟩:=h;refine⟨fun i=>c i*x,fun t ht=>?_⟩;show u t*x=dU (fun i=>(c i*x)*E i t) r;rw[hc t ht,<-s0];exact cM fun i _=>by grind
theorem du.congr{E:Mx}{r n:Nat}{u v:Nat->Rat}(h:du E r n u)(e:∀t,t<n->v t=u t):du E r n v:=by
 obtain⟨c,hc⟩:=h;exact⟨c,fun t ht=>by rw[e t ht,hc t ht]⟩
theorem du.trans{E F:Mx}{r s n:Nat}{v:Nat->Rat}(h:du E r n v)(k:∀i,i<r->du F s n (E i)):du F s n v:=by
 obtain⟨c,hc⟩:=h;have key:∀m,m<=r->du F s n fun t=>dU (fun i=>c i*E i t) m:=by
  intro m
  induction m with
  |zero=>intro _;exact⟨fun _=>0,fun t _=>by rw[cM (g:=fun _=>0) fun i _=>bS _,fJ];rfl⟩
  |succ m ih=>
   intro hm;exact(ih (by omega)).add (k m (by omega)) (c m)
 exact(key r (aG _)).congr fun t ht=>hc t ht
def F2(s:List (List Rat)×List Nat):Prop:=(∀i j,i<j->j<s.2.length->s.2.getD i 0<s.2.getD j 0)∧∀i t,i<s.2.length->t<s.2.getD i 0->di s.1 i t=0
theorem F2.step{n c:Nat}{s:List (List Rat)×List Nat}(h:F2 s)(hr:JD n c s)(hc:c<n):F2 (dP s c):=by
 obtain⟨hl,hle,hz,hpc,hu⟩:=hr;rcases kN c hle with⟨e,-⟩|⟨k,h1,h2,h3,e⟩
 ·rw[e];exact h
 ·obtain⟨r1,r2⟩:=lu hl h1 h2 h3 e;have e2:(dP s c).2=s.2++[c]:=by rw[e]
  have hold:∀i,i<s.2.length->(dP s c).2.getD i 0=s.2.getD i 0:=fun i hi=>by rw[e2,List.getD,aL hi,<-List.getD]
  have hnew:(dP s c).2.getD s.2.length 0=c:=by rw[e2,List.getD,aQ (aG _),bI];rfl
  have hlt:∀i,i<s.2.length->s.2.getD i 0<c:=fun i hi=>hpc _ (by rw[List.getD,aB hi];exact bL _);have hlen:(dP s c).2.length=s.2.length+1:=by rw[e2];simp
  refine⟨fun i j hij hj=>?_,fun i t hi ht=>?_⟩
  ·rw[hlen]at hj;rcases aV j s.2.length with h4|h4
   ·rw[hold i (by omega),hold j h4];exact h.1 i j hij h4
   ·rw[show j=s.2.length by omega,hnew,hold i (by omega)];exact hlt i (by omega)
  ·rw[hlen]at hi;rcases aV i s.2.length with h4|h4
   ·rw[hold i h4]at ht;have h5:=hlt i h4;rw[r2 i (by omega) (by omega) t (by omega),hz k t h1 h2 (by omega),aK (by omega),h.2 i t h4 ht,bS,bU,Rat.zero_add]
   ·rw[show i=s.2.length by omega]at ht ⊢;rw[hnew]at ht;rw[r1,hz k t h1 h2 ht,bS]
theorem qk{M:List (List Rat)}{n:Nat}(hl:fk n M):∀cols,cols<=n->F2 (cJ M cols)
 |0,_=>⟨fun _ _ _ h=>(by cases h),fun _ _ h=>(by cases h)⟩
 |c+1,h=>by
  have ih:=qk hl c (by omega);have hr:=eC hl c (by omega);unfold cJ at ih hr ⊢;rw[bH,List.foldl_append];exact ih.step hr (by omega)
theorem wR{M:List (List Rat)}{n:Nat}(hl:fk n M):Rf (di (cJ M n).1) (fun i=>(cJ M n).2.getD i 0) (cJ M n).2.length n:=by
 obtain⟨h1,h2,h3,h4,h5⟩:=eC hl n (aG _);obtain⟨k1,k2⟩:=qk hl n (aG _);refine⟨fun i hi=>h4 _ (by rw[List.getD,aB hi];exact bL _),k1,fun i j hi hj=>h5 i j hi (by omega),k2⟩
theorem HG{s:List (List Rat)×List Nat}{c n:Nat}(hl:fk n s.1)(hle:s.2.length<=s.1.length):(∀j,j<s.1.length->du (di s.1) s.1.length n (di (dP s c).1 j))∧∀j,j<s.1.length->du (di (dP s c).1) s.1.length n (di s.1 j):=by
 rcases kN c hle with⟨e,-⟩|⟨k,h1,h2,h3,e⟩
 ·rw[e];exact⟨fun j hj=>du.row hj,fun j hj=>du.row hj⟩
 ·obtain⟨r1,r2⟩:=lu hl h1 h2 h3 e;have hp:s.2.length<s.1.length:=by omega
  have a1:du (di s.1) s.1.length n (di (dP s c).1 s.2.length):=((du.row h2).mul (1 / di s.1 k c)).congr fun t _=>r1 t;have b1:du (di (dP s c).1) s.1.length n (di s.1 k):=((du.row hp).mul (di s.1 k c)).congr fun t _=>by rw[r1,Rat.mul_assoc,Rat.mul_comm (1 / _),wK h3,Rat.mul_one]
  refine⟨fun j hj=>?_,fun j hj=>?_⟩
  ·by_cases h4:j=s.2.length
   ·rw[h4];exact a1
   ·exact((du.row (show (if j=k then s.2.length else j)<s.1.length by split<;>omega)).add (du.row h2) (-(di s.1 (if j=k then s.2.length else j) c)*(1 / di s.1 k c))).congr fun t ht=>by rw[r2 j hj h4 t ht];grind
  ·by_cases h4:j=k
   ·rw[h4];exact b1
   ·obtain⟨i,hi,hne,hij⟩:∃i,i<s.1.length∧i≠s.2.length∧(if i=k then s.2.length else i)=j:=by
     by_cases h5:j=s.2.length
     ·exact⟨k,h2,fun e6=>h4 (h5.trans e6.symm),by rw[if_pos rfl,h5]⟩
     ·exact⟨j,hj,h5,aK h4⟩
    refine((du.row hi).add (du.row hp) (di s.1 j c)).congr fun t ht=>?_;rw[r2 i hi hne t ht,hij,r1];grind
theorem jo{M:List (List Rat)}{n:Nat}(hl:fk n M):∀cols,cols<=n->(∀j,j<M.length->du (di M) M.length n (di (cJ M cols).1 j))∧∀j,j<M.length->du (di (cJ M cols).1) M.length n (di M j)
 |0,_=>⟨fun j hj=>du.row hj,fun j hj=>du.row hj⟩
 |c+1,h=>by
  obtain⟨i1,i2⟩:=jo hl c (by omega);have hr:=eC hl c (by omega);have h1:=eK M c;have h2:=HG (c:=c) hr.1 hr.2.1;rw[h1]at h2;have e:(cJ M (c+1))=dP (cJ M c) c:=by unfold cJ;rw[bH,List.foldl_append];rfl
  rw[e];exact⟨fun j hj=>(h2.1 j hj).trans i1,fun j hj=>(i2 j hj).trans h2.2⟩
theorem du.cut{E:Mx}{r m n:Nat}{v:Nat->Rat}(h:du E m n v)(hz:∀i t,r<=i->i<m->t<n->E i t=0):du E r n v:=by
 refine h.trans fun i hi=>?_;rcases aV i r with h1|h1
 ·exact du.row h1
 ·exact⟨fun _=>0,fun t ht=>by rw[hz i t h1 hi ht,cM (g:=fun _=>0) fun k _=>bS _,fJ]⟩
theorem BY{M:List (List Rat)}{n r:Nat}{F:Mx}{q:Nat->Nat}(hl:fk n M)(k:Rf F q r n)(h1:∀i,i<r->du (di M) M.length n (F i))(h2:∀j,j<M.length->du F r n (di M j)):
  (cJ M n).2.length=r∧(∀i,i<r->(cJ M n).2.getD i 0=q i)∧∀i t,i<r->t<n->di (cJ M n).1 i t=F i t:=by
 obtain⟨a1,a2⟩:=jo hl n (aG _);obtain⟨-,hle,hz,-,-⟩:=eC hl n (aG _);rw[eK]at hle hz;have h:=wR hl;obtain⟨e1,e2,e3⟩:=h.one k (fun i hi=>(a1 i (by omega)).trans h2) fun j hj=>((h1 j hj).trans a2).cut fun i t hi hm ht=>hz i t hi hm ht;exact⟨e1,fun i hi=>e2 i (by omega),fun i t hi ht=>e3 i t (by omega) ht⟩
structure Ru(E:Mx)(p:Nat->Nat)(r n:Nat):Prop where
 lt:∀i,i<r->p i<n
 inj:∀i j,i<r->j<r->p i=p j->i=j
 unit:∀i j,i<r->j<r->E j (p i)=if j=i then 1 else 0
 lead:∀i t,i<r->t<p i->E i t=0
def kH(E:Mx)(p:Nat->Nat)(r:Nat)(v:Nat->Rat)(k t:Nat):Rat:=v t-dU (fun i=>if p i<k then v (p i)*E i t else 0) r
theorem F3(E:Mx)(p:Nat->Nat)(r:Nat)(v:Nat->Rat)(t:Nat):kH E p r v 0 t=v t:=by
 unfold kH;rw[cM (g:=fun _=>0) fun i _=>aK (by omega),fJ];grind
section
variable{E:Mx}{p:Nat->Nat}{r n:Nat}{v:Nat->Rat}
theorem F4{k t:Nat}(h:∀i,i<r->p i≠k):kH E p r v (k+1) t=kH E p r v k t:=by
 unfold kH;rw[cM fun i hi=>?_];have:=h i hi;by_cases h1:p i<k
 ·rw[if_pos h1,if_pos (by omega)]
 ·rw[aK h1,aK (by omega)]
theorem IQ(h:Ru E p r n){i:Nat}(hi:i<r):kH E p r v (p i) (p i)=v (p i):=by
 unfold kH;rw[cM (g:=fun _=>0) fun j hj=>?_,fJ]
 ·grind
 ·by_cases h1:p j<p i
  ·rw[if_pos h1,h.unit i j hi hj,aK (fun e=>by rw[e]at h1;omega),bU]
  ·rw[aK h1]
theorem F5(h:Ru E p r n){i t:Nat}(hi:i<r):kH E p r v (p i+1) t=kH E p r v (p i) t+ -(kH E p r v (p i) (p i))*E i t:=by
 rw[IQ h hi];unfold kH;have e:dU (fun j=>if p j<p i+1 then v (p j)*E j t else 0) r=dU (fun j=>(if p j<p i then v (p j)*E j t else 0)+(if j=i then v (p i)*E i t else 0)) r:=by
  refine cM fun j hj=>?_;by_cases h1:j=i
  ·subst h1;rw[if_pos (by omega),aK (by omega),if_pos rfl,Rat.zero_add]
  ·have h2:p j≠p i:=fun e=>h1 (h.inj j i hj hi e);rw[aK h1,Rat.add_zero];by_cases h3:p j<p i
   ·rw[if_pos h3,if_pos (by omega)]
   ·rw[aK h3,aK (by omega)]
 rw[e,gb,fW hi fun k _ hne=>aK hne,if_pos rfl];grind
theorem D4(h:Ru E p r n){i:Nat}(hi:i<r):kH E p r v n (p i)=0:=by
 unfold kH;rw[fW hi fun k hk hne=>?_,if_pos (h.lt i hi),h.unit i i hi hi,if_pos rfl]
 ·grind
 ·rw[if_pos (h.lt k hk),h.unit i k hi hk,aK hne,bU]
end
def jZ(E:Mx)(r:Nat)(u:Nat->Rat)(k:Nat):Mx:=fun i t=>if i=r then u t / u k else E i t+ -(E i k)*(u t / u k)
theorem Ru.push{E:Mx}{p:Nat->Nat}{r n k:Nat}{u:Nat->Rat}(h:Ru E p r n)(hk:k<n)(hu:∀i,i<r->u (p i)=0)(h0:u k≠0)(hz:∀t,t<k->u t=0):
  Ru (jZ E r u k) (fun i=>if i=r then k else p i) (r+1) n:=by
 have hne:∀i,i<r->p i≠k:=fun i hi e=>h0 (e▸hu i hi);have hone:u k / u k=1:=by rw[bZ,Rat.mul_inv_cancel _ h0]
 have hz0:∀i,i<r->u (p i) / u k=0:=fun i hi=>by rw[hu i hi,bZ,bS]
 refine⟨fun i hi=>?_,fun i j hi hj e=>?_,fun i j hi hj=>?_,fun i t hi ht=>?_⟩
 ·split
  ·exact hk
  ·exact h.lt i (by omega)
 ·by_cases h1:i=r
  ·by_cases h2:j=r
   ·omega
   ·rw[if_pos h1,aK h2]at e;exact absurd e.symm (hne j (by omega))
  ·by_cases h2:j=r
   ·rw[aK h1,if_pos h2]at e;exact absurd e (hne i (by omega))
   ·rw[aK h1,aK h2]at e;exact h.inj i j (by omega) (by omega) e
 ·unfold jZ;by_cases h1:i=r
  ·rw[if_pos h1];by_cases h2:j=r
   ·rw[if_pos h2,if_pos (by omega),hone]
   ·rw[aK h2,aK (by omega),hone];grind
  ·rw[aK h1];by_cases h2:j=r
   ·rw[if_pos h2,aK (by omega),hz0 i (by omega)]
   ·rw[aK h2,hz0 i (by omega),bU,Rat.add_zero];exact h.unit i j (by omega) (by omega)
 ·unfold jZ;by_cases h1:i=r
  ·rw[if_pos h1]at ht;rw[if_pos h1,hz t ht,bZ,bS]
  ·rw[aK h1]at ht;rw[aK h1,h.lead i t (by omega) ht,Rat.zero_add];rcases aV t k with h2|h2
   ·rw[hz t h2,bZ,bS,bU]
   ·rw[h.lead i k (by omega) (by omega)];grind
def jB(E:Mx)(r:Nat)(v:Nat->Rat):Mx:=fun i t=>if i=r then v t else E i t
section
variable{E:Mx}{p:Nat->Nat}{r n k:Nat}{u v:Nat->Rat}
theorem EU(i:Nat)(hi:i<r):du (jB E r v) (r+1) n (E i):=(du.row (show i<r+1 by omega)).congr fun t _=>by unfold jB;rw[aK (by omega)]
theorem IS(hu:∀t,t<n->u t=kH E p r v n t)(hl:∀i,i<r->p i<n):du (jB E r v) (r+1) n u:=by
 refine⟨fun i=>if i=r then 1 else -(v (p i)),fun t ht=>?_⟩;rw[hu t ht];show kH E p r v n t=dU (fun i=>(if i=r then 1 else -(v (p i)))*jB E r v i t) r+(if r=r then 1 else -(v (p r)))*jB E r v r t;rw[if_pos rfl,cM (g:=fun i=> -(v (p i)*E i t)) fun i hi=>by unfold jB;rw[aK (by omega),aK (by omega),Rat.neg_mul],qj];unfold kH jB;rw[if_pos rfl,cM (g:=fun i=>v (p i)*E i t) fun i hi=>if_pos (hl i hi)];grind
theorem F6(hu:du (jB E r v) (r+1) n u):∀i,i<r+1->du (jB E r v) (r+1) n (jZ E r u k i):=fun i hi=>by
 by_cases h1:i=r
 ·exact(hu.mul (1 / u k)).congr fun t _=>by unfold jZ;rw[if_pos h1,bZ,bZ,bq]
 ·exact((EU i (by omega)).add hu (-(E i k)*(1 / u k))).congr fun t _=>by unfold jZ;rw[aK h1,bZ,bZ];grind
theorem D5(h0:u k≠0):du (jZ E r u k) (r+1) n u:=((du.row (show r<r+1 by omega)).mul (u k)).congr fun t _=>by
 unfold jZ;rw[if_pos rfl,Rat.div_mul_cancel h0]
theorem oT(h0:u k≠0)(i:Nat)(hi:i<r):du (jZ E r u k) (r+1) n (E i):=((du.row (show i<r+1 by omega)).add (D5 h0) (E i k / u k)).congr fun t _=>by
 unfold jZ;rw[aK (by omega),bZ,bZ];grind
theorem zD(h0:u k≠0)(hu:∀t,t<n->u t=kH E p r v n t)(hl:∀i,i<r->p i<n):du (jZ E r u k) (r+1) n v:=by
 have h1:du (jB E r u) (r+1) n v:=by
  refine⟨fun i=>if i=r then 1 else v (p i),fun t ht=>?_⟩;show v t=dU (fun i=>(if i=r then 1 else v (p i))*jB E r u i t) r+(if r=r then 1 else v (p r))*jB E r u r t;rw[if_pos rfl,cM (g:=fun i=>v (p i)*E i t) fun i hi=>by unfold jB;rw[aK (by omega),aK (by omega)]];unfold jB;rw[if_pos rfl,hu t ht];unfold kH;rw[cM (g:=fun i=>v (p i)*E i t) fun i hi=>if_pos (hl i hi)];grind
 refine h1.trans fun i hi=>?_;by_cases h2:i=r
 ·exact(D5 h0).congr fun t _=>by unfold jB;rw[if_pos h2]
 ·exact(oT h0 i (by omega)).congr fun t _=>by unfold jB;rw[aK h2]
end
def kO(row sR:List Rat)(by_:Rat):List Rat:=row.mapIdx (p8 (-by_) sR)
theorem ql(row sR:List Rat)(b:Rat):(kO row sR b).length=row.length:=List.length_mapIdx
theorem wS(row sR:List Rat):kO row sR 0=row:=by
 refine bF fun j=>?_;rw[kO,List.getElem?_mapIdx]
 cases row[j]? with
 |none=>rfl
 |some q=>exact congrArg some (by rw[p8,Rat.neg_zero,bS,Rat.add_zero])
def ma(row:List Rat):Nat->Nat->Nat
 |0,k=>k
 |f+1,k=>if row.getD k 0=0 then ma row f (k+1)else k
def qm(row:List Rat)(cols:Nat):Nat:=ma row cols 0
theorem F8{row:List Rat}{k:Nat}:∀(f j:Nat),(∀i,j<=i->i<j+k->row.getD i 0=0)->k<=f->(k<f->row.getD (j+k) 0≠0)->ma row f j=j+k:=by
 induction k with
 |zero=>
  intro f j _ _ h
  cases f with
  |zero=>rfl
  |succ f=>rw[ma,aK (by have:=h (by omega);rwa [bo]at this)];rfl
 |succ k ih=>
  intro f j h0 hf h
  cases f with
  |zero=>omega
  |succ f=>
   rw[ma,if_pos (h0 j (aG _) (by omega)),ih f (j+1) (fun i h1 h2=>h0 i (by omega) (by omega)) (by omega) (fun h1=>by rw[Nat.add_assoc,Nat.add_comm 1 k];exact h (by omega))];omega
theorem D6{row:List Rat}{cols k:Nat}(h0:∀i,i<k->row.getD i 0=0)(hk:k<=cols)(h:k<cols->row.getD k 0≠0):qm row cols=k:=by
 rw[qm,F8 (k:=k) cols 0 (fun i _ h2=>h0 i (by omega)) hk (fun h1=>by rw[aS];exact h h1),aS]
abbrev uS:=List (List Rat)×List (Option Nat)×List Nat
def ek(E:List (List Rat))(at_:List (Option Nat))(row:List Rat):Nat->List Rat
 |0=>row
 |k+1=>match at_.getD k none with
  |some j=>kO (ek E at_ row k) (E.getD j []) ((ek E at_ row k).getD k 0)
  |none=>ek E at_ row k
theorem gF(E:List (List Rat))(at_:List (Option Nat))(row:List Rat):∀k,(ek E at_ row k).length=row.length
 |0=>rfl
 |k+1=>by
  rw[ek];split
  ·rw[ql,gF E at_ row k]
  ·exact gF E at_ row k
def fR(E:List (List Rat))(u:List Rat)(p i:Nat):List (List Rat):=E.mapIdx fun j r=>if j<i then kO r u (r.getD p 0)else r
def jK(cols:Nat)(s:uS)(i:Nat)(row:List Rat):uS:=
 let r:=ek s.1 s.2.1 row cols
 let p:=qm r cols
 if p=cols then s else
  let u:=r.map (· / r.getD p 0)
  (fR s.1 u p s.1.length++[u],s.2.1.set p (some s.1.length),s.2.2++[i])
def fX(M:List (List Rat))(cols:Nat):Nat->uS
 |0=>([],List.replicate cols none,[])
 |i+1=>jK cols (fX M cols i) i (M.getD i [])
def cX(s:uS):Nat->List (List Rat)×List Nat×List Nat
 |0=>([],[],[])
 |k+1=>match s.2.1.getD k none with
  |some r=>((cX s k).1++[s.1.getD r []],(cX s k).2.1++[k],(cX s k).2.2++[s.2.2.getD r 0])
  |none=>cX s k
def cZ(M:List (List Rat))(cols:Nat):List (List Rat)×List Nat×List Nat:=cX (fX M cols M.length) cols
structure qn(n cols i:Nat)(s:uS):Prop where
 len:fk n s.1
 at_:s.2.1.length=cols
 sR:s.2.2.length=s.1.length
 lt:∀(k r:Nat),s.2.1[k]? =some (some r)->r<s.1.length
 le:s.1.length<=i
 fr:∀j∈s.2.2,j<i
theorem fE(E:List (List Rat))(u:List Rat)(p i:Nat):(fR E u p i).length=E.length:=List.length_mapIdx
theorem C7(E:List (List Rat))(u:List Rat)(p:Nat):fR E u p 0=E:=by
 refine bF fun j=>?_;rw[fR,List.getElem?_mapIdx]
 cases E[j]? <;>rfl
theorem B1{E:List (List Rat)}{u:List Rat}{p i:Nat}{r:List Rat}(h:E[i]? =some r):(fR E u p i)[i]? =some r:=by
 rw[fR,List.getElem?_mapIdx,h];exact congrArg some (aK (Nat.lt_irrefl i))
theorem wT{E:List (List Rat)}{u:List Rat}{p i:Nat}{r:List Rat}(h:E[i]? =some r):fR E u p (i+1)=(fR E u p i).set i (kO r u (r.getD p 0)):=by
 refine bF fun j=>?_;have hi:=(aE.1 h).1;by_cases hj:i=j
 ·subst hj;rw[aT (by rw[fE];exact hi),fR,List.getElem?_mapIdx,h];exact congrArg some (if_pos (bY i))
 ·rw[a9 hj,fR,fR,List.getElem?_mapIdx,List.getElem?_mapIdx]
  cases E[j]? with
  |none=>rfl
  |some r=>
   have e:(j<i+1)↔(j<i):=by omega
   simp only[Option.map_some,e]
theorem EX{E:List (List Rat)}{u:List Rat}{p i n:Nat}(h:fk n E):fk n (fR E u p i):=fun r hr=>by
 obtain⟨j,hj⟩:=ah hr;rw[fR,List.getElem?_mapIdx]at hj
 cases hE:E[j]? with
 |none=>rw[hE]at hj;cases hj
 |some x=>
  rw[hE]at hj;have hx:=h x (aF hE);simp only[Option.map_some,Option.some.injEq]at hj;subst hj;split
  ·rw[ql];exact hx
  ·exact hx
theorem qn.start(n cols:Nat):qn n cols 0 ([],List.replicate cols none,[]):=
 ⟨(fun r hr=>by cases hr),bQ ..,rfl,(fun (k r:Nat) h=>by rw[List.getElem?_replicate]at h;split at h<;>cases h),aG _,fun j hj=>by cases hj⟩
theorem qn.step{n cols i:Nat}{s:uS}(h:qn n cols i s){row:List Rat}(hr:row.length=n):qn n cols (i+1) (jK cols s i row):=by
 unfold jK;dsimp only
 split
 ·exact⟨h.len,h.at_,h.sR,h.lt,Nat.le_succ_of_le h.le,fun j hj=>Nat.lt_succ_of_lt (h.fr j hj)⟩
 ·refine⟨fun r hm=>?_,by simp[h.at_],by simp[h.sR,fE],fun k r hk=>?_,?_,fun j hj=>?_⟩
  ·rcases bR.1 hm with hm|hm
   ·exact EX h.len r hm
   ·rw[bA]at hm;subst hm;rw[aM,gF,hr]
  ·dsimp only at hk ⊢;rw[List.length_append,fE,List.length_singleton];rw[List.getElem?_set]at hk;split at hk
   ·split at hk
    ·injection hk with hk;injection hk with hk;omega
    ·cases hk
   ·have:=h.lt k r hk;omega
  ·dsimp only
   rw[List.length_append,fE,List.length_singleton];have:=h.le;omega
  ·rcases bR.1 hj with hj|hj
   ·exact Nat.lt_succ_of_lt (h.fr j hj)
   ·rw[bA]at hj;omega
theorem wU{M:List (List Rat)}{n:Nat}(cols:Nat)(hM:fk n M):∀i,i<=M.length->qn n cols i (fX M cols i)
 |0,_=>qn.start n cols
 |i+1,hi=>by
  have hm:=aB (l:=M) (show i<M.length by omega);refine(wU cols hM i (by omega)).step ?_;rw[List.getD,hm];exact hM _ (aF hm)
structure fK where
 nodes:List (Int×Int×Int)
 bars:List (Int×Int×Rat)
 cO:List (Int×Int×Rat)
def fK.cols(f:fK):Nat:=f.bars.length+f.cO.length
def fK.node(f:fK)(n:Int):Int×Int×Int:=f.nodes.getD n.toNat (0,0,0)
def pg(f:fK)(b:Int×Int×Rat):List Int:=[(f.node b.2.1).1-(f.node b.1).1,(f.node b.2.1).2.1-(f.node b.1).2.1,(f.node b.2.1).2.2-(f.node b.1).2.2]
def qo(M:List (List Int))(r c:Nat)(d:Int):List (List Int):=M.set r ((M.getD r []).set c ((M.getD r []).getD c 0+d))
def putAt(M:List (List Int))(r c:Nat)(d:Int):List (List Int):=M.set r ((M.getD r []).set c d)
def eD(f:fK)(M:List (List Int))(i:Nat):Nat->List (List Int)
 |0=>M
 |k+1=>
  let b:=f.bars.getD i (0,0,0)
  let d:=(pg f b).getD k 0
  qo (qo (eD f M i k) (3*b.1+k).toNat i d) (3*b.2.1+k).toNat i (-d)
def dS(f:fK):Nat->List (List Int)
 |0=>List.replicate (3*f.nodes.length) (List.replicate f.cols 0)
 |i+1=>eD f (dS f i) i 3
def eR(f:fK):Nat->List (List Int)
 |0=>dS f f.bars.length
 |i+1=>
  let s:=f.cO.getD i (0,0,0)
  putAt (eR f i) (3*s.1+s.2.1).toNat (f.bars.length+i) 1
def fN(f:fK):List (List Int):=eR f f.cO.length
def cU(l:List Int):List Rat:=l.map fun(n:Int)=>(n:Rat)
def dD(f:fK):List (List Rat):=(fN f).map cU
def dW(M:List (List Rat))(cols:Nat):List (List Rat):=(List.range cols).map fun k=>M.map fun r=>r.getD k 0
abbrev Ld:=Int×Int×Int×Int
def F9(s:List Int)(r:Nat)(d:Int):List Int:=s.set r (s.getD r 0+d)
def gG(l:List Rat)(b:Rat):List Rat:=l.map (· *b)
def kP(a b:List Rat):List Rat:=a.mapIdx fun i x=>x*b.getD i 0
def jq(f:fK):List Rat:=f.bars.map (·.2.2)++f.cO.map (·.2.2)
def iq(M:List (List Rat))(b:List Rat):List (List Rat):=M.mapIdx fun i r=>r++[b.getD i 0]
def iN(M:List (List Rat))(cols:Nat):List (List Rat):=db (cZ M cols).1 (cZ M cols).2.1 cols cols
def ir(M:List (List Rat))(b:List Rat)(cols:Nat):Option (List Rat):=
 let e:=cZ (iq M b) (cols+1)
 if cols∈e.2.1 then none else some (ph e.1 e.2.1 cols e.2.1.length)
def fA:fK:=⟨[(0,0,0),(0,0,4),(3,0,0)],[(0,2,1),(1,2,1)],[(0,0,0),(0,1,0),(0,2,0),(1,0,0),(1,1,0),(1,2,0),(2,1,0)]⟩
def Ib(B:Nat)(q:Rat):Prop:=∃z:Int,q=(z:Rat)∧z.natAbs<=B
theorem Ib.mono{B C:Nat}{q:Rat}(h:Ib B q)(k:B<=C):Ib C q:=let⟨z,e,b⟩:=h;⟨z,e,bB b k⟩
theorem Ib.add{B C:Nat}{p q:Rat}(h:Ib B p)(k:Ib C q):Ib (B+C) (p+q):=by
 obtain⟨z,rfl,b⟩:=h;obtain⟨y,rfl,c⟩:=k;exact⟨z+y,by rw[Rat.intCast_add],by omega⟩
theorem Ib.mul{B C:Nat}{p q:Rat}(h:Ib B p)(k:Ib C q):Ib (B*C) (p*q):=by
 obtain⟨z,rfl,b⟩:=h;obtain⟨y,rfl,c⟩:=k;exact⟨z*y,by rw[Rat.intCast_mul],by rw[Int.natAbs_mul];exact Nat.mul_le_mul b c⟩
theorem Ib.neg{B:Nat}{p:Rat}(h:Ib B p):Ib B (-p):=by
 obtain⟨z,rfl,b⟩:=h;exact⟨-z,by rw[Rat.intCast_neg],by omega⟩
theorem Ib.sub{B C:Nat}{p q:Rat}(h:Ib B p)(k:Ib C q):Ib (B+C) (p-q):=by rw[Rat.sub_eq_add_neg];exact h.add k.neg
theorem Ib.zero(B:Nat):Ib B 0:=⟨0,rfl,aN _⟩
theorem Ib.one{B:Nat}(h:1<=B):Ib B 1:=⟨1,rfl,h⟩
theorem Ib.int{B:Nat}{z:Int}(h:z.natAbs<=B):Ib B (z:Rat):=⟨z,rfl,h⟩
theorem Ib.sum{B:Nat}{f:Nat->Rat}:∀(n:Nat),(∀k,k<n->Ib B (f k))->Ib (n*B) (dU f n)
 |0,_=>Ib.zero _
 |n+1,h=>by rw[dU,Nat.succ_mul];exact(Ib.sum n fun k hk=>h k (by omega)).add (h n (by omega))
def fB(B:Nat):Nat->Nat
 |0=>1
 |n+1=>(n+1)*(B*fB B n)
theorem Ib.pf{B k:Nat}{q:Rat}(h:Ib B q):Ib B (pf k*q):=by
 unfold Go.Ex.pf;split
 ·rw[show (-1:Rat)*q= -q by grind];exact h.neg
 ·rw[bq];exact h
theorem Ib.J9{B:Nat}:∀(n:Nat) {m:Mx},(∀i j,i<n->j<n->Ib B (m i j))->Ib (fB B n) (ew n m)
 |0,_,_=>Ib.one (aG _)
 |n+1,m,h=>by
  unfold ew fB;exact Ib.sum (n+1) fun k hk=>((h 0 k (by omega) hk).mul (Ib.J9 n fun i j hi hj=>h (i+1) (skip k j) (by omega) (D3 hj))).pf
theorem D7(B n:Nat):B*fB B n<=fB B (n+1):=Nat.le_mul_of_pos_left _ (Nat.succ_pos n)
theorem HJ{B:Nat}(h:1<=B)(n:Nat):fB B n<=fB B (n+1):=bB (Nat.le_mul_of_pos_left _ h) (D7 B n)
theorem qp{B a:Nat}(h:1<=B):∀{b:Nat},a<=b->fB B a<=fB B b
 |0,k=>by rw[Nat.le_zero.1 k];exact aG _
 |b+1,k=>by
  rcases aV b a with h1|h1
  ·rw[show a=b+1 by omega];exact aG _
  ·exact bB (qp h h1) (HJ h b)
theorem Hm{B R:Nat}:∀{n:Nat},n<=R->fB B n<=(R*B)^n
 |0,_=>aG _
 |n+1,h=>by
  rw[fB,Nat.pow_succ,<-bc,bN _ (R*B)];exact Nat.mul_le_mul (Nat.mul_le_mul_right B h) (Hm (by omega))
theorem Hn{B R l n:Nat}(hn:n<=R)(h:R*B<=wt l):ln (fB B n)<=l*n+1:=by
 rw[iA,gu];have h1:=bB (Hm (B:=B) hn) (Nat.pow_le_pow_left h n);rw[zz,<-Nat.pow_mul]at h1;have h2:=zz (l*n);have h3:=zy (l*n);rw[show 32*l*n=32*(l*n) by rw[bc]]at h1;omega
theorem D8{K:Nat}{D q:Rat}(h0:D≠0)(hD:Ib K D)(hq:Ib K (D*q)):rl q<=ln K:=by
 obtain⟨d,rfl,b⟩:=hD;obtain⟨z,e,c⟩:=hq;have hd:d≠0:=fun e=>h0 (by rw[e];rfl);have e2:q=Rat.divInt z d:=by
  rw[Rat.divInt_eq_div,<-e,bZ,Rat.mul_comm (d:Rat) q,Rat.mul_assoc,Rat.mul_inv_cancel _ h0,Rat.mul_one]
 have:=jE (a:=z) hd;have:=eW b;have:=eW c;rw[e2];omega
theorem EZ{n r:Nat}{m:Mx}(h:r<n):ew n (fo m r fun _=>0)=0:=by
 have h1:=lF 1 n r m h (fun _=>0) fun _=>0;rw[show (fun _:Nat=>(0:Rat)+1*0)=fun _=>0 from funext fun _=>by grind]at h1;grind
theorem wX{n r:Nat}{m:Mx}(h:r<n)(c:Nat->Rat)(v:Nat->Nat->Rat):∀s,ew n (fo m r fun j=>dU (fun k=>c k*v k j) s)=dU (fun k=>c k*ew n (fo m r (v k))) s
 |0=>EZ h
 |s+1=>by
  have h1:=lF (c s) n r m h (fun j=>dU (fun k=>c k*v k j) s) (v s);rw[wX h c v s]at h1;exact h1
theorem D9{n a b:Nat}{m:Mx}(hb:b<n)(hab:a<b)(he:∀j,j<n->m a j=m b j):ew n m=0:=by
 obtain⟨b,rfl⟩:∃k,b=k+1:=⟨b-1,by omega⟩
 cases a with
 |zero=>exact lz b n m hb he
 |succ a=>
  have h1:=ET (m:=m) (k:=a) (n:=n) (by omega);rw[lz b n _ hb fun j hj=>?_]at h1
  ·grind
  ·rw[show tY 0 (a+1) 0=a+1 by unfold tY;rw[if_pos rfl],show tY 0 (a+1) (b+1)=b+1 by unfold tY;rw[aK (by omega),aK (by omega)]];exact he j hj
theorem B2{n a b:Nat}{m:Mx}(ha:a<n)(hb:b<n)(hab:a≠b)(he:∀j,j<n->m a j=m b j):ew n m=0:=by
 rcases Nat.lt_or_gt_of_ne hab with h|h
 ·exact D9 hb h he
 ·exact D9 ha h fun j hj=>(he j hj).symm
section
variable{E Z:Mx}{p:Nat->Nat}{r n:Nat}{v:Nat->Rat}
theorem Ru.coeff(h:Ru E p r n)(hv:du E r n v):∀t,t<n->v t=dU (fun i=>v (p i)*E i t) r:=by
 obtain⟨c,hc⟩:=hv;intro t ht;rw[hc t ht];refine cM fun i hi=>?_;rw[hc (p i) (h.lt i hi),fW hi fun k hk hne=>by rw[h.unit i k hi hk,aK hne,bU],h.unit i i hi hi,if_pos rfl,Rat.mul_one]
def qq(Z:Mx)(p:Nat->Nat)(r:Nat):Rat:=ew r fun j i=>Z (r-1-i) (p (r-1-j))
theorem IT(h:Ru E p r n)(hZ:∀i,i<r->du E r n (Z i)){k t:Nat}(hk:k<r)(ht:t<n):
  qq Z p r*E k t=ew r (fo (fun j i=>Z (r-1-i) (p (r-1-j))) (r-1-k) fun i=>Z (r-1-i) t):=by
 have e:∀i j,i<r->j<r->fo (fun j i=>Z (r-1-i) (p (r-1-j))) (r-1-k) (fun i=>Z (r-1-i) t) i j=fo (fun j i=>Z (r-1-i) (p (r-1-j))) (r-1-k) (fun i=>dU (fun j=>E j t*Z (r-1-i) (p j)) r) i j:=fun i j hi hj=>by
  unfold fo;split
  ·show Z (r-1-j) t=dU (fun l=>E l t*Z (r-1-j) (p l)) r;rw[h.coeff (hZ (r-1-j) (by omega)) t ht];exact cM fun l _=>Rat.mul_comm _ _
  ·rfl
 rw[gf e,wX (v:=fun k i=>Z (r-1-i) (p k)) (by omega),fW hk fun j hj hne=>?_]
 ·rw[show fo (fun j i=>Z (r-1-i) (p (r-1-j))) (r-1-k) (fun i=>Z (r-1-i) (p k))=fun j i=>Z (r-1-i) (p (r-1-j))from ?_]
  ·rw[qq,Rat.mul_comm]
  ·funext i j
   unfold fo;split
   ·rename_i hi;rw[hi,show r-1-(r-1-k)=k by omega]
   ·rfl
 ·rw[B2 (a:=r-1-k) (b:=r-1-j) (by omega) (by omega) (by omega) fun i hi=>?_,bU];unfold fo;rw[if_pos rfl,aK (by omega)];show Z (r-1-i) (p j)=Z (r-1-i) (p (r-1-(r-1-j)));rw[show r-1-(r-1-j)=j by omega]
theorem IU(h:Ru E p r n)(hZ:∀i,i<r->du E r n (Z i)){t:Nat}(ht:t<n):
  ew (r+1) (fun j i=>if j=0 then Z (r-i) t else Z (r-i) (p (r-j)))=kH E p r (Z r) n t*qq Z p r:=by
 obtain⟨m,hm⟩:∃m:Mx,m=fun j i=>if j=0 then Z (r-i) t else Z (r-i) (p (r-j)):=⟨_,rfl⟩
 obtain⟨w,hw⟩:∃w:Nat->Rat,w=fun i=>if i=0 then kH E p r (Z r) n t else 0:=⟨_,rfl⟩
 rw[<-hm];have hrow:∀j,j<r->∀i,m (r-j) i=Z (r-i) (p j):=fun j hj i=>by rw[hm];simp only;rw[aK (by omega),show r-(r-j)=j by omega]
 have e:∀i j,i<r+1->j<r+1->m i j=fo m 0 (fun i=>w i+1*dU (fun j=>E j t*m (r-j) i) r) i j:=fun i j hi hj=>by
  unfold fo;split
  ·rename_i h0;subst h0;show m 0 j=w j+1*dU (fun l=>E l t*m (r-l) j) r;rw[cM (g:=fun l=>E l t*Z (r-j) (p l)) fun l hl=>by rw[hrow l hl],bq,hw];simp only
   by_cases hj0:j=0
   ·rw[if_pos hj0,hj0,hm];simp only[if_pos,Nat.sub_zero]
    unfold kH;rw[cM (f:=fun i=>if p i<n then Z r (p i)*E i t else 0) (g:=fun i=>E i t*Z r (p i)) fun l hl=>by rw[if_pos (h.lt l hl),Rat.mul_comm]];grind
   ·rw[aK hj0,Rat.zero_add,hm];simp only[if_pos]
    rw[h.coeff (hZ (r-j) (by omega)) t ht];exact cM fun l _=>Rat.mul_comm _ _
  ·rfl
 rw[gf e,lF 1 (r+1) 0 m (by omega),wX (v:=fun k i=>m (r-k) i) (by omega),cM (g:=fun _=>0) fun j hj=>?_,fJ,bU,Rat.add_zero]
 ·rw[ew,fW (i:=0) (by omega) fun k hk hne=>?_]
  ·unfold fo;rw[if_pos rfl,hw];simp only[if_pos]
   rw[show pf 0=1 by decide,bq,qq,gf fun i j hi hj=>?_];rw[aK (by omega),hm];simp only
   rw[aK (by omega),show skip 0 j=j+1 by unfold skip;rw[aK (by omega)],show r-(j+1)=r-1-j by omega,show r-(i+1)=r-1-i by omega]
  ·unfold fo;rw[if_pos rfl,hw];simp only
   rw[aK hne,bS,bU]
 ·rw[B2 (a:=0) (b:=r-j) (by omega) (by omega) (by omega) fun i _=>?_,bU];unfold fo;rw[if_pos rfl,aK (by omega)]
theorem HK(d:Rat)(k t:Nat):kH E p r (fun t=>d*v t) k t=d*kH E p r v k t:=by
 unfold kH;rw[cM (g:=fun i=>d*if p i<k then v (p i)*E i t else 0) fun i _=>?_,gK]
 ·grind
 ·split
  ·rw[Rat.mul_assoc]
  ·rw[bU]
theorem HL(h:Ru E p r n){x:Nat->Rat}(hx:du E r n fun t=>v t+ -(x t))(h0:∀i,i<r->x (p i)=0){t:Nat}(ht:t<n):x t=kH E p r v n t:=by
 have h1:=h.coeff hx t ht;unfold kH;rw[cM (g:=fun i=>v (p i)*E i t) fun i hi=>if_pos (h.lt i hi)];rw[cM (g:=fun i=>v (p i)*E i t) fun i hi=>by rw[h0 i hi];grind]at h1;grind
end
structure wY(E:Mx)(p:Nat->Nat)(r n B:Nat)(Z:Mx):Prop where
 ru:Ru E p r n
 sp:∀i,i<r->du E r n (Z i)
 ib:∀i t,i<r->t<n->Ib B (Z i t)
 nz:qq Z p r≠0
section
variable{E Z:Mx}{p:Nat->Nat}{r n B k:Nat}{v u:Nat->Rat}
theorem wY.start(E Z:Mx)(p:Nat->Nat)(n B:Nat):wY E p 0 n B Z:=
 ⟨⟨fun _ h=>(by omega),fun _ _ h=>(by omega),fun _ _ h=>(by omega),fun _ _ h=>(by omega)⟩,fun _ h=>(by omega),fun _ _ h=>(by omega),by show(1:Rat)≠0;decide⟩
theorem wY.push(h:wY E p r n B Z){d:Rat}(hd:d≠0)(hz:∀t,t<n->Ib B (d*v t))(hu:∀t,t<n->u t=kH E p r v n t)(hk:k<n)(h0:u k≠0)(hl:∀t,t<k->u t=0):
  wY (jZ E r u k) (fun i=>if i=r then k else p i) (r+1) n B fun i t=>if i=r then d*v t else Z i t:=by
 refine⟨h.ru.push hk (fun i hi=>by rw[hu _ (h.ru.lt i hi),D4 h.ru hi]) h0 hl,fun i hi=>?_,fun i t hi ht=>?_,?_⟩
 ·by_cases h1:i=r
  ·exact((zD h0 hu h.ru.lt).mul d).congr fun t _=>by simp only[if_pos h1];rw[Rat.mul_comm]
  ·exact((h.sp i (by omega)).trans fun j hj=>oT h0 j hj).congr fun t _=>by simp only[aK h1]
 ·by_cases h1:i=r
  ·simp only[if_pos h1];exact hz t ht
  ·simp only[aK h1];exact h.ib i t (by omega) ht
 ·have hb:=IU (Z:=fun i t=>if i=r then d*v t else Z i t) h.ru (fun i hi=>(h.sp i hi).congr fun t _=>by simp only[aK (Nat.ne_of_lt hi)]) hk;have e1:qq (fun i t=>if i=r then d*v t else Z i t) p r=qq Z p r:=gf fun i j hi hj=>by simp only;rw[aK (by omega)]
  simp only[if_pos]at hb;rw[HK,<-hu k hk,e1]at hb;have e2:qq (fun i t=>if i=r then d*v t else Z i t) (fun i=>if i=r then k else p i) (r+1)=d*u k*qq Z p r:=by
   rw[<-hb];refine gf fun i j hi hj=>?_;by_cases h1:i=0
   ·subst h1;simp only[if_true]
    rw[if_pos (show r+1-1-0=r by omega),show r+1-1-j=r-j by omega]
   ·simp only[aK h1]
    rw[aK (show ¬r+1-1-i=r by omega),show r+1-1-j=r-j by omega,show r+1-1-i=r-i by omega]
  rw[e2];have hz1:∀{a b:Rat},a≠0->b≠0->a*b≠0:=fun ha hb e=>by
   rcases Rat.mul_eq_zero.1 e with h|h
   ·exact ha h
   ·exact hb h
  exact hz1 (hz1 hd h0) h.nz
theorem wY.den(h:wY E p r n B Z):Ib (fB B r) (qq Z p r):=Ib.J9 r fun i j hi hj=>h.ib _ _ (by omega) (h.ru.lt _ (by omega))
theorem wY.Jr(h:wY E p r n B Z){i t:Nat}(hi:i<r)(ht:t<n):Ib (fB B r) (qq Z p r*E i t):=by
 rw[IT h.ru h.sp hi ht];refine Ib.J9 r fun j l hj hl=>?_;unfold fo;split
 ·exact h.ib _ _ (by omega) ht
 ·exact h.ib _ _ (by omega) (h.ru.lt _ (by omega))
theorem wY.Fa(h:wY E p r n B Z){i t:Nat}(hi:i<r)(ht:t<n):rl (E i t)<=ln (fB B r):=D8 h.nz h.den (h.Jr hi ht)
theorem wY.kH(h:wY E p r n B Z){d:Rat}(hz:∀t,t<n->Ib B (d*v t))(k:Nat){t:Nat}(ht:t<n):Ib (fB B (r+1)) (d*qq Z p r*kH E p r v k t):=by
 unfold Go.Ex.kH;rw[show ∀a b c s:Rat,a*b*(c-s)=b*(a*c)-(a*b)*s from fun a b c s=>by grind,<-gK,fB,Nat.succ_mul,Nat.add_comm];refine Ib.sub (by rw[bN B];exact h.den.mul (hz t ht)) (Ib.sum r fun i hi=>?_);split
 ·rw[show ∀a b c s:Rat,a*b*(c*s)=(a*c)*(b*s)from fun a b c s=>by grind];exact(hz _ (h.ru.lt i hi)).mul (h.Jr hi ht)
 ·rw[bU];exact Ib.zero _
theorem wY.Fb(h:wY E p r n B Z){d:Rat}(hB:1<=B)(hd:d≠0)(hdB:Ib B d)(hz:∀t,t<n->Ib B (d*v t))(k:Nat){t:Nat}(ht:t<n):Go.Ex.rl (Go.Ex.kH E p r v k t)<=ln (fB B (r+1)):=
 D8 (fun e=>by rcases Rat.mul_eq_zero.1 e with e|e;exact hd e;exact h.nz e) ((hdB.mul h.den).mono (D7 B r)) (h.kH hz k ht)
end
def FB(M:List (List Rat))(n B:Nat):Prop:=∀j,j<M.length->∃d:Rat,d≠0∧Ib B d∧∀t,t<n->Ib B (d*di M j t)
theorem du.C8{E F:Mx}{r n:Nat}{v:Nat->Rat}(h:du E r n v)(e:∀i t,i<r->t<n->F i t=E i t):du F r n v:=by
 obtain⟨c,hc⟩:=h;exact⟨c,fun t ht=>by rw[hc t ht];exact cM fun i hi=>by rw[e i t hi ht]⟩
theorem du.more{E:Mx}{r s n:Nat}{v:Nat->Rat}(h:du E r n v)(k:r<=s):du E s n v:=h.trans fun i hi=>du.row (Nat.lt_of_lt_of_le hi k)
theorem Ru.congr{E F:Mx}{p q:Nat->Nat}{r n:Nat}(h:Ru E p r n)(e:∀i t,i<r->t<n->F i t=E i t)(ep:∀i,i<r->q i=p i):Ru F q r n:=
 ⟨fun i hi=>by rw[ep i hi];exact h.lt i hi,fun i j hi hj k=>h.inj i j hi hj (by rw[<-ep i hi,<-ep j hj];exact k),fun i j hi hj=>by rw[ep i hi,e j _ hj (h.lt i hi)];exact h.unit i j hi hj,
  fun i t hi ht=>by rw[ep i hi]at ht;rw[e i t hi (by have:=h.lt i hi;omega)];exact h.lead i t hi ht⟩
theorem wY.congr{E F Z Y:Mx}{p q:Nat->Nat}{r n B:Nat}(h:wY E p r n B Z)(e:∀i t,i<r->t<n->F i t=E i t)(ep:∀i,i<r->q i=p i)(eZ:∀i t,i<r->t<n->Y i t=Z i t):wY F q r n B Y:=by
 refine⟨h.ru.congr e ep,fun i hi=>((h.sp i hi).congr fun t ht=>eZ i t hi ht).C8 e,fun i t hi ht=>by rw[eZ i t hi ht];exact h.ib i t hi ht,?_⟩;rw[show qq Y q r=qq Z p r from gf fun i j hi hj=>by rw[ep _ (by omega),eZ _ _ (by omega) (h.ru.lt _ (by omega))]];exact h.nz
theorem wZ(row:List Rat):∀f k,k<=ma row f k∧ma row f k<=k+f∧(∀t,k<=t->t<ma row f k->row.getD t 0=0)∧(ma row f k<k+f->row.getD (ma row f k) 0≠0)
 |0,k=>by
  unfold ma;exact⟨aG _,aG _,fun t h1 h2=>by omega,fun h=>by omega⟩
 |f+1,k=>by
  unfold ma;split
  ·rename_i h;obtain⟨h1,h2,h3,h4⟩:=wZ row f (k+1);refine⟨by omega,by omega,fun t k1 k2=>?_,fun h5=>h4 (by omega)⟩;rcases aV k t with h5|h5
   ·exact h3 t h5 k2
   ·rw[show t=k by omega];exact h
  ·rename_i h;exact⟨aG _,by omega,fun t h1 h2=>by omega,fun _=>h⟩
theorem E0(row:List Rat)(n:Nat):qm row n<=n∧(∀t,t<qm row n->row.getD t 0=0)∧(qm row n≠n->row.getD (qm row n) 0≠0):=by
 obtain⟨_,h2,h3,h4⟩:=wZ row n 0;unfold qm;exact⟨by omega,fun t h=>h3 t (aN _) h,fun h=>h4 (by omega)⟩
theorem E1(y:List Rat)(q:Rat)(t:Nat):(y.map (· / q)).getD t 0=y.getD t 0 / q:=by
 simp only[List.getD,aO]
 cases y[t]? with
 |none=>show(0:Rat)=0 / q;rw[bZ,bS]
 |some x=>rfl
structure C9(M:List (List Rat))(n B i:Nat)(s:uS)(p:Nat->Nat)(Z:Mx):Prop where
 ok:qn n n i s
 JE:∀k,k<n->∀r:Nat,s.2.1[k]? =some (some r)↔r<s.1.length∧p r=k
 zE:wY (di s.1) p s.1.length n B Z
 up:∀r,r<s.1.length->du (di M) i n (di s.1 r)
 dn:∀j,j<i->du (di s.1) s.1.length n (di M j)
section
variable{M:List (List Rat)}{n B i:Nat}{s:uS}{p:Nat->Nat}{Z:Mx}
theorem C9.kH(h:C9 M n B i s p Z){x:List Rat}(hx:x.length=n):∀k,k<=n->∀t,t<n->(ek s.1 s.2.1 x k).getD t 0=kH (di s.1) p s.1.length (fun t=>x.getD t 0) k t
 |0,_,t,ht=>by rw[F3];rfl
 |k+1,hk,t,ht=>by
  have ih:=C9.kH h hx k (by omega);obtain⟨o,ho⟩:∃o,s.2.1[k]? =some o:=⟨_,aB (by rw[h.ok.at_];omega)⟩
  have hd:s.2.1.getD k none=o:=by rw[List.getD,ho];rfl
  rw[ek,hd]
  cases o with
  |none=>
   simp only
   rw[ih t ht,F4 fun r hr e=>?_];have:=(h.JE k (by omega) r).2 ⟨hr,e⟩;rw[ho]at this
   cases this
  |some r=>
   simp only
   obtain⟨hr,e⟩:=(h.JE k (by omega) r).1 ho;rw[kO,sY (by rw[gF,hx];exact ht),ih t ht,ih k (by omega),<-e,F5 h.zE.ru hr];rfl
theorem C9.step(h:C9 M n B i s p Z)(hM:fk n M)(hi:i<M.length){d:Rat}(hd:d≠0)(hz:∀t,t<n->Ib B (d*di M i t)):
  ∃p' Z',C9 M n B (i+1) (jK n s i (M.getD i [])) p' Z':=by
 have hx:(M.getD i []).length=n:=hM.getD hi;have hok:=h.ok.step hx;obtain⟨y,hy⟩:∃y,ek s.1 s.2.1 (M.getD i []) n=y:=⟨_,rfl⟩
 have hu:∀t,t<n->y.getD t 0=Go.Ex.kH (di s.1) p s.1.length (di M i) n t:=fun t ht=>by rw[<-hy];exact h.kH hx n (aG _) t ht
 have hyl:y.length=n:=by rw[<-hy,gF,hx]
 obtain⟨q1,q2,q3⟩:=E0 y n;by_cases hq:qm y n=n
 ·have e:jK n s i (M.getD i [])=s:=by unfold jK;simp only[hy,hq,if_true]
  rw[e]at hok ⊢;refine⟨p,Z,hok,h.JE,h.zE,fun r hr=>(h.up r hr).more (Nat.le_succ i),fun j hj=>?_⟩;rcases aV j i with h1|h1
  ·exact h.dn j h1
  ·rw[show j=i by omega];refine⟨fun j=>di M i (p j),fun t ht=>?_⟩;have h2:=hu t ht;rw[q2 t (by omega)]at h2;unfold Go.Ex.kH at h2;rw[cM (g:=fun j=>di M i (p j)*di s.1 j t) fun j hj=>if_pos (h.zE.ru.lt j hj)]at h2;grind
 ·have h0:=q3 hq;obtain⟨k,hk⟩:∃k,qm y n=k:=⟨_,rfl⟩
  rw[hk]at hq h0 q1 q2;have hkn:k<n:=by omega
  have e:jK n s i (M.getD i [])=(fR s.1 (y.map (· / y.getD k 0)) k s.1.length++[y.map (· / y.getD k 0)],s.2.1.set k (some s.1.length),s.2.2++[i]):=by
   unfold jK;simp only[hy,hk,aK hq]
  rw[e]at hok ⊢;have hl:(fR s.1 (y.map (· / y.getD k 0)) k s.1.length).length=s.1.length:=fE ..;have hnl:(fR s.1 (y.map (· / y.getD k 0)) k s.1.length++[y.map (· / y.getD k 0)]).length=s.1.length+1:=by rw[List.length_append,hl];rfl
  have hdv:∀t,t<n->(y.map (· / y.getD k 0)).getD t 0=y.getD t 0 / y.getD k 0:=fun t _=>E1 y _ t;have hE:∀a t,a<s.1.length+1->t<n->di (fR s.1 (y.map (· / y.getD k 0)) k s.1.length++[y.map (· / y.getD k 0)]) a t=jZ (di s.1) s.1.length (fun t=>y.getD t 0) k a t:=fun a t ha ht=>by
   unfold jZ;by_cases h1:a=s.1.length
   ·rw[if_pos h1,<-hdv t ht,di];congr 1;rw[List.getD,aQ (by omega),hl,h1,bI];rfl
   ·have ha2:a<s.1.length:=by omega
    have hr:=aB ha2;have hrl:(s.1[a]).length=n:=h.ok.len _ (bL ha2);have hg:s.1.getD a []=s.1[a]:=by rw[List.getD,hr];rfl
    have hrow:(fR s.1 (y.map (· / y.getD k 0)) k s.1.length++[y.map (· / y.getD k 0)]).getD a []=kO s.1[a] (y.map (· / y.getD k 0)) ((s.1[a]).getD k 0):=by
     rw[List.getD,aL (by omega),fR,List.getElem?_mapIdx,hr];simp only[Option.map_some,Option.getD_some,if_pos ha2]
    rw[aK h1,di,hrow,kO,sY (by omega),hdv t ht];unfold di;rw[hg]
  have hC:=h.zE.push hd hz hu hkn h0 q2;have hu2:=IS (v:=di M i) hu h.zE.ru.lt;refine⟨fun i=>if i=s.1.length then k else p i,fun a t=>if a=s.1.length then d*di M i t else Z a t,hok,?_,?_,?_,?_⟩
  ·intro c hc r;dsimp only
   rw[hnl];have hne:∀j,j<s.1.length->p j≠k:=fun j hj e=>h0 (by rw[hu k hkn,<-e];exact D4 h.zE.ru hj);by_cases h1:c=k
   ·rw[h1,aT (by rw[h.ok.at_];exact hkn)];constructor
    ·intro e;injection e with e;injection e with e;exact⟨by omega,by rw[if_pos e.symm]⟩
    ·rintro⟨h2,h3⟩;by_cases h4:r=s.1.length
     ·rw[h4]
     ·rw[aK h4]at h3;exact absurd h3 (hne r (by omega))
   ·rw[a9 (Ne.symm h1),h.JE c hc r];constructor
    ·rintro⟨h2,h3⟩;exact⟨by omega,by rw[aK (by omega)];exact h3⟩
    ·rintro⟨h2,h3⟩;by_cases h4:r=s.1.length
     ·rw[if_pos h4]at h3;exact absurd h3.symm h1
     ·rw[aK h4]at h3;exact⟨by omega,h3⟩
  ·dsimp only
   rw[hnl];exact hC.congr hE (fun _ _=>rfl) fun _ _ _ _=>rfl
  ·dsimp only
   rw[hnl];intro a ha;refine((F6 (k:=k) hu2 a ha).trans fun b hb=>?_).congr fun t ht=>hE a t ha ht;by_cases h1:b=s.1.length
   ·exact(du.row (show i<i+1 by omega)).congr fun t _=>by unfold jB;rw[if_pos h1]
   ·exact((h.up b (by omega)).more (Nat.le_succ i)).congr fun t _=>by unfold jB;rw[aK h1]
  ·dsimp only
   rw[hnl];intro j hj;refine du.C8 ?_ hE;rcases aV j i with h1|h1
   ·exact(h.dn j h1).trans fun b hb=>oT h0 b hb
   ·rw[show j=i by omega];exact zD h0 hu h.zE.ru.lt
end
theorem oU{M:List (List Rat)}{n B:Nat}(hM:fk n M)(hW:FB M n B):∀i,i<=M.length->∃p Z,C9 M n B i (fX M n i) p Z
 |0,_=>⟨fun _=>0,fun _ _=>0,qn.start n n,fun k _ r=>⟨fun h=>(by
   simp only[fX,List.getElem?_replicate]at h
   split at h<;>cases h),fun h=>(by have:=h.1;simp[fX]at this)⟩,wY.start _ _ _ _ _,fun r h=>(by simp[fX]at h),fun j h=>by omega⟩
 |i+1,hi=>by
  obtain⟨p,Z,h⟩:=oU hM hW i (by omega);obtain⟨d,hd,-,hz⟩:=hW i (by omega);exact h.step hM (by omega) hd hz
theorem Fe{M:List (List Rat)}{n B:Nat}(hM:fk n M)(hW:FB M n B)(hB:1<=B){i:Nat}(hi:i<=M.length):∀r∈(fX M n i).1,∀q∈r,rl q<=ln (fB B M.length):=fun r hr q hq=>by
 obtain⟨p,Z,h⟩:=oU hM hW i hi;obtain⟨a,ha⟩:=ah hr;obtain⟨t,ht⟩:=ah hq;have ha2:=(aE.1 ha).1;have ht2:=(aE.1 ht).1;rw[h.ok.len r hr]at ht2;have h1:=h.zE.Fa ha2 ht2;rw[di,show(fX M n i).1.getD a []=r by rw[List.getD,ha];rfl,show r.getD t 0=q by rw[List.getD,ht];rfl]at h1;exact bB h1 (eW (qp hB (bB h.ok.le hi)))
theorem Ff{M:List (List Rat)}{n B:Nat}(hM:fk n M)(hW:FB M n B)(hB:1<=B){i k:Nat}(hi:i<M.length)(hk:k<=n):∀q∈ek (fX M n i).1 (fX M n i).2.1 (M.getD i []) k,rl q<=ln (fB B M.length):=fun q hq=>by
 obtain⟨p,Z,h⟩:=oU hM hW i (by omega);have hx:(M.getD i []).length=n:=hM.getD hi;obtain⟨t,ht⟩:=ah hq;have ht2:=(aE.1 ht).1;rw[gF,hx]at ht2;have h1:=h.kH hx k hk t ht2;rw[show (ek (fX M n i).1 (fX M n i).2.1 (M.getD i []) k).getD t 0=q by rw[List.getD,ht];rfl]at h1;obtain⟨d,hd,hdB,hz⟩:=hW i hi;rw[h1];exact bB (h.zE.Fb hB hd hdB hz k ht2) (eW (qp hB (by have:=h.ok.le;omega)))
theorem zF{s:uS}:∀k,(cX s k).1.length=(cX s k).2.1.length∧(∀i,i<(cX s k).2.1.length->∃r:Nat,s.2.1[(cX s k).2.1.getD i 0]? =some (some r)∧(cX s k).1.getD i []=s.1.getD r []∧(cX s k).2.1.getD i 0<k)∧
  (∀i j,i<j->j<(cX s k).2.1.length->(cX s k).2.1.getD i 0<(cX s k).2.1.getD j 0)∧∀q,q<k->∀r:Nat,s.2.1[q]? =some (some r)->∃i,i<(cX s k).2.1.length∧(cX s k).2.1.getD i 0=q
 |0=>⟨rfl,fun i h=>(by cases h),fun i j _ h=>(by cases h),fun q h=>by omega⟩
 |k+1=>by
  obtain⟨h1,h2,h3,h4⟩:=zF (s:=s) k;have step:(∃r:Nat,s.2.1[k]? =some (some r)∧cX s (k+1)=((cX s k).1++[s.1.getD r []],(cX s k).2.1++[k],(cX s k).2.2++[s.2.2.getD r 0]))∨((∀r:Nat,s.2.1[k]? ≠some (some r))∧cX s (k+1)=cX s k):=by
   rw[cX]
   cases ho:s.2.1[k]? with
   |none=>exact .inr ⟨fun r e=>(by cases e),by rw[show s.2.1.getD k none=none by rw[List.getD,ho];rfl]⟩
   |some o=>cases o with
    |none=>exact .inr ⟨fun r e=>(by cases e),by rw[show s.2.1.getD k none=none by rw[List.getD,ho];rfl]⟩
    |some r=>exact .inl ⟨r,rfl,by rw[show s.2.1.getD k none=some r by rw[List.getD,ho];rfl]⟩
  rcases step with⟨r,hr,e⟩|⟨hr,e⟩
  ·rw[e];have old:∀i,i<(cX s k).2.1.length->((cX s k).2.1++[k]).getD i 0=(cX s k).2.1.getD i 0:=fun i hi=>by rw[List.getD,aL hi,<-List.getD]
   have new:((cX s k).2.1++[k]).getD (cX s k).2.1.length 0=k:=by rw[List.getD,aQ (aG _),bI];rfl
   have hlen:((cX s k).2.1++[k]).length=(cX s k).2.1.length+1:=by simp
   dsimp only
   rw[hlen];refine⟨by simp[h1],fun i hi=>?_,fun i j hij hj=>?_,fun q hq x hx=>?_⟩
   ·rcases aV i (cX s k).2.1.length with h5|h5
    ·obtain⟨x,x1,x2,x3⟩:=h2 i h5;rw[old i h5];refine⟨x,x1,?_,by omega⟩;rw[List.getD,aL (by omega),<-List.getD];exact x2
    ·rw[show i=(cX s k).2.1.length by omega,new];refine⟨r,hr,?_,by omega⟩;rw[List.getD,aQ (by omega),h1,bI];rfl
   ·rcases aV j (cX s k).2.1.length with h5|h5
    ·rw[old i (by omega),old j h5];exact h3 i j hij h5
    ·rw[show j=(cX s k).2.1.length by omega,new,old i (by omega)];obtain⟨_,_,_,x3⟩:=h2 i (by omega);exact x3
   ·rcases aV q k with h5|h5
    ·obtain⟨i,i1,i2⟩:=h4 q h5 x hx;exact⟨i,by omega,by rw[old i i1];exact i2⟩
    ·exact⟨(cX s k).2.1.length,by omega,by rw[new];omega⟩
  ·rw[e];refine⟨h1,fun i hi=>?_,h3,fun q hq x hx=>?_⟩
   ·obtain⟨x,x1,x2,x3⟩:=h2 i hi;exact⟨x,x1,x2,by omega⟩
   ·rcases aV q k with h5|h5
    ·exact h4 q h5 x hx
    ·rw[show q=k by omega]at hx;exact absurd hx (hr x)
theorem iF{α:Type}{a b:List α}(d:α)(hl:a.length=b.length)(h:∀i,i<a.length->a.getD i d=b.getD i d):a=b:=by
 refine List.ext_getElem hl fun i h1 h2=>?_;have:=h i h1
 rwa [List.getD,List.getD,aB h1,aB h2]at this
theorem pj{M:List (List Rat)}{n B:Nat}(hM:fk n M)(hW:FB M n B):(cZ M n).2.1=(cJ M n).2∧(cZ M n).1=(cJ M n).1.take (cJ M n).2.length:=by
 obtain⟨p,Z,h⟩:=oU hM hW M.length (aG _);obtain⟨h1,h2,h3,h4⟩:=zF (s:=fX M n M.length) n;unfold cZ;generalize fX M n M.length=s at*
 obtain⟨F,hF⟩:∃F,cX s n=F:=⟨_,rfl⟩
 rw[hF]at h1 h2 h3 h4 ⊢;have hrow:∀i,i<F.2.1.length->∃r,r<s.1.length∧p r=F.2.1.getD i 0∧F.1.getD i []=s.1.getD r []∧F.2.1.getD i 0<n:=fun i hi=>by
  obtain⟨r,r1,r2,r3⟩:=h2 i hi;obtain⟨k1,k2⟩:=(h.JE _ r3 r).1 r1;exact⟨r,k1,k2,r2,r3⟩
 have inj:∀i j,i<F.2.1.length->j<F.2.1.length->F.2.1.getD i 0=F.2.1.getD j 0->i=j:=fun i j hi hj e=>by
  rcases bj i j with h5|h5|h5
  ·have:=h3 i j h5 hj;omega
  ·exact h5
  ·have:=h3 j i h5 hi;omega
 have hrf:Rf (di F.1) (fun i=>F.2.1.getD i 0) F.2.1.length n:=by
  refine⟨fun i hi=>?_,h3,fun i j hi hj=>?_,fun i t hi ht=>?_⟩
  ·obtain⟨_,_,_,_,h5⟩:=hrow i hi;exact h5
  ·obtain⟨a,a1,a2,a3,_⟩:=hrow i hi;obtain⟨b,b1,b2,b3,_⟩:=hrow j hj;rw[di,b3,<-a2];have:=h.zE.ru.unit a b a1 b1;unfold di at this;rw[this];by_cases h5:j=i
   ·rw[if_pos h5,if_pos (h.zE.ru.inj b a b1 a1 (by rw[a2,b2,h5]))]
   ·rw[aK h5,aK fun e=>h5 (inj j i hj hi (by rw[<-a2,<-b2,e]))]
  ·obtain⟨a,a1,a2,a3,_⟩:=hrow i hi;rw[di,a3];have:=h.zE.ru.lead a t a1 (by rw[a2];exact ht);unfold di at this;exact this
 have hsp:∀r,r<s.1.length->du (di F.1) F.2.1.length n (di s.1 r):=fun r hr=>by
  have hp:=h.zE.ru.lt r hr;obtain⟨i,i1,i2⟩:=h4 (p r) hp r ((h.JE _ hp r).2 ⟨hr,rfl⟩);obtain⟨a,a1,a2,a3,_⟩:=hrow i i1;have e:a=r:=h.zE.ru.inj a r a1 hr (by rw[a2,i2]);exact(du.row i1).congr fun t _=>by rw[di,di,a3,e]
 obtain⟨e1,e2,e3⟩:=BY hM hrf (fun i hi=>by
  obtain⟨a,a1,a2,a3,_⟩:=hrow i hi
  exact(h.up a a1).congr fun t _=>by rw[di,di,a3]) fun j hj=>(h.dn j hj).trans hsp
 obtain⟨g1,g2,-,-,-⟩:=eC hM n (aG _);refine⟨iF 0 e1.symm fun i hi=>(e2 i hi).symm,iF [] ?_ fun i hi=>?_⟩
 ·rw[aX,e1,h1];omega
 ·rw[h1]at hi;have hi2:i<(cJ M n).2.length:=by omega
  obtain⟨a,a1,a2,a3,_⟩:=hrow i hi;have hl1:(F.1.getD i []).length=n:=by rw[a3];exact h.ok.len.getD a1
  have hg:((cJ M n).1.take (cJ M n).2.length).getD i []=(cJ M n).1.getD i []:=by rw[List.getD,bM hi2,<-List.getD]
  rw[hg];refine iF 0 (by rw[hl1,g1.getD (by omega)]) fun t ht=>?_;rw[hl1]at ht;exact(e3 i t hi ht).symm
structure J1(M:List (List Rat))(n B c:Nat)(s:List (List Rat)×List Nat)(σ:Nat->Nat)(Z:Mx):Prop where
 red:JD n c s
 Jw:F2 s
 len:s.1.length=M.length
 zE:wY (di s.1) (fun i=>s.2.getD i 0) s.2.length n B Z
 JL:∀j,j<M.length->σ j<M.length
 rest:∀j,s.2.length<=j->j<M.length->∀t,t<n->di s.1 j t=kH (di s.1) (fun i=>s.2.getD i 0) s.2.length (di M (σ j)) n t
theorem J1.step{M:List (List Rat)}{n B c:Nat}{s:List (List Rat)×List Nat}{σ:Nat->Nat}{Z:Mx}(h:J1 M n B c s σ Z)(hW:FB M n B)(hc:c<n):∃σ' Z',J1 M n B (c+1) (dP s c) σ' Z':=by
 have hred:=h.red.step hc;have hmon:=h.Jw.step h.red hc;have hlen:(dP s c).1.length=M.length:=by rw[lr,h.len]
 obtain⟨hl,hle,hz,hpc,hu⟩:=h.red;rcases kN c hle with⟨e,h0⟩|⟨k,h1,h2,h3,e⟩
 ·rw[e]at hred hmon hlen ⊢;exact⟨σ,Z,hred,hmon,hlen,h.zE,h.JL,h.rest⟩
 ·obtain⟨r1,r2⟩:=lu hl h1 h2 h3 e;have e2:(dP s c).2=s.2++[c]:=by rw[e]
  have e3:(dP s c).2.length=s.2.length+1:=by rw[e2];simp
  have hkM:k<M.length:=by rw[<-h.len];exact h2
  have hk:=h.rest k h1 hkM;obtain⟨d,hd,-,hdz⟩:=hW (σ k) (h.JL k hkM);have hC:=h.zE.push (u:=di s.1 k) hd hdz hk hc h3 fun t ht=>hz k t h1 h2 ht;have hold:∀i,i<s.2.length->(dP s c).2.getD i 0=s.2.getD i 0:=fun i hi=>by rw[e2,List.getD,aL hi,<-List.getD]
  have hnew:(dP s c).2.getD s.2.length 0=c:=by rw[e2,List.getD,aQ (aG _),bI];rfl
  have hE:∀i t,i<s.2.length+1->t<n->di (dP s c).1 i t=jZ (di s.1) s.2.length (di s.1 k) c i t:=fun i t hi ht=>by
   unfold jZ;by_cases hir:i=s.2.length
   ·rw[if_pos hir,hir,r1,bZ,bZ,bq]
   ·rw[aK hir,r2 i (by omega) hir t ht,aK (by omega),bZ,bZ,bq]
  have hC2:wY (di (dP s c).1) (fun i=>(dP s c).2.getD i 0) (dP s c).2.length n B fun i t=>if i=s.2.length then d*di M (σ k) t else Z i t:=by
   rw[e3];refine hC.congr hE (fun i hi=>?_) fun _ _ _ _=>rfl;by_cases hir:i=s.2.length
   ·rw[if_pos hir,hir,hnew]
   ·rw[aK hir,hold i (by omega)]
  refine⟨fun j=>if j=k then σ s.2.length else σ j,_,hred,hmon,hlen,hC2,fun j hj=>?_,fun j hj hjM t ht=>?_⟩
  ·split
   ·exact h.JL _ (by omega)
   ·exact h.JL j hj
  ·rw[e3]at hj;have hjs:j<s.1.length:=by rw[h.len];exact hjM
   obtain⟨jj,hjj⟩:∃jj,(if j=k then s.2.length else j)=jj:=⟨_,rfl⟩
   have hjr:s.2.length<=jj:=by rw[<-hjj];split<;>omega
   have hjl:jj<M.length:=by rw[<-hjj];split<;>omega
   have hσ:(if j=k then σ s.2.length else σ j)=σ jj:=by rw[<-hjj];split<;>rfl
   rw[hσ];refine HL hC2.ru ?_ (fun i hi=>?_) ht
   ·have hr:du (di (dP s c).1) (dP s c).2.length n (di (dP s c).1 s.2.length):=du.row (by omega);have h5:du (di s.1) s.2.length n fun t=>dU (fun i=>di M (σ jj) (s.2.getD i 0)*di s.1 i t) s.2.length:=⟨_,fun t _=>rfl⟩
    have h6:du (di (dP s c).1) (dP s c).2.length n fun t=>dU (fun i=>di M (σ jj) (s.2.getD i 0)*di s.1 i t) s.2.length:=h5.trans fun i hi=>by
     rw[e3];exact du.C8 (oT h3 i hi) hE
    refine(h6.add hr (di s.1 jj c)).congr fun t ht=>?_;have h7:=h.rest jj hjr hjl t ht;unfold kH at h7;rw[cM (g:=fun i=>di M (σ jj) (s.2.getD i 0)*di s.1 i t) fun i hi=>if_pos (h.zE.ru.lt i hi)]at h7;rw[r2 j hjs (by omega) t ht,hjj,r1,h7];grind
   ·rw[hred.2.2.2.2 i j hi (by rw[hlen];exact hjM),aK (by omega)]
theorem tZ{M:List (List Rat)}{n B:Nat}(hM:fk n M)(hW:FB M n B):∀c,c<=n->∃σ Z,J1 M n B c (cJ M c) σ Z
 |0,_=>⟨fun j=>j,fun _ _=>0,⟨hM,aN _,fun _ _ _ _ h=>by omega,fun p hp=>(by cases hp),fun _ _ h=>(by cases h)⟩,⟨fun _ _ _ h=>(by cases h),fun _ _ h=>(by cases h)⟩,rfl,wY.start _ _ _ _ _,fun j hj=>hj,fun j _ hj t ht=>by
   show di M j t=kH (di M) _ 0 (di M j) n t;unfold kH;show _=_-0
   grind⟩
 |c+1,hc=>by
  obtain⟨σ,Z,h⟩:=tZ hM hW c (by omega);unfold cJ at h ⊢;rw[bH,List.foldl_append];exact h.step hW (by omega)
theorem pn{M:List (List Rat)}{n B:Nat}(hM:fk n M)(hW:FB M n B)(hB:1<=B){c:Nat}(hc:c<=n):∀r∈(cJ M c).1,∀q∈r,rl q<=ln (fB B M.length):=fun r hr q hq=>by
 obtain⟨σ,Z,h⟩:=tZ hM hW c hc;obtain⟨a,ha⟩:=ah hr;obtain⟨t,ht⟩:=ah hq;have ha2:=(aE.1 ha).1;have ht2:=(aE.1 ht).1;rw[h.red.1 r hr]at ht2;have hle:=h.red.2.1;have e:q=di (cJ M c).1 a t:=by rw[di,show(cJ M c).1.getD a []=r by rw[List.getD,ha];rfl,List.getD,ht];rfl
 rw[h.len]at ha2 hle;rw[e];rcases aV a (cJ M c).2.length with h1|h1
 ·exact bB (h.zE.Fa h1 ht2) (eW (qp hB hle))
 ·obtain⟨d,hd,hdB,hz⟩:=hW _ (h.JL a ha2);rw[h.rest a h1 ha2 t ht2];exact bB (h.zE.Fb hB hd hdB hz n ht2) (eW (qp hB (by omega)))
end Go.Ex
namespace Go.Ex
open Go Go.Sx Go.Proofs
theorem CB{M:List (List Rat)}{a c i k:Nat}(h:i<k):(dO M a c k)[i]? =(dO M a c (i+1))[i]? :=by
 simp only[dO,List.getElem?_mapIdx]
 have:(i<k∧i≠a)↔(i<i+1∧i≠a):=by omega
 simp[this,h]
theorem uG{S:Nat->Prop}{w:World}{v:Value}{M:List (List Rat)}{n cols h:Nat}(hS:Old S w)(hm:dm w S v M)(hlen:fk n M)(hn:n<=1000)(hR:M.length<=1000)(hcols:cols<=n)(hB:∀c,c<=cols->Ht (cJ M c).1 h)(hh:3*h<=90000):
  dh PG N.pG #[v,.int .i64 cols] w (dw w fun v' w2=>∃vm vp,v'= .tuple #[vm,vp]∧dm w2 (Nw S w w2) vm (cJ M cols).1∧cY w2 (Nw (fun _=>False) w w2) vp (cJ M cols).2):=by
 have hw:cN w.heap.size w w:=cN.refl;replace hm:=dm.arg hm [];obtain⟨rv0,⟨hm0,hl0,h1,am,cm,rfl,hcm,hcell⟩,hl,hrows⟩:=hm;unfold maxLen at hm0;have hRV:kC w (Cv S w.heap.size []) rv0 M:=⟨hl,h1,hrows⟩
 refine tE (by simp) ?_;conv=>whnf
 refine .inl ?_;conv=>whnf
 refine⟨rv0,hl0,h1,fun ρ w' r hpos=>?_,?_⟩
 ·obtain⟨u0,hu0⟩:∃u,rv0[0]? =some u:=⟨_,aB (by omega)⟩
  obtain⟨ad,ha,_,_⟩:=hcell 0 u0 hu0;refine⟨ad,ha,fun j u hj=>?_⟩;obtain⟨ad2,ha2,q1,q2⟩:=hcell j u hj;rw[ha]at ha2;injection ha2 with ha2;subst ha2;rw[bw (w:=w) (w2:=w') (by rw[cL];exact Rel.same r hS q1)];exact q2
 conv=>whnf
 refine⟨rfl,by omega,by unfold maxLen;omega,?_⟩;conv=>whnf
 rw[aS M.length]
 refine⟨Nat×List Value×List (List Rat)×List Nat×World×Iv,fun z=>⟨[(1,.o (.v (.int .i64 cols))),(6,.o (.w 0 M.length)),(7,.o (.w 1 z.2.2.2.1.length)),(8,.o (.v (.int .i64 ((z.1:Nat):Int))))],[(1,.vec T.int 1 (z.2.2.2.1.map fun c:Nat=>.int .i64 (c:Int))),(0,.vec T.fz 1 z.2.1)],2,z.2.2.2.2.2,z.2.2.2.2.1⟩,fun z=>cols-z.1,
  fun z=>z.1<=cols∧(z.2.2.1,z.2.2.2.1)=(List.range z.1).foldl dP (M,[])∧fk n z.2.2.1∧(z.2.2.1.length=M.length∧z.2.2.2.1.length<=M.length)∧cN w.heap.size w z.2.2.2.2.1∧kC z.2.2.2.2.1 (Cv S w.heap.size z.2.2.2.2.2) z.2.1 z.2.2.1,?_,?_⟩
 ·intro ρ w' r
  exact⟨(0,rv0,M,[],w',[]),⟨aN _,rfl,hlen,⟨rfl,aN _⟩,hw.tr r.cC,hRV.rel r hS⟩,Sub.nil 7 T.int 1 rfl (by simp[cV,SV.sc,At.sc,cQ]) r fun ρ1 r1=>
   Sub.gen [(0,1),(1,2)] r1 ⟨rfl,rfl,trivial⟩ ⟨rfl,rfl,rfl,rfl,trivial⟩ (by simp[dG,cW.scopd,At.sc]) (by simp[cV,SV.sc,At.sc]) (by rfl) (by simp)⟩
 clear hw hRV hrows hcell hl h1 hl0;rintro⟨c,rv,M1,pv,w1,iv⟩ ⟨hc,hfold,hLen,hInv,hw,hRV⟩;dsimp only at hc hfold hLen hInv hw hRV ⊢;obtain⟨hI1,hI2⟩:=hInv;have hI4:Ht M1 h:=by
  have h5:=hB c hc;rw[show cJ M c=(M1,pv)from hfold.symm]at h5;exact h5
 have hrl:rv.length=M.length:=by rw[hRV.1,hI1]
 conv=>whnf
 refine dE.mk (fun hib=>?_) (fun hib=>?_)
 ·have hib:c<cols:=by simpa using hib
  conv=>whnf
  refine⟨by simp,?_⟩;conv=>whnf
  refine⟨Nat×World×Iv,fun z=>⟨[(1,.o (.v (.int .i64 cols))),(6,.o (.w 0 M.length)),(7,.o (.w 1 pv.length)),(8,.o (.v (.int .i64 ((c:Nat):Int)))),(9,.o (.v (.int .i64 ((pv.length:Nat):Int)))),(10,.o (.v (.int .i64 ((z.1:Nat):Int))))],[(1,.vec T.int 1 (pv.map fun c:Nat=>.int .i64 (c:Int))),(0,.vec T.fz 1 rv)],2,z.2.2,z.2.1⟩,fun z=>M.length-z.1,
   fun z=>pv.length<=z.1∧z.1<=M.length∧(∀j,pv.length<=j->j<z.1->di M1 j c=0)∧cN w.heap.size w z.2.1∧kC z.2.1 (Cv S w.heap.size z.2.2) rv M1,?_,?_⟩
  ·intro ρ w' r;exact⟨(pv.length,w',iv),⟨aG _,hI2,fun j h3 h4=>by dsimp only at h4;omega,hw.tr r.cC,hRV.rel r hS⟩,Sub.gen [] r ⟨rfl,rfl,trivial⟩ ⟨rfl,rfl,rfl,rfl,rfl,rfl,trivial⟩ (by simp[dG,cW.scopd,At.sc]) (by simp[cV,SV.sc,At.sc]) (by rfl) (fun lo hi h=>h)⟩
  clear hw hRV;rintro⟨k,w2,iv⟩ ⟨hk0,hk1,hkz,hw,hRV⟩;dsimp only at hk0 hk1 hkz hw hRV ⊢;have hRl:=hRV.1;conv=>whnf
  refine⟨by rw[hrl,aS,aR],?_⟩;conv=>whnf
  refine dE.mk (fun hkb=>?_) (fun hkb=>?_)
  ·have hkb:k<M.length:=by have:=aI hkb;omega
   obtain⟨u,x,hu,hx,hux⟩:=hRV.get (i:=k) (by omega);have hxl:=hLen x (aF hx);obtain⟨y,hy⟩:∃y,x[c]? =some y:=⟨_,aB (by omega)⟩
   have hat:di M1 k c=y:=by simp[di,List.getD,hx,hy]
   obtain⟨au,cu,rfl,hcu,-⟩:=dx.shape hux;obtain⟨ad,cs,had,hF,_,hlc⟩:=dx.load hux hy;obtain⟨p0,p1,p2,p3,p4,p5,p6,p7,rfl,hF⟩:=hF;conv=>whnf
   refine⟨by simp[hrl],⟨by omega,by omega⟩,?_⟩;conv=>whnf
   refine⟨.slice au x.length cu,by simpa using hu,?_⟩;conv=>whnf
   refine⟨ad,had,⟨by omega,by omega⟩,?_⟩;conv=>whnf
   refine⟨[.bool p0,.slice p1 p2 p3,.bool p4,.slice p5 p6 p7],rfl,fun ρ w' r i x hx=>?_,?_⟩
   ·obtain⟨k1,k2⟩:=hlc i x hx;rw[aC,bw (w:=w2) (w2:=w') (by rw[cL,cL];exact Rel.same r hS k1)];exact k2
   conv=>whnf
   refine bz (cE hw (Φ:=fun _ w' v w2=>v= .int .i64 (rs y)) (fun ρ w' r=>qR (Rel.old r hS) (hF.rel r hS)) ?_);rintro ρ wa1 v1 wb1 iv1 r he hw h_ rfl;replace hRV:=hRV.cB r hS he (mC h_);clear r;conv=>whnf
   clear hux hlc hF;refine dE.mk (fun hs=>?_) (fun hs=>?_)
   ·have hs:y=0:=oY.1 (by simpa using hs);conv=>whnf
    refine⟨((k+1:Nat):Int),by rw[wrap64]<;>omega,?_⟩;conv=>whnf
    intro ρ3 w3 r3
    exact⟨(k+1,w3,_),⟨by dsimp only;omega,hkb,fun j h3 h4=>by
      by_cases hj:j=k
      ·rw[hj,hat,hs]
      ·exact hkz j h3 (by dsimp only at h4;omega),hw.tr r3.cC,hRV.rel r3 hS⟩,Sub.gen [] r3 ⟨rfl,rfl,trivial⟩ ⟨rfl,rfl,rfl,rfl,rfl,rfl,trivial⟩ (by simp[dG,cW.scopd,At.sc]) (by simp[cV,SV.sc,At.sc]) (by rfl) (fun lo hi h=>h),by dsimp only;omega⟩
   have hs:y≠0:=fun e=>by rw[e]at hs;exact absurd hs (by decide)
   conv=>whnf
   refine⟨by rw[hrl,aS,aR],?_⟩;conv=>whnf
   refine dE.mk (fun hge=>absurd (aI hge) (by omega)) (fun _=>?_);conv=>whnf
   obtain⟨uk,xk,huk,hxk,huxk⟩:=hRV.get (i:=k) (by omega);obtain⟨ur,xr,hur,hxr,huxr⟩:=hRV.get (i:=pv.length) (by omega);have hukc:=hRV.2.1 uk (aF huk);have hurc:=hRV.2.1 ur (aF hur);obtain⟨aur,cur,rfl,-,-⟩:=dx.shape huxr;obtain⟨auk,cuk,rfl,-,-⟩:=dx.shape huxk;have hsw:e9 [] M1 pv.length k=(M1.set pv.length xk).set k xr:=by simp[e9,List.getD,hxk,hxr]
   have hMr:pv.length<M.length:=by omega
   have hne:di M1 k c≠0:=by rw[hat];exact hs
   have hstep:=wG (s:=(M1,pv)) (c:=c) (k:=k) hk0 (by show k<M1.length;omega) hkz hne;dsimp only at hstep;have hHt2:=hI4.swap (i:=pv.length) (j:=k) (by omega) (by omega);have hat2:=BT (M:=M1) (i:=pv.length) (j:=k) (c:=c) (by omega) (by omega);have hc1:Ht (dO (scaled (e9 [] M1 pv.length k) pv.length c) pv.length c M.length) h:=by
    have h5:=hB (c+1) hib;rw[show cJ M (c+1)=dP (M1,pv) c by unfold cJ;rw[bH,List.foldl_append,<-hfold];rfl,hstep,hI1]at h5;exact h5
   have hHt3:(∀r,(scaled (e9 [] M1 pv.length k) pv.length c)[pv.length]? =some r->∀q∈r,rl q+1<=h)∧∀j r,j≠pv.length->(scaled (e9 [] M1 pv.length k) pv.length c)[j]? =some r->∀q∈r,rl q+1<=h:=
    ⟨fun r hr=>hc1 r (aF (i:=pv.length) (by rw[pc];exact hr)),fun j r hj hr=>hHt2 r (aF (i:=j) (by unfold Go.Ex.scaled at hr;rwa [a9 (Ne.symm hj)]at hr))⟩
   have hRV2:=(hRV.set (i:=pv.length) hukc huxk).set (i:=k) hurc huxr;rw[<-hsw]at hRV2;have hLen2:fk n (e9 [] M1 pv.length k):=by
    rw[hsw];exact(hLen.set (hLen xk (aF hxk))).set (hLen xr (aF hxr))
   have hl2:(e9 [] M1 pv.length k).length=M.length:=by rw[il,hI1]
   generalize hrv2:(rv.set pv.length (.slice auk xk.length cuk)).set k (.slice aur xr.length cur)=rv2 at hRV2;have hrl2:rv2.length=M.length:=by rw[hRV2.1,hl2]
   refine cF hτ dV [.x 0,.x 1,.x 2,.x 3,.x 4,.x 5,.x 6,.x 7,.x 8,.x 9,.x 10,.x 11,.x 12,.x 13,.x 14,.x 15] (by kernel_rfl) (by kernel_rfl) ?_;conv=>whnf
   refine⟨by simp[hrl],⟨by omega,by omega⟩,?_⟩;conv=>whnf
   refine⟨.slice auk xk.length cuk,by simpa using huk,?_⟩;conv=>whnf
   refine⟨by simp[hrl],⟨by omega,by omega⟩,?_⟩;conv=>whnf
   refine⟨.slice aur xr.length cur,by simpa using hur,?_⟩;conv=>whnf
   refine⟨by simp[hrl],⟨by omega,by omega⟩,?_⟩;conv=>whnf
   refine⟨by simp[hrl,hrl2];omega,rv.set pv.length (.slice auk xk.length cuk),by rw[aC,aR];exact fG (by simp[hrl,hrl2];omega),?_⟩;conv=>whnf
   refine⟨by simp[hrl],⟨by omega,by omega⟩,?_⟩;conv=>whnf
   refine⟨by simp[hrl,hrl2];omega,rv2,by rw[aC,aR,<-hrv2];exact fG (by simp[hrl,hrl2];omega),?_⟩;conv=>whnf
   clear hRV huxk huxr hsw;obtain⟨u2,x2,hu2,hx2,hux2⟩:=hRV2.get (i:=pv.length) (by omega);have hx2l:=hLen2 x2 (aF hx2);obtain⟨y2,hy2⟩:∃y,x2[c]? =some y:=⟨_,aB (by omega)⟩
   have hat3:di (e9 [] M1 pv.length k) pv.length c=y2:=by simp[di,List.getD,hx2,hy2]
   have hy20:y2≠0:=by rw[<-hat3,hat2];exact hne
   have hgd:(e9 [] M1 pv.length k).getD pv.length []=x2:=by simp[List.getD,hx2]
   have hscl:scaled (e9 [] M1 pv.length k) pv.length c=(e9 [] M1 pv.length k).set pv.length (x2.map (· *(1 / y2))):=by rw[scaled,hgd,hat3]
   rw[hscl]at hstep hHt3 hc1;have hb2:=hHt2.at hx2;have hyb:=hb2 y2 (aF hy2);have hinv:=I4 hy20;have hl3:((e9 [] M1 pv.length k).set pv.length (x2.map (· *(1 / y2)))).length=M.length:=by rw[bV,hl2]
   have hget3:((e9 [] M1 pv.length k).set pv.length (x2.map (· *(1 / y2))))[pv.length]? =some (x2.map (· *(1 / y2))):=aT (by omega);have hLen3:fk n ((e9 [] M1 pv.length k).set pv.length (x2.map (· *(1 / y2)))):=hLen2.set (by rw[aM];exact hx2l);generalize e9 [] M1 pv.length k=M2 at*
   obtain⟨au2,cu2,rfl,hcu2,-⟩:=dx.shape hux2;obtain⟨ad2,cs2,had2,hF2,_,hlc2⟩:=dx.load hux2 hy2;obtain⟨q0,q1,q2,q3,q4,q5,q6,q7,rfl,hF2⟩:=hF2;replace hrl:=hrl2;refine cF hτ dV [.x 1,.x 2,.x 3,.x 4,.x 5,.x 6,.x 7,.p 12,.x 0,.x 8,.x 9,.x 10,.x 11,.x 12,.x 13,.x 14] (by kernel_rfl) (by kernel_rfl) ?_;conv=>whnf
   refine⟨by simp[hrl],⟨by omega,by omega⟩,?_⟩;conv=>whnf
   refine⟨.slice au2 x2.length cu2,by simpa using hu2,?_⟩;conv=>whnf
   refine⟨ad2,had2,⟨by omega,by omega⟩,?_⟩;conv=>whnf
   refine⟨[.bool q0,.slice q1 q2 q3,.bool q4,.slice q5 q6 q7],rfl,fun ρ w' r i x hx=>?_,?_⟩
   ·obtain⟨k1,k2⟩:=hlc2 i x hx;rw[aC,bw (w:=wb1) (w2:=w') (by rw[cL,cL];exact Rel.same r hS k1)];exact k2
   conv=>whnf
   refine cE hw (Φ:=fun _ w' v w2=>cR w2 (Nw (fun _=>False) w' w2) v (1:Rat)) (fun ρ w' r=>(show ((1:Int):Rat)=1 from rfl)▸oG 1 w' (by decide) (by decide)) ?_;rintro ρ wa2 v2 wb2 iv2 r he hw h_ hn;replace hRV2:=hRV2.cB r hS he (mC h_);replace hux2:=dY.cB hux2 r hS he (mC h_);replace hF2:=hF2.cB r hS he (mC h_);have h_1:=hn.cw (S:=fun _=>False) r.bu (mN h_);clear r hn;obtain⟨s2_0,s2_1,s2_2,s2_3,s2_4,s2_5,s2_6,s2_7,rfl⟩:=h_1.shape;conv=>whnf
   refine cE hw (Φ:=fun _ w' v w2=>∃q,v= .tuple #[q,.int .i64 0]∧cR w2 (Nw (fun _=>False) w' w2) q (1 / y2)) (fun ρ w' r=>El (Rel.old r hS) (((h_1.rel r (bs w)).l (by rw[Fs];decide)).cG fun g hg=>Cv.false hg) (hF2.rel r hS) hy20) ?_;rintro ρ wa3 v3 wb3 iv3 r he hw h_ ⟨q,rfl,k1⟩;replace hRV2:=hRV2.cB r hS he (mC h_);replace hux2:=dY.cB hux2 r hS he (mC h_);clear hF2;clear h_1;have hby:=k1.cw (S:=fun _=>False) r.bu (mN h_);clear r;obtain⟨s3_0a,s3_0b,s3_0c,s3_0d,s3_0e,s3_0f,s3_0g,s3_0h,rfl⟩:=hby.shape;clear k1 hlc2;conv=>whnf
   refine cF hτ dV [.x 0,.x 1,.x 2,.x 3,.x 4,.x 5,.x 6,.x 7,.x 8,.x 9] (by kernel_rfl) (by kernel_rfl) ?_;conv=>whnf
   refine⟨by simp[hrl],⟨by omega,by omega⟩,?_⟩;conv=>whnf
   refine⟨.slice au2 x2.length cu2,by simpa using hu2,?_⟩;conv=>whnf
   refine cE hw (Φ:=fun _ w' v w2=>cP w2 (Nw (fun _=>False) w' w2) v (x2.map (· *(1 / y2)))) (fun ρ w' r=>(Em x2 (1 / y2))▸Dn (Rel.old r hS) (dY.nil w' _) (dY.rel hux2 r hS) (((hby.rel r (bs w)).l (by omega)).cG fun g hg=>Cv.false hg) (.inl rfl) (by omega) (fun y hy=>by have:=hb2 y hy;omega)) ?_;rintro ρ wa4 v4 wb4 iv4 r he hw h_ hn;replace hRV2:=hRV2.cB r hS he (mC h_);clear hux2;clear hby;have hx3:=cP.cw (S:=fun _=>False) hn r.bu (mN h_);clear r;clear hn;obtain⟨a3,c3,rfl,hc3,-⟩:=dx.shape hx3;have hRV3:=hRV2.set (i:=pv.length) (u:=.slice a3 (x2.map (· *(1 / y2))).length c3) rfl (dY.cG (cP.l hx3 fun q hq=>by have:=hHt3.1 _ hget3 q hq;omega) fun g hg=>Cv.false hg);clear hx3 hRV2;obtain⟨rv3,hrv3⟩:∃rv3,rv3=rv2.set pv.length (.slice a3 (x2.map (· *(1 / y2))).length c3):=⟨_,rfl⟩
   rw[<-hrv3]at hRV3;generalize x2.map (· *(1 / y2))=x3 at*
   generalize hM3:M2.set pv.length x3=M3 at*
   conv=>whnf
   refine⟨by simp[hrl],⟨by omega,by omega⟩,?_⟩;conv=>whnf
   refine⟨by simp[hrl,hrl2];omega,rv3,by rw[aC,aR,hrv3];exact fG (by simp[hrl,hrl2];omega),?_⟩;conv=>whnf
   have hrl3:rv3.length=M.length:=by rw[hRV3.1,hl3]
   refine⟨Nat×List Value×World×Iv,fun z=>⟨[(1,.o (.v (.int .i64 cols))),(6,.o (.w 0 M.length)),(7,.o (.w 1 pv.length)),(8,.o (.v (.int .i64 ((c:Nat):Int)))),(9,.o (.v (.int .i64 ((pv.length:Nat):Int)))),(13,.o (.v (.int .i64 ((z.1:Nat):Int))))],[(1,.vec T.int 1 (pv.map fun c:Nat=>.int .i64 (c:Int))),(0,.vec T.fz 1 z.2.1)],2,z.2.2.2,z.2.2.1⟩,fun z=>M.length-z.1,
    fun z=>z.1<=M.length∧cN w.heap.size w z.2.2.1∧kC z.2.2.1 (Cv S w.heap.size z.2.2.2) z.2.1 (dO M3 pv.length c z.1),?_,?_⟩
   ·intro ρ w' r;exact⟨(0,rv3,w',iv4),⟨aN _,hw.tr r.cC,by dsimp only;rw[AF];exact hRV3.rel r hS⟩,Sub.gen [] r ⟨rfl,rfl,trivial⟩ ⟨rfl,rfl,rfl,rfl,rfl,rfl,trivial⟩ (by simp[dG,cW.scopd,At.sc]) (by simp[cV,SV.sc,At.sc]) (by rfl) (fun lo hi h=>h)⟩
   clear hw hRV3 hrv3 hrl3 hu2 hrv2 hrl2 hrl;rintro⟨i,rv,w4,iv⟩ ⟨hi,hw,hRV⟩;dsimp only at hi hw hRV ⊢;have hrl:rv.length=M.length:=by rw[hRV.1,fx,hl3]
   conv=>whnf
   refine⟨by rw[hrl,aS,aR],?_⟩;conv=>whnf
   refine dE.mk (fun hiR=>?_) (fun hiR=>?_)
   ·have hiR:i<M.length:=by have:=aI hiR;omega
    conv=>whnf
    refine dE.mk (fun hir=>?_) (fun hir=>?_)
    ·have hir:i≠pv.length:=fun e=>by rw[e]at hir;simp at hir
     obtain⟨u4,x4,hu4,hx4,hux4⟩:=hRV.get (i:=i) (by rw[fx];omega);obtain⟨u5,x5,hu5,hx5,hux5⟩:=hRV.get (i:=pv.length) (by rw[fx];omega);rw[Cc _ _ _ _ _ (aG _)]at hx4;rw[pc]at hx5;have hx4l:=hLen3 x4 (aF hx4);have hx5l:=hLen3 x5 (aF hx5);obtain⟨y4,hy4⟩:∃y,x4[c]? =some y:=⟨_,aB (by omega)⟩
     have hy4d:x4.getD c 0=y4:=by simp[List.getD,hy4]
     have hx5d:M3.getD pv.length []=x5:=by simp[List.getD,hx5]
     have hb4:=hHt3.2 i x4 hir hx4;have hb5:=hHt3.1 x5 hx5;have hyb4:=hb4 y4 (aF hy4);have hrn:=s8 y4;obtain⟨au4,cu4,rfl,hcu4,-⟩:=dx.shape hux4;obtain⟨au5,cu5,rfl,hcu5,-⟩:=dx.shape hux5;obtain⟨ad4,cs4,had4,hF4,_,hlc4⟩:=dx.load hux4 hy4;obtain⟨e0,e1,e2,e3,e4,e5,e6,e7,rfl,hF4⟩:=hF4;conv=>whnf
     refine⟨by simp[hrl],⟨by omega,by omega⟩,?_⟩;conv=>whnf
     refine⟨.slice au4 x4.length cu4,by simpa using hu4,?_⟩;conv=>whnf
     refine⟨ad4,had4,⟨by omega,by omega⟩,?_⟩;conv=>whnf
     refine⟨[.bool e0,.slice e1 e2 e3,.bool e4,.slice e5 e6 e7],rfl,fun ρ w' r i x hx=>?_,?_⟩
     ·obtain⟨k1,k2⟩:=hlc4 i x hx;rw[aC,bw (w:=w4) (w2:=w') (by rw[cL,cL];exact Rel.same r hS k1)];exact k2
     conv=>whnf
     clear hlc4;refine bz (cE hw (Φ:=fun _ w' v w2=>v= .int .i64 (rs y4)) (fun ρ w' r=>qR (Rel.old r hS) (hF4.rel r hS)) ?_);rintro ρ wa5 v5 wb5 iv5 r he hw h_ rfl;replace hRV:=hRV.cB r hS he (mC h_);replace hux4:=dY.cB hux4 r hS he (mC h_);replace hux5:=dY.cB hux5 r hS he (mC h_);clear hF4;clear r;conv=>whnf
     refine dE.mk (fun hs4=>?_) (fun hs4=>?_)
     ·have hs4:y4≠0:=fun e=>by rw[e]at hs4;exact absurd hs4 (by decide)
      obtain⟨ad6,cs6,had6,hF6,_,hlc6⟩:=dx.load hux4 hy4;obtain⟨f0,f1,f2',f3,f4,f5,f6,f7,rfl,hF6⟩:=hF6;conv=>whnf
      refine cF hτ dV [.x 0,.x 1,.x 2,.x 3,.x 4,.x 5,.x 6,.x 7,.x 8,.x 9,.x 10,.x 11,.x 12,.x 13,.x 14,.x 15,.x 16,.x 17,.x 18,.x 19,.x 20] (by kernel_rfl) (by kernel_rfl) ?_;conv=>whnf
      refine⟨by simp[hrl],⟨by omega,by omega⟩,?_⟩;conv=>whnf
      refine⟨.slice au4 x4.length cu4,by simpa using hu4,?_⟩;conv=>whnf
      refine⟨by simp[hrl],⟨by omega,by omega⟩,?_⟩;conv=>whnf
      refine⟨.slice au5 x5.length cu5,by simpa using hu5,?_⟩;conv=>whnf
      refine⟨by simp[hrl],⟨by omega,by omega⟩,?_⟩;conv=>whnf
      refine⟨.slice au4 x4.length cu4,by simpa using hu4,?_⟩;conv=>whnf
      refine⟨ad6,had6,⟨by omega,by omega⟩,?_⟩;conv=>whnf
      refine⟨[.bool f0,.slice f1 f2' f3,.bool f4,.slice f5 f6 f7],rfl,fun ρ w' r i x hx=>?_,?_⟩
      ·obtain⟨k1,k2⟩:=hlc6 i x hx;rw[aC,bw (w:=wb5) (w2:=w') (by rw[cL,cL];exact Rel.same r hS k1)];exact k2
      conv=>whnf
      clear hlc6;refine cE hw (Φ:=fun _ w' v w2=>cR w2 (Nw (fun _=>False) w' w2) v (-y4)) (fun ρ w' r=>GZ (Rel.old r hS) (hF6.rel r hS)) ?_;rintro ρ wa6 v6 wb6 iv6 r he hw h_ hn;replace hRV:=hRV.cB r hS he (mC h_);replace hux4:=dY.cB hux4 r hS he (mC h_);replace hux5:=dY.cB hux5 r hS he (mC h_);clear hF6;have hng:=hn.cw (S:=fun _=>False) r.bu (mN h_);clear r hn;obtain⟨s6_0,s6_1,s6_2,s6_3,s6_4,s6_5,s6_6,s6_7,rfl⟩:=hng.shape;conv=>whnf
      refine cE hw (Φ:=fun _ w' v w2=>cP w2 (Nw (fun _=>False) w' w2) v (k9 x4 x5 (-y4))) (fun ρ w' r=>Dn (Rel.old r hS) (dY.rel hux4 r hS) (dY.rel hux5 r hS) (((hng.rel r (bs w)).l (by omega)).cG fun g hg=>Cv.false hg) (.inr (by omega)) (by omega) (fun y hy=>by have:=hb5 y hy;omega)) ?_;rintro ρ wa7 v7 wb7 iv7 r he hw h_ hn;replace hRV:=hRV.cB r hS he (mC h_);clear hux4;clear hux5;clear hng;have hx7:=cP.cw (S:=fun _=>False) hn r.bu (mN h_);clear r;clear hn;obtain⟨a7,c7,rfl,hc7,-⟩:=dx.shape hx7;have hnew:(dO M3 pv.length c i).set i (k9 x4 x5 (-y4))=dO M3 pv.length c (i+1):=by
       rw[<-AG hx4 hir,hy4d,hx5d,DD _ (by omega)]
      have hrow7:(dO M3 pv.length c (i+1))[i]? =some (k9 x4 x5 (-y4)):=by rw[<-hnew];exact aT (by rw[fx];omega)
      have hb7:=hc1.at (i:=i) (by rw[CB hiR];exact hrow7);replace hRV:=hRV.set (i:=i) (u:=.slice a7 (k9 x4 x5 (-y4)).length c7) rfl (dY.cG (cP.l hx7 fun q hq=>by have:=hb7 q hq;omega) fun g hg=>Cv.false hg);rw[hnew]at hRV;clear hx7;conv=>whnf
      refine⟨by simp[hrl],⟨by omega,by omega⟩,?_⟩;conv=>whnf
      refine⟨by simp[hrl];omega,rv.set i (.slice a7 (k9 x4 x5 (-y4)).length c7),by rw[aC,aR];exact fG (by omega),?_⟩;conv=>whnf
      refine⟨((i+1:Nat):Int),by rw[wrap64]<;>omega,?_⟩;conv=>whnf
      intro ρ3 w3 r3;exact⟨(i+1,rv.set i (.slice a7 (k9 x4 x5 (-y4)).length c7),w3,_),⟨hiR,hw.tr r3.cC,by dsimp only;rw[show i+1=i+1 from rfl];exact hRV.rel r3 hS⟩,Sub.gen [] r3 ⟨rfl,rfl,trivial⟩ ⟨rfl,rfl,rfl,rfl,rfl,rfl,trivial⟩ (by simp[dG,cW.scopd,At.sc]) (by simp[cV,SV.sc,At.sc]) (by rfl) (fun lo hi h=>h),by dsimp only;omega⟩
     have hs4:y4=0:=oY.1 (by simpa using hs4);clear hux4 hux5;conv=>whnf
     refine⟨((i+1:Nat):Int),by rw[wrap64]<;>omega,?_⟩;conv=>whnf
     intro ρ3 w3 r3;exact⟨(i+1,rv,w3,_),⟨hiR,hw.tr r3.cC,by dsimp only;rw[AA hx4 (by rw[hy4d,hs4])];exact hRV.rel r3 hS⟩,Sub.gen [] r3 ⟨rfl,rfl,trivial⟩ ⟨rfl,rfl,rfl,rfl,rfl,rfl,trivial⟩ (by simp[dG,cW.scopd,At.sc]) (by simp[cV,SV.sc,At.sc]) (by rfl) (fun lo hi h=>h),by dsimp only;omega⟩
    have hir1:(i:Int)=pv.length:=by simpa using hir
    have hir:i=pv.length:=by omega
    conv=>whnf
    refine⟨((i+1:Nat):Int),by rw[wrap64]<;>omega,?_⟩;conv=>whnf
    intro ρ3 w3 r3;exact⟨(i+1,rv,w3,_),⟨hiR,hw.tr r3.cC,by dsimp only;rw[show dO M3 pv.length c (i+1)=dO M3 pv.length c i by rw[hir,<-AH]];exact hRV.rel r3 hS⟩,Sub.gen [] r3 ⟨rfl,rfl,trivial⟩ ⟨rfl,rfl,rfl,rfl,rfl,rfl,trivial⟩ (by simp[dG,cW.scopd,At.sc]) (by simp[cV,SV.sc,At.sc]) (by rfl) (fun lo hi h=>h),by dsimp only;omega⟩
   have hiR:i=M.length:=by have:=aH hiR;omega
   subst hiR;conv=>whnf
   refine .inl ?_;conv=>whnf
   refine⟨by simp,by omega,by unfold maxLen;omega,?_⟩;conv=>whnf
   have hpm:(pv++[c]).map (fun c:Nat=>Value.int .i64 (c:Int))=pv.map (fun c:Nat=>Value.int .i64 (c:Int))++[.int .i64 (c:Int)]:=by simp
   rw[hI1]at hstep;refine⟨((c+1:Nat):Int),by rw[wrap64]<;>omega,?_⟩;conv=>whnf
   intro ρ3 w3 r3;have hs:dP (M1,pv) c=((dO M3 pv.length c M.length),(pv++[c])):=hstep;have hf2:((dO M3 pv.length c M.length),(pv++[c]))=(List.range (c+1)).foldl dP (M,[]):=by rw[bH,List.foldl_append,<-hfold];exact hs.symm
   have hi2:(dP (M1,pv) c).1.length=M.length∧(dP (M1,pv) c).2.length<=M.length:=by
    have h5:=(eC hlen (c+1) (by omega)).2.1;have h6:=eK M (c+1);rw[show cJ M (c+1)=dP (M1,pv) c by unfold cJ;rw[bH,List.foldl_append,<-hfold];rfl]at h5 h6;omega
   have hl2:=fk.step (s:=(M1,pv)) (c:=c) hLen;rw[hs]at hi2 hl2;exact⟨(c+1,rv,(dO M3 pv.length c M.length),(pv++[c]),w3,_),⟨hib,hf2,hl2,hi2,hw.tr r3.cC,hRV.rel r3 hS⟩,Sub.gen [(1,3)] r3 ⟨by dsimp only;rw[hpm];rfl,rfl,trivial⟩ ⟨rfl,rfl,by dsimp only;rw[List.length_append,List.length_singleton];rfl,rfl,trivial⟩ (by simp[dG,cW.scopd,At.sc]) (by simp[cV,SV.sc,At.sc]) (by rfl) (fun lo hi h=>h),by dsimp only;omega⟩
  have hkb:k=M.length:=by have:=aH hkb;omega
  conv=>whnf
  refine⟨by rw[hrl,aS,aR],?_⟩;conv=>whnf
  refine dE.mk (fun _=>?_) (fun hge=>absurd (aH hge) (by omega));conv=>whnf
  refine⟨((c+1:Nat):Int),by rw[wrap64]<;>omega,?_⟩;conv=>whnf
  intro ρ3 w3 r3;have hs:dP (M1,pv) c=(M1,pv):=EP hk0 (by show k=M1.length;omega) hkz;have hf2:(M1,pv)=(List.range (c+1)).foldl dP (M,[]):=by rw[bH,List.foldl_append,<-hfold];exact hs.symm
  have hi2:(dP (M1,pv) c).1.length=M.length∧(dP (M1,pv) c).2.length<=M.length:=by
   have h5:=(eC hlen (c+1) (by omega)).2.1;have h6:=eK M (c+1);rw[show cJ M (c+1)=dP (M1,pv) c by unfold cJ;rw[bH,List.foldl_append,<-hfold];rfl]at h5 h6;omega
  have hl2:=fk.step (s:=(M1,pv)) (c:=c) hLen;rw[hs]at hi2 hl2;exact⟨(c+1,rv,M1,pv,w3,_),⟨hib,hf2,hl2,hi2,hw.tr r3.cC,hRV.rel r3 hS⟩,Sub.gen [] r3 ⟨rfl,rfl,trivial⟩ ⟨rfl,rfl,rfl,rfl,trivial⟩ (by simp[dG,cW.scopd,At.sc]) (by simp[cV,SV.sc,At.sc]) (by rfl) (fun lo hi h=>h),by dsimp only;omega⟩
 have hib:c=cols:=aP hc (by simpa using hib);subst hib;have hred:cJ M c=(M1,pv):=hfold.symm;rw[hred];conv=>whnf
 intro ρe we re;refine⟨_,rfl,hw.tr re.cC,_,_,rfl,⟨rv,?_,hRV.1,fun i u x h1 h2=>dY.out (hRV.2.2 i u x h1 h2) re hS⟩,?_⟩
 ·have:=re.gR (id:=0) (sz:=1) (m:=M.length) rfl (by rw[hrl,aR]) (by unfold maxLen;omega) (by decide) hRV.2.1;rw[show (M1,pv).1.length=M.length from hI1];exact this.cG fun g hg=>.inr hg
 ·have:=re.gR (id:=1) (sz:=1) (m:=pv.length) rfl (by simp) (by unfold maxLen;omega) (by decide) (fun u hu=>by
   obtain⟨_,_,rfl⟩:=aU.1 hu
   rfl)
  exact this.cG fun g hg=>.inr hg
end Go.Ex
