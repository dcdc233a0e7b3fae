/- A part of the proof: texts X134 to X135. Each tells its conditions in its theorems. -/
import Derived.Test.YtkdcaknoaeicdaaGreatP9
namespace Go.Ex
open Go Go.Sx Go.Proofs
theorem D3{α:Type}(a b:α){i c:Nat}(h:i<c):(List.replicate i a++List.replicate (c-i) b).take i++[a]++(List.replicate i a++List.replicate (c-i) b).drop (i+1)=List.replicate (i+1) a++List.replicate (c-(i+1)) b:=by
 rw[List.take_left' (bR ..),List.drop_append,bR,List.drop_of_length_le (by rw[bR];omega),List.nil_append,List.drop_replicate,List.replicate_succ'];congr 2;omega
def lO(w:World)(C S:Nat->Prop)(v:Value)(M:List (List Rat)):Prop:=∃rv,gw w C 1 v rv M.length∧rv.length=M.length∧∀(i:Nat) u x,rv[i]? =some u->M[i]? =some x->cB w S u x
theorem lO.shape{w:World}{C S:Nat->Prop}{v:Value}{M:List (List Rat)}(h:lO w C S v M):∃a c,v= .slice a M.length c∧M.length<=c∧M.length<=maxLen:=by
 obtain⟨rv,⟨h0,_,_,a,c,h1,h2,_⟩,_⟩:=h;exact⟨a,c,h1,h2,h0⟩
theorem lO.load{w:World}{C S:Nat->Prop}{M:List (List Rat)}{a:Option Addr}{m c j:Nat}{x:List Rat}(h:lO w C S (.slice a m c) M)(hq:M[j]? =some x):
  ∃ad u,a=some ad∧cB w S u x∧C ad.block∧w.cell? (ad.add (j*1))=some u:=by
 obtain⟨rv,⟨h0,h1,h2,a',c',e,h3,h4⟩,hl,hf⟩:=h;injection e with e1 e2 e3;subst e1;obtain⟨u,hu⟩:∃u,rv[j]? =some u:=⟨_,aA (by rw[hl];exact(aE.1 hq).1)⟩
 obtain⟨ad,k1,k2,k3⟩:=h4 j u hu;exact⟨ad,u,k1,hf j u x hu hq,k2,by rw[aR];exact k3⟩
def EU:Option Nat->Value
 |none=>.int .i64 (-1)
 |some j=>.int .i64 (j:Int)
structure tG(M:List (List Rat))(cols h:Nat):Prop where
 rows:∀i,i<=M.length->∀r∈(iJ M cols i).1,∀q∈r,rl q+1<=h
 Ge:∀i,i<M.length->∀k,k<=cols->∀q∈fA (iJ M cols i).1 (iJ M cols i).2.1 (M.getD i []) k,rl q+1<=h
theorem vJ{E:List (List Rat)}{at_:List (Option Nat)}{row:List Rat}{k j:Nat}(h:at_[k]? =some (some j)):fA E at_ row (k+1)=mQ (fA E at_ row k) (E.getD j []) ((fA E at_ row k).getD k 0):=by
 rw[fA,show at_.getD k none=some j by rw[List.getD,h];rfl]
theorem Aq{E:List (List Rat)}{at_:List (Option Nat)}{row:List Rat}{k:Nat}(h:at_[k]? =some none):fA E at_ row (k+1)=fA E at_ row k:=by
 rw[fA,show at_.getD k none=none by rw[List.getD,h];rfl]
theorem D4{α:Type}{l:List α}(a b:α){j:Nat}(h:j<l.length):(l++[a]).set j b=l.set j b++[a]:=by rw[List.set_append,aQ h]
theorem Ar{M:List (List Rat)}{cols i:Nat}{E:List (List Rat)}{at_:List (Option Nat)}{fr:List Nat}{x y:List Rat}(hred:(E,at_,fr)=iJ M cols i)(hx:M.getD i []=x)(hy:fA E at_ x cols=y)(hp:Af y cols=cols):(E,at_,fr)=iJ M cols (i+1):=by
 rw[iJ,<-hred,hx,pV];simp only[hy,hp,if_true]
theorem As{M:List (List Rat)}{cols i p:Nat}{E:List (List Rat)}{at_:List (Option Nat)}{fr:List Nat}{x y:List Rat}(hred:(E,at_,fr)=iJ M cols i)(hx:M.getD i []=x)(hy:fA E at_ x cols=y)(hp:Af y cols=p)(hne:p≠cols):
  iJ M cols (i+1)=(fh E (y.map (· / y.getD p 0)) p E.length++[y.map (· / y.getD p 0)],at_.set p (some E.length),fr++[i]):=by
 rw[iJ,<-hred,hx,pV];simp only[hy,hp,aL hne]
theorem D5(q:Rat)(y:List Rat):fz y.length (fun _ r=>r / q) y=y.map (· / q):=by
 rw[xR];exact bN fun j=>by rw[List.getElem?_mapIdx,aN]
theorem Au{E:List (List Rat)}{u:List Rat}{p i:Nat}{r:List Rat}(h:E[i]? =some r)(h0:r.getD p 0=0):fh E u p (i+1)=fh E u p i:=by
 rw[uI h,h0,uG];refine bN fun j=>?_;by_cases hj:i=j
 ·subst hj;rw[aZ (by rw[fB];exact(aE.1 h).1),zW h]
 ·rw[ai hj]
def ij(rv:List Value)(at_:List (Option Nat)):Nat->List Value
 |0=>[]
 |k+1=>match at_.getD k none with
  |some r=>ij rv at_ k++[rv.getD r (.bool false)]
  |none=>ij rv at_ k
theorem jo{s:uH}{k:Nat}(h:s.2.1[k]? =some none):dV s (k+1)=dV s k:=by
 rw[dV,show s.2.1.getD k none=none by rw[List.getD,h];rfl]
theorem jq{s:uH}{k r:Nat}(h:s.2.1[k]? =some (some r)):dV s (k+1)=((dV s k).1++[s.1.getD r []],(dV s k).2.1++[k],(dV s k).2.2++[s.2.2.getD r 0]):=by
 rw[dV,show s.2.1.getD k none=some r by rw[List.getD,h];rfl]
theorem ow{rv:List Value}{at_:List (Option Nat)}{k:Nat}(h:at_[k]? =some none):ij rv at_ (k+1)=ij rv at_ k:=by
 rw[ij,show at_.getD k none=none by rw[List.getD,h];rfl]
theorem ox{rv:List Value}{at_:List (Option Nat)}{k r:Nat}(h:at_[k]? =some (some r)):ij rv at_ (k+1)=ij rv at_ k++[rv.getD r (.bool false)]:=by
 rw[ij,show at_.getD k none=some r by rw[List.getD,h];rfl]
theorem qR(s:uH)(rv:List Value):∀k,k<=s.2.1.length->(dV s k).1.length=(dV s k).2.1.length∧(dV s k).2.2.length=(dV s k).2.1.length∧(ij rv s.2.1 k).length=(dV s k).2.1.length∧(dV s k).2.1.length<=k
 |0,_=>⟨rfl,rfl,rfl,aI _⟩
 |k+1,hk=>by
  have ih:=qR s rv k (by omega);obtain⟨o,ho⟩:∃o,s.2.1[k]? =some o:=⟨_,aA (by omega)⟩
  cases o with
  |none=>rw[jo ho,ow ho];exact⟨ih.1,ih.2.1,ih.2.2.1,by have:=ih.2.2.2;omega⟩
  |some r=>rw[jq ho,ox ho];simp only[List.length_append,List.length_singleton];omega
theorem vK{E:List (List Rat)}{at_:List (Option Nat)}{fr:List Nat}{rv:List Value}(hl:rv.length=E.length)(hlt:∀(k r:Nat),at_[k]? =some (some r)->r<E.length):∀k,k<=at_.length->∀(i:Nat) u x,(ij rv at_ k)[i]? =some u->(dV (E,at_,fr) k).1[i]? =some x->∃r:Nat,rv[r]? =some u∧E[r]? =some x
 |0,_,i,u,x,h,_=>by cases h
 |k+1,hk,i,u,x,h1,h2=>by
  have ih:=vK (fr:=fr) hl hlt k (by omega) i u x;obtain⟨o,ho⟩:∃o,at_[k]? =some o:=⟨_,aA (by omega)⟩
  cases o with
  |none=>
   rw[ow ho]at h1;rw[jo (s:=(E,at_,fr)) ho]at h2;exact ih h1 h2
  |some r=>
   have hr:=hlt k r ho;rw[ox ho]at h1;rw[jq (s:=(E,at_,fr)) ho]at h2;obtain⟨q1,q2,q3,q4⟩:=qR (E,at_,fr) rv k (by dsimp only;omega);dsimp only at q1 q2 q3 q4 h2;rcases bA i (ij rv at_ k).length with hi|hi
   ·rw[aJ hi]at h1;rw[aJ (by omega)]at h2;exact ih h1 h2
   ·have hi0:i=(ij rv at_ k).length:=by have:=(aE.1 h1).1;simp at this;omega
    rw[hi0,aT (aI _),bP]at h1;rw[hi0,q3,<-q1,aT (aI _),bP]at h2;simp only[List.getElem?_cons_zero,Option.some.injEq]at h1 h2;refine⟨r,?_,?_⟩
    ·rw[<-h1,List.getD,aA (by omega)];rfl
    ·rw[<-h2,List.getD,aA hr];rfl
theorem zm{α:Type}(l:List α)(a b:α):(l++[a]).set l.length b=l++[b]:=by simp
section
variable{S S':Nat->Prop}{H:Hp}{nx:Nat}{iv iv':Iv}{B:Nat}{w w' w2:World}{ρ:Nat->Sx.dN}{rv:List Value}{v:Value}{q:Rat}
theorem cH.zn(h:cH w (Lr S B iv rv) v q)(r:Rel H nx iv B w ρ w')(hS:∀g,S g->g<B):cH w' (Lr S B iv rv) v q:=h.bu fun _ hg=>Rel.same r hS hg.1
theorem cH.FH(h:cH w (Lr S B iv rv) v q)(r:Rel H nx iv B w ρ w')(hS:∀g,S g->g<B)(he:Ext w' w2)(hm:∀p,p∈iv->p∈iv'):cH w2 (Lr S B iv' rv) v q:=
 ((h.zn r hS).bu fun g hg=>he.block g (Rel.old r hS g hg.1)).bz fun _ hg=>⟨hg.1.mono hm,hg.2⟩
theorem Lr.old(r:Rel H nx iv B w ρ w')(hS:∀g,S g->g<B):Old (Lr S B iv rv) w':=fun g hg=>Rel.old r hS g hg.1
theorem cH.Gj{S0:Nat->Prop}{n:Nat}{M:List (List Rat)}(h:cH w2 (Nw (fun _=>False) w' w2) v q)(hM:jV w S B iv rv n M)(r:Rel H nx iv B w ρ w'):cH w2 (Lr S0 B ((w'.heap.size,w2.heap.size)::iv) rv) v q:=
 h.bz fun g hg=>by
  rcases hg with hg|hg
  ·exact hg.elim
  ·exact⟨.inr ⟨by have:=r.bm;omega,_,_,aH,hg.1,hg.2⟩,fun hm=>by have:=hM.lt r hm;omega⟩
end
set_option maxHeartbeats 2000000 in
theorem nS{C S:Nat->Prop}{w:World}{v:Value}{M:List (List Rat)}{n cols h:Nat}(hC:Old C w)(hS:Old S w)(hM:lO w C S v M)(hlen:qo n M)(hn0:0<n)(hn:n<=1000)(hR:M.length<=1000)(hcols:cols<=n)(hB:tG M cols h)(hh:3*h<=90000):
  dQ PG N.iL #[.agg #[v,.int .i64 n],.int .i64 cols] w (dU w fun v' w2=>∃vr vp vf,v'= .agg #[vr,.int .i64 n,vp,vf]∧cI w2 (Nw S w w2) vr (dF M cols).1∧dL w2 (Nw (fun _=>False) w w2) vp (dF M cols).2.1∧dL w2 (Nw (fun _=>False) w w2) vf (dF M cols).2.2):=by
 have hw:cF w.heap.size w w:=cF.refl;obtain⟨am,cm,rfl,hcm,hmm⟩:=lO.shape hM;unfold maxLen at hmm;refine kX (by simp) ?_;conv=>whnf
 refine⟨cols,cols,rfl,rfl,aI _,by omega,by omega,?_⟩;conv=>whnf
 refine⟨Nat×World,fun z=>⟨[(1,.o (.v (.int .i64 cols))),(2,.o (.p 0 0)),(4,.o (.p 1 0)),(5,.o (.p 2 0)),(6,.o (.s 3 0 cols cols)),(27,.o (.v (.int .i64 cols))),(28,.o (.v (.int .i64 ((z.1:Nat):Int))))],
   [(3,.arr T.int (List.replicate z.1 (.int .i64 (-1))++List.replicate (cols-z.1) (.int .i64 0))),(2,.box T.db [.v (.slice none 0 0),.v (.int .i64 n),.v (.slice none 0 0),.v (.slice none 0 0)]),(1,.box T.db [.v (.slice none 0 0),.v (.int .i64 0),.v (.slice none 0 0),.v (.slice none 0 0)]),(0,.box T.dW [.v (.slice am M.length cm),.v (.int .i64 n)])],4,[],z.2⟩,fun z=>cols-z.1,
  fun z=>z.1<=cols∧cF w.heap.size w z.2,?_,?_⟩
 ·intro ρ w' r;exact⟨(0,w'),⟨aO _,hw.tr r.bs⟩,Sub.gen [] r ⟨by simp;rfl,rfl,rfl,rfl,trivial⟩ ⟨rfl,rfl,rfl,rfl,rfl,rfl,rfl,trivial⟩ (by simp[cY,cN.scopd,At.sc]) (by simp[cO,SV.sc,At.sc]) (by rfl) (fun lo hi h=>h)⟩
 clear hw;rintro⟨i,w1⟩ ⟨hi,hw⟩;dsimp only at hi hw ⊢;conv=>whnf
 refine cW.mk (fun hib=>?_) (fun hib=>?_)
 ·have hib:i<cols:=by simpa using hib
  conv=>whnf
  refine⟨⟨by omega,by omega⟩,?_⟩;conv=>whnf
  refine⟨by simp;omega,List.replicate (i+1) (.int .i64 (-1))++List.replicate (cols-(i+1)) (.int .i64 0),?_,?_⟩
  ·rw[aB,aR,aP];exact D3 _ _ hib
  conv=>whnf
  refine⟨((i+1:Nat):Int),by rw[wrap64]<;>omega,?_⟩;conv=>whnf
  intro ρ3 w3 r3;exact⟨(i+1,w3),⟨hib,hw.tr r3.bs⟩,Sub.gen [] r3 ⟨rfl,rfl,rfl,rfl,trivial⟩ ⟨rfl,rfl,rfl,rfl,rfl,rfl,rfl,trivial⟩ (by simp[cY,cN.scopd,At.sc]) (by simp[cO,SV.sc,At.sc]) (by rfl) (fun lo hi h=>h),by dsimp only;omega⟩
 have hib:i=cols:=aM hi (by simpa using hib);rw[hib];clear hib hi;conv=>whnf
 refine⟨Nat×List Value×List (List Rat)×List (Option Nat)×List Nat×World×Iv,fun z=>⟨[(38,.o (.v (.int .i64 ((z.1:Nat):Int)))),(1,.o (.v (.int .i64 cols))),(2,.o (.p 0 0)),(4,.o (.p 1 0)),(5,.o (.p 2 0)),(6,.o (.s 3 0 cols cols)),(36,.o (.v (.slice am M.length cm))),(37,.o (.v (.int .i64 M.length)))],[(2,.box T.db [.w 4 z.2.1.length,.v (.int .i64 n),.v (.slice none 0 0),.w 5 z.2.2.2.2.1.length]),(5,.vec T.int 1 (z.2.2.2.2.1.map fun c:Nat=>.int .i64 (c:Int))),(4,.vec T.gX 1 z.2.1),(0,.box T.dW [.v (.slice am M.length cm),.v (.int .i64 n)]),(1,.box T.db [.v (.slice none 0 0),.v (.int .i64 0),.v (.slice none 0 0),.v (.slice none 0 0)]),(3,.arr T.int (z.2.2.2.1.map EU))],6,z.2.2.2.2.2.2,z.2.2.2.2.2.1⟩,fun z=>M.length-z.1,
  fun z=>z.1<=M.length∧(z.2.2.1,z.2.2.2.1,z.2.2.2.2.1)=iJ M cols z.1∧cF w.heap.size w z.2.2.2.2.2.1∧jV z.2.2.2.2.2.1 S w.heap.size z.2.2.2.2.2.2 z.2.1 n z.2.2.1,?_,?_⟩
 ·intro ρ w' r
  exact⟨(0,[],[],List.replicate cols none,[],w',[]),⟨aO _,rfl,hw.tr r.bs,jV.nil⟩,Sub.yT 2 0 T.gX 1 rfl rfl (by simp[cO,SV.sc,At.sc]) r fun ρ1 r1=>Sub.yT 2 3 T.int 1 rfl rfl (by simp[cO,SV.sc,At.sc]) r1 fun ρ2 r2=>
   Sub.gen [] r2 ⟨rfl,rfl,rfl,rfl,rfl,by simp[EU];rfl,trivial⟩ ⟨rfl,rfl,rfl,rfl,rfl,rfl,rfl,rfl,trivial⟩ (by simp[cY,cN.scopd,At.sc]) (by simp[cO,SV.sc,At.sc]) (by rfl) (fun lo hi h=>h)⟩
 clear hw;rintro⟨i,rv,E,at_,fr,w1,iv⟩ ⟨hi,hred,hw,hE⟩;dsimp only at hi hred hw hE ⊢;conv=>whnf
 have hok:=uJ cols hlen i hi;rw[<-hred]at hok;have hatl:at_.length=cols:=hok.at_;have hfrl:fr.length=E.length:=hok.qh;have hEi:E.length<=i:=hok.le;have hrl:rv.length=E.length:=hE.len;have hEb:∀r∈E,∀q∈r,rl q+1<=h:=by have:=hB.rows i hi;rwa [<-hred]at this
 refine cW.mk (fun hib=>?_) (fun hib=>?_)
 ·have hib:i<M.length:=by simpa using hib
  obtain⟨x,hx⟩:∃r,M[i]? =some r:=⟨_,aA hib⟩
  have hxl:=hlen x (aD hx);have hxd:M.getD i []=x:=by rw[List.getD,hx];rfl
  have hcb:∀k,k<=cols->∀q∈fA E at_ x k,rl q+1<=h:=by have:=hB.Ge i hib;rwa [<-hred,hxd]at this
  have hcll:∀k,(fA E at_ x k).length=n:=fun k=>by rw[iw,hxl]
  obtain⟨adm,um,ham,hRm,km1,km2⟩:=lO.load hM hx;obtain⟨css,⟨-,g1,g2,a0,c0,rfl,g4,g5⟩,hcl,hc4,hcs⟩:=hRm;have hfl:=eH hc4;conv=>whnf
  refine⟨adm,ham,⟨by omega,by omega⟩,?_⟩;conv=>whnf
  refine⟨.slice a0 x.length c0,fun ρ w' r=>?_,?_⟩
  ·rw[aB,bo (w:=w) (w2:=w') (by rw[cC];exact(hw.tr r.bs).block _ (hC _ km1))];exact km2
  conv=>whnf
  refine .inl ?_;conv=>whnf
  refine⟨css.flatten,g1,g2,fun ρ w' r hpos=>?_,?_⟩
  ·obtain⟨u0,hu0⟩:∃u,css.flatten[0]? =some u:=⟨_,aA (by omega)⟩
   obtain⟨ad,ha,_,_⟩:=g5 0 u0 hu0;refine⟨ad,ha,fun j u hj=>?_⟩;obtain⟨ad2,ha2,q1,q2⟩:=g5 j u hj;rw[ha]at ha2;injection ha2 with ha2;subst ha2;rw[bo (w:=w) (w2:=w') (by rw[cC];exact(hw.tr r.bs).block _ (hS _ q1))];exact q2
  conv=>whnf
  refine⟨rfl,by omega,by unfold maxLen;omega,?_⟩;conv=>whnf
  rw[aP x.length,hxl]
  refine⟨Nat×Nat×Nat×World×Iv,fun z=>⟨[(9,.o (.v (.slice (some ⟨z.2.1,0,none⟩) n z.2.2.1))),(46,.o (.v (.int .i64 cols))),(47,.o (.v (.int .i64 ((z.1:Nat):Int)))),(2,.o (.p 0 0)),(4,.o (.p 1 0)),(5,.o (.p 2 0)),(6,.o (.s 3 0 cols cols)),(8,.o (.v (.int .i64 ((i:Nat):Int)))),(36,.o (.v (.slice am M.length cm))),(37,.o (.v (.int .i64 M.length))),(38,.o (.v (.int .i64 ((i:Nat):Int)))),(1,.o (.v (.int .i64 cols)))],[(2,.box T.db [.w 4 rv.length,.v (.int .i64 n),.v (.slice none 0 0),.w 5 fr.length]),(5,.vec T.int 1 (fr.map fun c:Nat=>.int .i64 (c:Int))),(4,.vec T.gX 1 rv),(0,.box T.dW [.v (.slice am M.length cm),.v (.int .i64 n)]),(1,.box T.db [.v (.slice none 0 0),.v (.int .i64 0),.v (.slice none 0 0),.v (.slice none 0 0)]),(3,.arr T.int (at_.map EU))],8,z.2.2.2.2,z.2.2.2.1⟩,fun z=>cols-z.1,
   fun z=>z.1<=cols∧cF w.heap.size w z.2.2.2.1∧jV z.2.2.2.1 S w.heap.size z.2.2.2.2 (rv++[.slice (some ⟨z.2.1,0,none⟩) n z.2.2.1]) n (E++[fA E at_ x z.1]),?_,?_⟩
  ·intro ρ w' r;have hv:=GQ (S:=S) (m:=n) (qs:=x) (css:=css) r (id:=7) rfl (by omega) hn0 (by unfold maxLen;omega) ⟨hcl,fun j cs q k1 k2=>(hcs j cs q k1 k2).bu fun g hg=>(hw.tr r.bs).block g (hS g hg)⟩
   exact⟨(0,(ρ 7).g,(ρ 7).cap,w',((ρ 7).g,(ρ 7).g+1)::iv),⟨aO _,hw.tr r.bs,(hE.rel r hS).push (fun g hg e=>Rel.not r hS hg 7 _ rfl hv.1 e.symm) hv.2.1 hv.2.2.2 hS⟩,
    Sub.GP r (id:=7) (t:=9) (cs:=css.flatten) rfl hv.1 rfl ⟨rfl,rfl,rfl,rfl,rfl,rfl,trivial⟩ rfl ⟨rfl,rfl,rfl,rfl,rfl,rfl,rfl,rfl,rfl,rfl,rfl,trivial⟩ (by simp[cO,SV.sc,At.sc])⟩
  clear hw hE g4 g5 hcs;rintro⟨k,gx,cx,w2,iv⟩ ⟨hk,hw,hE⟩;dsimp only at hk hw hE ⊢;conv=>whnf
  refine cW.mk (fun hkb=>?_) (fun hkb=>?_)
  ·have hkb:k<cols:=by simpa using hkb
   obtain⟨o,ho⟩:∃o,at_[k]? =some o:=⟨_,aA (by omega)⟩
   conv=>whnf
   refine⟨⟨by omega,by omega⟩,?_⟩;conv=>whnf
   refine⟨EU o,by rw[aB,aR,aP,aN,ho];rfl,?_⟩
   cases o with
   |none=>
    conv=>whnf
    refine⟨((k+1:Nat):Int),by rw[wrap64]<;>omega,?_⟩;conv=>whnf
    intro ρ3 w3 r3;exact⟨(k+1,gx,cx,w3,_),⟨hkb,hw.tr r3.bs,by dsimp only;rw[Aq ho];exact hE.rel r3 hS⟩,Sub.gen [] r3 ⟨rfl,rfl,rfl,rfl,rfl,rfl,trivial⟩ ⟨rfl,rfl,rfl,rfl,rfl,rfl,rfl,rfl,rfl,rfl,rfl,rfl,trivial⟩ (by simp[cY,cN.scopd,At.sc]) (by simp[cO,SV.sc,At.sc]) (by rfl) (fun lo hi h=>h),by dsimp only;omega⟩
   |some j=>
    have hj:j<E.length:=hok.lt k j ho;conv=>whnf
    have hq:∃q,(fA E at_ x k)[k]? =some q:=⟨_,aA (by rw[hcll];omega)⟩
    obtain⟨q,hq⟩:=hq;have hqd:(fA E at_ x k).getD k 0=q:=by rw[List.getD,hq];rfl
    have hql:=hcb k hk q (aD hq);have hvr:(rv++[.slice (some ⟨gx,0,none⟩) n cx])[rv.length]? =some (.slice (some ⟨gx,0,none⟩) n cx):=by simp
    have hxr:(E++[fA E at_ x k])[rv.length]? =some (fA E at_ x k):=by rw[hrl];simp
    obtain⟨ad,cs,had,hF,hl⟩:=hE.load hvr hxr hq;obtain⟨f0,f1,f2,f3,f4,f5,f6,f7,rfl,hF⟩:=hF;refine⟨ad,had,⟨by omega,by omega⟩,?_⟩;conv=>whnf
    refine⟨[.bool f0,.slice f1 f2 f3,.bool f4,.slice f5 f6 f7],rfl,fun ρ w' r t u hu=>?_,?_⟩
    ·obtain⟨k1,k2⟩:=hl t u hu;rw[aB,bo (w:=w2) (w2:=w') (by rw[cC,cC];exact Rel.same r (fQ _) k1)];exact k2
    conv=>whnf
    refine bp (cE hw (Φ:=fun _ w' v w2=>∃d,v= .bool d∧(d=true↔q=0)) (fun ρ w' r=>jn (Lr.old r hS) ((hF.zn r hS).l (by omega))) ?_);rintro ρ wa1 v1 wb1 iv1 r he hw h_ ⟨d,rfl,hz⟩;replace hE:=hE.bq r hS he (mC h_);replace hF:=hF.FH r hS he (mC h_);clear r;clear hl hF
    cases d
    ·conv=>whnf
     have hq0:q≠0:=fun e=>by have:=hz.2 e;cases this
     obtain⟨vj,hvj⟩:∃v,rv[j]? =some v:=⟨_,aA (by omega)⟩
     have hvj2:(rv++[.slice (some ⟨gx,0,none⟩) n cx])[j]? =some vj:=by rw[aJ (by omega)];exact hvj
     obtain⟨ej,hej⟩:∃v,E[j]? =some v:=⟨_,aA hj⟩
     have hej2:(E++[fA E at_ x k])[j]? =some ej:=by rw[aJ hj];exact hej
     have hejd:E.getD j []=ej:=by rw[List.getD,hej];rfl
     obtain⟨aj,cj,rfl⟩:=hE.form hvj2;obtain⟨ad,cs,had,hF,hl⟩:=hE.load hvr hxr hq;obtain⟨f0,f1,f2,f3,f4,f5,f6,f7,rfl,hF⟩:=hF;refine bw hτ dH [.x 0,.x 1,.x 2,.x 3,.x 4,.x 5,.x 6,.x 7,.x 8,.x 9,.x 10,.x 11] (by kernel_rfl) (by kernel_rfl) ?_;conv=>whnf
     refine⟨by simp,⟨by omega,by omega⟩,?_⟩;conv=>whnf
     refine⟨.slice aj n cj,by simpa using hvj,?_⟩;conv=>whnf
     refine⟨ad,had,⟨by omega,by omega⟩,?_⟩;conv=>whnf
     refine⟨[.bool f0,.slice f1 f2 f3,.bool f4,.slice f5 f6 f7],rfl,fun ρ w' r t u hu=>?_,?_⟩
     ·obtain⟨k1,k2⟩:=hl t u hu;rw[aB,bo (w:=wb1) (w2:=w') (by rw[cC,cC];exact Rel.same r (fQ _) k1)];exact k2
     conv=>whnf
     refine⟨fun ρ w' r=>?_⟩;refine(hE.yN r hS (i:=rv.length) (j:=j) (h:=h) (by omega) hvr hvj2 hxr hej2 (hF.l (by omega)) (fun y hy=>hcb k hk y hy) (fun y hy=>hEb ej (aD hej) y hy) hql hh).mono fun e w8 he=>?_;obtain⟨rfl,hgr,hmi,hE2⟩:=he;have hw2:=(hw.tr r.bs).tr (hE.bs r hgr hmi);refine⟨.tuple #[],_,(w'.heap.size,w8.heap.size)::iv1,rfl,r.zo (fun x hx=>Rel.not r (fQ _) (hE.new x (hmi x hx))) hgr,?_⟩;have hnext:(E++[fA E at_ x k]).set rv.length (mQ (fA E at_ x k) ej q)=E++[fA E at_ x (k+1)]:=by rw[hrl,zm,vJ ho,hejd,hqd]
     rw[hnext]at hE2;clear hE hw hgr hmi r hF hl;generalize (w'.heap.size,w8.heap.size)::iv1=iv9 at*
     conv=>whnf
     refine⟨((k+1:Nat):Int),by rw[wrap64]<;>omega,?_⟩;conv=>whnf
     intro ρ3 w3 r3;exact⟨(k+1,gx,cx,w3,_),⟨hkb,hw2.tr r3.bs,hE2.rel r3 hS⟩,Sub.gen [] r3 ⟨rfl,rfl,rfl,rfl,rfl,rfl,trivial⟩ ⟨rfl,rfl,rfl,rfl,rfl,rfl,rfl,rfl,rfl,rfl,rfl,rfl,trivial⟩ (by simp[cY,cN.scopd,At.sc]) (by simp[cO,SV.sc,At.sc]) (by rfl) (fun lo hi h=>h),by dsimp only;omega⟩
    ·have hq0:q=0:=hz.1 rfl;conv=>whnf
     refine⟨((k+1:Nat):Int),by rw[wrap64]<;>omega,?_⟩;conv=>whnf
     intro ρ3 w3 r3;exact⟨(k+1,gx,cx,w3,_),⟨hkb,hw.tr r3.bs,by dsimp only;rw[vJ ho,hqd,hq0,uG];exact hE.rel r3 hS⟩,Sub.gen [] r3 ⟨rfl,rfl,rfl,rfl,rfl,rfl,trivial⟩ ⟨rfl,rfl,rfl,rfl,rfl,rfl,rfl,rfl,rfl,rfl,rfl,rfl,trivial⟩ (by simp[cY,cN.scopd,At.sc]) (by simp[cO,SV.sc,At.sc]) (by rfl) (fun lo hi h=>h),by dsimp only;omega⟩
  have hkb:k=cols:=aM hk (by simpa using hkb);rw[hkb]at hE;clear hkb hk;obtain⟨y,hy⟩:∃y,fA E at_ x cols=y:=⟨_,rfl⟩
  have hyl:y.length=n:=by rw[<-hy];exact hcll cols
  have hyb:∀q∈y,rl q+1<=h:=by rw[<-hy];exact hcb cols (aI _)
  rw[hy]at hE;conv=>whnf
  have hvr:(rv++[.slice (some ⟨gx,0,none⟩) n cx])[rv.length]? =some (.slice (some ⟨gx,0,none⟩) n cx):=by simp
  refine⟨Nat×World×Iv,fun z=>⟨[(9,.o (.v (.slice (some ⟨gx,0,none⟩) n cx))),(12,.o (.v (.int .i64 ((z.1:Nat):Int)))),(2,.o (.p 0 0)),(4,.o (.p 1 0)),(5,.o (.p 2 0)),(6,.o (.s 3 0 cols cols)),(8,.o (.v (.int .i64 ((i:Nat):Int)))),(36,.o (.v (.slice am M.length cm))),(37,.o (.v (.int .i64 M.length))),(38,.o (.v (.int .i64 ((i:Nat):Int)))),(1,.o (.v (.int .i64 cols)))],[(2,.box T.db [.w 4 rv.length,.v (.int .i64 n),.v (.slice none 0 0),.w 5 fr.length]),(5,.vec T.int 1 (fr.map fun c:Nat=>.int .i64 (c:Int))),(4,.vec T.gX 1 rv),(0,.box T.dW [.v (.slice am M.length cm),.v (.int .i64 n)]),(1,.box T.db [.v (.slice none 0 0),.v (.int .i64 0),.v (.slice none 0 0),.v (.slice none 0 0)]),(3,.arr T.int (at_.map EU))],8,z.2.2,z.2.1⟩,fun z=>cols-z.1,
   fun z=>z.1<=cols∧(∀t,t<z.1->y.getD t 0=0)∧cF w.heap.size w z.2.1∧jV z.2.1 S w.heap.size z.2.2 (rv++[.slice (some ⟨gx,0,none⟩) n cx]) n (E++[y]),?_,?_⟩
  ·intro ρ w' r3;exact⟨(0,w',_),⟨aO _,fun t ht=>absurd ht (bj t),hw.tr r3.bs,hE.rel r3 hS⟩,Sub.gen [] r3 ⟨rfl,rfl,rfl,rfl,rfl,rfl,trivial⟩ ⟨rfl,rfl,rfl,rfl,rfl,rfl,rfl,rfl,rfl,rfl,rfl,trivial⟩ (by simp[cY,cN.scopd,At.sc]) (by simp[cO,SV.sc,At.sc]) (by rfl) (fun lo hi h=>h)⟩
  clear hw hE;rintro⟨pv,w3,iv⟩ ⟨hp,hpz,hw,hE⟩;dsimp only at hp hpz hw hE ⊢;have hxr:(E++[y])[rv.length]? =some y:=by rw[hrl];simp
  conv=>whnf
  refine cW.mk (fun hpb=>?_) (fun hpb=>?_)
  ·have hpb:pv<cols:=by simpa using hpb
   obtain⟨q,hq⟩:∃q,y[pv]? =some q:=⟨_,aA (by omega)⟩
   have hqd:y.getD pv 0=q:=by rw[List.getD,hq];rfl
   have hql:=hyb q (aD hq);obtain⟨ad,cs,had,hF,hl⟩:=hE.load hvr hxr hq;obtain⟨f0,f1,f2,f3,f4,f5,f6,f7,rfl,hF⟩:=hF;conv=>whnf
   refine⟨ad,had,⟨by omega,by omega⟩,?_⟩;conv=>whnf
   refine⟨[.bool f0,.slice f1 f2 f3,.bool f4,.slice f5 f6 f7],rfl,fun ρ w' r t u hu=>?_,?_⟩
   ·obtain⟨k1,k2⟩:=hl t u hu;rw[aB,bo (w:=w3) (w2:=w') (by rw[cC,cC];exact Rel.same r (fQ _) k1)];exact k2
   conv=>whnf
   refine bp (cE hw (Φ:=fun _ w' v w2=>∃d,v= .bool d∧(d=true↔q=0)) (fun ρ w' r=>jn (Lr.old r hS) ((hF.zn r hS).l (by omega))) ?_);rintro ρ wa2 v2 wb2 iv2 r he hw h_ ⟨d,rfl,hz⟩;replace hE:=hE.bq r hS he (mC h_);clear r he;clear hl hF
   cases d
   ·have hq0:q≠0:=fun e=>by have:=hz.2 e;cases this
    conv=>whnf
    refine cW.mk (fun he=>?_) (fun he=>?_)
    ·have he:(pv:Int)=cols:=by simpa using he
     omega
    have hpiv:Af y cols=pv:=B5 hpz hp fun _=>by rw[hqd];exact hq0
    have hpush:=As hred hxd hy hpiv (by omega);rw[hqd]at hpush;obtain⟨u,hu⟩:∃u,y.map (· / q)=u:=⟨_,rfl⟩
    rw[hu]at hpush;have hul:u.length=n:=by rw[<-hu,aK,hyl]
    have hub:∀q∈u,rl q+1<=h:=by
     have:=hB.rows (i+1) hib u (by rw[hpush];simp);exact this
    obtain⟨ad,cs,had,hF,hl⟩:=hE.load hvr hxr hq;obtain⟨f0,f1,f2,f3,f4,f5,f6,f7,rfl,hF⟩:=hF;conv=>whnf
    refine⟨ad,had,⟨by omega,by omega⟩,?_⟩;conv=>whnf
    refine⟨[.bool f0,.slice f1 f2 f3,.bool f4,.slice f5 f6 f7],rfl,fun ρ w' r t u hu=>?_,?_⟩
    ·obtain⟨k1,k2⟩:=hl t u hu;rw[aB,bo (w:=wb2) (w2:=w') (by rw[cC,cC];exact Rel.same r (fQ _) k1)];exact k2
    conv=>whnf
    refine⟨Nat×World×Iv,fun z=>⟨[(9,.o (.v (.slice (some ⟨gx,0,none⟩) n cx))),(12,.o (.v (.int .i64 ((pv:Nat):Int)))),(13,.o (.p 8 0)),(97,.o (.v (.int .i64 n))),(98,.o (.v (.int .i64 ((z.1:Nat):Int)))),(2,.o (.p 0 0)),(4,.o (.p 1 0)),(5,.o (.p 2 0)),(6,.o (.s 3 0 cols cols)),(8,.o (.v (.int .i64 ((i:Nat):Int)))),(36,.o (.v (.slice am M.length cm))),(37,.o (.v (.int .i64 M.length))),(38,.o (.v (.int .i64 ((i:Nat):Int)))),(1,.o (.v (.int .i64 cols)))],[(8,.box T.Rat [.v (.bool f0),.v (.slice f1 f2 f3),.v (.bool f4),.v (.slice f5 f6 f7)]),(2,.box T.db [.w 4 rv.length,.v (.int .i64 n),.v (.slice none 0 0),.w 5 fr.length]),(5,.vec T.int 1 (fr.map fun c:Nat=>.int .i64 (c:Int))),(4,.vec T.gX 1 rv),(0,.box T.dW [.v (.slice am M.length cm),.v (.int .i64 n)]),(1,.box T.db [.v (.slice none 0 0),.v (.int .i64 0),.v (.slice none 0 0),.v (.slice none 0 0)]),(3,.arr T.int (at_.map EU))],9,z.2.2,z.2.1⟩,fun z=>n-z.1,
     fun z=>z.1<=n∧cF w.heap.size w z.2.1∧jV z.2.1 S w.heap.size z.2.2 (rv++[.slice (some ⟨gx,0,none⟩) n cx]) n (E++[fz z.1 (fun _ r=>r / q) y])∧cH z.2.1 (Lr S w.heap.size z.2.2 (rv++[.slice (some ⟨gx,0,none⟩) n cx])) (.agg #[.bool f0,.slice f1 f2 f3,.bool f4,.slice f5 f6 f7]) q,?_,?_⟩
    ·intro ρ w' r3;exact⟨(0,w',_),⟨aO _,hw.tr r3.bs,by dsimp only;rw[vI];exact hE.rel r3 hS,hF.zn r3 hS⟩,Sub.gen [] r3 ⟨rfl,rfl,rfl,rfl,rfl,rfl,rfl,trivial⟩ ⟨rfl,rfl,rfl,rfl,rfl,rfl,rfl,rfl,rfl,rfl,rfl,rfl,rfl,rfl,trivial⟩ (by simp[cY,cN.scopd,At.sc]) (by simp[cO,SV.sc,At.sc]) (by rfl) (fun lo hi h=>h)⟩
    clear hw hE hF hl had;rintro⟨k,w4,iv⟩ ⟨hk,hw,hE,hF⟩;dsimp only at hk hw hE hF ⊢;have hxr:(E++[fz k (fun _ r=>r / q) y])[rv.length]? =some (fz k (fun _ r=>r / q) y):=by rw[hrl];simp
    conv=>whnf
    refine cW.mk (fun hkb=>?_) (fun hkb=>?_)
    ·have hkb:k<n:=by simpa using hkb
     obtain⟨t,ht⟩:∃q,y[k]? =some q:=⟨_,aA (by omega)⟩
     have htl:=hyb t (aD ht);obtain⟨ad,cs,had,hG,hl⟩:=hE.load hvr hxr (zl ht);obtain⟨g0,g1,g2,g3,g4,g5,g6,g7,rfl,hG⟩:=hG;conv=>whnf
     refine bw hτ dH [.x 0,.x 1,.x 2,.x 3,.x 4,.x 5,.x 6,.x 7,.x 8,.x 9] (by kernel_rfl) (by kernel_rfl) ?_;conv=>whnf
     refine⟨ad,had,⟨by omega,by omega⟩,?_⟩;conv=>whnf
     refine⟨[.bool g0,.slice g1 g2 g3,.bool g4,.slice g5 g6 g7],rfl,fun ρ w' r t u hu=>?_,?_⟩
     ·obtain⟨k1,k2⟩:=hl t u hu;rw[aB,bo (w:=w4) (w2:=w') (by rw[cC,cC];exact Rel.same r (fQ _) k1)];exact k2
     conv=>whnf
     refine cA (Φ:=fun _ w' v w2=>cH w2 (Nw (fun _=>False) w' w2) v (t / q)) (fun ρ w' r=>Fe (Lr.old r hS) ((hG.zn r hS).l (by omega)) ((hF.zn r hS).l (by omega)) hq0) ?_;rintro ρ wa3 v3 wb3 r he hb hn2;replace hw:=hw.tr hb;have hd:=hn2.Gj (S0:=S) hE r;replace hE:=hE.bq (iv':=(wa3.heap.size,wb3.heap.size)::iv) r hS he fun x hx=>aC _ hx;replace hF:=hF.FH (iv':=(wa3.heap.size,wb3.heap.size)::iv) r hS he fun x hx=>aC _ hx;clear r he hb hn2 hG hl;generalize (wa3.heap.size,wb3.heap.size)::iv=iv3 at*
     obtain⟨s3_0,s3_1,s3_2,s3_3,s3_4,s3_5,s3_6,s3_7,rfl⟩:=hd.shape;conv=>whnf
     refine⟨⟨gx,0,none⟩,rfl,⟨by omega,by omega⟩,?_⟩;conv=>whnf
     intro ρ w' r;obtain⟨g,hg,h1,h2,h3,h4⟩:=hE.store r hS hvr hxr hkb hd;injection hg with hg;injection hg with hg;subst hg;refine⟨h1,h2,h3,fun w5 hw5=>?_⟩;obtain⟨k1,k2,k3,k4⟩:=h4 w5 hw5;have hw2:=(hw.tr r.bs).tr k2;have hF2:=hF.bu k4;have hnext:(E++[fz k (fun _ r=>r / q) y]).set rv.length ((fz k (fun _ r=>r / q) y).set k (t / q))=E++[fz (k+1) (fun _ r=>r / q) y]:=by rw[hrl,zm,<-ov ht]
     rw[hnext]at k1;clear hE hF hw h1 h2 h3 h4 hw5 k2 k3 k4 r hd;conv=>whnf
     refine⟨((k+1:Nat):Int),by rw[wrap64]<;>omega,?_⟩;conv=>whnf
     intro ρ3 w6 r3;exact⟨(k+1,w6,_),⟨hkb,hw2.tr r3.bs,k1.rel r3 hS,hF2.zn r3 hS⟩,Sub.gen [] r3 ⟨rfl,rfl,rfl,rfl,rfl,rfl,rfl,trivial⟩ ⟨rfl,rfl,rfl,rfl,rfl,rfl,rfl,rfl,rfl,rfl,rfl,rfl,rfl,rfl,trivial⟩ (by simp[cY,cN.scopd,At.sc]) (by simp[cO,SV.sc,At.sc]) (by rfl) (fun lo hi h=>h),by dsimp only;omega⟩
    have hkb:k=n:=aM hk (by simpa using hkb);rw[hkb,<-hyl,D5,hu,hyl]at hE;clear hkb hk hF hxr;conv=>whnf
    refine⟨by simp,?_⟩;conv=>whnf
    refine⟨Nat×World×Iv,fun z=>⟨[(9,.o (.v (.slice (some ⟨gx,0,none⟩) n cx))),(12,.o (.v (.int .i64 ((pv:Nat):Int)))),(113,.o (.w 4 rv.length)),(114,.o (.v (.int .i64 rv.length))),(115,.o (.v (.int .i64 ((z.1:Nat):Int)))),(2,.o (.p 0 0)),(4,.o (.p 1 0)),(5,.o (.p 2 0)),(6,.o (.s 3 0 cols cols)),(8,.o (.v (.int .i64 ((i:Nat):Int)))),(36,.o (.v (.slice am M.length cm))),(37,.o (.v (.int .i64 M.length))),(38,.o (.v (.int .i64 ((i:Nat):Int)))),(1,.o (.v (.int .i64 cols)))],[(2,.box T.db [.w 4 rv.length,.v (.int .i64 n),.v (.slice none 0 0),.w 5 fr.length]),(5,.vec T.int 1 (fr.map fun c:Nat=>.int .i64 (c:Int))),(4,.vec T.gX 1 rv),(0,.box T.dW [.v (.slice am M.length cm),.v (.int .i64 n)]),(1,.box T.db [.v (.slice none 0 0),.v (.int .i64 0),.v (.slice none 0 0),.v (.slice none 0 0)]),(3,.arr T.int (at_.map EU))],9,z.2.2,z.2.1⟩,fun z=>rv.length-z.1,
     fun z=>z.1<=rv.length∧cF w.heap.size w z.2.1∧jV z.2.1 S w.heap.size z.2.2 (rv++[.slice (some ⟨gx,0,none⟩) n cx]) n (fh E u pv z.1++[u]),?_,?_⟩
    ·intro ρ w' r3;exact⟨(0,w',_),⟨aO _,hw.tr r3.bs,by dsimp only;rw[Ag];exact hE.rel r3 hS⟩,Sub.gen [] r3 ⟨rfl,rfl,rfl,rfl,rfl,rfl,trivial⟩ ⟨rfl,rfl,rfl,rfl,rfl,rfl,rfl,rfl,rfl,rfl,rfl,rfl,rfl,rfl,trivial⟩ (by simp[cY,cN.scopd,At.sc]) (by simp[cO,SV.sc,At.sc]) (by rfl) (fun lo hi h=>h)⟩
    clear hw hE;rintro⟨j,w5,iv⟩ ⟨hj,hw,hE⟩;dsimp only at hj hw hE ⊢;conv=>whnf
    refine cW.mk (fun hjb=>?_) (fun hjb=>?_)
    ·have hjb:j<rv.length:=by simpa using hjb
     obtain⟨ej,hej⟩:∃v,E[j]? =some v:=⟨_,aA (by omega)⟩
     have hel:ej.length=n:=hok.len ej (aD hej);have heb:=hEb ej (aD hej);obtain⟨vj,hvj⟩:∃v,rv[j]? =some v:=⟨_,aA hjb⟩
     have hvj2:(rv++[.slice (some ⟨gx,0,none⟩) n cx])[j]? =some vj:=by rw[aJ hjb];exact hvj
     have hej2:(fh E u pv j++[u])[j]? =some ej:=by rw[aJ (by rw[fB];omega)];exact zW hej
     have hur:(fh E u pv j++[u])[rv.length]? =some u:=by rw[hrl,<-fB E u pv j];simp
     obtain⟨t,ht⟩:∃q,ej[pv]? =some q:=⟨_,aA (by omega)⟩
     have htd:ej.getD pv 0=t:=by rw[List.getD,ht];rfl
     have htl:=heb t (aD ht);obtain⟨aj,cj,rfl⟩:=hE.form hvj2;obtain⟨ad,cs,had,hG,hl⟩:=hE.load hvj2 hej2 ht;obtain⟨g0,g1,g2,g3,g4,g5,g6,g7,rfl,hG⟩:=hG;conv=>whnf
     refine⟨by simp,⟨by omega,by omega⟩,?_⟩;conv=>whnf
     refine⟨.slice aj n cj,by simpa using hvj,?_⟩;conv=>whnf
     refine⟨ad,had,⟨by omega,by omega⟩,?_⟩;conv=>whnf
     refine⟨[.bool g0,.slice g1 g2 g3,.bool g4,.slice g5 g6 g7],rfl,fun ρ w' r t u hu=>?_,?_⟩
     ·obtain⟨k1,k2⟩:=hl t u hu;rw[aB,bo (w:=w5) (w2:=w') (by rw[cC,cC];exact Rel.same r (fQ _) k1)];exact k2
     conv=>whnf
     refine bp (cE hw (Φ:=fun _ w' v w2=>∃d,v= .bool d∧(d=true↔t=0)) (fun ρ w' r=>jn (Lr.old r hS) ((hG.zn r hS).l (by omega))) ?_);rintro ρ wa4 v4 wb4 iv4 r he hw h_ ⟨d,rfl,hz⟩;replace hE:=hE.bq r hS he (mC h_);clear r he;clear hl hG
     cases d
     ·have ht0:t≠0:=fun e=>by have:=hz.2 e;cases this
      obtain⟨ad,cs,had,hG,hl⟩:=hE.load hvj2 hej2 ht;obtain⟨g0,g1,g2,g3,g4,g5,g6,g7,rfl,hG⟩:=hG;conv=>whnf
      refine⟨ad,had,⟨by omega,by omega⟩,?_⟩;conv=>whnf
      refine⟨[.bool g0,.slice g1 g2 g3,.bool g4,.slice g5 g6 g7],rfl,fun ρ w' r t u hu=>?_,?_⟩
      ·obtain⟨k1,k2⟩:=hl t u hu;rw[aB,bo (w:=wb4) (w2:=w') (by rw[cC,cC];exact Rel.same r (fQ _) k1)];exact k2
      conv=>whnf
      refine⟨fun ρ w' r=>?_⟩;refine(hE.yN r hS (i:=j) (j:=rv.length) (h:=h) (by omega) hvj2 hvr hej2 hur (hG.l (by omega)) heb hub htl hh).mono fun e w8 he=>?_;obtain⟨rfl,hgr,hmi,hE2⟩:=he;have hw2:=(hw.tr r.bs).tr (hE.bs r hgr hmi);refine⟨.tuple #[],_,(w'.heap.size,w8.heap.size)::iv4,rfl,r.zo (fun x hx=>Rel.not r (fQ _) (hE.new x (hmi x hx))) hgr,?_⟩;have hnext:(fh E u pv j++[u]).set j (mQ ej u t)=fh E u pv (j+1)++[u]:=by rw[D4 _ _ (by rw[fB];omega),uI hej,htd]
      rw[hnext]at hE2;clear hE hw hgr hmi r hG hl;generalize (w'.heap.size,w8.heap.size)::iv4=iv9 at*
      conv=>whnf
      refine⟨((j+1:Nat):Int),by rw[wrap64]<;>omega,?_⟩;conv=>whnf
      intro ρ3 w6 r3;exact⟨(j+1,w6,_),⟨hjb,hw2.tr r3.bs,hE2.rel r3 hS⟩,Sub.gen [] r3 ⟨rfl,rfl,rfl,rfl,rfl,rfl,trivial⟩ ⟨rfl,rfl,rfl,rfl,rfl,rfl,rfl,rfl,rfl,rfl,rfl,rfl,rfl,rfl,trivial⟩ (by simp[cY,cN.scopd,At.sc]) (by simp[cO,SV.sc,At.sc]) (by rfl) (fun lo hi h=>h),by dsimp only;omega⟩
     ·have ht0:t=0:=hz.1 rfl;conv=>whnf
      refine⟨((j+1:Nat):Int),by rw[wrap64]<;>omega,?_⟩;conv=>whnf
      intro ρ3 w6 r3;exact⟨(j+1,w6,_),⟨hjb,hw.tr r3.bs,by dsimp only;rw[Au hej (by rw[htd,ht0])];exact hE.rel r3 hS⟩,Sub.gen [] r3 ⟨rfl,rfl,rfl,rfl,rfl,rfl,trivial⟩ ⟨rfl,rfl,rfl,rfl,rfl,rfl,rfl,rfl,rfl,rfl,rfl,rfl,rfl,rfl,trivial⟩ (by simp[cY,cN.scopd,At.sc]) (by simp[cO,SV.sc,At.sc]) (by rfl) (fun lo hi h=>h),by dsimp only;omega⟩
    have hjb:j=E.length:=by have:=aM hj (by simpa using hjb);omega
    rw[hjb]at hE;clear hjb hj;conv=>whnf
    refine⟨by simp,?_⟩;conv=>whnf
    refine⟨⟨by omega,by omega⟩,?_⟩;conv=>whnf
    refine⟨by simp;omega,(at_.set pv (some rv.length)).map EU,?_,?_⟩
    ·rw[aB,aR,aP,List.map_set];exact iC (by simp;omega)
    conv=>whnf
    refine gA hτ dH (.x 0 (.x 1 (.x 3 (.x 6 (.x 8 (.ld 2 64544 (.ld 7 64512 (.two 4 (.two 5 (.x 11 (.x 12 (.x 9 (.x 10 (.x 13 (.x 14 (.x 15 .nil))))))) 9 (.x 5 (.x 11 (.x 12 (.x 10 (.x 13 (.x 14 (.x 15 .nil)))))))) 9 (.x 4 (.x 5 (.x 11 (.x 12 (.x 10 (.x 13 (.x 14 (.x 15 .nil)))))))))))))))) (by kernel_rfl) (by kernel_rfl) ?_;conv=>whnf
    refine⟨?_,?_⟩
    ·conv=>whnf
     refine⟨rfl,?_⟩;conv=>whnf
     refine⟨rfl,?_⟩;conv=>whnf
     refine⟨?_,?_⟩
     ·conv=>whnf
      refine .inl ?_;conv=>whnf
      refine⟨by simp,by omega,by unfold maxLen;omega,?_⟩;conv=>whnf
      refine⟨rfl,?_⟩;conv=>whnf
      refine⟨rfl,?_⟩;conv=>whnf
      refine .inl ?_;conv=>whnf
      refine⟨by simp,by omega,by unfold maxLen;omega,?_⟩;conv=>whnf
      refine⟨((i+1:Nat):Int),by rw[wrap64]<;>omega,?_⟩;conv=>whnf
      intro ρ3 w6 r3;exact⟨(i+1,rv++[.slice (some ⟨gx,0,none⟩) n cx],fh E u pv E.length++[u],at_.set pv (some E.length),fr++[i],w6,_),⟨hib,hpush.symm,hw.tr r3.bs,hE.rel r3 hS⟩,Sub.gen [(4,10),(5,12)] r3 ⟨by dsimp only;rw[List.length_append,List.length_append,List.length_singleton,List.length_singleton];rfl,by dsimp only;rw[List.map_append];rfl,rfl,rfl,rfl,by dsimp only;rw[<-hrl];rfl,trivial⟩ ⟨rfl,rfl,rfl,rfl,rfl,rfl,rfl,rfl,trivial⟩ (by simp[cY,cN.scopd,At.sc]) (by simp[cO,SV.sc,At.sc]) (by rfl) (fun lo hi h=>h),by dsimp only;omega⟩
     ·conv=>whnf
      refine⟨rfl,?_⟩;conv=>whnf
      refine⟨rfl,?_⟩;conv=>whnf
      refine .inl ?_;conv=>whnf
      refine⟨by simp,by omega,by unfold maxLen;omega,?_⟩;conv=>whnf
      refine⟨rfl,?_⟩;conv=>whnf
      refine .inl ?_;conv=>whnf
      refine⟨by simp,by omega,by unfold maxLen;omega,?_⟩;conv=>whnf
      refine⟨((i+1:Nat):Int),by rw[wrap64]<;>omega,?_⟩;conv=>whnf
      intro ρ3 w6 r3;exact⟨(i+1,rv++[.slice (some ⟨gx,0,none⟩) n cx],fh E u pv E.length++[u],at_.set pv (some E.length),fr++[i],w6,_),⟨hib,hpush.symm,hw.tr r3.bs,hE.rel r3 hS⟩,Sub.gen [(4,11),(5,12)] r3 ⟨by dsimp only;rw[List.length_append,List.length_append,List.length_singleton,List.length_singleton];rfl,by dsimp only;rw[List.map_append];rfl,rfl,rfl,rfl,by dsimp only;rw[<-hrl];rfl,trivial⟩ ⟨rfl,rfl,rfl,rfl,rfl,rfl,rfl,rfl,trivial⟩ (by simp[cY,cN.scopd,At.sc]) (by simp[cO,SV.sc,At.sc]) (by rfl) (fun lo hi h=>h),by dsimp only;omega⟩
    ·conv=>whnf
     refine⟨rfl,?_⟩;conv=>whnf
     refine⟨rfl,?_⟩;conv=>whnf
     refine⟨rfl,?_⟩;conv=>whnf
     refine⟨rfl,?_⟩;conv=>whnf
     refine .inl ?_;conv=>whnf
     refine⟨by simp,by omega,by unfold maxLen;omega,?_⟩;conv=>whnf
     refine⟨rfl,?_⟩;conv=>whnf
     refine .inl ?_;conv=>whnf
     refine⟨by simp,by omega,by unfold maxLen;omega,?_⟩;conv=>whnf
     refine⟨((i+1:Nat):Int),by rw[wrap64]<;>omega,?_⟩;conv=>whnf
     intro ρ3 w6 r3;exact⟨(i+1,rv++[.slice (some ⟨gx,0,none⟩) n cx],fh E u pv E.length++[u],at_.set pv (some E.length),fr++[i],w6,_),⟨hib,hpush.symm,hw.tr r3.bs,hE.rel r3 hS⟩,Sub.gen [(4,11),(5,12)] r3 ⟨by dsimp only;rw[List.length_append,List.length_append,List.length_singleton,List.length_singleton];rfl,by dsimp only;rw[List.map_append];rfl,rfl,rfl,rfl,by dsimp only;rw[<-hrl];rfl,trivial⟩ ⟨rfl,rfl,rfl,rfl,rfl,rfl,rfl,rfl,trivial⟩ (by simp[cY,cN.scopd,At.sc]) (by simp[cO,SV.sc,At.sc]) (by rfl) (fun lo hi h=>h),by dsimp only;omega⟩
   ·have hq0:q=0:=hz.1 rfl;conv=>whnf
    refine⟨((pv+1:Nat):Int),by rw[wrap64]<;>omega,?_⟩;conv=>whnf
    intro ρ3 w4 r3
    exact⟨(pv+1,w4,_),⟨hpb,fun t ht=>by
     by_cases htp:t=pv
     ·rw[htp,hqd,hq0]
     ·exact hpz t (by dsimp only at ht;omega),hw.tr r3.bs,hE.rel r3 hS⟩,Sub.gen [] r3 ⟨rfl,rfl,rfl,rfl,rfl,rfl,trivial⟩ ⟨rfl,rfl,rfl,rfl,rfl,rfl,rfl,rfl,rfl,rfl,rfl,trivial⟩ (by simp[cY,cN.scopd,At.sc]) (by simp[cO,SV.sc,At.sc]) (by rfl) (fun lo hi h=>h),by dsimp only;omega⟩
  have hpb:pv=cols:=aM hp (by simpa using hpb);have hpiv:Af y cols=cols:=B5 (k:=cols) (fun t ht=>hpz t (by omega)) (aI _) (fun h=>absurd h (Nat.lt_irrefl _));have hskip:=Ar hred hxd hy hpiv;conv=>whnf
  refine cW.mk (fun he=>?_) (fun he=>by rw[hpb]at he;simp at he);conv=>whnf
  refine⟨((i+1:Nat):Int),by rw[wrap64]<;>omega,?_⟩;conv=>whnf
  intro ρ3 w4 r3;exact⟨(i+1,rv,E,at_,fr,w4,_),⟨hib,hskip,hw.tr r3.bs,hE.drop.rel r3 hS⟩,Sub.gen [] r3 ⟨rfl,rfl,rfl,rfl,rfl,rfl,trivial⟩ ⟨rfl,rfl,rfl,rfl,rfl,rfl,rfl,rfl,trivial⟩ (by simp[cY,cN.scopd,At.sc]) (by simp[cO,SV.sc,At.sc]) (by rfl) (fun lo hi h=>h),by dsimp only;omega⟩
 have hib:i=M.length:=aM hi (by simpa using hib);subst hib;have hredS:dF M cols=dV (E,at_,fr) cols:=by rw[dF,<-hred]
 have hlt:∀(k r:Nat),at_[k]? =some (some r)->r<E.length:=hok.lt;have hsl:∀k,k<=cols->(dV (E,at_,fr) k).1.length=(dV (E,at_,fr) k).2.1.length∧(dV (E,at_,fr) k).2.2.length=(dV (E,at_,fr) k).2.1.length∧(ij rv at_ k).length=(dV (E,at_,fr) k).2.1.length∧(dV (E,at_,fr) k).2.1.length<=k:=fun k hk=>qR (E,at_,fr) rv k (by dsimp only;omega);conv=>whnf
 refine⟨Nat×World,fun z=>⟨[(4,.o (.p 1 0)),(5,.o (.p 2 0)),(17,.o (.p 6 0)),(159,.o (.s 3 0 cols cols)),(160,.o (.v (.int .i64 cols))),(161,.o (.v (.int .i64 ((z.1:Nat):Int))))],[(6,.box T.db [.w 7 (dV (E,at_,fr) z.1).2.1.length,.v (.int .i64 n),.w 8 (dV (E,at_,fr) z.1).2.1.length,.w 9 (dV (E,at_,fr) z.1).2.1.length]),(9,.vec T.int 1 ((dV (E,at_,fr) z.1).2.2.map fun c:Nat=>.int .i64 (c:Int))),(8,.vec T.int 1 ((dV (E,at_,fr) z.1).2.1.map fun c:Nat=>.int .i64 (c:Int))),(7,.vec T.gX 1 (ij rv at_ z.1)),(2,.box T.db [.w 4 rv.length,.v (.int .i64 n),.v (.slice none 0 0),.w 5 fr.length]),(5,.vec T.int 1 (fr.map fun c:Nat=>.int .i64 (c:Int))),(4,.vec T.gX 1 rv),(1,.box T.db [.v (.slice none 0 0),.v (.int .i64 0),.v (.slice none 0 0),.v (.slice none 0 0)]),(3,.arr T.int (at_.map EU))],10,iv,z.2⟩,fun z=>cols-z.1,
  fun z=>z.1<=cols∧cF w.heap.size w z.2∧jV z.2 S w.heap.size iv rv n E,?_,?_⟩
 ·intro ρ w' r
  exact⟨(0,w'),⟨aO _,hw.tr r.bs,hE.rel r hS⟩,Sub.yT 6 0 T.gX 1 rfl rfl (by simp[cO,SV.sc,At.sc]) r fun ρ1 r1=>Sub.yT 6 2 T.int 1 rfl rfl (by simp[cO,SV.sc,At.sc]) r1 fun ρ2 r2=>Sub.yT 6 3 T.int 1 rfl rfl (by simp[cO,SV.sc,At.sc]) r2 fun ρ3 r3=>
   Sub.gen [] r3 ⟨rfl,rfl,rfl,rfl,rfl,rfl,rfl,rfl,rfl,trivial⟩ ⟨rfl,rfl,rfl,rfl,rfl,rfl,trivial⟩ (by simp[cY,cN.scopd,At.sc]) (by simp[cO,SV.sc,At.sc]) (by rfl) (fun lo hi h=>h)⟩
 clear hw hE;rintro⟨k,w1⟩ ⟨hk,hw,hE⟩;dsimp only at hk hw hE ⊢;obtain⟨q1,q2,q3,q4⟩:=hsl k hk;conv=>whnf
 refine cW.mk (fun hkb=>?_) (fun hkb=>?_)
 ·have hkb:k<cols:=by simpa using hkb
  obtain⟨o,ho⟩:∃o,at_[k]? =some o:=⟨_,aA (by omega)⟩
  conv=>whnf
  refine⟨⟨by omega,by omega⟩,?_⟩;conv=>whnf
  refine⟨EU o,by rw[aB,aR,aP,aN,ho];rfl,?_⟩
  cases o with
  |none=>
   conv=>whnf
   refine⟨((k+1:Nat):Int),by rw[wrap64]<;>omega,?_⟩;conv=>whnf
   have hs1:=jo (s:=(E,at_,fr)) ho;have hs2:=ow (rv:=rv) ho;intro ρ3 w3 r3;exact⟨(k+1,w3),⟨hkb,hw.tr r3.bs,hE.rel r3 hS⟩,Sub.gen [] r3 ⟨by dsimp only;rw[hs1];rfl,by dsimp only;rw[hs1];rfl,by dsimp only;rw[hs1];rfl,by dsimp only;rw[hs2];rfl,rfl,rfl,rfl,rfl,rfl,trivial⟩ ⟨rfl,rfl,rfl,rfl,rfl,rfl,trivial⟩ (by simp[cY,cN.scopd,At.sc]) (by simp[cO,SV.sc,At.sc]) (by rfl) (fun lo hi h=>h),by dsimp only;omega⟩
  |some j=>
   have hj:j<E.length:=hlt k j ho;obtain⟨vj,hvj⟩:∃v,rv[j]? =some v:=⟨_,aA (by omega)⟩
   have hvjd:rv.getD j (.bool false)=vj:=by rw[List.getD,hvj];rfl
   obtain⟨aj,cj,rfl⟩:=hE.form hvj;obtain⟨fj,hfj⟩:∃v,fr[j]? =some v:=⟨_,aA (by omega)⟩
   have hfjd:fr.getD j 0=fj:=by rw[List.getD,hfj];rfl
   have hs1:=jq (s:=(E,at_,fr)) ho;have hs2:=ox (rv:=rv) ho;dsimp only at hs1;rw[hvjd]at hs2;rw[hfjd]at hs1;conv=>whnf
   refine gA hτ dH (.x 0 (.x 1 (.x 3 (.x 4 (.x 6 (.x 11 (.x 13 (.x 16 (.x 18 (.x 20 (.ld 2 4278223872 (.ld 5 4278224768 (.x 7 (.ld 8 4278224384 (.ld 12 4278222848 (.ld 17 4278190080 (.ld 19 4192206848 (.x 21 (.ld 22 4185915392 (.three 9 (.three 10 (.x 25 (.x 26 (.two 14 (.two 15 (.x 23 (.x 24 (.x 27 (.x 28 (.x 29 (.x 30 (.x 31 .nil))))))) 23 (.x 15 (.x 24 (.x 27 (.x 28 (.x 29 (.x 30 (.x 31 .nil)))))))) 23 (.x 14 (.x 15 (.x 24 (.x 27 (.x 28 (.x 29 (.x 30 (.x 31 .nil))))))))))) 14 (.two 10 (.x 25 (.x 26 (.two 15 (.x 23 (.x 24 (.x 27 (.x 28 (.x 29 (.x 30 (.x 31 .nil))))))) 23 (.x 15 (.x 24 (.x 27 (.x 28 (.x 29 (.x 30 (.x 31 .nil)))))))))) 23 (.x 10 (.x 25 (.x 26 (.x 15 (.x 24 (.x 27 (.x 28 (.x 29 (.x 30 (.x 31 .nil))))))))))) 23 (.two 10 (.x 25 (.x 26 (.x 14 (.x 15 (.x 24 (.x 27 (.x 28 (.x 29 (.x 30 (.x 31 .nil)))))))))) 14 (.x 10 (.x 25 (.x 26 (.x 15 (.x 24 (.x 27 (.x 28 (.x 29 (.x 30 (.x 31 .nil)))))))))))) 14 (.two 9 (.two 10 (.x 25 (.x 26 (.two 15 (.x 23 (.x 24 (.x 27 (.x 28 (.x 29 (.x 30 (.x 31 .nil))))))) 23 (.x 15 (.x 24 (.x 27 (.x 28 (.x 29 (.x 30 (.x 31 .nil)))))))))) 23 (.x 10 (.x 25 (.x 26 (.x 15 (.x 24 (.x 27 (.x 28 (.x 29 (.x 30 (.x 31 .nil))))))))))) 23 (.x 9 (.x 10 (.x 25 (.x 26 (.x 15 (.x 24 (.x 27 (.x 28 (.x 29 (.x 30 (.x 31 .nil)))))))))))) 23 (.two 9 (.two 10 (.x 25 (.x 26 (.x 14 (.x 15 (.x 24 (.x 27 (.x 28 (.x 29 (.x 30 (.x 31 .nil)))))))))) 14 (.x 10 (.x 25 (.x 26 (.x 15 (.x 24 (.x 27 (.x 28 (.x 29 (.x 30 (.x 31 .nil))))))))))) 14 (.x 9 (.x 10 (.x 25 (.x 26 (.x 15 (.x 24 (.x 27 (.x 28 (.x 29 (.x 30 (.x 31 .nil)))))))))))))))))))))))))))))))) (by kernel_rfl) (by kernel_rfl) ?_;conv=>whnf
   refine⟨by simp,⟨by omega,by omega⟩,?_⟩;conv=>whnf
   refine⟨.slice aj n cj,by simpa using hvj,?_⟩;conv=>whnf
   refine⟨by simp,⟨by omega,by omega⟩,?_⟩;conv=>whnf
   refine⟨.int .i64 (fj:Int),by simp[hfj],?_⟩;conv=>whnf
   refine⟨?_,?_,?_⟩
   ·conv=>whnf
    refine⟨.int .i64 (fj:Int),by simp[hfj],rfl,?_⟩;conv=>whnf
    refine⟨rfl,?_⟩;conv=>whnf
    refine⟨rfl,?_⟩;conv=>whnf
    refine⟨rfl,?_⟩;conv=>whnf
    refine⟨rfl,?_⟩;conv=>whnf
    refine⟨?_,?_,?_⟩
    ·conv=>whnf
     refine .inl ?_;conv=>whnf
     refine⟨by simp[q2,q3],by omega,by unfold maxLen;omega,?_⟩;conv=>whnf
     refine⟨.int .i64 (fj:Int),by simp[hfj],rfl,?_⟩;conv=>whnf
     refine⟨rfl,?_⟩;conv=>whnf
     refine⟨rfl,?_⟩;conv=>whnf
     refine⟨rfl,?_⟩;conv=>whnf
     refine⟨?_,?_⟩
     ·conv=>whnf
      refine⟨.int .i64 (fj:Int),by simp[hfj],rfl,?_⟩;conv=>whnf
      refine⟨rfl,?_⟩;conv=>whnf
      refine⟨rfl,?_⟩;conv=>whnf
      refine⟨rfl,?_⟩;conv=>whnf
      refine⟨?_,?_⟩
      ·conv=>whnf
       refine .inl ?_;conv=>whnf
       refine⟨by simp[q2,q3],by omega,by unfold maxLen;omega,?_⟩;conv=>whnf
       refine⟨.int .i64 (fj:Int),by simp[hfj],rfl,?_⟩;conv=>whnf
       refine⟨rfl,?_⟩;conv=>whnf
       refine⟨rfl,?_⟩;conv=>whnf
       refine⟨rfl,?_⟩;conv=>whnf
       refine .inl ?_;conv=>whnf
       refine⟨by simp[q2,q3],by omega,by unfold maxLen;omega,?_⟩;conv=>whnf
       refine⟨((k+1:Nat):Int),by rw[wrap64]<;>omega,?_⟩;conv=>whnf
       intro ρ3 w3 r3;exact⟨(k+1,w3),⟨hkb,hw.tr r3.bs,hE.rel r3 hS⟩,Sub.gen [(7,11),(8,13),(9,15)] r3 ⟨by dsimp only;rw[hs1,List.length_append,List.length_singleton];rfl,by dsimp only;rw[hs1,List.map_append];rfl,by dsimp only;rw[hs1,List.map_append];rfl,by dsimp only;rw[hs2];rfl,rfl,rfl,rfl,rfl,rfl,trivial⟩ ⟨rfl,rfl,rfl,rfl,rfl,rfl,trivial⟩ (by simp[cY,cN.scopd,At.sc]) (by simp[cO,SV.sc,At.sc]) (by rfl) (fun lo hi h=>h),by dsimp only;omega⟩
      ·conv=>whnf
       refine⟨rfl,?_⟩;conv=>whnf
       refine⟨rfl,?_⟩;conv=>whnf
       refine .inl ?_;conv=>whnf
       refine⟨by simp[q2,q3],by omega,by unfold maxLen;omega,?_⟩;conv=>whnf
       refine⟨rfl,?_⟩;conv=>whnf
       refine .inl ?_;conv=>whnf
       refine⟨by simp[q2,q3],by omega,by unfold maxLen;omega,?_⟩;conv=>whnf
       refine⟨((k+1:Nat):Int),by rw[wrap64]<;>omega,?_⟩;conv=>whnf
       intro ρ3 w3 r3;exact⟨(k+1,w3),⟨hkb,hw.tr r3.bs,hE.rel r3 hS⟩,Sub.gen [(7,11),(8,14),(9,15)] r3 ⟨by dsimp only;rw[hs1,List.length_append,List.length_singleton];rfl,by dsimp only;rw[hs1,List.map_append];rfl,by dsimp only;rw[hs1,List.map_append];rfl,by dsimp only;rw[hs2];rfl,rfl,rfl,rfl,rfl,rfl,trivial⟩ ⟨rfl,rfl,rfl,rfl,rfl,rfl,trivial⟩ (by simp[cY,cN.scopd,At.sc]) (by simp[cO,SV.sc,At.sc]) (by rfl) (fun lo hi h=>h),by dsimp only;omega⟩
     ·conv=>whnf
      refine⟨rfl,?_⟩;conv=>whnf
      refine⟨rfl,?_⟩;conv=>whnf
      refine⟨rfl,?_⟩;conv=>whnf
      refine⟨rfl,?_⟩;conv=>whnf
      refine .inl ?_;conv=>whnf
      refine⟨by simp[q2,q3],by omega,by unfold maxLen;omega,?_⟩;conv=>whnf
      refine⟨rfl,?_⟩;conv=>whnf
      refine .inl ?_;conv=>whnf
      refine⟨by simp[q2,q3],by omega,by unfold maxLen;omega,?_⟩;conv=>whnf
      refine⟨((k+1:Nat):Int),by rw[wrap64]<;>omega,?_⟩;conv=>whnf
      intro ρ3 w3 r3;exact⟨(k+1,w3),⟨hkb,hw.tr r3.bs,hE.rel r3 hS⟩,Sub.gen [(7,11),(8,14),(9,15)] r3 ⟨by dsimp only;rw[hs1,List.length_append,List.length_singleton];rfl,by dsimp only;rw[hs1,List.map_append];rfl,by dsimp only;rw[hs1,List.map_append];rfl,by dsimp only;rw[hs2];rfl,rfl,rfl,rfl,rfl,rfl,trivial⟩ ⟨rfl,rfl,rfl,rfl,rfl,rfl,trivial⟩ (by simp[cY,cN.scopd,At.sc]) (by simp[cO,SV.sc,At.sc]) (by rfl) (fun lo hi h=>h),by dsimp only;omega⟩
    ·conv=>whnf
     refine⟨.int .i64 (fj:Int),by simp[hfj],rfl,?_⟩;conv=>whnf
     refine⟨rfl,?_⟩;conv=>whnf
     refine⟨rfl,?_⟩;conv=>whnf
     refine⟨rfl,?_⟩;conv=>whnf
     refine⟨rfl,?_⟩;conv=>whnf
     refine⟨?_,?_⟩
     ·conv=>whnf
      refine .inl ?_;conv=>whnf
      refine⟨by simp[q2,q3],by omega,by unfold maxLen;omega,?_⟩;conv=>whnf
      refine⟨.int .i64 (fj:Int),by simp[hfj],rfl,?_⟩;conv=>whnf
      refine⟨rfl,?_⟩;conv=>whnf
      refine⟨rfl,?_⟩;conv=>whnf
      refine⟨rfl,?_⟩;conv=>whnf
      refine⟨?_,?_⟩
      ·conv=>whnf
       refine .inl ?_;conv=>whnf
       refine⟨by simp[q2,q3],by omega,by unfold maxLen;omega,?_⟩;conv=>whnf
       refine⟨.int .i64 (fj:Int),by simp[hfj],rfl,?_⟩;conv=>whnf
       refine⟨rfl,?_⟩;conv=>whnf
       refine⟨rfl,?_⟩;conv=>whnf
       refine⟨rfl,?_⟩;conv=>whnf
       refine .inl ?_;conv=>whnf
       refine⟨by simp[q2,q3],by omega,by unfold maxLen;omega,?_⟩;conv=>whnf
       refine⟨((k+1:Nat):Int),by rw[wrap64]<;>omega,?_⟩;conv=>whnf
       intro ρ3 w3 r3;exact⟨(k+1,w3),⟨hkb,hw.tr r3.bs,hE.rel r3 hS⟩,Sub.gen [(7,12),(8,13),(9,15)] r3 ⟨by dsimp only;rw[hs1,List.length_append,List.length_singleton];rfl,by dsimp only;rw[hs1,List.map_append];rfl,by dsimp only;rw[hs1,List.map_append];rfl,by dsimp only;rw[hs2];rfl,rfl,rfl,rfl,rfl,rfl,trivial⟩ ⟨rfl,rfl,rfl,rfl,rfl,rfl,trivial⟩ (by simp[cY,cN.scopd,At.sc]) (by simp[cO,SV.sc,At.sc]) (by rfl) (fun lo hi h=>h),by dsimp only;omega⟩
      ·conv=>whnf
       refine⟨rfl,?_⟩;conv=>whnf
       refine⟨rfl,?_⟩;conv=>whnf
       refine .inl ?_;conv=>whnf
       refine⟨by simp[q2,q3],by omega,by unfold maxLen;omega,?_⟩;conv=>whnf
       refine⟨rfl,?_⟩;conv=>whnf
       refine .inl ?_;conv=>whnf
       refine⟨by simp[q2,q3],by omega,by unfold maxLen;omega,?_⟩;conv=>whnf
       refine⟨((k+1:Nat):Int),by rw[wrap64]<;>omega,?_⟩;conv=>whnf
       intro ρ3 w3 r3;exact⟨(k+1,w3),⟨hkb,hw.tr r3.bs,hE.rel r3 hS⟩,Sub.gen [(7,12),(8,14),(9,15)] r3 ⟨by dsimp only;rw[hs1,List.length_append,List.length_singleton];rfl,by dsimp only;rw[hs1,List.map_append];rfl,by dsimp only;rw[hs1,List.map_append];rfl,by dsimp only;rw[hs2];rfl,rfl,rfl,rfl,rfl,rfl,trivial⟩ ⟨rfl,rfl,rfl,rfl,rfl,rfl,trivial⟩ (by simp[cY,cN.scopd,At.sc]) (by simp[cO,SV.sc,At.sc]) (by rfl) (fun lo hi h=>h),by dsimp only;omega⟩
     ·conv=>whnf
      refine⟨rfl,?_⟩;conv=>whnf
      refine⟨rfl,?_⟩;conv=>whnf
      refine⟨rfl,?_⟩;conv=>whnf
      refine .inl ?_;conv=>whnf
      refine⟨by simp[q2,q3],by omega,by unfold maxLen;omega,?_⟩;conv=>whnf
      refine⟨rfl,?_⟩;conv=>whnf
      refine⟨rfl,?_⟩;conv=>whnf
      refine .inl ?_;conv=>whnf
      refine⟨by simp[q2,q3],by omega,by unfold maxLen;omega,?_⟩;conv=>whnf
      refine⟨rfl,?_⟩;conv=>whnf
      refine .inl ?_;conv=>whnf
      refine⟨by simp[q2,q3],by omega,by unfold maxLen;omega,?_⟩;conv=>whnf
      refine⟨((k+1:Nat):Int),by rw[wrap64]<;>omega,?_⟩;conv=>whnf
      intro ρ3 w3 r3;exact⟨(k+1,w3),⟨hkb,hw.tr r3.bs,hE.rel r3 hS⟩,Sub.gen [(7,13),(8,14),(9,15)] r3 ⟨by dsimp only;rw[hs1,List.length_append,List.length_singleton];rfl,by dsimp only;rw[hs1,List.map_append];rfl,by dsimp only;rw[hs1,List.map_append];rfl,by dsimp only;rw[hs2];rfl,rfl,rfl,rfl,rfl,rfl,trivial⟩ ⟨rfl,rfl,rfl,rfl,rfl,rfl,trivial⟩ (by simp[cY,cN.scopd,At.sc]) (by simp[cO,SV.sc,At.sc]) (by rfl) (fun lo hi h=>h),by dsimp only;omega⟩
    ·conv=>whnf
     refine⟨rfl,?_⟩;conv=>whnf
     refine⟨rfl,?_⟩;conv=>whnf
     refine⟨rfl,?_⟩;conv=>whnf
     refine⟨?_,?_⟩
     ·conv=>whnf
      refine .inl ?_;conv=>whnf
      refine⟨by simp[q2,q3],by omega,by unfold maxLen;omega,?_⟩;conv=>whnf
      refine⟨rfl,?_⟩;conv=>whnf
      refine⟨rfl,?_⟩;conv=>whnf
      refine⟨rfl,?_⟩;conv=>whnf
      refine⟨rfl,?_⟩;conv=>whnf
      refine .inl ?_;conv=>whnf
      refine⟨by simp[q2,q3],by omega,by unfold maxLen;omega,?_⟩;conv=>whnf
      refine⟨rfl,?_⟩;conv=>whnf
      refine .inl ?_;conv=>whnf
      refine⟨by simp[q2,q3],by omega,by unfold maxLen;omega,?_⟩;conv=>whnf
      refine⟨((k+1:Nat):Int),by rw[wrap64]<;>omega,?_⟩;conv=>whnf
      intro ρ3 w3 r3;exact⟨(k+1,w3),⟨hkb,hw.tr r3.bs,hE.rel r3 hS⟩,Sub.gen [(7,12),(8,14),(9,15)] r3 ⟨by dsimp only;rw[hs1,List.length_append,List.length_singleton];rfl,by dsimp only;rw[hs1,List.map_append];rfl,by dsimp only;rw[hs1,List.map_append];rfl,by dsimp only;rw[hs2];rfl,rfl,rfl,rfl,rfl,rfl,trivial⟩ ⟨rfl,rfl,rfl,rfl,rfl,rfl,trivial⟩ (by simp[cY,cN.scopd,At.sc]) (by simp[cO,SV.sc,At.sc]) (by rfl) (fun lo hi h=>h),by dsimp only;omega⟩
     ·conv=>whnf
      refine⟨rfl,?_⟩;conv=>whnf
      refine⟨rfl,?_⟩;conv=>whnf
      refine⟨rfl,?_⟩;conv=>whnf
      refine .inl ?_;conv=>whnf
      refine⟨by simp[q2,q3],by omega,by unfold maxLen;omega,?_⟩;conv=>whnf
      refine⟨rfl,?_⟩;conv=>whnf
      refine⟨rfl,?_⟩;conv=>whnf
      refine .inl ?_;conv=>whnf
      refine⟨by simp[q2,q3],by omega,by unfold maxLen;omega,?_⟩;conv=>whnf
      refine⟨rfl,?_⟩;conv=>whnf
      refine .inl ?_;conv=>whnf
      refine⟨by simp[q2,q3],by omega,by unfold maxLen;omega,?_⟩;conv=>whnf
      refine⟨((k+1:Nat):Int),by rw[wrap64]<;>omega,?_⟩;conv=>whnf
      intro ρ3 w3 r3;exact⟨(k+1,w3),⟨hkb,hw.tr r3.bs,hE.rel r3 hS⟩,Sub.gen [(7,13),(8,14),(9,15)] r3 ⟨by dsimp only;rw[hs1,List.length_append,List.length_singleton];rfl,by dsimp only;rw[hs1,List.map_append];rfl,by dsimp only;rw[hs1,List.map_append];rfl,by dsimp only;rw[hs2];rfl,rfl,rfl,rfl,rfl,rfl,trivial⟩ ⟨rfl,rfl,rfl,rfl,rfl,rfl,trivial⟩ (by simp[cY,cN.scopd,At.sc]) (by simp[cO,SV.sc,At.sc]) (by rfl) (fun lo hi h=>h),by dsimp only;omega⟩
   ·conv=>whnf
    refine⟨.int .i64 (fj:Int),by simp[hfj],rfl,?_⟩;conv=>whnf
    refine⟨rfl,?_⟩;conv=>whnf
    refine⟨rfl,?_⟩;conv=>whnf
    refine⟨rfl,?_⟩;conv=>whnf
    refine⟨.slice aj n cj,by simpa using hvj,rfl,?_⟩;conv=>whnf
    refine⟨rfl,?_⟩;conv=>whnf
    refine⟨rfl,?_⟩;conv=>whnf
    refine⟨?_,?_⟩
    ·conv=>whnf
     refine⟨.int .i64 (fj:Int),by simp[hfj],rfl,?_⟩;conv=>whnf
     refine⟨rfl,?_⟩;conv=>whnf
     refine⟨rfl,?_⟩;conv=>whnf
     refine⟨rfl,?_⟩;conv=>whnf
     refine⟨rfl,?_⟩;conv=>whnf
     refine⟨?_,?_⟩
     ·conv=>whnf
      refine .inl ?_;conv=>whnf
      refine⟨by simp[q2,q3],by omega,by unfold maxLen;omega,?_⟩;conv=>whnf
      refine⟨.int .i64 (fj:Int),by simp[hfj],rfl,?_⟩;conv=>whnf
      refine⟨rfl,?_⟩;conv=>whnf
      refine⟨rfl,?_⟩;conv=>whnf
      refine⟨rfl,?_⟩;conv=>whnf
      refine⟨?_,?_⟩
      ·conv=>whnf
       refine .inl ?_;conv=>whnf
       refine⟨by simp[q2,q3],by omega,by unfold maxLen;omega,?_⟩;conv=>whnf
       refine⟨.int .i64 (fj:Int),by simp[hfj],rfl,?_⟩;conv=>whnf
       refine⟨rfl,?_⟩;conv=>whnf
       refine⟨rfl,?_⟩;conv=>whnf
       refine⟨rfl,?_⟩;conv=>whnf
       refine .inl ?_;conv=>whnf
       refine⟨by simp[q2,q3],by omega,by unfold maxLen;omega,?_⟩;conv=>whnf
       refine⟨((k+1:Nat):Int),by rw[wrap64]<;>omega,?_⟩;conv=>whnf
       intro ρ3 w3 r3;exact⟨(k+1,w3),⟨hkb,hw.tr r3.bs,hE.rel r3 hS⟩,Sub.gen [(7,12),(8,13),(9,15)] r3 ⟨by dsimp only;rw[hs1,List.length_append,List.length_singleton];rfl,by dsimp only;rw[hs1,List.map_append];rfl,by dsimp only;rw[hs1,List.map_append];rfl,by dsimp only;rw[hs2];rfl,rfl,rfl,rfl,rfl,rfl,trivial⟩ ⟨rfl,rfl,rfl,rfl,rfl,rfl,trivial⟩ (by simp[cY,cN.scopd,At.sc]) (by simp[cO,SV.sc,At.sc]) (by rfl) (fun lo hi h=>h),by dsimp only;omega⟩
      ·conv=>whnf
       refine⟨rfl,?_⟩;conv=>whnf
       refine⟨rfl,?_⟩;conv=>whnf
       refine .inl ?_;conv=>whnf
       refine⟨by simp[q2,q3],by omega,by unfold maxLen;omega,?_⟩;conv=>whnf
       refine⟨rfl,?_⟩;conv=>whnf
       refine .inl ?_;conv=>whnf
       refine⟨by simp[q2,q3],by omega,by unfold maxLen;omega,?_⟩;conv=>whnf
       refine⟨((k+1:Nat):Int),by rw[wrap64]<;>omega,?_⟩;conv=>whnf
       intro ρ3 w3 r3;exact⟨(k+1,w3),⟨hkb,hw.tr r3.bs,hE.rel r3 hS⟩,Sub.gen [(7,12),(8,14),(9,15)] r3 ⟨by dsimp only;rw[hs1,List.length_append,List.length_singleton];rfl,by dsimp only;rw[hs1,List.map_append];rfl,by dsimp only;rw[hs1,List.map_append];rfl,by dsimp only;rw[hs2];rfl,rfl,rfl,rfl,rfl,rfl,trivial⟩ ⟨rfl,rfl,rfl,rfl,rfl,rfl,trivial⟩ (by simp[cY,cN.scopd,At.sc]) (by simp[cO,SV.sc,At.sc]) (by rfl) (fun lo hi h=>h),by dsimp only;omega⟩
     ·conv=>whnf
      refine⟨rfl,?_⟩;conv=>whnf
      refine⟨rfl,?_⟩;conv=>whnf
      refine⟨rfl,?_⟩;conv=>whnf
      refine .inl ?_;conv=>whnf
      refine⟨by simp[q2,q3],by omega,by unfold maxLen;omega,?_⟩;conv=>whnf
      refine⟨rfl,?_⟩;conv=>whnf
      refine⟨rfl,?_⟩;conv=>whnf
      refine .inl ?_;conv=>whnf
      refine⟨by simp[q2,q3],by omega,by unfold maxLen;omega,?_⟩;conv=>whnf
      refine⟨rfl,?_⟩;conv=>whnf
      refine .inl ?_;conv=>whnf
      refine⟨by simp[q2,q3],by omega,by unfold maxLen;omega,?_⟩;conv=>whnf
      refine⟨((k+1:Nat):Int),by rw[wrap64]<;>omega,?_⟩;conv=>whnf
      intro ρ3 w3 r3;exact⟨(k+1,w3),⟨hkb,hw.tr r3.bs,hE.rel r3 hS⟩,Sub.gen [(7,13),(8,14),(9,15)] r3 ⟨by dsimp only;rw[hs1,List.length_append,List.length_singleton];rfl,by dsimp only;rw[hs1,List.map_append];rfl,by dsimp only;rw[hs1,List.map_append];rfl,by dsimp only;rw[hs2];rfl,rfl,rfl,rfl,rfl,rfl,trivial⟩ ⟨rfl,rfl,rfl,rfl,rfl,rfl,trivial⟩ (by simp[cY,cN.scopd,At.sc]) (by simp[cO,SV.sc,At.sc]) (by rfl) (fun lo hi h=>h),by dsimp only;omega⟩
    ·conv=>whnf
     refine⟨rfl,?_⟩;conv=>whnf
     refine⟨rfl,?_⟩;conv=>whnf
     refine⟨.slice aj n cj,by simpa using hvj,rfl,?_⟩;conv=>whnf
     refine⟨rfl,?_⟩;conv=>whnf
     refine⟨rfl,?_⟩;conv=>whnf
     refine⟨rfl,?_⟩;conv=>whnf
     refine⟨rfl,?_⟩;conv=>whnf
     refine⟨rfl,?_⟩;conv=>whnf
     refine .inl ?_;conv=>whnf
     refine⟨by simp[q2,q3],by omega,by unfold maxLen;omega,?_⟩;conv=>whnf
     refine⟨rfl,?_⟩;conv=>whnf
     refine⟨rfl,?_⟩;conv=>whnf
     refine .inl ?_;conv=>whnf
     refine⟨by simp[q2,q3],by omega,by unfold maxLen;omega,?_⟩;conv=>whnf
     refine⟨rfl,?_⟩;conv=>whnf
     refine .inl ?_;conv=>whnf
     refine⟨by simp[q2,q3],by omega,by unfold maxLen;omega,?_⟩;conv=>whnf
     refine⟨((k+1:Nat):Int),by rw[wrap64]<;>omega,?_⟩;conv=>whnf
     intro ρ3 w3 r3;exact⟨(k+1,w3),⟨hkb,hw.tr r3.bs,hE.rel r3 hS⟩,Sub.gen [(7,13),(8,14),(9,15)] r3 ⟨by dsimp only;rw[hs1,List.length_append,List.length_singleton];rfl,by dsimp only;rw[hs1,List.map_append];rfl,by dsimp only;rw[hs1,List.map_append];rfl,by dsimp only;rw[hs2];rfl,rfl,rfl,rfl,rfl,rfl,trivial⟩ ⟨rfl,rfl,rfl,rfl,rfl,rfl,trivial⟩ (by simp[cY,cN.scopd,At.sc]) (by simp[cO,SV.sc,At.sc]) (by rfl) (fun lo hi h=>h),by dsimp only;omega⟩
   ·conv=>whnf
    refine⟨rfl,?_⟩;conv=>whnf
    refine⟨rfl,?_⟩;conv=>whnf
    refine⟨.slice aj n cj,by simpa using hvj,rfl,?_⟩;conv=>whnf
    refine⟨rfl,?_⟩;conv=>whnf
    refine⟨rfl,?_⟩;conv=>whnf
    refine⟨?_,?_⟩
    ·conv=>whnf
     refine⟨rfl,?_⟩;conv=>whnf
     refine⟨rfl,?_⟩;conv=>whnf
     refine⟨rfl,?_⟩;conv=>whnf
     refine⟨?_,?_⟩
     ·conv=>whnf
      refine .inl ?_;conv=>whnf
      refine⟨by simp[q2,q3],by omega,by unfold maxLen;omega,?_⟩;conv=>whnf
      refine⟨rfl,?_⟩;conv=>whnf
      refine⟨rfl,?_⟩;conv=>whnf
      refine⟨rfl,?_⟩;conv=>whnf
      refine⟨rfl,?_⟩;conv=>whnf
      refine .inl ?_;conv=>whnf
      refine⟨by simp[q2,q3],by omega,by unfold maxLen;omega,?_⟩;conv=>whnf
      refine⟨rfl,?_⟩;conv=>whnf
      refine .inl ?_;conv=>whnf
      refine⟨by simp[q2,q3],by omega,by unfold maxLen;omega,?_⟩;conv=>whnf
      refine⟨((k+1:Nat):Int),by rw[wrap64]<;>omega,?_⟩;conv=>whnf
      intro ρ3 w3 r3;exact⟨(k+1,w3),⟨hkb,hw.tr r3.bs,hE.rel r3 hS⟩,Sub.gen [(7,12),(8,14),(9,15)] r3 ⟨by dsimp only;rw[hs1,List.length_append,List.length_singleton];rfl,by dsimp only;rw[hs1,List.map_append];rfl,by dsimp only;rw[hs1,List.map_append];rfl,by dsimp only;rw[hs2];rfl,rfl,rfl,rfl,rfl,rfl,trivial⟩ ⟨rfl,rfl,rfl,rfl,rfl,rfl,trivial⟩ (by simp[cY,cN.scopd,At.sc]) (by simp[cO,SV.sc,At.sc]) (by rfl) (fun lo hi h=>h),by dsimp only;omega⟩
     ·conv=>whnf
      refine⟨rfl,?_⟩;conv=>whnf
      refine⟨rfl,?_⟩;conv=>whnf
      refine⟨rfl,?_⟩;conv=>whnf
      refine .inl ?_;conv=>whnf
      refine⟨by simp[q2,q3],by omega,by unfold maxLen;omega,?_⟩;conv=>whnf
      refine⟨rfl,?_⟩;conv=>whnf
      refine⟨rfl,?_⟩;conv=>whnf
      refine .inl ?_;conv=>whnf
      refine⟨by simp[q2,q3],by omega,by unfold maxLen;omega,?_⟩;conv=>whnf
      refine⟨rfl,?_⟩;conv=>whnf
      refine .inl ?_;conv=>whnf
      refine⟨by simp[q2,q3],by omega,by unfold maxLen;omega,?_⟩;conv=>whnf
      refine⟨((k+1:Nat):Int),by rw[wrap64]<;>omega,?_⟩;conv=>whnf
      intro ρ3 w3 r3;exact⟨(k+1,w3),⟨hkb,hw.tr r3.bs,hE.rel r3 hS⟩,Sub.gen [(7,13),(8,14),(9,15)] r3 ⟨by dsimp only;rw[hs1,List.length_append,List.length_singleton];rfl,by dsimp only;rw[hs1,List.map_append];rfl,by dsimp only;rw[hs1,List.map_append];rfl,by dsimp only;rw[hs2];rfl,rfl,rfl,rfl,rfl,rfl,trivial⟩ ⟨rfl,rfl,rfl,rfl,rfl,rfl,trivial⟩ (by simp[cY,cN.scopd,At.sc]) (by simp[cO,SV.sc,At.sc]) (by rfl) (fun lo hi h=>h),by dsimp only;omega⟩
    ·conv=>whnf
     refine⟨rfl,?_⟩;conv=>whnf
     refine⟨rfl,?_⟩;conv=>whnf
     refine⟨.slice aj n cj,by simpa using hvj,rfl,?_⟩;conv=>whnf
     refine⟨rfl,?_⟩;conv=>whnf
     refine⟨rfl,?_⟩;conv=>whnf
     refine⟨rfl,?_⟩;conv=>whnf
     refine⟨rfl,?_⟩;conv=>whnf
     refine⟨rfl,?_⟩;conv=>whnf
     refine .inl ?_;conv=>whnf
     refine⟨by simp[q2,q3],by omega,by unfold maxLen;omega,?_⟩;conv=>whnf
     refine⟨rfl,?_⟩;conv=>whnf
     refine⟨rfl,?_⟩;conv=>whnf
     refine .inl ?_;conv=>whnf
     refine⟨by simp[q2,q3],by omega,by unfold maxLen;omega,?_⟩;conv=>whnf
     refine⟨rfl,?_⟩;conv=>whnf
     refine .inl ?_;conv=>whnf
     refine⟨by simp[q2,q3],by omega,by unfold maxLen;omega,?_⟩;conv=>whnf
     refine⟨((k+1:Nat):Int),by rw[wrap64]<;>omega,?_⟩;conv=>whnf
     intro ρ3 w3 r3;exact⟨(k+1,w3),⟨hkb,hw.tr r3.bs,hE.rel r3 hS⟩,Sub.gen [(7,13),(8,14),(9,15)] r3 ⟨by dsimp only;rw[hs1,List.length_append,List.length_singleton];rfl,by dsimp only;rw[hs1,List.map_append];rfl,by dsimp only;rw[hs1,List.map_append];rfl,by dsimp only;rw[hs2];rfl,rfl,rfl,rfl,rfl,rfl,trivial⟩ ⟨rfl,rfl,rfl,rfl,rfl,rfl,trivial⟩ (by simp[cY,cN.scopd,At.sc]) (by simp[cO,SV.sc,At.sc]) (by rfl) (fun lo hi h=>h),by dsimp only;omega⟩
 have hkb:k=cols:=aM hk (by simpa using hkb);subst hkb;conv=>whnf
 intro ρe we re;have hone:∀u∈ij rv at_ k,u.oneCell'=true:=fun u hu=>by
  obtain⟨i,hi⟩:=aU hu;obtain⟨x,hx⟩:∃x,(dV (E,at_,fr) k).1[i]? =some x:=⟨_,aA (by have:=(aE.1 hi).1;omega)⟩
  obtain⟨r,h1,h2⟩:=vK hrl hlt k (by omega) i u x hi hx;obtain⟨a,c,rfl⟩:=hE.form h1;rfl
 have h7:=re.gB (id:=7) (sz:=1) (m:=(dV (E,at_,fr) k).2.1.length) rfl (by simp[q3]) (by unfold maxLen;omega) (by decide) hone;have h8:=re.gB (id:=8) (sz:=1) (m:=(dV (E,at_,fr) k).2.1.length) rfl (by simp) (by unfold maxLen;omega) (by decide) (fun u hu=>by obtain⟨c,_,rfl⟩:=aS.1 hu;rfl);have h9:=re.gB (id:=9) (sz:=1) (m:=(dV (E,at_,fr) k).2.1.length) rfl (by simp[q2]) (by unfold maxLen;omega) (by decide) (fun u hu=>by obtain⟨c,_,rfl⟩:=aS.1 hu;rfl);have hE2:=hE.rel re hS;rw[hredS];refine⟨_,rfl,hw.tr re.bs,_,_,_,rfl,⟨ij rv at_ k,?_,by omega,fun i u x k1 k2=>?_⟩,?_,?_⟩
 ·rw[q1];exact h7.bz fun g hg=>.inr hg
 ·obtain⟨r,h1,h2⟩:=vK hrl hlt k (by omega) i u x k1 k2;refine((hE2.row r u x h1 h2).read.bz (S':=Nw S w we) (C':=Nw S w we) (fun g hg=>?_) fun g hg=>Cv.nw hg.1 re).c;exact Cv.nw (ET (hE2.new g ⟨u,aD h1,hg⟩)) re
 ·exact h8.bz fun g hg=>.inr hg
 ·show gw we _ 1 _ _ (dV (E,at_,fr) k).2.2.length;rw[q2];exact h9.bz fun g hg=>.inr hg
section
variable{S S':Nat->Prop}{H:Hp}{nx n:Nat}{iv iv':Iv}{B:Nat}{w w' w2:World}{ρ:Nat->Sx.dN}{v:Value}{qs:List Rat}
theorem dK.Gk{w0 w1:World}(h:dK w1 S w0.heap.size iv v n qs)(r:Rel H nx iv w0.heap.size w1 ρ w')(hS:Old S w0):dK w' S w0.heap.size [(w0.heap.size,w'.heap.size)] v n qs:=by
 have h2:=h.rel r hS;have key:∀g {X:Nat->Prop},Cv X w0.heap.size iv g->Cv X w0.heap.size [(w0.heap.size,w'.heap.size)] g:=fun g X hg=>by
  rcases hg with hg|⟨h1,lo,hi,h2,h3,h4⟩
  ·exact .inl hg
  ·exact .inr ⟨h1,_,_,bB.2 rfl,h1,by have:=r.oU lo hi h2;have:=r.size;omega⟩
 exact⟨h2.row.bz fun g hg=>⟨key g hg.1,hg.2⟩,fun g hg=>key g (h2.new g hg)⟩
theorem dK.GR(h:dK w2 (Cv S B iv) w'.heap.size [(w'.heap.size,w2.heap.size)] v n qs)(hB:B<=w'.heap.size):dK w2 S B ((w'.heap.size,w2.heap.size)::iv) v n qs:=by
 have key:∀g {X Y:Nat->Prop},(∀g,Y g->Cv X B iv g)->Cv Y w'.heap.size [(w'.heap.size,w2.heap.size)] g->Cv X B ((w'.heap.size,w2.heap.size)::iv) g:=fun g X Y hY hg=>by
  rcases hg with hg|⟨h1,lo,hi,h2,h3,h4⟩
  ·exact(hY g hg).mono fun p hp=>aC _ hp
  ·simp at h2;obtain⟨rfl,rfl⟩:=h2;exact .inr ⟨by omega,_,_,aH,h3,h4⟩
 exact⟨h.row.bz fun g hg=>⟨key g (fun _ h=>h) hg.1,hg.2⟩,fun g hg=>key g (fun _ h=>h.elim) (h.new g hg)⟩
def Bs(S:Nat->Prop)(B:Nat)(iv:Iv)(v:Value)(g:Nat):Prop:=Cv S B iv g∧v.ownBlock≠some g
theorem Bs.kept(r:Rel H nx iv B w ρ w')(hS:∀g,S g->g<B){row:Option Nat}(hg:w'.grownBy w2 row)(hrow:∀g,row=some g->v.ownBlock=some g):∀g,Bs S B iv v g->w2.heap[g]? =w.heap[g]? :=fun g h=>by
 rw[hg.block g (Rel.old r hS g h.1) fun e=>h.2 (hrow g e.symm),Rel.same r hS h.1]
theorem Bs.same(r:Rel H nx iv B w ρ w')(hS:∀g,S g->g<B):∀g,Bs S B iv v g->w'.heap[g]? =w.heap[g]? :=fun g h=>Rel.same r hS h.1
theorem Bs.of(r:Rel H nx iv B w ρ w')(hS:∀g,S g->g<B)(hm:∀p,p∈iv->p∈iv')(hn:dK w2 (fun _=>False) w'.heap.size [(w'.heap.size,w2.heap.size)] v n qs){g:Nat}(h:Cv S B iv g):Bs S B iv' v g:=
 ⟨h.mono hm,fun e=>by
  have h1:=Rel.old r hS g h;rcases hn.new g e with h2|⟨h2,_⟩
  ·exact h2
  ·omega⟩
theorem Bs.mono(hm:∀p,p∈iv->p∈iv'){g:Nat}(h:Bs S B iv v g):Bs S B iv' v g:=⟨h.1.mono hm,h.2⟩
theorem dL.at{a:Option Addr}{m c j p:Nat}{ps:List Nat}(h:dL w S (.slice a m c) ps)(hj:ps[j]? =some p):∃ad,a=some ad∧S ad.block∧w.cell? (ad.add (j*1))=some (.int .i64 (p:Int)):=by
 obtain⟨h0,h1,h2,a',c',e,h3,h4⟩:=h;injection e with e1 e2 e3;subst e1;obtain⟨ad,k1,k2,k3⟩:=h4 j (.int .i64 (p:Int)) (by rw[aN,hj];rfl);exact⟨ad,k1,k2,by rw[aR];exact k3⟩
theorem dL.shape{ps:List Nat}(h:dL w S v ps):∃a c,v= .slice a ps.length c∧ps.length<=c∧ps.length<=maxLen:=by
 obtain⟨h0,h1,h2,a,c,e,h3,h4⟩:=h;exact⟨a,c,e,h3,h0⟩
end
theorem vL{E:List (List Rat)}{at_:List (Option Nat)}{fr:List Nat}{n:Nat}(hE:qo n E)(hlt:∀(k r:Nat),at_[k]? =some (some r)->r<E.length):∀k,k<=at_.length->qo n (dV (E,at_,fr) k).1∧∀p∈(dV (E,at_,fr) k).2.1,p<k
 |0,_=>⟨(fun r hr=>by cases hr),fun p hp=>by cases hp⟩
 |k+1,hk=>by
  have ih:=vL (fr:=fr) hE hlt k (by omega);obtain⟨o,ho⟩:∃o,at_[k]? =some o:=⟨_,aA (by omega)⟩
  cases o with
  |none=>
   rw[jo (s:=(E,at_,fr)) ho];exact⟨ih.1,fun p hp=>Nat.lt_succ_of_lt (ih.2 p hp)⟩
  |some r=>
   rw[jq (s:=(E,at_,fr)) ho];refine⟨fun x hx=>?_,fun p hp=>?_⟩
   ·rcases bT.1 hx with hx|hx
    ·exact ih.1 x hx
    ·rw[bB.1 hx];have:=hlt k r ho;dsimp only
     rw[List.getD,aA this];exact hE _ (List.getElem_mem this)
   ·rcases bT.1 hp with hp|hp
    ·exact Nat.lt_succ_of_lt (ih.2 p hp)
    ·rw[bB.1 hp];exact bZ _
theorem oM{M:List (List Rat)}{n:Nat}(cols:Nat)(hM:qo n M):(dF M cols).1.length=(dF M cols).2.1.length∧(dF M cols).2.2.length=(dF M cols).2.1.length∧qo n (dF M cols).1∧(∀p∈(dF M cols).2.1,p<cols)∧(dF M cols).2.1.length<=cols:=by
 have hok:=uJ cols hM M.length (aI _);unfold dF;generalize iJ M cols M.length=s at*
 obtain⟨E,at_,fr⟩:=s;have hat:at_.length=cols:=hok.at_;obtain⟨q1,q2,-,q4⟩:=qR (E,at_,fr) [] cols (by show cols<=at_.length;omega);obtain⟨f1,f2⟩:=vL (E:=E) (at_:=at_) (fr:=fr) hok.len hok.lt cols (by omega);exact⟨q1,q2,f1,f2,q4⟩
theorem jC(M:List (List Rat))(b:List Rat):(gj M b).length=M.length:=List.length_mapIdx
theorem CS{M:List (List Rat)}{b:List Rat}{n:Nat}(h:qo n M):qo (n+1) (gj M b):=fun r hr=>by
 obtain⟨i,hi⟩:=aU hr;rw[gj,List.getElem?_mapIdx]at hi
 cases hM:M[i]? with
 |none=>rw[hM]at hi;cases hi
 |some x=>
  rw[hM]at hi;simp only[Option.map_some,Option.some.injEq]at hi;rw[<-hi,List.length_append,h x (aD hM)];rfl
theorem Av{S:Nat->Prop}{H:Hp}{nx id:Nat}{iv:Iv}{B:Nat}{w w':World}{ρ:Nat->Sx.dN}(r:Rel H nx iv B w ρ w'){css:List (List Value)}{x:List Rat}{q:Rat}{cs:List Value}(h:cT H id=some (.vec T.Rat 4 ([]++css.flatten++cs)))(hF:Fc w' S css x)(hq:gP w' S cs q)(hm:x.length<maxLen):
  (ρ id).nil=false∧cB w' (Cv S B (((ρ id).g,(ρ id).g+1)::iv)) (.slice (some ⟨(ρ id).g,0,none⟩) (x.length+1) (ρ id).cap) (x++[q]):=by
 have hfl:=eH hF.tF;have hl:([]++css.flatten++cs).length=(x.length+1)*4:=by rw[List.nil_append,List.length_append,hfl,hF.1,hq.len];omega
 have hF2:=hF.push hq;have he:[]++css.flatten++cs=(css++[cs]).flatten:=by simp
 have hv:=Ee r (sz:=4) (m:=x.length+1) h hl (by omega) (by decide) (by omega) (fun u hu=>hF2.one u (by rw[<-he];exact hu));refine⟨hv.1,css++[cs],?_,hF2.1,hF2.tF,fun j c y k1 k2=>(hF2.2 j c y k1 k2).bz fun g hg=>.inl hg⟩;rw[List.length_append,List.length_singleton,<-he];exact hv.2.2.bz fun g hg=>.inr ⟨by have:=hv.2.1;omega,_,_,aH,by omega,by omega⟩
set_option maxHeartbeats 2000000 in
theorem CT{C D S:Nat->Prop}{w:World}{v u:Value}{M:List (List Rat)}{b:List Rat}{cols h:Nat}(hC:Old C w)(hD:Old D w)(hS:Old S w)(hM:lO w C S v M)(hb:ek w D S u b)(hbl:b.length=M.length)(hlen:qo cols M)(hn:cols<=999)(hR:M.length<=1000)(hB:tG (gj M b) (cols+1) h)(hh:3*h<=90000):
  dQ PG N.gK #[.agg #[v,.int .i64 cols],u] w (dU w fun v' w2=>(gk M b cols=none∧v'= .tuple #[.slice none 0 0,.bool false])∨∃x vx,gk M b cols=some x∧v'= .tuple #[vx,.bool true]∧dK w2 S w.heap.size [(w.heap.size,w2.heap.size)] vx cols x):=by
 have hw:cF w.heap.size w w:=cF.refl;obtain⟨am,cm,rfl,hcm,hmm⟩:=lO.shape hM;obtain⟨ab,cb,rfl,hcb,hmb⟩:=ek.shape hb;unfold maxLen at hmm hmb;refine lE (by simp) ?_;conv=>whnf
 refine⟨((cols+1:Nat):Int),by rw[wrap64]<;>omega,?_⟩;conv=>whnf
 refine⟨Nat×List Value×World×Iv,fun z=>⟨[(20,.o (.v (.int .i64 ((z.1:Nat):Int)))),(1,.o (.v (.slice ab b.length cb))),(2,.o (.p 0 0)),(6,.o (.p 1 0)),(18,.o (.v (.slice am M.length cm))),(19,.o (.v (.int .i64 M.length)))],[(1,.box T.dW [.w 2 z.2.1.length,.v (.int .i64 ((cols+1:Nat):Int))]),(2,.vec T.gX 1 z.2.1),(0,.box T.dW [.v (.slice am M.length cm),.v (.int .i64 cols)])],3,z.2.2.2,z.2.2.1⟩,fun z=>M.length-z.1,
  fun z=>z.1<=M.length∧cF w.heap.size w z.2.2.1∧dP z.2.2.1 (Cv S w.heap.size z.2.2.2) z.2.1 ((gj M b).take z.1),?_,?_⟩
 ·intro ρ w' r
  exact⟨(0,[],w',[]),⟨aO _,hw.tr r.bs,by simp[dP]⟩,Sub.yT 1 0 T.gX 1 rfl rfl (by simp[cO,SV.sc,At.sc,cJ]) r fun ρ1 r1=>
   Sub.gen [] r1 ⟨rfl,rfl,rfl,trivial⟩ ⟨rfl,rfl,rfl,rfl,rfl,rfl,trivial⟩ (by simp[cY,cN.scopd,At.sc]) (by simp[cO,SV.sc,At.sc]) (by rfl) (fun lo hi h=>h)⟩
 clear hw;rintro⟨i,rv,w1,iv⟩ ⟨hi,hw,hK⟩;dsimp only at hi hw hK ⊢;have hrl:rv.length=i:=by rw[hK.1,aW,jC];omega
 conv=>whnf
 refine cW.mk (fun hib=>?_) (fun hib=>?_)
 ·have hib:i<M.length:=by simpa using hib
  obtain⟨x,hx⟩:∃r,M[i]? =some r:=⟨_,aA hib⟩
  have hxl:=hlen x (aD hx);obtain⟨q,hq⟩:∃r,b[i]? =some r:=⟨_,aA (by omega)⟩
  have hqd:b.getD i 0=q:=by rw[List.getD,hq];rfl
  have hnext:(gj M b).take (i+1)=(gj M b).take i++[x++[q]]:=by
   rw[List.take_add_one,show(gj M b)[i]? =some (x++[q]) by rw[gj,List.getElem?_mapIdx,hx,<-hqd];rfl];rfl
  obtain⟨adm,um,ham,hRm,km1,km2⟩:=lO.load hM hx;obtain⟨css,⟨-,g1,g2,a0,c0,rfl,g4,g5⟩,hcl,hc4,hcs⟩:=hRm;have hfl:=eH hc4;obtain⟨adq,cs,haq,hF,hl⟩:=ek.load hb hq;obtain⟨b3,a3,n3,c3,b4,a4,n4,c4,rfl,hF⟩:=hF;conv=>whnf
  refine⟨adm,ham,⟨by omega,by omega⟩,?_⟩;conv=>whnf
  refine⟨.slice a0 x.length c0,fun ρ w' r=>?_,?_⟩
  ·rw[aB,bo (w:=w) (w2:=w') (by rw[cC];exact(hw.tr r.bs).block _ (hC _ km1))];exact km2
  conv=>whnf
  refine gA hτ dH (.x 0 (.x 3 (.x 5 (.x 6 (.x 7 (.ld 1 28672 (.ld 8 32256 (.two 2 (.two 4 (.x 9 (.x 10 (.oy 6 (.x 11 (.x 12 (.x 13 (.x 14 .nil))))))) 9 (.x 4 (.x 10 (.oy 6 (.x 11 (.x 12 (.x 13 (.x 14 .nil)))))))) 9 (.x 2 (.x 4 (.x 10 (.oy 6 (.x 11 (.x 12 (.x 13 (.x 14 .nil)))))))))))))))) (by kernel_rfl) (by kernel_rfl) ?_;conv=>whnf
  refine⟨adq,haq,⟨by omega,by omega⟩,?_⟩;conv=>whnf
  refine⟨[.bool b3,.slice a3 n3 c3,.bool b4,.slice a4 n4 c4],rfl,fun ρ w' r j u hu=>?_,?_⟩
  ·obtain⟨k1,k2⟩:=hl j u hu;rw[aB,bo (w:=w) (w2:=w') (by rw[cC,cC];exact(hw.tr r.bs).block _ (hD _ k1))];exact k2
  conv=>whnf
  refine⟨?_,?_⟩
  ·conv=>whnf
   refine⟨[.bool b3,.slice a3 n3 c3,.bool b4,.slice a4 n4 c4],rfl,fun ρ w' r j u hu=>?_,?_⟩
   ·obtain⟨k1,k2⟩:=hl j u hu;rw[aB,bo (w:=w) (w2:=w') (by rw[cC,cC];exact(hw.tr r.bs).block _ (hD _ k1))];exact k2
   conv=>whnf
   refine⟨rfl,?_⟩;conv=>whnf
   refine⟨rfl,?_⟩;conv=>whnf
   refine⟨?_,?_⟩
   ·conv=>whnf
    refine .inl ?_;conv=>whnf
    refine⟨css.flatten,g1,g2,fun ρ w' r hpos=>?_,?_⟩
    ·obtain⟨u0,hu0⟩:∃u,css.flatten[0]? =some u:=⟨_,aA (by omega)⟩
     obtain⟨ad,ha,_,_⟩:=g5 0 u0 hu0;refine⟨ad,ha,fun j u hj=>?_⟩;obtain⟨ad2,ha2,q1,q2⟩:=g5 j u hj;rw[ha]at ha2;injection ha2 with ha2;subst ha2;rw[bo (w:=w) (w2:=w') (by rw[cC];exact(hw.tr r.bs).block _ (hS _ q1))];exact q2
    conv=>whnf
    refine⟨rfl,by omega,by unfold maxLen;omega,?_⟩;conv=>whnf
    rw[aP x.length];refine⟨[.bool b3,.slice a3 n3 c3,.bool b4,.slice a4 n4 c4],rfl,fun ρ w' r j u hu=>?_,?_⟩
    ·obtain⟨k1,k2⟩:=hl j u hu;rw[aB,bo (w:=w) (w2:=w') (by rw[cC,cC];exact(hw.tr r.bs).block _ (hD _ k1))];exact k2
    conv=>whnf
    refine⟨rfl,?_⟩;conv=>whnf
    refine⟨rfl,?_⟩;conv=>whnf
    refine⟨rfl,?_⟩;conv=>whnf
    refine .inl ?_;conv=>whnf
    refine⟨by rw[<-g1];rfl,by omega,by unfold maxLen;omega,?_⟩;conv=>whnf
    refine⟨rfl,?_⟩;conv=>whnf
    refine⟨[(1,.box T.dW [.w 2 rv.length,.v (.int .i64 ((cols+1:Nat):Int))]),(2,.vec T.gX 1 rv),(0,.box T.dW [.v (.slice am M.length cm),.v (.int .i64 cols)])],_,rfl,by simp,⟨rfl,rfl,rfl,trivial⟩,rfl,fun ρ w' r=>?_⟩;have hv:=Av (S:=S) (x:=x) (q:=q) (css:=css) r (id:=6) rfl ⟨hcl,fun j cs q k1 k2=>(hcs j cs q k1 k2).bu fun g hg=>(hw.tr r.bs).block g (hS g hg)⟩ (hF.bu fun g hg=>(hw.tr r.bs).block g (hS g hg)).oL (by unfold maxLen;omega);refine⟨hv.1,_,qP (tl:=[(25,.o (.p 1 0)),(26,.o (.w 2 rv.length)),(20,.o (.v (.int .i64 ((i:Nat):Int)))),(1,.o (.v (.slice ab b.length cb))),(2,.o (.p 0 0)),(6,.o (.p 1 0)),(18,.o (.v (.slice am M.length cm))),(19,.o (.v (.int .i64 M.length)))]) hv.1 (t:=35) (n:=x.length+1) rfl ⟨rfl,rfl,rfl,rfl,rfl,rfl,rfl,rfl,trivial⟩ (by simp[cO,SV.sc,At.sc]),?_⟩;replace hK:=(dP.bz (hK.rel r hS) (fun g hg=>hg.mono fun p hp=>aC _ hp)).push rfl hv.2;rw[<-hnext]at hK;replace hw:=hw.tr r.bs;clear hv r;generalize (ρ 6).g=gx at*
    generalize (ρ 6).cap=cx at*
    generalize (gx,gx+1)::iv=iv2 at*
    conv=>whnf
    refine⟨rfl,?_⟩;conv=>whnf
    refine .inl ?_;conv=>whnf
    refine⟨by simp,by omega,by unfold maxLen;omega,?_⟩;conv=>whnf
    refine⟨((i+1:Nat):Int),by rw[wrap64]<;>omega,?_⟩;conv=>whnf
    intro ρ3 w3 r3;exact⟨(i+1,rv++[.slice (some ⟨gx,0,none⟩) (x.length+1) cx],w3,_),⟨hib,hw.tr r3.bs,hK.rel r3 hS⟩,Sub.gen [(2,8)] r3 ⟨by dsimp only;rw[List.length_append,List.length_singleton];rfl,rfl,rfl,trivial⟩ ⟨rfl,rfl,rfl,rfl,rfl,rfl,trivial⟩ (by simp[cY,cN.scopd,At.sc]) (by simp[cO,SV.sc,At.sc]) (by rfl) (fun lo hi h=>h),by dsimp only;omega⟩
   ·conv=>whnf
    refine⟨rfl,?_⟩;conv=>whnf
    refine .inl ?_;conv=>whnf
    refine⟨css.flatten,g1,g2,fun ρ w' r hpos=>?_,?_⟩
    ·obtain⟨u0,hu0⟩:∃u,css.flatten[0]? =some u:=⟨_,aA (by omega)⟩
     obtain⟨ad,ha,_,_⟩:=g5 0 u0 hu0;refine⟨ad,ha,fun j u hj=>?_⟩;obtain⟨ad2,ha2,q1,q2⟩:=g5 j u hj;rw[ha]at ha2;injection ha2 with ha2;subst ha2;rw[bo (w:=w) (w2:=w') (by rw[cC];exact(hw.tr r.bs).block _ (hS _ q1))];exact q2
    conv=>whnf
    refine⟨rfl,by omega,by unfold maxLen;omega,?_⟩;conv=>whnf
    rw[aP x.length];refine⟨rfl,?_⟩;conv=>whnf
    refine .inl ?_;conv=>whnf
    refine⟨by rw[<-g1];rfl,by omega,by unfold maxLen;omega,?_⟩;conv=>whnf
    refine⟨rfl,?_⟩;conv=>whnf
    refine⟨[(1,.box T.dW [.w 2 rv.length,.v (.int .i64 ((cols+1:Nat):Int))]),(2,.vec T.gX 1 rv),(0,.box T.dW [.v (.slice am M.length cm),.v (.int .i64 cols)])],_,rfl,by simp,⟨rfl,rfl,rfl,trivial⟩,rfl,fun ρ w' r=>?_⟩;have hv:=Av (S:=S) (x:=x) (q:=q) (css:=css) r (id:=6) rfl ⟨hcl,fun j cs q k1 k2=>(hcs j cs q k1 k2).bu fun g hg=>(hw.tr r.bs).block g (hS g hg)⟩ (hF.bu fun g hg=>(hw.tr r.bs).block g (hS g hg)).oL (by unfold maxLen;omega);refine⟨hv.1,_,qP (tl:=[(25,.o (.p 1 0)),(26,.o (.w 2 rv.length)),(20,.o (.v (.int .i64 ((i:Nat):Int)))),(1,.o (.v (.slice ab b.length cb))),(2,.o (.p 0 0)),(6,.o (.p 1 0)),(18,.o (.v (.slice am M.length cm))),(19,.o (.v (.int .i64 M.length)))]) hv.1 (t:=35) (n:=x.length+1) rfl ⟨rfl,rfl,rfl,rfl,rfl,rfl,rfl,rfl,trivial⟩ (by simp[cO,SV.sc,At.sc]),?_⟩;replace hK:=(dP.bz (hK.rel r hS) (fun g hg=>hg.mono fun p hp=>aC _ hp)).push rfl hv.2;rw[<-hnext]at hK;replace hw:=hw.tr r.bs;clear hv r;generalize (ρ 6).g=gx at*
    generalize (ρ 6).cap=cx at*
    generalize (gx,gx+1)::iv=iv2 at*
    conv=>whnf
    refine⟨rfl,?_⟩;conv=>whnf
    refine .inl ?_;conv=>whnf
    refine⟨by simp,by omega,by unfold maxLen;omega,?_⟩;conv=>whnf
    refine⟨((i+1:Nat):Int),by rw[wrap64]<;>omega,?_⟩;conv=>whnf
    intro ρ3 w3 r3;exact⟨(i+1,rv++[.slice (some ⟨gx,0,none⟩) (x.length+1) cx],w3,_),⟨hib,hw.tr r3.bs,hK.rel r3 hS⟩,Sub.gen [(2,8)] r3 ⟨by dsimp only;rw[List.length_append,List.length_singleton];rfl,rfl,rfl,trivial⟩ ⟨rfl,rfl,rfl,rfl,rfl,rfl,trivial⟩ (by simp[cY,cN.scopd,At.sc]) (by simp[cO,SV.sc,At.sc]) (by rfl) (fun lo hi h=>h),by dsimp only;omega⟩
  ·conv=>whnf
   refine⟨rfl,?_⟩;conv=>whnf
   refine⟨rfl,?_⟩;conv=>whnf
   refine .inl ?_;conv=>whnf
   refine⟨css.flatten,g1,g2,fun ρ w' r hpos=>?_,?_⟩
   ·obtain⟨u0,hu0⟩:∃u,css.flatten[0]? =some u:=⟨_,aA (by omega)⟩
    obtain⟨ad,ha,_,_⟩:=g5 0 u0 hu0;refine⟨ad,ha,fun j u hj=>?_⟩;obtain⟨ad2,ha2,q1,q2⟩:=g5 j u hj;rw[ha]at ha2;injection ha2 with ha2;subst ha2;rw[bo (w:=w) (w2:=w') (by rw[cC];exact(hw.tr r.bs).block _ (hS _ q1))];exact q2
   conv=>whnf
   refine⟨rfl,by omega,by unfold maxLen;omega,?_⟩;conv=>whnf
   rw[aP x.length];refine⟨rfl,?_⟩;conv=>whnf
   refine .inl ?_;conv=>whnf
   refine⟨by rw[<-g1];rfl,by omega,by unfold maxLen;omega,?_⟩;conv=>whnf
   refine⟨rfl,?_⟩;conv=>whnf
   refine⟨[(1,.box T.dW [.w 2 rv.length,.v (.int .i64 ((cols+1:Nat):Int))]),(2,.vec T.gX 1 rv),(0,.box T.dW [.v (.slice am M.length cm),.v (.int .i64 cols)])],_,rfl,by simp,⟨rfl,rfl,rfl,trivial⟩,rfl,fun ρ w' r=>?_⟩;have hv:=Av (S:=S) (x:=x) (q:=q) (css:=css) r (id:=6) rfl ⟨hcl,fun j cs q k1 k2=>(hcs j cs q k1 k2).bu fun g hg=>(hw.tr r.bs).block g (hS g hg)⟩ (hF.bu fun g hg=>(hw.tr r.bs).block g (hS g hg)).oL (by unfold maxLen;omega);refine⟨hv.1,_,qP (tl:=[(25,.o (.p 1 0)),(26,.o (.w 2 rv.length)),(20,.o (.v (.int .i64 ((i:Nat):Int)))),(1,.o (.v (.slice ab b.length cb))),(2,.o (.p 0 0)),(6,.o (.p 1 0)),(18,.o (.v (.slice am M.length cm))),(19,.o (.v (.int .i64 M.length)))]) hv.1 (t:=35) (n:=x.length+1) rfl ⟨rfl,rfl,rfl,rfl,rfl,rfl,rfl,rfl,trivial⟩ (by simp[cO,SV.sc,At.sc]),?_⟩;replace hK:=(dP.bz (hK.rel r hS) (fun g hg=>hg.mono fun p hp=>aC _ hp)).push rfl hv.2;rw[<-hnext]at hK;replace hw:=hw.tr r.bs;clear hv r;generalize (ρ 6).g=gx at*
   generalize (ρ 6).cap=cx at*
   generalize (gx,gx+1)::iv=iv2 at*
   conv=>whnf
   refine⟨rfl,?_⟩;conv=>whnf
   refine .inl ?_;conv=>whnf
   refine⟨by simp,by omega,by unfold maxLen;omega,?_⟩;conv=>whnf
   refine⟨((i+1:Nat):Int),by rw[wrap64]<;>omega,?_⟩;conv=>whnf
   intro ρ3 w3 r3;exact⟨(i+1,rv++[.slice (some ⟨gx,0,none⟩) (x.length+1) cx],w3,_),⟨hib,hw.tr r3.bs,hK.rel r3 hS⟩,Sub.gen [(2,8)] r3 ⟨by dsimp only;rw[List.length_append,List.length_singleton];rfl,rfl,rfl,trivial⟩ ⟨rfl,rfl,rfl,rfl,rfl,rfl,trivial⟩ (by simp[cY,cN.scopd,At.sc]) (by simp[cO,SV.sc,At.sc]) (by rfl) (fun lo hi h=>h),by dsimp only;omega⟩
 have hib:i=M.length:=aM hi (by simpa using hib);rw[List.take_of_length_le (by rw[jC];omega)]at hK;have hwl:=CS (b:=b) hlen;obtain⟨f1,f2,f3,f4,f5⟩:=oM (cols+1) hwl;generalize hA:(dF (gj M b) (cols+1)).1=A at*
 generalize hP:(dF (gj M b) (cols+1)).2.1=pv at*
 conv=>whnf
 refine⟨((cols+1:Nat):Int),by rw[wrap64]<;>omega,?_⟩;conv=>whnf
 refine bp (cA (Φ:=fun _ w' v w2=>∃vr vp vf,v= .agg #[vr,.int .i64 ((cols+1:Nat):Int),vp,vf]∧cI w2 (Nw (Cv S w.heap.size iv) w' w2) vr A∧dL w2 (Nw (fun _=>False) w' w2) vp pv∧dL w2 (Nw (fun _=>False) w' w2) vf (dF (gj M b) (cols+1)).2.2) (fun ρ w' r=>by
  rw[<-hA,<-hP]
  exact nS (C:=fun g=>g<w'.heap.size) (fun g hg=>hg) (Rel.old r hS) ⟨rv,by rw[jC,<-hib,<-hrl];exact(r.gB (id:=2) (sz:=1) (m:=rv.length) rfl (by simp) (by unfold maxLen;omega) (by decide) hK.2.1).bz fun g hg=>hg.2,hK.1,fun i u x h1 h2=>cB.rel (hK.2.2 i u x h1 h2) r hS⟩ hwl (by omega) (by omega) (by rw[jC];omega) (aI _) hB hh) ?_)
 rintro ρ wa1 v1 wb1 r he hb1 ⟨vr,vp,vf,rfl,k1,k2,k3⟩;replace hw:=hw.tr hb1;have hR:=cI.old k1 r.bm;have hV:=dL.cQ (S:=fun _=>False) k2 r.bm (iv:=(wa1.heap.size,wb1.heap.size)::iv) aH;have hX:=dL.cQ (S:=fun _=>False) k3 r.bm (iv:=(wa1.heap.size,wb1.heap.size)::iv) aH;clear r he hb1 k1 k2 k3 hK;generalize (wa1.heap.size,wb1.heap.size)::iv=iv1 at*
 obtain⟨ar,cr,rfl,hcr,hmr⟩:=dS.shape hR;obtain⟨ap,cp,rfl,hcp,hmp⟩:=dL.shape hV;obtain⟨af,cf,rfl,-,-⟩:=dL.shape hX;clear hX;conv=>whnf
 refine bp (cA (Φ:=fun _ w' v w2=>dK w2 (fun _=>False) w'.heap.size [(w'.heap.size,w2.heap.size)] v cols (List.replicate cols 0)) (fun ρ w' r=>zk cols w' (by omega)) ?_);rintro ρ wa2 v2 wb2 r he hb1 hn;replace hw:=hw.tr hb1;replace hR:=cI.bz (S':=Bs S w.heap.size ((wa2.heap.size,wb2.heap.size)::iv1) v2) (cI.bu (cI.rel hR r hS) fun g hg=>he.block g (Rel.old r hS g hg)) fun g hg=>Bs.of r hS (fun x hx=>aC _ hx) hn hg;replace hV:=dL.bz (S':=Bs (fun _=>False) w.heap.size ((wa2.heap.size,wb2.heap.size)::iv1) v2) (dL.bu (dL.rel hV r (bl w)) fun g hg=>he.block g (Rel.old r (bl w) g hg)) fun g hg=>Bs.of r (bl w) (fun x hx=>aC _ hx) hn hg;have hX:=hn.cQ (S:=S) r.bm (iv:=(wa2.heap.size,wb2.heap.size)::iv1) aH;clear r he hb1 hn;generalize (wa2.heap.size,wb2.heap.size)::iv1=iv2 at*
 obtain⟨ax,cx,rfl,hcx⟩:=hX.row.form;have hXl:=hX.row.le;unfold maxLen at hXl;conv=>whnf
 refine⟨Nat×World×Iv,fun z=>⟨[(51,.o (.v (.int .i64 ((z.1:Nat):Int)))),(2,.o (.p 0 0)),(9,.o (.p 3 0)),(10,.o (.v (.slice ax cols cx))),(49,.o (.v (.slice ap pv.length cp))),(50,.o (.v (.int .i64 pv.length)))],[(3,.box T.db [.v (.slice ar A.length cr),.v (.int .i64 ((cols+1:Nat):Int)),.v (.slice ap pv.length cp),.v (.slice af (dF (gj M b) (cols+1)).2.2.length cf)]),(0,.box T.dW [.v (.slice am M.length cm),.v (.int .i64 cols)])],4,z.2.2,z.2.1⟩,fun z=>pv.length-z.1,
  fun z=>z.1<=pv.length∧(∀(t p:Nat),t<z.1->pv[t]? =some p->p≠cols)∧cF w.heap.size w z.2.1∧cI z.2.1 (Bs S w.heap.size z.2.2 (.slice ax cols cx)) (.slice ar A.length cr) A∧dL z.2.1 (Bs (fun _=>False) w.heap.size z.2.2 (.slice ax cols cx)) (.slice ap pv.length cp) pv∧dK z.2.1 S w.heap.size z.2.2 (.slice ax cols cx) cols (oc A pv cols z.1),?_,?_⟩
 ·intro ρ w' r;exact⟨(0,w',_),⟨aO _,fun t p ht=>absurd ht (bj t),hw.tr r.bs,cI.bu hR (Bs.same r hS),dL.bu hV (Bs.same r (bl w)),hX.rel r hS⟩,Sub.gen [] r ⟨rfl,rfl,trivial⟩ ⟨rfl,rfl,rfl,rfl,rfl,rfl,trivial⟩ (by simp[cY,cN.scopd,At.sc]) (by simp[cO,SV.sc,At.sc]) (by rfl) (fun lo hi h=>h)⟩
 clear hw hR hV hX;rintro⟨k,w3,iv⟩ ⟨hk,hnc,hw,hR,hV,hX⟩;dsimp only at hk hnc hw hR hV hX ⊢;conv=>whnf
 refine cW.mk (fun hkb=>?_) (fun hkb=>?_)
 ·have hkb:k<pv.length:=by simpa using hkb
  obtain⟨p,hp⟩:∃p,pv[k]? =some p:=⟨_,aA hkb⟩
  have hpc:=f4 p (aD hp);obtain⟨adp,hap,kp1,kp2⟩:=hV.at hp;conv=>whnf
  refine⟨adp,hap,⟨by omega,by omega⟩,?_⟩;conv=>whnf
  refine⟨.int .i64 (p:Int),fun ρ w' r=>?_,?_⟩
  ·rw[aB,bo (w:=w3) (w2:=w') (by rw[cC];exact Rel.same r (bl w) kp1.1)];exact kp2
  conv=>whnf
  refine cW.mk (fun he=>?_) (fun he=>?_)
  ·have he:p=cols:=by
    have:(p:Int)=cols:=by simpa using he
    omega
   conv=>whnf
   intro ρe we re;refine⟨_,rfl,hw.tr re.bs,.inl ⟨?_,rfl⟩⟩;unfold gk;simp only[hP]
   rw[aQ (by rw[<-he];exact aD hp)]
  have he:p≠cols:=fun e=>by rw[e]at he;simp at he
  obtain⟨x,hx⟩:∃x,A[k]? =some x:=⟨_,aA (by omega)⟩
  have hxl:=f3 x (aD hx);obtain⟨q,hq⟩:∃q,x[cols]? =some q:=⟨_,aA (by omega)⟩
  have hat:l0 A k cols=q:=by simp[l0,List.getD,hx,hq]
  obtain⟨adm,um,ham,hRm,km1,km2⟩:=dS.load hR hx;obtain⟨a0,c0,rfl,hc0,-⟩:=cd.shape hRm;obtain⟨adq,cs,haq,hF,_,hl⟩:=cd.load hRm hq;obtain⟨g0,g1,g2,g3,g4,g5,g6,g7,rfl,hF⟩:=hF;conv=>whnf
  refine bw hτ dH [.x 0,.x 1,.x 2,.x 3,.x 4,.x 5,.x 6,.x 7,.x 8,.x 9,.x 10,.x 11,.x 12,.x 13] (by kernel_rfl) (by kernel_rfl) ?_;conv=>whnf
  refine⟨adm,ham,⟨by omega,by omega⟩,?_⟩;conv=>whnf
  refine⟨.slice a0 x.length c0,fun ρ w' r=>?_,?_⟩
  ·rw[aB,bo (w:=w3) (w2:=w') (by rw[cC];exact Rel.same r hS km1.1)];exact km2
  conv=>whnf
  refine⟨adq,haq,⟨by omega,by omega⟩,?_⟩;conv=>whnf
  refine⟨[.bool g0,.slice g1 g2 g3,.bool g4,.slice g5 g6 g7],rfl,fun ρ w' r j u hu=>?_,?_⟩
  ·obtain⟨k1,k2⟩:=hl j u hu;rw[aB,bo (w:=w3) (w2:=w') (by rw[cC,cC];exact Rel.same r hS k1.1)];exact k2
  conv=>whnf
  obtain⟨gx,hgx⟩:∃g,ax=some ⟨g,0,none⟩:=by
   obtain⟨css,h1,h2,h3⟩:=hX.row;rcases h1.2 with⟨_,h0⟩|⟨g,cap,cur,e,_⟩
   ·omega
   ·injection e with e;exact⟨g,e⟩
  subst hgx;refine⟨⟨gx,0,none⟩,rfl,⟨by omega,by omega⟩,?_⟩;conv=>whnf
  intro ρ w' r;obtain⟨g,hg,h1,h2,h3,h4,h5⟩:=(hX.rel r hS).store (j:=p) (by omega) (hF.bu (Bs.same r hS)) r hS;injection hg with hg;injection hg with hg;subst hg;refine⟨h1,h2,h3,fun w5 hw5=>?_⟩;obtain⟨k1,k2,k3⟩:=h5 w5 hw5;have hw2:cF w.heap.size w w5:=(hw.tr r.bs).tr (cF.grown k2 (fun g e=>by injection e with e;subst e;exact h4.elim (fun h=>h.elim) fun h=>h.1) r.bm);have hR2:=cI.bu hR (Bs.kept r hS k2 fun g e=>e);have hV2:=dL.bu hV (Bs.kept r (bl w) k2 fun g e=>e);have hnext:(oc A pv cols k).set p q=oc A pv cols (k+1):=by rw[zp,hat,List.getD,hp];rfl
  rw[hnext]at k1;clear hX hR hV hw h1 h2 h3 h4 h5 hw5 k2 k3 r hF hl;conv=>whnf
  refine⟨((k+1:Nat):Int),by rw[wrap64]<;>omega,?_⟩;conv=>whnf
  intro ρ3 w6 r3
  exact⟨(k+1,w6,_),⟨hkb,fun t p2 ht hp2=>by
   by_cases htk:t=k
   ·rw[htk,hp]at hp2;injection hp2 with hp2;rw[<-hp2];exact he
   ·exact hnc t p2 (by dsimp only at ht;omega) hp2,hw2.tr r3.bs,cI.bu hR2 (Bs.same r3 hS),dL.bu hV2 (Bs.same r3 (bl w)),k1.rel r3 hS⟩,Sub.gen [] r3 ⟨rfl,rfl,trivial⟩ ⟨rfl,rfl,rfl,rfl,rfl,rfl,trivial⟩ (by simp[cY,cN.scopd,At.sc]) (by simp[cO,SV.sc,At.sc]) (by rfl) (fun lo hi h=>h),by dsimp only;omega⟩
 have hkb:k=pv.length:=aM hk (by simpa using hkb);subst hkb;conv=>whnf
 intro ρe we re;refine⟨_,rfl,hw.tr re.bs,.inr ⟨_,_,?_,rfl,hX.Gk re hS⟩⟩;unfold gk;simp only[hA,hP]
 rw[aL];intro hm;obtain⟨t,ht⟩:=aU hm;exact hnc t cols (aE.1 ht).1 ht rfl
theorem vM{C S:Nat->Prop}{w:World}{v u:Value}{M:List (List Rat)}{b:List Rat}{cols h:Nat}(hC:Old C w)(hS:Old S w)(hM:lO w C S v M)(hb:cB w S u b)(hbl:b.length=M.length)(hlen:qo cols M)(hn:cols<=999)(hR:M.length<=1000)(hB:tG (gj M b) (cols+1) h)(hh:3*h<=90000):
  dQ PG N.gK #[.agg #[v,.int .i64 cols],u] w (dU w fun v' w2=>(gk M b cols=none∧v'= .tuple #[.slice none 0 0,.bool false])∨∃x vx,gk M b cols=some x∧v'= .tuple #[vx,.bool true]∧dK w2 S w.heap.size [(w.heap.size,w2.heap.size)] vx cols x):=
 CT hC hS hS hM (cB.rc hb) hbl hlen hn hR hB hh
end Go.Ex
