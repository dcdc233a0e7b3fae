/- A part of the proof: texts X134 to X137. Each tells its conditions in its theorems. -/
import Derived.Test.YtkdcaknoaeicdaaGreatP9
namespace Go.Ex
open Go Go.Sx Go.Proofs
variable{iv:Iv}{E M:List (List Rat)}{css:List (List Value)}{at_:List (Option Nat)}{fr ps pv:List Nat}{b qs r row u x y:List Rat}{cs rv:List Value}{B c cols g h i id j n p:Nat}{C S S0:Nat->Prop}{O:Nat->Sx.dU}{a ax:Option Addr}{q:Rat}{v:Value}{w:World}{s:vC}
theorem Hf{α:Type}(a b:α)(h:i<c):(List.replicate i a++List.replicate (c-i) b).take i++[a]++(List.replicate i a++List.replicate (c-i) b).drop (i+1)=List.replicate (i+1) a++List.replicate (c-(i+1)) b:=by
 rw[List.take_left' (bE ..),List.drop_append,bE,List.drop_of_length_le (by rw[bE];omega),List.nil_append,List.drop_replicate,List.replicate_succ'];congr 2;omega
def kJ(w:World)(C S:Nat->Prop)(v:Value)(M:List (List Rat)):Prop:=∃rv,jN w C 1 v rv M.length∧rv.length=M.length∧∀(i:Nat) u x,rv[i]? =some u->M[i]? =some x->cF w S u x
theorem kJ.shape(h:kJ w C S v M):∃a c,v= .slice a M.length c∧M.length<=c∧M.length<=maxLen:=by
 obtain⟨rv,⟨h0,_,_,a,c,h1,h2,_⟩,_⟩:=h;exact⟨a,c,h1,h2,h0⟩
theorem kJ.load{m:Nat}(h:kJ w C S (.slice a m c) M)(hq:M[j]? =some x):
  ∃ad u,a=some ad∧cF w S u x∧C ad.block∧w.cell? (ad.add (j*1))=some u:=by
 obtain⟨rv,⟨h0,h1,h2,a',c',e,h3,h4⟩,hl,hf⟩:=h;injection e with e1 e2 e3;subst e1;obtain⟨u,hu⟩:∃u,rv[j]? =some u:=⟨_,aA (by rw[hl];exact(aC.1 hq).1)⟩
 obtain⟨ad,k1,k2,k3⟩:=h4 j u hu;exact⟨ad,u,k1,hf j u x hu hq,k2,by rw[ai];exact k3⟩
def Ic:Option Nat->Value
 |none=>.int .i64 (-1)
 |some j=>.int .i64 (j:Int)
structure BK(M:List (List Rat))(cols h:Nat):Prop where
 rows:∀i,i<=M.length->∀r∈(gP M cols i).1,∀q∈r,rl q+1<=h
 kp:∀i,i<M.length->∀k,k<=cols->∀q∈fP (gP M cols i).1 (gP M cols i).2.1 (M.getD i []) k,rl q+1<=h
theorem yb{k:Nat}(h:at_[k]? =some (some j)):fP E at_ row (k+1)=lA (fP E at_ row k) (E.getD j []) ((fP E at_ row k).getD k 0):=by
 rw[fP,show at_.getD k none=some j by rw[List.getD,h];rfl]
theorem Ds{k:Nat}(h:at_[k]? =some none):fP E at_ row (k+1)=fP E at_ row k:=by
 rw[fP,show at_.getD k none=none by rw[List.getD,h];rfl]
theorem Hg{α:Type}{l:List α}(a b:α)(h:j<l.length):(l++[a]).set j b=l.set j b++[a]:=by rw[List.set_append,if_pos h]
theorem Dt(hred:(E,at_,fr)=gP M cols i)(hx:M.getD i []=x)(hy:fP E at_ x cols=y)(hp:rZ y cols=cols):(E,at_,fr)=gP M cols (i+1):=by
 rw[gP,<-hred,hx,j6];simp only[hy,hp,if_true]
theorem Du(hred:(E,at_,fr)=gP M cols i)(hx:M.getD i []=x)(hy:fP E at_ x cols=y)(hp:rZ y cols=p)(hne:p≠cols):
  gP M cols (i+1)=(ff E (y.map (· / y.getD p 0)) p E.length++[y.map (· / y.getD p 0)],at_.set p (some E.length),fr++[i]):=by
 rw[gP,<-hred,hx,j6];simp only[hy,hp,aF hne]
theorem Hh(q:Rat)(y:List Rat):gQ y.length (fun _ r=>r / q) y=y.map (· / q):=by
 rw[tx];exact bO fun j=>by rw[List.getElem?_mapIdx,aM]
theorem Dv(h:E[i]? =some r)(h0:r.getD p 0=0):ff E u p (i+1)=ff E u p i:=by
 rw[xM h,h0,xL];refine bO fun j=>?_;by_cases hj:i=j
 ·subst hj;rw[aT (by rw[fS];exact(aC.1 h).1),CE h]
 ·rw[aw hj]
def jx(rv:List Value)(at_:List (Option Nat)):Nat->List Value
 |0=>[]
 |k+1=>match at_.getD k none with
  |some r=>jx rv at_ k++[rv.getD r (.bool false)]
  |none=>jx rv at_ k
theorem lQ{k:Nat}(h:s.2.1[k]? =some none):cV s (k+1)=cV s k:=by
 rw[cV,show s.2.1.getD k none=none by rw[List.getD,h];rfl]
theorem lS{k r:Nat}(h:s.2.1[k]? =some (some r)):cV s (k+1)=((cV s k).1++[s.1.getD r []],(cV s k).2.1++[k],(cV s k).2.2++[s.2.2.getD r 0]):=by
 rw[cV,show s.2.1.getD k none=some r by rw[List.getD,h];rfl]
theorem qv{k:Nat}(h:at_[k]? =some none):jx rv at_ (k+1)=jx rv at_ k:=by
 rw[jx,show at_.getD k none=none by rw[List.getD,h];rfl]
theorem qw{k r:Nat}(h:at_[k]? =some (some r)):jx rv at_ (k+1)=jx rv at_ k++[rv.getD r (.bool false)]:=by
 rw[jx,show at_.getD k none=some r by rw[List.getD,h];rfl]
theorem s6(s:vC)(rv:List Value):∀k,k<=s.2.1.length->(cV s k).1.length=(cV s k).2.1.length∧(cV s k).2.2.length=(cV s k).2.1.length∧(jx rv s.2.1 k).length=(cV s k).2.1.length∧(cV s k).2.1.length<=k
 |0,_=>⟨rfl,rfl,rfl,aE _⟩
 |k+1,hk=>by
  have ih:=s6 s rv k (by omega);obtain⟨o,ho⟩:∃o,s.2.1[k]? =some o:=⟨_,aA (by omega)⟩
  cases o with
  |none=>rw[lQ ho,qv ho];exact⟨ih.1,ih.2.1,ih.2.2.1,by have:=ih.2.2.2;omega⟩
  |some r=>rw[lS ho,qw ho];simp only[List.length_append,List.length_singleton];omega
theorem yc{E:List (List Rat)}{at_:List (Option Nat)}{fr:List Nat}{rv:List Value}(hl:rv.length=E.length)(hlt:∀(k r:Nat),at_[k]? =some (some r)->r<E.length):∀k,k<=at_.length->∀(i:Nat) u x,(jx rv at_ k)[i]? =some u->(cV (E,at_,fr) k).1[i]? =some x->∃r:Nat,rv[r]? =some u∧E[r]? =some x
 |0,_,i,u,x,h,_=>by cases h
 |k+1,hk,i,u,x,h1,h2=>by
  have ih:=yc (fr:=fr) hl hlt k (by omega) i u x;obtain⟨o,ho⟩:∃o,at_[k]? =some o:=⟨_,aA (by omega)⟩
  cases o with
  |none=>
   rw[qv ho]at h1;rw[lQ (s:=(E,at_,fr)) ho]at h2;exact ih h1 h2
  |some r=>
   have hr:=hlt k r ho;rw[qw ho]at h1;rw[lS (s:=(E,at_,fr)) ho]at h2;obtain⟨q1,q2,q3,q4⟩:=s6 (E,at_,fr) rv k (by dsimp only;omega);dsimp only at q1 q2 q3 q4 h2;rcases aO i (jx rv at_ k).length with hi|hi
   ·rw[aK hi]at h1;rw[aK (by omega)]at h2;exact ih h1 h2
   ·have hi0:i=(jx rv at_ k).length:=by have:=(aC.1 h1).1;simp at this;omega
    rw[hi0,aN (aE _),bH]at h1;rw[hi0,q3,<-q1,aN (aE _),bH]at h2;simp only[List.getElem?_cons_zero,Option.some.injEq]at h1 h2;refine⟨r,?_,?_⟩
    ·rw[<-h1,List.getD,aA (by omega)];rfl
    ·rw[<-h2,List.getD,aA hr];rfl
theorem Cc{α:Type}(l:List α)(a b:α):(l++[a]).set l.length b=l++[b]:=by simp
section
variable{S S':Nat->Prop}{H:Hp}{nx:Nat}{iv iv':Iv}{B:Nat}{w w' w2:World}{O:Nat->Sx.dU}{rv:List Value}{v:Value}{q:Rat}
theorem cP.Cd(h:cP w (Lr S B iv rv) v q)(r:Rel H nx iv B w O w')(hS:∀g,S g->g<B):cP w' (Lr S B iv rv) v q:=h.cB fun _ hg=>Rel.same r hS hg.1
theorem cP.Jb(h:cP w (Lr S B iv rv) v q)(r:Rel H nx iv B w O w')(hS:∀g,S g->g<B)(he:Ext w' w2)(hm:∀p,p∈iv->p∈iv'):cP w2 (Lr S B iv' rv) v q:=
 ((h.Cd r hS).cB fun g hg=>he.block g (Rel.old r hS g hg.1)).cC fun _ hg=>⟨hg.1.mono hm,hg.2⟩
theorem Lr.old(r:Rel H nx iv B w O w')(hS:∀g,S g->g<B):Old (Lr S B iv rv) w':=fun g hg=>Rel.old r hS g hg.1
theorem cP.LU(h:cP w2 (Nf w' w2) v q)(hM:kf w S B iv rv n M)(r:Rel H nx iv B w O w'):cP w2 (Lr S0 B ((w'.heap.size,w2.heap.size)::iv) rv) v q:=
 h.cC fun g hg=>by
  rcases hg with hg|hg
  ·exact hg.elim
  ·exact⟨.inr ⟨by have:=r.bw;omega,_,_,aI,hg.1,hg.2⟩,fun hm=>by have:=hM.lt r hm;omega⟩
end
set_option maxHeartbeats 2000000 in
theorem tz(hC:Old C w)(hS:Old S w)(hM:kJ w C S v M)(hlen:fp n M)(hn0:0<n)(hn:n<=1000)(hR:M.length<=1000)(hcols:cols<=n)(hB:BK M cols h)(hh:3*h<=90000):
  du PG N.fE #[.agg #[v,.int .i64 n],.int .i64 cols] w (eD w fun v' w2=>∃vr vp vf,v'= .agg #[vr,.int .i64 n,vp,vf]∧cO w2 (Nw S w w2) vr (dF M cols).1∧dO w2 (Nf w w2) vp (dF M cols).2.1∧dO w2 (Nf w w2) vf (dF M cols).2.2):=by
 have hw:cQ w.heap.size w w:=cQ.refl;obtain⟨am,cm,rfl,hcm,hmm⟩:=kJ.shape hM;unfold maxLen at hmm;refine jB (by simp) ?_
 refine⟨cols,cols,rfl,rfl,aE _,by omega,by omega,Nat×World,fun z=>⟨[(1,.o (.v (.int .i64 cols))),(2,.o (.p 0 0)),(4,.o (.p 1 0)),(5,.o (.p 2 0)),(6,.o (.s 3 0 cols cols)),(27,.o (.v (.int .i64 cols))),(28,.o (.v (.int .i64 ((z.1:Nat):Int))))],
   [(3,.arr T.int (List.replicate z.1 (.int .i64 (-1))++List.replicate (cols-z.1) (.int .i64 0))),(2,.box T.dK [.v (.slice none 0 0),.v (.int .i64 n),.v (.slice none 0 0),.v (.slice none 0 0)]),(1,.box T.dK [.v (.slice none 0 0),.v (.int .i64 0),.v (.slice none 0 0),.v (.slice none 0 0)]),(0,.box T.dR [.v (.slice am M.length cm),.v (.int .i64 n)])],4,[],z.2⟩,fun z=>cols-z.1,
  fun z=>z.1<=cols∧cQ w.heap.size w z.2,?_,?_⟩
 ·intro O w' r;exact⟨(0,w'),⟨aP _,hw.tr r.cI⟩,Sub.gn [] r ⟨by simp;rfl,rfl,rfl,rfl,trivial⟩⟩
 rintro⟨i,w1⟩ ⟨hi,hw⟩;dsimp only at hi hw ⊢;refine dH.mk (fun hib=>?_) (fun hib=>?_)
 ·have hib:i<cols:=by simpa using hib
  refine⟨by omega,by simp;omega,List.replicate (i+1) (.int .i64 (-1))++List.replicate (cols-(i+1)) (.int .i64 0),?_,?_⟩
  ·rw[aJ,ai,aU];exact Hf _ _ hib
  refine⟨((i+1:Nat):Int),wo,?_⟩;intro ρ3 w3 r3;exact⟨(i+1,w3),⟨hib,hw.tr r3.cI⟩,Sub.gn [] r3,by dsimp only;omega⟩
 have hib:i=cols:=aQ hi (by simpa using hib);rw[hib]
 refine⟨Nat×List Value×List (List Rat)×List (Option Nat)×List Nat×World×Iv,fun z=>⟨[(38,.o (.v (.int .i64 ((z.1:Nat):Int)))),(1,.o (.v (.int .i64 cols))),(2,.o (.p 0 0)),(4,.o (.p 1 0)),(5,.o (.p 2 0)),(6,.o (.s 3 0 cols cols)),(36,.o (.v (.slice am M.length cm))),(37,.o (.v (.int .i64 M.length)))],[(2,.box T.dK [.w 4 z.2.1.length,.v (.int .i64 n),.v (.slice none 0 0),.w 5 z.2.2.2.2.1.length]),(5,.vec T.int 1 (z.2.2.2.2.1.map fun c:Nat=>.int .i64 (c:Int))),(4,.vec T.jG 1 z.2.1),(0,.box T.dR [.v (.slice am M.length cm),.v (.int .i64 n)]),(1,.box T.dK [.v (.slice none 0 0),.v (.int .i64 0),.v (.slice none 0 0),.v (.slice none 0 0)]),(3,.arr T.int (z.2.2.2.1.map Ic))],6,z.2.2.2.2.2.2,z.2.2.2.2.2.1⟩,fun z=>M.length-z.1,
  fun z=>z.1<=M.length∧(z.2.2.1,z.2.2.2.1,z.2.2.2.2.1)=gP M cols z.1∧cQ w.heap.size w z.2.2.2.2.2.1∧kf z.2.2.2.2.2.1 S w.heap.size z.2.2.2.2.2.2 z.2.1 n z.2.2.1,?_,?_⟩
 ·intro O w' r
  exact⟨(0,[],[],List.replicate cols none,[],w',[]),⟨aP _,rfl,hw.tr r.cI,kf.nil⟩,Sub.zO 2 0 T.jG 1 rfl rfl (by simp[ko,SV.sc,At.sc]) r fun ρ1 r1=>Sub.zO 2 3 T.int 1 rfl rfl (by simp[ko,SV.sc,At.sc]) r1 fun ρ2 r2=>
   Sub.gn [] r2 ⟨rfl,rfl,rfl,rfl,rfl,by simp[Ic];rfl,trivial⟩⟩
 rintro⟨i,rv,E,at_,fr,w1,iv⟩ ⟨hi,hred,hw,hE⟩;dsimp only at hi hred hw hE ⊢;have hok:=xN cols hlen i hi;rw[<-hred]at hok;have hatl:at_.length=cols:=hok.at_;have hfrl:fr.length=E.length:=hok.sw;have hEi:E.length<=i:=hok.le;have hrl:rv.length=E.length:=hE.len;have hEb:∀r∈E,∀q∈r,rl q+1<=h:=by have:=hB.rows i hi;rwa [<-hred]at this
 refine dH.mk (fun hib=>?_) (fun hib=>?_)
 ·have hib:i<M.length:=by simpa using hib
  obtain⟨x,hx⟩:∃r,M[i]? =some r:=⟨_,aA hib⟩
  have hxl:=hlen x (aD hx);have hxd:M.getD i []=x:=by rw[List.getD,hx];rfl
  have hcb:∀k,k<=cols->∀q∈fP E at_ x k,rl q+1<=h:=by have:=hB.kp i hib;rwa [<-hred,hxd]at this
  have hcll:∀k,(fP E at_ x k).length=n:=fun k=>by rw[gV,hxl]
  obtain⟨adm,um,ham,hRm,km1,km2⟩:=kJ.load hM hx;obtain⟨css,⟨-,g1,g2,a0,c0,rfl,g4,g5⟩,hcl,hc4,hcs⟩:=hRm;have hfl:=fu hc4;refine⟨adm,ham,by omega,.slice a0 x.length c0,rd1 km2 hw (hC _ km1),?_⟩;refine .inl ?_;refine⟨css.flatten,g1,g2,fun O w' r hpos=>?_,?_⟩
  ·obtain⟨u0,hu0⟩:∃u,css.flatten[0]? =some u:=⟨_,aA (by omega)⟩
   obtain⟨ad,ha,_,_⟩:=g5 0 u0 hu0;refine⟨ad,ha,fun j u hj=>?_⟩;obtain⟨ad2,ha2,q1,q2⟩:=g5 j u hj;rw[ha]at ha2;injection ha2 with ha2;subst ha2;rw[cJ (w:=w) (w2:=w') (by rw[dq];exact(hw.tr r.cI).block _ (hS _ q1))];exact q2
  refine⟨rfl,by omega,by unfold maxLen;omega,?_⟩;rw[aU x.length,hxl]
  refine⟨Nat×Nat×Nat×World×Iv,fun z=>⟨[(9,.o (.v (.slice (some ⟨z.2.1,0,none⟩) n z.2.2.1))),(46,.o (.v (.int .i64 cols))),(47,.o (.v (.int .i64 ((z.1:Nat):Int)))),(2,.o (.p 0 0)),(4,.o (.p 1 0)),(5,.o (.p 2 0)),(6,.o (.s 3 0 cols cols)),(8,.o (.v (.int .i64 ((i:Nat):Int)))),(36,.o (.v (.slice am M.length cm))),(37,.o (.v (.int .i64 M.length))),(38,.o (.v (.int .i64 ((i:Nat):Int)))),(1,.o (.v (.int .i64 cols)))],[(2,.box T.dK [.w 4 rv.length,.v (.int .i64 n),.v (.slice none 0 0),.w 5 fr.length]),(5,.vec T.int 1 (fr.map fun c:Nat=>.int .i64 (c:Int))),(4,.vec T.jG 1 rv),(0,.box T.dR [.v (.slice am M.length cm),.v (.int .i64 n)]),(1,.box T.dK [.v (.slice none 0 0),.v (.int .i64 0),.v (.slice none 0 0),.v (.slice none 0 0)]),(3,.arr T.int (at_.map Ic))],8,z.2.2.2.2,z.2.2.2.1⟩,fun z=>cols-z.1,
   fun z=>z.1<=cols∧cQ w.heap.size w z.2.2.2.1∧kf z.2.2.2.1 S w.heap.size z.2.2.2.2 (rv++[.slice (some ⟨z.2.1,0,none⟩) n z.2.2.1]) n (E++[fP E at_ x z.1]),?_,?_⟩
  ·intro O w' r;have hv:=Kr (S:=S) (m:=n) (qs:=x) (css:=css) r (id:=7) rfl (by omega) hn0 (by unfold maxLen;omega) ⟨hcl,fun j cs q k1 k2=>(hcs j cs q k1 k2).cB fun g hg=>(hw.tr r.cI).block g (hS g hg)⟩
   exact⟨(0,(O 7).g,(O 7).cap,w',((O 7).g,(O 7).g+1)::iv),⟨aP _,hw.tr r.cI,(hE.rel r hS).push (fun g hg e=>Rel.not r hS hg 7 _ rfl hv.1 e.symm) hv.2.1 hv.2.2.2 hS⟩,
    Sub.Kq r (id:=7) (t:=9) (cs:=css.flatten) rfl hv.1 rfl ⟨rfl,rfl,rfl,rfl,rfl,rfl,trivial⟩ rfl ⟨rfl,rfl,rfl,rfl,rfl,rfl,rfl,rfl,rfl,rfl,rfl,trivial⟩ (by simp[ko,SV.sc,At.sc])⟩
  rintro⟨k,gx,cx,w2,iv⟩ ⟨hk,hw,hE⟩;dsimp only at hk hw hE ⊢;refine dH.mk (fun hkb=>?_) (fun hkb=>?_)
  ·have hkb:k<cols:=by simpa using hkb
   obtain⟨o,ho⟩:∃o,at_[k]? =some o:=⟨_,aA (by omega)⟩
   refine⟨by omega,Ic o,by rw[aJ,ai,aU,aM,ho];rfl,?_⟩
   cases o with
   |none=>
    refine⟨((k+1:Nat):Int),wo,?_⟩;intro ρ3 w3 r3;exact⟨(k+1,gx,cx,w3,_),⟨hkb,hw.tr r3.cI,by dsimp only;rw[Ds ho];exact hE.rel r3 hS⟩,Sub.gn [] r3,by dsimp only;omega⟩
   |some j=>
    have hj:j<E.length:=hok.lt k j ho;have hq:∃q,(fP E at_ x k)[k]? =some q:=⟨_,aA (by rw[hcll];omega)⟩
    obtain⟨q,hq⟩:=hq;have hqd:(fP E at_ x k).getD k 0=q:=by rw[List.getD,hq];rfl
    have hql:=hcb k hk q (aD hq);have hvr:(rv++[.slice (some ⟨gx,0,none⟩) n cx])[rv.length]? =some (.slice (some ⟨gx,0,none⟩) n cx):=by simp
    have hxr:(E++[fP E at_ x k])[rv.length]? =some (fP E at_ x k):=by rw[hrl];simp
    obtain⟨ad,cs,had,hF,hl⟩:=hE.load hvr hxr hq;obtain⟨f0,f1,f2,f3,f4,f5,f6,f7,rfl,hF⟩:=hF;refine⟨ad,had,by omega,[.bool f0,.slice f1 f2 f3,.bool f4,.slice f5 f6 f7],rfl,fun O w' r t u hu=>?_,?_⟩
    ·obtain⟨k1,k2⟩:=hl t u hu;rw[aJ,cJ (w:=w2) (w2:=w') (by rw[dq,dq];exact Rel.same r (gu _) k1)];exact k2
    refine bu (cE hw (fun _ w' v w2=>∃d,v= .bool d∧(d=true↔q=0)) (fun O w' r=>pU (Lr.old r hS) ((hF.Cd r hS).l (by omega))) ?_);rintro O wa1 v1 wb1 iv1 r he hw h_ ⟨d,rfl,hz⟩;replace hE:=hE.bz r hS he (mC h_);replace hF:=hF.Jb r hS he (mC h_)
    cases d
    ·have hq0:q≠0:=fun e=>by have:=hz.2 e;cases this
     obtain⟨vj,hvj⟩:∃v,rv[j]? =some v:=⟨_,aA (by omega)⟩
     have hvj2:(rv++[.slice (some ⟨gx,0,none⟩) n cx])[j]? =some vj:=by rw[aK (by omega)];exact hvj
     obtain⟨ej,hej⟩:∃v,E[j]? =some v:=⟨_,aA hj⟩
     have hej2:(E++[fP E at_ x k])[j]? =some ej:=by rw[aK hj];exact hej
     have hejd:E.getD j []=ej:=by rw[List.getD,hej];rfl
     obtain⟨aj,cj,rfl⟩:=hE.form hvj2;obtain⟨ad,cs,had,hF,hl⟩:=hE.load hvr hxr hq;obtain⟨f0,f1,f2,f3,f4,f5,f6,f7,rfl,hF⟩:=hF;refine cD hτ df [.x 0,.x 1,.x 2,.x 3,.x 4,.x 5,.x 6,.x 7,.x 8,.x 9,.x 10,.x 11] (by kernel_rfl) (by kernel_rfl) ?_;refine⟨by simp,by omega,.slice aj n cj,by simpa using hvj,ad,had,by omega,[.bool f0,.slice f1 f2 f3,.bool f4,.slice f5 f6 f7],rfl,fun O w' r t u hu=>?_,?_⟩
     ·obtain⟨k1,k2⟩:=hl t u hu;rw[aJ,cJ (w:=wb1) (w2:=w') (by rw[dq,dq];exact Rel.same r (gu _) k1)];exact k2
     refine⟨fun O w' r=>?_⟩;refine(hE.BF r hS (i:=rv.length) (j:=j) (h:=h) (by omega) hvr hvj2 hxr hej2 (hF.l (by omega)) (fun y hy=>hcb k hk y hy) (fun y hy=>hEb ej (aD hej) y hy) hql hh).mono fun e w8 he=>?_;obtain⟨rfl,hgr,hmi,hE2⟩:=he;have hw2:=(hw.tr r.cI).tr (hE.cI r hgr hmi);refine⟨.tuple #[],_,(w'.heap.size,w8.heap.size)::iv1,rfl,r.Ce (fun x hx=>Rel.not r (gu _) (hE.new x (hmi x hx))) hgr,?_⟩;have hnext:(E++[fP E at_ x k]).set rv.length (lA (fP E at_ x k) ej q)=E++[fP E at_ x (k+1)]:=by rw[hrl,Cc,yb ho,hejd,hqd]
     rw[hnext]at hE2;generalize (w'.heap.size,w8.heap.size)::iv1=iv9 at*
     refine⟨((k+1:Nat):Int),wo,?_⟩;intro ρ3 w3 r3;exact⟨(k+1,gx,cx,w3,_),⟨hkb,hw2.tr r3.cI,hE2.rel r3 hS⟩,Sub.gn [] r3,by dsimp only;omega⟩
    ·have hq0:q=0:=hz.1 rfl;refine⟨((k+1:Nat):Int),wo,?_⟩;intro ρ3 w3 r3;exact⟨(k+1,gx,cx,w3,_),⟨hkb,hw.tr r3.cI,by dsimp only;rw[yb ho,hqd,hq0,xL];exact hE.rel r3 hS⟩,Sub.gn [] r3,by dsimp only;omega⟩
  have hkb:k=cols:=aQ hk (by simpa using hkb);rw[hkb]at hE;obtain⟨y,hy⟩:∃y,fP E at_ x cols=y:=⟨_,rfl⟩
  have hyl:y.length=n:=by rw[<-hy];exact hcll cols
  have hyb:∀q∈y,rl q+1<=h:=by rw[<-hy];exact hcb cols (aE _)
  rw[hy]at hE;have hvr:(rv++[.slice (some ⟨gx,0,none⟩) n cx])[rv.length]? =some (.slice (some ⟨gx,0,none⟩) n cx):=by simp
  refine⟨Nat×World×Iv,fun z=>⟨[(9,.o (.v (.slice (some ⟨gx,0,none⟩) n cx))),(12,.o (.v (.int .i64 ((z.1:Nat):Int)))),(2,.o (.p 0 0)),(4,.o (.p 1 0)),(5,.o (.p 2 0)),(6,.o (.s 3 0 cols cols)),(8,.o (.v (.int .i64 ((i:Nat):Int)))),(36,.o (.v (.slice am M.length cm))),(37,.o (.v (.int .i64 M.length))),(38,.o (.v (.int .i64 ((i:Nat):Int)))),(1,.o (.v (.int .i64 cols)))],[(2,.box T.dK [.w 4 rv.length,.v (.int .i64 n),.v (.slice none 0 0),.w 5 fr.length]),(5,.vec T.int 1 (fr.map fun c:Nat=>.int .i64 (c:Int))),(4,.vec T.jG 1 rv),(0,.box T.dR [.v (.slice am M.length cm),.v (.int .i64 n)]),(1,.box T.dK [.v (.slice none 0 0),.v (.int .i64 0),.v (.slice none 0 0),.v (.slice none 0 0)]),(3,.arr T.int (at_.map Ic))],8,z.2.2,z.2.1⟩,fun z=>cols-z.1,
   fun z=>z.1<=cols∧(∀t,t<z.1->y.getD t 0=0)∧cQ w.heap.size w z.2.1∧kf z.2.1 S w.heap.size z.2.2 (rv++[.slice (some ⟨gx,0,none⟩) n cx]) n (E++[y]),?_,?_⟩
  ·intro O w' r3;exact⟨(0,w',_),⟨aP _,fun t ht=>absurd ht (Nat.not_lt_zero t),hw.tr r3.cI,hE.rel r3 hS⟩,Sub.gn [] r3⟩
  rintro⟨pv,w3,iv⟩ ⟨hp,hpz,hw,hE⟩;dsimp only at hp hpz hw hE ⊢;have hxr:(E++[y])[rv.length]? =some y:=by rw[hrl];simp
  refine dH.mk (fun hpb=>?_) (fun hpb=>?_)
  ·have hpb:pv<cols:=by simpa using hpb
   obtain⟨q,hq⟩:∃q,y[pv]? =some q:=⟨_,aA (by omega)⟩
   have hqd:y.getD pv 0=q:=by rw[List.getD,hq];rfl
   have hql:=hyb q (aD hq);obtain⟨ad,cs,had,hF,hl⟩:=hE.load hvr hxr hq;obtain⟨f0,f1,f2,f3,f4,f5,f6,f7,rfl,hF⟩:=hF;refine⟨ad,had,by omega,[.bool f0,.slice f1 f2 f3,.bool f4,.slice f5 f6 f7],rfl,fun O w' r t u hu=>?_,?_⟩
   ·obtain⟨k1,k2⟩:=hl t u hu;rw[aJ,cJ (w:=w3) (w2:=w') (by rw[dq,dq];exact Rel.same r (gu _) k1)];exact k2
   refine bu (cE hw (fun _ w' v w2=>∃d,v= .bool d∧(d=true↔q=0)) (fun O w' r=>pU (Lr.old r hS) ((hF.Cd r hS).l (by omega))) ?_);rintro O wa2 v2 wb2 iv2 r he hw h_ ⟨d,rfl,hz⟩;replace hE:=hE.bz r hS he (mC h_)
   cases d
   ·have hq0:q≠0:=fun e=>by have:=hz.2 e;cases this
    refine dH.mk (fun he=>?_) (fun he=>?_)
    ·have he:(pv:Int)=cols:=by simpa using he
     omega
    have hpiv:rZ y cols=pv:=Ea hpz hp fun _=>by rw[hqd];exact hq0
    have hpush:=Du hred hxd hy hpiv (by omega);rw[hqd]at hpush;obtain⟨u,hu⟩:∃u,y.map (· / q)=u:=⟨_,rfl⟩
    rw[hu]at hpush;have hul:u.length=n:=by rw[<-hu,aL,hyl]
    have hub:∀q∈u,rl q+1<=h:=by
     have:=hB.rows (i+1) hib u (by rw[hpush];simp);exact this
    obtain⟨ad,cs,had,hF,hl⟩:=hE.load hvr hxr hq;obtain⟨f0,f1,f2,f3,f4,f5,f6,f7,rfl,hF⟩:=hF;refine⟨ad,had,by omega,[.bool f0,.slice f1 f2 f3,.bool f4,.slice f5 f6 f7],rfl,fun O w' r t u hu=>?_,?_⟩
    ·obtain⟨k1,k2⟩:=hl t u hu;rw[aJ,cJ (w:=wb2) (w2:=w') (by rw[dq,dq];exact Rel.same r (gu _) k1)];exact k2
    refine⟨Nat×World×Iv,fun z=>⟨[(9,.o (.v (.slice (some ⟨gx,0,none⟩) n cx))),(12,.o (.v (.int .i64 ((pv:Nat):Int)))),(13,.o (.p 8 0)),(97,.o (.v (.int .i64 n))),(98,.o (.v (.int .i64 ((z.1:Nat):Int)))),(2,.o (.p 0 0)),(4,.o (.p 1 0)),(5,.o (.p 2 0)),(6,.o (.s 3 0 cols cols)),(8,.o (.v (.int .i64 ((i:Nat):Int)))),(36,.o (.v (.slice am M.length cm))),(37,.o (.v (.int .i64 M.length))),(38,.o (.v (.int .i64 ((i:Nat):Int)))),(1,.o (.v (.int .i64 cols)))],[(8,.box T.Rat [.v (.bool f0),.v (.slice f1 f2 f3),.v (.bool f4),.v (.slice f5 f6 f7)]),(2,.box T.dK [.w 4 rv.length,.v (.int .i64 n),.v (.slice none 0 0),.w 5 fr.length]),(5,.vec T.int 1 (fr.map fun c:Nat=>.int .i64 (c:Int))),(4,.vec T.jG 1 rv),(0,.box T.dR [.v (.slice am M.length cm),.v (.int .i64 n)]),(1,.box T.dK [.v (.slice none 0 0),.v (.int .i64 0),.v (.slice none 0 0),.v (.slice none 0 0)]),(3,.arr T.int (at_.map Ic))],9,z.2.2,z.2.1⟩,fun z=>n-z.1,
     fun z=>z.1<=n∧cQ w.heap.size w z.2.1∧kf z.2.1 S w.heap.size z.2.2 (rv++[.slice (some ⟨gx,0,none⟩) n cx]) n (E++[gQ z.1 (fun _ r=>r / q) y])∧cP z.2.1 (Lr S w.heap.size z.2.2 (rv++[.slice (some ⟨gx,0,none⟩) n cx])) (.agg #[.bool f0,.slice f1 f2 f3,.bool f4,.slice f5 f6 f7]) q,?_,?_⟩
    ·intro O w' r3;exact⟨(0,w',_),⟨aP _,hw.tr r3.cI,by dsimp only;rw[qu];exact hE.rel r3 hS,hF.Cd r3 hS⟩,Sub.gn [] r3⟩
    rintro⟨k,w4,iv⟩ ⟨hk,hw,hE,hF⟩;dsimp only at hk hw hE hF ⊢;have hxr:(E++[gQ k (fun _ r=>r / q) y])[rv.length]? =some (gQ k (fun _ r=>r / q) y):=by rw[hrl];simp
    refine dH.mk (fun hkb=>?_) (fun hkb=>?_)
    ·have hkb:k<n:=by simpa using hkb
     obtain⟨t,ht⟩:∃q,y[k]? =some q:=⟨_,aA (by omega)⟩
     have htl:=hyb t (aD ht);obtain⟨ad,cs,had,hG,hl⟩:=hE.load hvr hxr (ya ht);obtain⟨g0,g1,g2,g3,g4,g5,g6,g7,rfl,hG⟩:=hG;refine cD hτ df [.x 0,.x 1,.x 2,.x 3,.x 4,.x 5,.x 6,.x 7,.x 8,.x 9] (by kernel_rfl) (by kernel_rfl) ?_;refine⟨ad,had,by omega,[.bool g0,.slice g1 g2 g3,.bool g4,.slice g5 g6 g7],rfl,fun O w' r t u hu=>?_,?_⟩
     ·obtain⟨k1,k2⟩:=hl t u hu;rw[aJ,cJ (w:=w4) (w2:=w') (by rw[dq,dq];exact Rel.same r (gu _) k1)];exact k2
     refine cH (Φ:=fun _ w' v w2=>cP w2 (Nf w' w2) v (t / q)) (fun O w' r=>KN (Lr.old r hS) ((hG.Cd r hS).l (by omega)) ((hF.Cd r hS).l (by omega)) hq0) ?_;rintro O wa3 v3 wb3 r he hb hn2;replace hw:=hw.tr hb;have hd:=hn2.LU (S0:=S) hE r;replace hE:=hE.bz (iv':=(wa3.heap.size,wb3.heap.size)::iv) r hS he fun x hx=>aB _ hx;replace hF:=hF.Jb (iv':=(wa3.heap.size,wb3.heap.size)::iv) r hS he fun x hx=>aB _ hx;generalize (wa3.heap.size,wb3.heap.size)::iv=iv3 at*
     obtain⟨s3_0,s3_1,s3_2,s3_3,s3_4,s3_5,s3_6,s3_7,rfl⟩:=hd.shape;refine⟨⟨gx,0,none⟩,rfl,by omega,?_⟩;intro O w' r;obtain⟨g,hg,h1,h2,h3,h4⟩:=hE.store r hS hvr hxr hkb hd;injection hg with hg;injection hg with hg;subst hg;refine⟨h1,h2,h3,fun w5 hw5=>?_⟩;obtain⟨k1,k2,k3,k4⟩:=h4 w5 hw5;have hw2:=(hw.tr r.cI).tr k2;have hF2:=hF.cB k4;have hnext:(E++[gQ k (fun _ r=>r / q) y]).set rv.length ((gQ k (fun _ r=>r / q) y).set k (t / q))=E++[gQ (k+1) (fun _ r=>r / q) y]:=by rw[hrl,Cc,<-nN ht]
     rw[hnext]at k1;refine⟨((k+1:Nat):Int),wo,?_⟩;intro ρ3 w6 r3;exact⟨(k+1,w6,_),⟨hkb,hw2.tr r3.cI,k1.rel r3 hS,hF2.Cd r3 hS⟩,Sub.gn [] r3,by dsimp only;omega⟩
    have hkb:k=n:=aQ hk (by simpa using hkb);rw[hkb,<-hyl,Hh,hu,hyl]at hE
    refine⟨by simp,Nat×World×Iv,fun z=>⟨[(9,.o (.v (.slice (some ⟨gx,0,none⟩) n cx))),(12,.o (.v (.int .i64 ((pv:Nat):Int)))),(113,.o (.w 4 rv.length)),(114,.o (.v (.int .i64 rv.length))),(115,.o (.v (.int .i64 ((z.1:Nat):Int)))),(2,.o (.p 0 0)),(4,.o (.p 1 0)),(5,.o (.p 2 0)),(6,.o (.s 3 0 cols cols)),(8,.o (.v (.int .i64 ((i:Nat):Int)))),(36,.o (.v (.slice am M.length cm))),(37,.o (.v (.int .i64 M.length))),(38,.o (.v (.int .i64 ((i:Nat):Int)))),(1,.o (.v (.int .i64 cols)))],[(2,.box T.dK [.w 4 rv.length,.v (.int .i64 n),.v (.slice none 0 0),.w 5 fr.length]),(5,.vec T.int 1 (fr.map fun c:Nat=>.int .i64 (c:Int))),(4,.vec T.jG 1 rv),(0,.box T.dR [.v (.slice am M.length cm),.v (.int .i64 n)]),(1,.box T.dK [.v (.slice none 0 0),.v (.int .i64 0),.v (.slice none 0 0),.v (.slice none 0 0)]),(3,.arr T.int (at_.map Ic))],9,z.2.2,z.2.1⟩,fun z=>rv.length-z.1,
     fun z=>z.1<=rv.length∧cQ w.heap.size w z.2.1∧kf z.2.1 S w.heap.size z.2.2 (rv++[.slice (some ⟨gx,0,none⟩) n cx]) n (ff E u pv z.1++[u]),?_,?_⟩
    ·intro O w' r3;exact⟨(0,w',_),⟨aP _,hw.tr r3.cI,by dsimp only;rw[D3];exact hE.rel r3 hS⟩,Sub.gn [] r3⟩
    rintro⟨j,w5,iv⟩ ⟨hj,hw,hE⟩;dsimp only at hj hw hE ⊢;refine dH.mk (fun hjb=>?_) (fun hjb=>?_)
    ·have hjb:j<rv.length:=by simpa using hjb
     obtain⟨ej,hej⟩:∃v,E[j]? =some v:=⟨_,aA (by omega)⟩
     have hel:ej.length=n:=hok.len ej (aD hej);have heb:=hEb ej (aD hej);obtain⟨vj,hvj⟩:∃v,rv[j]? =some v:=⟨_,aA hjb⟩
     have hvj2:(rv++[.slice (some ⟨gx,0,none⟩) n cx])[j]? =some vj:=by rw[aK hjb];exact hvj
     have hej2:(ff E u pv j++[u])[j]? =some ej:=by rw[aK (by rw[fS];omega)];exact CE hej
     have hur:(ff E u pv j++[u])[rv.length]? =some u:=by rw[hrl,<-fS E u pv j];simp
     obtain⟨t,ht⟩:∃q,ej[pv]? =some q:=⟨_,aA (by omega)⟩
     have htd:ej.getD pv 0=t:=by rw[List.getD,ht];rfl
     have htl:=heb t (aD ht);obtain⟨aj,cj,rfl⟩:=hE.form hvj2;obtain⟨ad,cs,had,hG,hl⟩:=hE.load hvj2 hej2 ht;obtain⟨g0,g1,g2,g3,g4,g5,g6,g7,rfl,hG⟩:=hG;refine⟨by simp,by omega,.slice aj n cj,by simpa using hvj,ad,had,by omega,[.bool g0,.slice g1 g2 g3,.bool g4,.slice g5 g6 g7],rfl,fun O w' r t u hu=>?_,?_⟩
     ·obtain⟨k1,k2⟩:=hl t u hu;rw[aJ,cJ (w:=w5) (w2:=w') (by rw[dq,dq];exact Rel.same r (gu _) k1)];exact k2
     refine bu (cE hw (fun _ w' v w2=>∃d,v= .bool d∧(d=true↔t=0)) (fun O w' r=>pU (Lr.old r hS) ((hG.Cd r hS).l (by omega))) ?_);rintro O wa4 v4 wb4 iv4 r he hw h_ ⟨d,rfl,hz⟩;replace hE:=hE.bz r hS he (mC h_)
     cases d
     ·have ht0:t≠0:=fun e=>by have:=hz.2 e;cases this
      obtain⟨ad,cs,had,hG,hl⟩:=hE.load hvj2 hej2 ht;obtain⟨g0,g1,g2,g3,g4,g5,g6,g7,rfl,hG⟩:=hG;refine⟨ad,had,by omega,[.bool g0,.slice g1 g2 g3,.bool g4,.slice g5 g6 g7],rfl,fun O w' r t u hu=>?_,?_⟩
      ·obtain⟨k1,k2⟩:=hl t u hu;rw[aJ,cJ (w:=wb4) (w2:=w') (by rw[dq,dq];exact Rel.same r (gu _) k1)];exact k2
      refine⟨fun O w' r=>?_⟩;refine(hE.BF r hS (i:=j) (j:=rv.length) (h:=h) (by omega) hvj2 hvr hej2 hur (hG.l (by omega)) heb hub htl hh).mono fun e w8 he=>?_;obtain⟨rfl,hgr,hmi,hE2⟩:=he;have hw2:=(hw.tr r.cI).tr (hE.cI r hgr hmi);refine⟨.tuple #[],_,(w'.heap.size,w8.heap.size)::iv4,rfl,r.Ce (fun x hx=>Rel.not r (gu _) (hE.new x (hmi x hx))) hgr,?_⟩;have hnext:(ff E u pv j++[u]).set j (lA ej u t)=ff E u pv (j+1)++[u]:=by rw[Hg _ _ (by rw[fS];omega),xM hej,htd]
      rw[hnext]at hE2;generalize (w'.heap.size,w8.heap.size)::iv4=iv9 at*
      refine⟨((j+1:Nat):Int),wo,?_⟩;intro ρ3 w6 r3;exact⟨(j+1,w6,_),⟨hjb,hw2.tr r3.cI,hE2.rel r3 hS⟩,Sub.gn [] r3,by dsimp only;omega⟩
     ·have ht0:t=0:=hz.1 rfl;refine⟨((j+1:Nat):Int),wo,?_⟩;intro ρ3 w6 r3;exact⟨(j+1,w6,_),⟨hjb,hw.tr r3.cI,by dsimp only;rw[Dv hej (by rw[htd,ht0])];exact hE.rel r3 hS⟩,Sub.gn [] r3,by dsimp only;omega⟩
    have hjb:j=E.length:=by have:=aQ hj (by simpa using hjb);omega
    rw[hjb]at hE;refine⟨by simp,by omega,by simp;omega,(at_.set pv (some rv.length)).map Ic,?_,?_⟩
    ·rw[aJ,ai,aU,List.map_set];exact iX (by simp;omega)
    refine jD hτ df (.x 0 (.x 1 (.x 3 (.x 6 (.x 8 (.ld 2 64544 (.ld 7 64512 (.two 4 (.two 5 (.x 11 (.x 12 (.x 9 (.x 10 (.x 13 (.x 14 (.x 15 .nil))))))) 9 (.x 5 (.x 11 (.x 12 (.x 10 (.x 13 (.x 14 (.x 15 .nil)))))))) 9 (.x 4 (.x 5 (.x 11 (.x 12 (.x 10 (.x 13 (.x 14 (.x 15 .nil)))))))))))))))) (by kernel_rfl) (by kernel_rfl) ?_;refine⟨?_,?_⟩
    ·refine⟨rfl,rfl,?_,?_⟩
     ·refine .inl ?_;refine⟨by simp,by omega,by unfold maxLen;omega,rfl,rfl,?_⟩;refine .inl ?_;refine⟨by simp,by omega,by unfold maxLen;omega,((i+1:Nat):Int),wo,?_⟩;intro ρ3 w6 r3;exact⟨(i+1,rv++[.slice (some ⟨gx,0,none⟩) n cx],ff E u pv E.length++[u],at_.set pv (some E.length),fr++[i],w6,_),⟨hib,hpush.symm,hw.tr r3.cI,hE.rel r3 hS⟩,Sub.gn [(4,10),(5,12)] r3 ⟨by dsimp only;rw[List.length_append,List.length_append,List.length_singleton,List.length_singleton];rfl,by dsimp only;rw[List.map_append];rfl,rfl,rfl,rfl,by dsimp only;rw[<-hrl];rfl,trivial⟩,by dsimp only;omega⟩
     ·refine⟨rfl,rfl,?_⟩;refine .inl ?_;refine⟨by simp,by omega,by unfold maxLen;omega,rfl,?_⟩;refine .inl ?_;refine⟨by simp,by omega,by unfold maxLen;omega,((i+1:Nat):Int),wo,?_⟩;intro ρ3 w6 r3;exact⟨(i+1,rv++[.slice (some ⟨gx,0,none⟩) n cx],ff E u pv E.length++[u],at_.set pv (some E.length),fr++[i],w6,_),⟨hib,hpush.symm,hw.tr r3.cI,hE.rel r3 hS⟩,Sub.gn [(4,11),(5,12)] r3 ⟨by dsimp only;rw[List.length_append,List.length_append,List.length_singleton,List.length_singleton];rfl,by dsimp only;rw[List.map_append];rfl,rfl,rfl,rfl,by dsimp only;rw[<-hrl];rfl,trivial⟩,by dsimp only;omega⟩
    ·refine⟨rfl,rfl,rfl,rfl,?_⟩;refine .inl ?_;refine⟨by simp,by omega,by unfold maxLen;omega,rfl,?_⟩;refine .inl ?_;refine⟨by simp,by omega,by unfold maxLen;omega,((i+1:Nat):Int),wo,?_⟩;intro ρ3 w6 r3;exact⟨(i+1,rv++[.slice (some ⟨gx,0,none⟩) n cx],ff E u pv E.length++[u],at_.set pv (some E.length),fr++[i],w6,_),⟨hib,hpush.symm,hw.tr r3.cI,hE.rel r3 hS⟩,Sub.gn [(4,11),(5,12)] r3 ⟨by dsimp only;rw[List.length_append,List.length_append,List.length_singleton,List.length_singleton];rfl,by dsimp only;rw[List.map_append];rfl,rfl,rfl,rfl,by dsimp only;rw[<-hrl];rfl,trivial⟩,by dsimp only;omega⟩
   ·have hq0:q=0:=hz.1 rfl;refine⟨((pv+1:Nat):Int),wo,?_⟩;intro ρ3 w4 r3
    exact⟨(pv+1,w4,_),⟨hpb,fun t ht=>by
     by_cases htp:t=pv
     ·rw[htp,hqd,hq0]
     ·exact hpz t (by dsimp only at ht;omega),hw.tr r3.cI,hE.rel r3 hS⟩,Sub.gn [] r3,by dsimp only;omega⟩
  have hpb:pv=cols:=aQ hp (by simpa using hpb);have hpiv:rZ y cols=cols:=Ea (k:=cols) (fun t ht=>hpz t (by omega)) (aE _) (fun h=>absurd h (Nat.lt_irrefl _));have hskip:=Dt hred hxd hy hpiv;refine dH.mk (fun he=>?_) (fun he=>by rw[hpb]at he;simp at he);refine⟨((i+1:Nat):Int),wo,?_⟩;intro ρ3 w4 r3;exact⟨(i+1,rv,E,at_,fr,w4,_),⟨hib,hskip,hw.tr r3.cI,hE.drop.rel r3 hS⟩,Sub.gn [] r3,by dsimp only;omega⟩
 have hib:i=M.length:=aQ hi (by simpa using hib);subst hib;have hredS:dF M cols=cV (E,at_,fr) cols:=by rw[dF,<-hred]
 have hlt:∀(k r:Nat),at_[k]? =some (some r)->r<E.length:=hok.lt;have hsl:∀k,k<=cols->(cV (E,at_,fr) k).1.length=(cV (E,at_,fr) k).2.1.length∧(cV (E,at_,fr) k).2.2.length=(cV (E,at_,fr) k).2.1.length∧(jx rv at_ k).length=(cV (E,at_,fr) k).2.1.length∧(cV (E,at_,fr) k).2.1.length<=k:=fun k hk=>s6 (E,at_,fr) rv k (by dsimp only;omega)
 refine⟨Nat×World,fun z=>⟨[(4,.o (.p 1 0)),(5,.o (.p 2 0)),(17,.o (.p 6 0)),(159,.o (.s 3 0 cols cols)),(160,.o (.v (.int .i64 cols))),(161,.o (.v (.int .i64 ((z.1:Nat):Int))))],[(6,.box T.dK [.w 7 (cV (E,at_,fr) z.1).2.1.length,.v (.int .i64 n),.w 8 (cV (E,at_,fr) z.1).2.1.length,.w 9 (cV (E,at_,fr) z.1).2.1.length]),(9,.vec T.int 1 ((cV (E,at_,fr) z.1).2.2.map fun c:Nat=>.int .i64 (c:Int))),(8,.vec T.int 1 ((cV (E,at_,fr) z.1).2.1.map fun c:Nat=>.int .i64 (c:Int))),(7,.vec T.jG 1 (jx rv at_ z.1)),(2,.box T.dK [.w 4 rv.length,.v (.int .i64 n),.v (.slice none 0 0),.w 5 fr.length]),(5,.vec T.int 1 (fr.map fun c:Nat=>.int .i64 (c:Int))),(4,.vec T.jG 1 rv),(1,.box T.dK [.v (.slice none 0 0),.v (.int .i64 0),.v (.slice none 0 0),.v (.slice none 0 0)]),(3,.arr T.int (at_.map Ic))],10,iv,z.2⟩,fun z=>cols-z.1,
  fun z=>z.1<=cols∧cQ w.heap.size w z.2∧kf z.2 S w.heap.size iv rv n E,?_,?_⟩
 ·intro O w' r
  exact⟨(0,w'),⟨aP _,hw.tr r.cI,hE.rel r hS⟩,Sub.zO 6 0 T.jG 1 rfl rfl (by simp[ko,SV.sc,At.sc]) r fun ρ1 r1=>Sub.zO 6 2 T.int 1 rfl rfl (by simp[ko,SV.sc,At.sc]) r1 fun ρ2 r2=>Sub.zO 6 3 T.int 1 rfl rfl (by simp[ko,SV.sc,At.sc]) r2 fun ρ3 r3=>
   Sub.gn [] r3⟩
 rintro⟨k,w1⟩ ⟨hk,hw,hE⟩;dsimp only at hk hw hE ⊢;obtain⟨q1,q2,q3,q4⟩:=hsl k hk;refine dH.mk (fun hkb=>?_) (fun hkb=>?_)
 ·have hkb:k<cols:=by simpa using hkb
  obtain⟨o,ho⟩:∃o,at_[k]? =some o:=⟨_,aA (by omega)⟩
  refine⟨by omega,Ic o,by rw[aJ,ai,aU,aM,ho];rfl,?_⟩
  cases o with
  |none=>
   refine⟨((k+1:Nat):Int),wo,?_⟩;have hs1:=lQ (s:=(E,at_,fr)) ho;have hs2:=qv (rv:=rv) ho;intro ρ3 w3 r3;exact⟨(k+1,w3),⟨hkb,hw.tr r3.cI,hE.rel r3 hS⟩,Sub.gn [] r3 ⟨by dsimp only;rw[hs1];rfl,by dsimp only;rw[hs1];rfl,by dsimp only;rw[hs1];rfl,by dsimp only;rw[hs2];rfl,rfl,rfl,rfl,rfl,rfl,trivial⟩,by dsimp only;omega⟩
  |some j=>
   have hj:j<E.length:=hlt k j ho;obtain⟨vj,hvj⟩:∃v,rv[j]? =some v:=⟨_,aA (by omega)⟩
   have hvjd:rv.getD j (.bool false)=vj:=by rw[List.getD,hvj];rfl
   obtain⟨aj,cj,rfl⟩:=hE.form hvj;obtain⟨fj,hfj⟩:∃v,fr[j]? =some v:=⟨_,aA (by omega)⟩
   have hfjd:fr.getD j 0=fj:=by rw[List.getD,hfj];rfl
   have hs1:=lS (s:=(E,at_,fr)) ho;have hs2:=qw (rv:=rv) ho;dsimp only at hs1;rw[hvjd]at hs2;rw[hfjd]at hs1;refine jD hτ df (.x 0 (.x 1 (.x 3 (.x 4 (.x 6 (.x 11 (.x 13 (.x 16 (.x 18 (.x 20 (.ld 2 4278223872 (.ld 5 4278224768 (.x 7 (.ld 8 4278224384 (.ld 12 4278222848 (.ld 17 4278190080 (.ld 19 4192206848 (.x 21 (.ld 22 4185915392 (.three 9 (.three 10 (.x 25 (.x 26 (.two 14 (.two 15 (.x 23 (.x 24 (.x 27 (.x 28 (.x 29 (.x 30 (.x 31 .nil))))))) 23 (.x 15 (.x 24 (.x 27 (.x 28 (.x 29 (.x 30 (.x 31 .nil)))))))) 23 (.x 14 (.x 15 (.x 24 (.x 27 (.x 28 (.x 29 (.x 30 (.x 31 .nil))))))))))) 14 (.two 10 (.x 25 (.x 26 (.two 15 (.x 23 (.x 24 (.x 27 (.x 28 (.x 29 (.x 30 (.x 31 .nil))))))) 23 (.x 15 (.x 24 (.x 27 (.x 28 (.x 29 (.x 30 (.x 31 .nil)))))))))) 23 (.x 10 (.x 25 (.x 26 (.x 15 (.x 24 (.x 27 (.x 28 (.x 29 (.x 30 (.x 31 .nil))))))))))) 23 (.two 10 (.x 25 (.x 26 (.x 14 (.x 15 (.x 24 (.x 27 (.x 28 (.x 29 (.x 30 (.x 31 .nil)))))))))) 14 (.x 10 (.x 25 (.x 26 (.x 15 (.x 24 (.x 27 (.x 28 (.x 29 (.x 30 (.x 31 .nil)))))))))))) 14 (.two 9 (.two 10 (.x 25 (.x 26 (.two 15 (.x 23 (.x 24 (.x 27 (.x 28 (.x 29 (.x 30 (.x 31 .nil))))))) 23 (.x 15 (.x 24 (.x 27 (.x 28 (.x 29 (.x 30 (.x 31 .nil)))))))))) 23 (.x 10 (.x 25 (.x 26 (.x 15 (.x 24 (.x 27 (.x 28 (.x 29 (.x 30 (.x 31 .nil))))))))))) 23 (.x 9 (.x 10 (.x 25 (.x 26 (.x 15 (.x 24 (.x 27 (.x 28 (.x 29 (.x 30 (.x 31 .nil)))))))))))) 23 (.two 9 (.two 10 (.x 25 (.x 26 (.x 14 (.x 15 (.x 24 (.x 27 (.x 28 (.x 29 (.x 30 (.x 31 .nil)))))))))) 14 (.x 10 (.x 25 (.x 26 (.x 15 (.x 24 (.x 27 (.x 28 (.x 29 (.x 30 (.x 31 .nil))))))))))) 14 (.x 9 (.x 10 (.x 25 (.x 26 (.x 15 (.x 24 (.x 27 (.x 28 (.x 29 (.x 30 (.x 31 .nil)))))))))))))))))))))))))))))))) (by kernel_rfl) (by kernel_rfl) ?_;refine⟨by simp,by omega,.slice aj n cj,by simpa using hvj,by simp,by omega,.int .i64 (fj:Int),by simp[hfj],?_,?_,?_⟩
   ·refine⟨.int .i64 (fj:Int),by simp[hfj],rfl,rfl,rfl,rfl,rfl,?_,?_,?_⟩
    ·refine .inl ?_;refine⟨by simp[q2,q3],by omega,by unfold maxLen;omega,.int .i64 (fj:Int),by simp[hfj],rfl,rfl,rfl,rfl,?_,?_⟩
     ·refine⟨.int .i64 (fj:Int),by simp[hfj],rfl,rfl,rfl,rfl,?_,?_⟩
      ·refine .inl ?_;refine⟨by simp[q2,q3],by omega,by unfold maxLen;omega,.int .i64 (fj:Int),by simp[hfj],rfl,rfl,rfl,rfl,?_⟩;refine .inl ?_;refine⟨by simp[q2,q3],by omega,by unfold maxLen;omega,((k+1:Nat):Int),wo,?_⟩;intro ρ3 w3 r3;exact⟨(k+1,w3),⟨hkb,hw.tr r3.cI,hE.rel r3 hS⟩,Sub.gn [(7,11),(8,13),(9,15)] r3 ⟨by dsimp only;rw[hs1,List.length_append,List.length_singleton];rfl,by dsimp only;rw[hs1,List.map_append];rfl,by dsimp only;rw[hs1,List.map_append];rfl,by dsimp only;rw[hs2];rfl,rfl,rfl,rfl,rfl,rfl,trivial⟩,by dsimp only;omega⟩
      ·refine⟨rfl,rfl,?_⟩;refine .inl ?_;refine⟨by simp[q2,q3],by omega,by unfold maxLen;omega,rfl,?_⟩;refine .inl ?_;refine⟨by simp[q2,q3],by omega,by unfold maxLen;omega,((k+1:Nat):Int),wo,?_⟩;intro ρ3 w3 r3;exact⟨(k+1,w3),⟨hkb,hw.tr r3.cI,hE.rel r3 hS⟩,Sub.gn [(7,11),(8,14),(9,15)] r3 ⟨by dsimp only;rw[hs1,List.length_append,List.length_singleton];rfl,by dsimp only;rw[hs1,List.map_append];rfl,by dsimp only;rw[hs1,List.map_append];rfl,by dsimp only;rw[hs2];rfl,rfl,rfl,rfl,rfl,rfl,trivial⟩,by dsimp only;omega⟩
     ·refine⟨rfl,rfl,rfl,rfl,?_⟩;refine .inl ?_;refine⟨by simp[q2,q3],by omega,by unfold maxLen;omega,rfl,?_⟩;refine .inl ?_;refine⟨by simp[q2,q3],by omega,by unfold maxLen;omega,((k+1:Nat):Int),wo,?_⟩;intro ρ3 w3 r3;exact⟨(k+1,w3),⟨hkb,hw.tr r3.cI,hE.rel r3 hS⟩,Sub.gn [(7,11),(8,14),(9,15)] r3 ⟨by dsimp only;rw[hs1,List.length_append,List.length_singleton];rfl,by dsimp only;rw[hs1,List.map_append];rfl,by dsimp only;rw[hs1,List.map_append];rfl,by dsimp only;rw[hs2];rfl,rfl,rfl,rfl,rfl,rfl,trivial⟩,by dsimp only;omega⟩
    ·refine⟨.int .i64 (fj:Int),by simp[hfj],rfl,rfl,rfl,rfl,rfl,?_,?_⟩
     ·refine .inl ?_;refine⟨by simp[q2,q3],by omega,by unfold maxLen;omega,.int .i64 (fj:Int),by simp[hfj],rfl,rfl,rfl,rfl,?_,?_⟩
      ·refine .inl ?_;refine⟨by simp[q2,q3],by omega,by unfold maxLen;omega,.int .i64 (fj:Int),by simp[hfj],rfl,rfl,rfl,rfl,?_⟩;refine .inl ?_;refine⟨by simp[q2,q3],by omega,by unfold maxLen;omega,((k+1:Nat):Int),wo,?_⟩;intro ρ3 w3 r3;exact⟨(k+1,w3),⟨hkb,hw.tr r3.cI,hE.rel r3 hS⟩,Sub.gn [(7,12),(8,13),(9,15)] r3 ⟨by dsimp only;rw[hs1,List.length_append,List.length_singleton];rfl,by dsimp only;rw[hs1,List.map_append];rfl,by dsimp only;rw[hs1,List.map_append];rfl,by dsimp only;rw[hs2];rfl,rfl,rfl,rfl,rfl,rfl,trivial⟩,by dsimp only;omega⟩
      ·refine⟨rfl,rfl,?_⟩;refine .inl ?_;refine⟨by simp[q2,q3],by omega,by unfold maxLen;omega,rfl,?_⟩;refine .inl ?_;refine⟨by simp[q2,q3],by omega,by unfold maxLen;omega,((k+1:Nat):Int),wo,?_⟩;intro ρ3 w3 r3;exact⟨(k+1,w3),⟨hkb,hw.tr r3.cI,hE.rel r3 hS⟩,Sub.gn [(7,12),(8,14),(9,15)] r3 ⟨by dsimp only;rw[hs1,List.length_append,List.length_singleton];rfl,by dsimp only;rw[hs1,List.map_append];rfl,by dsimp only;rw[hs1,List.map_append];rfl,by dsimp only;rw[hs2];rfl,rfl,rfl,rfl,rfl,rfl,trivial⟩,by dsimp only;omega⟩
     ·refine⟨rfl,rfl,rfl,?_⟩;refine .inl ?_;refine⟨by simp[q2,q3],by omega,by unfold maxLen;omega,rfl,rfl,?_⟩;refine .inl ?_;refine⟨by simp[q2,q3],by omega,by unfold maxLen;omega,rfl,?_⟩;refine .inl ?_;refine⟨by simp[q2,q3],by omega,by unfold maxLen;omega,((k+1:Nat):Int),wo,?_⟩;intro ρ3 w3 r3;exact⟨(k+1,w3),⟨hkb,hw.tr r3.cI,hE.rel r3 hS⟩,Sub.gn [(7,13),(8,14),(9,15)] r3 ⟨by dsimp only;rw[hs1,List.length_append,List.length_singleton];rfl,by dsimp only;rw[hs1,List.map_append];rfl,by dsimp only;rw[hs1,List.map_append];rfl,by dsimp only;rw[hs2];rfl,rfl,rfl,rfl,rfl,rfl,trivial⟩,by dsimp only;omega⟩
    ·refine⟨rfl,rfl,rfl,?_,?_⟩
     ·refine .inl ?_;refine⟨by simp[q2,q3],by omega,by unfold maxLen;omega,rfl,rfl,rfl,rfl,?_⟩;refine .inl ?_;refine⟨by simp[q2,q3],by omega,by unfold maxLen;omega,rfl,?_⟩;refine .inl ?_;refine⟨by simp[q2,q3],by omega,by unfold maxLen;omega,((k+1:Nat):Int),wo,?_⟩;intro ρ3 w3 r3;exact⟨(k+1,w3),⟨hkb,hw.tr r3.cI,hE.rel r3 hS⟩,Sub.gn [(7,12),(8,14),(9,15)] r3 ⟨by dsimp only;rw[hs1,List.length_append,List.length_singleton];rfl,by dsimp only;rw[hs1,List.map_append];rfl,by dsimp only;rw[hs1,List.map_append];rfl,by dsimp only;rw[hs2];rfl,rfl,rfl,rfl,rfl,rfl,trivial⟩,by dsimp only;omega⟩
     ·refine⟨rfl,rfl,rfl,?_⟩;refine .inl ?_;refine⟨by simp[q2,q3],by omega,by unfold maxLen;omega,rfl,rfl,?_⟩;refine .inl ?_;refine⟨by simp[q2,q3],by omega,by unfold maxLen;omega,rfl,?_⟩;refine .inl ?_;refine⟨by simp[q2,q3],by omega,by unfold maxLen;omega,((k+1:Nat):Int),wo,?_⟩;intro ρ3 w3 r3;exact⟨(k+1,w3),⟨hkb,hw.tr r3.cI,hE.rel r3 hS⟩,Sub.gn [(7,13),(8,14),(9,15)] r3 ⟨by dsimp only;rw[hs1,List.length_append,List.length_singleton];rfl,by dsimp only;rw[hs1,List.map_append];rfl,by dsimp only;rw[hs1,List.map_append];rfl,by dsimp only;rw[hs2];rfl,rfl,rfl,rfl,rfl,rfl,trivial⟩,by dsimp only;omega⟩
   ·refine⟨.int .i64 (fj:Int),by simp[hfj],rfl,rfl,rfl,rfl,.slice aj n cj,by simpa using hvj,rfl,rfl,rfl,?_,?_⟩
    ·refine⟨.int .i64 (fj:Int),by simp[hfj],rfl,rfl,rfl,rfl,rfl,?_,?_⟩
     ·refine .inl ?_;refine⟨by simp[q2,q3],by omega,by unfold maxLen;omega,.int .i64 (fj:Int),by simp[hfj],rfl,rfl,rfl,rfl,?_,?_⟩
      ·refine .inl ?_;refine⟨by simp[q2,q3],by omega,by unfold maxLen;omega,.int .i64 (fj:Int),by simp[hfj],rfl,rfl,rfl,rfl,?_⟩;refine .inl ?_;refine⟨by simp[q2,q3],by omega,by unfold maxLen;omega,((k+1:Nat):Int),wo,?_⟩;intro ρ3 w3 r3;exact⟨(k+1,w3),⟨hkb,hw.tr r3.cI,hE.rel r3 hS⟩,Sub.gn [(7,12),(8,13),(9,15)] r3 ⟨by dsimp only;rw[hs1,List.length_append,List.length_singleton];rfl,by dsimp only;rw[hs1,List.map_append];rfl,by dsimp only;rw[hs1,List.map_append];rfl,by dsimp only;rw[hs2];rfl,rfl,rfl,rfl,rfl,rfl,trivial⟩,by dsimp only;omega⟩
      ·refine⟨rfl,rfl,?_⟩;refine .inl ?_;refine⟨by simp[q2,q3],by omega,by unfold maxLen;omega,rfl,?_⟩;refine .inl ?_;refine⟨by simp[q2,q3],by omega,by unfold maxLen;omega,((k+1:Nat):Int),wo,?_⟩;intro ρ3 w3 r3;exact⟨(k+1,w3),⟨hkb,hw.tr r3.cI,hE.rel r3 hS⟩,Sub.gn [(7,12),(8,14),(9,15)] r3 ⟨by dsimp only;rw[hs1,List.length_append,List.length_singleton];rfl,by dsimp only;rw[hs1,List.map_append];rfl,by dsimp only;rw[hs1,List.map_append];rfl,by dsimp only;rw[hs2];rfl,rfl,rfl,rfl,rfl,rfl,trivial⟩,by dsimp only;omega⟩
     ·refine⟨rfl,rfl,rfl,?_⟩;refine .inl ?_;refine⟨by simp[q2,q3],by omega,by unfold maxLen;omega,rfl,rfl,?_⟩;refine .inl ?_;refine⟨by simp[q2,q3],by omega,by unfold maxLen;omega,rfl,?_⟩;refine .inl ?_;refine⟨by simp[q2,q3],by omega,by unfold maxLen;omega,((k+1:Nat):Int),wo,?_⟩;intro ρ3 w3 r3;exact⟨(k+1,w3),⟨hkb,hw.tr r3.cI,hE.rel r3 hS⟩,Sub.gn [(7,13),(8,14),(9,15)] r3 ⟨by dsimp only;rw[hs1,List.length_append,List.length_singleton];rfl,by dsimp only;rw[hs1,List.map_append];rfl,by dsimp only;rw[hs1,List.map_append];rfl,by dsimp only;rw[hs2];rfl,rfl,rfl,rfl,rfl,rfl,trivial⟩,by dsimp only;omega⟩
    ·refine⟨rfl,rfl,.slice aj n cj,by simpa using hvj,rfl,rfl,rfl,rfl,rfl,rfl,?_⟩;refine .inl ?_;refine⟨by simp[q2,q3],by omega,by unfold maxLen;omega,rfl,rfl,?_⟩;refine .inl ?_;refine⟨by simp[q2,q3],by omega,by unfold maxLen;omega,rfl,?_⟩;refine .inl ?_;refine⟨by simp[q2,q3],by omega,by unfold maxLen;omega,((k+1:Nat):Int),wo,?_⟩;intro ρ3 w3 r3;exact⟨(k+1,w3),⟨hkb,hw.tr r3.cI,hE.rel r3 hS⟩,Sub.gn [(7,13),(8,14),(9,15)] r3 ⟨by dsimp only;rw[hs1,List.length_append,List.length_singleton];rfl,by dsimp only;rw[hs1,List.map_append];rfl,by dsimp only;rw[hs1,List.map_append];rfl,by dsimp only;rw[hs2];rfl,rfl,rfl,rfl,rfl,rfl,trivial⟩,by dsimp only;omega⟩
   ·refine⟨rfl,rfl,.slice aj n cj,by simpa using hvj,rfl,rfl,rfl,?_,?_⟩
    ·refine⟨rfl,rfl,rfl,?_,?_⟩
     ·refine .inl ?_;refine⟨by simp[q2,q3],by omega,by unfold maxLen;omega,rfl,rfl,rfl,rfl,?_⟩;refine .inl ?_;refine⟨by simp[q2,q3],by omega,by unfold maxLen;omega,rfl,?_⟩;refine .inl ?_;refine⟨by simp[q2,q3],by omega,by unfold maxLen;omega,((k+1:Nat):Int),wo,?_⟩;intro ρ3 w3 r3;exact⟨(k+1,w3),⟨hkb,hw.tr r3.cI,hE.rel r3 hS⟩,Sub.gn [(7,12),(8,14),(9,15)] r3 ⟨by dsimp only;rw[hs1,List.length_append,List.length_singleton];rfl,by dsimp only;rw[hs1,List.map_append];rfl,by dsimp only;rw[hs1,List.map_append];rfl,by dsimp only;rw[hs2];rfl,rfl,rfl,rfl,rfl,rfl,trivial⟩,by dsimp only;omega⟩
     ·refine⟨rfl,rfl,rfl,?_⟩;refine .inl ?_;refine⟨by simp[q2,q3],by omega,by unfold maxLen;omega,rfl,rfl,?_⟩;refine .inl ?_;refine⟨by simp[q2,q3],by omega,by unfold maxLen;omega,rfl,?_⟩;refine .inl ?_;refine⟨by simp[q2,q3],by omega,by unfold maxLen;omega,((k+1:Nat):Int),wo,?_⟩;intro ρ3 w3 r3;exact⟨(k+1,w3),⟨hkb,hw.tr r3.cI,hE.rel r3 hS⟩,Sub.gn [(7,13),(8,14),(9,15)] r3 ⟨by dsimp only;rw[hs1,List.length_append,List.length_singleton];rfl,by dsimp only;rw[hs1,List.map_append];rfl,by dsimp only;rw[hs1,List.map_append];rfl,by dsimp only;rw[hs2];rfl,rfl,rfl,rfl,rfl,rfl,trivial⟩,by dsimp only;omega⟩
    ·refine⟨rfl,rfl,.slice aj n cj,by simpa using hvj,rfl,rfl,rfl,rfl,rfl,rfl,?_⟩;refine .inl ?_;refine⟨by simp[q2,q3],by omega,by unfold maxLen;omega,rfl,rfl,?_⟩;refine .inl ?_;refine⟨by simp[q2,q3],by omega,by unfold maxLen;omega,rfl,?_⟩;refine .inl ?_;refine⟨by simp[q2,q3],by omega,by unfold maxLen;omega,((k+1:Nat):Int),wo,?_⟩;intro ρ3 w3 r3;exact⟨(k+1,w3),⟨hkb,hw.tr r3.cI,hE.rel r3 hS⟩,Sub.gn [(7,13),(8,14),(9,15)] r3 ⟨by dsimp only;rw[hs1,List.length_append,List.length_singleton];rfl,by dsimp only;rw[hs1,List.map_append];rfl,by dsimp only;rw[hs1,List.map_append];rfl,by dsimp only;rw[hs2];rfl,rfl,rfl,rfl,rfl,rfl,trivial⟩,by dsimp only;omega⟩
 have hkb:k=cols:=aQ hk (by simpa using hkb);subst hkb;intro ρe we re;have hone:∀u∈jx rv at_ k,u.oneCell'=true:=fun u hu=>by
  obtain⟨i,hi⟩:=aR hu;obtain⟨x,hx⟩:∃x,(cV (E,at_,fr) k).1[i]? =some x:=⟨_,aA (by have:=(aC.1 hi).1;omega)⟩
  obtain⟨r,h1,h2⟩:=yc hrl hlt k (by omega) i u x hi hx;obtain⟨a,c,rfl⟩:=hE.form h1;rfl
 have h7:=re.jq (id:=7) (sz:=1) (m:=(cV (E,at_,fr) k).2.1.length) rfl (by simp[q3]) (by unfold maxLen;omega) (by decide) hone;have h8:=re.jq (id:=8) (sz:=1) (m:=(cV (E,at_,fr) k).2.1.length) rfl (by simp) (by unfold maxLen;omega) (by decide) (fun u hu=>by obtain⟨c,_,rfl⟩:=aS.1 hu;rfl);have h9:=re.jq (id:=9) (sz:=1) (m:=(cV (E,at_,fr) k).2.1.length) rfl (by simp[q2]) (by unfold maxLen;omega) (by decide) (fun u hu=>by obtain⟨c,_,rfl⟩:=aS.1 hu;rfl);have hE2:=hE.rel re hS;rw[hredS];refine⟨_,rfl,hw.tr re.cI,_,_,_,rfl,⟨jx rv at_ k,?_,by omega,fun i u x k1 k2=>?_⟩,?_,?_⟩
 ·rw[q1];exact h7.cC fun g hg=>.inr hg
 ·obtain⟨r,h1,h2⟩:=yc hrl hlt k (by omega) i u x k1 k2;refine((hE2.row r u x h1 h2).read.cC (S':=Nw S w we) (C':=Nw S w we) (fun g hg=>?_) fun g hg=>Cv.nw hg.1 re).c;exact Cv.nw (Ia (hE2.new g ⟨u,aD h1,hg⟩)) re
 ·exact h8.cC fun g hg=>.inr hg
 ·show jN we _ 1 _ _ (cV (E,at_,fr) k).2.2.length;rw[q2];exact h9.cC fun g hg=>.inr hg
section
variable{S S':Nat->Prop}{H:Hp}{nx n:Nat}{iv iv':Iv}{B:Nat}{w w' w2:World}{O:Nat->Sx.dU}{v:Value}{qs:List Rat}
theorem di.LV{w0 w1:World}(h:di w1 S w0.heap.size iv v n qs)(r:Rel H nx iv w0.heap.size w1 O w')(hS:Old S w0):di w' S w0.heap.size [(w0.heap.size,w'.heap.size)] v n qs:=by
 have h2:=h.rel r hS;have key:∀g {X:Nat->Prop},Cv X w0.heap.size iv g->Cv X w0.heap.size [(w0.heap.size,w'.heap.size)] g:=fun g X hg=>by
  rcases hg with hg|⟨h1,lo,hi,h2,h3,h4⟩
  ·exact .inl hg
  ·exact .inr ⟨h1,_,_,bD.2 rfl,h1,by have:=r.rG lo hi h2;have:=r.size;omega⟩
 exact⟨h2.row.cC fun g hg=>⟨key g hg.1,hg.2⟩,fun g hg=>key g (h2.new g hg)⟩
theorem di.Ks(h:di w2 (Cv S B iv) w'.heap.size [(w'.heap.size,w2.heap.size)] v n qs)(hB:B<=w'.heap.size):di w2 S B ((w'.heap.size,w2.heap.size)::iv) v n qs:=by
 have key:∀g {X Y:Nat->Prop},(∀g,Y g->Cv X B iv g)->Cv Y w'.heap.size [(w'.heap.size,w2.heap.size)] g->Cv X B ((w'.heap.size,w2.heap.size)::iv) g:=fun g X Y hY hg=>by
  rcases hg with hg|⟨h1,lo,hi,h2,h3,h4⟩
  ·exact(hY g hg).mono fun p hp=>aB _ hp
  ·simp at h2;obtain⟨rfl,rfl⟩:=h2;exact .inr ⟨by omega,_,_,aI,h3,h4⟩
 exact⟨h.row.cC fun g hg=>⟨key g (fun _ h=>h) hg.1,hg.2⟩,fun g hg=>key g (fun _ h=>h.elim) (h.new g hg)⟩
def Bs(S:Nat->Prop)(B:Nat)(iv:Iv)(v:Value)(g:Nat):Prop:=Cv S B iv g∧v.ownBlock≠some g
theorem Bs.kept(r:Rel H nx iv B w O w')(hS:∀g,S g->g<B){row:Option Nat}(hg:w'.grownBy w2 row)(hrow:∀g,row=some g->v.ownBlock=some g):∀g,Bs S B iv v g->w2.heap[g]? =w.heap[g]? :=fun g h=>by
 rw[hg.block g (Rel.old r hS g h.1) fun e=>h.2 (hrow g e.symm),Rel.same r hS h.1]
theorem Bs.same(r:Rel H nx iv B w O w')(hS:∀g,S g->g<B):∀g,Bs S B iv v g->w'.heap[g]? =w.heap[g]? :=fun g h=>Rel.same r hS h.1
theorem Bs.of(r:Rel H nx iv B w O w')(hS:∀g,S g->g<B)(hm:∀p,p∈iv->p∈iv')(hn:di w2 (fun _=>False) w'.heap.size [(w'.heap.size,w2.heap.size)] v n qs)(h:Cv S B iv g):Bs S B iv' v g:=
 ⟨h.mono hm,fun e=>by
  have h1:=Rel.old r hS g h;rcases hn.new g e with h2|⟨h2,_⟩
  ·exact h2
  ·omega⟩
theorem Bs.mono(hm:∀p,p∈iv->p∈iv')(h:Bs S B iv v g):Bs S B iv' v g:=⟨h.1.mono hm,h.2⟩
theorem dO.at{m:Nat}(h:dO w S (.slice a m c) ps)(hj:ps[j]? =some p):∃ad,a=some ad∧S ad.block∧w.cell? (ad.add (j*1))=some (.int .i64 (p:Int)):=by
 obtain⟨h0,h1,h2,a',c',e,h3,h4⟩:=h;injection e with e1 e2 e3;subst e1;obtain⟨ad,k1,k2,k3⟩:=h4 j (.int .i64 (p:Int)) (by rw[aM,hj];rfl);exact⟨ad,k1,k2,by rw[ai];exact k3⟩
theorem dO.shape(h:dO w S v ps):∃a c,v= .slice a ps.length c∧ps.length<=c∧ps.length<=maxLen:=by
 obtain⟨h0,h1,h2,a,c,e,h3,h4⟩:=h;exact⟨a,c,e,h3,h0⟩
end
theorem yd{E:List (List Rat)}{at_:List (Option Nat)}{fr:List Nat}{n:Nat}(hE:fp n E)(hlt:∀(k r:Nat),at_[k]? =some (some r)->r<E.length):∀k,k<=at_.length->fp n (cV (E,at_,fr) k).1∧∀p∈(cV (E,at_,fr) k).2.1,p<k
 |0,_=>⟨(fun r hr=>by cases hr),fun p hp=>by cases hp⟩
 |k+1,hk=>by
  have ih:=yd (fr:=fr) hE hlt k (by omega);obtain⟨o,ho⟩:∃o,at_[k]? =some o:=⟨_,aA (by omega)⟩
  cases o with
  |none=>
   rw[lQ (s:=(E,at_,fr)) ho];exact⟨ih.1,fun p hp=>Nat.lt_succ_of_lt (ih.2 p hp)⟩
  |some r=>
   rw[lS (s:=(E,at_,fr)) ho];refine⟨fun x hx=>?_,fun p hp=>?_⟩
   ·rcases bK.1 hx with hx|hx
    ·exact ih.1 x hx
    ·rw[bD.1 hx];have:=hlt k r ho;dsimp only
     rw[List.getD,aA this];exact hE _ (aV this)
   ·rcases bK.1 hp with hp|hp
    ·exact Nat.lt_succ_of_lt (ih.2 p hp)
    ·rw[bD.1 hp];exact bl _
theorem qK(cols:Nat)(hM:fp n M):(dF M cols).1.length=(dF M cols).2.1.length∧(dF M cols).2.2.length=(dF M cols).2.1.length∧fp n (dF M cols).1∧(∀p∈(dF M cols).2.1,p<cols)∧(dF M cols).2.1.length<=cols:=by
 have hok:=xN cols hM M.length (aE _);unfold dF;generalize gP M cols M.length=s at*
 obtain⟨E,at_,fr⟩:=s;have hat:at_.length=cols:=hok.at_;obtain⟨q1,q2,-,q4⟩:=s6 (E,at_,fr) [] cols (by show cols<=at_.length;omega);obtain⟨f1,f2⟩:=yd (E:=E) (at_:=at_) (fr:=fr) hok.len hok.lt cols (by omega);exact⟨q1,q2,f1,f2,q4⟩
theorem kK(M:List (List Rat))(b:List Rat):(jU M b).length=M.length:=List.length_mapIdx
theorem Fx(h:fp n M):fp (n+1) (jU M b):=fun r hr=>by
 obtain⟨i,hi⟩:=aR hr;rw[jU,List.getElem?_mapIdx]at hi
 cases hM:M[i]? with
 |none=>rw[hM]at hi;cases hi
 |some x=>
  rw[hM]at hi;simp only[Option.map_some,Option.some.injEq]at hi;rw[<-hi,List.length_append,h x (aD hM)];rfl
theorem Dw{H:Hp}{nx:Nat}{w':World}(r:Rel H nx iv B w O w')(h:cY H id=some (.vec T.Rat 4 ([]++css.flatten++cs)))(hF:Fc w' S css x)(hq:iT w' S cs q)(hm:x.length<maxLen):
  (O id).nil=false∧cF w' (Cv S B (((O id).g,(O id).g+1)::iv)) (.slice (some ⟨(O id).g,0,none⟩) (x.length+1) (O id).cap) (x++[q]):=by
 have hfl:=fu hF.zN;have hl:([]++css.flatten++cs).length=(x.length+1)*4:=by rw[List.nil_append,List.length_append,hfl,hF.1,hq.len];omega
 have hF2:=hF.push hq;have he:[]++css.flatten++cs=(css++[cs]).flatten:=by simp
 have hv:=JH r (sz:=4) (m:=x.length+1) h hl (by omega) (by decide) (by omega) (fun u hu=>hF2.one u (by rw[<-he];exact hu));refine⟨hv.1,css++[cs],?_,hF2.1,hF2.zN,fun j c y k1 k2=>(hF2.2 j c y k1 k2).cC fun g hg=>.inl hg⟩;rw[List.length_append,List.length_singleton,<-he];exact hv.2.2.cC fun g hg=>.inr ⟨by have:=hv.2.1;omega,_,_,aI,by omega,by omega⟩
set_option maxHeartbeats 2000000 in
theorem AO{D:Nat->Prop}{u:Value}(hC:Old C w)(hD:Old D w)(hS:Old S w)(hM:kJ w C S v M)(hb:fh w D S u b)(hbl:b.length=M.length)(hlen:fp cols M)(hn:cols<=999)(hR:M.length<=1000)(hB:BK (jU M b) (cols+1) h)(hh:3*h<=90000):
  du PG N.iV #[.agg #[v,.int .i64 cols],u] w (eD w fun v' w2=>(mr M b cols=none∧v'= .tuple #[.slice none 0 0,.bool false])∨∃x vx,mr M b cols=some x∧v'= .tuple #[vx,.bool true]∧di w2 S w.heap.size [(w.heap.size,w2.heap.size)] vx cols x):=by
 have hw:cQ w.heap.size w w:=cQ.refl;obtain⟨am,cm,rfl,hcm,hmm⟩:=kJ.shape hM;obtain⟨ab,cb,rfl,hcb,hmb⟩:=fh.shape hb;unfold maxLen at hmm hmb;refine nF (by simp) ?_
 refine⟨((cols+1:Nat):Int),wo,Nat×List Value×World×Iv,fun z=>⟨[(20,.o (.v (.int .i64 ((z.1:Nat):Int)))),(1,.o (.v (.slice ab b.length cb))),(2,.o (.p 0 0)),(6,.o (.p 1 0)),(18,.o (.v (.slice am M.length cm))),(19,.o (.v (.int .i64 M.length)))],[(1,.box T.dR [.w 2 z.2.1.length,.v (.int .i64 ((cols+1:Nat):Int))]),(2,.vec T.jG 1 z.2.1),(0,.box T.dR [.v (.slice am M.length cm),.v (.int .i64 cols)])],3,z.2.2.2,z.2.2.1⟩,fun z=>M.length-z.1,
  fun z=>z.1<=M.length∧cQ w.heap.size w z.2.2.1∧da z.2.2.1 (Cv S w.heap.size z.2.2.2) z.2.1 ((jU M b).take z.1),?_,?_⟩
 ·intro O w' r
  exact⟨(0,[],w',[]),⟨aP _,hw.tr r.cI,by simp[da]⟩,Sub.zO 1 0 T.jG 1 rfl rfl (by simp[ko,SV.sc,At.sc,gM]) r fun ρ1 r1=>
   Sub.gn [] r1⟩
 rintro⟨i,rv,w1,iv⟩ ⟨hi,hw,hK⟩;dsimp only at hi hw hK ⊢;have hrl:rv.length=i:=by rw[hK.1,aW,kK];omega
 refine dH.mk (fun hib=>?_) (fun hib=>?_)
 ·have hib:i<M.length:=by simpa using hib
  obtain⟨x,hx⟩:∃r,M[i]? =some r:=⟨_,aA hib⟩
  have hxl:=hlen x (aD hx);obtain⟨q,hq⟩:∃r,b[i]? =some r:=⟨_,aA (by omega)⟩
  have hqd:b.getD i 0=q:=by rw[List.getD,hq];rfl
  have hnext:(jU M b).take (i+1)=(jU M b).take i++[x++[q]]:=by
   rw[List.take_add_one,show(jU M b)[i]? =some (x++[q]) by rw[jU,List.getElem?_mapIdx,hx,<-hqd];rfl];rfl
  obtain⟨adm,um,ham,hRm,km1,km2⟩:=kJ.load hM hx;obtain⟨css,⟨-,g1,g2,a0,c0,rfl,g4,g5⟩,hcl,hc4,hcs⟩:=hRm;have hfl:=fu hc4;obtain⟨adq,cs,haq,hF,hl⟩:=fh.load hb hq;obtain⟨b3,a3,n3,c3,b4,a4,n4,c4,rfl,hF⟩:=hF;refine⟨adm,ham,by omega,.slice a0 x.length c0,rd1 km2 hw (hC _ km1),?_⟩;refine jD hτ df (.x 0 (.x 3 (.x 5 (.x 6 (.x 7 (.ld 1 28672 (.ld 8 32256 (.two 2 (.two 4 (.x 9 (.x 10 (.qz 6 (.x 11 (.x 12 (.x 13 (.x 14 .nil))))))) 9 (.x 4 (.x 10 (.qz 6 (.x 11 (.x 12 (.x 13 (.x 14 .nil)))))))) 9 (.x 2 (.x 4 (.x 10 (.qz 6 (.x 11 (.x 12 (.x 13 (.x 14 .nil)))))))))))))))) (by kernel_rfl) (by kernel_rfl) ?_;refine⟨adq,haq,by omega,[.bool b3,.slice a3 n3 c3,.bool b4,.slice a4 n4 c4],rfl,rdO hl hw hD,?_,?_⟩
  ·refine⟨[.bool b3,.slice a3 n3 c3,.bool b4,.slice a4 n4 c4],rfl,rdO hl hw hD,rfl,rfl,?_,?_⟩
   ·refine .inl ?_;refine⟨css.flatten,g1,g2,fun O w' r hpos=>?_,?_⟩
    ·obtain⟨u0,hu0⟩:∃u,css.flatten[0]? =some u:=⟨_,aA (by omega)⟩
     obtain⟨ad,ha,_,_⟩:=g5 0 u0 hu0;refine⟨ad,ha,fun j u hj=>?_⟩;obtain⟨ad2,ha2,q1,q2⟩:=g5 j u hj;rw[ha]at ha2;injection ha2 with ha2;subst ha2;rw[cJ (w:=w) (w2:=w') (by rw[dq];exact(hw.tr r.cI).block _ (hS _ q1))];exact q2
    refine⟨rfl,by omega,by unfold maxLen;omega,?_⟩;rw[aU x.length];refine⟨[.bool b3,.slice a3 n3 c3,.bool b4,.slice a4 n4 c4],rfl,rdO hl hw hD,rfl,rfl,rfl,?_⟩;refine .inl ?_;refine⟨by rw[<-g1];rfl,by omega,by unfold maxLen;omega,rfl,[(1,.box T.dR [.w 2 rv.length,.v (.int .i64 ((cols+1:Nat):Int))]),(2,.vec T.jG 1 rv),(0,.box T.dR [.v (.slice am M.length cm),.v (.int .i64 cols)])],_,rfl,by simp,⟨rfl,rfl,rfl,trivial⟩,rfl,fun O w' r=>?_⟩;have hv:=Dw (S:=S) (x:=x) (q:=q) (css:=css) r (id:=6) rfl ⟨hcl,fun j cs q k1 k2=>(hcs j cs q k1 k2).cB fun g hg=>(hw.tr r.cI).block g (hS g hg)⟩ (hF.cB (kS hw r hS)).s5 (by unfold maxLen;omega);refine⟨hv.1,_,s3 (tl:=[(25,.o (.p 1 0)),(26,.o (.w 2 rv.length)),(20,.o (.v (.int .i64 ((i:Nat):Int)))),(1,.o (.v (.slice ab b.length cb))),(2,.o (.p 0 0)),(6,.o (.p 1 0)),(18,.o (.v (.slice am M.length cm))),(19,.o (.v (.int .i64 M.length)))]) hv.1 (t:=35) (n:=x.length+1) rfl ⟨rfl,rfl,rfl,rfl,rfl,rfl,rfl,rfl,trivial⟩ (by simp[ko,SV.sc,At.sc]),?_⟩;replace hK:=(da.cC (hK.rel r hS) (fun g hg=>hg.mono fun p hp=>aB _ hp)).push rfl hv.2;rw[<-hnext]at hK;replace hw:=hw.tr r.cI;generalize (O 6).g=gx at*
    generalize (O 6).cap=cx at*
    generalize (gx,gx+1)::iv=iv2 at*
    refine⟨rfl,?_⟩;refine .inl ?_;refine⟨by simp,by omega,by unfold maxLen;omega,((i+1:Nat):Int),wo,?_⟩;intro ρ3 w3 r3;exact⟨(i+1,rv++[.slice (some ⟨gx,0,none⟩) (x.length+1) cx],w3,_),⟨hib,hw.tr r3.cI,hK.rel r3 hS⟩,Sub.gn [(2,8)] r3 ⟨by dsimp only;rw[List.length_append,List.length_singleton];rfl,rfl,rfl,trivial⟩,by dsimp only;omega⟩
   ·refine⟨rfl,?_⟩;refine .inl ?_;refine⟨css.flatten,g1,g2,fun O w' r hpos=>?_,?_⟩
    ·obtain⟨u0,hu0⟩:∃u,css.flatten[0]? =some u:=⟨_,aA (by omega)⟩
     obtain⟨ad,ha,_,_⟩:=g5 0 u0 hu0;refine⟨ad,ha,fun j u hj=>?_⟩;obtain⟨ad2,ha2,q1,q2⟩:=g5 j u hj;rw[ha]at ha2;injection ha2 with ha2;subst ha2;rw[cJ (w:=w) (w2:=w') (by rw[dq];exact(hw.tr r.cI).block _ (hS _ q1))];exact q2
    refine⟨rfl,by omega,by unfold maxLen;omega,?_⟩;rw[aU x.length];refine⟨rfl,?_⟩;refine .inl ?_;refine⟨by rw[<-g1];rfl,by omega,by unfold maxLen;omega,rfl,[(1,.box T.dR [.w 2 rv.length,.v (.int .i64 ((cols+1:Nat):Int))]),(2,.vec T.jG 1 rv),(0,.box T.dR [.v (.slice am M.length cm),.v (.int .i64 cols)])],_,rfl,by simp,⟨rfl,rfl,rfl,trivial⟩,rfl,fun O w' r=>?_⟩;have hv:=Dw (S:=S) (x:=x) (q:=q) (css:=css) r (id:=6) rfl ⟨hcl,fun j cs q k1 k2=>(hcs j cs q k1 k2).cB fun g hg=>(hw.tr r.cI).block g (hS g hg)⟩ (hF.cB (kS hw r hS)).s5 (by unfold maxLen;omega);refine⟨hv.1,_,s3 (tl:=[(25,.o (.p 1 0)),(26,.o (.w 2 rv.length)),(20,.o (.v (.int .i64 ((i:Nat):Int)))),(1,.o (.v (.slice ab b.length cb))),(2,.o (.p 0 0)),(6,.o (.p 1 0)),(18,.o (.v (.slice am M.length cm))),(19,.o (.v (.int .i64 M.length)))]) hv.1 (t:=35) (n:=x.length+1) rfl ⟨rfl,rfl,rfl,rfl,rfl,rfl,rfl,rfl,trivial⟩ (by simp[ko,SV.sc,At.sc]),?_⟩;replace hK:=(da.cC (hK.rel r hS) (fun g hg=>hg.mono fun p hp=>aB _ hp)).push rfl hv.2;rw[<-hnext]at hK;replace hw:=hw.tr r.cI;generalize (O 6).g=gx at*
    generalize (O 6).cap=cx at*
    generalize (gx,gx+1)::iv=iv2 at*
    refine⟨rfl,?_⟩;refine .inl ?_;refine⟨by simp,by omega,by unfold maxLen;omega,((i+1:Nat):Int),wo,?_⟩;intro ρ3 w3 r3;exact⟨(i+1,rv++[.slice (some ⟨gx,0,none⟩) (x.length+1) cx],w3,_),⟨hib,hw.tr r3.cI,hK.rel r3 hS⟩,Sub.gn [(2,8)] r3 ⟨by dsimp only;rw[List.length_append,List.length_singleton];rfl,rfl,rfl,trivial⟩,by dsimp only;omega⟩
  ·refine⟨rfl,rfl,?_⟩;refine .inl ?_;refine⟨css.flatten,g1,g2,fun O w' r hpos=>?_,?_⟩
   ·obtain⟨u0,hu0⟩:∃u,css.flatten[0]? =some u:=⟨_,aA (by omega)⟩
    obtain⟨ad,ha,_,_⟩:=g5 0 u0 hu0;refine⟨ad,ha,fun j u hj=>?_⟩;obtain⟨ad2,ha2,q1,q2⟩:=g5 j u hj;rw[ha]at ha2;injection ha2 with ha2;subst ha2;rw[cJ (w:=w) (w2:=w') (by rw[dq];exact(hw.tr r.cI).block _ (hS _ q1))];exact q2
   refine⟨rfl,by omega,by unfold maxLen;omega,?_⟩;rw[aU x.length];refine⟨rfl,?_⟩;refine .inl ?_;refine⟨by rw[<-g1];rfl,by omega,by unfold maxLen;omega,rfl,[(1,.box T.dR [.w 2 rv.length,.v (.int .i64 ((cols+1:Nat):Int))]),(2,.vec T.jG 1 rv),(0,.box T.dR [.v (.slice am M.length cm),.v (.int .i64 cols)])],_,rfl,by simp,⟨rfl,rfl,rfl,trivial⟩,rfl,fun O w' r=>?_⟩;have hv:=Dw (S:=S) (x:=x) (q:=q) (css:=css) r (id:=6) rfl ⟨hcl,fun j cs q k1 k2=>(hcs j cs q k1 k2).cB fun g hg=>(hw.tr r.cI).block g (hS g hg)⟩ (hF.cB (kS hw r hS)).s5 (by unfold maxLen;omega);refine⟨hv.1,_,s3 (tl:=[(25,.o (.p 1 0)),(26,.o (.w 2 rv.length)),(20,.o (.v (.int .i64 ((i:Nat):Int)))),(1,.o (.v (.slice ab b.length cb))),(2,.o (.p 0 0)),(6,.o (.p 1 0)),(18,.o (.v (.slice am M.length cm))),(19,.o (.v (.int .i64 M.length)))]) hv.1 (t:=35) (n:=x.length+1) rfl ⟨rfl,rfl,rfl,rfl,rfl,rfl,rfl,rfl,trivial⟩ (by simp[ko,SV.sc,At.sc]),?_⟩;replace hK:=(da.cC (hK.rel r hS) (fun g hg=>hg.mono fun p hp=>aB _ hp)).push rfl hv.2;rw[<-hnext]at hK;replace hw:=hw.tr r.cI;generalize (O 6).g=gx at*
   generalize (O 6).cap=cx at*
   generalize (gx,gx+1)::iv=iv2 at*
   refine⟨rfl,?_⟩;refine .inl ?_;refine⟨by simp,by omega,by unfold maxLen;omega,((i+1:Nat):Int),wo,?_⟩;intro ρ3 w3 r3;exact⟨(i+1,rv++[.slice (some ⟨gx,0,none⟩) (x.length+1) cx],w3,_),⟨hib,hw.tr r3.cI,hK.rel r3 hS⟩,Sub.gn [(2,8)] r3 ⟨by dsimp only;rw[List.length_append,List.length_singleton];rfl,rfl,rfl,trivial⟩,by dsimp only;omega⟩
 have hib:i=M.length:=aQ hi (by simpa using hib);rw[List.take_of_length_le (by rw[kK];omega)]at hK;have hwl:=Fx (b:=b) hlen;obtain⟨f1,f2,f3,f4,f5⟩:=qK (cols+1) hwl;generalize hA:(dF (jU M b) (cols+1)).1=A at*
 generalize hP:(dF (jU M b) (cols+1)).2.1=pv at*
 refine⟨((cols+1:Nat):Int),wo,?_⟩
 refine bu (cH (Φ:=fun _ w' v w2=>∃vr vp vf,v= .agg #[vr,.int .i64 ((cols+1:Nat):Int),vp,vf]∧cO w2 (Nw (Cv S w.heap.size iv) w' w2) vr A∧dO w2 (Nf w' w2) vp pv∧dO w2 (Nf w' w2) vf (dF (jU M b) (cols+1)).2.2) (fun O w' r=>by
  rw[<-hA,<-hP]
  exact tz (C:=fun g=>g<w'.heap.size) (fun g hg=>hg) (Rel.old r hS) ⟨rv,by rw[kK,<-hib,<-hrl];exact(r.jq (id:=2) (sz:=1) (m:=rv.length) rfl (by simp) (by unfold maxLen;omega) (by decide) hK.2.1).cC fun g hg=>hg.2,hK.1,fun i u x h1 h2=>cF.rel (hK.2.2 i u x h1 h2) r hS⟩ hwl (by omega) (by omega) (by rw[kK];omega) (aE _) hB hh) ?_)
 rintro O wa1 v1 wb1 r he hb1 ⟨vr,vp,vf,rfl,k1,k2,k3⟩;replace hw:=hw.tr hb1;have hR:=cO.old k1 r.bw;have hV:=dO.dB (S:=fun _=>False) k2 r.bw (iv:=(wa1.heap.size,wb1.heap.size)::iv) aI;have hX:=dO.dB (S:=fun _=>False) k3 r.bw (iv:=(wa1.heap.size,wb1.heap.size)::iv) aI;generalize (wa1.heap.size,wb1.heap.size)::iv=iv1 at*
 obtain⟨ar,cr,rfl,hcr,hmr⟩:=eP.shape hR;obtain⟨ap,cp,rfl,hcp,hmp⟩:=dO.shape hV;obtain⟨af,cf,rfl,-,-⟩:=dO.shape hX;refine bu (cH (Φ:=fun _ w' v w2=>di w2 (fun _=>False) w'.heap.size [(w'.heap.size,w2.heap.size)] v cols (List.replicate cols 0)) (fun O w' r=>Cb cols w' (by omega)) ?_);rintro O wa2 v2 wb2 r he hb1 hn;replace hw:=hw.tr hb1;replace hR:=cO.cC (S':=Bs S w.heap.size ((wa2.heap.size,wb2.heap.size)::iv1) v2) (cO.cB (cO.rel hR r hS) fun g hg=>he.block g (Rel.old r hS g hg)) fun g hg=>Bs.of r hS (fun x hx=>aB _ hx) hn hg;replace hV:=dO.cC (S':=Bs (fun _=>False) w.heap.size ((wa2.heap.size,wb2.heap.size)::iv1) v2) (dO.cB (dO.rel hV r (bs w)) fun g hg=>he.block g (Rel.old r (bs w) g hg)) fun g hg=>Bs.of r (bs w) (fun x hx=>aB _ hx) hn hg;have hX:=hn.dB (S:=S) r.bw (iv:=(wa2.heap.size,wb2.heap.size)::iv1) aI;generalize (wa2.heap.size,wb2.heap.size)::iv1=iv2 at*
 obtain⟨ax,cx,rfl,hcx⟩:=hX.row.form;have hXl:=hX.row.le;unfold maxLen at hXl
 refine⟨Nat×World×Iv,fun z=>⟨[(51,.o (.v (.int .i64 ((z.1:Nat):Int)))),(2,.o (.p 0 0)),(9,.o (.p 3 0)),(10,.o (.v (.slice ax cols cx))),(49,.o (.v (.slice ap pv.length cp))),(50,.o (.v (.int .i64 pv.length)))],[(3,.box T.dK [.v (.slice ar A.length cr),.v (.int .i64 ((cols+1:Nat):Int)),.v (.slice ap pv.length cp),.v (.slice af (dF (jU M b) (cols+1)).2.2.length cf)]),(0,.box T.dR [.v (.slice am M.length cm),.v (.int .i64 cols)])],4,z.2.2,z.2.1⟩,fun z=>pv.length-z.1,
  fun z=>z.1<=pv.length∧(∀(t p:Nat),t<z.1->pv[t]? =some p->p≠cols)∧cQ w.heap.size w z.2.1∧cO z.2.1 (Bs S w.heap.size z.2.2 (.slice ax cols cx)) (.slice ar A.length cr) A∧dO z.2.1 (Bs (fun _=>False) w.heap.size z.2.2 (.slice ax cols cx)) (.slice ap pv.length cp) pv∧di z.2.1 S w.heap.size z.2.2 (.slice ax cols cx) cols (gJ A pv cols z.1),?_,?_⟩
 ·intro O w' r;exact⟨(0,w',_),⟨aP _,fun t p ht=>absurd ht (Nat.not_lt_zero t),hw.tr r.cI,cO.cB hR (Bs.same r hS),dO.cB hV (Bs.same r (bs w)),hX.rel r hS⟩,Sub.gn [] r⟩
 rintro⟨k,w3,iv⟩ ⟨hk,hnc,hw,hR,hV,hX⟩;dsimp only at hk hnc hw hR hV hX ⊢;refine dH.mk (fun hkb=>?_) (fun hkb=>?_)
 ·have hkb:k<pv.length:=by simpa using hkb
  obtain⟨p,hp⟩:∃p,pv[k]? =some p:=⟨_,aA hkb⟩
  have hpc:=f4 p (aD hp);obtain⟨adp,hap,kp1,kp2⟩:=hV.at hp;refine⟨adp,hap,by omega,.int .i64 (p:Int),fun O w' r=>?_,?_⟩
  ·rw[aJ,cJ (w:=w3) (w2:=w') (by rw[dq];exact Rel.same r (bs w) kp1.1)];exact kp2
  refine dH.mk (fun he=>?_) (fun he=>?_)
  ·have he:p=cols:=by
    have:(p:Int)=cols:=by simpa using he
    omega
   intro ρe we re;refine⟨_,rfl,hw.tr re.cI,.inl ⟨?_,rfl⟩⟩;unfold mr;simp only[hP]
   rw[if_pos (by rw[<-he];exact aD hp)]
  have he:p≠cols:=fun e=>by rw[e]at he;simp at he
  obtain⟨x,hx⟩:∃x,A[k]? =some x:=⟨_,aA (by omega)⟩
  have hxl:=f3 x (aD hx);obtain⟨q,hq⟩:∃q,x[cols]? =some q:=⟨_,aA (by omega)⟩
  have hat:cd A k cols=q:=by simp[cd,List.getD,hx,hq]
  obtain⟨adm,um,ham,hRm,km1,km2⟩:=eP.load hR hx;obtain⟨a0,c0,rfl,hc0,-⟩:=dZ.shape hRm;obtain⟨adq,cs,haq,hF,_,hl⟩:=dZ.load hRm hq;obtain⟨g0,g1,g2,g3,g4,g5,g6,g7,rfl,hF⟩:=hF;refine cD hτ df [.x 0,.x 1,.x 2,.x 3,.x 4,.x 5,.x 6,.x 7,.x 8,.x 9,.x 10,.x 11,.x 12,.x 13] (by kernel_rfl) (by kernel_rfl) ?_;refine⟨adm,ham,by omega,.slice a0 x.length c0,fun O w' r=>?_,?_⟩
  ·rw[aJ,cJ (w:=w3) (w2:=w') (by rw[dq];exact Rel.same r hS km1.1)];exact km2
  refine⟨adq,haq,by omega,[.bool g0,.slice g1 g2 g3,.bool g4,.slice g5 g6 g7],rfl,fun O w' r j u hu=>?_,?_⟩
  ·obtain⟨k1,k2⟩:=hl j u hu;rw[aJ,cJ (w:=w3) (w2:=w') (by rw[dq,dq];exact Rel.same r hS k1.1)];exact k2
  obtain⟨gx,hgx⟩:∃g,ax=some ⟨g,0,none⟩:=by
   obtain⟨css,h1,h2,h3⟩:=hX.row;rcases h1.2 with⟨_,h0⟩|⟨g,cap,cur,e,_⟩
   ·omega
   ·injection e with e;exact⟨g,e⟩
  subst hgx;refine⟨⟨gx,0,none⟩,rfl,by omega,?_⟩;intro O w' r;obtain⟨g,hg,h1,h2,h3,h4,h5⟩:=(hX.rel r hS).store (j:=p) (by omega) (hF.cB (Bs.same r hS)) r hS;injection hg with hg;injection hg with hg;subst hg;refine⟨h1,h2,h3,fun w5 hw5=>?_⟩;obtain⟨k1,k2,k3⟩:=h5 w5 hw5;have hw2:cQ w.heap.size w w5:=(hw.tr r.cI).tr (cQ.grown k2 (fun g e=>by injection e with e;subst e;exact h4.elim (fun h=>h.elim) fun h=>h.1) r.bw);have hR2:=cO.cB hR (Bs.kept r hS k2 fun g e=>e);have hV2:=dO.cB hV (Bs.kept r (bs w) k2 fun g e=>e);have hnext:(gJ A pv cols k).set p q=gJ A pv cols (k+1):=by rw[gO,hat,List.getD,hp];rfl
  rw[hnext]at k1;refine⟨((k+1:Nat):Int),wo,?_⟩;intro ρ3 w6 r3
  exact⟨(k+1,w6,_),⟨hkb,fun t p2 ht hp2=>by
   by_cases htk:t=k
   ·rw[htk,hp]at hp2;injection hp2 with hp2;rw[<-hp2];exact he
   ·exact hnc t p2 (by dsimp only at ht;omega) hp2,hw2.tr r3.cI,cO.cB hR2 (Bs.same r3 hS),dO.cB hV2 (Bs.same r3 (bs w)),k1.rel r3 hS⟩,Sub.gn [] r3,by dsimp only;omega⟩
 have hkb:k=pv.length:=aQ hk (by simpa using hkb);subst hkb;intro ρe we re;refine⟨_,rfl,hw.tr re.cI,.inr ⟨_,_,?_,rfl,hX.LV re hS⟩⟩;unfold mr;simp only[hA,hP]
 rw[aF];intro hm;obtain⟨t,ht⟩:=aR hm;exact hnc t cols (aC.1 ht).1 ht rfl
theorem Cg{u:Value}(hC:Old C w)(hS:Old S w)(hM:kJ w C S v M)(hb:cF w S u b)(hbl:b.length=M.length)(hlen:fp cols M)(hn:cols<=999)(hR:M.length<=1000)(hB:BK (jU M b) (cols+1) h)(hh:3*h<=90000):
  du PG N.iV #[.agg #[v,.int .i64 cols],u] w (eD w fun v' w2=>(mr M b cols=none∧v'= .tuple #[.slice none 0 0,.bool false])∨∃x vx,mr M b cols=some x∧v'= .tuple #[vx,.bool true]∧di w2 S w.heap.size [(w.heap.size,w2.heap.size)] vx cols x):=
 AO hC hS hS hM (cF.rc hb) hbl hlen hn hR hB hh
def rA(pv:List Nat)(n i:Nat):List Value:=(List.range n).map fun c=>.bool (decide (c∈pv.take i))
theorem Fy(pv:List Nat)(n:Nat):rA pv n 0=List.replicate n (.bool false):=by
 refine bO fun j=>?_;rw[rA,aM,List.getElem?_replicate];by_cases h:j<n
 ·rw[bS h,if_pos h];rfl
 ·rw[List.getElem?_eq_none (by simp;omega),aF h];rfl
theorem BL(h:c<n):(rA pv n i)[c]? =some (.bool (decide (c∈pv.take i))):=by
 rw[rA,aM,bS h];rfl
theorem Fz(hp:pv[i]? =some p):(rA pv n i).set p (.bool true)=rA pv n (i+1):=by
 refine bO fun j=>?_;by_cases hj:j<n
 ·rw[BL hj,List.take_add_one,hp];by_cases hpj:p=j
  ·subst hpj;rw[aT (by simp[rA];exact hj)];simp
  ·rw[aw hpj,BL hj];have:j≠p:=fun e=>hpj e.symm;simp[this]
 ·rw[List.getElem?_eq_none (by simp[rA];omega),List.getElem?_eq_none (by simp[rA];omega)]
theorem di.at{cx:Nat}(h:di w S B iv (.slice ax n cx) n qs)(h0:0<n):∃g,ax=some ⟨g,0,none⟩:=by
 obtain⟨css,h1,h2,h3⟩:=h.row;rcases h1.2 with⟨_,h0⟩|⟨g,cap,cur,e,_⟩
 ·omega
 ·injection e with e;exact⟨g,e⟩
set_option maxHeartbeats 2000000 in
theorem GA(hC:Old C w)(hS:Old S w)(hM:kJ w C S v M)(hlen:fp n M)(hn0:0<n)(hn:n<=1000)(hR:M.length<=1000)(hB:BK M n h)(hAb:Ht (dF M n).1 h)(hh:3*h<=90000):
  du PG N.fq #[.agg #[v,.int .i64 n]] w (eD w fun v' w2=>cO w2 (Nf w w2) v' (kD M n)):=by
 have hw:cQ w.heap.size w w:=cQ.refl;obtain⟨am,cm,rfl,hcm,hmm⟩:=kJ.shape hM;unfold maxLen at hmm;obtain⟨f1,f2,f3,f4,f5⟩:=qK n hlen;refine jC (by simp) ?_;unfold kD;generalize hA:(dF M n).1=A at*
 generalize hP:(dF M n).2.1=pv at*
 refine bu (cH (Φ:=fun _ w' v w2=>∃vr vp vf,v= .agg #[vr,.int .i64 n,vp,vf]∧cO w2 (Nw S w' w2) vr A∧dO w2 (Nf w' w2) vp pv∧dO w2 (Nf w' w2) vf (dF M n).2.2) (fun O w' r=>by
  rw[<-hA,<-hP];obtain⟨rv,m1,m2,m3⟩:=hM
  exact tz (C:=C) (S:=S) (oS hC r) (oS hS r) ⟨rv,m1.cB fun g hg=>(hw.tr r.cI).block g (hC g hg),m2,fun i u x h1 h2=>cF.cB (m3 i u x h1 h2) fun g hg=>(hw.tr r.cI).block g (hS g hg)⟩ hlen hn0 hn hR (aE _) hB hh) ?_)
 rintro O wa1 v1 wb1 r he hb1 ⟨vr,vp,vf,rfl,k1,k2,k3⟩;replace hw:=hw.tr hb1;have hR:=cO.old (cO.cC k1 fun g hg=>hg.imp (fun h=>(Or.inl h:Cv S w.heap.size [] g)) id) r.bw;have hV:=dO.dB (S:=fun _=>False) k2 r.bw (iv:=(wa1.heap.size,wb1.heap.size)::[]) aI;have hX:=dO.dB (S:=fun _=>False) k3 r.bw (iv:=(wa1.heap.size,wb1.heap.size)::[]) aI;generalize (wa1.heap.size,wb1.heap.size)::[]=iv1 at*
 obtain⟨ar,cr,rfl,hcr,hmr⟩:=eP.shape hR;obtain⟨ap,cp,rfl,hcp,hmp⟩:=dO.shape hV;obtain⟨af,cf,rfl,-,-⟩:=dO.shape hX
 refine⟨n,n,rfl,rfl,aE _,by omega,by omega,Nat×World×Iv,fun z=>⟨[(1,.o (.p 0 0)),(3,.o (.p 1 0)),(4,.o (.s 2 0 n n)),(20,.o (.v (.slice ap pv.length cp))),(21,.o (.v (.int .i64 pv.length))),(22,.o (.v (.int .i64 ((z.1:Nat):Int))))],[(2,.arr T.bool (rA pv n z.1)),(1,.box T.dK [.v (.slice ar A.length cr),.v (.int .i64 n),.v (.slice ap pv.length cp),.v (.slice af (dF M n).2.2.length cf)]),(0,.box T.dR [.v (.slice am M.length cm),.v (.int .i64 n)])],3,z.2.2,z.2.1⟩,fun z=>pv.length-z.1,
  fun z=>z.1<=pv.length∧cQ w.heap.size w z.2.1∧cO z.2.1 (Cv S w.heap.size z.2.2) (.slice ar A.length cr) A∧dO z.2.1 (Cf w z.2.2) (.slice ap pv.length cp) pv,?_,?_⟩
 ·intro O w' r3;exact⟨(0,w',_),⟨aP _,hw.tr r3.cI,cO.rel hR r3 hS,dO.rel hV r3 (bs w)⟩,Sub.gn [] r3 ⟨by dsimp only;rw[Fy];rfl,rfl,rfl,trivial⟩⟩
 rintro⟨i,w1,iv⟩ ⟨hi,hw,hR,hV⟩;dsimp only at hi hw hR hV ⊢;refine dH.mk (fun hib=>?_) (fun hib=>?_)
 ·have hib:i<pv.length:=by simpa using hib
  obtain⟨p,hp⟩:∃p,pv[i]? =some p:=⟨_,aA hib⟩
  have hpc:=f4 p (aD hp);obtain⟨adp,hap,kp1,kp2⟩:=hV.at hp;refine⟨adp,hap,by omega,.int .i64 (p:Int),fun O w' r=>?_,?_⟩
  ·rw[aJ,cJ (w:=w1) (w2:=w') (by rw[dq];exact Rel.same r (bs w) kp1)];exact kp2
  refine⟨by omega,by simp[rA];omega,rA pv n (i+1),?_,?_⟩
  ·rw[aJ,ai,aU,<-Fz hp];exact iX (by simp[rA];omega)
  refine⟨((i+1:Nat):Int),wo,?_⟩;intro ρ3 w3 r3;exact⟨(i+1,w3,_),⟨hib,hw.tr r3.cI,cO.rel hR r3 hS,dO.rel hV r3 (bs w)⟩,Sub.gn [] r3,by dsimp only;omega⟩
 have hib:i=pv.length:=aQ hi (by simpa using hib);subst hib
 refine⟨Nat×List Value×World×Iv,fun z=>⟨[(32,.o (.v (.int .i64 ((z.1:Nat):Int)))),(7,.o (.w 3 z.2.1.length)),(1,.o (.p 0 0)),(3,.o (.p 1 0)),(4,.o (.s 2 0 n n)),(31,.o (.v (.int .i64 n)))],[(2,.arr T.bool (rA pv n pv.length)),(3,.vec T.jG 1 z.2.1),(1,.box T.dK [.v (.slice ar A.length cr),.v (.int .i64 n),.v (.slice ap pv.length cp),.v (.slice af (dF M n).2.2.length cf)]),(0,.box T.dR [.v (.slice am M.length cm),.v (.int .i64 n)])],4,z.2.2.2,z.2.2.1⟩,fun z=>n-z.1,
  fun z=>z.1<=n∧cQ w.heap.size w z.2.2.1∧cO z.2.2.1 (Cv S w.heap.size z.2.2.2) (.slice ar A.length cr) A∧dO z.2.2.1 (Cf w z.2.2.2) (.slice ap pv.length cp) pv∧da z.2.2.1 (Cf w z.2.2.2) z.2.1 (eE A pv n z.1),?_,?_⟩
 ·intro O w' r;exact⟨(0,[],w',_),⟨aP _,hw.tr r.cI,cO.rel hR r hS,dO.rel hV r (bs w),by simp[da,eE]⟩,Sub.nil 7 T.jG 1 rfl (by simp[ko,SV.sc,At.sc]) r fun ρ1 r1=>Sub.gn [] r1⟩
 rintro⟨c,rv,w1,iv⟩ ⟨hc,hw,hR,hV,hK⟩;dsimp only at hc hw hR hV hK ⊢;have hrl:rv.length=(eE A pv n c).length:=hK.1;have hrc:=Ch A pv n c;refine dH.mk (fun hcb=>?_) (fun hcb=>?_)
 ·have hcb:c<n:=by simpa using hcb
  refine⟨by omega,.bool (decide (c∈pv)),by rw[aJ,ai,aU,BL hcb,bF],?_⟩;refine dH.mk (fun hm=>?_) (fun hm=>?_)
  ·have hm:c∈pv:=by simpa using hm
   refine⟨((c+1:Nat):Int),wo,?_⟩;intro ρ3 w3 r3;exact⟨(c+1,rv,w3,_),⟨hcb,hw.tr r3.cI,cO.rel hR r3 hS,dO.rel hV r3 (bs w),by dsimp only;rw[Ci hm];exact hK.rel r3 (bs w)⟩,Sub.gn [] r3,by dsimp only;omega⟩
  have hm:c∉pv:=by simpa using hm
  refine bu (cH (Φ:=fun _ w' v w2=>di w2 (fun _=>False) w'.heap.size [(w'.heap.size,w2.heap.size)] v n (List.replicate n 0)) (fun O w' r=>Cb n w' (by omega)) ?_);rintro O wa2 v2 wb2 r he hb1 hn2;replace hw:=hw.tr hb1;replace hR:=cO.cC (S':=Bs S w.heap.size ((wa2.heap.size,wb2.heap.size)::iv) v2) (cO.cB (cO.rel hR r hS) fun g hg=>he.block g (Rel.old r hS g hg)) fun g hg=>Bs.of r hS (fun x hx=>aB _ hx) hn2 hg;replace hV:=dO.cC (S':=Bs (fun _=>False) w.heap.size ((wa2.heap.size,wb2.heap.size)::iv) v2) (dO.cB (dO.rel hV r (bs w)) fun g hg=>he.block g (Rel.old r (bs w) g hg)) fun g hg=>Bs.of r (bs w) (fun x hx=>aB _ hx) hn2 hg;replace hK:=da.cC (S':=Bs (fun _=>False) w.heap.size ((wa2.heap.size,wb2.heap.size)::iv) v2) (da.cB (da.rel hK r (bs w)) fun g hg=>he.block g (Rel.old r (bs w) g hg)) fun g hg=>Bs.of r (bs w) (fun x hx=>aB _ hx) hn2 hg;have hX:=hn2.dB (S:=fun _=>False) r.bw (iv:=(wa2.heap.size,wb2.heap.size)::iv) aI;generalize (wa2.heap.size,wb2.heap.size)::iv=iv2 at*
  obtain⟨ax,cx,rfl,hcx⟩:=hX.row.form;obtain⟨gx,rfl⟩:=hX.at hn0;refine bu (cH (Φ:=fun _ w' v w2=>cP w2 (Nf w' w2) v ((1:Int):Rat)) (fun O w' r=>ke 1 w' (by decide) (by decide)) ?_);rintro O wa3 v3 wb3 r he hb1 hn2;replace hw:=hw.tr hb1;replace hR:=cO.cC (S':=Bs S w.heap.size ((wa3.heap.size,wb3.heap.size)::iv2) (.slice (some ⟨gx,0,none⟩) n cx)) (cO.cB (cO.cB hR (Bs.same r hS)) fun g hg=>he.block g (Rel.old r hS g hg.1)) fun g hg=>Bs.mono (fun x hx=>aB _ hx) hg;replace hV:=dO.cC (S':=Bs (fun _=>False) w.heap.size ((wa3.heap.size,wb3.heap.size)::iv2) (.slice (some ⟨gx,0,none⟩) n cx)) (dO.cB (dO.cB hV (Bs.same r (bs w))) fun g hg=>he.block g (Rel.old r (bs w) g hg.1)) fun g hg=>Bs.mono (fun x hx=>aB _ hx) hg;replace hK:=da.cC (S':=Bs (fun _=>False) w.heap.size ((wa3.heap.size,wb3.heap.size)::iv2) (.slice (some ⟨gx,0,none⟩) n cx)) (da.cB (da.cB hK (Bs.same r (bs w))) fun g hg=>he.block g (Rel.old r (bs w) g hg.1)) fun g hg=>Bs.mono (fun x hx=>aB _ hx) hg;have hd:=(hn2.cC (S':=Bs (fun _=>False) w.heap.size ((wa3.heap.size,wb3.heap.size)::iv2) (.slice (some ⟨gx,0,none⟩) n cx)) fun g hg=>hg.elim (fun h=>h.elim) fun h=>⟨.inr ⟨by have:=r.bw;omega,_,_,aI,h.1,h.2⟩,fun e=>by have:=Rel.old r (bs w) g (hX.new g e);omega⟩)
  replace hX:=hX.bz (iv':=(wa3.heap.size,wb3.heap.size)::iv2) r (bs w) he fun x hx=>aB _ hx;generalize (wa3.heap.size,wb3.heap.size)::iv2=iv3 at*
  obtain⟨s3_0,s3_1,s3_2,s3_3,s3_4,s3_5,s3_6,s3_7,rfl⟩:=hd.shape;refine⟨⟨gx,0,none⟩,rfl,by omega,?_⟩;intro O w' r;obtain⟨g,hg,h1,h2,h3,h4,h5⟩:=(hX.rel r (bs w)).store (j:=c) hcb (hd.cB (Bs.same r (bs w))) r (bs w);injection hg with hg;injection hg with hg;subst hg;refine⟨h1,h2,h3,fun w5 hw5=>?_⟩;obtain⟨k1,k2,k3⟩:=h5 w5 hw5;have hw2:cQ w.heap.size w w5:=(hw.tr r.cI).tr (cQ.grown k2 (fun g e=>by injection e with e;subst e;exact h4.elim (fun h=>h.elim) fun h=>h.1) r.bw);have hR2:=cO.cB hR (Bs.kept r hS k2 fun g e=>e);have hV2:=dO.cB hV (Bs.kept r (bs w) k2 fun g e=>e);have hK2:=da.cB hK (Bs.kept r (bs w) k2 fun g e=>e);have hnext:(List.replicate n (0:Rat)).set c ((1:Int):Rat)=fZ A pv n c 0:=rfl;rw[hnext]at k1
  refine⟨Nat×World×Iv,fun z=>⟨[(49,.o (.v (.int .i64 ((z.1:Nat):Int)))),(8,.o (.v (.int .i64 ((c:Nat):Int)))),(9,.o (.v (.slice (some ⟨gx,0,none⟩) n cx))),(32,.o (.v (.int .i64 ((c:Nat):Int)))),(47,.o (.v (.slice ap pv.length cp))),(48,.o (.v (.int .i64 pv.length))),(7,.o (.w 3 rv.length)),(1,.o (.p 0 0)),(3,.o (.p 1 0)),(4,.o (.s 2 0 n n)),(31,.o (.v (.int .i64 n)))],[(2,.arr T.bool (rA pv n pv.length)),(3,.vec T.jG 1 rv),(1,.box T.dK [.v (.slice ar A.length cr),.v (.int .i64 n),.v (.slice ap pv.length cp),.v (.slice af (dF M n).2.2.length cf)]),(0,.box T.dR [.v (.slice am M.length cm),.v (.int .i64 n)])],4,z.2.2,z.2.1⟩,fun z=>pv.length-z.1,
   fun z=>z.1<=pv.length∧cQ w.heap.size w z.2.1∧cO z.2.1 (Bs S w.heap.size z.2.2 (.slice (some ⟨gx,0,none⟩) n cx)) (.slice ar A.length cr) A∧dO z.2.1 (Bs (fun _=>False) w.heap.size z.2.2 (.slice (some ⟨gx,0,none⟩) n cx)) (.slice ap pv.length cp) pv∧da z.2.1 (Bs (fun _=>False) w.heap.size z.2.2 (.slice (some ⟨gx,0,none⟩) n cx)) rv (eE A pv n c)∧di z.2.1 (fun _=>False) w.heap.size z.2.2 (.slice (some ⟨gx,0,none⟩) n cx) n (fZ A pv n c z.1),?_,?_⟩
  ·intro O w' r3;exact⟨(0,w',_),⟨aP _,hw2.tr r3.cI,cO.cB hR2 (Bs.same r3 hS),dO.cB hV2 (Bs.same r3 (bs w)),da.cB hK2 (Bs.same r3 (bs w)),k1.rel r3 (bs w)⟩,Sub.gn [] r3⟩
  rintro⟨k,w3,iv⟩ ⟨hk,hw,hR,hV,hK,hX⟩;dsimp only at hk hw hR hV hK hX ⊢;refine dH.mk (fun hkb=>?_) (fun hkb=>?_)
  ·have hkb:k<pv.length:=by simpa using hkb
   obtain⟨p,hp⟩:∃p,pv[k]? =some p:=⟨_,aA hkb⟩
   have hpc:=f4 p (aD hp);obtain⟨adp,hap,kp1,kp2⟩:=hV.at hp;obtain⟨x,hx⟩:∃x,A[k]? =some x:=⟨_,aA (by omega)⟩
   have hxl:=f3 x (aD hx);obtain⟨q,hq⟩:∃q,x[c]? =some q:=⟨_,aA (by omega)⟩
   have hat:cd A k c=q:=by simp[cd,List.getD,hx,hq]
   have hql:=hAb x (aD hx) q (aD hq);obtain⟨adm,um,ham,hRm,km1,km2⟩:=eP.load hR hx;obtain⟨a0,c0,rfl,hc0,-⟩:=dZ.shape hRm;obtain⟨adq,cs,haq,hF,_,hl⟩:=dZ.load hRm hq;obtain⟨g0,g1,g2,g3,g4,g5,g6,g7,rfl,hF⟩:=hF;refine⟨adp,hap,by omega,.int .i64 (p:Int),fun O w' r=>?_,?_⟩
   ·rw[aJ,cJ (w:=w3) (w2:=w') (by rw[dq];exact Rel.same r (bs w) kp1.1)];exact kp2
   refine⟨adm,ham,by omega,.slice a0 x.length c0,fun O w' r=>?_,?_⟩
   ·rw[aJ,cJ (w:=w3) (w2:=w') (by rw[dq];exact Rel.same r hS km1.1)];exact km2
   refine⟨adq,haq,by omega,[.bool g0,.slice g1 g2 g3,.bool g4,.slice g5 g6 g7],rfl,fun O w' r j u hu=>?_,?_⟩
   ·obtain⟨k1,k2⟩:=hl j u hu;rw[aJ,cJ (w:=w3) (w2:=w') (by rw[dq,dq];exact Rel.same r hS k1.1)];exact k2
   refine bu (cH (Φ:=fun _ w' v w2=>cP w2 (Nf w' w2) v (-q)) (fun O w' r=>Hb (S:=Bs S w.heap.size iv (.slice (some ⟨gx,0,none⟩) n cx)) (fun g hg=>Rel.old r hS g hg.1) ((hF.cB (Bs.same r hS)).l (by omega))) ?_);rintro O wa4 v4 wb4 r he hb1 hn2;replace hw:=hw.tr hb1;replace hR:=cO.cC (S':=Bs S w.heap.size ((wa4.heap.size,wb4.heap.size)::iv) (.slice (some ⟨gx,0,none⟩) n cx)) (cO.cB (cO.cB hR (Bs.same r hS)) fun g hg=>he.block g (Rel.old r hS g hg.1)) fun g hg=>Bs.mono (fun x hx=>aB _ hx) hg;replace hV:=dO.cC (S':=Bs (fun _=>False) w.heap.size ((wa4.heap.size,wb4.heap.size)::iv) (.slice (some ⟨gx,0,none⟩) n cx)) (dO.cB (dO.cB hV (Bs.same r (bs w))) fun g hg=>he.block g (Rel.old r (bs w) g hg.1)) fun g hg=>Bs.mono (fun x hx=>aB _ hx) hg;replace hK:=da.cC (S':=Bs (fun _=>False) w.heap.size ((wa4.heap.size,wb4.heap.size)::iv) (.slice (some ⟨gx,0,none⟩) n cx)) (da.cB (da.cB hK (Bs.same r (bs w))) fun g hg=>he.block g (Rel.old r (bs w) g hg.1)) fun g hg=>Bs.mono (fun x hx=>aB _ hx) hg;have hd:=(hn2.cC (S':=Bs (fun _=>False) w.heap.size ((wa4.heap.size,wb4.heap.size)::iv) (.slice (some ⟨gx,0,none⟩) n cx)) fun g hg=>hg.elim (fun h=>h.elim) fun h=>⟨.inr ⟨by have:=r.bw;omega,_,_,aI,h.1,h.2⟩,fun e=>by have:=Rel.old r (bs w) g (hX.new g e);omega⟩)
   replace hX:=hX.bz (iv':=(wa4.heap.size,wb4.heap.size)::iv) r (bs w) he fun x hx=>aB _ hx;generalize (wa4.heap.size,wb4.heap.size)::iv=iv4 at*
   obtain⟨s4_0,s4_1,s4_2,s4_3,s4_4,s4_5,s4_6,s4_7,rfl⟩:=hd.shape;refine⟨⟨gx,0,none⟩,rfl,by omega,?_⟩;intro O w' r;obtain⟨g,hg,h1,h2,h3,h4,h5⟩:=(hX.rel r (bs w)).store (j:=p) (by omega) (hd.cB (Bs.same r (bs w))) r (bs w);injection hg with hg;injection hg with hg;subst hg;refine⟨h1,h2,h3,fun w5 hw5=>?_⟩;obtain⟨k1,k2,k3⟩:=h5 w5 hw5;have hw2:cQ w.heap.size w w5:=(hw.tr r.cI).tr (cQ.grown k2 (fun g e=>by injection e with e;subst e;exact h4.elim (fun h=>h.elim) fun h=>h.1) r.bw);have hR2:=cO.cB hR (Bs.kept r hS k2 fun g e=>e);have hV2:=dO.cB hV (Bs.kept r (bs w) k2 fun g e=>e);have hK2:=da.cB hK (Bs.kept r (bs w) k2 fun g e=>e);have hnext:(fZ A pv n c k).set p (-q)=fZ A pv n c (k+1):=by rw[gN,hat,List.getD,hp];rfl
   rw[hnext]at k1;refine⟨((k+1:Nat):Int),wo,?_⟩;intro ρ3 w6 r3;exact⟨(k+1,w6,_),⟨hkb,hw2.tr r3.cI,cO.cB hR2 (Bs.same r3 hS),dO.cB hV2 (Bs.same r3 (bs w)),da.cB hK2 (Bs.same r3 (bs w)),k1.rel r3 (bs w)⟩,Sub.gn [] r3,by dsimp only;omega⟩
  have hkb:k=pv.length:=aQ hk (by simpa using hkb);rw[hkb]at hX;replace hR:=cO.cC hR fun g hg=>hg.1;replace hV:=dO.cC hV fun g hg=>hg.1;replace hK:=(da.cC hK fun g hg=>hg.1).push (u:=(.slice (some ⟨gx,0,none⟩) n cx)) (x:=fZ A pv n c pv.length) rfl (by have:=hX.c;exact this);rw[<-BM hm]at hK;refine .inl ?_;refine⟨by simp,by omega,by unfold maxLen;omega,((c+1:Nat):Int),wo,?_⟩;intro ρ3 w3 r3;exact⟨(c+1,rv++[(.slice (some ⟨gx,0,none⟩) n cx)],w3,_),⟨hcb,hw.tr r3.cI,cO.rel hR r3 hS,dO.rel hV r3 (bs w),hK.rel r3 (bs w)⟩,Sub.gn [(3,5)] r3 (hE:=⟨rfl,by dsimp only;rw[List.length_append,List.length_singleton];rfl,rfl,rfl,rfl,rfl,trivial⟩),by dsimp only;omega⟩
 have hcb:c=n:=aQ hc (by simpa using hcb);subst hcb;intro ρe we re;refine⟨_,rfl,hw.tr re.cI,rv,?_,hK.1,fun i u x k1 k2=>cF.cC (cF.rel (hK.2.2 i u x k1 k2) re (bs w)) fun g hg=>Cv.nw hg re⟩;rw[<-hK.1];exact(re.jq (id:=3) (sz:=1) (m:=rv.length) rfl (by simp) (by unfold maxLen;omega) (by decide) hK.2.1).cC fun g hg=>.inr hg
structure iF(w:World)(S:Nat->Prop)(B:Nat)(iv:Iv)(v:Value)(n i:Nat)(qs:List Rat):Prop where
 row:∃css,w.ownsRow 0 T.Rat 4 v n css.flatten∧fc w (Bs S B iv v) n i css qs
 new:∀g,v.ownBlock=some g->Cv (fun _=>False) B iv g
section
variable{S S':Nat->Prop}{H:Hp}{nx n i:Nat}{iv iv':Iv}{B:Nat}{w w' w2:World}{O:Nat->Sx.dU}{v:Value}{qs:List Rat}
theorem iF.cB(h:iF w S B iv v n i qs)(hk:∀g,Cv S B iv g->w2.heap[g]? =w.heap[g]?):iF w2 S B iv v n i qs:=by
 obtain⟨⟨css,h1,h2⟩,h3⟩:=h;exact⟨⟨css,ownsRow.cB h1 fun g hg=>hk g (Ia (h3 g hg)),h2.cB fun g hg=>hk g hg.1⟩,h3⟩
theorem iF.rel(h:iF w S B iv v n i qs)(r:Rel H nx iv B w O w')(hS:∀g,S g->g<B):iF w' S B iv v n i qs:=h.cB fun _ hg=>Rel.same r hS hg
theorem iF.mono(h:iF w S B iv v n i qs)(hm:∀p,p∈iv->p∈iv'):iF w S B iv' v n i qs:=by
 obtain⟨⟨css,h1,h2⟩,h3⟩:=h;exact⟨⟨css,h1,h2.cC fun g hg=>hg.mono hm⟩,fun g hg=>(h3 g hg).mono hm⟩
theorem iF.bz(h:iF w S B iv v n i qs)(r:Rel H nx iv B w O w')(hS:∀g,S g->g<B)(he:Ext w' w2)(hm:∀p,p∈iv->p∈iv'):iF w2 S B iv' v n i qs:=
 ((h.rel r hS).cB fun g hg=>he.block g (Rel.old r hS g hg)).mono hm
theorem iF.qz(r:Rel H nx iv B w O w')(h:cY H id=some (.arr T.Rat (List.replicate n [Value.bool false,.slice none 0 0,.bool false,.slice none 0 0]).flatten))(hn:n<=maxLen)(qs:List Rat):
  iF w' S B (((O id).g,(O id).g+1)::iv) (.slice (some ⟨(O id).g,0,none⟩) n n) n 0 qs:=by
 have hnil:=(r.fits h).1;have h4:∀cs∈List.replicate n [Value.bool false,.slice none 0 0,.bool false,.slice none 0 0],cs.length=4:=fun cs hc=>by rw[List.eq_of_mem_replicate hc];rfl
 have hf:=fu h4;rw[bE]at hf;refine⟨⟨List.replicate n [.bool false,.slice none 0 0,.bool false,.slice none 0 0],⟨hf,.inr ⟨(O id).g,n,_,rfl,aP _,r.arr id _ _ h,aE _,hn,by simp,by rw[<-hf];exact bF⟩⟩,fc.start w' _ n qs⟩,fun g hg=>?_⟩;injection hg with hg;have hg:(O id).g=g:=hg;subst hg;exact .inr ⟨(r.low id _ h hnil).1,_,_,aI,aE _,bl _⟩
theorem iF.store{a1 a2:Option Addr}{n1 c1 n2 c2:Nat}{b b2:Bool}(h:iF w S B iv (.slice a n c) n j qs)(hj:j<n)(hq:qs[j]? =some q)(hf:cP w (Bs S B iv (.slice a n c)) (.agg #[.bool b,.slice a1 n1 c1,.bool b2,.slice a2 n2 c2]) q)
  (r:Rel H nx iv B w O w') (hS:∀g,S g->g<B):
  ∃g,a=some ⟨g,0,none⟩∧((⟨g,0,none⟩:Addr).add ((j:Int).toNat*4)).spot=none∧
   (∀k,k<4->(w'.cell? (((⟨g,0,none⟩:Addr).add ((j:Int).toNat*4)).add k)).isSome=true∧w'.frozen? (((⟨g,0,none⟩:Addr).add ((j:Int).toNat*4)).add k)=false)∧
   (∀id b,cY H id=some b->(O id).nil=false->(O id).g≠((⟨g,0,none⟩:Addr).add ((j:Int).toNat*4)).block)∧
   ∀w2,w2=setCells w' ((⟨g,0,none⟩:Addr).add ((j:Int).toNat*4)) [.bool b,.slice a1 n1 c1,.bool b2,.slice a2 n2 c2]->iF w2 S B iv (.slice a n c) n (j+1) qs∧w'.grownBy w2 (some g)∧cQ B w' w2∧Rel H nx iv B w2 O w2:=by
 obtain⟨⟨css,h1,h2⟩,h3⟩:=h.rel r hS;have hf:=hf.cB (Bs.same r hS);obtain⟨g,rfl,hok,hst,hgr,hsz⟩:=oI (nv:=[.bool b,.slice a1 n1 c1,.bool b2,.slice a2 n2 c2]) h1 rfl hj rfl (by decide);have had:(⟨g,0,none⟩:Addr).add ((j:Int).toNat*4)=⟨g,j*4,none⟩:=by rw[aJ,dN,aU]
 have hnot:=Rel.not r (gu B) (h3 g rfl);refine⟨g,rfl,by rw[had],fun k hk=>by rw[had];exact hok k hk,fun id b hb hn=>by rw[had];exact hnot id b hb hn,fun w2 hw2=>?_⟩;rw[had]at hw2;subst hw2;have hset:=jg (cs:=[.bool b,.slice a1 n1 c1,.bool b2,.slice a2 n2 c2]) h2.four (show j<css.length by rw[h2.len];exact hj);rw[hset]at hst;have hkeep:∀x,Bs S B iv (.slice (some ⟨g,0,none⟩) n c) x->(setCells w' ⟨g,j*4,none⟩ [.bool b,.slice a1 n1 c1,.bool b2,.slice a2 n2 c2]).heap[x]? =w'.heap[x]? :=fun x hx=>
  hgr.block x (Rel.old r hS x hx.1) fun e=>hx.2 e.symm
 refine⟨⟨⟨_,hst,(h2.cB hkeep).next hj hq (hf.cB hkeep)⟩,h3⟩,hgr,cQ.grown hgr (fun x e=>by injection e with e;subst e;exact(h3 g rfl).elim (fun h=>h.elim) fun h=>h.1) r.bw,r.wh hnot hgr⟩
theorem iF.done(h:iF w S B iv v n n qs)(hl:qs.length=n):di w S B iv v n qs:=by
 obtain⟨⟨css,h1,h2⟩,h3⟩:=h;exact⟨⟨css,h1,h2.len,by rw[h2.len,hl],fun j cs q k1 k2=>h2.at_ j cs q (by rw[<-hl];exact(aC.1 k2).1) k1 k2⟩,h3⟩
end
theorem qL(M:List (List Rat))(n:Nat):(eN M n).length=n:=by simp[eN]
theorem GB{k:Nat}(h:k<n):(eN M n)[k]? =some (M.map fun r=>r.getD k 0):=by rw[eN,aM,bS h];rfl
set_option maxHeartbeats 1000000 in
theorem zP(hC:Old C w)(hS:Old S w)(hM:kJ w C S v M)(hlen:fp n M)(hn:n<=1000)(hR:M.length<=1000):
  du PG N.ic #[.agg #[v,.int .i64 n]] w (eD w fun v' w2=>∃vr,v'= .agg #[vr,.int .i64 M.length]∧cO w2 (Nw S w w2) vr (eN M n)):=by
 have hw:cQ w.heap.size w w:=cQ.refl;obtain⟨am,cm,rfl,hcm,hmm⟩:=kJ.shape hM;unfold maxLen at hmm;refine kI (by simp) ?_
 refine⟨Nat×List Value×World×Iv,fun z=>⟨[(13,.o (.v (.int .i64 ((z.1:Nat):Int)))),(1,.o (.p 0 0)),(2,.o (.p 1 0)),(3,.o (.p 2 0)),(12,.o (.v (.int .i64 n)))],[(2,.box T.dR [.w 3 z.2.1.length,.v (.int .i64 M.length)]),(3,.vec T.jG 1 z.2.1),(1,.box T.dR [.v (.slice none 0 0),.v (.int .i64 0)]),(0,.box T.dR [.v (.slice am M.length cm),.v (.int .i64 n)])],4,z.2.2.2,z.2.2.1⟩,fun z=>n-z.1,
  fun z=>z.1<=n∧cQ w.heap.size w z.2.2.1∧da z.2.2.1 (Cv S w.heap.size z.2.2.2) z.2.1 ((eN M n).take z.1),?_,?_⟩
 ·intro O w' r;exact⟨(0,[],w',[]),⟨aP _,hw.tr r.cI,by simp[da]⟩,Sub.zO 2 0 T.jG 1 rfl rfl (by simp[ko,SV.sc,At.sc,gM]) r fun ρ1 r1=>Sub.gn [] r1⟩
 rintro⟨k,rv,w1,iv⟩ ⟨hk,hw,hK⟩;dsimp only at hk hw hK ⊢;have hrl:rv.length=k:=by rw[hK.1,aW,qL];omega
 refine dH.mk (fun hkb=>?_) (fun hkb=>?_)
 ·have hkb:k<n:=by simpa using hkb
  have htk:=GB (M:=M) hkb;have hnext:(eN M n).take (k+1)=(eN M n).take k++[M.map fun r=>r.getD k 0]:=by rw[List.take_add_one,htk];rfl
  refine⟨M.length,M.length,rfl,rfl,aE _,by omega,by omega,Nat×Nat×World×Iv,fun z=>⟨[(5,.o (.v (.slice (some ⟨z.2.1,0,none⟩) M.length M.length))),(4,.o (.v (.int .i64 ((k:Nat):Int)))),(13,.o (.v (.int .i64 ((k:Nat):Int)))),(22,.o (.v (.int .i64 M.length))),(23,.o (.v (.int .i64 ((z.1:Nat):Int)))),(1,.o (.p 0 0)),(2,.o (.p 1 0)),(3,.o (.p 2 0)),(12,.o (.v (.int .i64 n)))],[(2,.box T.dR [.w 3 rv.length,.v (.int .i64 M.length)]),(3,.vec T.jG 1 rv),(1,.box T.dR [.v (.slice none 0 0),.v (.int .i64 0)]),(0,.box T.dR [.v (.slice am M.length cm),.v (.int .i64 n)])],5,z.2.2.2,z.2.2.1⟩,fun z=>M.length-z.1,
   fun z=>z.1<=M.length∧cQ w.heap.size w z.2.2.1∧da z.2.2.1 (Bs S w.heap.size z.2.2.2 (.slice (some ⟨z.2.1,0,none⟩) M.length M.length)) rv ((eN M n).take k)∧iF z.2.2.1 S w.heap.size z.2.2.2 (.slice (some ⟨z.2.1,0,none⟩) M.length M.length) M.length z.1 (M.map fun r=>r.getD k 0),?_,?_⟩
  ·intro O w' r;have hf:=iF.qz (S:=S) (n:=M.length) r (id:=4) rfl (by unfold maxLen;omega) (M.map fun r=>r.getD k 0)
   exact⟨(0,(O 4).g,w',((O 4).g,(O 4).g+1)::iv),⟨aP _,hw.tr r.cI,da.cC (hK.rel r hS) fun g hg=>⟨hg.mono fun p hp=>aB _ hp,fun e=>Rel.not r hS hg 4 _ rfl (r.fits (id:=4) rfl).1 (by injection e)⟩,hf⟩,
    Sub.qz r (id:=4) (t:=5) rfl rfl ⟨rfl,rfl,rfl,rfl,trivial⟩ rfl ⟨rfl,rfl,rfl,rfl,rfl,rfl,rfl,rfl,trivial⟩ (by simp[ko,SV.sc,At.sc])⟩
  rintro⟨i,gx,w2,iv⟩ ⟨hi,hw,hK,hX⟩;dsimp only at hi hw hK hX ⊢;refine dH.mk (fun hib=>?_) (fun hib=>?_)
  ·have hib:i<M.length:=by simpa using hib
   obtain⟨x,hx⟩:∃r,M[i]? =some r:=⟨_,aA hib⟩
   have hxl:=hlen x (aD hx);obtain⟨q,hq⟩:∃q,x[k]? =some q:=⟨_,aA (by omega)⟩
   have hqd:x.getD k 0=q:=by rw[List.getD,hq];rfl
   obtain⟨adm,um,ham,hRm,km1,km2⟩:=kJ.load hM hx;obtain⟨a0,c0,rfl,hc0,-⟩:=dZ.shape hRm;obtain⟨adq,cs,haq,hF,_,hl⟩:=dZ.load hRm hq;obtain⟨g0,g1,g2,g3,g4,g5,g6,g7,rfl,hF⟩:=hF;refine⟨adm,ham,by omega,.slice a0 x.length c0,rd1 km2 hw (hC _ km1),adq,haq,by omega,[.bool g0,.slice g1 g2 g3,.bool g4,.slice g5 g6 g7],rfl,rdO hl hw hS,⟨gx,0,none⟩,rfl,by omega,?_⟩;intro O w' r
   have hF2:cP w2 (Bs S w.heap.size iv (.slice (some ⟨gx,0,none⟩) M.length M.length)) (.agg #[.bool g0,.slice g1 g2 g3,.bool g4,.slice g5 g6 g7]) q:=(hF.cB fun g hg=>hw.block g (hS g hg)).cC fun g hg=>⟨.inl hg,fun e=>by
    have h1:=hS g hg;rcases hX.new g e with h2|⟨h2,_⟩
    ·exact h2
    ·omega⟩
   obtain⟨g,hg,h1,h2,h3,h4⟩:=hX.store (j:=i) hib (by rw[aM,hx,<-hqd];rfl) hF2 r hS;injection hg with hg;injection hg with hg;subst hg;refine⟨h1,h2,h3,fun w5 hw5=>?_⟩;obtain⟨k1,k2,k3,k4⟩:=h4 w5 hw5;have hw2:=(hw.tr r.cI).tr k3;have hK2:=da.cB hK (Bs.kept r hS k2 fun g e=>e);refine⟨((i+1:Nat):Int),wo,?_⟩;intro ρ3 w6 r3;exact⟨(i+1,gx,w6,_),⟨hib,hw2.tr r3.cI,da.cB hK2 (Bs.same r3 hS),k1.rel r3 hS⟩,Sub.gn [] r3,by dsimp only;omega⟩
  have hib:i=M.length:=aQ hi (by simpa using hib);rw[hib]at hX;have hX2:=(hX.done (by simp)).c;replace hK:=(da.cC hK fun g hg=>hg.1).push (u:=(.slice (some ⟨gx,0,none⟩) M.length M.length)) (x:=M.map fun r=>r.getD k 0) rfl hX2;rw[<-hnext]at hK;refine .inl ?_;refine⟨by simp,by omega,by unfold maxLen;omega,((k+1:Nat):Int),wo,?_⟩;intro ρ3 w3 r3;exact⟨(k+1,rv++[(.slice (some ⟨gx,0,none⟩) M.length M.length)],w3,_),⟨hkb,hw.tr r3.cI,hK.rel r3 hS⟩,Sub.gn [(3,6)] r3 ⟨by dsimp only;rw[List.length_append,List.length_singleton];rfl,rfl,rfl,rfl,trivial⟩,by dsimp only;omega⟩
 have hkb:k=n:=aQ hk (by simpa using hkb);rw[List.take_of_length_le (by rw[qL];omega)]at hK;intro ρe we re;refine⟨_,rfl,hw.tr re.cI,_,rfl,rv,?_,hK.1,fun i u x k1 k2=>cF.cC (cF.rel (hK.2.2 i u x k1 k2) re hS) fun g hg=>Cv.nw hg re⟩;rw[<-hK.1];exact(re.jq (id:=3) (sz:=1) (m:=rv.length) rfl (by simp) (by unfold maxLen;omega) (by decide) hK.2.1).cC fun g hg=>.inr hg
end Go.Ex
