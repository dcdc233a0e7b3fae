/- Texts L8 to L10: lemmas, each with its conditions. -/
import Derived.Test.YtgkpbdkechfgmaaGreatP5
namespace Go.Ex
variable{ds:List Nat}
def dY:List Int->Int
 |[]=>0
 |c::r=>c+65536*dY r
def up(k:Nat):Int:=65536^k
theorem GB(k:Nat):up (k+1)=65536*up k:=by rw[up,Int.pow_succ,Int.mul_comm];rfl
theorem aAO(k:Nat):0<up k:=Int.pow_pos (by decide)
theorem D9(a b:List Int):dY (a++b)=dY a+up a.length*dY b:=by
 induction a with
 |nil=>simp[dY,up]
 |cons c r ih=>rw[List.cons_append,dY,ih,dY,List.length_cons,GB,Int.mul_add,<-Int.mul_assoc];omega
theorem Jj(a:List Int):dY (a.map (- ·))= -dY a:=by
 induction a with
 |nil=>rfl
 |cons c r ih=>rw[List.map_cons,dY,ih,dY];omega
def Dg(l:List Nat):Prop:=∀d∈l,d<65536
def nR(l:List Nat):Int:=dY (l.map fun d:Nat=>(d:Int))
theorem CI{l:List Nat}(h:Dg l):0<=nR l∧nR l<up l.length:=by
 induction l with
 |nil=>exact⟨Int.le_refl _,by decide⟩
 |cons d r ih=>
  have h1:=ih fun x hx=>h x (aC _ hx);have h2:=h d aI;have e:nR (d::r)=(d:Int)+65536*nR r:=rfl;rw[e,List.length_cons,GB];omega
def du:List Int->Int->List Nat×Int
 |[],k=>([],k)
 |c::r,k=>(((c+k) % 65536).toNat::(du r ((c+k) / 65536)).1,(du r ((c+k) / 65536)).2)
theorem mR:∀(cs:List Int) (k:Int),dY cs+k=nR (du cs k).1+up cs.length*(du cs k).2∧Dg (du cs k).1∧(du cs k).1.length=cs.length
 |[],k=>⟨by simp[dY,du,nR,up],by simp[du,Dg],rfl⟩
 |c::r,k=>by
  obtain⟨h1,h2,h3⟩:=mR r ((c+k) / 65536);have h4:0<=(c+k) % 65536:=Int.emod_nonneg _ (by decide);have h5:(c+k) % 65536<65536:=Int.emod_lt_of_pos _ (by decide);have h6:=Int.mul_ediv_add_emod (c+k) 65536;refine⟨?_,fun d hd=>?_,by simp[du,h3]⟩
  ·have e:nR (du (c::r) k).1=(((c+k) % 65536).toNat:Int)+65536*nR (du r ((c+k) / 65536)).1:=rfl;have e2:(du (c::r) k).2=(du r ((c+k) / 65536)).2:=rfl;rw[e,e2,dY,List.length_cons,GB,Int.mul_assoc];omega
  ·have e:(du (c::r) k).1=((c+k) % 65536).toNat::(du r ((c+k) / 65536)).1:=rfl;rw[e]at hd;rcases List.mem_cons.1 hd with rfl|hd
   ·omega
   ·exact h2 d hd
theorem GC(cs:List Int)(c k:Int):du (cs++[c]) k=((du cs k).1++[((c+(du cs k).2) % 65536).toNat],(c+(du cs k).2) / 65536):=by
 induction cs generalizing k with
 |nil=>rfl
 |cons d r ih=>simp only[List.cons_append,du,ih]
theorem lN:∀(cs:List Int) (k:Int),(∀c∈cs,-1152921504606846976<=c∧c<=1152921504606846976)-> -1152921504606846976<=k->k<=1152921504606846976-> -1152921504606846976<=(du cs k).2∧(du cs k).2<=1152921504606846976
 |[],k,_,h1,h2=>⟨h1,h2⟩
 |c::r,k,h,h1,h2=>by
  have hc:=h c aI;exact lN r _ (fun x hx=>h x (aC _ hx)) (by omega) (by omega)
def dQ(n:Nat):List Nat:=if h:n=0 then []else n % 65536::dQ (n / 65536)
termination_by n
decreasing_by omega
theorem mS:dQ 0=[]:=by rw[dQ];rfl
theorem rX{n:Nat}(h:0<n):dQ n=n % 65536::dQ (n / 65536):=by
 rw[dQ,dif_neg (by omega)]
theorem mT(n:Nat):nR (dQ n)=n∧Dg (dQ n):=by
 induction n using Nat.strongRecOn with
 |_ n ih=>
  rcases bQ n with h|h
  ·subst h;rw[mS];exact⟨rfl,by simp[Dg]⟩
  ·rw[rX h];obtain⟨h1,h2⟩:=ih (n / 65536) (by omega);refine⟨?_,fun d hd=>?_⟩
   ·have e:nR (n % 65536::dQ (n / 65536))=((n % 65536:Nat):Int)+65536*nR (dQ (n / 65536)):=rfl;rw[e,h1];omega
   ·rcases List.mem_cons.1 hd with rfl|hd
    ·omega
    ·exact h2 d hd
theorem kJ{n:Nat}:∀{k:Nat},n<65536^k->(dQ n).length<=k
 |0,h=>by
  have:n=0:=by simp at h;exact h
  subst this;rw[mS];simp
 |k+1,h=>by
  rcases bQ n with h0|h0
  ·subst h0;rw[mS];simp
  ·rw[rX h0,List.length_cons];have:=kJ (n:=n / 65536) (k:=k) (by rw[Nat.pow_succ]at h;exact Nat.div_lt_of_lt_mul (by rw[bX];exact h));omega
def iV:List Nat->List Nat
 |[]=>[]
 |[a]=>[a]
 |a::b::r=>(a+65536*b)::iV r
theorem CJ:∀(l:List Nat),Dg l->(val (iV l):Int)=nR l∧Lm (iV l)∧(iV l).length=(l.length+1) / 2
 |[],_=>⟨rfl,by simp[iV,Lm],rfl⟩
 |[a],h=>by
  have:=h a (by simp);exact⟨by simp[iV,val,nR,dY],fun x hx=>by simp[iV]at hx;omega,by simp[iV]⟩
 |a::b::r,h=>by
  obtain⟨h1,h2,h3⟩:=CJ r fun x hx=>h x (aC _ (aC _ hx));have ha:=h a (by simp);have hb:=h b (by simp);refine⟨?_,fun x hx=>?_,?_⟩
  ·have e:nR (a::b::r)=(a:Int)+65536*((b:Int)+65536*nR r):=rfl;rw[e,<-h1,iV,val];simp only[Int.natCast_add,Int.natCast_mul]
   omega
  ·rw[iV]at hx;rcases List.mem_cons.1 hx with rfl|hx
   ·omega
   ·exact h2 x hx
  ·rw[iV,List.length_cons,h3];simp only[List.length_cons]
   omega
def pk(ds:List Nat)(k:Nat):List Nat:=(List.range k).map fun i=>ds.getD (2*i) 0+65536*ds.getD (2*i+1) 0
theorem Av(ds:List Nat)(k:Nat):pk ds (k+1)=pk ds k++[ds.getD (2*k) 0+65536*ds.getD (2*k+1) 0]:=by simp[pk,bM]
theorem yQ(ds:List Nat)(k:Nat):(pk ds k).length=k:=by simp[pk]
theorem aAP:∀(ds:List Nat),pk ds ((ds.length+1) / 2)=iV ds
 |[]=>rfl
 |[a]=>by simp[pk,iV,bM]
 |a::b::r=>by
  have ih:=aAP r;have e:((a::b::r).length+1) / 2=(r.length+1) / 2+1:=by simp only[List.length_cons];omega
  rw[e,iV,<-ih,pk,List.range_succ_eq_map,List.map_cons,List.map_map,pk];congr 1
theorem aAQ(h:Dg ds)(k:Nat):Lm (pk ds k):=fun x hx=>by
 obtain⟨i,_,rfl⟩:=aT.1 hx;have key:∀j,ds.getD j 0<65536:=fun j=>by
  rw[List.getD]
  cases hj:ds[j]? with
  |none=>simp
  |some d=>simp;exact h d (aD hj)
 have h1:=key (2*i);have h2:=key (2*i+1);omega
end Go.Ex
namespace Go.Ex
open Go Go.Sx Go.Proofs
variable{cs:List Int}{S:Nat->Prop}{w:World}
def eM(w:World)(S:Nat->Prop)(v:Value)(cs:List Int):Prop:=jY w S 1 v (cs.map (Value.int .i64)) cs.length
theorem eM.cJ{w2:World}{v:Value}(h:eM w S v cs)(hk:∀g,S g->w2.heap[g]? =w.heap[g]?):eM w2 S v cs:=jY.cJ h hk
theorem eM.cL{S':Nat->Prop}{v:Value}(h:eM w S v cs)(hk:∀g,S g->S' g):eM w S' v cs:=jY.cL h hk
theorem eM.load{a:Option Addr}{n c j:Nat}{x:Int}(h:eM w S (.slice a n c) cs)(hx:cs[j]? =some x):∃ad,a=some ad∧S ad.block∧w.cell? (ad.add (j*1))=some (.int .i64 x):=by
 obtain⟨_,_,_,a',c',e,_,h4⟩:=h;injection e with e1 e2 e3;subst e1;obtain⟨ad,k1,k2,k3⟩:=h4 j (.int .i64 x) (by rw[aN,hx];rfl);exact⟨ad,k1,k2,by rw[aY];exact k3⟩
theorem eM.shape{v:Value}(h:eM w S v cs):∃a c,v= .slice a cs.length c∧cs.length<=c:=by
 obtain⟨_,_,_,a',c',e,h3,_⟩:=h;exact⟨a',c',e,h3⟩
def eW(ds:List Nat):List Int:=ds.map fun d:Nat=>(d:Int)
theorem fP(ds:List Nat):(eW ds).length=ds.length:=by simp[eW]
end Go.Ex
namespace Go.Sx
open Go Go.Ex Go.Proofs
variable{cs:List Value}{O:Nat->Sx.eE}
theorem Rel.Gw{H:Hp}{nx:Nat}{iv:Iv}{B:Nat}{w w':World}(r:Rel H nx iv B w O w'){id t m sz:Nat}(h:dM H id=some (.vec t sz cs))(hm:cs.length=m*sz)(hs:0<sz):
  w'.ownsRow B t sz ((At.w id m).den O) m cs:=by
 rcases r.vec id t sz _ h with⟨hn,rfl⟩|⟨hn,spare,hb,hc,Qb⟩
 ·have UZ:m=0:=by
   rcases bQ m with h|h
   ·exact h
   ·have:=Nat.mul_pos h hs;simp at hm;omega
  subst UZ;have:(At.w id 0).den O= .slice none 0 0:=by simp[At.den,hn]
  rw[this];exact World.ownsRow_nil _ _ _ _
 ·have hv:(At.w id m).den O= .slice (some ⟨(O id).g,0,none⟩) m (O id).cap:=by simp[At.den,hn]
  have h1:(cs++spare).length=cs.length+spare.length:=List.length_append;rw[hv];refine⟨hm,.inr ⟨(O id).g,(O id).cap,_,rfl,(r.low id _ h hn).1,hb,?_,Qb,by simpa using hc,?_⟩⟩
  ·have h2:m*sz<=(O id).cap*sz:=by omega
   exact cB h2 hs
  ·rw[<-hm];simp
end Go.Sx
namespace Go.Ex
open Go Go.Sx Go.Proofs
theorem Is(n:Nat)(w:World)(hn:n<=9223372036854775807):eA PG N.xE #[.int .i64 n] w (eL w fun v w2=>eM w2 (Nf w w2) v (eW (dQ n))):=by
 refine Ab (by simp) ?_
 refine⟨Nat×List Nat×World,fun z=>⟨[(0,iZ z.1),(3,.o (.w 0 z.2.1.length))],[(0,.vec T.int 1 ((eW z.2.1).map (Value.int .i64)))],1,[],z.2.2⟩,fun z=>z.1,
  fun z=>dg w.heap.size w z.2.2∧z.1<=n∧z.2.1.length<=n-z.1∧z.2.1++dQ z.1=dQ n,?_,?_⟩
 ·intro O w' r
  exact⟨(n,[],w'),⟨r.cS,Nat.le_refl _,by simp,by simp⟩,Sub.nil 3 T.int 1 rfl (by simp[jw,SV.sc,At.sc,fQ]) r fun ρ1 r1=>
   Sub.gn [] r1⟩
 rintro⟨k,ds,w1⟩ ⟨hw,hk,hl,hs⟩;dsimp only at hw hk hl hs ⊢;have SD:=fP ds;refine dG.mk ?_ ?_<;>intro h
 ·have h:0<k:=by
   have:(k:Int)>0:=aH h;omega
  refine⟨by decide,((k % 65536:Nat):Int),aBP k 65536,?_⟩;refine .inl ?_;refine⟨by simp[SD],?_,by have h1:=congrArg List.length hs;rw[List.length_append]at h1;have h2:=kJ (n:=n) (k:=4) (by omega);unfold maxLen;omega,?_⟩
  ·have h1:=congrArg List.length hs;rw[List.length_append]at h1;have h2:=kJ (n:=n) (k:=4) (by omega);omega
  refine⟨by decide,((k / 65536:Nat):Int),aCN (by omega),?_⟩;intro ρ3 w3 r3;have hl5:(ds++[k % 65536]).length=ds.length+1:=by simp
  have Um:(eW (ds++[k % 65536])).map (Value.int .i64)=(eW ds).map (Value.int .i64)++[.int .i64 ((k % 65536:Nat):Int)]:=by simp[eW]
  refine⟨(k / 65536,ds++[k % 65536],w3),⟨hw.tr r3.cS,by dsimp only;omega,by dsimp only;rw[hl5];omega,?_⟩,
   Sub.gn [(0,2)] r3 ⟨by rw[Um];rfl,trivial⟩ ⟨rfl,by dsimp only;rw[hl5];rfl,trivial⟩,by dsimp only;omega⟩
  dsimp only
  rw[<-hs,rX h];simp
 ·have h:k=0:=by
   have:¬(k:Int)>0:=aG h;omega
  subst h;rw[mS,List.append_nil]at hs;subst hs;intro ρe we re;refine⟨_,rfl,hw.tr re.cS,?_⟩;have:=re.gz (id:=0) (sz:=1) (m:=(dQ n).length) rfl (by simp[SD]) (by have h2:=kJ (n:=n) (k:=4) (by omega);unfold maxLen;omega) (by decide) (by intro u hu;simp at hu;obtain⟨_,_,rfl⟩:=hu;rfl);unfold eM;rw[SD];exact this.cL fun g hg=>.inr hg
end Go.Ex
namespace Go.Ex
open Go Go.Sx Go.Proofs
variable{cs:List Int}{S:Nat->Prop}
theorem zB(n:Int):(n.tmod 65536<0->n % 65536=n.tmod 65536+65536)∧(¬n.tmod 65536<0->n % 65536=n.tmod 65536)∧ -65536<n.tmod 65536∧n.tmod 65536<65536:=by
 by_cases h:0<=n
 ·rw[Int.tmod_eq_emod_of_nonneg h];omega
 ·have h1:n.tmod 65536= -((-n) % 65536):=by
   have:n= -(-n):=by omega
   conv=>lhs;rw[this]
   rw[Int.neg_tmod,Int.tmod_eq_emod_of_nonneg (by omega)]
  rw[h1];omega
theorem FO(n:Int):(n-n % 65536).tdiv 65536=n / 65536:=by
 have h:n-n % 65536=65536*(n / 65536):=by omega
 rw[h,Int.mul_tdiv_cancel_left _ (by decide)]
theorem FP{w:World}{v:Value}(hS:Old S w)(h:eM w S v cs)(hb:∀c∈cs,-1152921504606846976<=c∧c<=1152921504606846976)(hl:cs.length<=1000000000):
  eA PG N.uC #[v] w (eL w fun v' w2=>∃o,v'= .tuple #[o,.int .i64 (du cs 0).2]∧w2.ownsRow w.heap.size T.int 1 o cs.length ((eW (du cs 0).1).map (Value.int .i64))):=by
 obtain⟨a,c,rfl,hc⟩:=h.shape;refine ym (by simp) ?_
 refine⟨Nat×World,fun z=>⟨[(0,sV a cs.length c),(4,.o (.w 0 z.1)),(5,.o (.v (.int .i64 (du (cs.take z.1) 0).2))),(6,iZ z.1)],[(0,.vec T.int 1 ((eW (du (cs.take z.1) 0).1).map (Value.int .i64)))],1,[],z.2⟩,fun z=>cs.length-z.1,
  fun z=>dg w.heap.size w z.2∧z.1<=cs.length,?_,?_⟩
 ·intro O w' r
  exact⟨(0,w'),⟨r.cS,by simp⟩,Sub.nil 4 T.int 1 rfl (by simp[jw,SV.sc,At.sc,fQ]) r fun ρ1 r1=>
   Sub.gn [] r1⟩
 rintro⟨i,w1⟩ ⟨hw,hi⟩;dsimp only at hw hi ⊢;obtain⟨-,hdg,hlen⟩:=mR (cs.take i) 0;have St:((eW (du (cs.take i) 0).1).map (Value.int .i64)).length=i:=by rw[aL,fP,hlen,aZ];omega
 obtain⟨hk1,VY⟩:=lN (cs.take i) 0 (fun c hc=>hb c (bc hc)) (by decide) (by decide);have hR:eM w1 S (.slice a cs.length c) cs:=eM.cJ h fun g hg=>hw.block g (hS g hg);refine dG.mk ?_ ?_<;>intro h
 ·have h:i<cs.length:=by simpa using h
  obtain⟨x,hx⟩:∃x,cs[i]? =some x:=⟨_,aB h⟩
  obtain⟨Sb,RI⟩:=hb x (aD hx);obtain⟨ad,rfl,q1,q2⟩:=hR.load hx;have Vl:cs.take (i+1)=cs.take i++[x]:=by rw[List.take_add_one,hx];rfl
  have TJ:=GC (cs.take i) x 0;rw[<-Vl]at TJ;generalize (du (cs.take i) 0).1=ds at*
  generalize (du (cs.take i) 0).2=k at*
  obtain⟨t1,t2,t3,t4⟩:=zB (x+k);have hem1:=Int.emod_nonneg (x+k) (show (65536:Int)≠0 by decide);have hem2:=Int.emod_lt_of_pos (x+k) (show (0:Int)<65536 by decide);refine⟨ad,rfl,by omega,.int .i64 x,fun O w' r=>?_,?_⟩
  ·rw[aF,cM (w:=w1) (w2:=w') (by rw[dD];exact Rel.same (S:=S) r hS (.inl q1))];exact q2
  refine⟨x+k,wo,by decide,(x+k).tmod 65536,rfl,?_⟩;refine dG.mk ?_ ?_<;>intro Rr
  ·have Rr:=t1 (aH Rr);refine⟨(x+k) % 65536,by rw[Rr,wrap64]<;>omega,x+k-(x+k) % 65536,wo,by decide,(x+k) / 65536,by rw[FO,wrap64]<;>omega,?_⟩;refine .inl ?_;refine⟨by rw[St,aY],by omega,by unfold maxLen;omega,((i+1:Nat):Int),wo,?_⟩;intro ρ3 w3 r3;have Um:(eW (du (cs.take (i+1)) 0).1).map (Value.int .i64)=(eW ds).map (Value.int .i64)++[.int .i64 ((x+k) % 65536)]:=by
    rw[TJ];simp[eW,Int.toNat_of_nonneg hem1]
   have hk5:(du (cs.take (i+1)) 0).2=(x+k) / 65536:=by rw[TJ]
   exact⟨(i+1,w3),⟨hw.tr r3.cS,by dsimp only;omega⟩,Sub.gn [(0,2)] r3 ⟨by dsimp only;rw[Um];rfl,trivial⟩ ⟨rfl,rfl,by dsimp only;rw[hk5];rfl,rfl,trivial⟩,by dsimp only;omega⟩
  ·have Rr:=t2 (aG Rr);rw[<-Rr];refine⟨x+k-(x+k) % 65536,wo,by decide,(x+k) / 65536,by rw[FO,wrap64]<;>omega,?_⟩;refine .inl ?_;refine⟨by rw[St,aY],by omega,by unfold maxLen;omega,((i+1:Nat):Int),wo,?_⟩;intro ρ3 w3 r3;have Um:(eW (du (cs.take (i+1)) 0).1).map (Value.int .i64)=(eW ds).map (Value.int .i64)++[.int .i64 ((x+k) % 65536)]:=by
    rw[TJ];simp[eW,Int.toNat_of_nonneg hem1]
   have hk5:(du (cs.take (i+1)) 0).2=(x+k) / 65536:=by rw[TJ]
   exact⟨(i+1,w3),⟨hw.tr r3.cS,by dsimp only;omega⟩,Sub.gn [(0,2)] r3 ⟨by dsimp only;rw[Um];rfl,trivial⟩ ⟨rfl,rfl,by dsimp only;rw[hk5];rfl,rfl,trivial⟩,by dsimp only;omega⟩
 ·have h:i=cs.length:=by
   have:¬i<cs.length:=by simpa using h
   omega
  subst h;rw[bH]at St ⊢;exact rtn hw fun ρe we re=>⟨_,rfl,re.Gw (id:=0) rfl (by rw[St,aY]) (by decide)⟩
end Go.Ex
namespace Go.Sx
open Go Go.Ex Go.Proofs
variable{ls:List Nat}{O:Nat->Sx.eE}
theorem Rel.aBQ{H:Hp}{nx:Nat}{iv:Iv}{B:Nat}{w w':World}(r:Rel H nx iv B w O w'){id t m:Nat}(h:dM H id=some (.vec t 1 (U ls)))(hm:m<=ls.length)(Ps:Lm ls)(hle:ls.length<=9223372036854775807):
  dV w' (fun g=>B<=g∧g<w'.heap.size) ((At.w id m).den O) (ls.take m):=by
 have PC:(ls.take m).length=m:=by rw[aZ];omega
 rcases r.vec id t 1 _ h with⟨hn,hu⟩|⟨hn,spare,hb,hc,Qb⟩
 ·have hl:ls=[]:=by cases ls with
   |nil=>rfl
   |cons a b=>simp[U]at hu
  subst hl;simp at hm;subst hm;have:(At.w id 0).den O= .slice none 0 0:=by simp[At.den,hn]
  rw[this];exact dV.nil _ _
 ·refine⟨Ps.take m,by rw[PC];omega,some ⟨(O id).g,0,none⟩,(O id).cap,by rw[PC];simp[At.den,hn],?_,fun j x hx=>⟨_,rfl,r.low id _ h hn,?_⟩⟩
  ·have h1:(U ls++spare).length=ls.length+spare.length:=by rw[List.length_append,gw]
   rw[PC];omega
  ·rw[List.getElem?_take]at hx;split at hx
   ·rw[dP,cell_of hb,aW,aJ (by rw[gw];exact(aE.1 hx).1)];exact xV hx
   ·cases hx
end Go.Sx
namespace Go.Ex
open Go Go.Sx Go.Proofs
variable{ds ls:List Nat}{S:Nat->Prop}
theorem Kd{n:Nat}(_hn:n<ls.length)(h0:ls[n]? =some 0):eH (ls.take (n+1))=eH (ls.take n):=by
 rw[List.take_add_one,h0];exact ll _
theorem Ke{n x:Nat}(h0:ls[n]? =some x)(hx:x≠0):eH (ls.take (n+1))=ls.take (n+1):=by
 rw[List.take_add_one,h0];exact pW _ hx
theorem Iu{w:World}{v:Value}(hS:Old S w)(h:eM w S v (eW ds))(hd:Dg ds)(hl:ds.length<=1000000000):
  eA PG N.xD #[v] w (eL w fun v' w2=>∃lv,v'= .agg #[.bool false,lv]∧dV w2 (Nf w w2) lv (eH (iV ds))):=by
 obtain⟨a,c,rfl,hc⟩:=h.shape;rw[fP]at hc h ⊢;refine Aa (by simp) ?_
 refine⟨Nat×World,fun z=>match z.1 with
   |0=>⟨[(0,sV a ds.length c),(2,pP 0 0),(3,pP 1 0),(4,iZ 0)],[(1,.box T.Int [.v (.bool false),.v (.slice none 0 0)]),(0,.box T.Int [.v (.bool false),.v (.slice none 0 0)])],2,[],z.2⟩
   |k+1=>⟨[(0,sV a ds.length c),(2,pP 0 0),(3,pP 1 0),(4,.o (.v (.int .i64 ((2*(k+1):Nat):Int))))],[(2,.vec T.uint32 1 (U (pk ds (k+1)))),(1,.box T.Int [.v (.bool false),.w 2 (k+1)]),(0,.box T.Int [.v (.bool false),.v (.slice none 0 0)])],3,[],z.2⟩,
  fun z=>ds.length-z.1,fun z=>dg w.heap.size w z.2∧2*z.1<=ds.length+1,?_,?_⟩
 ·intro O w' r;exact⟨(0,w'),⟨r.cS,by simp⟩,Sub.gn [] r⟩
 rintro⟨k,w1⟩ ⟨hw,hi⟩;dsimp only at hw hi;have hR:eM w1 S (.slice a ds.length c) (eW ds):=eM.cJ h fun g hg=>hw.block g (hS g hg)
 cases k with
 |zero=>
  refine dG.mk ?_ ?_<;>intro h1
  ·have h1:0<ds.length:=by
    have:=aH h1;omega
   obtain⟨d0,YQ⟩:∃x,ds[0]? =some x:=⟨_,aB h1⟩
   have hd0b:=hd d0 (aD YQ);have UK:ds.getD (2*0) 0=d0:=by show ds.getD 0 0=d0;rw[List.getD,YQ];rfl
   obtain⟨ad,rfl,q1,q2⟩:=hR.load (j:=0) (x:=(d0:Int)) (by rw[eW,aN,YQ];rfl);refine⟨ad,rfl,by omega,.int .i64 (d0:Int),fun O w' r=>?_,?_⟩
   ·show w'.cell? (ad.add (0*1))=_;rw[cM (w:=w1) (w2:=w') (by rw[dD];exact Rel.same (S:=S) r hS (.inl q1))];exact q2
   refine⟨((0+1:Nat):Int),wo,?_⟩;refine dG.mk ?_ ?_<;>intro h2
   ·have h2:0+1<ds.length:=by
     have:=aH h2;omega
    obtain⟨d1,R4⟩:∃x,ds[0+1]? =some x:=⟨_,aB h2⟩
    have hd1b:=hd d1 (aD R4);have UM:ds.getD (2*0+1) 0=d1:=by show ds.getD (0+1) 0=d1;rw[List.getD,R4];rfl
    obtain⟨_,Oy,q3,q4⟩:=hR.load (j:=0+1) (x:=(d1:Int)) (by rw[eW,aN,R4];rfl);injection Oy with Oy;subst Oy;refine⟨((0+1:Nat):Int),wo,ad,rfl,by omega,.int .i64 (d1:Int),fun O w' r=>?_,?_⟩
    ·show w'.cell? (ad.add ((0+1)*1))=_;rw[cM (w:=w1) (w2:=w') (by rw[dD];exact Rel.same (S:=S) r hS (.inl q3))];exact q4
    refine⟨((65536*d1:Nat):Int),wo,((d0+65536*d1:Nat):Int),wo,?_⟩;have TM:=Av ds 0;rw[UK,UM]at TM;generalize d0+65536*d1=dd at*
    have hdd:dd<4294967296:=aAQ hd (0+1) dd (by rw[TM];simp);refine⟨(dd:Int),by rw[Ak]<;>omega,?_⟩;refine .inl ?_;refine⟨by omega,by unfold maxLen;omega,((2*(0+1):Nat):Int),wo,?_⟩;intro ρ3 w3 r3;have hU:U (pk ds (0+1))=U (pk ds 0)++[.int .u32 (dd:Int)]:=by rw[TM];simp[U]
    exact⟨(0+1,w3),⟨hw.tr r3.cS,by dsimp only;omega⟩,Sub.gn [(2,3)] r3 ⟨by dsimp only;rw[hU];rfl,rfl,rfl,trivial⟩,by dsimp only;omega⟩
   ·have h2:0+1=ds.length:=by
     have:=aG h2;omega
    have UM:ds.getD (2*0+1) 0=0:=by show ds.getD (0+1) 0=0;rw[List.getD,List.getElem?_eq_none (by omega)];rfl
    have TM:=Av ds 0;rw[UK,UM]at TM;obtain⟨dd,hdde⟩:∃dd,dd=d0:=⟨_,rfl⟩
    rw[<-hdde]at TM ⊢;have hdd:dd<4294967296:=by omega
    rw[show dd+65536*0=dd by omega]at TM;refine⟨(dd:Int),by rw[Ak]<;>omega,?_⟩;refine .inl ?_;refine⟨by omega,by unfold maxLen;omega,((2*(0+1):Nat):Int),wo,?_⟩;intro ρ3 w3 r3;have hU:U (pk ds (0+1))=U (pk ds 0)++[.int .u32 (dd:Int)]:=by rw[TM];simp[U]
    exact⟨(0+1,w3),⟨hw.tr r3.cS,by dsimp only;omega⟩,Sub.gn [(2,3)] r3 ⟨by dsimp only;rw[hU];rfl,rfl,rfl,trivial⟩,by dsimp only;omega⟩
  ·have h1:ds=[]:=by
    have:=aG h1;exact List.eq_nil_of_length_eq_zero (by omega)
   subst h1;refine⟨World,fun z=>⟨[(2,pP 0 0),(3,pP 1 0),(6,iZ 0)],[(1,.box T.Int [.v (.bool false),.v (.slice none 0 0)]),(0,.box T.Int [.v (.bool false),.v (.slice none 0 0)])],2,[],z⟩,fun _=>0,fun z=>dg w.heap.size w z,?_,?_⟩
   ·intro O w' r;exact⟨w',hw.tr r.cS,Sub.gn [] r⟩
   intro w2 hw;dsimp only at hw ⊢;refine⟨⟨by decide,by decide,by decide⟩,none,0,0,by rfl,by rfl,by rfl,?_⟩;exact rtn hw fun ρe we re=>⟨_,rfl,dV.nil _ _⟩
 |succ k=>
  refine dG.mk ?_ ?_<;>intro h1
  ·have h1:(2*(k+1))<ds.length:=by
    have:=aH h1;omega
   obtain⟨d0,YQ⟩:∃x,ds[(2*(k+1))]? =some x:=⟨_,aB h1⟩
   have hd0b:=hd d0 (aD YQ);have UK:ds.getD (2*(k+1)) 0=d0:=by show ds.getD (2*(k+1)) 0=d0;rw[List.getD,YQ];rfl
   obtain⟨ad,rfl,q1,q2⟩:=hR.load (j:=(2*(k+1))) (x:=(d0:Int)) (by rw[eW,aN,YQ];rfl);refine⟨ad,rfl,by omega,.int .i64 (d0:Int),fun O w' r=>?_,?_⟩
   ·show w'.cell? (ad.add ((2*(k+1))*1))=_;rw[cM (w:=w1) (w2:=w') (by rw[dD];exact Rel.same (S:=S) r hS (.inl q1))];exact q2
   refine⟨(((2*(k+1))+1:Nat):Int),wo,?_⟩;refine dG.mk ?_ ?_<;>intro h2
   ·have h2:(2*(k+1))+1<ds.length:=by
     have:=aH h2;omega
    obtain⟨d1,R4⟩:∃x,ds[(2*(k+1))+1]? =some x:=⟨_,aB h2⟩
    have hd1b:=hd d1 (aD R4);have UM:ds.getD (2*(k+1)+1) 0=d1:=by show ds.getD ((2*(k+1))+1) 0=d1;rw[List.getD,R4];rfl
    obtain⟨_,Oy,q3,q4⟩:=hR.load (j:=(2*(k+1))+1) (x:=(d1:Int)) (by rw[eW,aN,R4];rfl);injection Oy with Oy;subst Oy;refine⟨(((2*(k+1))+1:Nat):Int),wo,ad,rfl,by omega,.int .i64 (d1:Int),fun O w' r=>?_,?_⟩
    ·show w'.cell? (ad.add (((2*(k+1))+1)*1))=_;rw[cM (w:=w1) (w2:=w') (by rw[dD];exact Rel.same (S:=S) r hS (.inl q3))];exact q4
    refine⟨((65536*d1:Nat):Int),wo,((d0+65536*d1:Nat):Int),wo,?_⟩;have TM:=Av ds (k+1);rw[UK,UM]at TM;generalize d0+65536*d1=dd at*
    have hdd:dd<4294967296:=aAQ hd ((k+1)+1) dd (by rw[TM];simp);refine⟨(dd:Int),by rw[Ak]<;>omega,?_⟩;refine .inl ?_;refine⟨by rw[gw,yQ];omega,by omega,by unfold maxLen;omega,((2*((k+1)+1):Nat):Int),wo,?_⟩;intro ρ3 w3 r3;have hU:U (pk ds ((k+1)+1))=U (pk ds (k+1))++[.int .u32 (dd:Int)]:=by rw[TM];simp[U]
    exact⟨((k+1)+1,w3),⟨hw.tr r3.cS,by dsimp only;omega⟩,Sub.gn [(2,4)] r3 ⟨by dsimp only;rw[hU];rfl,rfl,rfl,trivial⟩,by dsimp only;omega⟩
   ·have h2:(2*(k+1))+1=ds.length:=by
     have:=aG h2;omega
    have UM:ds.getD (2*(k+1)+1) 0=0:=by show ds.getD ((2*(k+1))+1) 0=0;rw[List.getD,List.getElem?_eq_none (by omega)];rfl
    have TM:=Av ds (k+1);rw[UK,UM]at TM;obtain⟨dd,hdde⟩:∃dd,dd=d0:=⟨_,rfl⟩
    rw[<-hdde]at TM ⊢;have hdd:dd<4294967296:=by omega
    rw[show dd+65536*0=dd by omega]at TM;refine⟨(dd:Int),by rw[Ak]<;>omega,?_⟩;refine .inl ?_;refine⟨by rw[gw,yQ];omega,by omega,by unfold maxLen;omega,((2*((k+1)+1):Nat):Int),wo,?_⟩;intro ρ3 w3 r3;have hU:U (pk ds ((k+1)+1))=U (pk ds (k+1))++[.int .u32 (dd:Int)]:=by rw[TM];simp[U]
    exact⟨((k+1)+1,w3),⟨hw.tr r3.cS,by dsimp only;omega⟩,Sub.gn [(2,4)] r3 ⟨by dsimp only;rw[hU];rfl,rfl,rfl,trivial⟩,by dsimp only;omega⟩
  ·have h1:ds.length<=2*(k+1):=by
    have:=aG h1;omega
   have hk:k+1=(ds.length+1) / 2:=by omega
   have TM:pk ds (k+1)=iV ds:=by rw[hk];exact aAP ds
   have hlen:=yQ ds (k+1);have Ps:=aAQ hd (k+1);rw[<-TM];obtain⟨ls,hls⟩:∃ls,ls=pk ds (k+1):=⟨_,rfl⟩
   rw[<-hls]at hlen Ps ⊢
   refine⟨by show(U (pk ds (k+1))).length=_;rw[<-hls,gw,hlen];simp,Nat×World,fun z=>⟨[(2,pP 0 0),(3,pP 1 0),(6,iZ z.1)],[(2,.vec T.uint32 1 (U ls)),(1,.box T.Int [.v (.bool false),.w 2 (k+1)]),(0,.box T.Int [.v (.bool false),.v (.slice none 0 0)])],3,[],z.2⟩,fun z=>z.1,
    fun z=>dg w.heap.size w z.2∧z.1<=k+1∧eH (ls.take z.1)=eH ls,?_,?_⟩
   ·intro O w' r;exact⟨(k+1,w'),⟨hw.tr r.cS,Nat.le_refl _,by dsimp only;rw[List.take_of_length_le (by omega)]⟩,Sub.gn [] r ⟨by dsimp only;rw[hls];rfl,rfl,rfl,trivial⟩⟩
   rintro⟨n,w2⟩ ⟨hw,hn,htr⟩;dsimp only at hw hn htr ⊢
   cases n with
   |zero=>
    refine⟨by rw[gw,hlen];simp,⟨by omega,by omega⟩,0,by rfl,?_⟩;intro ρe we re;refine⟨_,rfl,hw.tr re.cS,_,rfl,?_⟩;have:=re.aBQ (id:=2) (m:=0) rfl (aO _) Ps (by omega);rw[<-htr];exact this.cL fun g hg=>.inr hg
   |succ n=>
    obtain⟨x,hx⟩:∃x,ls[n]? =some x:=⟨_,aB (by omega)⟩
    refine dG.mk (fun hp=>?_) (fun hp=>absurd (aG hp) (by omega));refine⟨(n:Int),wo,by rw[gw,hlen];simp,by omega,.int .u32 (x:Int),by simpa using xV hx,?_⟩;refine dG.mk ?_ ?_<;>intro h0
    ·have h0:x=0:=by have:=eq_of_beq h0;omega
     subst h0;refine⟨(n:Int),wo,?_⟩;intro ρ3 w3 r3;exact⟨(n,w3),⟨hw.tr r3.cS,by dsimp only;omega,by dsimp only;rw[<-htr,Kd (by omega) hx]⟩,Sub.gn [] r3,by dsimp only;omega⟩
    ·have h0:x≠0:=fun e=>by rw[e]at h0;exact absurd h0 (by decide)
     refine⟨by rw[gw,hlen];simp,⟨by omega,by omega⟩,n+1,by rfl,?_⟩;intro ρe we re;refine⟨_,rfl,hw.tr re.cS,_,rfl,?_⟩;have:=re.aBQ (id:=2) (m:=n+1) rfl (by omega) Ps (by omega);rw[<-htr,Ke hx h0];exact this.cL fun g hg=>.inr hg
end Go.Ex
namespace Go.Ex
open Go Go.Sx Go.Proofs
variable{H:Hp}{z:Int}{iv:Iv}{cs:List Int}{b ds ls:List Nat}{xs:List Value}{B i nx:Nat}{S:Nat->Prop}{O:Nat->Sx.eE}{a2:Option Addr}{q:Rat}{u:Value}{w w':World}
theorem xo{w2:World}{v v':Value}(hc:G2 iv v)(r:Rel H nx iv B w O w')(R1:∀g,v'.ownBlock=some g->g<w2.heap.size∧(v.ownBlock=some g∨g=w'.heap.size)):
  ∀lo hi,(lo,hi)∈j8 v'->hi<=w2.heap.size∧∀id b,dM H id=some b->(O id).nil=false->¬(lo<=(O id).g∧(O id).g<hi):=fun lo hi hm=>by
 obtain⟨hg,rfl⟩:=tO.1 hm;obtain⟨h1,h2⟩:=R1 _ hg;refine⟨by omega,fun id c hc' hn he=>?_⟩;rcases h2 with h2|h2
 ·exact hc.not r h2 id c hc' hn (by omega)
 ·have:=(r.low id c hc' hn).2;omega
theorem dV.out{w1:World}{v:Value}(h:dV w1 (Cv S w.heap.size iv) v ls)(r:Rel H nx iv w.heap.size w1 O w')(hS:Old S w):dV w' (Nw S w w') v ls:=
 (dV.rel h r hS).cL fun _ hg=>Cv.nw hg r
theorem Lp{B' e sz m:Nat}{v:Value}(h:w.ownsRow B e sz v m xs)(hb:B'<=B):w.ownsRow B' e sz v m xs:=⟨h.1,h.2.imp id fun⟨g,cap,cur,k1,k2,k3⟩=>⟨g,cap,cur,k1,by omega,k3⟩⟩
theorem xp(a b:List Nat):eW (a++b)=eW a++eW b:=by simp[eW]
theorem tR{m:Nat}{v:Value}(h:w.ownsRow B T.int 1 v m (cs.map (Value.int .i64)))(hm:m=cs.length)(hl:m<=maxLen):eM w (fun g=>v.ownBlock=some g) v cs:=by
 subst hm;rcases h.2 with⟨rfl,h0⟩|⟨g,cap,cur,rfl,hb,hc,Vo,Qb,Oo,R9⟩
 ·have:cs=[]:=List.eq_nil_of_length_eq_zero h0;subst this;exact⟨by simp[maxLen],by simp,by simp,none,0,rfl,Nat.le_refl _,by simp⟩
 ·refine⟨hl,h.1,fun u hu=>by simp at hu;obtain⟨_,_,rfl⟩:=hu;rfl,_,cap,rfl,Vo,fun j u hu=>⟨_,rfl,rfl,?_⟩⟩;exact h.cells (g:=g) rfl j u hu
theorem Dg.append{a:List Nat}(ha:Dg a)(hb:Dg b):Dg (a++b):=fun x hx=>(List.mem_append.1 hx).elim (ha x) (hb x)
theorem zu(a b:List Nat):nR (a++b)=nR a+up a.length*nR b:=by
 unfold nR;rw[List.map_append,D9,aL]
theorem DR(hd:Dg ds):Nz (eH (iV ds))∧(val (eH (iV ds)):Int)=nR ds:=by
 obtain⟨h1,h2,_⟩:=CJ ds hd;obtain⟨k1,k2,_⟩:=fS (iV ds);exact⟨k2,by rw[k1,h1]⟩
theorem zC{v:Value}(hS:Old S w)(h:eM w S v cs)(hb:∀c∈cs,-1152921504606846976<=c∧c<=1152921504606846976)(hl:cs.length<=100000000):
  eA PG N.lO #[v] w (eL w fun v' w2=>dU w2 (Nf w w2) v' (dY cs)):=by
 obtain⟨a,c,rfl,hc⟩:=h.shape;obtain⟨YR,hdg,SD⟩:=mR cs 0;obtain⟨hk1,VY⟩:=lN cs 0 hb (by decide) (by decide);rw[Int.add_zero]at YR;refine yh (by simp) ?_;refine cH (cP (Φ:=fun _ w' v' w2=>∃o,v'= .tuple #[o,.int .i64 (du cs 0).2]∧w2.ownsRow w'.heap.size T.int 1 o cs.length ((eW (du cs 0).1).map (Value.int .i64))) (fun O w' r=>FP (oS hS r) (eM.cJ h fun g hg=>Rel.same (S:=S) r hS (.inl hg)) hb (by omega)) ?_);rintro O wa v1 wb r he hw ⟨o,rfl,OX⟩;have Qn:G2 [(wa.heap.size,wb.heap.size)] o:=fun g hg=>⟨_,_,bE.2 rfl,(ownsRow.low OX g hg).1,(ownsRow.low OX g hg).2⟩
 replace OX:=Lp OX r.cI;generalize [(wa.heap.size,wb.heap.size)]=iv at*
 generalize Vk:(du cs 0).1=ds at*
 generalize hk:(du cs 0).2=k at*
 obtain⟨ao,co,rfl,hco⟩:=iX OX;refine dG.mk ?_ ?_<;>intro Rr
 ·have Rr:=aH Rr;have hV:dY cs<0:=by
   have h1:=(CI hdg).2;rw[SD]at h1;have h2:=aAO cs.length;have h3:up cs.length*k<=up cs.length*(-1):=Int.mul_le_mul_of_nonneg_left (by omega) (by omega);omega
  obtain⟨Wd,YS,hdl2⟩:=mR (cs.map (- ·)) 0;have RG:∀c∈cs.map (- ·),-1152921504606846976<=c∧c<=1152921504606846976:=fun c hc=>by
   obtain⟨x,hx,rfl⟩:=aT.1 hc;have:=hb x hx;omega
  obtain⟨hk1',hk2'⟩:=lN (cs.map (- ·)) 0 RG (by decide) (by decide);rw[Int.add_zero,Jj,aL]at Wd;rw[aL]at hdl2;have SS:0<=(du (cs.map (- ·)) 0).2:=by
   have h1:=(CI YS).2;rw[hdl2]at h1;have h2:=aAO cs.length;apply Decidable.byContradiction;intro h3;have h4:up cs.length*(du (cs.map (- ·)) 0).2<=up cs.length*(-1):=Int.mul_le_mul_of_nonneg_left (by omega) (by omega);omega
  refine⟨Nat×World,fun z=>⟨[(0,sV a cs.length c),(2,pP 0 0),(3,sV ao cs.length co),(5,iZ z.1)],[(0,.box T.Int [.v (.bool false),.v (.slice none 0 0)])],1,iv,z.2⟩,fun z=>cs.length-z.1,
   fun z=>z.1<=cs.length∧dg w.heap.size w z.2∧z.2.ownsRow w.heap.size T.int 1 (.slice ao cs.length co) cs.length (((cs.take z.1).map (- ·)++(eW ds).drop z.1).map (Value.int .i64)),?_,?_⟩
  ·intro O w' r;exact⟨(0,w'),⟨by simp,hw.tr r.cS,by simpa using jW OX Qn r⟩,Sub.gn [] r⟩
  rintro⟨i,w1⟩ ⟨hi,hw,OX⟩;dsimp only at hi hw OX ⊢;have hR:eM w1 S (.slice a cs.length c) cs:=eM.cJ h fun g hg=>hw.block g (hS g hg);refine dG.mk ?_ ?_<;>intro OW
  ·have OW:i<cs.length:=by simpa using OW
   obtain⟨x,hx⟩:∃x,cs[i]? =some x:=⟨_,aB OW⟩
   obtain⟨Sb,RI⟩:=hb x (aD hx);obtain⟨ad,rfl,q1,q2⟩:=hR.load hx;obtain⟨go,hgo⟩:∃g,ao=some ⟨g,0,none⟩:=by
    rcases OX.2 with⟨_,h0⟩|⟨g,cap,cur,e,_⟩
    ·omega
    ·injection e with e;exact⟨g,e⟩
   subst hgo;refine⟨ad,rfl,by omega,.int .i64 x,fun O w' r=>?_,?_⟩
   ·rw[aF,cM (w:=w1) (w2:=w') (by rw[dD];exact Rel.same (S:=S) r hS (.inl q1))];exact q2
   refine⟨-x,wo,⟨go,0,none⟩,rfl,by omega,?_⟩;intro O w' r;have Su:=jW OX Qn r;obtain⟨g',SW,Oc,Q4,Oi,Oo⟩:=lT (nv:=[.int .i64 (-x)]) Su rfl OW rfl (by decide);injection SW with SW;injection SW with SW;subst SW;rw[G0 (by rw[aL,List.length_append,aL,aZ,List.length_drop,fP,SD];omega)]at Q4;have Oy:(⟨go,0,none⟩:Addr).add ((i:Int).toNat*1)=⟨go,i*1,none⟩:=by rw[aF,dP,aW]
   have QX:=fun id b hb hn=>Qn.not r (b:=go) rfl id b hb hn;have hgoB:=(ownsRow.low OX go rfl).1;have hw':dg w.heap.size w (setCells w' ⟨go,i*1,none⟩ [.int .i64 (-x)]):=(hw.tr r.cS).tr (dg.grown Oi (fun g hg=>by injection hg with hg;subst hg;exact hgoB) r.cI);have hlist:(((cs.take i).map (- ·)++(eW ds).drop i).map (Value.int .i64)).set i (.int .i64 (-x))=((cs.take (i+1)).map (- ·)++(eW ds).drop (i+1)).map (Value.int .i64):=by
    rw[<-List.map_set];congr 1;have QV:((cs.take i).map (- ·)).length=i:=by rw[aL,aZ];omega
    obtain⟨d,hd⟩:∃d,(eW ds)[i]? =some d:=⟨_,aB (by rw[fP,SD];exact OW)⟩
    have PF:(eW ds).drop i=d::(eW ds).drop (i+1):=by
     rw[List.drop_eq_getElem_cons (by rw[fP,SD];exact OW)];congr 1;have:=aB (l:=eW ds) (i:=i) (by rw[fP,SD];exact OW);rw[hd]at this;injection this with this;exact this.symm
    rw[List.take_add_one,hx,List.map_append,PF,List.set_append_right _ _ (by omega),QV,bI];simp
   refine⟨by rw[Oy],fun j hj=>by rw[Oy];exact Oc j hj,fun id b hb hn=>by rw[Oy];exact QX id b hb hn,fun w2 PI=>?_⟩;have PI:w2=setCells w' ⟨go,i*1,none⟩ [.int .i64 (-x)]:=by rw[PI];exact congrArg (fun x=>setCells w' x _) Oy
   rw[<-PI]at Q4 hw'
   erw [hlist]at Q4
   refine⟨((i+1:Nat):Int),wo,?_⟩;intro ρ3 w3 r3;exact⟨(i+1,w3),⟨OW,hw'.tr r3.cS,jW Q4 Qn r3⟩,Sub.gn [] r3,by dsimp only;omega⟩
  have OW:i=cs.length:=by
   have:¬i<cs.length:=by simpa using OW
   omega
  subst OW;rw[bH,List.drop_of_length_le (by rw[fP,SD];exact Nat.le_refl _),List.append_nil]at OX;refine⟨⟨by omega,by omega,by omega⟩,ao,cs.length,co,IQ ao co,by omega,by omega,?_⟩;refine cH (cP (Φ:=fun _ w' v' w2=>∃o,v'= .tuple #[o,.int .i64 (du (cs.map (- ·)) 0).2]∧w2.ownsRow w'.heap.size T.int 1 o cs.length ((eW (du (cs.map (- ·)) 0).1).map (Value.int .i64))) (fun O w' r=>?_) ?_)
  ·have h8:=jW OX Qn r;have h9:=tR h8 (by rw[aL]) (by unfold maxLen;omega);have h10:=FP (fun g hg=>(ownsRow.low h8 g hg).2) h9 RG (by rw[aL];omega);rw[aL]at h10;exact h10
  rintro O wc v1 wd r he Ov ⟨o2,rfl,Pp⟩;have R0:G2 ((wc.heap.size,wd.heap.size)::iv) o2:=fun g hg=>⟨_,_,aI,(ownsRow.low Pp g hg).1,(ownsRow.low Pp g hg).2⟩
  replace Pp:=Lp Pp r.cI;replace hw:=hw.tr Ov;generalize (wc.heap.size,wd.heap.size)::iv=Oa at*
  generalize hds2:(du (cs.map (- ·)) 0).1=ds2 at*
  generalize hkk2:(du (cs.map (- ·)) 0).2=k2 at*
  obtain⟨kn,rfl⟩:∃kn:Nat,k2=kn:=⟨k2.toNat,by omega⟩
  obtain⟨ao2,co2,rfl,hco2⟩:=iX Pp;have ds2_len:ds2.length=cs.length:=hdl2;have ds2_dg:Dg ds2:=YS;refine cH (cP (Φ:=fun _ w' v w2=>eM w2 (Nf w' w2) v (eW (dQ kn))) (fun O w' r=>by exact Is kn w' (by omega)) ?_);rintro O ws vs wt r he hb hsp;have Un:eM wt (Cf w ((ws.heap.size,wt.heap.size)::Oa)) vs (eW (dQ kn)):=eM.cL hsp fun g hg=>hg.dK r.cI aI;replace Pp:=ownsRow.cJ (jW Pp R0 r) fun g hg=>he.block g (by have:=(ownsRow.low (jW Pp R0 r) g hg).2;exact this);replace R0:G2 ((ws.heap.size,wt.heap.size)::Oa) _:=R0.mono fun p hp=>aC _ hp;replace hw:=hw.tr hb;generalize (ws.heap.size,wt.heap.size)::Oa=so at*
  obtain⟨asp,csp,rfl,-⟩:=Un.shape;rw[fP]at Un ⊢;have So:=kJ (n:=kn) (k:=4) (by omega);have hsd:=(mT kn).2
  refine .inr (uO hτ (Nat.le_refl _) (xs:=(eW ds2).map (Value.int .i64)) (news:=(eW (dQ kn)).map (Value.int .i64)) (m:=cs.length) (k:=(dQ kn).length) (by rfl) (by rfl) (by decide) (by rfl) (by rfl) (fun O w' r=>⟨jW Pp R0 r,fun g hg=>R0.not r hg⟩) (by simp[eW]) (by intro u hu;simp at hu;obtain⟨_,_,rfl⟩:=hu;rfl) (by unfold maxLen;omega) (by omega)
   (fun O w' r=>?_) (fun v' w2=>j8 v') (fun O w' v' w2 r Oo R1=>xo R0 r R1) (fun O w' v' w2 r h5 h6 h7=>?_))
  ·obtain⟨_,_,_,a2,c2,e2,_,e3⟩:=Un;injection e2 with e4 e5 e6;subst e4 e6
   cases asp with
   |none=>
    have h0:(dQ kn).length=0:=by
     rcases bQ (dQ kn).length with h0|h0
     ·exact h0
     ·obtain⟨ad2,q1,_⟩:=e3 0 _ (aB (show 0<((eW (dQ kn)).map (Value.int .i64)).length by simp[eW];exact h0))
      cases q1
    exact .inl ⟨csp,by rw[h0];rfl,h0⟩
   |some ad3=>
    refine .inr ⟨ad3,csp,rfl,fun j u hu=>?_⟩;obtain⟨ad2,q1,q2,q3⟩:=e3 j u hu;injection q1 with q1;subst q1;rw[cM (w:=wt) (w2:=w') (by rw[dD];exact Rel.same r (cG w) q2)];exact q3
  replace hw:dg w.heap.size w w2:=(hw.tr r.cS).tr (dg.grown h6 (fun g hg=>by
   have:=(ownsRow.low Pp g hg).1;omega) r.cI)
  have hcat:(eW ds2).map (Value.int .i64)++(eW (dQ kn)).map (Value.int .i64)=(eW (ds2++dQ kn)).map (Value.int .i64):=by rw[xp,List.map_append]
  rw[hcat]at h5;have SK:cs.length+(dQ kn).length=(eW (ds2++dQ kn)).length:=by rw[fP,List.length_append,ds2_len]
  have We:Dg (ds2++dQ kn):=ds2_dg.append hsd;have PU:(ds2++dQ kn).length<=1000000000:=by rw[List.length_append,ds2_len];omega
  obtain⟨a3,c3,rfl,-⟩:=iX h5;refine cH (cP (Φ:=fun _ w' v' w2=>∃lv,v'= .agg #[.bool false,lv]∧dV w2 (Nf w' w2) lv (eH (iV (ds2++dQ kn)))) (fun O w' r=>?_) ?_)
  ·have h8:=jW h5 (G2.row _) r;have h9:=tR h8 SK (by unfold maxLen;omega);have h10:=Iu (w:=w') (fun g hg=>(ownsRow.low h8 g hg).2) h9 We PU;exact h10
  rintro O wp v1 wq r he hb ⟨lv,rfl,hL⟩;have YT:=hL.dK (S:=FF) r.cI (iv:=[(wp.heap.size,wq.heap.size)]) aI;have YT:dV wq (Cf w ((wp.heap.size,wq.heap.size)::j8 (.slice a3 (cs.length+(dQ kn).length) c3))) lv (eH (iV (ds2++dQ kn))):=hL.cL fun g hg=>hg.dK r.cI aI;replace hw:=hw.tr hb;generalize (wp.heap.size,wq.heap.size)::j8 (.slice a3 (cs.length+(dQ kn).length) c3)=ivq at*
  obtain⟨hnz,hvv⟩:=DR We;obtain⟨a4,n4,c4,rfl⟩:=YT.shape;have YL: -dY cs=nR (ds2++dQ kn):=by rw[Wd,zu,(mT kn).1,ds2_len]
  obtain⟨pp,hpe,hpp⟩:=YT.la;injection hpe with hpe1 hpe2 hpe3;subst hpe1 hpe2 hpe3;have hlenpos:0<pp.ls.length:=by
   rw[hpp];rcases bQ (eH (iV (ds2++dQ kn))).length with h0|h0
   ·rw[List.eq_nil_of_length_eq_zero h0]at hvv;simp[val]at hvv;omega
   ·exact h0
  intro ρe we re;refine⟨_,rfl,hw.tr re.cS,eH (iV (ds2++dQ kn)),⟨_,?_,YT.out re (cG w)⟩,hnz,?_⟩
  ·rw[bS hV];have:decide ((pp.ls.length:Int)>0)=true:=bS (by omega);rw[<-this];rfl
  ·have:((val (eH (iV (ds2++dQ kn))):Nat):Int)= -dY cs:=by rw[hvv,YL]
   omega
 ·have Rr:=aG Rr;obtain⟨kn,rfl⟩:∃kn:Nat,k=kn:=⟨k.toNat,by omega⟩
  have ds_len:ds.length=cs.length:=SD;have ds_dg:Dg ds:=hdg;refine cH (cP (Φ:=fun _ w' v w2=>eM w2 (Nf w' w2) v (eW (dQ kn))) (fun O w' r=>by exact Is kn w' (by omega)) ?_);rintro O ws vs wt r he hb hsp;have Un:eM wt (Cf w ((ws.heap.size,wt.heap.size)::iv)) vs (eW (dQ kn)):=eM.cL hsp fun g hg=>hg.dK r.cI aI;replace OX:=ownsRow.cJ (jW OX Qn r) fun g hg=>he.block g (by have:=(ownsRow.low (jW OX Qn r) g hg).2;exact this);replace Qn:G2 ((ws.heap.size,wt.heap.size)::iv) _:=Qn.mono fun p hp=>aC _ hp;replace hw:=hw.tr hb;generalize (ws.heap.size,wt.heap.size)::iv=so at*
  obtain⟨asp,csp,rfl,-⟩:=Un.shape;rw[fP]at Un ⊢;have So:=kJ (n:=kn) (k:=4) (by omega);have hsd:=(mT kn).2
  refine .inr (uO hτ (Nat.le_refl _) (xs:=(eW ds).map (Value.int .i64)) (news:=(eW (dQ kn)).map (Value.int .i64)) (m:=cs.length) (k:=(dQ kn).length) (by rfl) (by rfl) (by decide) (by rfl) (by rfl) (fun O w' r=>⟨jW OX Qn r,fun g hg=>Qn.not r hg⟩) (by simp[eW]) (by intro u hu;simp at hu;obtain⟨_,_,rfl⟩:=hu;rfl) (by unfold maxLen;omega) (by omega)
   (fun O w' r=>?_) (fun v' w2=>j8 v') (fun O w' v' w2 r Oo R1=>xo Qn r R1) (fun O w' v' w2 r h5 h6 h7=>?_))
  ·obtain⟨_,_,_,a2,c2,e2,_,e3⟩:=Un;injection e2 with e4 e5 e6;subst e4 e6
   cases asp with
   |none=>
    have h0:(dQ kn).length=0:=by
     rcases bQ (dQ kn).length with h0|h0
     ·exact h0
     ·obtain⟨ad2,q1,_⟩:=e3 0 _ (aB (show 0<((eW (dQ kn)).map (Value.int .i64)).length by simp[eW];exact h0))
      cases q1
    exact .inl ⟨csp,by rw[h0];rfl,h0⟩
   |some ad3=>
    refine .inr ⟨ad3,csp,rfl,fun j u hu=>?_⟩;obtain⟨ad2,q1,q2,q3⟩:=e3 j u hu;injection q1 with q1;subst q1;rw[cM (w:=wt) (w2:=w') (by rw[dD];exact Rel.same r (cG w) q2)];exact q3
  replace hw:dg w.heap.size w w2:=(hw.tr r.cS).tr (dg.grown h6 (fun g hg=>by
   have:=(ownsRow.low OX g hg).1;omega) r.cI)
  have hcat:(eW ds).map (Value.int .i64)++(eW (dQ kn)).map (Value.int .i64)=(eW (ds++dQ kn)).map (Value.int .i64):=by rw[xp,List.map_append]
  rw[hcat]at h5;have SK:cs.length+(dQ kn).length=(eW (ds++dQ kn)).length:=by rw[fP,List.length_append,ds_len]
  have We:Dg (ds++dQ kn):=ds_dg.append hsd;have PU:(ds++dQ kn).length<=1000000000:=by rw[List.length_append,ds_len];omega
  obtain⟨a3,c3,rfl,-⟩:=iX h5;refine cH (cP (Φ:=fun _ w' v' w2=>∃lv,v'= .agg #[.bool false,lv]∧dV w2 (Nf w' w2) lv (eH (iV (ds++dQ kn)))) (fun O w' r=>?_) ?_)
  ·have h8:=jW h5 (G2.row _) r;have h9:=tR h8 SK (by unfold maxLen;omega);have h10:=Iu (w:=w') (fun g hg=>(ownsRow.low h8 g hg).2) h9 We PU;exact h10
  rintro O wp v1 wq r he hb ⟨lv,rfl,hL⟩;have YT:=hL.dK (S:=FF) r.cI (iv:=[(wp.heap.size,wq.heap.size)]) aI;have YT:dV wq (Cf w ((wp.heap.size,wq.heap.size)::j8 (.slice a3 (cs.length+(dQ kn).length) c3))) lv (eH (iV (ds++dQ kn))):=hL.cL fun g hg=>hg.dK r.cI aI;replace hw:=hw.tr hb;generalize (wp.heap.size,wq.heap.size)::j8 (.slice a3 (cs.length+(dQ kn).length) c3)=ivq at*
  obtain⟨hnz,hvv⟩:=DR We;obtain⟨a4,n4,c4,rfl⟩:=YT.shape;intro ρe we re;have YL:dY cs=nR (ds++dQ kn):=by rw[YR,zu,(mT kn).1,ds_len]
  refine⟨_,rfl,hw.tr re.cS,eH (iV (ds++dQ kn)),⟨_,?_,YT.out re (cG w)⟩,hnz,?_⟩
  ·have:¬dY cs<0:=by rw[YL,<-hvv];omega
   rw[bJ this];rfl
  ·rw[YL,<-hvv];rfl
theorem aDO(n:Int):dY [n.tmod 65536,(n.tdiv 65536).tmod 65536,(n.tdiv 65536).tdiv 65536]=n:=by
 simp only[dY]
 have h1:=Int.mul_tdiv_add_tmod n 65536;have h2:=Int.mul_tdiv_add_tmod (n.tdiv 65536) 65536;omega
theorem mI(n:Int)(w:World)(h1: -9223372036854775808<=n)(h2:n<=9223372036854775807):
  eA PG N.IK #[.int .i64 n] w (eL w fun v w2=>dU w2 (Nf w w2) v n):=by
 refine IM (by simp) ?_;have b1:=zB n;have b2:=zB (n.tdiv 65536);have e1:=Int.mul_tdiv_add_tmod n 65536;have e2:=Int.mul_tdiv_add_tmod (n.tdiv 65536) 65536;have hsum:=aDO n;refine⟨by decide,n.tmod 65536,rfl,by decide,n.tdiv 65536,wo,by decide,_,rfl,by decide,n.tdiv 65536,wo,by decide,(n.tdiv 65536).tdiv 65536,wo,?_⟩;generalize n.tmod 65536=c0 at*
 generalize (n.tdiv 65536).tmod 65536=c1 at*
 generalize (n.tdiv 65536).tdiv 65536=c2 at*
 refine cH (cP (Φ:=fun _ w' v w2=>dU w2 (Nf w' w2) v n) (fun O w' r=>?_) ?_)
 ·rw[<-hsum];have ha:=r.qN (id:=1) (sz:=1) (n:=3) rfl rfl (by decide) (by intro u hu;simp at hu;rcases hu with rfl|rfl|rfl<;>rfl)
  exact zC (S:=fun g=>g=(O 1).g) (fun g hg=>by rw[hg];exact(r.low 1 _ rfl (r.nn 1 _ rfl (by intros;simp) (by simp))).2) (cs:=[c0,c1,c2]) ha (by
   intro c hc;simp at hc
   rcases hc with rfl|rfl|rfl<;>omega) (by simp)
 rintro O wa v1 wb r he hb hI;have hI:=hI.dK (S:=FF) r.cI (iv:=(wa.heap.size,wb.heap.size)::[]) aI;generalize (wa.heap.size,wb.heap.size)::[]=iv at*
 obtain⟨b,a,m,c,rfl⟩:=hI.shape;intro ρe we re;exact⟨_,rfl,hb.tr re.cS,hI.out re (cG w)⟩
def kh(z:Int):Value:=if z.natAbs<1073741824 then .tuple #[.int .i64 z,.bool true]else .tuple #[.int .i64 0,.bool false]
theorem kQ.Iw{v:Value}(h:kQ w S v z):∃b a ls c,v= .agg #[.bool b,.slice a ls.length c]∧dV w S (.slice a ls.length c) ls∧sg b (val ls)=z:=by
 obtain⟨b,ls,⟨lv,h1,h2⟩,h3⟩:=h;obtain⟨a,c,rfl,_⟩:=h2.sl;exact⟨b,a,ls,c,h1,h2,h3⟩
theorem aCP{x:Nat}(h:ls[i]? =some x):wt i*x<=val ls:=by
 have hi:=(aE.1 h).1;have h1:=fL ls (i+1) hi;rw[dy h]at h1;omega
theorem aDm(h:0<i):4294967296<=wt i:=by
 obtain⟨k,rfl⟩:∃k,i=k+1:=⟨i-1,by omega⟩
 have:=yD k;rw[je];omega
theorem pK{v:Value}(hS:Old S w)(hI:kQ w S v z):
  eA PG N.zm #[v] w (eL w fun v' _=>v'=kh z):=by
 obtain⟨b,a,ls,c,rfl,hL,hz⟩:=hI.Iw;refine Cy (by simp) ?_;have hlen:=hL.le
 refine⟨Nat×World,fun y=>⟨[(1,pP 0 0),(4,.o (.v (.int .i64 (val (ls.take y.1))))),(5,iZ y.1)],[(0,.box T.Int [.v (.bool b),.v (.slice a ls.length c)])],1,[],y.2⟩,fun y=>ls.length-y.1,
  fun y=>y.1<=ls.length∧dg w.heap.size w y.2∧val (ls.take y.1)<1073741824∧(∀j,0<j->j<y.1->ls[j]? =some 0),?_,?_⟩
 ·intro O w' r;exact⟨(0,w'),⟨by simp,r.cS,by simp[val],by omega⟩,Sub.gn [] r⟩
 rintro⟨i,w1⟩ ⟨hi,hw,hv,h0⟩;dsimp only at hi hw hv h0 ⊢;refine dG.mk ?_ ?_<;>intro OW
 ·have OW:i<ls.length:=by simpa using OW
  obtain⟨a',c',e,_,PV⟩:=hL.sl;injection e with e1 e2 e3;subst e1 e3;obtain⟨x,hx⟩:∃x,ls[i]? =some x:=⟨_,aB OW⟩
  have Ql:=hL.lm x (aD hx);obtain⟨ad,rfl,q1,q2⟩:=PV i x hx;have SO:∀{H nx iv O w'},Rel H nx iv w.heap.size w1 O w'->w'.cell? (ad.add ((i:Int).toNat*1))=some (.int .u32 x):=fun r=>by
   rw[aF,aY];exact k7 hS hw r q1 q2
  have UF:=aCP hx;refine dG.mk ?_ ?_<;>intro hp
  ·have hp:0<i:=by
    have:(i:Int)>0:=aH hp;omega
   have hw1:=aDm hp;refine⟨ad,rfl,by omega,.int .u32 x,fun O w' r=>SO r,?_⟩;refine dG.mk ?_ ?_<;>intro OZ
   ·have OZ:x≠0:=by simpa using OZ
    intro ρe we re;refine⟨_,rfl,hw.tr re.cS,?_⟩;have:¬z.natAbs<1073741824:=by
     have:=Nat.mul_le_mul hw1 (show 1<=x by omega);rw[<-hz,vN];omega
    show _=kh z;rw[kh,aK this];rfl
   ·have OZ:x=0:=by simpa using OZ
    subst OZ;refine⟨ad,rfl,by omega,.int .u32 0,fun O w' r=>SO r,?_⟩;have QW:val (ls.take (i+1))=val (ls.take i):=by rw[dy hx];omega
    have Rx:val (ls.take (i+1))<1073741824:=by rw[QW];exact hv
    have h02:∀j,0<j->j<i+1->ls[j]? =some 0:=fun j h1 h2=>by
     rcases aP j i with h3|h3
     ·exact h0 j h1 h3
     ·have:j=i:=by omega
      rw[this];exact hx
    refine⟨ad,rfl,by omega,.int .u32 0,fun O w' r=>SO r,((0:Nat):Int),by decide,((val (ls.take (i+1)):Nat):Int),by rw[QW,wrap64]<;>omega,((i+1:Nat):Int),wo,?_⟩;intro ρ3 w3 r3;exact⟨(i+1,w3),⟨OW,hw.tr r3.cS,Rx,h02⟩,Sub.gn [] r3,by dsimp only;omega⟩
  ·have hp:i=0:=by
    have:¬((i:Int)>0):=aG hp;omega
   subst hp;refine⟨ad,rfl,by omega,.int .u32 x,fun O w' r=>SO r,?_⟩;refine dG.mk ?_ ?_<;>intro Xi
   ·have Xi:=aH Xi;intro ρe we re;refine⟨_,rfl,hw.tr re.cS,?_⟩;have:¬z.natAbs<1073741824:=by
     rw[<-hz,vN];rw[jx]at UF;omega
    show _=kh z;rw[kh,aK this];rfl
   ·have Xi:=aG Xi;have QW:val (ls.take (0+1))=x:=by rw[dy hx];simp[val,jx]
    have Rx:val (ls.take (0+1))<1073741824:=by rw[QW];omega
    have h02:∀j,0<j->j<0+1->ls[j]? =some 0:=fun j h1 h2=>by
     omega
    refine⟨ad,rfl,by omega,.int .u32 x,fun O w' r=>SO r,((x:Nat):Int),wo,((val (ls.take (0+1)):Nat):Int),by rw[QW,wrap64]<;>simp[val]<;>omega,((0+1:Nat):Int),wo,?_⟩;intro ρ3 w3 r3;exact⟨(0+1,w3),⟨OW,hw.tr r3.cS,Rx,h02⟩,Sub.gn [] r3,by dsimp only;omega⟩
 ·have OW:i=ls.length:=by
   have:¬i<ls.length:=by simpa using OW
   omega
  subst OW;rw[bH]at hv ⊢;have PC:z.natAbs<1073741824:=by rw[<-hz,vN];exact hv
  cases b with
  |true=>
   refine⟨-(val ls:Int),wo,?_⟩;intro ρe we re;refine⟨_,rfl,hw.tr re.cS,?_⟩;show _=kh z;rw[kh,if_pos PC,<-hz,aAk];rfl
  |false=>
   intro ρe we re;refine⟨_,rfl,hw.tr re.cS,?_⟩;show _=kh z;rw[kh,if_pos PC,<-hz,aDH];rfl
theorem FQ{a b:Int}(hb:b≠0):a.tdiv (b.sign*(Nat.gcd a.natAbs b.natAbs:Nat))=(Rat.divInt a b).num∧b.tdiv (b.sign*(Nat.gcd a.natAbs b.natAbs:Nat))=((Rat.divInt a b).den:Int):=by
 have hg:0<Nat.gcd a.natAbs b.natAbs:=bw _ (by omega);obtain⟨k,hk⟩:((Nat.gcd a.natAbs b.natAbs:Nat):Int) ∣ a:=by rw[<-Int.natAbs_dvd_natAbs];exact Nat.gcd_dvd_left _ _
 obtain⟨l,hl⟩:((Nat.gcd a.natAbs b.natAbs:Nat):Int) ∣ b:=by rw[<-Int.natAbs_dvd_natAbs];exact Nat.gcd_dvd_right _ _
 have hc:(b.gcd a:Int)=(Nat.gcd a.natAbs b.natAbs:Nat):=by rw[Int.gcd_comm];rfl
 have TT:b.gcd a=Nat.gcd a.natAbs b.natAbs:=by rw[Int.gcd_comm];rfl
 rw[Rat.num_divInt,Rat.den_divInt,aK hb,hc,TT];generalize Nat.gcd a.natAbs b.natAbs=g at*
 have XD:(g:Int)≠0:=by omega
 have hs:b.sign*b.sign=1:=by
  rcases Int.lt_or_gt_of_ne hb with h|h
  ·rw[bo h];rfl
  ·rw[bq h];rfl
 have Ve:b.sign≠0:=fun e=>by rw[e]at hs;simp at hs
 have OZ:b.sign*g≠0:=Int.mul_ne_zero Ve XD;have QA:((b.natAbs / g:Nat):Int)=b.sign*l:=by
  rw[Int.natCast_ediv,show((b.natAbs:Nat):Int)=b.sign*b by
   rcases Int.lt_or_gt_of_ne hb with h|h
   ·rw[bo h];omega
   ·rw[bq h];omega]
  conv=>lhs;lhs;rhs;rw[hl]
  rw[show b.sign*(↑g*l)= ↑g*(b.sign*l) by rw[<-Int.mul_assoc,<-Int.mul_assoc,Int.mul_comm b.sign]];exact Int.mul_ediv_cancel_left _ XD
 constructor
 ·rw[show b.sign*a / (g:Int)=b.sign*k by
   conv=>lhs;lhs;rhs;rw[hk]
   rw[show b.sign*(↑g*k)= ↑g*(b.sign*k) by rw[<-Int.mul_assoc,<-Int.mul_assoc,Int.mul_comm b.sign]]
   exact Int.mul_ediv_cancel_left _ XD]
  conv=>lhs;lhs;rw[hk,show(g:Int)*k=(b.sign*g)*(b.sign*k) by
   rw[show (b.sign* ↑g)*(b.sign*k)=(b.sign*b.sign)*(↑g*k) by simp only[Int.mul_assoc,Int.mul_comm,Int.mul_left_comm],hs,Int.one_mul]]
  exact Int.mul_tdiv_cancel_left _ OZ
 ·rw[QA]
  conv=>lhs;lhs;rw[hl,show(g:Int)*l=(b.sign*g)*(b.sign*l) by
   rw[show (b.sign* ↑g)*(b.sign*l)=(b.sign*b.sign)*(↑g*l) by simp only[Int.mul_assoc,Int.mul_comm,Int.mul_left_comm],hs,Int.one_mul]]
  exact Int.mul_tdiv_cancel_left _ OZ
theorem tS(a b:Int)(w:World)(ha:a.natAbs<4611686018427387904)(hb:b.natAbs<4611686018427387904)(hb0:b≠0):
  eA PG N.wx #[.int .i64 a,.int .i64 b] w (eL w fun v w2=>cT w2 (Nf w w2) v (Rat.divInt a b)):=by
 refine AS (by simp) ?_;refine⟨-a,wo,-b,wo,?_⟩;conv=>whnf
 rw[show max a (-a)=(a.natAbs:Int) by omega,show max b (-b)=(b.natAbs:Int) by omega]
 refine⟨Nat×Nat×World,fun z=>⟨[(0,iZ a),(1,iZ b),(4,pP 0 0),(5,iZ z.1),(6,iZ z.2.1)],[(0,.box T.Rat [.v (.bool false),.v (.slice none 0 0),.v (.bool false),.v (.slice none 0 0)])],1,[],z.2.2⟩,fun z=>z.2.1,
  fun z=>dg w.heap.size w z.2.2∧Nat.gcd z.1 z.2.1=Nat.gcd a.natAbs b.natAbs∧z.1<4611686018427387904∧z.2.1<4611686018427387904,?_,?_⟩
 ·intro O w' r;exact⟨(a.natAbs,b.natAbs,w'),⟨r.cS,rfl,ha,hb⟩,Sub.gn [] r⟩
 rintro⟨x,y,w1⟩ ⟨hw,hg,hx,hy⟩;dsimp only at hw hg hx hy ⊢;conv=>whnf
 refine dG.mk ?_ ?_<;>intro h
 ·have h:0<y:=by
   have:(y:Int)>0:=aH h;omega
  refine cO hτ dZ [.x 0,.x 1,.x 2,.x 3,.x 4,.x 5] (by kernel_rfl) (by kernel_rfl) ?_;have hm:=cD x h;refine⟨by omega,((x % y:Nat):Int),rfl,?_⟩;intro ρ3 w3 r3;exact⟨(y,x % y,w3),⟨hw.tr r3.cS,by dsimp only;rw[<-hg,Nat.gcd_comm x y,Nat.gcd_rec y x,Nat.gcd_comm],hy,by dsimp only;omega⟩,Sub.gn [] r3,by dsimp only;omega⟩
 have h:y=0:=by
  have:¬(y:Int)>0:=aG h;omega
 subst h;rw[Nat.gcd_zero_right]at hg;have SC:x≠0:=by rw[hg];exact Nat.pos_iff_ne_zero.1 (bw _ (by omega))
 obtain⟨hn,hd⟩:=FQ (a:=a) hb0;rw[<-hg]at hn hd;have bn:(Rat.divInt a b).num.natAbs<=a.natAbs:=by rw[<-hn];exact Int.natAbs_tdiv_le_natAbs _ _
 have bd:((Rat.divInt a b).den:Int).natAbs<=b.natAbs:=by rw[<-hd];exact Int.natAbs_tdiv_le_natAbs _ _
 refine dG.mk ?_ ?_<;>intro Oh
 ·have Oh:=aH Oh;rw[bo Oh,Int.neg_one_mul]at hn hd;refine⟨-(x:Int),wo,?_⟩;refine cO hτ dZ [.x 0,.x 1,.x 2,.x 4,.x 5,.x 6,.x 3,.x 7,.x 8,.x 9] (by kernel_rfl) (by kernel_rfl) ?_;refine⟨by omega,(Rat.divInt a b).num,by rw[hn,wrap64]<;>omega,by omega,((Rat.divInt a b).den:Int),by rw[hd,wrap64]<;>omega,?_⟩;refine cP (Φ:=fun _ w' v w2=>dU w2 (Nf w' w2) v (Rat.divInt a b).num) (fun O w' r=>mI _ w' (by omega) (by omega)) ?_;rintro O wa v1 wb r he Ov hI;replace hw:=hw.tr Ov;have hN:=hI.dK (S:=FF) r.cI (iv:=(wa.heap.size,wb.heap.size)::[]) aI;generalize (wa.heap.size,wb.heap.size)::[]=iv at*
  obtain⟨b1,a1,m1,c1,rfl⟩:=hN.shape;refine cP (Φ:=fun _ w' v w2=>dU w2 (Nf w' w2) v ((Rat.divInt a b).den:Int)) (fun O w' r=>mI _ w' (by omega) (by omega)) ?_;rintro O wa v1 PY r he Ov hI;replace hw:=hw.tr Ov;replace hN:=hN.cK (iv':=(wa.heap.size,PY.heap.size)::iv) r (cG w) he fun x hx=>aC _ hx;have hD:=hI.dK (S:=FF) r.cI (iv:=(wa.heap.size,PY.heap.size)::iv) aI;generalize (wa.heap.size,PY.heap.size)::iv=Oa at*
  obtain⟨b2,a2,m2,c2,rfl⟩:=hD.shape;exact rtn hw fun ρe we re=>(cT.of hN hD).out re (cG w)
 ·have Oh:=aG Oh;rw[bq (by omega),Int.one_mul]at hn hd;refine cO hτ dZ [.x 0,.x 1,.x 2,.x 4,.x 5,.x 6,.x 3,.x 7,.x 8,.x 9] (by kernel_rfl) (by kernel_rfl) ?_;refine⟨by omega,(Rat.divInt a b).num,by rw[hn,wrap64]<;>omega,by omega,((Rat.divInt a b).den:Int),by rw[hd,wrap64]<;>omega,?_⟩;refine cP (Φ:=fun _ w' v w2=>dU w2 (Nf w' w2) v (Rat.divInt a b).num) (fun O w' r=>mI _ w' (by omega) (by omega)) ?_;rintro O wa v1 wb r he Ov hI;replace hw:=hw.tr Ov;have hN:=hI.dK (S:=FF) r.cI (iv:=(wa.heap.size,wb.heap.size)::[]) aI;generalize (wa.heap.size,wb.heap.size)::[]=iv at*
  obtain⟨b1,a1,m1,c1,rfl⟩:=hN.shape;refine cP (Φ:=fun _ w' v w2=>dU w2 (Nf w' w2) v ((Rat.divInt a b).den:Int)) (fun O w' r=>mI _ w' (by omega) (by omega)) ?_;rintro O wa v1 PY r he Ov hI;replace hw:=hw.tr Ov;replace hN:=hN.cK (iv':=(wa.heap.size,PY.heap.size)::iv) r (cG w) he fun x hx=>aC _ hx;have hD:=hI.dK (S:=FF) r.cI (iv:=(wa.heap.size,PY.heap.size)::iv) aI;generalize (wa.heap.size,PY.heap.size)::iv=Oa at*
  obtain⟨b2,a2,m2,c2,rfl⟩:=hD.shape;exact rtn hw fun ρe we re=>(cT.of hN hD).out re (cG w)
theorem xq(h:z.natAbs<1073741824):kh z= .tuple #[.int .i64 z,.bool true]:=if_pos h
theorem Gx{v:Value}{x y:Int}(hS:Old S w)(hx:kQ w S v x)(hy:kQ w S u y)(hxs:x.natAbs<1073741824)(hys:y.natAbs<1073741824)(QM:y≠0):
  eA PG N.uo #[v,u] w (eL w fun v' w2=>cT w2 (Nf w w2) v' (Rat.divInt x y)):=by
 have hw:=bR w;replace hx:=hx.cL (S':=Cv S w.heap.size []) fun _ h=>.inl h;replace hy:=hy.cL (S':=Cv S w.heap.size []) fun _ h=>.inl h;obtain⟨bx,ax,lx,cx,rfl⟩:=hx.shape;obtain⟨b2,ay,ly,cy,rfl⟩:=hy.shape;refine uE (by simp) ?_;refine cH (cE hw (fun _ w' v w2=>v= .tuple #[.int .i64 x,.bool true]) (fun O w' r=>(pK (Rel.old r hS) (hx.rel r hS)).mono fun e w2 ⟨v2,e1,e2,e3⟩=>⟨v2,e1,e2,by rw[e3,xq hxs]⟩) ?_);rintro O Pa v1 PJ Od r he hw h_ rfl;replace hx:=hx.cK r hS he (mC h_);replace hy:=hy.cK r hS he (mC h_);refine cH (cE hw (fun _ w' v w2=>v= .tuple #[.int .i64 y,.bool true]) (fun O w' r=>(pK (Rel.old r hS) (hy.rel r hS)).mono fun e w2 ⟨v2,e1,e2,e3⟩=>⟨v2,e1,e2,by rw[e3,xq hys]⟩) ?_);rintro O _ v1 _ Oa r he hw h_ rfl;refine cH (cE hw (fun _ w' v w2=>cT w2 (Nf w' w2) v (Rat.divInt x y)) (fun O w' r=>tS x y w' (by omega) (by omega) QM) ?_);rintro O _ _ _ iv r he hw h_ hI;have hR:=hI.dK (S:=FF) r.cI (mN h_);obtain⟨b1,a1,m1,c1,b3,a3,m3,c3,rfl⟩:=hR.shape;exact rtn hw fun ρe we re=>hR.out re (cG w)
theorem DS(n:Int):Rat.divInt n 1=(n:Rat):=by
 have:=Rat.num_divInt_den (n:Rat);rw[Rat.num_intCast,Rat.den_intCast]at this;exact this
theorem ic(n:Int)(w:World)(hn:n.natAbs<1073741824):
  eA PG N.rh #[.int .i64 n] w (eL w fun v' w2=>cT w2 (Nf w w2) v' (n:Rat)):=by
 have hw:=bR w;refine sG (by simp) ?_;refine cH (cP (Φ:=fun _ w' v w2=>dU w2 (Nf w' w2) v n) (fun O w' r=>mI _ w' (by omega) (by omega)) ?_);rintro O wa v1 wb r he Ov hI;replace hw:=hw.tr Ov;have hN:=hI.dK (S:=FF) r.cI (iv:=(wa.heap.size,wb.heap.size)::[]) aI;generalize (wa.heap.size,wb.heap.size)::[]=iv at*
 obtain⟨b1,a1,m1,c1,rfl⟩:=hN.shape;refine cH (cP (Φ:=fun _ w' v w2=>dU w2 (Nf w' w2) v 1) (fun O w' r=>mI _ w' (by omega) (by omega)) ?_);rintro O wa v1 PY r he Ov hI;replace hw:=hw.tr Ov;replace hN:=hN.cK (iv':=(wa.heap.size,PY.heap.size)::iv) r (cG w) he fun x hx=>aC _ hx;have hD:=hI.dK (S:=FF) r.cI (iv:=(wa.heap.size,PY.heap.size)::iv) aI;generalize (wa.heap.size,PY.heap.size)::iv=Oa at*
 obtain⟨b2,a2,m2,c2,rfl⟩:=hD.shape;refine cH (cE hw (fun _ w' v w2=>cT w2 (Nf w' w2) v (Rat.divInt n 1)) (fun O w' r=>Gx (Rel.old r (cG w)) (hN.rel r (cG w)).r (hD.rel r (cG w)).r hn (by decide) (by decide)) ?_);rintro O _ _ _ iv r he hw h_ hI;have hR:=hI.dK (S:=FF) r.cI (mN h_);obtain⟨b1,a1,m1,c1,b3,a3,m3,c3,rfl⟩:=hR.shape;rw[DS]at hR;exact rtn hw fun ρe we re=>hR.out re (cG w)
theorem aCQ{v:Value}{n1 n2:Bool}{ms:List Nat}(hS:Old S w)(hx:xe w S v n1 ls)(hy:xe w S u n2 ms):
  eA PG N.oT #[v,u] w (eL w fun v' _=>v'= .bool (decide (n1=n2∧ls=ms))):=by
 obtain⟨lv,rfl,h1⟩:=hx;obtain⟨mv,rfl,h2⟩:=hy;obtain⟨a,c,rfl,_,ha⟩:=h1.sl;obtain⟨b,e,rfl,_,hb⟩:=h2.sl;have hle1:=h1.le;have Wc:=h2.le;have hw:=bR w;refine yc (by simp) ?_;refine dG.mk ?_ ?_<;>intro hn
 ·have hn:n1≠n2:=fun h=>by rw[h]at hn;simp at hn
  intro O w2 r;exact⟨_,rfl,r.cS,by rw[bJ (fun h=>hn h.1)];rfl⟩
 have hn:n1=n2:=by simpa using hn
 subst hn;refine dG.mk ?_ ?_<;>intro h
 ·have h:ls.length≠ms.length:=fun he=>by rw[he]at h;simp at h
  intro O w2 r;exact⟨_,rfl,r.cS,by rw[bJ (fun e=>h (by rw[e.2]))];rfl⟩
 have h:ls.length=ms.length:=by
  have:(ls.length:Int)=ms.length:=by simpa using h
  omega
 refine⟨Nat×World,fun z=>⟨[(2,pP 0 0),(3,pP 1 0),(5,iZ z.1)],[(1,.box T.Int [.v (.bool n1),.v (.slice b ms.length e)]),(0,.box T.Int [.v (.bool n1),.v (.slice a ls.length c)])],2,[],z.2⟩,fun z=>ls.length-z.1,
  fun z=>z.1<=ls.length∧dg w.heap.size w z.2∧ls.take z.1=ms.take z.1,?_,?_⟩
 ·intro O w' r;exact⟨(0,w'),⟨by simp,r.cS,by simp⟩,Sub.gn [] r⟩
 rintro⟨i,w1⟩ ⟨hi,hw,ht⟩;dsimp only at hi hw ht ⊢;refine dG.mk ?_ ?_<;>intro OW
 ·have OW:i<ls.length:=by simpa using OW
  obtain⟨x,hx⟩:∃x,ls[i]? =some x:=⟨_,aB OW⟩
  obtain⟨y,hy⟩:∃x,ms[i]? =some x:=⟨_,aB (by omega)⟩
  obtain⟨ad,rfl,q1,q2⟩:=ha i x hx;obtain⟨ad2,rfl,q3,q4⟩:=hb i y hy;have PS:∀{H nx iv O w'},Rel H nx iv w.heap.size w1 O w'->w'.cell? (ad.add ((i:Int).toNat*1))=some (.int .u32 x):=fun r=>by
   rw[aF,aY];exact k7 hS hw r q1 q2
  have Qu:∀{H nx iv O w'},Rel H nx iv w.heap.size w1 O w'->w'.cell? (ad2.add ((i:Int).toNat*1))=some (.int .u32 y):=fun r=>by
   rw[aF,aY];exact k7 hS hw r q3 q4
  refine cO hτ dZ [.x 0,.x 1,.x 2,.x 3,.x 4,.x 5,.x 6,.x 7,.x 8,.x 9,.x 10] (by kernel_rfl) (by kernel_rfl) ?_;refine⟨ad,rfl,by omega,.int .u32 x,fun O w' r=>PS r,ad2,rfl,by omega,.int .u32 y,fun O w' r=>Qu r,?_⟩;refine dG.mk ?_ ?_<;>intro OZ
  ·have OZ:x≠y:=fun h=>by rw[h]at OZ;simp at OZ
   intro O w2 r;refine⟨_,rfl,hw.tr r.cS,?_⟩
   rw[bJ (fun e=>OZ (by
    have:=e.2;rw[this,hy]at hx;injection hx with hx
    exact hx.symm))]
   rfl
  have OZ:x=y:=by
   have:(x:Int)=y:=by simpa using OZ
   omega
  subst OZ;have TC:ls.take (i+1)=ms.take (i+1):=by rw[List.take_add_one,List.take_add_one,ht,hx,hy]
  refine⟨((i+1:Nat):Int),wo,?_⟩;intro ρ3 w3 r3;exact⟨(i+1,w3),⟨OW,hw.tr r3.cS,TC⟩,Sub.gn [] r3,by dsimp only;omega⟩
 have OW:i=ls.length:=by
  have:¬i<ls.length:=by simpa using OW
  omega
 subst OW;rw[bH,h,bH]at ht;intro O w2 r;exact⟨_,rfl,hw.tr r.cS,by rw[bS ⟨rfl,ht⟩];rfl⟩
theorem NU{a:List Nat}(la:Lm a)(lb:Lm b)(na:Nz a)(nb:Nz b)(h:val a=val b):a=b:=by
 have:a.length=b.length:=by
  rcases bs a.length b.length with h1|h1|h1
  ·have:=jf la nb h1;omega
  ·exact h1
  ·have:=jf lb na h1;omega
 exact val_inj la lb this h
theorem FR{v:Value}{x y:Int}(hS:Old S w)(hx:dU w S v x)(hy:dU w S u y):
  eA PG N.oT #[v,u] w (eL w fun v' _=>v'= .bool (decide (x=y))):=by
 obtain⟨ls,h1,h2,h3⟩:=hx;obtain⟨ms,k1,k2,k3⟩:=hy;have e:decide (decide (x<0)=decide (y<0)∧ls=ms)=decide (x=y):=by
  refine decide_eq_decide.2 ⟨fun ⟨e1,e2⟩=>?_,fun e1=>?_⟩
  ·have e1:=decide_eq_decide.1 e1;rw[e2]at h3;omega
  ·subst e1;obtain⟨_,_,l1⟩:=h1;obtain⟨_,_,l2⟩:=k1;exact⟨rfl,NU l1.lm l2.lm h2 k2 (by omega)⟩
 exact(aCQ hS h1 k1).mono fun _ w2 ⟨v2,e1,e2,e3⟩=>⟨v2,e1,e2,by rw[e3,e]⟩
theorem aBD{v:Value}{p:Rat}(hS:Old S w)(hx:cT w S v p)(hy:cT w S u q):
  eA PG N.CQ #[v,u] w (eL w fun v' _=>v'= .bool (decide (p=q))):=by
 obtain⟨b1,a1,n1,c1,b2,a2,n2,c2,rfl⟩:=hx.shape;obtain⟨b3,a3,n3,c3,b4,a4,n4,c4,rfl⟩:=hy.shape;refine Dc (by simp) ?_;refine cH (cP (Φ:=fun _ w' v w2=>v= .bool (decide (p.num=q.num))) (fun O w' r=>FR (oS hS r) (hx.num.cJ fun g hg=>r.cS.block g (hS g hg)) (hy.num.cJ fun g hg=>r.cS.block g (hS g hg))) ?_);rintro O wa v1 wb r he hb rfl;have hw:=hb;generalize (wa.heap.size,wb.heap.size)::[]=iv at*
 refine dG.mk ?_ ?_<;>intro h
 ·have h:=aH h;refine cH (cE hw (fun _ w' v w2=>v= .bool (decide ((p.den:Int)=q.den))) (fun O w' r=>FR (oS hS r) (hx.den.cJ (kS hw r hS)) (hy.den.cJ (kS hw r hS))) ?_);rintro O _ _ _ Oa r he hw h_ rfl;intro ρe we re;refine⟨_,rfl,hw.tr re.cS,?_⟩;have:decide (p=q)=decide ((p.den:Int)=q.den):=decide_eq_decide.2 ⟨fun e=>by rw[e],fun e=>Rat.ext h (by omega)⟩;rw[this];rfl
 ·have h:=aG h;intro ρe we re;refine⟨_,rfl,hw.tr re.cS,?_⟩;rw[bJ (fun e=>h (by rw[e]))];rfl
theorem vS{v:Value}{xs ys:List Rat}(hS:Old S w)(hx:cR w S v xs)(hy:cR w S u ys):
  eA PG N.rb #[v,u] w (eL w fun v' _=>v'= .bool (decide (xs=ys))):=by
 obtain⟨a,c,rfl,hc,hm⟩:=dL.shape hx;obtain⟨b,e,rfl,TT,Th⟩:=dL.shape hy;unfold maxLen at hm Th;refine xH (by simp) ?_;refine dG.mk ?_ ?_<;>intro h
 ·have h:xs.length≠ys.length:=fun he=>by rw[he]at h;simp at h
  intro O w2 r;exact⟨_,rfl,r.cS,by rw[bJ (fun e=>h (by rw[e]))];rfl⟩
 have h:xs.length=ys.length:=by
  have:(xs.length:Int)=ys.length:=by simpa using h
  omega
 refine⟨Nat×World,fun z=>⟨[(0,sV a xs.length c),(1,sV b ys.length e),(5,iZ z.1)],[],0,[],z.2⟩,fun z=>xs.length-z.1,
  fun z=>z.1<=xs.length∧dg w.heap.size w z.2∧xs.take z.1=ys.take z.1,?_,?_⟩
 ·intro O w' r;exact⟨(0,w'),⟨by simp,r.cS,by simp⟩,Sub.gn [] r⟩
 rintro⟨i,w1⟩ ⟨hi,hw,ht⟩;dsimp only at hi hw ht ⊢;refine dG.mk ?_ ?_<;>intro OW
 ·have OW:i<xs.length:=by simpa using OW
  obtain⟨x,Pf⟩:∃x,xs[i]? =some x:=⟨_,aB OW⟩
  obtain⟨y,S7⟩:∃x,ys[i]? =some x:=⟨_,aB (by omega)⟩
  obtain⟨ad2,cs2,rfl,QJ,-,PU⟩:=dL.load hy S7;obtain⟨p2,q2,r2,s2,t2,u2,v2,w2,rfl,QJ⟩:=QJ;obtain⟨ad,cs,rfl,hR,-,hl⟩:=dL.load hx Pf;obtain⟨p1,q1,r1,s1,t1,u1,v1,w1,rfl,hR⟩:=hR;refine cO hτ dZ [.x 0,.x 1,.x 2,.x 3,.x 4,.x 5,.x 6,.x 7,.x 8,.x 9] (by kernel_rfl) (by kernel_rfl) ?_;refine⟨ad,rfl,by omega,[.bool p1,.slice q1 r1 s1,.bool t1,.slice u1 v1 w1],rfl,rdO hl hw hS,ad2,rfl,by omega,[.bool p2,.slice q2 r2 s2,.bool t2,.slice u2 v2 w2],rfl,rdO PU hw hS,?_⟩;refine cE hw (fun _ w' v w2=>v= .bool (decide (x=y))) (fun O w' r=>aBD (oS hS r) (hR.cJ (kS hw r hS)) (QJ.cJ (kS hw r hS))) ?_;rintro O _ _ _ Oa r he hw h_ rfl;refine dG.mk ?_ ?_<;>intro OZ
  ·have OZ:x≠y:=fun h=>by rw[h]at OZ;simp at OZ
   intro O w2 r;refine⟨_,rfl,hw.tr r.cS,?_⟩
   rw[bJ (fun e=>OZ (by
    rw[e,S7]at Pf;injection Pf with Pf
    exact Pf.symm))]
   rfl
  have OZ:x=y:=by simpa using OZ
  subst OZ;have TC:xs.take (i+1)=ys.take (i+1):=by rw[List.take_add_one,List.take_add_one,ht,Pf,S7]
  refine⟨((i+1:Nat):Int),wo,?_⟩;intro ρ3 w3 r3;exact⟨(i+1,w3),⟨OW,hw.tr r3.cS,TC⟩,Sub.gn [] r3,by dsimp only;omega⟩
 have OW:i=xs.length:=by
  have:¬i<xs.length:=by simpa using OW
  omega
 subst OW;rw[bH,h,bH]at ht;intro O w2 r;exact⟨_,rfl,hw.tr r.cS,by rw[bS ht];rfl⟩
theorem zt{v:Value}{xs ys:List (List Rat)}(hS:Old S w)(hx:cW w S v xs)(hy:cW w S u ys):
  eA PG N.qi #[v,u] w (eL w fun v' _=>v'= .bool (decide (xs=ys))):=by
 obtain⟨a,c,rfl,hc,hm⟩:=dA.shape hx;obtain⟨b,e,rfl,TT,Th⟩:=dA.shape hy;unfold maxLen at hm Th;refine uv (by simp) ?_;refine dG.mk ?_ ?_<;>intro h
 ·have h:xs.length≠ys.length:=fun he=>by rw[he]at h;simp at h
  intro O w2 r;exact⟨_,rfl,r.cS,by rw[bJ (fun e=>h (by rw[e]))];rfl⟩
 have h:xs.length=ys.length:=by
  have:(xs.length:Int)=ys.length:=by simpa using h
  omega
 refine⟨Nat×World,fun z=>⟨[(0,sV a xs.length c),(1,sV b ys.length e),(5,iZ z.1)],[],0,[],z.2⟩,fun z=>xs.length-z.1,
  fun z=>z.1<=xs.length∧dg w.heap.size w z.2∧xs.take z.1=ys.take z.1,?_,?_⟩
 ·intro O w' r;exact⟨(0,w'),⟨by simp,r.cS,by simp⟩,Sub.gn [] r⟩
 rintro⟨i,w1⟩ ⟨hi,hw,ht⟩;dsimp only at hi hw ht ⊢;refine dG.mk ?_ ?_<;>intro OW
 ·have OW:i<xs.length:=by simpa using OW
  obtain⟨x,Pf⟩:∃x,xs[i]? =some x:=⟨_,aB OW⟩
  obtain⟨y,S7⟩:∃x,ys[i]? =some x:=⟨_,aB (by omega)⟩
  obtain⟨ad,u1,rfl,hR,k1,l1⟩:=dA.load hx Pf;obtain⟨ad2,u2,rfl,QJ,k2,l2⟩:=dA.load hy S7;obtain⟨p1,q1,rfl,-⟩:=dL.shape hR;obtain⟨p2,q2,rfl,-⟩:=dL.shape QJ;refine cO hτ dZ [.x 0,.x 1,.x 2,.x 3,.x 4,.x 5,.x 6,.x 7,.x 8,.x 9] (by kernel_rfl) (by kernel_rfl) ?_;refine⟨ad,rfl,by omega,.slice p1 x.length q1,rd1 l1 hw (hS _ k1),ad2,rfl,by omega,.slice p2 y.length q2,rd1 l2 hw (hS _ k2),?_⟩;refine cE hw (fun _ w' v w2=>v= .bool (decide (x=y))) (fun O w' r=>vS (oS hS r) (cR.cJ hR (kS hw r hS)) (cR.cJ QJ (kS hw r hS))) ?_;rintro O _ _ _ Oa r he hw h_ rfl;refine dG.mk ?_ ?_<;>intro OZ
  ·have OZ:x≠y:=fun h=>by rw[h]at OZ;simp at OZ
   intro O w2 r;refine⟨_,rfl,hw.tr r.cS,?_⟩
   rw[bJ (fun e=>OZ (by
    rw[e,S7]at Pf;injection Pf with Pf
    exact Pf.symm))]
   rfl
  have OZ:x=y:=by simpa using OZ
  subst OZ;have TC:xs.take (i+1)=ys.take (i+1):=by rw[List.take_add_one,List.take_add_one,ht,Pf,S7]
  refine⟨((i+1:Nat):Int),wo,?_⟩;intro ρ3 w3 r3;exact⟨(i+1,w3),⟨OW,hw.tr r3.cS,TC⟩,Sub.gn [] r3,by dsimp only;omega⟩
 have OW:i=xs.length:=by
  have:¬i<xs.length:=by simpa using OW
  omega
 subst OW;rw[bH,h,bH]at ht;intro O w2 r;exact⟨_,rfl,hw.tr r.cS,by rw[bS ht];rfl⟩
theorem cT.four{b b2:Bool}{a:Option Addr}{n c n2 c2:Nat}(h:cT w S (.agg #[.bool b,.slice a n c,.bool b2,.slice a2 n2 c2]) q):EA w S [.bool b,.slice a n c,.bool b2,.slice a2 n2 c2] (q.num,(q.den:Int)):=
 ⟨b,a,n,c,b2,a2,n2,c2,rfl,h.r⟩
theorem cT.sX{b b2:Bool}{a:Option Addr}{n c n2 c2:Nat}(h:cT w S (.agg #[.bool b,.slice a n c,.bool b2,.slice a2 n2 c2]) q):jn w S [.bool b,.slice a n c,.bool b2,.slice a2 n2 c2] q:=
 ⟨b,a,n,c,b2,a2,n2,c2,rfl,h⟩
theorem Rel.lt(r:Rel H nx iv B w O w'){id t:Nat}{cs:List At}(h:dM H id=some (.box t cs)):(O id).g<w'.heap.size:=(r.low id _ h (r.nn id _ h (by intros;simp) (by simp))).2
end Go.Ex
namespace Go.Ex
variable{cs:List Int}{ls:List Nat}{i:Nat}{f:Nat->Int}
def gK(f:Nat->Int):Nat->Int
 |0=>0
 |n+1=>f 0+65536*gK (fun i=>f (i+1)) n
theorem CL(f:Nat->Int)(n:Nat):dY ((List.range n).map f)=gK f n:=by
 induction n generalizing f with
 |zero=>rfl
 |succ n ih=>
  rw[List.range_succ_eq_map,List.map_cons,List.map_map,dY,gK,<-ih];rfl
theorem CM(f g:Nat->Int)(n:Nat):gK (fun i=>f i+g i) n=gK f n+gK g n:=by
 induction n generalizing f g with
 |zero=>rfl
 |succ n ih=>simp only[gK,ih];omega
theorem Jm(k:Int)(f:Nat->Int)(n:Nat):gK (fun i=>k*f i) n=k*gK f n:=by
 induction n generalizing f with
 |zero=>simp[gK]
 |succ n ih=>simp only[gK,ih,Int.mul_add];rw[Int.mul_left_comm]
theorem zS{n:Nat}(h:∀i,i<n->f i=0):gK f n=0:=by
 induction n generalizing f with
 |zero=>rfl
 |succ n ih=>rw[gK,h 0 (by omega),ih fun i hi=>h (i+1) (by omega)];rfl
theorem rY(a:List Int)(n:Nat)(h:a.length<=n):gK (fun i=>a.getD i 0) n=dY a:=by
 induction a generalizing n with
 |nil=>exact zS fun i _=>by simp
 |cons c r ih=>
  obtain⟨m,rfl⟩:∃m,n=m+1:=⟨n-1,by simp at h;omega⟩
  have e:=ih m (by simpa using h);rw[gK,dY,<-e];simp[List.getD]
def jU(a b:List Int)(i:Nat):Nat->Int
 |0=>0
 |k+1=>jU a b i k+a.getD k 0*(if k<=i then b.getD (i-k) 0 else 0)
def gb(a b:List Int)(i:Nat):Int:=jU a b i (i+1)
theorem Me(b:List Int)(i k:Nat):jU [] b i k=0:=by
 induction k with
 |zero=>rfl
 |succ k ih=>rw[jU,ih];simp
theorem Jn(c:Int)(r b:List Int)(i k:Nat):jU (c::r) b (i+1) (k+1)=c*b.getD (i+1) 0+jU r b i k:=by
 induction k with
 |zero=>simp[jU]
 |succ k ih=>
  rw[jU,ih,jU];have e:(c::r).getD (k+1) 0=r.getD k 0:=by simp[List.getD]
  rw[e];have e2:(if k+1<=i+1 then b.getD (i+1-(k+1)) 0 else 0)=(if k<=i then b.getD (i-k) 0 else 0):=by
   by_cases h:k<=i
   ·rw[if_pos h,if_pos (by omega),show i+1-(k+1)=i-k by omega]
   ·rw[aK h,aK (by omega)]
  rw[e2,Int.add_assoc]
theorem IH(c:Int)(r b:List Int)(i:Nat):gb (c::r) b (i+1)=c*b.getD (i+1) 0+gb r b i:=Jn c r b i (i+1)
theorem II(c:Int)(r b:List Int):gb (c::r) b 0=c*b.getD 0 0:=by simp[gb,jU]
theorem aAW(a b:List Int)(n:Nat)(h:a.length+b.length<=n+1):gK (gb a b) n=dY a*dY b:=by
 induction a generalizing n with
 |nil=>
  rw[show gb [] b=fun _=>(0:Int)from funext fun i=>Me b i _,zS fun _ _=>rfl];simp[dY]
 |cons c r ih=>
  cases n with
  |zero=>
   have hb:b=[]:=List.eq_nil_of_length_eq_zero (by simp at h;omega);subst hb;simp[gK,dY]
  |succ m=>
   have e1:gK (gb (c::r) b) (m+1)=gK (fun i=>c*b.getD i 0) (m+1)+65536*gK (gb r b) m:=by
    have e2:gK (fun i=>gb (c::r) b (i+1)) m=gK (fun i=>c*b.getD (i+1) 0) m+gK (gb r b) m:=by
     rw[<-CM];congr 1
     funext i
     exact IH c r b i
    rw[gK,gK,e2,II,Int.mul_add];omega
   have h':r.length+b.length<=m+1:=by simp at h;omega
   rw[e1,ih m h',Jm,rY b (m+1) (by omega),dY,Int.add_mul,Int.mul_assoc]
theorem Jo(a b:List Int)(i k k0:Nat)(h0:∀j,j<k0->b.length<=i-j)(hk:k0<=i+1)(h:k<=k0):jU a b i k=0:=by
 induction k with
 |zero=>rfl
 |succ k ih=>
  rw[jU,ih (by omega),if_pos (by omega)];have:b.getD (i-k) 0=0:=by rw[List.getD,List.getElem?_eq_none (h0 k (by omega))];rfl
  rw[this];simp
theorem Jp(a b:List Int)(i k m:Nat)(h:a.length<=k):jU a b i (k+m)=jU a b i k:=by
 induction m with
 |zero=>rfl
 |succ m ih=>
  rw[<-Nat.add_assoc,jU,ih];have:a.getD (k+m) 0=0:=by rw[List.getD,List.getElem?_eq_none (by omega)];rfl
  rw[this];simp
theorem nc{a b:List Int}(ha:∀x∈a,-65535<=x∧x<=65535)(hb:∀x∈b,-65535<=x∧x<=65535)(k:Nat):(jU a b i k).natAbs<=4294836225*k:=by
 have key:∀(l:List Int) (j:Nat),(∀x∈l,-65535<=x∧x<=65535)->(l.getD j 0).natAbs<=65535:=fun l j h=>by
  rw[List.getD]
  cases hj:l[j]? with
  |none=>simp
  |some d=>have:=h d (aD hj);simp;omega
 induction k with
 |zero=>simp[jU]
 |succ k ih=>
  rw[jU];have h1:=key a k ha;have h2:(if k<=i then b.getD (i-k) 0 else 0).natAbs<=65535:=by
   split
   ·exact key b _ hb
   ·simp
  have h3:=Nat.mul_le_mul h1 h2;rw[<-Int.natAbs_mul]at h3;generalize a.getD k 0*(if k<=i then b.getD (i-k) 0 else 0)=p at*
  omega
def eQ(s:Int):List Nat->List Int
 |[]=>[]
 |l::r=>s*((l % 65536:Nat):Int)::s*((l / 65536:Nat):Int)::eQ s r
theorem GI(s:Int)(ls:List Nat):dY (eQ s ls)=s*(val ls:Int):=by
 induction ls with
 |nil=>simp[eQ,dY,val]
 |cons l r ih=>
  rw[eQ,dY,dY,ih,val];have e1:((l+4294967296*val r:Nat):Int)=((l % 65536:Nat):Int)+65536*((l / 65536:Nat):Int)+4294967296*((val r:Nat):Int):=by omega
  rw[e1,Int.mul_add,Int.mul_add,Int.mul_add];rw[Int.mul_left_comm 65536 s,Int.mul_left_comm s 65536,Int.mul_left_comm s 4294967296];omega
theorem qg(s:Int)(a b:List Nat):eQ s (a++b)=eQ s a++eQ s b:=by
 induction a with
 |nil=>rfl
 |cons l r ih=>simp[eQ,ih]
theorem jK(s:Int)(ls:List Nat):(eQ s ls).length=2*ls.length:=by
 induction ls with
 |nil=>rfl
 |cons l r ih=>simp[eQ,ih];omega
theorem CN{s:Int}(hs:s=1∨s= -1)(h:Lm ls):∀c∈eQ s ls,-65535<=c∧c<=65535:=by
 induction ls with
 |nil=>intro c hc;cases hc
 |cons l r ih=>
  have hl:=h l aI;intro c hc;rw[eQ]at hc;rcases List.mem_cons.1 hc with rfl|hc
  ·rcases hs with rfl|rfl<;>omega
  rcases List.mem_cons.1 hc with rfl|hc
  ·rcases hs with rfl|rfl<;>omega
  ·exact ih (fun x hx=>h x (aC _ hx)) c hc
theorem AE(h:Lm ls):∀c∈eQ 1 ls,0<=c∧c<=65535:=fun c hc=>by
 induction ls with
 |nil=>cases hc
 |cons l r ih=>
  have hl:=h l aI;rw[eQ]at hc;rcases List.mem_cons.1 hc with rfl|hc
  ·omega
  rcases List.mem_cons.1 hc with rfl|hc
  ·omega
  ·exact ih (fun x hx=>h x (aC _ hx)) hc
theorem IJ{c:Int}(h:cs[i]? =some c):dY (cs.drop i)=c+65536*dY (cs.drop (i+1)):=by
 rw[List.drop_eq_getElem_cons (aE.1 h).1,dY];have:=(aE.1 h).2;rw[this]
end Go.Ex
namespace Go.Ex
open Go Go.Sx Go.Proofs
variable{x1 x2 y1 y2:Int}{ls:List Nat}{S:Nat->Prop}{p q:Rat}{u:Value}{w:World}
theorem aBR{k:Nat}(h:Lm ls)(hl:ls.length<=k):ln (val ls)<=k:=gX.2 (Nat.lt_of_lt_of_le (pV h) (B2 hl))
theorem Cv.false{B:Nat}{iv:Iv}{g:Nat}(h:Cv FF B iv g):Cv S B iv g:=h.elim (fun h=>h.elim) .inr
theorem aBS{v:Value}(hS:Old S w)(hx:jM w S v x1 x2)(hy:jM w S u y1 y2)(hl0:ln x1.natAbs<=100000)(QV:ln x2.natAbs<=100000)(PU:ln y1.natAbs<=100000)(QL:ln y2.natAbs<=100000):
  eA PG N.yV #[v,u] w (eL w fun v' w2=>cT w2 (Nf w w2) v' ((ratio x1 x2)+(ratio y1 y2))):=by
 have hw:=bR w;have r1:=jJ x1 x2;have r2:=jJ y1 y2;have r3:=kz (ratio x1 x2) (ratio y1 y2);have r4:=fb (ratio x1 x2) (ratio y1 y2);have r5:=jB (ratio y1 y2);have r6:=pt (ratio x1 x2) (ratio y1 y2);replace hx:=hx.cL (S':=Cv S w.heap.size []) fun _ h=>.inl h;replace hy:=hy.cL (S':=Cv S w.heap.size []) fun _ h=>.inl h;obtain⟨b1,a1,n1,c1,b2,a2,n2,c2,rfl⟩:=hx.shape;obtain⟨b3,a3,n3,c3,b4,a4,n4,c4,rfl⟩:=hy.shape;refine GQ (by simp) ?_;refine cO hτ dZ [.x 0,.x 2,.x 1,.x 3,.x 4,.x 5,.x 6] (by kernel_rfl) (by kernel_rfl) ?_;refine cE hw (fun _ w' v w2=>c9 w2 (Nf w' w2) v ((ratio x1 x2))) (fun O w' r=>kg (Rel.old r hS) (hx.rel r hS) (by omega) (by omega)) ?_;rintro O _ _ _ Od r he hw h_ hn;replace hy:=hy.cK r hS he (mC h_);have hX:=hn.dK (S:=FF) r.cI (mN h_);obtain⟨A0,A1,A2,A3,A4,A5,A6,A7,rfl⟩:=hX.shape;refine cE hw (fun _ w' v w2=>c9 w2 (Nf w' w2) v ((ratio y1 y2))) (fun O w' r=>kg (Rel.old r hS) (hy.rel r hS) (by omega) (by omega)) ?_;rintro O _ _ _ Oa r he hw h_ hn;replace hX:=hX.cK r (cG w) he (mC h_);have hY:=hn.dK (S:=FF) r.cI (mN h_);obtain⟨C0,C1,C2,C3,C4,C5,C6,C7,rfl⟩:=hY.shape;refine cE hw (fun _ w' v w2=>c9 w2 (Nf w' w2) v ((ratio x1 x2)+(ratio y1 y2))) (fun O w' r=>Gu (Rel.old r (cG w)) (hX.rel r (cG w)) (hY.rel r (cG w)) (by omega) (by omega)) ?_;rintro O _ _ _ Oj r he hw h_ hn;have hP:=hn.dK (S:=FF) r.cI (mN h_);obtain⟨F0,F1,F2,F3,F4,F5,F6,F7,rfl⟩:=hP.shape;refine cE hw (fun _ w' v w2=>cT w2 (Nf w' w2) v ((ratio x1 x2)+(ratio y1 y2))) (fun O w' r=>tQ (Rel.old r (cG w)) (hP.rel r (cG w)) (by omega)) ?_;rintro O _ _ _ Oz r he hw h_ hn;have hC:=hn.dK (S:=FF) r.cI (mN h_);obtain⟨J0,J1,J2,J3,J4,J5,J6,J7,rfl⟩:=hC.shape;exact rtn hw fun ρe we re=>hC.out re (cG w)
theorem aBT{v:Value}(hS:Old S w)(hx:jM w S v x1 x2)(hy:jM w S u y1 y2)(hl0:ln x1.natAbs<=100000)(QV:ln x2.natAbs<=100000)(PU:ln y1.natAbs<=100000)(QL:ln y2.natAbs<=100000):
  eA PG N.yU #[v,u] w (eL w fun v' w2=>cT w2 (Nf w w2) v' ((ratio x1 x2)*(ratio y1 y2))):=by
 have hw:=bR w;have r1:=jJ x1 x2;have r2:=jJ y1 y2;have r3:=kz (ratio x1 x2) (ratio y1 y2);have r4:=fb (ratio x1 x2) (ratio y1 y2);have r5:=jB (ratio y1 y2);have r6:=pt (ratio x1 x2) (ratio y1 y2);replace hx:=hx.cL (S':=Cv S w.heap.size []) fun _ h=>.inl h;replace hy:=hy.cL (S':=Cv S w.heap.size []) fun _ h=>.inl h;obtain⟨b1,a1,n1,c1,b2,a2,n2,c2,rfl⟩:=hx.shape;obtain⟨b3,a3,n3,c3,b4,a4,n4,c4,rfl⟩:=hy.shape;refine GL (by simp) ?_;refine cO hτ dZ [.x 0,.x 2,.x 1,.x 3,.x 4,.x 5,.x 6] (by kernel_rfl) (by kernel_rfl) ?_;refine cE hw (fun _ w' v w2=>c9 w2 (Nf w' w2) v ((ratio x1 x2))) (fun O w' r=>kg (Rel.old r hS) (hx.rel r hS) (by omega) (by omega)) ?_;rintro O _ _ _ Od r he hw h_ hn;replace hy:=hy.cK r hS he (mC h_);have hX:=hn.dK (S:=FF) r.cI (mN h_);obtain⟨A0,A1,A2,A3,A4,A5,A6,A7,rfl⟩:=hX.shape;refine cE hw (fun _ w' v w2=>c9 w2 (Nf w' w2) v ((ratio y1 y2))) (fun O w' r=>kg (Rel.old r hS) (hy.rel r hS) (by omega) (by omega)) ?_;rintro O _ _ _ Oa r he hw h_ hn;replace hX:=hX.cK r (cG w) he (mC h_);have hY:=hn.dK (S:=FF) r.cI (mN h_);obtain⟨C0,C1,C2,C3,C4,C5,C6,C7,rfl⟩:=hY.shape;refine cE hw (fun _ w' v w2=>c9 w2 (Nf w' w2) v ((ratio x1 x2)*(ratio y1 y2))) (fun O w' r=>sU (Rel.old r (cG w)) (hX.rel r (cG w)) (hY.rel r (cG w)) (by omega) (by omega)) ?_;rintro O _ _ _ Oj r he hw h_ hn;have hP:=hn.dK (S:=FF) r.cI (mN h_);obtain⟨F0,F1,F2,F3,F4,F5,F6,F7,rfl⟩:=hP.shape;refine cE hw (fun _ w' v w2=>cT w2 (Nf w' w2) v ((ratio x1 x2)*(ratio y1 y2))) (fun O w' r=>tQ (Rel.old r (cG w)) (hP.rel r (cG w)) (by omega)) ?_;rintro O _ _ _ Oz r he hw h_ hn;have hC:=hn.dK (S:=FF) r.cI (mN h_);obtain⟨J0,J1,J2,J3,J4,J5,J6,J7,rfl⟩:=hC.shape;exact rtn hw fun ρe we re=>hC.out re (cG w)
theorem aBU{v:Value}(hS:Old S w)(hx:jM w S v x1 x2)(hy:jM w S u y1 y2)(hl0:ln x1.natAbs<=100000)(QV:ln x2.natAbs<=100000)(PU:ln y1.natAbs<=100000)(QL:ln y2.natAbs<=100000):
  eA PG N.yY #[v,u] w (eL w fun v' w2=>cT w2 (Nf w w2) v' ((ratio x1 x2)-(ratio y1 y2))):=by
 have hw:=bR w;have r1:=jJ x1 x2;have r2:=jJ y1 y2;have r3:=kz (ratio x1 x2) (ratio y1 y2);have r4:=fb (ratio x1 x2) (ratio y1 y2);have r5:=jB (ratio y1 y2);have r6:=pt (ratio x1 x2) (ratio y1 y2);replace hx:=hx.cL (S':=Cv S w.heap.size []) fun _ h=>.inl h;replace hy:=hy.cL (S':=Cv S w.heap.size []) fun _ h=>.inl h;obtain⟨b1,a1,n1,c1,b2,a2,n2,c2,rfl⟩:=hx.shape;obtain⟨b3,a3,n3,c3,b4,a4,n4,c4,rfl⟩:=hy.shape;refine GZ (by simp) ?_;refine cO hτ dZ [.x 0,.x 2,.x 1,.x 3,.x 4,.x 5,.x 6,.x 7] (by kernel_rfl) (by kernel_rfl) ?_;refine cE hw (fun _ w' v w2=>c9 w2 (Nf w' w2) v ((ratio x1 x2))) (fun O w' r=>kg (Rel.old r hS) (hx.rel r hS) (by omega) (by omega)) ?_;rintro O _ _ _ Od r he hw h_ hn;replace hy:=hy.cK r hS he (mC h_);have hX:=hn.dK (S:=FF) r.cI (mN h_);obtain⟨A0,A1,A2,A3,A4,A5,A6,A7,rfl⟩:=hX.shape;refine cE hw (fun _ w' v w2=>c9 w2 (Nf w' w2) v ((ratio y1 y2))) (fun O w' r=>kg (Rel.old r hS) (hy.rel r hS) (by omega) (by omega)) ?_;rintro O _ _ _ Oa r he hw h_ hn;replace hX:=hX.cK r (cG w) he (mC h_);have hY:=hn.dK (S:=FF) r.cI (mN h_);obtain⟨C0,C1,C2,C3,C4,C5,C6,C7,rfl⟩:=hY.shape;refine cP (Φ:=fun _ w' v w2=>c9 w2 (Nw (Cf w Oa) w' w2) v (-(ratio y1 y2))) (fun O w' r=>sT (Rel.old r (cG w)) (hY.rel r (cG w))) ?_;rintro O Pg v3 Pc r he hb hn;replace hw:=hw.tr hb;replace hX:=hX.cK (iv':=(Pg.heap.size,Pc.heap.size)::Oa) r (cG w) he fun x hx=>aC _ hx;have hM:=hn.old r.cI;generalize (Pg.heap.size,Pc.heap.size)::Oa=Oj at*
 obtain⟨F0,F1,F2,F3,F4,F5,F6,F7,rfl⟩:=hM.shape;refine cE hw (fun _ w' v w2=>c9 w2 (Nf w' w2) v ((ratio x1 x2)-(ratio y1 y2))) (fun O w' r=>(Rat.sub_eq_add_neg (ratio x1 x2) (ratio y1 y2))▸Gu (Rel.old r (cG w)) (hX.rel r (cG w)) (hM.rel r (cG w)) (by omega) (by omega)) ?_;rintro O _ _ _ Oz r he hw h_ hn;have hP:=hn.dK (S:=FF) r.cI (mN h_);obtain⟨J0,J1,J2,J3,J4,J5,J6,J7,rfl⟩:=hP.shape;refine cE hw (fun _ w' v w2=>cT w2 (Nf w' w2) v ((ratio x1 x2)-(ratio y1 y2))) (fun O w' r=>tQ (Rel.old r (cG w)) (hP.rel r (cG w)) (by omega)) ?_;rintro O _ _ _ QT r he hw h_ hn;have hC:=hn.dK (S:=FF) r.cI (mN h_);obtain⟨K0,K1,K2,K3,K4,K5,K6,K7,rfl⟩:=hC.shape;exact rtn hw fun ρe we re=>hC.out re (cG w)
theorem aA4{v:Value}{f g:Rat}(hS:Old S w)(hf:c9 w S v f)(hg:c9 w S u g)(Wn:rl f<=10000000000)(hlg:rl g<=10000000000):
  eA PG N.mz #[v,u] w (eL w fun v' w2=>v'= .int .i64 (rs (f-g))):=by
 have hw:=bR w;have l1:=gD f;have l2:=fO f;have l3:=gD g;have l4:=fO g;have m0:=dI f.num g.den;have m1:=dI g.num f.den;replace hf:=hf.cL (S':=Cv S w.heap.size []) fun _ h=>.inl h;replace hg:=hg.cL (S':=Cv S w.heap.size []) fun _ h=>.inl h;obtain⟨b1,a1,n1,c1,b2,a2,n2,c2,rfl⟩:=hf.shape;obtain⟨b3,a3,n3,c3,b4,a4,n4,c4,rfl⟩:=hg.shape;have VV:=hf.num;have Qs:=hf.den;have TW:=hg.num;have QY:=hg.den;refine qu (by simp) ?_;refine cO hτ dZ [.x 0,.x 1,.x 2,.x 3,.x 5,.x 6,.x 7,.x 8,.x 4,.x 9,.x 10,.x 11] (by kernel_rfl) (by kernel_rfl) ?_;refine cE hw (fun _ w' v w2=>ed w2 (Nf w' w2) v (f.num*(g.den:Int))) (fun O w' r=>jF (Rel.old r hS) (VV.rel r hS) (QY.rel r hS) (by omega) (by omega)) ?_;rintro O _ _ _ Od r he hw h_ hn;replace Qs:=Qs.cK r hS he (mC h_);replace TW:=TW.cK r hS he (mC h_);have hA:=hn.dK (S:=FF) r.cI (mN h_);obtain⟨A0,A1,A2,A3,rfl⟩:=hA.shape;refine cE hw (fun _ w' v w2=>ed w2 (Nf w' w2) v (g.num*(f.den:Int))) (fun O w' r=>jF (Rel.old r hS) (TW.rel r hS) (Qs.rel r hS) (by omega) (by omega)) ?_;rintro O _ _ _ Oa r he hw h_ hn;replace hA:=hA.cK r (cG w) he (mC h_);have hB:=hn.dK (S:=FF) r.cI (mN h_);obtain⟨C0,C1,C2,C3,rfl⟩:=hB.shape;refine cE hw (fun _ w' v w2=>v= .int .i64 (rs (f-g))) (fun O w' r=>(aBk f g)▸aAo (Rel.old r (cG w)) (hA.rel r (cG w)) (hB.rel r (cG w)) (by omega) (by omega)) ?_;rintro O _ _ _ Oj r he hw h_ rfl;exact rtn hw fun ρe we re=>rfl
theorem aBV{v:Value}(hS:Old S w)(hx:jM w S v x1 x2)(hy:jM w S u y1 y2)(hl0:ln x1.natAbs<=100000)(QV:ln x2.natAbs<=100000)(PU:ln y1.natAbs<=100000)(QL:ln y2.natAbs<=100000):
  eA PG N.yT #[v,u] w (eL w fun v' w2=>v'= .int .i64 (rs ((ratio x1 x2)-(ratio y1 y2)))):=by
 have hw:=bR w;have r1:=jJ x1 x2;have r2:=jJ y1 y2;have r3:=kz (ratio x1 x2) (ratio y1 y2);have r4:=fb (ratio x1 x2) (ratio y1 y2);have r5:=jB (ratio y1 y2);have r6:=pt (ratio x1 x2) (ratio y1 y2);replace hx:=hx.cL (S':=Cv S w.heap.size []) fun _ h=>.inl h;replace hy:=hy.cL (S':=Cv S w.heap.size []) fun _ h=>.inl h;obtain⟨b1,a1,n1,c1,b2,a2,n2,c2,rfl⟩:=hx.shape;obtain⟨b3,a3,n3,c3,b4,a4,n4,c4,rfl⟩:=hy.shape;refine GK (by simp) ?_;refine cO hτ dZ [.x 0,.x 2,.x 1,.x 3,.x 4,.x 5] (by kernel_rfl) (by kernel_rfl) ?_;refine cE hw (fun _ w' v w2=>c9 w2 (Nf w' w2) v ((ratio x1 x2))) (fun O w' r=>kg (Rel.old r hS) (hx.rel r hS) (by omega) (by omega)) ?_;rintro O _ _ _ Od r he hw h_ hn;replace hy:=hy.cK r hS he (mC h_);have hX:=hn.dK (S:=FF) r.cI (mN h_);obtain⟨A0,A1,A2,A3,A4,A5,A6,A7,rfl⟩:=hX.shape;refine cE hw (fun _ w' v w2=>c9 w2 (Nf w' w2) v ((ratio y1 y2))) (fun O w' r=>kg (Rel.old r hS) (hy.rel r hS) (by omega) (by omega)) ?_;rintro O _ _ _ Oa r he hw h_ hn;replace hX:=hX.cK r (cG w) he (mC h_);have hY:=hn.dK (S:=FF) r.cI (mN h_);obtain⟨C0,C1,C2,C3,C4,C5,C6,C7,rfl⟩:=hY.shape;refine cE hw (fun _ w' v w2=>v= .int .i64 (rs ((ratio x1 x2)-(ratio y1 y2)))) (fun O w' r=>aA4 (Rel.old r (cG w)) (hX.rel r (cG w)) (hY.rel r (cG w)) (by omega) (by omega)) ?_;rintro O _ _ _ Oj r he hw h_ rfl;exact rtn hw fun ρe we re=>rfl
theorem lP:rs q=0↔q=0:=by rw[rs,cC,Rat.num_eq_zero]
theorem aBW{v:Value}(hS:Old S w)(hx:jM w S v x1 x2)(hy:jM w S u y1 y2)(hl0:ln x1.natAbs<=100000)(QV:ln x2.natAbs<=100000)(PU:ln y1.natAbs<=100000)(QL:ln y2.natAbs<=100000):
  eA PG N.yW #[v,u] w (eL w fun v' w2=>((ratio y1 y2)=0∧v'= .tuple #[DP,.int .i64 9])∨((ratio y1 y2)≠0∧∃q,v'= .tuple #[q,.int .i64 0]∧cT w2 (Nf w w2) q ((ratio x1 x2) / (ratio y1 y2)))):=by
 have hw:=bR w;have r1:=jJ x1 x2;have r2:=jJ y1 y2;have r3:=kz (ratio x1 x2) (ratio y1 y2);have r4:=fb (ratio x1 x2) (ratio y1 y2);have r5:=jB (ratio y1 y2);have r6:=pt (ratio x1 x2) (ratio y1 y2);replace hx:=hx.cL (S':=Cv S w.heap.size []) fun _ h=>.inl h;replace hy:=hy.cL (S':=Cv S w.heap.size []) fun _ h=>.inl h;obtain⟨b1,a1,n1,c1,b2,a2,n2,c2,rfl⟩:=hx.shape;obtain⟨b3,a3,n3,c3,b4,a4,n4,c4,rfl⟩:=hy.shape;refine GU (by simp) ?_;refine cH (cE hw (fun _ w' v w2=>c9 w2 (Nf w' w2) v ((ratio y1 y2))) (fun O w' r=>kg (Rel.old r hS) (hy.rel r hS) (by omega) (by omega)) ?_);rintro O _ _ _ Od r he hw h_ hn;replace hx:=hx.cK r hS he (mC h_);have hY:=hn.dK (S:=FF) r.cI (mN h_);obtain⟨A0,A1,A2,A3,A4,A5,A6,A7,rfl⟩:=hY.shape;refine cH (cE hw (fun _ w' v w2=>v= .int .i64 (rs (ratio y1 y2))) (fun O w' r=>tN (Rel.old r (cG w)) (hY.rel r (cG w))) ?_);rintro O _ _ _ Oa r he hw h_ rfl;replace hx:=hx.cK r hS he (mC h_);replace hY:=hY.cK r (cG w) he (mC h_);refine dG.mk ?_ ?_<;>intro h
 ·have h:rs (ratio y1 y2)=0:=by simpa using h
  exact rtn hw fun ρe we re=>.inl ⟨lP.1 h,rfl⟩
 have h:(ratio y1 y2)≠0:=fun e=>by rw[e]at h;exact absurd h (by decide)
 have r7:=pc (ratio x1 x2) h;refine cO hτ dZ [.x 0,.x 2,.x 1,.x 3,.x 4,.x 5,.x 6] (by kernel_rfl) (by kernel_rfl) ?_;refine cE hw (fun _ w' v w2=>c9 w2 (Nf w' w2) v ((ratio x1 x2))) (fun O w' r=>kg (Rel.old r hS) (hx.rel r hS) (by omega) (by omega)) ?_;rintro O _ _ _ Oj r he hw h_ hn;replace hY:=hY.cK r (cG w) he (mC h_);have hX:=hn.dK (S:=FF) r.cI (mN h_);obtain⟨C0,C1,C2,C3,C4,C5,C6,C7,rfl⟩:=hX.shape;refine cE hw (fun _ w' v w2=>c9 w2 (Nf w' w2) v ((ratio x1 x2) / (ratio y1 y2))) (fun O w' r=>LY (Rel.old r (cG w)) (hX.rel r (cG w)) (hY.rel r (cG w)) (by omega) (by omega) h) ?_;rintro O _ _ _ Oz r he hw h_ hn;have hP:=hn.dK (S:=FF) r.cI (mN h_);obtain⟨F0,F1,F2,F3,F4,F5,F6,F7,rfl⟩:=hP.shape;refine cE hw (fun _ w' v w2=>cT w2 (Nf w' w2) v ((ratio x1 x2) / (ratio y1 y2))) (fun O w' r=>tQ (Rel.old r (cG w)) (hP.rel r (cG w)) (by omega)) ?_;rintro O _ _ _ QT r he hw h_ hn;have hC:=hn.dK (S:=FF) r.cI (mN h_);obtain⟨J0,J1,J2,J3,J4,J5,J6,J7,rfl⟩:=hC.shape;exact rtn hw fun ρe we re=>.inr ⟨h,_,rfl,hC.out re (cG w)⟩
theorem aBX{n:Int}(h1: -9223372036854775808<=n)(h2:n<=9223372036854775807):rl (n:Rat)<=2:=by
 have:=nI h1 h2;unfold rl;rw[Rat.num_intCast,Rat.den_intCast];have:ln 1=1:=by decide
 omega
theorem Jv(n:Int)(w:World)(h1: -9223372036854775808<=n)(h2:n<=9223372036854775807):
  eA PG N.zY #[.int .i64 n] w (eL w fun v' w2=>cT w2 (Nf w w2) v' (n:Rat)):=by
 have hw:=bR w;have hl:=aBX h1 h2;refine Cj (by simp) ?_;refine cH (cE hw (fun _ w' v w2=>c9 w2 (Nf w' w2) v (n)) (fun O w' r=>BB n w' h1 h2) ?_);rintro O _ _ _ Od r he hw h_ hn;have hX:=hn.dK (S:=FF) r.cI (mN h_);obtain⟨A0,A1,A2,A3,A4,A5,A6,A7,rfl⟩:=hX.shape;refine cH (cE hw (fun _ w' v w2=>cT w2 (Nf w' w2) v (n)) (fun O w' r=>tQ (Rel.old r (cG w)) (hX.rel r (cG w)) (by omega)) ?_);rintro O _ _ _ Oa r he hw h_ hn;have hC:=hn.dK (S:=FF) r.cI (mN h_);obtain⟨C0,C1,C2,C3,C4,C5,C6,C7,rfl⟩:=hC.shape;exact rtn hw fun ρe we re=>hC.out re (cG w)
theorem KH(a b:Int)(w:World)(h1a: -9223372036854775808<=a)(h2a:a<=9223372036854775807)(h1b: -9223372036854775808<=b)(h2b:b<=9223372036854775807):
  eA PG N.zV #[.int .i64 a,.int .i64 b] w (eL w fun v' w2=>(b=0∧v'= .tuple #[DP,.int .i64 9])∨(b≠0∧∃q,v'= .tuple #[q,.int .i64 0]∧cT w2 (Nf w w2) q (Rat.divInt a b))):=by
 have hw:=bR w;have ha:=nI h1a h2a;have hb:=nI h1b h2b;refine Ce (by simp) ?_;refine dG.mk ?_ ?_<;>intro h
 ·have h:b=0:=by simpa using h
  exact rtn hw fun ρe we re=>.inl ⟨h,rfl⟩
 have h:b≠0:=by simpa using h
 have hq:=lA (a:=a) h;refine cH (cE hw (fun _ w' v w2=>ed w2 (Nf w' w2) v a) (fun O w' r=>qV a w' h1a h2a) ?_);rintro O _ _ _ Od r he hw h_ hn;have hA:=hn.dK (S:=FF) r.cI (mN h_);obtain⟨A0,A1,A2,A3,rfl⟩:=hA.shape;refine cH (cE hw (fun _ w' v w2=>ed w2 (Nf w' w2) v b) (fun O w' r=>qV b w' h1b h2b) ?_);rintro O _ _ _ Oa r he hw h_ hn;replace hA:=hA.cK r (cG w) he (mC h_);have hB:=hn.dK (S:=FF) r.cI (mN h_);obtain⟨C0,C1,C2,C3,rfl⟩:=hB.shape;refine cH (cE hw (fun _ w' v w2=>c9 w2 (Nf w' w2) v (Rat.divInt a b)) (fun O w' r=>zA (Rel.old r (cG w)) (hA.rel r (cG w)) (hB.rel r (cG w)) h (by omega) (by omega)) ?_);rintro O _ _ _ Oj r he hw h_ hn;have hP:=hn.dK (S:=FF) r.cI (mN h_);obtain⟨F0,F1,F2,F3,F4,F5,F6,F7,rfl⟩:=hP.shape;refine cH (cE hw (fun _ w' v w2=>cT w2 (Nf w' w2) v (Rat.divInt a b)) (fun O w' r=>tQ (Rel.old r (cG w)) (hP.rel r (cG w)) (by omega)) ?_);rintro O _ _ _ Oz r he hw h_ hn;have hC:=hn.dK (S:=FF) r.cI (mN h_);obtain⟨J0,J1,J2,J3,J4,J5,J6,J7,rfl⟩:=hC.shape;exact rtn hw fun ρe we re=>.inr ⟨h,_,rfl,hC.out re (cG w)⟩
theorem Ix(ad:Addr)(i j:Nat):(ad.add i).add j=ad.add (i+j):=by
 unfold Addr.add;split<;>split<;>simp_all<;>omega
def sh(w:World)(S:Nat->Prop)(v:Value)(q:Rat):Prop:=∃a b,jM w S v a b∧ratio a b=q∧ln a.natAbs<=100000∧ln b.natAbs<=100000
theorem sh.cJ{w2:World}{v:Value}(h:sh w S v q)(hk:∀g,S g->w2.heap[g]? =w.heap[g]?):sh w2 S v q:=by
 obtain⟨a,b,h1,h2⟩:=h;exact⟨a,b,h1.cJ hk,h2⟩
theorem sh.shape{v:Value}(h:sh w S v q):∃b a n c b2 a2 n2 c2,v= .agg #[.bool b,.slice a n c,.bool b2,.slice a2 n2 c2]:=by
 obtain⟨a,b,h1,_⟩:=h;exact h1.shape
theorem qW(q:Rat):ratio q.num q.den=q:=by rw[ratio,aK (ga q),Rat.num_divInt_den]
theorem cT.v{v:Value}(h:cT w S v q)(hl:rl q<=100000):sh w S v q:=
 ⟨_,_,h.r,qW q,aV (gD q) hl,aV (fO q) hl⟩
section
variable{S S':Nat->Prop}{H:Hp}{nx:Nat}{iv iv':Iv}{B:Nat}{w w' w2:World}{O:Nat->Sx.eE}{v:Value}{q:Rat}
end
theorem G9{v:Value}(hS:Old S w)(hp:sh w S v p)(hq:sh w S u q):eA PG N.yV #[v,u] w (eL w fun v' w2=>cT w2 (Nf w w2) v' (p+q)):=by
 obtain⟨a,b,h1,rfl,h2,h3⟩:=hp;obtain⟨c,d,k1,rfl,k2,k3⟩:=hq;exact aBS hS h1 k1 h2 h3 k2 k3
theorem DC{v:Value}(hS:Old S w)(hp:sh w S v p)(hq:sh w S u q):eA PG N.yU #[v,u] w (eL w fun v' w2=>cT w2 (Nf w w2) v' (p*q)):=by
 obtain⟨a,b,h1,rfl,h2,h3⟩:=hp;obtain⟨c,d,k1,rfl,k2,k3⟩:=hq;exact aBT hS h1 k1 h2 h3 k2 k3
theorem aAa{v:Value}(hS:Old S w)(hp:sh w S v p)(hq:sh w S u q):eA PG N.yY #[v,u] w (eL w fun v' w2=>cT w2 (Nf w w2) v' (p-q)):=by
 obtain⟨a,b,h1,rfl,h2,h3⟩:=hp;obtain⟨c,d,k1,rfl,k2,k3⟩:=hq;exact aBU hS h1 k1 h2 h3 k2 k3
theorem Jw{v:Value}(hS:Old S w)(hp:sh w S v p)(hq:sh w S u q):eA PG N.yT #[v,u] w (eL w fun v' _=>v'= .int .i64 (rs (p-q))):=by
 obtain⟨a,b,h1,rfl,h2,h3⟩:=hp;obtain⟨c,d,k1,rfl,k2,k3⟩:=hq;exact aBV hS h1 k1 h2 h3 k2 k3
theorem aDF{v:Value}(hS:Old S w)(hp:sh w S v p)(hq:sh w S u q):eA PG N.yW #[v,u] w (eL w fun v' w2=>(q=0∧v'= .tuple #[DP,.int .i64 9])∨(q≠0∧∃r,v'= .tuple #[r,.int .i64 0]∧cT w2 (Nf w w2) r (p / q))):=by
 obtain⟨a,b,h1,rfl,h2,h3⟩:=hp;obtain⟨c,d,k1,rfl,k2,k3⟩:=hq;exact aBW hS h1 k1 h2 h3 k2 k3
end Go.Ex
namespace Go.Ex
theorem aCm(q:Rat):rs (-q)= -rs q:=by rw[rs,rs,Rat.neg_num,Int.sign_neg]
end Go.Ex
