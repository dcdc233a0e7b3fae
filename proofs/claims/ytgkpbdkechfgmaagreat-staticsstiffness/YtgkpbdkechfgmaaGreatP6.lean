/- Texts L8 to X55: lemmas, each with its conditions. -/
import Derived.Test.YtgkpbdkechfgmaaGreatP5
namespace Go.Ex
variable{ds:List Nat}
def dg:List Int->Int
 |[]=>0
 |c::r=>c+65536*dg r
def up(k:Nat):Int:=65536^k
theorem GO(k:Nat):up (k+1)=65536*up k:=by rw[up,Int.pow_succ,Int.mul_comm];rfl
theorem aAM(k:Nat):0<up k:=Int.pow_pos bi
theorem Dm(a b:List Int):dg (a++b)=dg a+up a.length*dg b:=by
 induction a with
 |nil=>simp[dg,up]
 |cons c r ih=>rw[List.cons_append,dg,ih,dg,bg,GO,Int.mul_add,<-Int.mul_assoc];omega
theorem KB(a:List Int):dg (a.map (- ·))= -dg a:=by
 induction a with
 |nil=>rfl
 |cons c r ih=>rw[List.map_cons,dg,ih,dg];omega
def Dg(l:List Nat):Prop:=∀d∈l,d<65536
def nW(l:List Nat):Int:=dg (l.map fun d:Nat=>(d:Int))
theorem CV{l:List Nat}(h:Dg l):0<=nW l/\nW l<up l.length:=by
 induction l with
 |nil=>exact⟨Int.le_refl _,bi⟩
 |cons d r ih=>
  have I:=ih fun x U=>h x (aB _ U);have G:=h d aH;have e:nW (d::r)=(d:Int)+65536*nW r:=rfl;rw[e,bg,GO];omega
def eB:List Int->Int->List Nat×Int
 |[],k=>([],k)
 |c::r,k=>(((c+k) % 65536).toNat::(eB r ((c+k) / 65536)).1,(eB r ((c+k) / 65536)).2)
theorem mW:∀(Z:List Int) (k:Int),dg Z+k=nW (eB Z k).1+up Z.length*(eB Z k).2/\Dg (eB Z k).1/\(eB Z k).1.length=Z.length
 |[],k=>⟨by simp[dg,eB,nW,up],by simp[eB,Dg],rfl⟩
 |c::r,k=>by
  obtain⟨I,G,h3⟩:=mW r ((c+k) / 65536);have h4:0<=(c+k) % 65536:=Int.emod_nonneg _ bi;have h5:(c+k) % 65536<65536:=Int.emod_lt_of_pos _ bi;have h6:=Int.mul_ediv_add_emod (c+k) 65536;refine⟨?_,fun d hd=>?_,by simp[eB,h3]⟩
  .have e:nW (eB (c::r) k).1=(((c+k) % 65536).toNat:Int)+65536*nW (eB r ((c+k) / 65536)).1:=rfl;have e2:(eB (c::r) k).2=(eB r ((c+k) / 65536)).2:=rfl;rw[e,e2,dg,bg,GO,Int.mul_assoc];omega
  .have e:(eB (c::r) k).1=((c+k) % 65536).toNat::(eB r ((c+k) / 65536)).1:=rfl;rw[e]at hd;rcases List.mem_cons.1 hd with rfl|hd
   .omega
   .exact G d hd
theorem GP(Z:List Int)(c k:Int):eB (Z++[c]) k=((eB Z k).1++[((c+(eB Z k).2) % 65536).toNat],(c+(eB Z k).2) / 65536):=by
 induction Z generalizing k with
 |nil=>rfl
 |cons d r ih=>simp only[List.cons_append,eB,ih]
theorem lS:∀(Z:List Int) (k:Int),(∀c∈Z,-1152921504606846976<=c/\c<=1152921504606846976)-> -1152921504606846976<=k->k<=1152921504606846976-> -1152921504606846976<=(eB Z k).2/\(eB Z k).2<=1152921504606846976
 |[],k,_,I,G=>⟨I,G⟩
 |c::r,k,h,I,G=>by
  have hc:=h c aH;exact lS r _ (fun x U=>h x (aB _ U)) be be
def dY(n:Nat):List Nat:=if h:n=0 then []else n % 65536::dY (n / 65536)
termination_by n
decreasing_by omega
theorem mX:dY 0=[]:=by rw[dY];rfl
theorem rp{n:Nat}(h:0<n):dY n=n % 65536::dY (n / 65536):=by
 rw[dY,dif_neg be]
theorem mY(n:Nat):nW (dY n)=n/\Dg (dY n):=by
 induction n using Nat.strongRecOn with
 |_ n ih=>
  rcases bZ n with h|h
  .subst h;rw[mX];exact⟨rfl,by simp[Dg]⟩
  .rw[rp h];obtain⟨I,G⟩:=ih (n / 65536) be;refine⟨?_,fun d hd=>?_⟩
   .have e:nW (n % 65536::dY (n / 65536))=((n % 65536:Nat):Int)+65536*nW (dY (n / 65536)):=rfl;rw[e,I];omega
   .rcases List.mem_cons.1 hd with rfl|hd
    .omega
    .exact G d hd
theorem kO{n:Nat}:∀{k:Nat},n<65536^k->(dY n).length<=k
 |0,h=>by
  have:n=0:=by simp at h;exact h
  subst this;rw[mX];simp
 |k+1,h=>by
  rcases bZ n with h0|h0
  .subst h0;rw[mX];simp
  .rw[rp h0,bg];have:=kO (n:=n / 65536) (k:=k) (by rw[Nat.pow_succ]at h;exact Nat.div_lt_of_lt_mul (by rw[bl];exact h));omega
def ia:List Nat->List Nat
 |[]=>[]
 |[a]=>[a]
 |a::b::r=>(a+65536*b)::ia r
theorem CW:∀(l:List Nat),Dg l->(val (ia l):Int)=nW l/\Lm (ia l)/\(ia l).length=(l.length+1) / 2
 |[],_=>⟨rfl,by simp[ia,Lm],rfl⟩
 |[a],h=>by
  have:=h a bv;exact⟨by simp[ia,val,nW,dg],fun x U=>by simp[ia]at U;omega,by simp[ia]⟩
 |a::b::r,h=>by
  obtain⟨I,G,h3⟩:=CW r fun x U=>h x (aB _ (aB _ U));have ha:=h a bv;have hb:=h b bv;refine⟨?_,fun x U=>?_,?_⟩
  .have e:nW (a::b::r)=(a:Int)+65536*((b:Int)+65536*nW r):=rfl;rw[e,<-I,ia,val];simp only[Int.natCast_add,Int.natCast_mul]
   omega
  .rw[ia]at U;rcases List.mem_cons.1 U with rfl|U
   .omega
   .exact G x U
  .rw[ia,bg,h3];simp only[bg]
   omega
def pk(ds:List Nat)(k:Nat):List Nat:=(List.range k).map fun i=>ds.getD (2*i) 0+65536*ds.getD (2*i+1) 0
theorem BG(ds:List Nat)(k:Nat):pk ds (k+1)=pk ds k++[ds.getD (2*k) 0+65536*ds.getD (2*k+1) 0]:=by simp[pk,bU]
theorem yc(ds:List Nat)(k:Nat):(pk ds k).length=k:=by simp[pk]
theorem aAN:∀(ds:List Nat),pk ds ((ds.length+1) / 2)=ia ds
 |[]=>rfl
 |[a]=>by simp[pk,ia,bU]
 |a::b::r=>by
  have ih:=aAN r;have e:((a::b::r).length+1) / 2=(r.length+1) / 2+1:=by simp only[bg];omega
  rw[e,ia,<-ih,pk,List.range_succ_eq_map,List.map_cons,List.map_map,pk];congr 1
theorem aAO(h:Dg ds)(k:Nat):Lm (pk ds k):=fun x U=>by
 obtain⟨i,_,rfl⟩:=aV.1 U;have key:∀j,ds.getD j 0<65536:=fun j=>by
  rw[List.getD]
  cases hj:ds[j]? with
  |none=>simp
  |some d=>simp;exact h d (aC hj)
 have I:=key (2*i);have G:=key (2*i+1);omega
end Go.Ex
namespace Go.Ex
open Go Go.Sx Go.Proofs
variable{Z:List Int}{S:Nat->Prop}{w:World}
def eS(w:World)(S:Nat->Prop)(v:Value)(Z:List Int):Prop:=j1 w S 1 v (Z.map (Value.int .i64)) Z.length
theorem eS.cR{Y:World}{v:Value}(h:eS w S v Z)(K:∀g,S g->Y.heap[g]? =w.heap[g]?):eS Y S v Z:=j1.cR h K
theorem eS.cP{S':Nat->Prop}{v:Value}(h:eS w S v Z)(K:∀g,S g->S' g):eS w S' v Z:=j1.cP h K
theorem eS.load{a:Option Addr}{n c j:Nat}{x:Int}(h:eS w S (.slice a n c) Z)(U:Z[j]? =some x):∃ad,a=some ad/\S ad.block/\w.cell? (ad.add (j*1))=some (iV x):=by
 obtain⟨_,_,_,a',c',e,_,h4⟩:=h;injection e with e1 e2 e3;subst e1;obtain⟨ad,k1,k2,k3⟩:=h4 j (iV x) (by rw[aO,U];rfl);exact⟨ad,k1,k2,by rw[aZ];exact k3⟩
theorem eS.shape{v:Value}(h:eS w S v Z):∃a c,v= .slice a Z.length c/\Z.length<=c:=by
 obtain⟨_,_,_,a',c',e,h3,_⟩:=h;exact⟨a',c',e,h3⟩
def ee(ds:List Nat):List Int:=ds.map fun d:Nat=>(d:Int)
theorem fV(ds:List Nat):(ee ds).length=ds.length:=by simp[ee]
end Go.Ex
namespace Go.Sx
open Go Go.Ex Go.Proofs
variable{Z:List Value}{O:Nat->Sx.eG}
theorem Rel.HJ{H:Hp}{nx:Nat}{iv:Iv}{B:Nat}{w J:World}(r:Rel H nx iv B w O J){id t m sz:Nat}(h:dU H id=some (.vec t sz Z))(hm:Z.length=m*sz)(hs:0<sz):
  J.ownsRow B t sz ((At.w id m).den O) m Z:=by
 rcases r.vec id t sz _ h with⟨W,rfl⟩|⟨W,spare,hb,hc,Qt⟩
 .have Uu:m=0:=by
   rcases bZ m with h|h
   .exact h
   .have:=Nat.mul_pos h hs;simp at hm;omega
  subst Uu;have:(At.w id 0).den O=nls:=by simp[At.den,W]
  rw[this];exact World.ownsRow_nil _ _ _ _
 .have hv:(At.w id m).den O= .slice (some ⟨(O id).g,0,none⟩) m (O id).cap:=by simp[At.den,W]
  have I:(Z++spare).length=Z.length+spare.length:=aQ;rw[hv];refine⟨hm,.inr ⟨(O id).g,(O id).cap,_,rfl,(r.low id _ h W).1,hb,?_,Qt,by simpa using hc,?_⟩⟩
  .have G:m*sz<=(O id).cap*sz:=by omega
   exact cL G hs
  .rw[<-hm];simp
end Go.Sx
namespace Go.Ex
open Go Go.Sx Go.Proofs
theorem JN(n:Nat)(w:World)(W:n<=9223372036854775807):eH PG GT.xQ #[iV n] w (eR w fun v Y=>eS Y (Nf w Y) v (ee (dY n))):=by
 refine Am bv ?_
 refine⟨Nat×List Nat×World,fun z=>⟨[(0,iZ z.1),(3,.o (.w 0 z.2.1.length))],[(0,.vec T.int 1 ((ee z.2.1).map (Value.int .i64)))],1,[],z.2.2⟩,fun z=>z.1,
  fun z=>Bq w z.2.2/\z.1<=n/\z.2.1.length<=n-z.1/\z.2.1++dY z.1=dY n,?_,?_⟩
 .intro O J r
  exact⟨(n,[],J),⟨r.cZ,lr,bv,bv⟩,Sub.nil 3 T.int 1 rfl (by simp[kK,SV.sc,At.sc,fc]) r fun In r1=>
   sbgn [] r1⟩
 rintro⟨k,ds,w1⟩ ⟨V,K,hl,hs⟩;dsimp only at V K hl hs ⊢;have SU:=fV ds;apply bS<;>intro h
 .have h:0<k:=by
   have:(k:Int)>0:=aK h;omega
  refine⟨bi,((k % 65536:Nat):Int),aBP k 65536,?_⟩;refine .inl ?_;refine⟨by simp[SU],?_,by have I:=congrArg List.length hs;rw[aQ]at I;have G:=kO (n:=n) (k:=4) be;unfold maxLen;omega,?_⟩
  .have I:=congrArg List.length hs;rw[aQ]at I;have G:=kO (n:=n) (k:=4) be;omega
  refine⟨bi,((k / 65536:Nat):Int),aCN be,?_⟩;intro I' w3 R;have hl5:(ds++[k % 65536]).length=ds.length+1:=by simp
  have VH:(ee (ds++[k % 65536])).map (Value.int .i64)=(ee ds).map (Value.int .i64)++[iV ((k % 65536:Nat):Int)]:=by simp[ee]
  refine⟨(k / 65536,ds++[k % 65536],w3),⟨V.tr R.cZ,by dsimp only;omega,by dsimp only;rw[hl5];omega,?_⟩,
   sbgn [(0,2)] R ⟨by rw[VH];rfl,trivial⟩ ⟨rfl,by dsimp only;rw[hl5];rfl,trivial⟩,by dsimp only;omega⟩
  dsimp only
  rw[<-hs,rp h];simp
 .have h:k=0:=by
   have:¬(k:Int)>0:=aG h;omega
  subst h;rw[mX,List.append_nil]at hs;subst hs;intro J8 we re;refine⟨_,rfl,V.tr re.cZ,?_⟩;have:=re.iD (id:=0) (sz:=1) (m:=(dY n).length) rfl (by simp[SU]) (by have G:=kO (n:=n) (k:=4) be;unfold maxLen;omega) bi (by intro u hu;simp at hu;obtain⟨_,_,rfl⟩:=hu;rfl);unfold eS;rw[SU];exact this.cP fun g X=>.inr X
variable{Z:List Int}{S:Nat->Prop}
theorem zP(n:Int):(n.tmod 65536<0->n % 65536=n.tmod 65536+65536)/\(¬n.tmod 65536<0->n % 65536=n.tmod 65536)/\ -65536<n.tmod 65536/\n.tmod 65536<65536:=by
 by_cases h:0<=n
 .rw[Int.tmod_eq_emod_of_nonneg h];omega
 .have I:n.tmod 65536= -((-n) % 65536):=by
   have:n= -(-n):=by omega
   conv=>lhs;rw[this]
   rw[Int.neg_tmod,Int.tmod_eq_emod_of_nonneg be]
  rw[I];omega
theorem Fb(n:Int):(n-n % 65536).tdiv 65536=n / 65536:=by
 have h:n-n % 65536=65536*(n / 65536):=by omega
 rw[h,Int.mul_tdiv_cancel_left _ bi]
theorem Fe{w:World}{v:Value}(F:Old S w)(h:eS w S v Z)(hb:∀c∈Z,-1152921504606846976<=c/\c<=1152921504606846976)(hl:Z.length<=1000000000):
  eH PG GT.uM #[v] w (eR w fun v' Y=>∃o,v'= .tuple #[o,iV (eB Z 0).2]/\Y.ownsRow w.heap.size T.int 1 o Z.length ((ee (eB Z 0).1).map (Value.int .i64))):=by
 obtain⟨a,c,rfl,hc⟩:=h.shape;refine zC bv ?_
 refine⟨Nat×World,fun z=>⟨[(0,sV a Z.length c),(4,.o (.w 0 z.1)),(5,.o (.v (iV (eB (Z.take z.1) 0).2))),(6,iZ z.1)],[(0,.vec T.int 1 ((ee (eB (Z.take z.1) 0).1).map (Value.int .i64)))],1,[],z.2⟩,fun z=>Z.length-z.1,
  fun z=>Bq w z.2/\z.1<=Z.length,?_,?_⟩
 .intro O J r
  exact⟨(0,J),⟨r.cZ,bv⟩,Sub.nil 4 T.int 1 rfl (by simp[kK,SV.sc,At.sc,fc]) r fun In r1=>
   sbgn [] r1⟩
 rintro⟨i,w1⟩ ⟨V,D⟩;dsimp only at V D ⊢;obtain⟨-,hdg,hlen⟩:=mW (Z.take i) 0;have TK:((ee (eB (Z.take i) 0).1).map (Value.int .i64)).length=i:=by rw[aL,fV,hlen,ah];omega
 obtain⟨hk1,Vv⟩:=lS (Z.take i) 0 (fun c hc=>hb c (bq hc)) bi bi;have hR:eS w1 S (.slice a Z.length c) Z:=eS.cR h fun g X=>V.block g (F g X);apply bS<;>intro h
 .have h:=dL h;obtain⟨x,U⟩:=gO Z i;obtain⟨Sq,RX⟩:=hb x (aC U);obtain⟨ad,rfl,q1,q2⟩:=hR.load U;have WK:Z.take (i+1)=Z.take i++[x]:=by rw[bB,U];rfl
  have Tc:=GP (Z.take i) x 0;rw[<-WK]at Tc;generalize (eB (Z.take i) 0).1=ds at*
  generalize (eB (Z.take i) 0).2=k at*
  obtain⟨t1,t2,t3,t4⟩:=zP (x+k);have hem1:=Int.emod_nonneg (x+k) (show (65536:Int)≠0 by decide);have hem2:=Int.emod_lt_of_pos (x+k) (show (0:Int)<65536 by decide);refine⟨ad,rfl,be,iV x,fun O J r=>?_,?_⟩
  .rw[aF,cV (w:=w1) (Y:=J) (by rw[dO];exact rls (S:=S) r F (.inl q1))];exact q2
  refine⟨x+k,wo,bi,(x+k).tmod 65536,rfl,?_⟩;apply bS<;>intro SJ
  .have SJ:=t1 (aK SJ);refine⟨(x+k) % 65536,by rw[SJ,wrap64]<;>omega,x+k-(x+k) % 65536,wo,bi,(x+k) / 65536,by rw[Fb,wrap64]<;>omega,?_⟩;refine .inl ?_;refine⟨by rw[TK,aZ],be,mx,((i+1:Nat):Int),wo,?_⟩;intro I' w3 R;have VH:(ee (eB (Z.take (i+1)) 0).1).map (Value.int .i64)=(ee ds).map (Value.int .i64)++[iV ((x+k) % 65536)]:=by
    rw[Tc];simp[ee,Int.toNat_of_nonneg hem1]
   have hk5:(eB (Z.take (i+1)) 0).2=(x+k) / 65536:=by rw[Tc]
   exact⟨(i+1,w3),⟨V.tr R.cZ,by dsimp only;omega⟩,sbgn [(0,2)] R ⟨by dsimp only;rw[VH];rfl,trivial⟩ ⟨rfl,rfl,by dsimp only;rw[hk5];rfl,rfl,trivial⟩,by dsimp only;omega⟩
  .have SJ:=t2 (aG SJ);rw[<-SJ];refine⟨x+k-(x+k) % 65536,wo,bi,(x+k) / 65536,by rw[Fb,wrap64]<;>omega,?_⟩;refine .inl ?_;refine⟨by rw[TK,aZ],be,mx,((i+1:Nat):Int),wo,?_⟩;intro I' w3 R;have VH:(ee (eB (Z.take (i+1)) 0).1).map (Value.int .i64)=(ee ds).map (Value.int .i64)++[iV ((x+k) % 65536)]:=by
    rw[Tc];simp[ee,Int.toNat_of_nonneg hem1]
   have hk5:(eB (Z.take (i+1)) 0).2=(x+k) / 65536:=by rw[Tc]
   exact⟨(i+1,w3),⟨V.tr R.cZ,by dsimp only;omega⟩,sbgn [(0,2)] R ⟨by dsimp only;rw[VH];rfl,trivial⟩ ⟨rfl,rfl,by dsimp only;rw[hk5];rfl,rfl,trivial⟩,by dsimp only;omega⟩
 .have h:i=Z.length:=by
   have:¬i<Z.length:=by simpa using h
   omega
  subst h;rw[bN]at TK ⊢;exact rtn V fun J8 we re=>⟨_,rfl,re.HJ (id:=0) rfl (by rw[TK,aZ]) bi⟩
end Go.Ex
namespace Go.Sx
open Go Go.Ex Go.Proofs
variable{ls:List Nat}{O:Nat->Sx.eG}
theorem Rel.aBQ{H:Hp}{nx:Nat}{iv:Iv}{B:Nat}{w J:World}(r:Rel H nx iv B w O J){id t m:Nat}(h:dU H id=some (.vec t 1 (EQ ls)))(hm:m<=ls.length)(QO:Lm ls)(hle:ls.length<=9223372036854775807):
  dc J (fun g=>B<=g/\g<J.heap.size) ((At.w id m).den O) (ls.take m):=by
 have PY:(ls.take m).length=m:=by rw[ah];omega
 rcases r.vec id t 1 _ h with⟨W,hu⟩|⟨W,spare,hb,hc,Qt⟩
 .have hl:ls=[]:=by cases ls with
   |nil=>rfl
   |cons a b=>simp[EQ]at hu
  subst hl;simp at hm;subst hm;have:(At.w id 0).den O=nls:=by simp[At.den,W]
  rw[this];exact dc.nil _ _
 .refine⟨QO.take m,by rw[PY];omega,some ⟨(O id).g,0,none⟩,(O id).cap,by rw[PY];simp[At.den,W],?_,fun j x U=>⟨_,rfl,r.low id _ h W,?_⟩⟩
  .have I:(EQ ls++spare).length=ls.length+spare.length:=by rw[aQ,iC]
   rw[PY];omega
  .rw[List.getElem?_take]at U;split at U
   .rw[dX,cell_of hb,aW,aI (by rw[iC];exact(aE.1 U).1)];exact xf U
   .cases U
end Go.Sx
namespace Go.Ex
open Go Go.Sx Go.Proofs
section
variable{ds ls:List Nat}{S:Nat->Prop}
theorem Kv{n:Nat}(_hn:n<ls.length)(h0:ls[n]? =some 0):eM (ls.take (n+1))=eM (ls.take n):=by
 rw[bB,h0];exact mB _
theorem Kw{n x:Nat}(h0:ls[n]? =some x)(U:x≠0):eM (ls.take (n+1))=ls.take (n+1):=by
 rw[bB,h0];exact pj _ U
theorem JO{w:World}{v:Value}(F:Old S w)(h:eS w S v (ee ds))(hd:Dg ds)(hl:ds.length<=1000000000):
  eH PG GT.xP #[v] w (eR w fun v' Y=>∃lv,v'= .agg #[.bool false,lv]/\dc Y (Nf w Y) lv (eM (ia ds))):=by
 obtain⟨a,c,rfl,hc⟩:=h.shape;rw[fV]at hc h ⊢;refine Al bv ?_
 refine⟨Nat×World,fun z=>match z.1 with
   |0=>⟨[(0,sV a ds.length c),(2,pP 0 0),(3,pP 1 0),(4,iZ 0)],[(1,.box T.Int [.v (.bool false),.v nls]),(0,.box T.Int [.v (.bool false),.v nls])],2,[],z.2⟩
   |k+1=>⟨[(0,sV a ds.length c),(2,pP 0 0),(3,pP 1 0),(4,.o (.v (iV ((2*(k+1):Nat):Int))))],[(2,.vec T.uint32 1 (EQ (pk ds (k+1)))),(1,.box T.Int [.v (.bool false),.w 2 (k+1)]),(0,.box T.Int [.v (.bool false),.v nls])],3,[],z.2⟩,
  fun z=>ds.length-z.1,fun z=>Bq w z.2/\2*z.1<=ds.length+1,?_,?_⟩
 .intro O J r;exact⟨(0,J),⟨r.cZ,bv⟩,sbgn [] r⟩
 rintro⟨k,w1⟩ ⟨V,D⟩;dsimp only at V D;have hR:eS w1 S (.slice a ds.length c) (ee ds):=eS.cR h fun g X=>V.block g (F g X)
 cases k with
 |zero=>
  apply bS<;>intro I
  .have I:0<ds.length:=by
    have:=aK I;omega
   obtain⟨d0,Yq⟩:=gO ds 0;have hd0b:=hd d0 (aC Yq);have Uh:ds.getD (2*0) 0=d0:=by show ds.getD 0 0=d0;rw[List.getD,Yq];rfl
   obtain⟨ad,rfl,q1,q2⟩:=hR.load (j:=0) (x:=(d0:Int)) (by rw[ee,aO,Yq];rfl);refine⟨ad,rfl,be,iV (d0:Int),fun O J r=>?_,?_⟩
   .show J.cell? (ad.add (0*1))=_;rw[cV (w:=w1) (Y:=J) (by rw[dO];exact rls (S:=S) r F (.inl q1))];exact q2
   refine inc 0 ?_;apply bS<;>intro G
   .have G:0+1<ds.length:=by
     have:=aK G;omega
    obtain⟨d1,Rh⟩:=gO ds (0+1);have hd1b:=hd d1 (aC Rh);have Uj:ds.getD (2*0+1) 0=d1:=by show ds.getD (0+1) 0=d1;rw[List.getD,Rh];rfl
    obtain⟨_,PU,q3,q4⟩:=hR.load (j:=0+1) (x:=(d1:Int)) (by rw[ee,aO,Rh];rfl);injection PU with PU;subst PU;refine⟨((0+1:Nat):Int),wo,ad,rfl,be,iV (d1:Int),fun O J r=>?_,?_⟩
    .show J.cell? (ad.add ((0+1)*1))=_;rw[cV (w:=w1) (Y:=J) (by rw[dO];exact rls (S:=S) r F (.inl q3))];exact q4
    refine⟨((65536*d1:Nat):Int),wo,((d0+65536*d1:Nat):Int),wo,?_⟩;have Tf:=BG ds 0;rw[Uh,Uj]at Tf;generalize d0+65536*d1=dd at*
    have YG:dd<4294967296:=aAO hd (0+1) dd (by rw[Tf];simp);refine⟨(dd:Int),by rw[Aw]<;>omega,?_⟩;refine .inl ?_;refine⟨be,mx,((2*(0+1):Nat):Int),wo,?_⟩;intro I' w3 R;have hU:EQ (pk ds (0+1))=EQ (pk ds 0)++[.int .u32 (dd:Int)]:=by rw[Tf];simp[EQ]
    exact⟨(0+1,w3),⟨V.tr R.cZ,by dsimp only;omega⟩,sbgn [(2,3)] R ⟨by dsimp only;rw[hU];rfl,rfl,rfl,trivial⟩,by dsimp only;omega⟩
   .have G:0+1=ds.length:=by
     have:=aG G;omega
    have Uj:ds.getD (2*0+1) 0=0:=by show ds.getD (0+1) 0=0;rw[List.getD,List.getElem?_eq_none be];rfl
    have Tf:=BG ds 0;rw[Uh,Uj]at Tf;obtain⟨dd,hdde⟩:∃dd,dd=d0:=⟨_,rfl⟩
    rw[<-hdde]at Tf ⊢;have YG:dd<4294967296:=by omega
    rw[show dd+65536*0=dd by omega]at Tf;refine⟨(dd:Int),by rw[Aw]<;>omega,?_⟩;refine .inl ?_;refine⟨be,mx,((2*(0+1):Nat):Int),wo,?_⟩;intro I' w3 R;have hU:EQ (pk ds (0+1))=EQ (pk ds 0)++[.int .u32 (dd:Int)]:=by rw[Tf];simp[EQ]
    exact⟨(0+1,w3),⟨V.tr R.cZ,by dsimp only;omega⟩,sbgn [(2,3)] R ⟨by dsimp only;rw[hU];rfl,rfl,rfl,trivial⟩,by dsimp only;omega⟩
  .have I:ds=[]:=by
    have:=aG I;exact List.eq_nil_of_length_eq_zero be
   subst I;refine⟨World,fun z=>⟨[(2,pP 0 0),(3,pP 1 0),(6,iZ 0)],[(1,.box T.Int [.v (.bool false),.v nls]),(0,.box T.Int [.v (.bool false),.v nls])],2,[],z⟩,fun _=>0,fun z=>Bq w z,?_,?_⟩
   .intro O J r;exact⟨J,V.tr r.cZ,sbgn [] r⟩
   intro Y V;dsimp only at V ⊢;refine⟨⟨bi,bi,bi⟩,none,0,0,cs,cs,cs,?_⟩;exact rtn V fun J8 we re=>⟨_,rfl,dc.nil _ _⟩
 |succ k=>
  apply bS<;>intro I
  .have I:(2*(k+1))<ds.length:=by
    have:=aK I;omega
   obtain⟨d0,Yq⟩:=gO ds ((2*(k+1)));have hd0b:=hd d0 (aC Yq);have Uh:ds.getD (2*(k+1)) 0=d0:=by show ds.getD (2*(k+1)) 0=d0;rw[List.getD,Yq];rfl
   obtain⟨ad,rfl,q1,q2⟩:=hR.load (j:=(2*(k+1))) (x:=(d0:Int)) (by rw[ee,aO,Yq];rfl);refine⟨ad,rfl,be,iV (d0:Int),fun O J r=>?_,?_⟩
   .show J.cell? (ad.add ((2*(k+1))*1))=_;rw[cV (w:=w1) (Y:=J) (by rw[dO];exact rls (S:=S) r F (.inl q1))];exact q2
   refine⟨(((2*(k+1))+1:Nat):Int),wo,?_⟩;apply bS<;>intro G
   .have G:(2*(k+1))+1<ds.length:=by
     have:=aK G;omega
    obtain⟨d1,Rh⟩:=gO ds ((2*(k+1))+1);have hd1b:=hd d1 (aC Rh);have Uj:ds.getD (2*(k+1)+1) 0=d1:=by show ds.getD ((2*(k+1))+1) 0=d1;rw[List.getD,Rh];rfl
    obtain⟨_,PU,q3,q4⟩:=hR.load (j:=(2*(k+1))+1) (x:=(d1:Int)) (by rw[ee,aO,Rh];rfl);injection PU with PU;subst PU;refine⟨(((2*(k+1))+1:Nat):Int),wo,ad,rfl,be,iV (d1:Int),fun O J r=>?_,?_⟩
    .show J.cell? (ad.add (((2*(k+1))+1)*1))=_;rw[cV (w:=w1) (Y:=J) (by rw[dO];exact rls (S:=S) r F (.inl q3))];exact q4
    refine⟨((65536*d1:Nat):Int),wo,((d0+65536*d1:Nat):Int),wo,?_⟩;have Tf:=BG ds (k+1);rw[Uh,Uj]at Tf;generalize d0+65536*d1=dd at*
    have YG:dd<4294967296:=aAO hd ((k+1)+1) dd (by rw[Tf];simp);refine⟨(dd:Int),by rw[Aw]<;>omega,?_⟩;refine .inl ?_;refine⟨by rw[iC,yc];omega,be,mx,((2*((k+1)+1):Nat):Int),wo,?_⟩;intro I' w3 R;have hU:EQ (pk ds ((k+1)+1))=EQ (pk ds (k+1))++[.int .u32 (dd:Int)]:=by rw[Tf];simp[EQ]
    exact⟨((k+1)+1,w3),⟨V.tr R.cZ,by dsimp only;omega⟩,sbgn [(2,4)] R ⟨by dsimp only;rw[hU];rfl,rfl,rfl,trivial⟩,by dsimp only;omega⟩
   .have G:(2*(k+1))+1=ds.length:=by
     have:=aG G;omega
    have Uj:ds.getD (2*(k+1)+1) 0=0:=by show ds.getD ((2*(k+1))+1) 0=0;rw[List.getD,List.getElem?_eq_none be];rfl
    have Tf:=BG ds (k+1);rw[Uh,Uj]at Tf;obtain⟨dd,hdde⟩:∃dd,dd=d0:=⟨_,rfl⟩
    rw[<-hdde]at Tf ⊢;have YG:dd<4294967296:=by omega
    rw[show dd+65536*0=dd by omega]at Tf;refine⟨(dd:Int),by rw[Aw]<;>omega,?_⟩;refine .inl ?_;refine⟨by rw[iC,yc];omega,be,mx,((2*((k+1)+1):Nat):Int),wo,?_⟩;intro I' w3 R;have hU:EQ (pk ds ((k+1)+1))=EQ (pk ds (k+1))++[.int .u32 (dd:Int)]:=by rw[Tf];simp[EQ]
    exact⟨((k+1)+1,w3),⟨V.tr R.cZ,by dsimp only;omega⟩,sbgn [(2,4)] R ⟨by dsimp only;rw[hU];rfl,rfl,rfl,trivial⟩,by dsimp only;omega⟩
  .have I:ds.length<=2*(k+1):=by
    have:=aG I;omega
   have K:k+1=(ds.length+1) / 2:=by omega
   have Tf:pk ds (k+1)=ia ds:=by rw[K];exact aAN ds
   have hlen:=yc ds (k+1);have QO:=aAO hd (k+1);rw[<-Tf];obtain⟨ls,hls⟩:∃ls,ls=pk ds (k+1):=⟨_,rfl⟩
   rw[<-hls]at hlen QO ⊢
   refine⟨by show(EQ (pk ds (k+1))).length=_;rw[<-hls,iC,hlen];simp,Nat×World,fun z=>⟨[(2,pP 0 0),(3,pP 1 0),(6,iZ z.1)],[(2,.vec T.uint32 1 (EQ ls)),(1,.box T.Int [.v (.bool false),.w 2 (k+1)]),(0,.box T.Int [.v (.bool false),.v nls])],3,[],z.2⟩,fun z=>z.1,
    fun z=>Bq w z.2/\z.1<=k+1/\eM (ls.take z.1)=eM ls,?_,?_⟩
   .intro O J r;exact⟨(k+1,J),⟨V.tr r.cZ,lr,by dsimp only;rw[List.take_of_length_le be]⟩,sbgn [] r ⟨by dsimp only;rw[hls];rfl,rfl,rfl,trivial⟩⟩
   rintro⟨n,Y⟩ ⟨V,W,htr⟩;dsimp only at V W htr ⊢
   cases n with
   |zero=>
    refine⟨by rw[iC,hlen];simp,⟨be,be⟩,0,cs,?_⟩;intro J8 we re;refine⟨_,rfl,V.tr re.cZ,_,rfl,?_⟩;have:=re.aBQ (id:=2) (m:=0) rfl (aR _) QO be;rw[<-htr];exact this.cP fun g X=>.inr X
   |succ n=>
    obtain⟨x,U⟩:=gO ls n;refine tG.mk (fun hp=>?_) (fun hp=>absurd (aG hp) be);refine⟨(n:Int),wo,by rw[iC,hlen];simp,be,.int .u32 (x:Int),by simpa using xf U,?_⟩;apply bS<;>intro h0
    .have h0:x=0:=by have:=eq_of_beq h0;omega
     subst h0;refine⟨(n:Int),wo,?_⟩;intro I' w3 R;exact⟨(n,w3),⟨V.tr R.cZ,by dsimp only;omega,by dsimp only;rw[<-htr,Kv be U]⟩,sbgn [] R,by dsimp only;omega⟩
    .have h0:x≠0:=fun e=>by rw[e]at h0;exact absurd h0 bi
     refine⟨by rw[iC,hlen];simp,⟨be,be⟩,n+1,cs,?_⟩;intro J8 we re;refine⟨_,rfl,V.tr re.cZ,_,rfl,?_⟩;have:=re.aBQ (id:=2) (m:=n+1) rfl be QO be;rw[<-htr,Kw U h0];exact this.cP fun g X=>.inr X
end
variable{H:Hp}{z:Int}{iv:Iv}{Z:List Int}{b ds ls:List Nat}{xs:List Value}{B i nx:Nat}{S:Nat->Prop}{O:Nat->Sx.eG}{a2:Option Addr}{q:Rat}{u:Value}{w J:World}
theorem yE{Y:World}{v v':Value}(hc:Ge iv v)(r:Rel H nx iv B w O J)(Rg:∀g,v'.ownBlock=some g->g<Y.heap.size/\(v.ownBlock=some g\/g=J.heap.size)):
  ∀lo D,(lo,D)∈jb v'->D<=Y.heap.size/\∀id b,dU H id=some b->(O id).nil=false->¬(lo<=(O id).g/\(O id).g<D):=fun lo D hm=>by
 obtain⟨X,rfl⟩:=tY.1 hm;obtain⟨I,G⟩:=Rg _ X;refine⟨be,fun id c hc' W L=>?_⟩;rcases G with G|G
 .exact hc.not r G id c hc' W be
 .have:=(r.low id c hc' W).2;omega
theorem dc.out{w1:World}{v:Value}(h:dc w1 (Cv S w.heap.size iv) v ls)(r:Rel H nx iv w.heap.size w1 O J)(F:Old S w):dc J (Nw S w J) v ls:=
 (dc.rel h r F).cP fun _ X=>Cv.nw X r
theorem MJ{B' e sz m:Nat}{v:Value}(h:w.ownsRow B e sz v m xs)(hb:B'<=B):w.ownsRow B' e sz v m xs:=⟨h.1,h.2.imp id fun⟨g,cap,cur,k1,k2,k3⟩=>⟨g,cap,cur,k1,be,k3⟩⟩
theorem yF(a b:List Nat):ee (a++b)=ee a++ee b:=by simp[ee]
theorem tc{m:Nat}{v:Value}(h:w.ownsRow B T.int 1 v m (Z.map (Value.int .i64)))(hm:m=Z.length)(hl:m<=maxLen):eS w (fun g=>v.ownBlock=some g) v Z:=by
 subst hm;rcases h.2 with⟨rfl,h0⟩|⟨g,cap,cur,rfl,hb,hc,WN,Qt,PR,Rq⟩
 .have:Z=[]:=List.eq_nil_of_length_eq_zero h0;subst this;exact⟨by simp[maxLen],bv,bv,none,0,rfl,lr,bv⟩
 .refine⟨hl,h.1,fun u hu=>by simp at hu;obtain⟨_,_,rfl⟩:=hu;rfl,_,cap,rfl,WN,fun j u hu=>⟨_,rfl,rfl,?_⟩⟩;exact h.cells (g:=g) rfl j u hu
theorem Dg.append{a:List Nat}(ha:Dg a)(hb:Dg b):Dg (a++b):=fun x U=>(bG.1 U).elim (ha x) (hb x)
theorem AH(a b:List Nat):nW (a++b)=nW a+up a.length*nW b:=by
 unfold nW;rw[a9,Dm,aL]
theorem D6(hd:Dg ds):Nz (eM (ia ds))/\(val (eM (ia ds)):Int)=nW ds:=by
 obtain⟨I,G,_⟩:=CW ds hd;obtain⟨k1,k2,_⟩:=fX (ia ds);exact⟨k2,by rw[k1,I]⟩
theorem zQ{v:Value}(F:Old S w)(h:eS w S v Z)(hb:∀c∈Z,-1152921504606846976<=c/\c<=1152921504606846976)(hl:Z.length<=100000000):
  eH PG GT.lT #[v] w (eR w fun v' Y=>db Y (Nf w Y) v' (dg Z)):=by
 obtain⟨a,c,rfl,hc⟩:=h.shape;obtain⟨Yr,hdg,SU⟩:=mW Z 0;obtain⟨hk1,Vv⟩:=lS Z 0 hb bi bi;rw[Int.add_zero]at Yr;refine yx bv ?_;refine cQ (cU (J9:=fun _ J v' Y=>∃o,v'= .tuple #[o,iV (eB Z 0).2]/\Y.ownsRow J.heap.size T.int 1 o Z.length ((ee (eB Z 0).1).map (Value.int .i64))) (fun O J r=>Fe (oS F r) (eS.cR h fun g X=>rls (S:=S) r F (.inl X)) hb be) ?_);rintro O wa v1 wb r L V ⟨o,rfl,Ov⟩;have RG:Ge [(wa.heap.size,wb.heap.size)] o:=fun g X=>⟨_,_,bK.2 rfl,(ownsRow.low Ov g X).1,(ownsRow.low Ov g X).2⟩
 replace Ov:=MJ Ov r.dA;generalize [(wa.heap.size,wb.heap.size)]=iv at*
 generalize WJ:(eB Z 0).1=ds at*
 generalize K:(eB Z 0).2=k at*
 obtain⟨ao,co,rfl,hco⟩:=ie Ov;apply bS<;>intro SJ
 .have SJ:=aK SJ;have hV:dg Z<0:=by
   have I:=(CV hdg).2;rw[SU]at I;have G:=aAM Z.length;have h3:up Z.length*k<=up Z.length*(-1):=Int.mul_le_mul_of_nonneg_left be be;omega
  obtain⟨Wz,Ys,hdl2⟩:=mW (Z.map (- ·)) 0;have RW:∀c∈Z.map (- ·),-1152921504606846976<=c/\c<=1152921504606846976:=fun c hc=>by
   obtain⟨x,U,rfl⟩:=aV.1 hc;have:=hb x U;omega
  obtain⟨hk1',hk2'⟩:=lS (Z.map (- ·)) 0 RW bi bi;rw[Int.add_zero,KB,aL]at Wz;rw[aL]at hdl2;have Sc:0<=(eB (Z.map (- ·)) 0).2:=by
   have I:=(CV Ys).2;rw[hdl2]at I;have G:=aAM Z.length;apply Decidable.byContradiction;intro h3;have h4:up Z.length*(eB (Z.map (- ·)) 0).2<=up Z.length*(-1):=Int.mul_le_mul_of_nonneg_left be be;omega
  refine⟨Nat×World,fun z=>⟨[(0,sV a Z.length c),(2,pP 0 0),(3,sV ao Z.length co),(5,iZ z.1)],[(0,.box T.Int [.v (.bool false),.v nls])],1,iv,z.2⟩,fun z=>Z.length-z.1,
   fun z=>z.1<=Z.length/\Bq w z.2/\z.2.ownsRow w.heap.size T.int 1 (.slice ao Z.length co) Z.length (((Z.take z.1).map (- ·)++(ee ds).drop z.1).map (Value.int .i64)),?_,?_⟩
  .intro O J r;exact⟨(0,J),⟨bv,V.tr r.cZ,by simpa using jZ Ov RG r⟩,sbgn [] r⟩
  rintro⟨i,w1⟩ ⟨D,V,Ov⟩;dsimp only at D V Ov ⊢;have hR:eS w1 S (.slice a Z.length c) Z:=eS.cR h fun g X=>V.block g (F g X);apply bS<;>intro Ou
  .have Ou:=dL Ou;obtain⟨x,U⟩:=gO Z i;obtain⟨Sq,RX⟩:=hb x (aC U);obtain⟨ad,rfl,q1,q2⟩:=hR.load U;obtain⟨go,hgo⟩:∃g,ao=some ⟨g,0,none⟩:=by
    rcases Ov.2 with⟨_,h0⟩|⟨g,cap,cur,e,_⟩
    .omega
    .injection e with e;exact⟨g,e⟩
   subst hgo;refine⟨ad,rfl,be,iV x,fun O J r=>?_,?_⟩
   .rw[aF,cV (w:=w1) (Y:=J) (by rw[dO];exact rls (S:=S) r F (.inl q1))];exact q2
   refine⟨-x,wo,⟨go,0,none⟩,rfl,be,?_⟩;intro O J r;have TL:=jZ Ov RG r;obtain⟨g',Sg,Oz,Qm,PF,PR⟩:=lZ (nv:=[iV (-x)]) TL rfl Ou rfl bi;injection Sg with Sg;injection Sg with Sg;subst Sg;rw[Gd (by rw[aL,aQ,aL,ah,List.length_drop,fV,SU];omega)]at Qm;have PU:(⟨go,0,none⟩:Addr).add ((i:Int).toNat*1)=⟨go,i*1,none⟩:=by rw[aF,dX,aW]
   have Qg:=fun id b hb W=>RG.not r (b:=go) rfl id b hb W;have hgoB:=(ownsRow.low Ov go rfl).1;have hw':Bq w (setCells J ⟨go,i*1,none⟩ [iV (-x)]):=(V.tr r.cZ).tr (ju.grown PF (fun g X=>by injection X with X;subst X;exact hgoB) r.dA);have hlist:(((Z.take i).map (- ·)++(ee ds).drop i).map (Value.int .i64)).set i (iV (-x))=((Z.take (i+1)).map (- ·)++(ee ds).drop (i+1)).map (Value.int .i64):=by
    rw[<-List.map_set];congr 1;have Qe:((Z.take i).map (- ·)).length=i:=by rw[aL,ah];omega
    obtain⟨d,hd⟩:∃d,(ee ds)[i]? =some d:=⟨_,aD (by rw[fV,SU];exact Ou)⟩
    have Pc:(ee ds).drop i=d::(ee ds).drop (i+1):=by
     rw[List.drop_eq_getElem_cons (by rw[fV,SU];exact Ou)];congr 1;have:=aD (l:=ee ds) (i:=i) (by rw[fV,SU];exact Ou);rw[hd]at this;injection this with this;exact this.symm
    rw[bB,U,a9,Pc,List.set_append_right _ _ be,Qe,bO];simp
   refine⟨by rw[PU],fun j hj=>by rw[PU];exact Oz j hj,fun id b hb W=>by rw[PU];exact Qg id b hb W,fun Y Pf=>?_⟩;have Pf:Y=setCells J ⟨go,i*1,none⟩ [iV (-x)]:=by rw[Pf];exact congrArg (fun x=>setCells J x _) PU
   rw[<-Pf]at Qm hw'
   erw [hlist]at Qm
   refine inc i ?_;intro I' w3 R;exact⟨(i+1,w3),⟨Ou,hw'.tr R.cZ,jZ Qm RG R⟩,sbgn [] R,dec Ou⟩
  have Ou:i=Z.length:=by
   have:¬i<Z.length:=by simpa using Ou
   omega
  subst Ou;rw[bN,List.drop_of_length_le (by rw[fV,SU];exact aP _),List.append_nil]at Ov;refine⟨⟨be,be,be⟩,ao,Z.length,co,I8 ao co,be,be,?_⟩;refine cQ (cU (J9:=fun _ J v' Y=>∃o,v'= .tuple #[o,iV (eB (Z.map (- ·)) 0).2]/\Y.ownsRow J.heap.size T.int 1 o Z.length ((ee (eB (Z.map (- ·)) 0).1).map (Value.int .i64))) (fun O J r=>?_) ?_)
  .have h8:=jZ Ov RG r;have h9:=tc h8 (by rw[aL]) mx;have h10:=Fe (fun g X=>(ownsRow.low h8 g X).2) h9 RW (by rw[aL];omega);rw[aL]at h10;exact h10
  rintro O wc v1 wd r L PO ⟨o2,rfl,QJ⟩;have Re:Ge ((wc.heap.size,wd.heap.size)::iv) o2:=fun g X=>⟨_,_,aH,(ownsRow.low QJ g X).1,(ownsRow.low QJ g X).2⟩
  replace QJ:=MJ QJ r.dA;replace V:=V.tr PO;generalize (wc.heap.size,wd.heap.size)::iv=Oy at*
  generalize hds2:(eB (Z.map (- ·)) 0).1=ds2 at*
  generalize hkk2:(eB (Z.map (- ·)) 0).2=k2 at*
  obtain⟨kn,rfl⟩:∃kn:Nat,k2=kn:=⟨k2.toNat,be⟩
  obtain⟨ao2,co2,rfl,hco2⟩:=ie QJ;have ds2_len:ds2.length=Z.length:=hdl2;have ds2_dg:Dg ds2:=Ys;refine cQ (cU (J9:=fun _ J v Y=>eS Y (Nf J Y) v (ee (dY kn))) (fun O J r=>by exact JN kn J be) ?_);rintro O ws vs wt r L hb hsp;have VI:eS wt (Cf w ((ws.heap.size,wt.heap.size)::Oy)) vs (ee (dY kn)):=eS.cP hsp fun g X=>X.iR r.dA aH;replace QJ:=ownsRow.cR (jZ QJ Re r) fun g X=>L.block g (by have:=(ownsRow.low (jZ QJ Re r) g X).2;exact this);replace Re:Ge ((ws.heap.size,wt.heap.size)::Oy) _:=Re.mono fun p hp=>aB _ hp;replace V:=V.tr hb;generalize (ws.heap.size,wt.heap.size)::Oy=tI at*
  obtain⟨asp,csp,rfl,-⟩:=VI.shape;rw[fV]at VI ⊢;have TE:=kO (n:=kn) (k:=4) be;have hsd:=(mY kn).2
  refine .inr (u9 hτ lr (xs:=(ee ds2).map (Value.int .i64)) (news:=(ee (dY kn)).map (Value.int .i64)) (m:=Z.length) (k:=(dY kn).length) cs cs bi cs cs (fun O J r=>⟨jZ QJ Re r,fun g X=>Re.not r X⟩) (by simp[ee]) (by intro u hu;simp at hu;obtain⟨_,_,rfl⟩:=hu;rfl) mx be
   (fun O J r=>?_) (fun v' Y=>jb v') (fun O J v' Y r PR Rg=>yE Re r Rg) (fun O J v' Y r h5 h6 h7=>?_))
  .obtain⟨_,_,_,a2,c2,e2,_,e3⟩:=VI;injection e2 with e4 e5 e6;subst e4 e6
   cases asp with
   |none=>
    have h0:(dY kn).length=0:=by
     rcases bZ (dY kn).length with h0|h0
     .exact h0
     .obtain⟨ad2,q1,_⟩:=e3 0 _ (aD (show 0<((ee (dY kn)).map (Value.int .i64)).length by simp[ee];exact h0))
      cases q1
    exact .inl ⟨csp,by rw[h0];rfl,h0⟩
   |some ad3=>
    refine .inr ⟨ad3,csp,rfl,fun j u hu=>?_⟩;obtain⟨ad2,q1,q2,q3⟩:=e3 j u hu;injection q1 with q1;subst q1;rw[cV (w:=wt) (Y:=J) (by rw[dO];exact rls r oF q2)];exact q3
  replace V:Bq w Y:=(V.tr r.cZ).tr (ju.grown h6 (fun g X=>by
   have:=(ownsRow.low QJ g X).1;omega) r.dA)
  have hcat:(ee ds2).map (Value.int .i64)++(ee (dY kn)).map (Value.int .i64)=(ee (ds2++dY kn)).map (Value.int .i64):=by rw[yF,a9]
  rw[hcat]at h5;have S4:Z.length+(dY kn).length=(ee (ds2++dY kn)).length:=by rw[fV,aQ,ds2_len]
  have XA:Dg (ds2++dY kn):=ds2_dg.append hsd;have Ps:(ds2++dY kn).length<=1000000000:=by rw[aQ,ds2_len];omega
  obtain⟨a3,c3,rfl,-⟩:=ie h5;refine cQ (cU (J9:=fun _ J v' Y=>∃lv,v'= .agg #[.bool false,lv]/\dc Y (Nf J Y) lv (eM (ia (ds2++dY kn)))) (fun O J r=>?_) ?_)
  .have h8:=jZ h5 (Ge.row _) r;have h9:=tc h8 S4 mx;have h10:=JO (w:=J) (fun g X=>(ownsRow.low h8 g X).2) h9 XA Ps;exact h10
  rintro O wp v1 wq r L hb ⟨lv,rfl,hL⟩;have Yt:=hL.iR (S:=FF) r.dA (iv:=[(wp.heap.size,wq.heap.size)]) aH;have Yt:dc wq (Cf w ((wp.heap.size,wq.heap.size)::jb (.slice a3 (Z.length+(dY kn).length) c3))) lv (eM (ia (ds2++dY kn))):=hL.cP fun g X=>X.iR r.dA aH;replace V:=V.tr hb;generalize (wp.heap.size,wq.heap.size)::jb (.slice a3 (Z.length+(dY kn).length) c3)=ivq at*
  obtain⟨hnz,hvv⟩:=D6 XA;obtain⟨a4,n4,c4,rfl⟩:=Yt.shape;have Yl: -dg Z=nW (ds2++dY kn):=by rw[Wz,AH,(mY kn).1,ds2_len]
  obtain⟨pp,hpe,hpp⟩:=Yt.la;injection hpe with hpe1 hpe2 hpe3;subst hpe1 hpe2 hpe3;have hlenpos:0<pp.ls.length:=by
   rw[hpp];rcases bZ (eM (ia (ds2++dY kn))).length with h0|h0
   .rw[List.eq_nil_of_length_eq_zero h0]at hvv;simp[val]at hvv;omega
   .exact h0
  intro J8 we re;refine⟨_,rfl,V.tr re.cZ,eM (ia (ds2++dY kn)),⟨_,?_,Yt.out re oF⟩,hnz,?_⟩
  .rw[bf hV];have:decide ((pp.ls.length:Int)>0)=true:=bf be;rw[<-this];rfl
  .have:((val (eM (ia (ds2++dY kn))):Nat):Int)= -dg Z:=by rw[hvv,Yl]
   omega
 .have SJ:=aG SJ;obtain⟨kn,rfl⟩:∃kn:Nat,k=kn:=⟨k.toNat,be⟩
  have ds_len:ds.length=Z.length:=SU;have ds_dg:Dg ds:=hdg;refine cQ (cU (J9:=fun _ J v Y=>eS Y (Nf J Y) v (ee (dY kn))) (fun O J r=>by exact JN kn J be) ?_);rintro O ws vs wt r L hb hsp;have VI:eS wt (Cf w ((ws.heap.size,wt.heap.size)::iv)) vs (ee (dY kn)):=eS.cP hsp fun g X=>X.iR r.dA aH;replace Ov:=ownsRow.cR (jZ Ov RG r) fun g X=>L.block g (by have:=(ownsRow.low (jZ Ov RG r) g X).2;exact this);replace RG:Ge ((ws.heap.size,wt.heap.size)::iv) _:=RG.mono fun p hp=>aB _ hp;replace V:=V.tr hb;generalize (ws.heap.size,wt.heap.size)::iv=tI at*
  obtain⟨asp,csp,rfl,-⟩:=VI.shape;rw[fV]at VI ⊢;have TE:=kO (n:=kn) (k:=4) be;have hsd:=(mY kn).2
  refine .inr (u9 hτ lr (xs:=(ee ds).map (Value.int .i64)) (news:=(ee (dY kn)).map (Value.int .i64)) (m:=Z.length) (k:=(dY kn).length) cs cs bi cs cs (fun O J r=>⟨jZ Ov RG r,fun g X=>RG.not r X⟩) (by simp[ee]) (by intro u hu;simp at hu;obtain⟨_,_,rfl⟩:=hu;rfl) mx be
   (fun O J r=>?_) (fun v' Y=>jb v') (fun O J v' Y r PR Rg=>yE RG r Rg) (fun O J v' Y r h5 h6 h7=>?_))
  .obtain⟨_,_,_,a2,c2,e2,_,e3⟩:=VI;injection e2 with e4 e5 e6;subst e4 e6
   cases asp with
   |none=>
    have h0:(dY kn).length=0:=by
     rcases bZ (dY kn).length with h0|h0
     .exact h0
     .obtain⟨ad2,q1,_⟩:=e3 0 _ (aD (show 0<((ee (dY kn)).map (Value.int .i64)).length by simp[ee];exact h0))
      cases q1
    exact .inl ⟨csp,by rw[h0];rfl,h0⟩
   |some ad3=>
    refine .inr ⟨ad3,csp,rfl,fun j u hu=>?_⟩;obtain⟨ad2,q1,q2,q3⟩:=e3 j u hu;injection q1 with q1;subst q1;rw[cV (w:=wt) (Y:=J) (by rw[dO];exact rls r oF q2)];exact q3
  replace V:Bq w Y:=(V.tr r.cZ).tr (ju.grown h6 (fun g X=>by
   have:=(ownsRow.low Ov g X).1;omega) r.dA)
  have hcat:(ee ds).map (Value.int .i64)++(ee (dY kn)).map (Value.int .i64)=(ee (ds++dY kn)).map (Value.int .i64):=by rw[yF,a9]
  rw[hcat]at h5;have S4:Z.length+(dY kn).length=(ee (ds++dY kn)).length:=by rw[fV,aQ,ds_len]
  have XA:Dg (ds++dY kn):=ds_dg.append hsd;have Ps:(ds++dY kn).length<=1000000000:=by rw[aQ,ds_len];omega
  obtain⟨a3,c3,rfl,-⟩:=ie h5;refine cQ (cU (J9:=fun _ J v' Y=>∃lv,v'= .agg #[.bool false,lv]/\dc Y (Nf J Y) lv (eM (ia (ds++dY kn)))) (fun O J r=>?_) ?_)
  .have h8:=jZ h5 (Ge.row _) r;have h9:=tc h8 S4 mx;have h10:=JO (w:=J) (fun g X=>(ownsRow.low h8 g X).2) h9 XA Ps;exact h10
  rintro O wp v1 wq r L hb ⟨lv,rfl,hL⟩;have Yt:=hL.iR (S:=FF) r.dA (iv:=[(wp.heap.size,wq.heap.size)]) aH;have Yt:dc wq (Cf w ((wp.heap.size,wq.heap.size)::jb (.slice a3 (Z.length+(dY kn).length) c3))) lv (eM (ia (ds++dY kn))):=hL.cP fun g X=>X.iR r.dA aH;replace V:=V.tr hb;generalize (wp.heap.size,wq.heap.size)::jb (.slice a3 (Z.length+(dY kn).length) c3)=ivq at*
  obtain⟨hnz,hvv⟩:=D6 XA;obtain⟨a4,n4,c4,rfl⟩:=Yt.shape;intro J8 we re;have Yl:dg Z=nW (ds++dY kn):=by rw[Yr,AH,(mY kn).1,ds_len]
  refine⟨_,rfl,V.tr re.cZ,eM (ia (ds++dY kn)),⟨_,?_,Yt.out re oF⟩,hnz,?_⟩
  .have:¬dg Z<0:=by rw[Yl,<-hvv];omega
   rw[bP this];rfl
  .rw[Yl,<-hvv];rfl
theorem aDO(n:Int):dg [n.tmod 65536,(n.tdiv 65536).tmod 65536,(n.tdiv 65536).tdiv 65536]=n:=by
 simp only[dg]
 have I:=Int.mul_tdiv_add_tmod n 65536;have G:=Int.mul_tdiv_add_tmod (n.tdiv 65536) 65536;omega
theorem mO(n:Int)(w:World)(I: -9223372036854775808<=n)(G:n<=9223372036854775807):
  eH PG GT.I2 #[iV n] w (eR w fun v Y=>db Y (Nf w Y) v n):=by
 refine I5 bv ?_;have b1:=zP n;have b2:=zP (n.tdiv 65536);have e1:=Int.mul_tdiv_add_tmod n 65536;have e2:=Int.mul_tdiv_add_tmod (n.tdiv 65536) 65536;have hsum:=aDO n;refine⟨bi,n.tmod 65536,rfl,bi,n.tdiv 65536,wo,bi,_,rfl,bi,n.tdiv 65536,wo,bi,(n.tdiv 65536).tdiv 65536,wo,?_⟩;generalize n.tmod 65536=c0 at*
 generalize (n.tdiv 65536).tmod 65536=c1 at*
 generalize (n.tdiv 65536).tdiv 65536=c2 at*
 refine cQ (cU (J9:=fun _ J v Y=>db Y (Nf J Y) v n) (fun O J r=>?_) ?_)
 .rw[<-hsum];have ha:=r.qW (id:=1) (sz:=1) (n:=3) rfl rfl bi (by intro u hu;simp at hu;rcases hu with rfl|rfl|rfl<;>rfl)
  exact zQ (S:=fun g=>g=(O 1).g) (fun g X=>by rw[X];exact(r.low 1 _ rfl (r.nn 1 _ rfl (by intros;simp) bv)).2) (Z:=[c0,c1,c2]) ha (by
   intro c hc;simp at hc
   rcases hc with rfl|rfl|rfl<;>omega) bv
 rintro O wa v1 wb r L hb hI;have hI:=hI.iR (S:=FF) r.dA (iv:=(wa.heap.size,wb.heap.size)::[]) aH;generalize (wa.heap.size,wb.heap.size)::[]=iv at*
 obtain⟨b,a,m,c,rfl⟩:=hI.shape;intro J8 we re;exact⟨_,rfl,hb.tr re.cZ,hI.out re oF⟩
def km(z:Int):Value:=if z.natAbs<1073741824 then .tuple #[iV z,.bool true]else .tuple #[iV 0,.bool false]
theorem kX.JP{v:Value}(h:kX w S v z):∃b a ls c,v= .agg #[.bool b,.slice a ls.length c]/\dc w S (.slice a ls.length c) ls/\sg b (val ls)=z:=by
 obtain⟨b,ls,⟨lv,I,G⟩,h3⟩:=h;obtain⟨a,c,rfl,_⟩:=G.sl;exact⟨b,a,ls,c,I,G,h3⟩
theorem aCP{x:Nat}(h:ls[i]? =some x):wt i*x<=val ls:=by
 have D:=(aE.1 h).1;have I:=fR ls (i+1) D;rw[eF h]at I;omega
theorem aDm(h:0<i):4294967296<=wt i:=by
 obtain⟨k,rfl⟩:∃k,i=k+1:=⟨i-1,be⟩
 have:=yR k;rw[ji];omega
theorem pW{v:Value}(F:Old S w)(hI:kX w S v z):
  eH PG GT.AE #[v] w (eR w fun v' _=>v'=km z):=by
 obtain⟨b,a,ls,c,rfl,hL,hz⟩:=hI.JP;refine DL bv ?_;have hlen:=hL.le
 refine⟨Nat×World,fun y=>⟨[(1,pP 0 0),(4,.o (.v (iV (val (ls.take y.1))))),(5,iZ y.1)],[(0,.box T.Int [.v (.bool b),.v (.slice a ls.length c)])],1,[],y.2⟩,fun y=>ls.length-y.1,
  fun y=>y.1<=ls.length/\Bq w y.2/\val (ls.take y.1)<1073741824/\(∀j,0<j->j<y.1->ls[j]? =some 0),?_,?_⟩
 .intro O J r;exact⟨(0,J),⟨bv,r.cZ,by simp[val],be⟩,sbgn [] r⟩
 rintro⟨i,w1⟩ ⟨D,V,hv,h0⟩;dsimp only at D V hv h0 ⊢;apply bS<;>intro Ou
 .have Ou:=dL Ou;obtain⟨a',c',e,_,Pt⟩:=hL.sl;injection e with e1 e2 e3;subst e1 e3;obtain⟨x,U⟩:=gO ls i;have RD:=hL.lm x (aC U);obtain⟨ad,rfl,q1,q2⟩:=Pt i x U;have S8:∀{H nx iv O J},Rel H nx iv w.heap.size w1 O J->J.cell? (ad.add ((i:Int).toNat*1))=some (.int .u32 x):=fun r=>by
   rw[aF,aZ];exact kg F V r q1 q2
  have Uc:=aCP U;apply bS<;>intro hp
  .have hp:0<i:=by
    have:(i:Int)>0:=aK hp;omega
   have hw1:=aDm hp;refine⟨ad,rfl,be,.int .u32 x,fun O J r=>S8 r,?_⟩;apply bS<;>intro Ox
   .have Ox:x≠0:=by simpa using Ox
    intro J8 we re;refine⟨_,rfl,V.tr re.cZ,?_⟩;have:¬z.natAbs<1073741824:=by
     have:=Nat.mul_le_mul hw1 (show 1<=x by omega);rw[<-hz,vg];omega
    show _=km z;rw[km,aJ this];rfl
   .have Ox:x=0:=by simpa using Ox
    subst Ox;refine⟨ad,rfl,be,.int .u32 0,fun O J r=>S8 r,?_⟩;have Qf:val (ls.take (i+1))=val (ls.take i):=by rw[eF U];omega
    have SN:val (ls.take (i+1))<1073741824:=by rw[Qf];exact hv
    have h02:∀j,0<j->j<i+1->ls[j]? =some 0:=fun j I G=>by
     rcases aS j i with h3|h3
     .exact h0 j I h3
     .have:j=i:=by omega
      rw[this];exact U
    refine⟨ad,rfl,be,.int .u32 0,fun O J r=>S8 r,((0:Nat):Int),bi,((val (ls.take (i+1)):Nat):Int),by rw[Qf,wrap64]<;>omega,((i+1:Nat):Int),wo,?_⟩;intro I' w3 R;exact⟨(i+1,w3),⟨Ou,V.tr R.cZ,SN,h02⟩,sbgn [] R,dec Ou⟩
  .have hp:i=0:=by
    have:¬((i:Int)>0):=aG hp;omega
   subst hp;refine⟨ad,rfl,be,.int .u32 x,fun O J r=>S8 r,?_⟩;apply bS<;>intro YI
   .have YI:=aK YI;intro J8 we re;refine⟨_,rfl,V.tr re.cZ,?_⟩;have:¬z.natAbs<1073741824:=by
     rw[<-hz,vg];rw[kA]at Uc;omega
    show _=km z;rw[km,aJ this];rfl
   .have YI:=aG YI;have Qf:val (ls.take (0+1))=x:=by rw[eF U];simp[val,kA]
    have SN:val (ls.take (0+1))<1073741824:=by rw[Qf];omega
    have h02:∀j,0<j->j<0+1->ls[j]? =some 0:=fun j I G=>by
     omega
    refine⟨ad,rfl,be,.int .u32 x,fun O J r=>S8 r,((x:Nat):Int),wo,((val (ls.take (0+1)):Nat):Int),by rw[Qf,wrap64]<;>simp[val]<;>omega,((0+1:Nat):Int),wo,?_⟩;intro I' w3 R;exact⟨(0+1,w3),⟨Ou,V.tr R.cZ,SN,h02⟩,sbgn [] R,by dsimp only;omega⟩
 .have Ou:i=ls.length:=by
   have:¬i<ls.length:=by simpa using Ou
   omega
  subst Ou;rw[bN]at hv ⊢;have PY:z.natAbs<1073741824:=by rw[<-hz,vg];exact hv
  cases b with
  |true=>
   refine⟨-(val ls:Int),wo,?_⟩;intro J8 we re;refine⟨_,rfl,V.tr re.cZ,?_⟩;show _=km z;rw[km,aM PY,<-hz,aAj];rfl
  |false=>
   intro J8 we re;refine⟨_,rfl,V.tr re.cZ,?_⟩;show _=km z;rw[km,aM PY,<-hz,aDH];rfl
theorem Ff{a b:Int}(hb:b≠0):a.tdiv (b.sign*(Nat.gcd a.natAbs b.natAbs:Nat))=(Rat.divInt a b).num/\b.tdiv (b.sign*(Nat.gcd a.natAbs b.natAbs:Nat))=((Rat.divInt a b).den:Int):=by
 have X:0<Nat.gcd a.natAbs b.natAbs:=cJ _ be;obtain⟨k,K⟩:((Nat.gcd a.natAbs b.natAbs:Nat):Int) ∣ a:=by rw[<-Int.natAbs_dvd_natAbs];exact Nat.gcd_dvd_left _ _
 obtain⟨l,hl⟩:((Nat.gcd a.natAbs b.natAbs:Nat):Int) ∣ b:=by rw[<-Int.natAbs_dvd_natAbs];exact Nat.gcd_dvd_right _ _
 have hc:(b.gcd a:Int)=(Nat.gcd a.natAbs b.natAbs:Nat):=by rw[Int.gcd_comm];rfl
 have Tn:b.gcd a=Nat.gcd a.natAbs b.natAbs:=by rw[Int.gcd_comm];rfl
 rw[Rat.num_divInt,Rat.den_divInt,aJ hb,hc,Tn];generalize Nat.gcd a.natAbs b.natAbs=g at*
 have XY:(g:Int)≠0:=by omega
 have hs:b.sign*b.sign=1:=by
  rcases Int.lt_or_gt_of_ne hb with h|h
  .rw[cD h];rfl
  .rw[cG h];rfl
 have WB:b.sign≠0:=fun e=>by rw[e]at hs;simp at hs
 have Ox:b.sign*g≠0:=Int.mul_ne_zero WB XY;have QV:((b.natAbs / g:Nat):Int)=b.sign*l:=by
  rw[Int.natCast_ediv,show((b.natAbs:Nat):Int)=b.sign*b by
   rcases Int.lt_or_gt_of_ne hb with h|h
   .rw[cD h];omega
   .rw[cG h];omega]
  conv=>lhs;lhs;rhs;rw[hl]
  rw[show b.sign*(↑g*l)= ↑g*(b.sign*l) by rw[<-Int.mul_assoc,<-Int.mul_assoc,Int.mul_comm b.sign]];exact Int.mul_ediv_cancel_left _ XY
 constructor
 .rw[show b.sign*a / (g:Int)=b.sign*k by
   conv=>lhs;lhs;rhs;rw[K]
   rw[show b.sign*(↑g*k)= ↑g*(b.sign*k) by rw[<-Int.mul_assoc,<-Int.mul_assoc,Int.mul_comm b.sign]]
   exact Int.mul_ediv_cancel_left _ XY]
  conv=>lhs;lhs;rw[K,show(g:Int)*k=(b.sign*g)*(b.sign*k) by
   rw[show (b.sign* ↑g)*(b.sign*k)=(b.sign*b.sign)*(↑g*k) by simp only[Int.mul_assoc,Int.mul_comm,Int.mul_left_comm],hs,Int.one_mul]]
  exact Int.mul_tdiv_cancel_left _ Ox
 .rw[QV]
  conv=>lhs;lhs;rw[hl,show(g:Int)*l=(b.sign*g)*(b.sign*l) by
   rw[show (b.sign* ↑g)*(b.sign*l)=(b.sign*b.sign)*(↑g*l) by simp only[Int.mul_assoc,Int.mul_comm,Int.mul_left_comm],hs,Int.one_mul]]
  exact Int.mul_tdiv_cancel_left _ Ox
theorem td(a b:Int)(w:World)(ha:a.natAbs<4611686018427387904)(hb:b.natAbs<4611686018427387904)(hb0:b≠0):
  eH PG GT.xJ #[iV a,iV b] w (eR w fun v Y=>cY Y (Nf w Y) v (Rat.divInt a b)):=by
 refine Ad bv ?_;refine⟨-a,wo,-b,wo,?_⟩;conv=>whnf
 rw[show max a (-a)=(a.natAbs:Int) by omega,show max b (-b)=(b.natAbs:Int) by omega]
 refine⟨Nat×Nat×World,fun z=>⟨[(0,iZ a),(1,iZ b),(4,pP 0 0),(5,iZ z.1),(6,iZ z.2.1)],[(0,.box T.Rat [.v (.bool false),.v nls,.v (.bool false),.v nls])],1,[],z.2.2⟩,fun z=>z.2.1,
  fun z=>Bq w z.2.2/\Nat.gcd z.1 z.2.1=Nat.gcd a.natAbs b.natAbs/\z.1<4611686018427387904/\z.2.1<4611686018427387904,?_,?_⟩
 .intro O J r;exact⟨(a.natAbs,b.natAbs,J),⟨r.cZ,rfl,ha,hb⟩,sbgn [] r⟩
 rintro⟨x,y,w1⟩ ⟨V,X,U,hy⟩;dsimp only at V X U hy ⊢;conv=>whnf
 apply bS<;>intro h
 .have h:0<y:=by
   have:(y:Int)>0:=aK h;omega
  refine dP (idO 6) ?_;have hm:=cN x h;refine⟨be,((x % y:Nat):Int),rfl,?_⟩;intro I' w3 R;exact⟨(y,x % y,w3),⟨V.tr R.cZ,by dsimp only;rw[<-X,Nat.gcd_comm x y,Nat.gcd_rec y x,Nat.gcd_comm],hy,by dsimp only;omega⟩,sbgn [] R,by dsimp only;omega⟩
 have h:y=0:=by
  have:¬(y:Int)>0:=aG h;omega
 subst h;rw[Nat.gcd_zero_right]at X;have SS:x≠0:=by rw[X];exact Nat.pos_iff_ne_zero.1 (cJ _ be)
 obtain⟨W,hd⟩:=Ff (a:=a) hb0;rw[<-X]at W hd;have bn:(Rat.divInt a b).num.natAbs<=a.natAbs:=by rw[<-W];exact Int.natAbs_tdiv_le_natAbs _ _
 have bd:((Rat.divInt a b).den:Int).natAbs<=b.natAbs:=by rw[<-hd];exact Int.natAbs_tdiv_le_natAbs _ _
 apply bS<;>intro PE
 .have PE:=aK PE;rw[cD PE,Int.neg_one_mul]at W hd;refine⟨-(x:Int),wo,?_⟩;refine dP [.x 0,.x 1,.x 2,.x 4,.x 5,.x 6,.x 3,.x 7,.x 8,.x 9] ?_;refine⟨be,(Rat.divInt a b).num,by rw[W,wrap64]<;>omega,be,((Rat.divInt a b).den:Int),by rw[hd,wrap64]<;>omega,?_⟩;refine cU (J9:=fun _ J v Y=>db Y (Nf J Y) v (Rat.divInt a b).num) (fun O J r=>mO _ J be be) ?_;rintro O wa v1 wb r L PO hI;replace V:=V.tr PO;have hN:=hI.iR (S:=FF) r.dA (iv:=(wa.heap.size,wb.heap.size)::[]) aH;generalize (wa.heap.size,wb.heap.size)::[]=iv at*
  obtain⟨b1,a1,m1,c1,rfl⟩:=hN.shape;refine cU (J9:=fun _ J v Y=>db Y (Nf J Y) v ((Rat.divInt a b).den:Int)) (fun O J r=>mO _ J be be) ?_;rintro O wa v1 Px r L PO hI;replace V:=V.tr PO;replace hN:=hN.cS (N:=(wa.heap.size,Px.heap.size)::iv) r oF L fun x U=>aB _ U;have hD:=hI.iR (S:=FF) r.dA (iv:=(wa.heap.size,Px.heap.size)::iv) aH;generalize (wa.heap.size,Px.heap.size)::iv=Oy at*
  obtain⟨b2,a2,m2,c2,rfl⟩:=hD.shape;exact rtn V fun J8 we re=>(cY.of hN hD).out re oF
 .have PE:=aG PE;rw[cG be,Int.one_mul]at W hd;refine dP [.x 0,.x 1,.x 2,.x 4,.x 5,.x 6,.x 3,.x 7,.x 8,.x 9] ?_;refine⟨be,(Rat.divInt a b).num,by rw[W,wrap64]<;>omega,be,((Rat.divInt a b).den:Int),by rw[hd,wrap64]<;>omega,?_⟩;refine cU (J9:=fun _ J v Y=>db Y (Nf J Y) v (Rat.divInt a b).num) (fun O J r=>mO _ J be be) ?_;rintro O wa v1 wb r L PO hI;replace V:=V.tr PO;have hN:=hI.iR (S:=FF) r.dA (iv:=(wa.heap.size,wb.heap.size)::[]) aH;generalize (wa.heap.size,wb.heap.size)::[]=iv at*
  obtain⟨b1,a1,m1,c1,rfl⟩:=hN.shape;refine cU (J9:=fun _ J v Y=>db Y (Nf J Y) v ((Rat.divInt a b).den:Int)) (fun O J r=>mO _ J be be) ?_;rintro O wa v1 Px r L PO hI;replace V:=V.tr PO;replace hN:=hN.cS (N:=(wa.heap.size,Px.heap.size)::iv) r oF L fun x U=>aB _ U;have hD:=hI.iR (S:=FF) r.dA (iv:=(wa.heap.size,Px.heap.size)::iv) aH;generalize (wa.heap.size,Px.heap.size)::iv=Oy at*
  obtain⟨b2,a2,m2,c2,rfl⟩:=hD.shape;exact rtn V fun J8 we re=>(cY.of hN hD).out re oF
theorem yG(h:z.natAbs<1073741824):km z= .tuple #[iV z,.bool true]:=aM h
theorem HK{v:Value}{x y:Int}(F:Old S w)(U:kX w S v x)(hy:kX w S u y)(hxs:x.natAbs<1073741824)(hys:y.natAbs<1073741824)(Q8:y≠0):
  eH PG GT.vF #[v,u] w (eR w fun v' Y=>cY Y (Nf w Y) v' (Rat.divInt x y)):=by
 have V:=bR w;replace U:=U.cP (S':=Cv S w.heap.size []) fun _ h=>.inl h;replace hy:=hy.cP (S':=Cv S w.heap.size []) fun _ h=>.inl h;obtain⟨bx,ax,lx,cx,rfl⟩:=U.shape;obtain⟨b2,ay,ly,cy,rfl⟩:=hy.shape;refine uO bv ?_;refine cQ (cE V (pE (.tuple #[iV x,.bool true])) (fun O J r=>(pW (rlo r F) (U.rel r F)).mono fun e Y ⟨v2,e1,e2,e3⟩=>⟨v2,e1,e2,by rw[e3,yG hxs]⟩) ?_);rintro O Pw v1 Pa PA r L V E rfl;replace U:=U.cS r F L (mC E);replace hy:=hy.cS r F L (mC E);refine cQ (cE V (pE (.tuple #[iV y,.bool true])) (fun O J r=>(pW (rlo r F) (hy.rel r F)).mono fun e Y ⟨v2,e1,e2,e3⟩=>⟨v2,e1,e2,by rw[e3,yG hys]⟩) ?_);rintro O _ v1 _ Oy r L V E rfl;refine cQ (cE V (pR cY (Rat.divInt x y)) (fun O J r=>td x y J be be Q8) ?_);rintro O _ _ _ iv r L V E hI;have hR:=hI.cP (nw r E);obtain⟨b1,a1,m1,c1,b3,a3,m3,c3,rfl⟩:=hR.shape;exact rtn V fun J8 we re=>hR.out re oF
theorem D7(n:Int):Rat.divInt n 1=(n:Rat):=by
 have:=Rat.num_divInt_den (n:Rat);rw[Rat.num_intCast,Rat.den_intCast]at this;exact this
theorem jf(n:Int)(w:World)(W:n.natAbs<1073741824):
  eH PG GT.sE #[iV n] w (eR w fun v' Y=>cY Y (Nf w Y) v' (n:Rat)):=by
 have V:=bR w;refine sQ bv ?_;refine cQ (cU (J9:=fun _ J v Y=>db Y (Nf J Y) v n) (fun O J r=>mO _ J be be) ?_);rintro O wa v1 wb r L PO hI;replace V:=V.tr PO;have hN:=hI.iR (S:=FF) r.dA (iv:=(wa.heap.size,wb.heap.size)::[]) aH;generalize (wa.heap.size,wb.heap.size)::[]=iv at*
 obtain⟨b1,a1,m1,c1,rfl⟩:=hN.shape;refine cQ (cU (J9:=fun _ J v Y=>db Y (Nf J Y) v 1) (fun O J r=>mO _ J be be) ?_);rintro O wa v1 Px r L PO hI;replace V:=V.tr PO;replace hN:=hN.cS (N:=(wa.heap.size,Px.heap.size)::iv) r oF L fun x U=>aB _ U;have hD:=hI.iR (S:=FF) r.dA (iv:=(wa.heap.size,Px.heap.size)::iv) aH;generalize (wa.heap.size,Px.heap.size)::iv=Oy at*
 obtain⟨b2,a2,m2,c2,rfl⟩:=hD.shape;refine cQ (cE V (pR cY (Rat.divInt n 1)) (fun O J r=>HK (rlo r oF) (hN.rel r oF).r (hD.rel r oF).r W bi bi) ?_);rintro O _ _ _ iv r L V E hI;have hR:=hI.cP (nw r E);obtain⟨b1,a1,m1,c1,b3,a3,m3,c3,rfl⟩:=hR.shape;rw[D7]at hR;exact rtn V fun J8 we re=>hR.out re oF
theorem aCQ{v:Value}{n1 n2:Bool}{ms:List Nat}(F:Old S w)(U:xw w S v n1 ls)(hy:xw w S u n2 ms):
  eH PG GT.oZ #[v,u] w (eR w fun v' _=>v'= .bool (decide (n1=n2/\ls=ms))):=by
 obtain⟨lv,rfl,I⟩:=U;obtain⟨mv,rfl,G⟩:=hy;obtain⟨a,c,rfl,_,ha⟩:=I.sl;obtain⟨b,e,rfl,_,hb⟩:=G.sl;have hle1:=I.le;have Wy:=G.le;have V:=bR w;refine yr bv ?_;apply bS<;>intro W
 .have W:n1≠n2:=fun h=>by rw[h]at W;simp at W
  intro O Y r;exact⟨_,rfl,r.cZ,by rw[bP (fun h=>W h.1)];rfl⟩
 have W:n1=n2:=by simpa using W
 subst W;apply bS<;>intro h
 .have h:ls.length≠ms.length:=fun L=>by rw[L]at h;simp at h
  intro O Y r;exact⟨_,rfl,r.cZ,by rw[bP (fun e=>h (by rw[e.2]))];rfl⟩
 have h:ls.length=ms.length:=by
  have:(ls.length:Int)=ms.length:=by simpa using h
  omega
 refine⟨Nat×World,fun z=>⟨[(2,pP 0 0),(3,pP 1 0),(5,iZ z.1)],[(1,.box T.Int [.v (.bool n1),.v (.slice b ms.length e)]),(0,.box T.Int [.v (.bool n1),.v (.slice a ls.length c)])],2,[],z.2⟩,fun z=>ls.length-z.1,
  fun z=>z.1<=ls.length/\Bq w z.2/\ls.take z.1=ms.take z.1,?_,?_⟩
 .intro O J r;exact⟨(0,J),⟨bv,r.cZ,bv⟩,sbgn [] r⟩
 rintro⟨i,w1⟩ ⟨D,V,ht⟩;dsimp only at D V ht ⊢;apply bS<;>intro Ou
 .have Ou:=dL Ou;obtain⟨x,U⟩:=gO ls i;obtain⟨y,hy⟩:=gO ms i;obtain⟨ad,rfl,q1,q2⟩:=ha i x U;obtain⟨ad2,rfl,q3,q4⟩:=hb i y hy;have Pq:∀{H nx iv O J},Rel H nx iv w.heap.size w1 O J->J.cell? (ad.add ((i:Int).toNat*1))=some (.int .u32 x):=fun r=>by
   rw[aF,aZ];exact kg F V r q1 q2
  have RL:∀{H nx iv O J},Rel H nx iv w.heap.size w1 O J->J.cell? (ad2.add ((i:Int).toNat*1))=some (.int .u32 y):=fun r=>by
   rw[aF,aZ];exact kg F V r q3 q4
  refine dP (idO 11) ?_;refine⟨ad,rfl,be,.int .u32 x,fun O J r=>Pq r,ad2,rfl,be,.int .u32 y,fun O J r=>RL r,?_⟩;apply bS<;>intro Ox
  .have Ox:x≠y:=fun h=>by rw[h]at Ox;simp at Ox
   intro O Y r;refine⟨_,rfl,V.tr r.cZ,?_⟩
   rw[bP (fun e=>Ox (by
    have:=e.2;rw[this,hy]at U;injection U with U
    exact U.symm))]
   rfl
  have Ox:x=y:=by
   have:(x:Int)=y:=by simpa using Ox
   omega
  subst Ox;have TR:ls.take (i+1)=ms.take (i+1):=by rw[bB,bB,ht,U,hy]
  refine inc i ?_;intro I' w3 R;exact⟨(i+1,w3),⟨Ou,V.tr R.cZ,TR⟩,sbgn [] R,dec Ou⟩
 have Ou:i=ls.length:=by
  have:¬i<ls.length:=by simpa using Ou
  omega
 subst Ou;rw[bN,h,bN]at ht;intro O Y r;exact⟨_,rfl,V.tr r.cZ,by rw[bf ⟨rfl,ht⟩];rfl⟩
theorem Np{a:List Nat}(la:Lm a)(lb:Lm b)(na:Nz a)(nb:Nz b)(h:val a=val b):a=b:=by
 have:a.length=b.length:=by
  rcases cH a.length b.length with I|I|I
  .have:=jk la nb I;omega
  .exact I
  .have:=jk lb na I;omega
 exact val_inj la lb this h
theorem Fg{v:Value}{x y:Int}(F:Old S w)(U:db w S v x)(hy:db w S u y):
  eH PG GT.oZ #[v,u] w (eR w fun v' _=>v'= .bool (decide (x=y))):=by
 obtain⟨ls,I,G,h3⟩:=U;obtain⟨ms,k1,k2,k3⟩:=hy;have e:decide (decide (x<0)=decide (y<0)/\ls=ms)=decide (x=y):=by
  refine decide_eq_decide.2 ⟨fun ⟨e1,e2⟩=>?_,fun e1=>?_⟩
  .have e1:=decide_eq_decide.1 e1;rw[e2]at h3;omega
  .subst e1;obtain⟨_,_,l1⟩:=I;obtain⟨_,_,l2⟩:=k1;exact⟨rfl,Np l1.lm l2.lm G k2 be⟩
 exact(aCQ F I k1).mono fun _ Y ⟨v2,e1,e2,e3⟩=>⟨v2,e1,e2,by rw[e3,e]⟩
theorem aBD{v:Value}{p:Rat}(F:Old S w)(U:cY w S v p)(hy:cY w S u q):
  eH PG GT.Cd #[v,u] w (eR w fun v' _=>v'= .bool (decide (p=q))):=by
 obtain⟨b1,a1,n1,c1,b2,a2,n2,c2,rfl⟩:=U.shape;obtain⟨b3,a3,n3,c3,b4,a4,n4,c4,rfl⟩:=hy.shape;refine Dq bv ?_;refine cQ (cU (J9:=fun _ J v Y=>v= .bool (decide (p.num=q.num))) (fun O J r=>Fg (oS F r) (U.num.cR fun g X=>r.cZ.block g (F g X)) (hy.num.cR fun g X=>r.cZ.block g (F g X))) ?_);rintro O wa v1 wb r L hb rfl;have V:=hb;generalize (wa.heap.size,wb.heap.size)::[]=iv at*
 apply bS<;>intro h
 .have h:=aK h;refine cQ (cE V (pE (.bool (decide ((p.den:Int)=q.den)))) (fun O J r=>Fg (oS F r) (U.den.cR (kS V r F)) (hy.den.cR (kS V r F))) ?_);rintro O _ _ _ Oy r L V E rfl;intro J8 we re;refine⟨_,rfl,V.tr re.cZ,?_⟩;have:decide (p=q)=decide ((p.den:Int)=q.den):=decide_eq_decide.2 ⟨fun e=>by rw[e],fun e=>Rat.ext h be⟩;rw[this];rfl
 .have h:=aG h;intro J8 we re;refine⟨_,rfl,V.tr re.cZ,?_⟩;rw[bP (fun e=>h (by rw[e]))];rfl
theorem vq{v:Value}{xs ys:List Rat}(F:Old S w)(U:cX w S v xs)(hy:cX w S u ys):
  eH PG GT.sC #[v,u] w (eR w fun v' _=>v'= .bool (decide (xs=ys))):=by
 obtain⟨a,c,rfl,hc,hm⟩:=dT.shape U;obtain⟨b,e,rfl,Tn,UH⟩:=dT.shape hy;unfold maxLen at hm UH;refine xT bv ?_;apply bS<;>intro h
 .have h:xs.length≠ys.length:=fun L=>by rw[L]at h;simp at h
  intro O Y r;exact⟨_,rfl,r.cZ,by rw[bP (fun e=>h (by rw[e]))];rfl⟩
 have h:xs.length=ys.length:=by
  have:(xs.length:Int)=ys.length:=by simpa using h
  omega
 refine⟨Nat×World,fun z=>⟨[(0,sV a xs.length c),(1,sV b ys.length e),(5,iZ z.1)],[],0,[],z.2⟩,fun z=>xs.length-z.1,
  fun z=>z.1<=xs.length/\Bq w z.2/\xs.take z.1=ys.take z.1,?_,?_⟩
 .intro O J r;exact⟨(0,J),⟨bv,r.cZ,bv⟩,sbgn [] r⟩
 rintro⟨i,w1⟩ ⟨D,V,ht⟩;dsimp only at D V ht ⊢;apply bS<;>intro Ou
 .have Ou:=dL Ou;obtain⟨x,QB⟩:=gO xs i;obtain⟨y,Sn⟩:=gO ys i;obtain⟨ad2,cs2,rfl,Q5,-,Ps⟩:=dT.load hy Sn;obtain⟨p2,q2,r2,s2,t2,u2,v2,Y,rfl,Q5⟩:=Q5;obtain⟨ad,Z,rfl,hR,-,hl⟩:=dT.load U QB;obtain⟨p1,q1,r1,s1,t1,u1,v1,w1,rfl,hR⟩:=hR;refine dP (idO 10) ?_;refine⟨ad,rfl,be,rC p1 q1 r1 s1 t1 u1 v1 w1,rfl,rdO hl V F,ad2,rfl,be,rC p2 q2 r2 s2 t2 u2 v2 Y,rfl,rdO Ps V F,?_⟩;refine cE V (pE (.bool (decide (x=y)))) (fun O J r=>aBD (oS F r) (hR.cR (kS V r F)) (Q5.cR (kS V r F))) ?_;rintro O _ _ _ Oy r L V E rfl;apply bS<;>intro Ox
  .have Ox:x≠y:=fun h=>by rw[h]at Ox;simp at Ox
   intro O Y r;refine⟨_,rfl,V.tr r.cZ,?_⟩
   rw[bP (fun e=>Ox (by
    rw[e,Sn]at QB;injection QB with QB
    exact QB.symm))]
   rfl
  have Ox:x=y:=by simpa using Ox
  subst Ox;have TR:xs.take (i+1)=ys.take (i+1):=by rw[bB,bB,ht,QB,Sn]
  refine inc i ?_;intro I' w3 R;exact⟨(i+1,w3),⟨Ou,V.tr R.cZ,TR⟩,sbgn [] R,dec Ou⟩
 have Ou:i=xs.length:=by
  have:¬i<xs.length:=by simpa using Ou
  omega
 subst Ou;rw[bN,h,bN]at ht;intro O Y r;exact⟨_,rfl,V.tr r.cZ,by rw[bf ht];rfl⟩
theorem JL{v:Value}{xs ys:List (List Rat)}(F:Old S w)(U:dD w S v xs)(hy:dD w S u ys):
  eH PG GT.qt #[v,u] w (eR w fun v' _=>v'= .bool (decide (xs=ys))):=by
 obtain⟨a,c,rfl,hc,hm⟩:=dI.shape U;obtain⟨b,e,rfl,Tn,UH⟩:=dI.shape hy;unfold maxLen at hm UH;refine vI bv ?_;apply bS<;>intro h
 .have h:xs.length≠ys.length:=fun L=>by rw[L]at h;simp at h
  intro O Y r;exact⟨_,rfl,r.cZ,by rw[bP (fun e=>h (by rw[e]))];rfl⟩
 have h:xs.length=ys.length:=by
  have:(xs.length:Int)=ys.length:=by simpa using h
  omega
 refine⟨Nat×World,fun z=>⟨[(0,sV a xs.length c),(1,sV b ys.length e),(5,iZ z.1)],[],0,[],z.2⟩,fun z=>xs.length-z.1,
  fun z=>z.1<=xs.length/\Bq w z.2/\xs.take z.1=ys.take z.1,?_,?_⟩
 .intro O J r;exact⟨(0,J),⟨bv,r.cZ,bv⟩,sbgn [] r⟩
 rintro⟨i,w1⟩ ⟨D,V,ht⟩;dsimp only at D V ht ⊢;apply bS<;>intro Ou
 .have Ou:=dL Ou;obtain⟨x,QB⟩:=gO xs i;obtain⟨y,Sn⟩:=gO ys i;obtain⟨ad,u1,rfl,hR,k1,l1⟩:=dI.load U QB;obtain⟨ad2,u2,rfl,Q5,k2,l2⟩:=dI.load hy Sn;obtain⟨p1,q1,rfl,-⟩:=dT.shape hR;obtain⟨p2,q2,rfl,-⟩:=dT.shape Q5;refine dP (idO 10) ?_;refine⟨ad,rfl,be,.slice p1 x.length q1,rd1 l1 V (F _ k1),ad2,rfl,be,.slice p2 y.length q2,rd1 l2 V (F _ k2),?_⟩;refine cE V (pE (.bool (decide (x=y)))) (fun O J r=>vq (oS F r) (cX.cR hR (kS V r F)) (cX.cR Q5 (kS V r F))) ?_;rintro O _ _ _ Oy r L V E rfl;apply bS<;>intro Ox
  .have Ox:x≠y:=fun h=>by rw[h]at Ox;simp at Ox
   intro O Y r;refine⟨_,rfl,V.tr r.cZ,?_⟩
   rw[bP (fun e=>Ox (by
    rw[e,Sn]at QB;injection QB with QB
    exact QB.symm))]
   rfl
  have Ox:x=y:=by simpa using Ox
  subst Ox;have TR:xs.take (i+1)=ys.take (i+1):=by rw[bB,bB,ht,QB,Sn]
  refine inc i ?_;intro I' w3 R;exact⟨(i+1,w3),⟨Ou,V.tr R.cZ,TR⟩,sbgn [] R,dec Ou⟩
 have Ou:i=xs.length:=by
  have:¬i<xs.length:=by simpa using Ou
  omega
 subst Ou;rw[bN,h,bN]at ht;intro O Y r;exact⟨_,rfl,V.tr r.cZ,by rw[bf ht];rfl⟩
theorem cY.four{b b2:Bool}{a:Option Addr}{n c n2 c2:Nat}(h:cY w S (.agg #[.bool b,.slice a n c,.bool b2,.slice a2 n2 c2]) q):EN w S (rC b a n c b2 a2 n2 c2) (q.num,(q.den:Int)):=
 ⟨b,a,n,c,b2,a2,n2,c2,rfl,h.r⟩
theorem cY.sd{b b2:Bool}{a:Option Addr}{n c n2 c2:Nat}(h:cY w S (.agg #[.bool b,.slice a n c,.bool b2,.slice a2 n2 c2]) q):js w S (rC b a n c b2 a2 n2 c2) q:=
 ⟨b,a,n,c,b2,a2,n2,c2,rfl,h⟩
theorem Rel.lt(r:Rel H nx iv B w O J){id t:Nat}{Z:List At}(h:dU H id=some (.box t Z)):(O id).g<J.heap.size:=(r.low id _ h (r.nn id _ h (by intros;simp) bv)).2
end Go.Ex
namespace Go.Ex
variable{Z:List Int}{ls:List Nat}{i:Nat}{f:Nat->Int}
def gQ(f:Nat->Int):Nat->Int
 |0=>0
 |n+1=>f 0+65536*gQ (fun i=>f (i+1)) n
theorem CY(f:Nat->Int)(n:Nat):dg ((List.range n).map f)=gQ f n:=by
 induction n generalizing f with
 |zero=>rfl
 |succ n ih=>
  rw[List.range_succ_eq_map,List.map_cons,List.map_map,dg,gQ,<-ih];rfl
theorem CZ(f g:Nat->Int)(n:Nat):gQ (fun i=>f i+g i) n=gQ f n+gQ g n:=by
 induction n generalizing f g with
 |zero=>rfl
 |succ n ih=>simp only[gQ,ih];omega
theorem KE(k:Int)(f:Nat->Int)(n:Nat):gQ (fun i=>k*f i) n=k*gQ f n:=by
 induction n generalizing f with
 |zero=>simp[gQ]
 |succ n ih=>simp only[gQ,ih,Int.mul_add];rw[Int.mul_left_comm]
theorem zd{n:Nat}(h:∀i,i<n->f i=0):gQ f n=0:=by
 induction n generalizing f with
 |zero=>rfl
 |succ n ih=>rw[gQ,h 0 be,ih fun i D=>h (i+1) be];rfl
theorem ry(a:List Int)(n:Nat)(h:a.length<=n):gQ (fun i=>a.getD i 0) n=dg a:=by
 induction a generalizing n with
 |nil=>exact zd fun i _=>by simp
 |cons c r ih=>
  obtain⟨m,rfl⟩:∃m,n=m+1:=⟨n-1,by simp at h;omega⟩
  have e:=ih m (by simpa using h);rw[gQ,dg,<-e];simp[List.getD]
def jX(a b:List Int)(i:Nat):Nat->Int
 |0=>0
 |k+1=>jX a b i k+a.getD k 0*(if k<=i then b.getD (i-k) 0 else 0)
def gp(a b:List Int)(i:Nat):Int:=jX a b i (i+1)
theorem My(b:List Int)(i k:Nat):jX [] b i k=0:=by
 induction k with
 |zero=>rfl
 |succ k ih=>rw[jX,ih];simp
theorem KF(c:Int)(r b:List Int)(i k:Nat):jX (c::r) b (i+1) (k+1)=c*b.getD (i+1) 0+jX r b i k:=by
 induction k with
 |zero=>simp[jX]
 |succ k ih=>
  rw[jX,ih,jX];have e:(c::r).getD (k+1) 0=r.getD k 0:=by simp[List.getD]
  rw[e];have e2:(if k+1<=i+1 then b.getD (i+1-(k+1)) 0 else 0)=(if k<=i then b.getD (i-k) 0 else 0):=by
   by_cases h:k<=i
   .rw[aM h,aM be,show i+1-(k+1)=i-k by omega]
   .rw[aJ h,aJ be]
  rw[e2,Int.add_assoc]
theorem IY(c:Int)(r b:List Int)(i:Nat):gp (c::r) b (i+1)=c*b.getD (i+1) 0+gp r b i:=KF c r b i (i+1)
theorem I0(c:Int)(r b:List Int):gp (c::r) b 0=c*b.getD 0 0:=by simp[gp,jX]
theorem aAU(a b:List Int)(n:Nat)(h:a.length+b.length<=n+1):gQ (gp a b) n=dg a*dg b:=by
 induction a generalizing n with
 |nil=>
  rw[show gp [] b=fun _=>(0:Int)from funext fun i=>My b i _,zd fun _ _=>rfl];simp[dg]
 |cons c r ih=>
  cases n with
  |zero=>
   have hb:b=[]:=List.eq_nil_of_length_eq_zero (by simp at h;omega);subst hb;simp[gQ,dg]
  |succ m=>
   have e1:gQ (gp (c::r) b) (m+1)=gQ (fun i=>c*b.getD i 0) (m+1)+65536*gQ (gp r b) m:=by
    have e2:gQ (fun i=>gp (c::r) b (i+1)) m=gQ (fun i=>c*b.getD (i+1) 0) m+gQ (gp r b) m:=by
     rw[<-CZ];congr 1
     funext i
     exact IY c r b i
    rw[gQ,gQ,e2,I0,Int.mul_add];omega
   have h':r.length+b.length<=m+1:=by simp at h;omega
   rw[e1,ih m h',KE,ry b (m+1) be,dg,Int.add_mul,Int.mul_assoc]
theorem KG(a b:List Int)(i k k0:Nat)(h0:∀j,j<k0->b.length<=i-j)(K:k0<=i+1)(h:k<=k0):jX a b i k=0:=by
 induction k with
 |zero=>rfl
 |succ k ih=>
  rw[jX,ih be,aM be];have:b.getD (i-k) 0=0:=by rw[List.getD,List.getElem?_eq_none (h0 k be)];rfl
  rw[this];simp
theorem KH(a b:List Int)(i k m:Nat)(h:a.length<=k):jX a b i (k+m)=jX a b i k:=by
 induction m with
 |zero=>rfl
 |succ m ih=>
  rw[<-Nat.add_assoc,jX,ih];have:a.getD (k+m) 0=0:=by rw[List.getD,List.getElem?_eq_none be];rfl
  rw[this];simp
theorem nk{a b:List Int}(ha:∀x∈a,-65535<=x/\x<=65535)(hb:∀x∈b,-65535<=x/\x<=65535)(k:Nat):(jX a b i k).natAbs<=4294836225*k:=by
 have key:∀(l:List Int) (j:Nat),(∀x∈l,-65535<=x/\x<=65535)->(l.getD j 0).natAbs<=65535:=fun l j h=>by
  rw[List.getD]
  cases hj:l[j]? with
  |none=>simp
  |some d=>have:=h d (aC hj);simp;omega
 induction k with
 |zero=>simp[jX]
 |succ k ih=>
  rw[jX];have I:=key a k ha;have G:(if k<=i then b.getD (i-k) 0 else 0).natAbs<=65535:=by
   split
   .exact key b _ hb
   .simp
  have h3:=Nat.mul_le_mul I G;rw[<-Int.natAbs_mul]at h3;generalize a.getD k 0*(if k<=i then b.getD (i-k) 0 else 0)=p at*
  omega
def eX(s:Int):List Nat->List Int
 |[]=>[]
 |l::r=>s*((l % 65536:Nat):Int)::s*((l / 65536:Nat):Int)::eX s r
theorem GV(s:Int)(ls:List Nat):dg (eX s ls)=s*(val ls:Int):=by
 induction ls with
 |nil=>simp[eX,dg,val]
 |cons l r ih=>
  rw[eX,dg,dg,ih,val];have e1:((l+4294967296*val r:Nat):Int)=((l % 65536:Nat):Int)+65536*((l / 65536:Nat):Int)+4294967296*((val r:Nat):Int):=by omega
  rw[e1,Int.mul_add,Int.mul_add,Int.mul_add];rw[Int.mul_left_comm 65536 s,Int.mul_left_comm s 65536,Int.mul_left_comm s 4294967296];omega
theorem qp(s:Int)(a b:List Nat):eX s (a++b)=eX s a++eX s b:=by
 induction a with
 |nil=>rfl
 |cons l r ih=>simp[eX,ih]
theorem jN(s:Int)(ls:List Nat):(eX s ls).length=2*ls.length:=by
 induction ls with
 |nil=>rfl
 |cons l r ih=>simp[eX,ih];omega
theorem Ca{s:Int}(hs:s=1\/s= -1)(h:Lm ls):∀c∈eX s ls,-65535<=c/\c<=65535:=by
 induction ls with
 |nil=>intro c hc;cases hc
 |cons l r ih=>
  have hl:=h l aH;intro c hc;rw[eX]at hc;rcases List.mem_cons.1 hc with rfl|hc
  .rcases hs with rfl|rfl<;>omega
  rcases List.mem_cons.1 hc with rfl|hc
  .rcases hs with rfl|rfl<;>omega
  .exact ih (fun x U=>h x (aB _ U)) c hc
theorem AQ(h:Lm ls):∀c∈eX 1 ls,0<=c/\c<=65535:=fun c hc=>by
 induction ls with
 |nil=>cases hc
 |cons l r ih=>
  have hl:=h l aH;rw[eX]at hc;rcases List.mem_cons.1 hc with rfl|hc
  .omega
  rcases List.mem_cons.1 hc with rfl|hc
  .omega
  .exact ih (fun x U=>h x (aB _ U)) hc
theorem I1{c:Int}(h:Z[i]? =some c):dg (Z.drop i)=c+65536*dg (Z.drop (i+1)):=by
 rw[List.drop_eq_getElem_cons (aE.1 h).1,dg];have:=(aE.1 h).2;rw[this]
end Go.Ex
namespace Go.Ex
open Go Go.Sx Go.Proofs
variable{x1 x2 y1 y2:Int}{ls:List Nat}{S:Nat->Prop}{p q:Rat}{u:Value}{w:World}
theorem aBR{k:Nat}(h:Lm ls)(hl:ls.length<=k):ln (val ls)<=k:=gg.2 (Nat.lt_of_lt_of_le (ph h) (Bd hl))
theorem Cv.false{B:Nat}{iv:Iv}{g:Nat}(h:Cv FF B iv g):Cv S B iv g:=h.elim (fun h=>h.elim) .inr
theorem aBS{v:Value}(F:Old S w)(U:jP w S v x1 x2)(hy:jP w S u y1 y2)(hl0:ln x1.natAbs<=100000)(Qe:ln x2.natAbs<=100000)(Ps:ln y1.natAbs<=100000)(Q7:ln y2.natAbs<=100000):
  eH PG GT.yh #[v,u] w (eR w fun v' Y=>cY Y (Nf w Y) v' ((ratio x1 x2)+(ratio y1 y2))):=by
 have V:=bR w;have r1:=jM x1 x2;have r2:=jM y1 y2;have R:=lE (ratio x1 x2) (ratio y1 y2);have r4:=fh (ratio x1 x2) (ratio y1 y2);have r5:=jE (ratio y1 y2);have r6:=qI (ratio x1 x2) (ratio y1 y2);replace U:=U.cP (S':=Cv S w.heap.size []) fun _ h=>.inl h;replace hy:=hy.cP (S':=Cv S w.heap.size []) fun _ h=>.inl h;obtain⟨b1,a1,n1,c1,b2,a2,n2,c2,rfl⟩:=U.shape;obtain⟨b3,a3,n3,c3,b4,a4,n4,c4,rfl⟩:=hy.shape;refine G4 bv ?_;refine dP [.x 0,.x 2,.x 1,.x 3,.x 4,.x 5,.x 6] ?_;refine cE V (pR dH ((ratio x1 x2))) (fun O J r=>kl (rlo r F) (U.rel r F) be be) ?_;rintro O _ _ _ PA r L V E W;replace hy:=hy.cS r F L (mC E);have hX:=W.cP (nw r E);obtain⟨A0,A1,A2,A3,A4,A5,A6,A7,rfl⟩:=hX.shape;refine cE V (pR dH ((ratio y1 y2))) (fun O J r=>kl (rlo r F) (hy.rel r F) be be) ?_;rintro O _ _ _ Oy r L V E W;replace hX:=hX.cS r oF L (mC E);have hY:=W.cP (nw r E);obtain⟨C0,C1,C2,C3,C4,C5,C6,C7,rfl⟩:=hY.shape;refine cE V (pR dH ((ratio x1 x2)+(ratio y1 y2))) (fun O J r=>HH (rlo r oF) (hX.rel r oF) (hY.rel r oF) be be) ?_;rintro O _ _ _ PH r L V E W;have hP:=W.cP (nw r E);obtain⟨F0,F1,F2,F3,F4,F5,F6,F7,rfl⟩:=hP.shape;refine cE V (pR cY ((ratio x1 x2)+(ratio y1 y2))) (fun O J r=>ta (rlo r oF) (hP.rel r oF) be) ?_;rintro O _ _ _ PV r L V E W;have hC:=W.cP (nw r E);obtain⟨J0,J1,J2,J3,J4,J5,J6,J7,rfl⟩:=hC.shape;exact rtn V fun J8 we re=>hC.out re oF
theorem aBT{v:Value}(F:Old S w)(U:jP w S v x1 x2)(hy:jP w S u y1 y2)(hl0:ln x1.natAbs<=100000)(Qe:ln x2.natAbs<=100000)(Ps:ln y1.natAbs<=100000)(Q7:ln y2.natAbs<=100000):
  eH PG GT.yg #[v,u] w (eR w fun v' Y=>cY Y (Nf w Y) v' ((ratio x1 x2)*(ratio y1 y2))):=by
 have V:=bR w;have r1:=jM x1 x2;have r2:=jM y1 y2;have R:=lE (ratio x1 x2) (ratio y1 y2);have r4:=fh (ratio x1 x2) (ratio y1 y2);have r5:=jE (ratio y1 y2);have r6:=qI (ratio x1 x2) (ratio y1 y2);replace U:=U.cP (S':=Cv S w.heap.size []) fun _ h=>.inl h;replace hy:=hy.cP (S':=Cv S w.heap.size []) fun _ h=>.inl h;obtain⟨b1,a1,n1,c1,b2,a2,n2,c2,rfl⟩:=U.shape;obtain⟨b3,a3,n3,c3,b4,a4,n4,c4,rfl⟩:=hy.shape;refine GY bv ?_;refine dP [.x 0,.x 2,.x 1,.x 3,.x 4,.x 5,.x 6] ?_;refine cE V (pR dH ((ratio x1 x2))) (fun O J r=>kl (rlo r F) (U.rel r F) be be) ?_;rintro O _ _ _ PA r L V E W;replace hy:=hy.cS r F L (mC E);have hX:=W.cP (nw r E);obtain⟨A0,A1,A2,A3,A4,A5,A6,A7,rfl⟩:=hX.shape;refine cE V (pR dH ((ratio y1 y2))) (fun O J r=>kl (rlo r F) (hy.rel r F) be be) ?_;rintro O _ _ _ Oy r L V E W;replace hX:=hX.cS r oF L (mC E);have hY:=W.cP (nw r E);obtain⟨C0,C1,C2,C3,C4,C5,C6,C7,rfl⟩:=hY.shape;refine cE V (pR dH ((ratio x1 x2)*(ratio y1 y2))) (fun O J r=>s8 (rlo r oF) (hX.rel r oF) (hY.rel r oF) be be) ?_;rintro O _ _ _ PH r L V E W;have hP:=W.cP (nw r E);obtain⟨F0,F1,F2,F3,F4,F5,F6,F7,rfl⟩:=hP.shape;refine cE V (pR cY ((ratio x1 x2)*(ratio y1 y2))) (fun O J r=>ta (rlo r oF) (hP.rel r oF) be) ?_;rintro O _ _ _ PV r L V E W;have hC:=W.cP (nw r E);obtain⟨J0,J1,J2,J3,J4,J5,J6,J7,rfl⟩:=hC.shape;exact rtn V fun J8 we re=>hC.out re oF
theorem aBU{v:Value}(F:Old S w)(U:jP w S v x1 x2)(hy:jP w S u y1 y2)(hl0:ln x1.natAbs<=100000)(Qe:ln x2.natAbs<=100000)(Ps:ln y1.natAbs<=100000)(Q7:ln y2.natAbs<=100000):
  eH PG GT.yl #[v,u] w (eR w fun v' Y=>cY Y (Nf w Y) v' ((ratio x1 x2)-(ratio y1 y2))):=by
 have V:=bR w;have r1:=jM x1 x2;have r2:=jM y1 y2;have R:=lE (ratio x1 x2) (ratio y1 y2);have r4:=fh (ratio x1 x2) (ratio y1 y2);have r5:=jE (ratio y1 y2);have r6:=qI (ratio x1 x2) (ratio y1 y2);replace U:=U.cP (S':=Cv S w.heap.size []) fun _ h=>.inl h;replace hy:=hy.cP (S':=Cv S w.heap.size []) fun _ h=>.inl h;obtain⟨b1,a1,n1,c1,b2,a2,n2,c2,rfl⟩:=U.shape;obtain⟨b3,a3,n3,c3,b4,a4,n4,c4,rfl⟩:=hy.shape;refine Gc bv ?_;refine dP [.x 0,.x 2,.x 1,.x 3,.x 4,.x 5,.x 6,.x 7] ?_;refine cE V (pR dH ((ratio x1 x2))) (fun O J r=>kl (rlo r F) (U.rel r F) be be) ?_;rintro O _ _ _ PA r L V E W;replace hy:=hy.cS r F L (mC E);have hX:=W.cP (nw r E);obtain⟨A0,A1,A2,A3,A4,A5,A6,A7,rfl⟩:=hX.shape;refine cE V (pR dH ((ratio y1 y2))) (fun O J r=>kl (rlo r F) (hy.rel r F) be be) ?_;rintro O _ _ _ Oy r L V E W;replace hX:=hX.cS r oF L (mC E);have hY:=W.cP (nw r E);obtain⟨C0,C1,C2,C3,C4,C5,C6,C7,rfl⟩:=hY.shape;refine cU (J9:=fun _ J v Y=>dH Y (Nw (Cf w Oy) J Y) v (-(ratio y1 y2))) (fun O J r=>s7 (rlo r oF) (hY.rel r oF)) ?_;rintro O QD v3 QC r L hb W;replace V:=V.tr hb;replace hX:=hX.cS (N:=(QD.heap.size,QC.heap.size)::Oy) r oF L fun x U=>aB _ U;have hM:=W.old r.dA;generalize (QD.heap.size,QC.heap.size)::Oy=PH at*
 obtain⟨F0,F1,F2,F3,F4,F5,F6,F7,rfl⟩:=hM.shape;refine cE V (pR dH ((ratio x1 x2)-(ratio y1 y2))) (fun O J r=>(Rat.sub_eq_add_neg (ratio x1 x2) (ratio y1 y2))▸HH (rlo r oF) (hX.rel r oF) (hM.rel r oF) be be) ?_;rintro O _ _ _ PV r L V E W;have hP:=W.cP (nw r E);obtain⟨J0,J1,J2,J3,J4,J5,J6,J7,rfl⟩:=hP.shape;refine cE V (pR cY ((ratio x1 x2)-(ratio y1 y2))) (fun O J r=>ta (rlo r oF) (hP.rel r oF) be) ?_;rintro O _ _ _ Qk r L V E W;have hC:=W.cP (nw r E);obtain⟨K0,K1,K2,K3,K4,K5,K6,K7,rfl⟩:=hC.shape;exact rtn V fun J8 we re=>hC.out re oF
theorem aA2{v:Value}{f g:Rat}(F:Old S w)(hf:dH w S v f)(X:dH w S u g)(XI:rl f<=10000000000)(hlg:rl g<=10000000000):
  eH PG GT.nE #[v,u] w (eR w fun v' Y=>v'=iV (rs (f-g))):=by
 have V:=bR w;have l1:=gI f;have l2:=fU f;have l3:=gI g;have l4:=fU g;have m0:=dR f.num g.den;have m1:=dR g.num f.den;replace hf:=hf.cP (S':=Cv S w.heap.size []) fun _ h=>.inl h;replace X:=X.cP (S':=Cv S w.heap.size []) fun _ h=>.inl h;obtain⟨b1,a1,n1,c1,b2,a2,n2,c2,rfl⟩:=hf.shape;obtain⟨b3,a3,n3,c3,b4,a4,n4,c4,rfl⟩:=X.shape;have Vs:=hf.num;have RJ:=hf.den;have Tt:=X.num;have Qh:=X.den;refine rG bv ?_;refine dP [.x 0,.x 1,.x 2,.x 3,.x 5,.x 6,.x 7,.x 8,.x 4,.x 9,.x 10,.x 11] ?_;refine cE V (pR ew (f.num*(g.den:Int))) (fun O J r=>jI (rlo r F) (Vs.rel r F) (Qh.rel r F) be be) ?_;rintro O _ _ _ PA r L V E W;replace RJ:=RJ.cS r F L (mC E);replace Tt:=Tt.cS r F L (mC E);have hA:=W.cP (nw r E);obtain⟨A0,A1,A2,A3,rfl⟩:=hA.shape;refine cE V (pR ew (g.num*(f.den:Int))) (fun O J r=>jI (rlo r F) (Tt.rel r F) (RJ.rel r F) be be) ?_;rintro O _ _ _ Oy r L V E W;replace hA:=hA.cS r oF L (mC E);have hB:=W.cP (nw r E);obtain⟨C0,C1,C2,C3,rfl⟩:=hB.shape;refine cE V (pE (iV (rs (f-g)))) (fun O J r=>(aBk f g)▸aAo (rlo r oF) (hA.rel r oF) (hB.rel r oF) be be) ?_;rintro O _ _ _ PH r L V E rfl;exact rtn V fun J8 we re=>rfl
theorem aBV{v:Value}(F:Old S w)(U:jP w S v x1 x2)(hy:jP w S u y1 y2)(hl0:ln x1.natAbs<=100000)(Qe:ln x2.natAbs<=100000)(Ps:ln y1.natAbs<=100000)(Q7:ln y2.natAbs<=100000):
  eH PG GT.yf #[v,u] w (eR w fun v' Y=>v'=iV (rs ((ratio x1 x2)-(ratio y1 y2)))):=by
 have V:=bR w;have r1:=jM x1 x2;have r2:=jM y1 y2;have R:=lE (ratio x1 x2) (ratio y1 y2);have r4:=fh (ratio x1 x2) (ratio y1 y2);have r5:=jE (ratio y1 y2);have r6:=qI (ratio x1 x2) (ratio y1 y2);replace U:=U.cP (S':=Cv S w.heap.size []) fun _ h=>.inl h;replace hy:=hy.cP (S':=Cv S w.heap.size []) fun _ h=>.inl h;obtain⟨b1,a1,n1,c1,b2,a2,n2,c2,rfl⟩:=U.shape;obtain⟨b3,a3,n3,c3,b4,a4,n4,c4,rfl⟩:=hy.shape;refine GX bv ?_;refine dP [.x 0,.x 2,.x 1,.x 3,.x 4,.x 5] ?_;refine cE V (pR dH ((ratio x1 x2))) (fun O J r=>kl (rlo r F) (U.rel r F) be be) ?_;rintro O _ _ _ PA r L V E W;replace hy:=hy.cS r F L (mC E);have hX:=W.cP (nw r E);obtain⟨A0,A1,A2,A3,A4,A5,A6,A7,rfl⟩:=hX.shape;refine cE V (pR dH ((ratio y1 y2))) (fun O J r=>kl (rlo r F) (hy.rel r F) be be) ?_;rintro O _ _ _ Oy r L V E W;replace hX:=hX.cS r oF L (mC E);have hY:=W.cP (nw r E);obtain⟨C0,C1,C2,C3,C4,C5,C6,C7,rfl⟩:=hY.shape;refine cE V (pE (iV (rs ((ratio x1 x2)-(ratio y1 y2))))) (fun O J r=>aA2 (rlo r oF) (hX.rel r oF) (hY.rel r oF) be be) ?_;rintro O _ _ _ PH r L V E rfl;exact rtn V fun J8 we re=>rfl
theorem lV:rs q=0↔q=0:=by rw[rs,cM,Rat.num_eq_zero]
theorem aBW{v:Value}(F:Old S w)(U:jP w S v x1 x2)(hy:jP w S u y1 y2)(hl0:ln x1.natAbs<=100000)(Qe:ln x2.natAbs<=100000)(Ps:ln y1.natAbs<=100000)(Q7:ln y2.natAbs<=100000):
  eH PG GT.yi #[v,u] w (eR w fun v' Y=>((ratio y1 y2)=0/\v'= .tuple #[D4,iV 9])\/((ratio y1 y2)≠0/\∃q,v'= .tuple #[q,iV 0]/\cY Y (Nf w Y) q ((ratio x1 x2) / (ratio y1 y2)))):=by
 have V:=bR w;have r1:=jM x1 x2;have r2:=jM y1 y2;have R:=lE (ratio x1 x2) (ratio y1 y2);have r4:=fh (ratio x1 x2) (ratio y1 y2);have r5:=jE (ratio y1 y2);have r6:=qI (ratio x1 x2) (ratio y1 y2);replace U:=U.cP (S':=Cv S w.heap.size []) fun _ h=>.inl h;replace hy:=hy.cP (S':=Cv S w.heap.size []) fun _ h=>.inl h;obtain⟨b1,a1,n1,c1,b2,a2,n2,c2,rfl⟩:=U.shape;obtain⟨b3,a3,n3,c3,b4,a4,n4,c4,rfl⟩:=hy.shape;refine G7 bv ?_;refine cQ (cE V (pR dH ((ratio y1 y2))) (fun O J r=>kl (rlo r F) (hy.rel r F) be be) ?_);rintro O _ _ _ PA r L V E W;replace U:=U.cS r F L (mC E);have hY:=W.cP (nw r E);obtain⟨A0,A1,A2,A3,A4,A5,A6,A7,rfl⟩:=hY.shape;refine cQ (cE V (pE (iV (rs (ratio y1 y2)))) (fun O J r=>tX (rlo r oF) (hY.rel r oF)) ?_);rintro O _ _ _ Oy r L V E rfl;replace U:=U.cS r F L (mC E);replace hY:=hY.cS r oF L (mC E);apply bS<;>intro h
 .have h:rs (ratio y1 y2)=0:=by simpa using h
  exact rtn V fun J8 we re=>.inl ⟨lV.1 h,rfl⟩
 have h:(ratio y1 y2)≠0:=fun e=>by rw[e]at h;exact absurd h bi
 have r7:=pw (ratio x1 x2) h;refine dP [.x 0,.x 2,.x 1,.x 3,.x 4,.x 5,.x 6] ?_;refine cE V (pR dH ((ratio x1 x2))) (fun O J r=>kl (rlo r F) (U.rel r F) be be) ?_;rintro O _ _ _ PH r L V E W;replace hY:=hY.cS r oF L (mC E);have hX:=W.cP (nw r E);obtain⟨C0,C1,C2,C3,C4,C5,C6,C7,rfl⟩:=hX.shape;refine cE V (pR dH ((ratio x1 x2) / (ratio y1 y2))) (fun O J r=>Lt (rlo r oF) (hX.rel r oF) (hY.rel r oF) be be h) ?_;rintro O _ _ _ PV r L V E W;have hP:=W.cP (nw r E);obtain⟨F0,F1,F2,F3,F4,F5,F6,F7,rfl⟩:=hP.shape;refine cE V (pR cY ((ratio x1 x2) / (ratio y1 y2))) (fun O J r=>ta (rlo r oF) (hP.rel r oF) be) ?_;rintro O _ _ _ Qk r L V E W;have hC:=W.cP (nw r E);obtain⟨J0,J1,J2,J3,J4,J5,J6,J7,rfl⟩:=hC.shape;exact rtn V fun J8 we re=>.inr ⟨h,_,rfl,hC.out re oF⟩
theorem aBX{n:Int}(I: -9223372036854775808<=n)(G:n<=9223372036854775807):rl (n:Rat)<=2:=by
 have:=nN I G;unfold rl;rw[Rat.num_intCast,Rat.den_intCast];have:ln 1=1:=by decide
 omega
theorem KN(n:Int)(w:World)(I: -9223372036854775808<=n)(G:n<=9223372036854775807):
  eH PG GT.zm #[iV n] w (eR w fun v' Y=>cY Y (Nf w Y) v' (n:Rat)):=by
 have V:=bR w;have hl:=aBX I G;refine Cx bv ?_;refine cQ (cE V (pR dH (n)) (fun O J r=>BM n J I G) ?_);rintro O _ _ _ PA r L V E W;have hX:=W.cP (nw r E);obtain⟨A0,A1,A2,A3,A4,A5,A6,A7,rfl⟩:=hX.shape;refine cQ (cE V (pR cY (n)) (fun O J r=>ta (rlo r oF) (hX.rel r oF) be) ?_);rintro O _ _ _ Oy r L V E W;have hC:=W.cP (nw r E);obtain⟨C0,C1,C2,C3,C4,C5,C6,C7,rfl⟩:=hC.shape;exact rtn V fun J8 we re=>hC.out re oF
theorem Kb(a b:Int)(w:World)(h1a: -9223372036854775808<=a)(h2a:a<=9223372036854775807)(h1b: -9223372036854775808<=b)(h2b:b<=9223372036854775807):
  eH PG GT.zh #[iV a,iV b] w (eR w fun v' Y=>(b=0/\v'= .tuple #[D4,iV 9])\/(b≠0/\∃q,v'= .tuple #[q,iV 0]/\cY Y (Nf w Y) q (Rat.divInt a b))):=by
 have V:=bR w;have ha:=nN h1a h2a;have hb:=nN h1b h2b;refine Cs bv ?_;apply bS<;>intro h
 .have h:b=0:=by simpa using h
  exact rtn V fun J8 we re=>.inl ⟨h,rfl⟩
 have h:b≠0:=by simpa using h
 have hq:=lF (a:=a) h;refine cQ (cE V (pR ew a) (fun O J r=>qh a J h1a h2a) ?_);rintro O _ _ _ PA r L V E W;have hA:=W.cP (nw r E);obtain⟨A0,A1,A2,A3,rfl⟩:=hA.shape;refine cQ (cE V (pR ew b) (fun O J r=>qh b J h1b h2b) ?_);rintro O _ _ _ Oy r L V E W;replace hA:=hA.cS r oF L (mC E);have hB:=W.cP (nw r E);obtain⟨C0,C1,C2,C3,rfl⟩:=hB.shape;refine cQ (cE V (pR dH (Rat.divInt a b)) (fun O J r=>zO (rlo r oF) (hA.rel r oF) (hB.rel r oF) h be be) ?_);rintro O _ _ _ PH r L V E W;have hP:=W.cP (nw r E);obtain⟨F0,F1,F2,F3,F4,F5,F6,F7,rfl⟩:=hP.shape;refine cQ (cE V (pR cY (Rat.divInt a b)) (fun O J r=>ta (rlo r oF) (hP.rel r oF) be) ?_);rintro O _ _ _ PV r L V E W;have hC:=W.cP (nw r E);obtain⟨J0,J1,J2,J3,J4,J5,J6,J7,rfl⟩:=hC.shape;exact rtn V fun J8 we re=>.inr ⟨h,_,rfl,hC.out re oF⟩
theorem JQ(ad:Addr)(i j:Nat):(ad.add i).add j=ad.add (i+j):=by
 unfold Addr.add;split<;>split<;>simp_all<;>omega
def tB(w:World)(S:Nat->Prop)(v:Value)(q:Rat):Prop:=∃a b,jP w S v a b/\ratio a b=q/\ln a.natAbs<=100000/\ln b.natAbs<=100000
theorem tB.cR{Y:World}{v:Value}(h:tB w S v q)(K:∀g,S g->Y.heap[g]? =w.heap[g]?):tB Y S v q:=by
 obtain⟨a,b,I,G⟩:=h;exact⟨a,b,I.cR K,G⟩
theorem tB.shape{v:Value}(h:tB w S v q):∃b a n c b2 a2 n2 c2,v= .agg #[.bool b,.slice a n c,.bool b2,.slice a2 n2 c2]:=by
 obtain⟨a,b,I,_⟩:=h;exact I.shape
theorem qi(q:Rat):ratio q.num q.den=q:=by rw[ratio,aJ (gn q),Rat.num_divInt_den]
theorem cY.v{v:Value}(h:cY w S v q)(hl:rl q<=100000):tB w S v q:=
 ⟨_,_,h.r,qi q,aX (gI q) hl,aX (fU q) hl⟩
section
variable{S S':Nat->Prop}{H:Hp}{nx:Nat}{iv N:Iv}{B:Nat}{w J Y:World}{O:Nat->Sx.eG}{v:Value}{q:Rat}
end
theorem Gm{v:Value}(F:Old S w)(hp:tB w S v p)(hq:tB w S u q):eH PG GT.yh #[v,u] w (eR w fun v' Y=>cY Y (Nf w Y) v' (p+q)):=by
 obtain⟨a,b,I,rfl,G,h3⟩:=hp;obtain⟨c,d,k1,rfl,k2,k3⟩:=hq;exact aBS F I k1 G h3 k2 k3
theorem DP{v:Value}(F:Old S w)(hp:tB w S v p)(hq:tB w S u q):eH PG GT.yg #[v,u] w (eR w fun v' Y=>cY Y (Nf w Y) v' (p*q)):=by
 obtain⟨a,b,I,rfl,G,h3⟩:=hp;obtain⟨c,d,k1,rfl,k2,k3⟩:=hq;exact aBT F I k1 G h3 k2 k3
theorem aA8{v:Value}(F:Old S w)(hp:tB w S v p)(hq:tB w S u q):eH PG GT.yl #[v,u] w (eR w fun v' Y=>cY Y (Nf w Y) v' (p-q)):=by
 obtain⟨a,b,I,rfl,G,h3⟩:=hp;obtain⟨c,d,k1,rfl,k2,k3⟩:=hq;exact aBU F I k1 G h3 k2 k3
theorem KO{v:Value}(F:Old S w)(hp:tB w S v p)(hq:tB w S u q):eH PG GT.yf #[v,u] w (eR w fun v' _=>v'=iV (rs (p-q))):=by
 obtain⟨a,b,I,rfl,G,h3⟩:=hp;obtain⟨c,d,k1,rfl,k2,k3⟩:=hq;exact aBV F I k1 G h3 k2 k3
theorem aDF{v:Value}(F:Old S w)(hp:tB w S v p)(hq:tB w S u q):eH PG GT.yi #[v,u] w (eR w fun v' Y=>(q=0/\v'= .tuple #[D4,iV 9])\/(q≠0/\∃r,v'= .tuple #[r,iV 0]/\cY Y (Nf w Y) r (p / q))):=by
 obtain⟨a,b,I,rfl,G,h3⟩:=hp;obtain⟨c,d,k1,rfl,k2,k3⟩:=hq;exact aBW F I k1 G h3 k2 k3
end Go.Ex
namespace Go.Ex
theorem aCm(q:Rat):rs (-q)= -rs q:=by rw[rs,rs,Rat.neg_num,Int.sign_neg]
end Go.Ex
namespace Go.Ex
open Go Go.Sx Go.Proofs
variable{z:Int}{ls:List Nat}{S:Nat->Prop}{w:World}
def gG(w:World)(S:Nat->Prop)(v:Value)(k:Nat)(z:Int):Prop:=∃neg ls,xw w S v neg ls/\sg neg (val ls)=z/\ls.length<=k
theorem gG.cR{Y:World}{v:Value}{k:Nat}(h:gG w S v k z)(K:∀g,S g->Y.heap[g]? =w.heap[g]?):gG Y S v k z:=by
 obtain⟨n,l,I,G⟩:=h;exact⟨n,l,I.cR K,G⟩
theorem gG.cP{S':Nat->Prop}{v:Value}{k:Nat}(h:gG w S v k z)(K:∀g,S g->S' g):gG w S' v k z:=by
 obtain⟨n,l,I,G⟩:=h;exact⟨n,l,I.cP K,G⟩
theorem gG.r{v:Value}{k:Nat}(h:gG w S v k z):kX w S v z:=by
 obtain⟨n,l,I,G,_⟩:=h;exact⟨n,l,I,G⟩
theorem gG.shape{v:Value}{k:Nat}(h:gG w S v k z):∃b a n c,v= .agg #[.bool b,.slice a n c]:=h.r.shape
theorem db.l{v:Value}{k:Nat}(h:db w S v z)(K:ln z.natAbs<=k):gG w S v k z:=by
 obtain⟨l,I,G,h3⟩:=h;obtain⟨_,_,hl⟩:=I;have:=eu hl.lm G;rw[h3]at this;exact⟨_,l,⟨_,‹_›,hl⟩,by rw[h3,FU],be⟩
section
variable{S S':Nat->Prop}{H:Hp}{nx:Nat}{iv N:Iv}{B:Nat}{w J Y:World}{O:Nat->Sx.eG}{v:Value}{k:Nat}{z:Int}
theorem gG.rel(h:gG w (Cv S B iv) v k z)(r:Rel H nx iv B w O J)(F:∀g,S g->g<B):gG J (Cv S B iv) v k z:=h.cR fun _ X=>rls r F X
theorem gG.cS(h:gG w (Cv S B iv) v k z)(r:Rel H nx iv B w O J)(F:∀g,S g->g<B)(L:Ext J Y)(hm:∀p,p∈iv->p∈N):gG Y (Cv S B N) v k z:=
 ((h.rel r F).cR fun g X=>L.block g (rlo r F g X)).cP fun _ X=>X.mono hm
end
section
variable{S S':Nat->Prop}{H:Hp}{nx:Nat}{iv N:Iv}{B:Nat}{w J Y:World}{O:Nat->Sx.eG}{v:Value}{Z:List Int}
theorem eS.rel(h:eS w (Cv S B iv) v Z)(r:Rel H nx iv B w O J)(F:∀g,S g->g<B):eS J (Cv S B iv) v Z:=eS.cR h fun _ X=>rls r F X
theorem eS.cS(h:eS w (Cv S B iv) v Z)(r:Rel H nx iv B w O J)(F:∀g,S g->g<B)(L:Ext J Y)(hm:∀p,p∈iv->p∈N):eS Y (Cv S B N) v Z:=
 (eS.cR (h.rel r F) fun g X=>L.block g (rlo r F g X)).cP fun _ X=>X.mono hm
theorem eS.iR(h:eS Y (Nf J Y) v Z)(hB:B<=J.heap.size)(hm:(J.heap.size,Y.heap.size)∈iv):eS Y (Cv S B iv) v Z:=eS.cP h fun _ X=>X.iR hB hm
end
def sgn(b:Bool):Int:=if b then -1 else 1
theorem aDP(b:Bool):sgn b=1\/sgn b= -1:=by cases b<;>simp[sgn]
theorem aCR(b:Bool)(n:Nat):sgn b*(n:Int)=sg b n:=by cases b<;>simp[sgn,sg]
theorem Kx{v:Value}{neg:Bool}(F:Old S w)(h:xw w S v neg ls)(hl:ls.length<=40000000):
  eH PG GT.o6 #[v] w (eR w fun v' Y=>eS Y (Nf w Y) v' (eX (sgn neg) ls)):=by
 obtain⟨lv,rfl,hL⟩:=h;have QO:=hL.lm;obtain⟨a,c,rfl,hc,Pt⟩:=hL.sl;refine zB bv ?_
 cases neg with
 |true=>
  refine⟨Nat×World,fun z=>⟨[(1,pP 0 0),(3,.o (.v (iV (-1)))),(4,.o (.w 1 (2*z.1))),(5,iZ z.1)],[(1,.vec T.int 1 ((eX (-1) (ls.take z.1)).map (Value.int .i64))),(0,.box T.Int [.v (.bool true),.v (.slice a ls.length c)])],2,[],z.2⟩,fun z=>ls.length-z.1,
   fun z=>Bq w z.2/\z.1<=ls.length,?_,?_⟩
  .intro O J r
   exact⟨(0,J),⟨r.cZ,bv⟩,Sub.nil 4 T.int 1 rfl (by simp[kK,SV.sc,At.sc,fc]) r fun In r1=>
    sbgn [] r1⟩
  rintro⟨i,w1⟩ ⟨V,D⟩;dsimp only at V D ⊢;have TK:((eX (-1) (ls.take i)).map (Value.int .i64)).length=2*i:=by rw[aL,jN,ah];omega
  apply bS<;>intro h
  .have h:=dL h;obtain⟨x,U⟩:=gO ls i;have RD:=QO x (aC U);obtain⟨ad,rfl,q1,q2⟩:=Pt i x U;have WK:eX (-1) (ls.take (i+1))=eX (-1) (ls.take i)++[(-1)*((x % 65536:Nat):Int),(-1)*((x / 65536:Nat):Int)]:=by rw[bB,U,Option.toList_some,qp];rfl
   refine⟨ad,rfl,be,.int .u32 x,fun O J r=>?_,?_⟩
   .rw[aF,aZ];exact kg F V r q1 q2
   refine⟨(x:Int),wo,bi,((x % 65536:Nat):Int),rfl,(-1)*((x % 65536:Nat):Int),wo,bi,((x / 65536:Nat):Int),by rw[show (x:Int).tdiv 65536=((x / 65536:Nat):Int)from rfl,wrap64]<;>omega,(-1)*((x / 65536:Nat):Int),wo,?_⟩;refine .inl ?_;refine⟨by rw[TK,aZ],be,mx,((i+1:Nat):Int),wo,?_⟩;intro I' w3 R;have VH:(eX (-1) (ls.take (i+1))).map (Value.int .i64)=(eX (-1) (ls.take i)).map (Value.int .i64)++[iV ((-1)*((x % 65536:Nat):Int)),iV ((-1)*((x / 65536:Nat):Int))]:=by
    rw[WK];simp
   exact⟨(i+1,w3),⟨V.tr R.cZ,by dsimp only;omega⟩,sbgn [(1,3)] R ⟨by dsimp only;rw[VH];rfl,rfl,trivial⟩,by dsimp only;omega⟩
  have h:i=ls.length:=by
   have:¬i<ls.length:=by simpa using h
   omega
  subst h;rw[bN]at TK ⊢;intro J8 we re;have Ov:=re.HJ (id:=1) (m:=2*ls.length) rfl (by rw[TK,aZ]) bi;have QP:=tc Ov (by rw[jN]) mx;refine⟨_,rfl,V.tr re.cZ,eS.cP QP fun g X=>.inr ?_⟩;have:=ownsRow.low Ov g X;exact this
 |false=>
  refine⟨Nat×World,fun z=>⟨[(1,pP 0 0),(3,.o (.v (iV (1)))),(4,.o (.w 1 (2*z.1))),(5,iZ z.1)],[(1,.vec T.int 1 ((eX (1) (ls.take z.1)).map (Value.int .i64))),(0,.box T.Int [.v (.bool false),.v (.slice a ls.length c)])],2,[],z.2⟩,fun z=>ls.length-z.1,
   fun z=>Bq w z.2/\z.1<=ls.length,?_,?_⟩
  .intro O J r
   exact⟨(0,J),⟨r.cZ,bv⟩,Sub.nil 4 T.int 1 rfl (by simp[kK,SV.sc,At.sc,fc]) r fun In r1=>
    sbgn [] r1⟩
  rintro⟨i,w1⟩ ⟨V,D⟩;dsimp only at V D ⊢;have TK:((eX (1) (ls.take i)).map (Value.int .i64)).length=2*i:=by rw[aL,jN,ah];omega
  apply bS<;>intro h
  .have h:=dL h;obtain⟨x,U⟩:=gO ls i;have RD:=QO x (aC U);obtain⟨ad,rfl,q1,q2⟩:=Pt i x U;have WK:eX (1) (ls.take (i+1))=eX (1) (ls.take i)++[(1)*((x % 65536:Nat):Int),(1)*((x / 65536:Nat):Int)]:=by rw[bB,U,Option.toList_some,qp];rfl
   refine⟨ad,rfl,be,.int .u32 x,fun O J r=>?_,?_⟩
   .rw[aF,aZ];exact kg F V r q1 q2
   refine⟨(x:Int),wo,bi,((x % 65536:Nat):Int),rfl,(1)*((x % 65536:Nat):Int),wo,bi,((x / 65536:Nat):Int),by rw[show (x:Int).tdiv 65536=((x / 65536:Nat):Int)from rfl,wrap64]<;>omega,(1)*((x / 65536:Nat):Int),wo,?_⟩;refine .inl ?_;refine⟨by rw[TK,aZ],be,mx,((i+1:Nat):Int),wo,?_⟩;intro I' w3 R;have VH:(eX (1) (ls.take (i+1))).map (Value.int .i64)=(eX (1) (ls.take i)).map (Value.int .i64)++[iV ((1)*((x % 65536:Nat):Int)),iV ((1)*((x / 65536:Nat):Int))]:=by
    rw[WK];simp
   exact⟨(i+1,w3),⟨V.tr R.cZ,by dsimp only;omega⟩,sbgn [(1,3)] R ⟨by dsimp only;rw[VH];rfl,rfl,trivial⟩,by dsimp only;omega⟩
  have h:i=ls.length:=by
   have:¬i<ls.length:=by simpa using h
   omega
  subst h;rw[bN]at TK ⊢;intro J8 we re;have Ov:=re.HJ (id:=1) (m:=2*ls.length) rfl (by rw[TK,aZ]) bi;have QP:=tc Ov (by rw[jN]) mx;refine⟨_,rfl,V.tr re.cZ,eS.cP QP fun g X=>.inr ?_⟩;have:=ownsRow.low Ov g X;exact this
end Go.Ex
