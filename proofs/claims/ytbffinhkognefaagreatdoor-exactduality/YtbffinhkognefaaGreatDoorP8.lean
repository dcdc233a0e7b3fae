/- Texts X44 to X54: lemmas, each with its conditions. -/
import Derived.Test.YtbffinhkognefaaGreatDoorP7
namespace Go.Ex
open Go Go.Sx Go.Proofs
variable{b:List (Int×Int)}{G8:List (List (Int×Int))}{F':List (List Rat)}{h:Nat}{S:Nat->Prop}{P:Rat->Prop}
theorem jF(w:World)(t e:TypeId)(a:Option Addr)(n c n' c':Nat)(h:PG.underlying t=some (.slice e)):
  (binOp .neq t (.slice a n c) (.slice none n' c')).run PG w= .ok (.bool a.isSome) w:=by
 have:∀d,(Op.equalIn (d+1) t (.slice a n c) (.slice none n' c')).run PG w= .ok a.isNone w:=fun d=>by cases a<;>simp[Op.equalIn,run_underlying h]
 simp only[binOp]
 cases a<;>simp[Op.equal,Op.maxDepth,this 9999]
theorem Lh{l:List Rat}{i:Nat}{q:Rat}(h:∀x∈l,P x)(hq:P q):∀x∈l.set i q,P x:=fun x E=>by
 rcases bH E with W|W
 .exact h x W
 .rw[W];exact hq
theorem Eh(H:Ht F' h)(I:2<=h)(i c:Nat):rl (dZ F' i c)+1<=h:=by
 unfold dZ
 cases hA:F'[i]? with
 |none=>
  have:F'.getD i []=[]:=by rw[List.getD,hA];rfl
  rw[this];show rl 0+1<=h;exact aP bv I
 |some r=>
  have:F'.getD i []=r:=by rw[List.getD,hA];rfl
  rw[this];exact lI (H.at hA) I c
theorem HO(H:Ht F' h)(I:2<=h)(pv:List Nat)(cols i:Nat):∀x∈jZ F' pv cols i,rl x+1<=h:=by
 induction i with
 |zero=>intro x E;simp[jZ]at E;rw[E.2];exact aP bv I
 |succ i ih=>rw[qw];exact Lh ih (Eh H I _ _)
theorem zX(F':List (List Rat))(pv:List Nat)(cols i:Nat):(jZ F' pv cols i).length=cols:=by
 induction i with
 |zero=>simp[jZ]
 |succ i ih=>rw[qw,bM,ih]
theorem HP(H:Ht F' h)(I:2<=h)(pv:List Nat)(cols c i:Nat):∀x∈nD F' pv cols c i,rl x+1<=h:=by
 induction i with
 |zero=>
  unfold nD;refine Lh (fun x E=>?_) (aP bv I);rw[List.eq_of_mem_replicate E];exact aP bv I
 |succ i ih=>rw[qu];exact Lh ih (by rw[jM];exact Eh H I _ _)
theorem DO(H:Ht F' h)(I:2<=h)(pv:List Nat)(cols c:Nat):∀r∈da F' pv cols c,r.length=cols/\∀x∈r,rl x+1<=h:=fun r hr=>by
 unfold da at hr;obtain⟨c',_,rfl⟩:=bD.1 hr;exact⟨zW _ _ _ _ _,HP H I _ _ _ _⟩
theorem DP(F':List (List Rat))(pv:List Nat)(cols c:Nat):(da F' pv cols c).length<=c:=by
 unfold da;rw[aJ];exact aP (List.length_filter_le _ _) ce
def zY(G8:List (List (Int×Int)))(b:List (Int×Int)):Nat:=if im G8≠0 then im G8 else if b.length≠G8.length then 11 else 0
def Li(G8:List (List (Int×Int)))(b:List (Int×Int))(w F:World)(s:Value):Prop:=∃F' pv,(F',pv)=gT (nE (de G8) (b.map cU)) (dH G8)/\
 ((∃j vp,pv.length<=j/\j<G8.length/\dZ F' j (dH G8)≠0/\(∀k,pv.length<=k->k<j->dZ F' k (dH G8)=0)/\s= .agg #[iV 1,nls,nls,vp]/\
   cS F (Nf w F) vp (((F'.getD j []).drop (dH G8+1)).map (· *(1 / dZ F' j (dH G8)))))\/
  (∃vx vk,(∀k,pv.length<=k->k<G8.length->dZ F' k (dH G8)=0)/\s= .agg #[iV 0,vx,vk,nls]/\cS F (Nf w F) vx (jZ F' pv (dH G8) pv.length)/\
   dC F (Nf w F) vk (da F' pv (dH G8) (dH G8))))
theorem Ei{w:World}{v u:Value}{h0:Nat}(L:Old S w)(h:dK w S v G8)(hu:dB w S u b)(hf:zY G8 b=0->(∀r∈G8,wm r)/\wm b/\Ht (nE (de G8) (b.map cU)) h0/\2<=h0/\4^G8.length*h0<=500000000):
  eD PG Fd.qH #[v,u] w (eL w fun v' F=>(zY G8 b≠0/\v'= .tuple #[.agg #[iV 0,nls,nls,nls],iV (zY G8 b)])\/
   (zY G8 b=0/\∃s,v'= .tuple #[s,iV 0]/\Li G8 b w F s)):=by
 replace h:=dK.arg h [];replace hu:=dB.arg hu [];obtain⟨am,cm,rfl,Rd,-⟩:=dD.shape h;obtain⟨ab,cb,rfl,Pv,-⟩:=dU.shape hu;refine yB ce ?_;conv=>whnf
 refine cM (cN (I9:=fun _ _ v _=>v=iV ((zY G8 b:Nat):Int)) (fun O J r=>zV (rlo r L) (dK.rel h r L) (dB.rel hu r L)) ?_);rintro O wa v1 wb r G Y rfl;replace h:=dK.cL (K:=(wa.heap.size,wb.heap.size)::[]) h r L G fun x E=>aD _ E;replace hu:=dB.cL (K:=(wa.heap.size,wb.heap.size)::[]) hu r L G fun x E=>aD _ E;clear r G;generalize (wa.heap.size,wb.heap.size)::[]=iv at*
 conv=>whnf
 refine zF.mk (fun h0'=>?_) (fun h0'=>?_)
 .have h0':zY G8 b≠0:=fun e=>by rw[e]at h0';simp at h0'
  conv=>whnf
  exact rtn Y fun I8 we re=>.inl ⟨h0',rfl⟩
 have h0':zY G8 b=0:=by
  have h4:((zY G8 b:Int)==0)=true:=by simpa using h0'
  have:=eq_of_beq h4;omega
 obtain⟨hf1,hf2,Xh,I,TR⟩:=hf h0';have hE:im G8=0/\b.length=G8.length:=by
  unfold zY at h0';split at h0'
  .rename_i h3;exact absurd h0' h3
  .split at h0'
   .cases h0'
   .rename_i h3 h4;exact⟨be,be⟩
 have hE2:(∀r∈G8,r.length=dH G8)/\G8.length<=60/\dH G8<=60:=by
  have h3:=hE.1;unfold im at h3;split at h3
  .rename_i h4;split at h3
   .cases h3
   .exact⟨h4,be,be⟩
  .cases h3
 obtain⟨OI,hRl,QM⟩:=hE2;conv=>whnf
 refine cM (cN (I9:=fun _ J v' F=>∃F' pv,(F',pv)=gT (nE (de G8) (b.map cU)) (dH G8)/\
   ((∃j vp,pv.length<=j/\j<G8.length/\dZ F' j (dH G8)≠0/\(∀k,pv.length<=k->k<j->dZ F' k (dH G8)=0)/\v'= .agg #[vp,nls,nls]/\(∃a n c,vp= .slice (some a) n c)/\
     dm F (Nf J F) (Nf J F) vp (((F'.getD j []).drop (dH G8+1)).map (· *(1 / dZ F' j (dH G8)))))\/
    (∃vx vk,(∀k,pv.length<=k->k<G8.length->dZ F' k (dH G8)=0)/\v'= .agg #[nls,vx,vk]/\dm F (Nf J F) (Nf J F) vx (jZ F' pv (dH G8) pv.length)/\
     fK F (Nf J F) vk (da F' pv (dH G8) (dH G8))))) (fun O J r=>KQ (rlo r L) (dK.rel h r L) (dB.rel hu r L) hf1 hf2 OI hE.2 be be Xh I TR) ?_)
 rintro O wc v1 wd r G N ⟨F',pv,hA,Vt⟩;have hinv:=uv (cols:=dH G8) Xh I;rw[<-hA]at hinv;obtain⟨SQ,Oq,Xk,hAh⟩:=hinv;dsimp only at SQ Oq Xk hAh;rw[vV,aJ]at SQ Oq;have Up:Ht F' 500000000:=hAh.mono (aP (Nat.mul_le_mul_right _ (Nat.pow_le_pow_right bv Oq)) TR);replace Y:=Y.tr N;rcases Vt with⟨j,vp,hj1,Uq,hj3,hj4,rfl,⟨ap,np,cp,rfl⟩,hP⟩|⟨vx,vk,hz,rfl,hX,hK⟩
 .have Rs:dm wd (Cf w ((wc.heap.size,wd.heap.size)::iv)) (Cf w ((wc.heap.size,wd.heap.size)::iv)) (.slice (some ap) np cp) _:=hP.cO (fun g V=>V.eX r.cR aF) fun g V=>V.eX r.cR aF;clear r G N hP h hu;generalize (wc.heap.size,wd.heap.size)::iv=iv2 at*
  obtain⟨_,_,Wd,-,hpm⟩:=Rs.shape;have hrj:∀x∈((F'.getD j []).drop (dH G8+1)).map (· *(1 / dZ F' j (dH G8))),rl x<=10000000000:=fun x E=>by
   obtain⟨y,hy,rfl⟩:=bD.1 E;have W:rl y+1<=500000000:=by
    cases hAj:F'[j]? with
    |none=>
     have:F'.getD j []=[]:=by rw[List.getD,hAj];rfl
     rw[this]at hy;simp at hy
    |some r=>
     have:F'.getD j []=r:=by rw[List.getD,hAj];rfl
     rw[this]at hy;exact Up.at hAj y (List.mem_of_mem_drop hy)
   have h2':=jv y (1 / dZ F' j (dH G8));have h3:=uD hj3;have h4:=Eh Up bv j (dH G8);omega
  have RP:(((F'.getD j []).drop (dH G8+1)).map (· *(1 / dZ F' j (dH G8)))).length<=1000000:=by
   have hL0:pf (dH G8+1+G8.length) (nE (de G8) (b.map cU)):=fun r hr=>by
    obtain⟨i,R⟩:=aY hr;simp only[nE,List.getElem?_mapIdx,Option.map_eq_some_iff,aS]at R;obtain⟨r1,⟨r0,R6,rfl⟩,rfl⟩:=R;have:=OI r0 (aG R6);simp[tf];omega
   have hL:=Cc (cols:=dH G8) hL0;rw[<-hA]at hL;rw[aJ,List.length_drop,hL.getD (show j<F'.length by omega)];omega
  conv=>whnf
  refine⟨true,fun O w1 o1 o2=>by simp[eqGuard,SV.den,At.den,jF w1 T.row T.cw (some ap) np cp 0 0 rR],?_⟩;conv=>whnf
  refine cM (cN (I9:=fun _ J v F=>cS F (Nf J F) v (((F'.getD j []).drop (dH G8+1)).map (· *(1 / dZ F' j (dH G8))))) (fun O J r=>j8 (rlo r oF) (Rs.rel r oF oF) RP hrj) ?_);rintro O wa v1 wb r G N hO;have Pw:=cS.eX (S:=FF) hO r.cR (iv:=(wa.heap.size,wb.heap.size)::iv2) aF;replace Y:=Y.tr N;clear r G N hO Rs;generalize (wa.heap.size,wb.heap.size)::iv2=OR at*
  obtain⟨a5,c5,rfl,-,-⟩:=dU.shape Pw;conv=>whnf
  exact rtn Y fun I8 we re=>.inr ⟨h0',_,rfl,F',pv,hA,.inl ⟨j,_,hj1,Uq,hj3,hj4,rfl,cS.out Pw re oF⟩⟩
 .have hXN:dm wd (Cf w ((wc.heap.size,wd.heap.size)::iv)) (Cf w ((wc.heap.size,wd.heap.size)::iv)) vx _:=hX.cO (fun g V=>V.eX r.cR aF) fun g V=>V.eX r.cR aF;have hKN:=fK.eX (S:=FF) hK r.cR (iv:=(wc.heap.size,wd.heap.size)::iv) aF;clear r G N hX hK h hu;generalize (wc.heap.size,wd.heap.size)::iv=iv2 at*
  obtain⟨ax,cx,rfl,-,-⟩:=hXN.shape;obtain⟨ak,ck,rfl,-,-⟩:=dD.shape hKN;have Ra:=zX F' pv (dH G8) pv.length;have hxh:=HO Up bv pv (dH G8) pv.length;have hkh:=DO Up bv pv (dH G8) (dH G8);have Uy:=DP F' pv (dH G8) (dH G8);conv=>whnf
  refine⟨false,fun O w1 o1 o2=>by simp[eqGuard,SV.den,At.den,jF w1 T.row T.cw none 0 0 0 0 rR],?_⟩;conv=>whnf
  refine dP [.x 0,.x 1,.x 3,.x 4,.x 2,.x 5,.x 6,.x 7,.x 8] ?_;conv=>whnf
  refine cN (I9:=fun _ J v F=>cS F (Nf J F) v (jZ F' pv (dH G8) pv.length)) (fun O J r=>j8 (rlo r oF) (hXN.rel r oF oF) (by rw[Ra];omega) (fun q hq=>by have:=hxh q hq;omega)) ?_;rintro O wa v1 wb r G N hO;have Pw:=cS.eX (S:=FF) hO r.cR (iv:=(wa.heap.size,wb.heap.size)::iv2) aF;replace hKN:=fK.cL (K:=(wa.heap.size,wb.heap.size)::iv2) hKN r oF G fun x E=>aD _ E;replace Y:=Y.tr N;clear r G N hO hXN;generalize (wa.heap.size,wb.heap.size)::iv2=OR at*
  obtain⟨a5,c5,rfl,-,-⟩:=dU.shape Pw;conv=>whnf
  refine cN (I9:=fun _ J v F=>dC F (Nf J F) v (da F' pv (dH G8) (dH G8))) (fun O J r=>KR (rlo r oF) (fK.rel hKN r oF) be (show dH G8<=1000000 by omega) (fun r hr=>(hkh r hr).1) (fun r hr q hq=>by have:=(hkh r hr).2 q hq;omega)) ?_;rintro O wa v1 wb r G N hO;have Rs:=dC.eX (S:=FF) hO r.cR (iv:=(wa.heap.size,wb.heap.size)::OR) aF;replace Pw:=cS.cL (K:=(wa.heap.size,wb.heap.size)::OR) Pw r oF G fun x E=>aD _ E;replace Y:=Y.tr N;clear r G N hO hKN;generalize (wa.heap.size,wb.heap.size)::OR=Ob at*
  obtain⟨a6,c6,rfl,-,-⟩:=dD.shape Rs;conv=>whnf
  exact rtn Y fun I8 we re=>.inr ⟨h0',_,rfl,F',pv,hA,.inr ⟨_,_,hz,rfl,cS.out Pw re oF,dC.out Rs re oF⟩⟩
end Go.Ex
namespace Go.Ex
variable{ds:List Nat}
def dS:List Int->Int
 |[]=>0
 |c::r=>c+65536*dS r
def up(k:Nat):Int:=65536^k
theorem BB(k:Nat):up (k+1)=65536*up k:=by rw[up,Int.pow_succ,Int.mul_comm];rfl
theorem IB(k:Nat):0<up k:=Int.pow_pos bv
theorem zI(a b:List Int):dS (a++b)=dS a+up a.length*dS b:=by
 induction a with
 |nil=>simp[dS,up]
 |cons c r ih=>rw[List.cons_append,dS,ih,dS,bZ,BB,Int.mul_add,<-Int.mul_assoc];omega
theorem EB(a:List Int):dS (a.map (- ·))= -dS a:=by
 induction a with
 |nil=>rfl
 |cons c r ih=>rw[List.map_cons,dS,ih,dS];omega
def Dg(l:List Nat):Prop:=∀d∈l,d<65536
def mM(l:List Nat):Int:=dS (l.map fun d:Nat=>(d:Int))
theorem xb{l:List Nat}(h:Dg l):0<=mM l/\mM l<up l.length:=by
 induction l with
 |nil=>exact⟨Int.le_refl _,bv⟩
 |cons d r ih=>
  have W:=ih fun x E=>h x (aD _ E);have I:=h d aF;have e:mM (d::r)=(d:Int)+65536*mM r:=rfl;rw[e,bZ,BB];omega
def dV:List Int->Int->List Nat×Int
 |[],k=>([],k)
 |c::r,k=>(((c+k) % 65536).toNat::(dV r ((c+k) / 65536)).1,(dV r ((c+k) / 65536)).2)
theorem lJ:∀(cs:List Int) (k:Int),dS cs+k=mM (dV cs k).1+up cs.length*(dV cs k).2/\Dg (dV cs k).1/\(dV cs k).1.length=cs.length
 |[],k=>⟨by simp[dS,dV,mM,up],by simp[dV,Dg],rfl⟩
 |c::r,k=>by
  obtain⟨W,I,h3⟩:=lJ r ((c+k) / 65536);have h4:0<=(c+k) % 65536:=Int.emod_nonneg _ bv;have h5:(c+k) % 65536<65536:=Int.emod_lt_of_pos _ bv;have h6:=Int.mul_ediv_add_emod (c+k) 65536;refine⟨?_,fun d hd=>?_,by simp[dV,h3]⟩
  .have e:mM (dV (c::r) k).1=(((c+k) % 65536).toNat:Int)+65536*mM (dV r ((c+k) / 65536)).1:=rfl;have e2:(dV (c::r) k).2=(dV r ((c+k) / 65536)).2:=rfl;rw[e,e2,dS,bZ,BB,Int.mul_assoc];omega
  .have e:(dV (c::r) k).1=((c+k) % 65536).toNat::(dV r ((c+k) / 65536)).1:=rfl;rw[e]at hd;rcases List.mem_cons.1 hd with rfl|hd
   .omega
   .exact I d hd
theorem BC(cs:List Int)(c k:Int):dV (cs++[c]) k=((dV cs k).1++[((c+(dV cs k).2) % 65536).toNat],(c+(dV cs k).2) / 65536):=by
 induction cs generalizing k with
 |nil=>rfl
 |cons d r ih=>simp only[List.cons_append,dV,ih]
theorem kE:∀(cs:List Int) (k:Int),(∀c∈cs,-1152921504606846976<=c/\c<=1152921504606846976)-> -1152921504606846976<=k->k<=1152921504606846976-> -1152921504606846976<=(dV cs k).2/\(dV cs k).2<=1152921504606846976
 |[],k,_,W,I=>⟨W,I⟩
 |c::r,k,h,W,I=>by
  have hc:=h c aF;exact kE r _ (fun x E=>h x (aD _ E)) be be
def dJ(n:Nat):List Nat:=if h:n=0 then []else n % 65536::dJ (n / 65536)
termination_by n
decreasing_by omega
theorem lK:dJ 0=[]:=by rw[dJ];rfl
theorem pz{n:Nat}(h:0<n):dJ n=n % 65536::dJ (n / 65536):=by
 rw[dJ,dif_neg be]
theorem lL(n:Nat):mM (dJ n)=n/\Dg (dJ n):=by
 induction n using Nat.strongRecOn with
 |_ n ih=>
  rcases bB n with h|h
  .subst h;rw[lK];exact⟨rfl,by simp[Dg]⟩
  .rw[pz h];obtain⟨W,I⟩:=ih (n / 65536) be;refine⟨?_,fun d hd=>?_⟩
   .have e:mM (n % 65536::dJ (n / 65536))=((n % 65536:Nat):Int)+65536*mM (dJ (n / 65536)):=rfl;rw[e,W];omega
   .rcases List.mem_cons.1 hd with rfl|hd
    .omega
    .exact I d hd
theorem j6{n:Nat}:∀{k:Nat},n<65536^k->(dJ n).length<=k
 |0,h=>by
  have:n=0:=by simp at h;exact h
  subst this;rw[lK];simp
 |k+1,h=>by
  rcases bB n with h0|h0
  .subst h0;rw[lK];simp
  .rw[pz h0,bZ];have:=j6 (n:=n / 65536) (k:=k) (by rw[Nat.pow_succ]at h;exact Nat.div_lt_of_lt_mul (by rw[bV];exact h));omega
def gY:List Nat->List Nat
 |[]=>[]
 |[a]=>[a]
 |a::b::r=>(a+65536*b)::gY r
theorem xc:∀(l:List Nat),Dg l->(val (gY l):Int)=mM l/\Lm (gY l)/\(gY l).length=(l.length+1) / 2
 |[],_=>⟨rfl,by simp[gY,Lm],rfl⟩
 |[a],h=>by
  have:=h a ce;exact⟨by simp[gY,val,mM,dS],fun x E=>by simp[gY]at E;omega,by simp[gY]⟩
 |a::b::r,h=>by
  obtain⟨W,I,h3⟩:=xc r fun x E=>h x (aD _ (aD _ E));have ha:=h a ce;have N:=h b ce;refine⟨?_,fun x E=>?_,?_⟩
  .have e:mM (a::b::r)=(a:Int)+65536*((b:Int)+65536*mM r):=rfl;rw[e,<-W,gY,val];simp only[Int.natCast_add,Int.natCast_mul]
   omega
  .rw[gY]at E;rcases List.mem_cons.1 E with rfl|E
   .omega
   .exact I x E
  .rw[gY,bZ,h3];simp only[bZ]
   omega
def pk(ds:List Nat)(k:Nat):List Nat:=(List.range k).map fun i=>ds.getD (2*i) 0+65536*ds.getD (2*i+1) 0
theorem wZ(ds:List Nat)(k:Nat):pk ds (k+1)=pk ds k++[ds.getD (2*k) 0+65536*ds.getD (2*k+1) 0]:=by simp[pk,bw]
theorem uH(ds:List Nat)(k:Nat):(pk ds k).length=k:=by simp[pk]
theorem IC:∀(ds:List Nat),pk ds ((ds.length+1) / 2)=gY ds
 |[]=>rfl
 |[a]=>by simp[pk,gY,bw]
 |a::b::r=>by
  have ih:=IC r;have e:((a::b::r).length+1) / 2=(r.length+1) / 2+1:=by simp only[bZ];omega
  rw[e,gY,<-ih,pk,List.range_succ_eq_map,List.map_cons,List.map_map,pk];congr 1
theorem ID(h:Dg ds)(k:Nat):Lm (pk ds k):=fun x E=>by
 obtain⟨i,_,rfl⟩:=bD.1 E;have key:∀j,ds.getD j 0<65536:=fun j=>by
  rw[List.getD]
  cases hj:ds[j]? with
  |none=>simp
  |some d=>simp;exact h d (aG hj)
 have W:=key (2*i);have I:=key (2*i+1);omega
end Go.Ex
namespace Go.Ex
open Go Go.Sx Go.Proofs
variable{cs:List Int}{S:Nat->Prop}{v:Value}{w:World}
def du(w:World)(S:Nat->Prop)(v:Value)(cs:List Int):Prop:=fy w S 1 v (cs.map (Value.int .i64)) cs.length
theorem du.cP{F:World}(h:du w S v cs)(Z:∀g,S g->F.heap[g]? =w.heap[g]?):du F S v cs:=fy.cP h Z
theorem du.cO{S':Nat->Prop}(h:du w S v cs)(Z:∀g,S g->S' g):du w S' v cs:=fy.cO h Z
theorem du.load{a:Option Addr}{n c j:Nat}{x:Int}(h:du w S (.slice a n c) cs)(E:cs[j]? =some x):∃ad,a=some ad/\S ad.block/\w.cell? (ad.add (j*1))=some (iV x):=by
 obtain⟨_,_,_,a',c',e,_,h4⟩:=h;injection e with e1 e2 e3;subst e1;obtain⟨ad,k1,k2,k3⟩:=h4 j (iV x) (by rw[aS,E];rfl);exact⟨ad,k1,k2,by rw[bC];exact k3⟩
theorem du.shape(h:du w S v cs):∃a c,v= .slice a cs.length c/\cs.length<=c:=by
 obtain⟨_,_,_,a',c',e,h3,_⟩:=h;exact⟨a',c',e,h3⟩
def eE(ds:List Nat):List Int:=ds.map fun d:Nat=>(d:Int)
theorem eY(ds:List Nat):(eE ds).length=ds.length:=by simp[eE]
end Go.Ex
namespace Go.Sx
open Go Go.Ex Go.Proofs
variable{cs:List Value}{O:Nat->Sx.dc}
theorem Rel.Ba{H:Hp}{nx:Nat}{iv:Iv}{B:Nat}{w J:World}(r:Rel H nx iv B w O J){id t m sz:Nat}(h:dF H id=some (.vec t sz cs))(hm:cs.length=m*sz)(hs:0<sz):
  J.ownsRow B t sz ((At.w id m).den O) m cs:=by
 rcases r.vec id t sz _ h with⟨U,rfl⟩|⟨U,spare,N,hc,Pu⟩
 .have TF:m=0:=by
   rcases bB m with h|h
   .exact h
   .have:=Nat.mul_pos h hs;simp at hm;omega
  subst TF;have:(At.w id 0).den O=nls:=by simp[At.den,U]
  rw[this];exact World.ownsRow_nil _ _ _ _
 .have hv:(At.w id m).den O= .slice (some ⟨(O id).g,0,none⟩) m (O id).cap:=by simp[At.den,U]
  have W:(cs++spare).length=cs.length+spare.length:=aU;rw[hv];refine⟨hm,.inr ⟨(O id).g,(O id).cap,_,rfl,(r.low id _ h U).1,N,?_,Pu,by simpa using hc,?_⟩⟩
  .have I:m*sz<=(O id).cap*sz:=by omega
   exact Nat.le_of_mul_le_mul_right I hs
  .rw[<-hm];simp
end Go.Sx
namespace Go.Ex
open Go Go.Sx Go.Proofs
theorem DQ(n:Nat)(w:World)(U:n<=9223372036854775807):eD PG Fd.tM #[iV n] w (eL w fun v F=>du F (Nf w F) v (eE (dJ n))):=by
 refine wJ ce ?_
 refine⟨Nat×List Nat×World,fun z=>⟨[(0,iZ z.1),(3,.o (.w 0 z.2.1.length))],[(0,.vec T.int 1 ((eE z.2.1).map (Value.int .i64)))],1,[],z.2.2⟩,fun z=>z.1,
  fun z=>Bq w z.2.2/\z.1<=n/\z.2.1.length<=n-z.1/\z.2.1++dJ z.1=dJ n,?_,?_⟩
 .intro O J r
  exact⟨(n,[],J),⟨r.cV,lr,ce,ce⟩,Sub.nil 3 T.int 1 rfl (by simp[ka,SV.sc,At.sc,gW]) r fun Id r1=>
   sbgn [] r1⟩
 rintro⟨k,ds,w1⟩ ⟨Y,Z,hl,hs⟩;dsimp only at Y Z hl hs ⊢;have SC:=eY ds;apply bS<;>intro h
 .have h:0<k:=by
   have:(k:Int)>0:=aI h;omega
  refine⟨bv,((k % 65536:Nat):Int),ki k 65536,?_⟩;refine .inl ?_;refine⟨by simp[SC],?_,by have W:=congrArg List.length hs;rw[aU]at W;have I:=j6 (n:=n) (k:=4) be;unfold maxLen;omega,?_⟩
  .have W:=congrArg List.length hs;rw[aU]at W;have I:=j6 (n:=n) (k:=4) be;omega
  refine⟨bv,((k / 65536:Nat):Int),BU be,?_⟩;intro IR w3 r3;have VD:(ds++[k % 65536]).length=ds.length+1:=by simp
  have S6:(eE (ds++[k % 65536])).map (Value.int .i64)=(eE ds).map (Value.int .i64)++[iV ((k % 65536:Nat):Int)]:=by simp[eE]
  refine⟨(k / 65536,ds++[k % 65536],w3),⟨Y.tr r3.cV,by dsimp only;omega,by dsimp only;rw[VD];omega,?_⟩,
   sbgn [(0,2)] r3 ⟨by rw[S6];rfl,trivial⟩ ⟨rfl,by dsimp only;rw[VD];rfl,trivial⟩,by dsimp only;omega⟩
  dsimp only
  rw[<-hs,pz h];simp
 .have h:k=0:=by
   have:¬(k:Int)>0:=aL h;omega
  subst h;rw[lK,List.append_nil]at hs;subst hs;intro I8 we re;refine⟨_,rfl,Y.tr re.cV,?_⟩;have:=re.oo (id:=0) (sz:=1) (m:=(dJ n).length) rfl (by simp[SC]) (by have I:=j6 (n:=n) (k:=4) be;unfold maxLen;omega) bv (by intro u hu;simp at hu;obtain⟨_,_,rfl⟩:=hu;rfl);unfold du;rw[SC];exact this.cO fun g V=>.inr V
variable{cs:List Int}{S:Nat->Prop}
theorem ue(n:Int):(n.tmod 65536<0->n % 65536=n.tmod 65536+65536)/\(¬n.tmod 65536<0->n % 65536=n.tmod 65536)/\ -65536<n.tmod 65536/\n.tmod 65536<65536:=by
 by_cases h:0<=n
 .rw[Int.tmod_eq_emod_of_nonneg h];omega
 .have W:n.tmod 65536= -((-n) % 65536):=by
   have:n= -(-n):=by omega
   conv=>lhs;rw[this]
   rw[Int.neg_tmod,Int.tmod_eq_emod_of_nonneg be]
  rw[W];omega
theorem AR(n:Int):(n-n % 65536).tdiv 65536=n / 65536:=by
 have h:n-n % 65536=65536*(n / 65536):=by omega
 rw[h,Int.mul_tdiv_cancel_left _ bv]
theorem AS{w:World}{v:Value}(L:Old S w)(h:du w S v cs)(N:∀c∈cs,-1152921504606846976<=c/\c<=1152921504606846976)(hl:cs.length<=1000000000):
  eD PG Fd.sE #[v] w (eL w fun v' F=>∃o,v'= .tuple #[o,iV (dV cs 0).2]/\F.ownsRow w.heap.size T.int 1 o cs.length ((eE (dV cs 0).1).map (Value.int .i64))):=by
 obtain⟨a,c,rfl,hc⟩:=h.shape;refine uQ ce ?_
 refine⟨Nat×World,fun z=>⟨[(0,sV a cs.length c),(4,.o (.w 0 z.1)),(5,.o (.v (iV (dV (cs.take z.1) 0).2))),(6,iZ z.1)],[(0,.vec T.int 1 ((eE (dV (cs.take z.1) 0).1).map (Value.int .i64)))],1,[],z.2⟩,fun z=>cs.length-z.1,
  fun z=>Bq w z.2/\z.1<=cs.length,?_,?_⟩
 .intro O J r
  exact⟨(0,J),⟨r.cV,ce⟩,Sub.nil 4 T.int 1 rfl (by simp[ka,SV.sc,At.sc,gW]) r fun Id r1=>
   sbgn [] r1⟩
 rintro⟨i,w1⟩ ⟨Y,R⟩;dsimp only at Y R ⊢;obtain⟨-,hdg,hlen⟩:=lJ (cs.take i) 0;have Rn:((eE (dV (cs.take i) 0).1).map (Value.int .i64)).length=i:=by rw[aJ,eY,hlen,bL];omega
 obtain⟨hk1,SL⟩:=kE (cs.take i) 0 (fun c hc=>N c (List.mem_of_mem_take hc)) bv bv;have hR:du w1 S (.slice a cs.length c) cs:=du.cP h fun g V=>Y.block g (L g V);apply bS<;>intro h
 .have h:=dL h;obtain⟨x,E⟩:=gO cs i;obtain⟨Rl,Pe⟩:=N x (aG E);obtain⟨ad,rfl,q1,q2⟩:=hR.load E;have Su:cs.take (i+1)=cs.take i++[x]:=by rw[bE,E];rfl
  have hsn:=BC (cs.take i) x 0;rw[<-Su]at hsn;generalize (dV (cs.take i) 0).1=ds at*
  generalize (dV (cs.take i) 0).2=k at*
  obtain⟨t1,t2,t3,t4⟩:=ue (x+k);have hem1:=Int.emod_nonneg (x+k) (show (65536:Int)≠0 by decide);have hem2:=Int.emod_lt_of_pos (x+k) (show (0:Int)<65536 by decide);refine⟨ad,rfl,be,iV x,fun O J r=>?_,?_⟩
  .rw[aN,cg (w:=w1) (F:=J) (by rw[eQ];exact rls (S:=S) r L (.inl q1))];exact q2
  refine⟨x+k,wo,bv,(x+k).tmod 65536,rfl,?_⟩;apply bS<;>intro Qv
  .have Qv:=t1 (aI Qv);refine⟨(x+k) % 65536,by rw[Qv,wrap64]<;>omega,x+k-(x+k) % 65536,wo,bv,(x+k) / 65536,by rw[AR,wrap64]<;>omega,?_⟩;refine .inl ?_;refine⟨by rw[Rn,bC],be,mx,((i+1:Nat):Int),wo,?_⟩;intro IR w3 r3;have S6:(eE (dV (cs.take (i+1)) 0).1).map (Value.int .i64)=(eE ds).map (Value.int .i64)++[iV ((x+k) % 65536)]:=by
    rw[hsn];simp[eE,Int.toNat_of_nonneg hem1]
   have hk5:(dV (cs.take (i+1)) 0).2=(x+k) / 65536:=by rw[hsn]
   exact⟨(i+1,w3),⟨Y.tr r3.cV,by dsimp only;omega⟩,sbgn [(0,2)] r3 ⟨by dsimp only;rw[S6];rfl,trivial⟩ ⟨rfl,rfl,by dsimp only;rw[hk5];rfl,rfl,trivial⟩,by dsimp only;omega⟩
  .have Qv:=t2 (aL Qv);rw[<-Qv];refine⟨x+k-(x+k) % 65536,wo,bv,(x+k) / 65536,by rw[AR,wrap64]<;>omega,?_⟩;refine .inl ?_;refine⟨by rw[Rn,bC],be,mx,((i+1:Nat):Int),wo,?_⟩;intro IR w3 r3;have S6:(eE (dV (cs.take (i+1)) 0).1).map (Value.int .i64)=(eE ds).map (Value.int .i64)++[iV ((x+k) % 65536)]:=by
    rw[hsn];simp[eE,Int.toNat_of_nonneg hem1]
   have hk5:(dV (cs.take (i+1)) 0).2=(x+k) / 65536:=by rw[hsn]
   exact⟨(i+1,w3),⟨Y.tr r3.cV,by dsimp only;omega⟩,sbgn [(0,2)] r3 ⟨by dsimp only;rw[S6];rfl,trivial⟩ ⟨rfl,rfl,by dsimp only;rw[hk5];rfl,rfl,trivial⟩,by dsimp only;omega⟩
 .have h:i=cs.length:=by
   have:¬i<cs.length:=by simpa using h
   omega
  subst h;rw[bF]at Rn ⊢;exact rtn Y fun I8 we re=>⟨_,rfl,re.Ba (id:=0) rfl (by rw[Rn,bC]) bv⟩
end Go.Ex
namespace Go.Sx
open Go Go.Ex Go.Proofs
variable{ls:List Nat}{O:Nat->Sx.dc}
theorem Rel.JB{H:Hp}{nx:Nat}{iv:Iv}{B:Nat}{w J:World}(r:Rel H nx iv B w O J){id t m:Nat}(h:dF H id=some (.vec t 1 (F8 ls)))(hm:m<=ls.length)(PE:Lm ls)(hle:ls.length<=9223372036854775807):
  dI J (fun g=>B<=g/\g<J.heap.size) ((At.w id m).den O) (ls.take m):=by
 have Oo:(ls.take m).length=m:=by rw[bL];omega
 rcases r.vec id t 1 _ h with⟨U,hu⟩|⟨U,spare,N,hc,Pu⟩
 .have hl:ls=[]:=by cases ls with
   |nil=>rfl
   |cons a b=>simp[F8]at hu
  subst hl;simp at hm;subst hm;have:(At.w id 0).den O=nls:=by simp[At.den,U]
  rw[this];exact dI.nil _ _
 .refine⟨PE.take m,by rw[Oo];omega,some ⟨(O id).g,0,none⟩,(O id).cap,by rw[Oo];simp[At.den,U],?_,fun j x E=>⟨_,rfl,r.low id _ h U,?_⟩⟩
  .have W:(F8 ls++spare).length=ls.length+spare.length:=by rw[aU,fZ]
   rw[Oo];omega
  .rw[List.getElem?_take]at E;split at E
   .rw[cd,cell_of N,aR,aQ (by rw[fZ];exact(aH.1 E).1)];exact sG E
   .cases E
end Go.Sx
namespace Go.Ex
open Go Go.Sx Go.Proofs
section
variable{ds ls:List Nat}{S:Nat->Prop}
theorem Ej{n:Nat}(_hn:n<ls.length)(h0:ls[n]? =some 0):dh (ls.take (n+1))=dh (ls.take n):=by
 rw[bE,h0];exact kb _
theorem Ek{n x:Nat}(h0:ls[n]? =some x)(E:x≠0):dh (ls.take (n+1))=ls.take (n+1):=by
 rw[bE,h0];exact oI _ E
theorem DR{w:World}{v:Value}(L:Old S w)(h:du w S v (eE ds))(hd:Dg ds)(hl:ds.length<=1000000000):
  eD PG Fd.tL #[v] w (eL w fun v' F=>∃lv,v'= .agg #[.bool false,lv]/\dI F (Nf w F) lv (dh (gY ds))):=by
 obtain⟨a,c,rfl,hc⟩:=h.shape;rw[eY]at hc h ⊢;refine wI ce ?_
 refine⟨Nat×World,fun z=>match z.1 with
   |0=>⟨[(0,sV a ds.length c),(2,pP 0 0),(3,pP 1 0),(4,iZ 0)],[(1,.box T.Int [.v (.bool false),.v nls]),(0,.box T.Int [.v (.bool false),.v nls])],2,[],z.2⟩
   |k+1=>⟨[(0,sV a ds.length c),(2,pP 0 0),(3,pP 1 0),(4,.o (.v (iV ((2*(k+1):Nat):Int))))],[(2,.vec T.uint32 1 (F8 (pk ds (k+1)))),(1,.box T.Int [.v (.bool false),.w 2 (k+1)]),(0,.box T.Int [.v (.bool false),.v nls])],3,[],z.2⟩,
  fun z=>ds.length-z.1,fun z=>Bq w z.2/\2*z.1<=ds.length+1,?_,?_⟩
 .intro O J r;exact⟨(0,J),⟨r.cV,ce⟩,sbgn [] r⟩
 rintro⟨k,w1⟩ ⟨Y,R⟩;dsimp only at Y R;have hR:du w1 S (.slice a ds.length c) (eE ds):=du.cP h fun g V=>Y.block g (L g V)
 cases k with
 |zero=>
  apply bS<;>intro W
  .have W:0<ds.length:=by
    have:=aI W;omega
   obtain⟨d0,Xn⟩:=gO ds 0;have hd0b:=hd d0 (aG Xn);have Si:ds.getD (2*0) 0=d0:=by show ds.getD 0 0=d0;rw[List.getD,Xn];rfl
   obtain⟨ad,rfl,q1,q2⟩:=hR.load (j:=0) (x:=(d0:Int)) (by rw[eE,aS,Xn];rfl);refine⟨ad,rfl,be,iV (d0:Int),fun O J r=>?_,?_⟩
   .show J.cell? (ad.add (0*1))=_;rw[cg (w:=w1) (F:=J) (by rw[eQ];exact rls (S:=S) r L (.inl q1))];exact q2
   refine inc 0 ?_;apply bS<;>intro I
   .have I:0+1<ds.length:=by
     have:=aI I;omega
    obtain⟨d1,RH⟩:=gO ds (0+1);have hd1b:=hd d1 (aG RH);have Rc:ds.getD (2*0+1) 0=d1:=by show ds.getD (0+1) 0=d1;rw[List.getD,RH];rfl
    obtain⟨_,Ou,q3,q4⟩:=hR.load (j:=0+1) (x:=(d1:Int)) (by rw[eE,aS,RH];rfl);injection Ou with Ou;subst Ou;refine⟨((0+1:Nat):Int),wo,ad,rfl,be,iV (d1:Int),fun O J r=>?_,?_⟩
    .show J.cell? (ad.add ((0+1)*1))=_;rw[cg (w:=w1) (F:=J) (by rw[eQ];exact rls (S:=S) r L (.inl q3))];exact q4
    refine⟨((65536*d1:Nat):Int),wo,((d0+65536*d1:Nat):Int),wo,?_⟩;have SU:=wZ ds 0;rw[Si,Rc]at SU;generalize d0+65536*d1=dd at*
    have hdd:dd<4294967296:=ID hd (0+1) dd (by rw[SU];simp);refine⟨(dd:Int),by rw[iM]<;>omega,?_⟩;refine .inl ?_;refine⟨be,mx,((2*(0+1):Nat):Int),wo,?_⟩;intro IR w3 r3;have hU:F8 (pk ds (0+1))=F8 (pk ds 0)++[.int .u32 (dd:Int)]:=by rw[SU];simp[F8]
    exact⟨(0+1,w3),⟨Y.tr r3.cV,by dsimp only;omega⟩,sbgn [(2,3)] r3 ⟨by dsimp only;rw[hU];rfl,rfl,rfl,trivial⟩,by dsimp only;omega⟩
   .have I:0+1=ds.length:=by
     have:=aL I;omega
    have Rc:ds.getD (2*0+1) 0=0:=by show ds.getD (0+1) 0=0;rw[List.getD,List.getElem?_eq_none be];rfl
    have SU:=wZ ds 0;rw[Si,Rc]at SU;obtain⟨dd,hdde⟩:∃dd,dd=d0:=⟨_,rfl⟩
    rw[<-hdde]at SU ⊢;have hdd:dd<4294967296:=by omega
    rw[show dd+65536*0=dd by omega]at SU;refine⟨(dd:Int),by rw[iM]<;>omega,?_⟩;refine .inl ?_;refine⟨be,mx,((2*(0+1):Nat):Int),wo,?_⟩;intro IR w3 r3;have hU:F8 (pk ds (0+1))=F8 (pk ds 0)++[.int .u32 (dd:Int)]:=by rw[SU];simp[F8]
    exact⟨(0+1,w3),⟨Y.tr r3.cV,by dsimp only;omega⟩,sbgn [(2,3)] r3 ⟨by dsimp only;rw[hU];rfl,rfl,rfl,trivial⟩,by dsimp only;omega⟩
  .have W:ds=[]:=by
    have:=aL W;exact List.eq_nil_of_length_eq_zero be
   subst W;refine⟨World,fun z=>⟨[(2,pP 0 0),(3,pP 1 0),(6,iZ 0)],[(1,.box T.Int [.v (.bool false),.v nls]),(0,.box T.Int [.v (.bool false),.v nls])],2,[],z⟩,fun _=>0,fun z=>Bq w z,?_,?_⟩
   .intro O J r;exact⟨J,Y.tr r.cV,sbgn [] r⟩
   intro F Y;dsimp only at Y ⊢;refine⟨⟨bv,bv,bv⟩,none,0,0,d5,d5,d5,?_⟩;exact rtn Y fun I8 we re=>⟨_,rfl,dI.nil _ _⟩
 |succ k=>
  apply bS<;>intro W
  .have W:(2*(k+1))<ds.length:=by
    have:=aI W;omega
   obtain⟨d0,Xn⟩:=gO ds ((2*(k+1)));have hd0b:=hd d0 (aG Xn);have Si:ds.getD (2*(k+1)) 0=d0:=by show ds.getD (2*(k+1)) 0=d0;rw[List.getD,Xn];rfl
   obtain⟨ad,rfl,q1,q2⟩:=hR.load (j:=(2*(k+1))) (x:=(d0:Int)) (by rw[eE,aS,Xn];rfl);refine⟨ad,rfl,be,iV (d0:Int),fun O J r=>?_,?_⟩
   .show J.cell? (ad.add ((2*(k+1))*1))=_;rw[cg (w:=w1) (F:=J) (by rw[eQ];exact rls (S:=S) r L (.inl q1))];exact q2
   refine⟨(((2*(k+1))+1:Nat):Int),wo,?_⟩;apply bS<;>intro I
   .have I:(2*(k+1))+1<ds.length:=by
     have:=aI I;omega
    obtain⟨d1,RH⟩:=gO ds ((2*(k+1))+1);have hd1b:=hd d1 (aG RH);have Rc:ds.getD (2*(k+1)+1) 0=d1:=by show ds.getD ((2*(k+1))+1) 0=d1;rw[List.getD,RH];rfl
    obtain⟨_,Ou,q3,q4⟩:=hR.load (j:=(2*(k+1))+1) (x:=(d1:Int)) (by rw[eE,aS,RH];rfl);injection Ou with Ou;subst Ou;refine⟨(((2*(k+1))+1:Nat):Int),wo,ad,rfl,be,iV (d1:Int),fun O J r=>?_,?_⟩
    .show J.cell? (ad.add (((2*(k+1))+1)*1))=_;rw[cg (w:=w1) (F:=J) (by rw[eQ];exact rls (S:=S) r L (.inl q3))];exact q4
    refine⟨((65536*d1:Nat):Int),wo,((d0+65536*d1:Nat):Int),wo,?_⟩;have SU:=wZ ds (k+1);rw[Si,Rc]at SU;generalize d0+65536*d1=dd at*
    have hdd:dd<4294967296:=ID hd ((k+1)+1) dd (by rw[SU];simp);refine⟨(dd:Int),by rw[iM]<;>omega,?_⟩;refine .inl ?_;refine⟨by rw[fZ,uH];omega,be,mx,((2*((k+1)+1):Nat):Int),wo,?_⟩;intro IR w3 r3;have hU:F8 (pk ds ((k+1)+1))=F8 (pk ds (k+1))++[.int .u32 (dd:Int)]:=by rw[SU];simp[F8]
    exact⟨((k+1)+1,w3),⟨Y.tr r3.cV,by dsimp only;omega⟩,sbgn [(2,4)] r3 ⟨by dsimp only;rw[hU];rfl,rfl,rfl,trivial⟩,by dsimp only;omega⟩
   .have I:(2*(k+1))+1=ds.length:=by
     have:=aL I;omega
    have Rc:ds.getD (2*(k+1)+1) 0=0:=by show ds.getD ((2*(k+1))+1) 0=0;rw[List.getD,List.getElem?_eq_none be];rfl
    have SU:=wZ ds (k+1);rw[Si,Rc]at SU;obtain⟨dd,hdde⟩:∃dd,dd=d0:=⟨_,rfl⟩
    rw[<-hdde]at SU ⊢;have hdd:dd<4294967296:=by omega
    rw[show dd+65536*0=dd by omega]at SU;refine⟨(dd:Int),by rw[iM]<;>omega,?_⟩;refine .inl ?_;refine⟨by rw[fZ,uH];omega,be,mx,((2*((k+1)+1):Nat):Int),wo,?_⟩;intro IR w3 r3;have hU:F8 (pk ds ((k+1)+1))=F8 (pk ds (k+1))++[.int .u32 (dd:Int)]:=by rw[SU];simp[F8]
    exact⟨((k+1)+1,w3),⟨Y.tr r3.cV,by dsimp only;omega⟩,sbgn [(2,4)] r3 ⟨by dsimp only;rw[hU];rfl,rfl,rfl,trivial⟩,by dsimp only;omega⟩
  .have W:ds.length<=2*(k+1):=by
    have:=aL W;omega
   have Z:k+1=(ds.length+1) / 2:=by omega
   have SU:pk ds (k+1)=gY ds:=by rw[Z];exact IC ds
   have hlen:=uH ds (k+1);have PE:=ID hd (k+1);rw[<-SU];obtain⟨ls,hls⟩:∃ls,ls=pk ds (k+1):=⟨_,rfl⟩
   rw[<-hls]at hlen PE ⊢
   refine⟨by show(F8 (pk ds (k+1))).length=_;rw[<-hls,fZ,hlen];simp,Nat×World,fun z=>⟨[(2,pP 0 0),(3,pP 1 0),(6,iZ z.1)],[(2,.vec T.uint32 1 (F8 ls)),(1,.box T.Int [.v (.bool false),.w 2 (k+1)]),(0,.box T.Int [.v (.bool false),.v nls])],3,[],z.2⟩,fun z=>z.1,
    fun z=>Bq w z.2/\z.1<=k+1/\dh (ls.take z.1)=dh ls,?_,?_⟩
   .intro O J r;exact⟨(k+1,J),⟨Y.tr r.cV,lr,by dsimp only;rw[List.take_of_length_le be]⟩,sbgn [] r ⟨by dsimp only;rw[hls];rfl,rfl,rfl,trivial⟩⟩
   rintro⟨n,F⟩ ⟨Y,U,htr⟩;dsimp only at Y U htr ⊢
   cases n with
   |zero=>
    refine⟨by rw[fZ,hlen];simp,⟨be,be⟩,0,d5,?_⟩;intro I8 we re;refine⟨_,rfl,Y.tr re.cV,_,rfl,?_⟩;have:=re.JB (id:=2) (m:=0) rfl (bA _) PE be;rw[<-htr];exact this.cO fun g V=>.inr V
   |succ n=>
    obtain⟨x,E⟩:=gO ls n;refine zF.mk (fun hp=>?_) (fun hp=>absurd (aL hp) be);refine⟨(n:Int),wo,by rw[fZ,hlen];simp,be,.int .u32 (x:Int),by simpa using sG E,?_⟩;apply bS<;>intro h0
    .have h0:x=0:=by have:=eq_of_beq h0;omega
     subst h0;refine⟨(n:Int),wo,?_⟩;intro IR w3 r3;exact⟨(n,w3),⟨Y.tr r3.cV,by dsimp only;omega,by dsimp only;rw[<-htr,Ej be E]⟩,sbgn [] r3,by dsimp only;omega⟩
    .have h0:x≠0:=fun e=>by rw[e]at h0;exact absurd h0 bv
     refine⟨by rw[fZ,hlen];simp,⟨be,be⟩,n+1,d5,?_⟩;intro I8 we re;refine⟨_,rfl,Y.tr re.cV,_,rfl,?_⟩;have:=re.JB (id:=2) (m:=n+1) rfl be PE be;rw[<-htr,Ek E h0];exact this.cO fun g V=>.inr V
end
variable{H:Hp}{z:Int}{iv:Iv}{cs:List Int}{b ds ls:List Nat}{xs:List Value}{B nx:Nat}{S:Nat->Prop}{O:Nat->Sx.dc}{u v:Value}{w:World}
theorem th{J F:World}{v':Value}(hc:tt iv v)(r:Rel H nx iv B w O J)(Qu:∀g,v'.ownBlock=some g->g<F.heap.size/\(v.ownBlock=some g\/g=J.heap.size)):
  ∀lo R,(lo,R)∈e8 v'->R<=F.heap.size/\∀id b,dF H id=some b->(O id).nil=false->¬(lo<=(O id).g/\(O id).g<R):=fun lo R hm=>by
 obtain⟨V,rfl⟩:=jz.1 hm;obtain⟨W,I⟩:=Qu _ V;refine⟨be,fun id c hc' U G=>?_⟩;rcases I with I|I
 .exact hc.not r I id c hc' U be
 .have:=(r.low id c hc' U).2;omega
theorem dI.out{w1 J:World}(h:dI w1 (Cv S w.heap.size iv) v ls)(r:Rel H nx iv w.heap.size w1 O J)(L:Old S w):dI J (Nw S w J) v ls:=
 (dI.rel h r L).cO fun _ V=>Cv.nw V r
theorem Fu{B' e sz m:Nat}(h:w.ownsRow B e sz v m xs)(N:B'<=B):w.ownsRow B' e sz v m xs:=⟨h.1,h.2.imp id fun⟨g,cap,cur,k1,k2,k3⟩=>⟨g,cap,cur,k1,be,k3⟩⟩
theorem tj(a b:List Nat):eE (a++b)=eE a++eE b:=by simp[eE]
theorem rT{m:Nat}(h:w.ownsRow B T.int 1 v m (cs.map (Value.int .i64)))(hm:m=cs.length)(hl:m<=maxLen):du w (fun g=>v.ownBlock=some g) v cs:=by
 subst hm;rcases h.2 with⟨rfl,h0⟩|⟨g,cap,cur,rfl,N,hc,RL,Pu,Od,QJ⟩
 .have:cs=[]:=List.eq_nil_of_length_eq_zero h0;subst this;exact⟨by simp[maxLen],ce,ce,none,0,rfl,lr,ce⟩
 .refine⟨hl,h.1,fun u hu=>by simp at hu;obtain⟨_,_,rfl⟩:=hu;rfl,_,cap,rfl,RL,fun j u hu=>⟨_,rfl,rfl,?_⟩⟩;exact h.cells (g:=g) rfl j u hu
theorem Dg.append{a:List Nat}(ha:Dg a)(N:Dg b):Dg (a++b):=fun x E=>(bY.1 E).elim (ha x) (N x)
theorem vW(a b:List Nat):mM (a++b)=mM a+up a.length*mM b:=by
 unfold mM;rw[List.map_append,zI,aJ]
theorem yp(hd:Dg ds):Nz (dh (gY ds))/\(val (dh (gY ds)):Int)=mM ds:=by
 obtain⟨W,I,_⟩:=xc ds hd;obtain⟨k1,k2,_⟩:=e7 (gY ds);exact⟨k2,by rw[k1,W]⟩
theorem uf(L:Old S w)(h:du w S v cs)(N:∀c∈cs,-1152921504606846976<=c/\c<=1152921504606846976)(hl:cs.length<=100000000):
  eD PG Fd.kF #[v] w (eL w fun v' F=>dG F (Nf w F) v' (dS cs)):=by
 obtain⟨a,c,rfl,hc⟩:=h.shape;obtain⟨Xo,hdg,SC⟩:=lJ cs 0;obtain⟨hk1,SL⟩:=kE cs 0 N bv bv;rw[Int.add_zero]at Xo;refine uN ce ?_;refine cM (cN (I9:=fun _ J v' F=>∃o,v'= .tuple #[o,iV (dV cs 0).2]/\F.ownsRow J.heap.size T.int 1 o cs.length ((eE (dV cs 0).1).map (Value.int .i64))) (fun O J r=>AS (oS L r) (du.cP h fun g V=>rls (S:=S) r L (.inl V)) N be) ?_);rintro O wa v1 wb r G Y ⟨o,rfl,OI⟩;have QS:tt [(wa.heap.size,wb.heap.size)] o:=fun g V=>⟨_,_,bW.2 rfl,(ownsRow.low OI g V).1,(ownsRow.low OI g V).2⟩
 replace OI:=Fu OI r.cR;generalize [(wa.heap.size,wb.heap.size)]=iv at*
 generalize hds:(dV cs 0).1=ds at*
 generalize Z:(dV cs 0).2=k at*
 obtain⟨ao,co,rfl,hco⟩:=eK OI;apply bS<;>intro Qv
 .have Qv:=aI Qv;have hV:dS cs<0:=by
   have W:=(xb hdg).2;rw[SC]at W;have I:=IB cs.length;have h3:up cs.length*k<=up cs.length*(-1):=Int.mul_le_mul_of_nonneg_left be be;omega
  obtain⟨WI,Xp,hdl2⟩:=lJ (cs.map (- ·)) 0;have PD:∀c∈cs.map (- ·),-1152921504606846976<=c/\c<=1152921504606846976:=fun c hc=>by
   obtain⟨x,E,rfl⟩:=bD.1 hc;have:=N x E;omega
  obtain⟨hk1',hk2'⟩:=kE (cs.map (- ·)) 0 PD bv bv;rw[Int.add_zero,EB,aJ]at WI;rw[aJ]at hdl2;have Ui:0<=(dV (cs.map (- ·)) 0).2:=by
   have W:=(xb Xp).2;rw[hdl2]at W;have I:=IB cs.length;apply Decidable.byContradiction;intro h3;have h4:up cs.length*(dV (cs.map (- ·)) 0).2<=up cs.length*(-1):=Int.mul_le_mul_of_nonneg_left be be;omega
  refine⟨Nat×World,fun z=>⟨[(0,sV a cs.length c),(2,pP 0 0),(3,sV ao cs.length co),(5,iZ z.1)],[(0,.box T.Int [.v (.bool false),.v nls])],1,iv,z.2⟩,fun z=>cs.length-z.1,
   fun z=>z.1<=cs.length/\Bq w z.2/\z.2.ownsRow w.heap.size T.int 1 (.slice ao cs.length co) cs.length (((cs.take z.1).map (- ·)++(eE ds).drop z.1).map (Value.int .i64)),?_,?_⟩
  .intro O J r;exact⟨(0,J),⟨ce,Y.tr r.cV,by simpa using fD OI QS r⟩,sbgn [] r⟩
  rintro⟨i,w1⟩ ⟨R,Y,OI⟩;dsimp only at R Y OI ⊢;have hR:du w1 S (.slice a cs.length c) cs:=du.cP h fun g V=>Y.block g (L g V);apply bS<;>intro OJ
  .have OJ:=dL OJ;obtain⟨x,E⟩:=gO cs i;obtain⟨Rl,Pe⟩:=N x (aG E);obtain⟨ad,rfl,q1,q2⟩:=hR.load E;obtain⟨go,WV⟩:∃g,ao=some ⟨g,0,none⟩:=by
    rcases OI.2 with⟨_,h0⟩|⟨g,cap,cur,e,_⟩
    .omega
    .injection e with e;exact⟨g,e⟩
   subst WV;refine⟨ad,rfl,be,iV x,fun O J r=>?_,?_⟩
   .rw[aN,cg (w:=w1) (F:=J) (by rw[eQ];exact rls (S:=S) r L (.inl q1))];exact q2
   refine⟨-x,wo,⟨go,0,none⟩,rfl,be,?_⟩;intro O J r;have Rt:=fD OI QS r;obtain⟨g',Qy,OV,Pr,PY,Od⟩:=nJ (nv:=[iV (-x)]) Rt rfl OJ rfl bv;injection Qy with Qy;injection Qy with Qy;subst Qy;rw[B9 (by rw[aJ,aU,aJ,bL,List.length_drop,eY,SC];omega)]at Pr;have Ou:(⟨go,0,none⟩:Addr).add ((i:Int).toNat*1)=⟨go,i*1,none⟩:=by rw[aN,cd,aR]
   have PF:=fun id b N U=>QS.not r (b:=go) rfl id b N U;have hgoB:=(ownsRow.low OI go rfl).1;have hw':Bq w (setCells J ⟨go,i*1,none⟩ [iV (-x)]):=(Y.tr r.cV).tr (Bel.grown PY (fun g V=>by injection V with V;subst V;exact hgoB) r.cR);have hlist:(((cs.take i).map (- ·)++(eE ds).drop i).map (Value.int .i64)).set i (iV (-x))=((cs.take (i+1)).map (- ·)++(eE ds).drop (i+1)).map (Value.int .i64):=by
    rw[<-List.map_set];congr 1;have SI:((cs.take i).map (- ·)).length=i:=by rw[aJ,bL];omega
    obtain⟨d,hd⟩:∃d,(eE ds)[i]? =some d:=⟨_,aE (by rw[eY,SC];exact OJ)⟩
    have RZ:(eE ds).drop i=d::(eE ds).drop (i+1):=by
     rw[List.drop_eq_getElem_cons (by rw[eY,SC];exact OJ)];congr 1;have:=aE (l:=eE ds) (i:=i) (by rw[eY,SC];exact OJ);rw[hd]at this;injection this with this;exact this.symm
    rw[bE,E,List.map_append,RZ,List.set_append_right _ _ be,SI,bj];simp
   refine⟨by rw[Ou],fun j hj=>by rw[Ou];exact OV j hj,fun id b N U=>by rw[Ou];exact PF id b N U,fun F Q3=>?_⟩;have Q3:F=setCells J ⟨go,i*1,none⟩ [iV (-x)]:=by rw[Q3];exact congrArg (fun x=>setCells J x _) Ou
   rw[<-Q3]at Pr hw'
   erw [hlist]at Pr
   refine inc i ?_;intro IR w3 r3;exact⟨(i+1,w3),⟨OJ,hw'.tr r3.cV,fD Pr QS r3⟩,sbgn [] r3,dec OJ⟩
  have OJ:i=cs.length:=by
   have:¬i<cs.length:=by simpa using OJ
   omega
  subst OJ;rw[bF,List.drop_of_length_le (by rw[eY,SC];exact ae _),List.append_nil]at OI;refine⟨⟨be,be,be⟩,ao,cs.length,co,Cr ao co,be,be,?_⟩;refine cM (cN (I9:=fun _ J v' F=>∃o,v'= .tuple #[o,iV (dV (cs.map (- ·)) 0).2]/\F.ownsRow J.heap.size T.int 1 o cs.length ((eE (dV (cs.map (- ·)) 0).1).map (Value.int .i64))) (fun O J r=>?_) ?_)
  .have h8:=fD OI QS r;have h9:=rT h8 (by rw[aJ]) mx;have h10:=AS (fun g V=>(ownsRow.low h8 g V).2) h9 PD (by rw[aJ];omega);rw[aJ]at h10;exact h10
  rintro O wc v1 wd r G OX ⟨o2,rfl,Ox⟩;have RA:tt ((wc.heap.size,wd.heap.size)::iv) o2:=fun g V=>⟨_,_,aF,(ownsRow.low Ox g V).1,(ownsRow.low Ox g V).2⟩
  replace Ox:=Fu Ox r.cR;replace Y:=Y.tr OX;generalize (wc.heap.size,wd.heap.size)::iv=iv2 at*
  generalize hds2:(dV (cs.map (- ·)) 0).1=ds2 at*
  generalize hkk2:(dV (cs.map (- ·)) 0).2=k2 at*
  obtain⟨kn,rfl⟩:∃kn:Nat,k2=kn:=⟨k2.toNat,be⟩
  obtain⟨ao2,co2,rfl,hco2⟩:=eK Ox;have ds2_len:ds2.length=cs.length:=hdl2;have ds2_dg:Dg ds2:=Xp;refine cM (cN (I9:=fun _ J v F=>du F (Nf J F) v (eE (dJ kn))) (fun O J r=>by exact DQ kn J be) ?_);rintro O ws vs wt r G N hsp;have UE:du wt (Cf w ((ws.heap.size,wt.heap.size)::iv2)) vs (eE (dJ kn)):=du.cO hsp fun g V=>V.eX r.cR aF;replace Ox:=ownsRow.cP (fD Ox RA r) fun g V=>G.block g (by have:=(ownsRow.low (fD Ox RA r) g V).2;exact this);replace RA:tt ((ws.heap.size,wt.heap.size)::iv2) _:=RA.mono fun p hp=>aD _ hp;replace Y:=Y.tr N;generalize (ws.heap.size,wt.heap.size)::iv2=nG at*
  obtain⟨asp,csp,rfl,-⟩:=UE.shape;rw[eY]at UE ⊢;have Sv:=j6 (n:=kn) (k:=4) be;have hsd:=(lL kn).2
  refine .inr (gp hτ lr (xs:=(eE ds2).map (Value.int .i64)) (news:=(eE (dJ kn)).map (Value.int .i64)) (m:=cs.length) (k:=(dJ kn).length) d5 d5 bv d5 d5 (fun O J r=>⟨fD Ox RA r,fun g V=>RA.not r V⟩) (by simp[eE]) (by intro u hu;simp at hu;obtain⟨_,_,rfl⟩:=hu;rfl) mx be
   (fun O J r=>?_) (fun v' F=>e8 v') (fun O J v' F r Od Qu=>th RA r Qu) (fun O J v' F r h5 h6 h7=>?_))
  .obtain⟨_,_,_,a2,c2,e2,_,e3⟩:=UE;injection e2 with e4 e5 e6;subst e4 e6
   cases asp with
   |none=>
    have h0:(dJ kn).length=0:=by
     rcases bB (dJ kn).length with h0|h0
     .exact h0
     .obtain⟨ad2,q1,_⟩:=e3 0 _ (aE (show 0<((eE (dJ kn)).map (Value.int .i64)).length by simp[eE];exact h0))
      cases q1
    exact .inl ⟨csp,by rw[h0];rfl,h0⟩
   |some ad3=>
    refine .inr ⟨ad3,csp,rfl,fun j u hu=>?_⟩;obtain⟨ad2,q1,q2,q3⟩:=e3 j u hu;injection q1 with q1;subst q1;rw[cg (w:=wt) (F:=J) (by rw[eQ];exact rls r oF q2)];exact q3
  replace Y:Bq w F:=(Y.tr r.cV).tr (Bel.grown h6 (fun g V=>by
   have:=(ownsRow.low Ox g V).1;omega) r.cR)
  have hcat:(eE ds2).map (Value.int .i64)++(eE (dJ kn)).map (Value.int .i64)=(eE (ds2++dJ kn)).map (Value.int .i64):=by rw[tj,List.map_append]
  rw[hcat]at h5;have SK:cs.length+(dJ kn).length=(eE (ds2++dJ kn)).length:=by rw[eY,aU,ds2_len]
  have WJ:Dg (ds2++dJ kn):=ds2_dg.append hsd;have Ph:(ds2++dJ kn).length<=1000000000:=by rw[aU,ds2_len];omega
  obtain⟨a3,c3,rfl,-⟩:=eK h5;refine cM (cN (I9:=fun _ J v' F=>∃lv,v'= .agg #[.bool false,lv]/\dI F (Nf J F) lv (dh (gY (ds2++dJ kn)))) (fun O J r=>?_) ?_)
  .have h8:=fD h5 (tt.row _) r;have h9:=rT h8 SK mx;have h10:=DR (w:=J) (fun g V=>(ownsRow.low h8 g V).2) h9 WJ Ph;exact h10
  rintro O wp v1 wq r G N ⟨lv,rfl,hL⟩;have VA:=hL.eX (S:=FF) r.cR (iv:=[(wp.heap.size,wq.heap.size)]) aF;have VA:dI wq (Cf w ((wp.heap.size,wq.heap.size)::e8 (.slice a3 (cs.length+(dJ kn).length) c3))) lv (dh (gY (ds2++dJ kn))):=hL.cO fun g V=>V.eX r.cR aF;replace Y:=Y.tr N;generalize (wp.heap.size,wq.heap.size)::e8 (.slice a3 (cs.length+(dJ kn).length) c3)=ivq at*
  obtain⟨hnz,hvv⟩:=yp WJ;obtain⟨a4,n4,c4,rfl⟩:=VA.shape;have Vo: -dS cs=mM (ds2++dJ kn):=by rw[WI,vW,(lL kn).1,ds2_len]
  obtain⟨pp,Wd,hpp⟩:=VA.la;injection Wd with WC hpe2 WD;subst WC hpe2 WD;have hlenpos:0<pp.ls.length:=by
   rw[hpp];rcases bB (dh (gY (ds2++dJ kn))).length with h0|h0
   .rw[List.eq_nil_of_length_eq_zero h0]at hvv;simp[val]at hvv;omega
   .exact h0
  intro I8 we re;refine⟨_,rfl,Y.tr re.cV,dh (gY (ds2++dJ kn)),⟨_,?_,VA.out re oF⟩,hnz,?_⟩
  .rw[bQ hV];have:decide ((pp.ls.length:Int)>0)=true:=bQ be;rw[<-this];rfl
  .have:((val (dh (gY (ds2++dJ kn))):Nat):Int)= -dS cs:=by rw[hvv,Vo]
   omega
 .have Qv:=aL Qv;obtain⟨kn,rfl⟩:∃kn:Nat,k=kn:=⟨k.toNat,be⟩
  have ds_len:ds.length=cs.length:=SC;have ds_dg:Dg ds:=hdg;refine cM (cN (I9:=fun _ J v F=>du F (Nf J F) v (eE (dJ kn))) (fun O J r=>by exact DQ kn J be) ?_);rintro O ws vs wt r G N hsp;have UE:du wt (Cf w ((ws.heap.size,wt.heap.size)::iv)) vs (eE (dJ kn)):=du.cO hsp fun g V=>V.eX r.cR aF;replace OI:=ownsRow.cP (fD OI QS r) fun g V=>G.block g (by have:=(ownsRow.low (fD OI QS r) g V).2;exact this);replace QS:tt ((ws.heap.size,wt.heap.size)::iv) _:=QS.mono fun p hp=>aD _ hp;replace Y:=Y.tr N;generalize (ws.heap.size,wt.heap.size)::iv=nG at*
  obtain⟨asp,csp,rfl,-⟩:=UE.shape;rw[eY]at UE ⊢;have Sv:=j6 (n:=kn) (k:=4) be;have hsd:=(lL kn).2
  refine .inr (gp hτ lr (xs:=(eE ds).map (Value.int .i64)) (news:=(eE (dJ kn)).map (Value.int .i64)) (m:=cs.length) (k:=(dJ kn).length) d5 d5 bv d5 d5 (fun O J r=>⟨fD OI QS r,fun g V=>QS.not r V⟩) (by simp[eE]) (by intro u hu;simp at hu;obtain⟨_,_,rfl⟩:=hu;rfl) mx be
   (fun O J r=>?_) (fun v' F=>e8 v') (fun O J v' F r Od Qu=>th QS r Qu) (fun O J v' F r h5 h6 h7=>?_))
  .obtain⟨_,_,_,a2,c2,e2,_,e3⟩:=UE;injection e2 with e4 e5 e6;subst e4 e6
   cases asp with
   |none=>
    have h0:(dJ kn).length=0:=by
     rcases bB (dJ kn).length with h0|h0
     .exact h0
     .obtain⟨ad2,q1,_⟩:=e3 0 _ (aE (show 0<((eE (dJ kn)).map (Value.int .i64)).length by simp[eE];exact h0))
      cases q1
    exact .inl ⟨csp,by rw[h0];rfl,h0⟩
   |some ad3=>
    refine .inr ⟨ad3,csp,rfl,fun j u hu=>?_⟩;obtain⟨ad2,q1,q2,q3⟩:=e3 j u hu;injection q1 with q1;subst q1;rw[cg (w:=wt) (F:=J) (by rw[eQ];exact rls r oF q2)];exact q3
  replace Y:Bq w F:=(Y.tr r.cV).tr (Bel.grown h6 (fun g V=>by
   have:=(ownsRow.low OI g V).1;omega) r.cR)
  have hcat:(eE ds).map (Value.int .i64)++(eE (dJ kn)).map (Value.int .i64)=(eE (ds++dJ kn)).map (Value.int .i64):=by rw[tj,List.map_append]
  rw[hcat]at h5;have SK:cs.length+(dJ kn).length=(eE (ds++dJ kn)).length:=by rw[eY,aU,ds_len]
  have WJ:Dg (ds++dJ kn):=ds_dg.append hsd;have Ph:(ds++dJ kn).length<=1000000000:=by rw[aU,ds_len];omega
  obtain⟨a3,c3,rfl,-⟩:=eK h5;refine cM (cN (I9:=fun _ J v' F=>∃lv,v'= .agg #[.bool false,lv]/\dI F (Nf J F) lv (dh (gY (ds++dJ kn)))) (fun O J r=>?_) ?_)
  .have h8:=fD h5 (tt.row _) r;have h9:=rT h8 SK mx;have h10:=DR (w:=J) (fun g V=>(ownsRow.low h8 g V).2) h9 WJ Ph;exact h10
  rintro O wp v1 wq r G N ⟨lv,rfl,hL⟩;have VA:=hL.eX (S:=FF) r.cR (iv:=[(wp.heap.size,wq.heap.size)]) aF;have VA:dI wq (Cf w ((wp.heap.size,wq.heap.size)::e8 (.slice a3 (cs.length+(dJ kn).length) c3))) lv (dh (gY (ds++dJ kn))):=hL.cO fun g V=>V.eX r.cR aF;replace Y:=Y.tr N;generalize (wp.heap.size,wq.heap.size)::e8 (.slice a3 (cs.length+(dJ kn).length) c3)=ivq at*
  obtain⟨hnz,hvv⟩:=yp WJ;obtain⟨a4,n4,c4,rfl⟩:=VA.shape;intro I8 we re;have Vo:dS cs=mM (ds++dJ kn):=by rw[Xo,vW,(lL kn).1,ds_len]
  refine⟨_,rfl,Y.tr re.cV,dh (gY (ds++dJ kn)),⟨_,?_,VA.out re oF⟩,hnz,?_⟩
  .have:¬dS cs<0:=by rw[Vo,<-hvv];omega
   rw[av this];rfl
  .rw[Vo,<-hvv];rfl
theorem Lj(n:Int):dS [n.tmod 65536,(n.tdiv 65536).tmod 65536,(n.tdiv 65536).tdiv 65536]=n:=by
 simp only[dS]
 have W:=Int.mul_tdiv_add_tmod n 65536;have I:=Int.mul_tdiv_add_tmod (n.tdiv 65536) 65536;omega
theorem lF(n:Int)(w:World)(W: -9223372036854775808<=n)(I:n<=9223372036854775807):
  eD PG Fd.Cl #[iV n] w (eL w fun v F=>dG F (Nf w F) v n):=by
 refine Co ce ?_;have b1:=ue n;have b2:=ue (n.tdiv 65536);have e1:=Int.mul_tdiv_add_tmod n 65536;have e2:=Int.mul_tdiv_add_tmod (n.tdiv 65536) 65536;have Ua:=Lj n;refine⟨bv,n.tmod 65536,rfl,bv,n.tdiv 65536,wo,bv,_,rfl,bv,n.tdiv 65536,wo,bv,(n.tdiv 65536).tdiv 65536,wo,?_⟩;generalize n.tmod 65536=c0 at*
 generalize (n.tdiv 65536).tmod 65536=c1 at*
 generalize (n.tdiv 65536).tdiv 65536=c2 at*
 refine cM (cN (I9:=fun _ J v F=>dG F (Nf J F) v n) (fun O J r=>?_) ?_)
 .rw[<-Ua];have ha:=r.kh (id:=1) (sz:=1) (n:=3) rfl rfl bv (by intro u hu;simp at hu;rcases hu with rfl|rfl|rfl<;>rfl)
  exact uf (S:=fun g=>g=(O 1).g) (fun g V=>by rw[V];exact(r.low 1 _ rfl (r.nn 1 _ rfl (by intros;simp) ce)).2) (cs:=[c0,c1,c2]) ha (by
   intro c hc;simp at hc
   rcases hc with rfl|rfl|rfl<;>omega) ce
 rintro O wa v1 wb r G N hI;have hI:=hI.eX (S:=FF) r.cR (iv:=(wa.heap.size,wb.heap.size)::[]) aF;generalize (wa.heap.size,wb.heap.size)::[]=iv at*
 obtain⟨b,a,m,c,rfl⟩:=hI.shape;intro I8 we re;exact⟨_,rfl,N.tr re.cV,hI.out re oF⟩
def jj(z:Int):Value:=if z.natAbs<1073741824 then .tuple #[iV z,.bool true]else .tuple #[iV 0,.bool false]
theorem jE.yS(h:jE w S v z):∃b a ls c,v= .agg #[.bool b,.slice a ls.length c]/\dI w S (.slice a ls.length c) ls/\sg b (val ls)=z:=by
 obtain⟨b,ls,⟨lv,W,I⟩,h3⟩:=h;obtain⟨a,c,rfl,_⟩:=I.sl;exact⟨b,a,ls,c,W,I,h3⟩
theorem KU{i x:Nat}(h:ls[i]? =some x):wt i*x<=val ls:=by
 have R:=(aH.1 h).1;have W:=eW ls (i+1) R;rw[dY h]at W;omega
theorem Mk{i:Nat}(h:0<i):4294967296<=wt i:=by
 obtain⟨k,rfl⟩:∃k,i=k+1:=⟨i-1,be⟩
 have:=xS k;rw[iy];omega
theorem nm(L:Old S w)(hI:jE w S v z):
  eD PG Fd.vM #[v] w (eL w fun v' _=>v'=jj z):=by
 obtain⟨b,a,ls,c,rfl,hL,hz⟩:=hI.yS;refine yN ce ?_;have hlen:=hL.le
 refine⟨Nat×World,fun y=>⟨[(1,pP 0 0),(4,.o (.v (iV (val (ls.take y.1))))),(5,iZ y.1)],[(0,.box T.Int [.v (.bool b),.v (.slice a ls.length c)])],1,[],y.2⟩,fun y=>ls.length-y.1,
  fun y=>y.1<=ls.length/\Bq w y.2/\val (ls.take y.1)<1073741824/\(∀j,0<j->j<y.1->ls[j]? =some 0),?_,?_⟩
 .intro O J r;exact⟨(0,J),⟨ce,r.cV,by simp[val],be⟩,sbgn [] r⟩
 rintro⟨i,w1⟩ ⟨R,Y,hv,h0⟩;dsimp only at R Y hv h0 ⊢;apply bS<;>intro OJ
 .have OJ:=dL OJ;obtain⟨a',c',e,_,OY⟩:=hL.sl;injection e with e1 e2 e3;subst e1 e3;obtain⟨x,E⟩:=gO ls i;have QQ:=hL.lm x (aG E);obtain⟨ad,rfl,q1,q2⟩:=OY i x E;have QU:∀{H nx iv O J},Rel H nx iv w.heap.size w1 O J->J.cell? (ad.add ((i:Int).toNat*1))=some (.int .u32 x):=fun r=>by
   rw[aN,bC];exact fY L Y r q1 q2
  have hge:=KU E;apply bS<;>intro hp
  .have hp:0<i:=by
    have:(i:Int)>0:=aI hp;omega
   have hw1:=Mk hp;refine⟨ad,rfl,be,.int .u32 x,fun O J r=>QU r,?_⟩;apply bS<;>intro OL
   .have OL:x≠0:=by simpa using OL
    intro I8 we re;refine⟨_,rfl,Y.tr re.cV,?_⟩;have:¬z.natAbs<1073741824:=by
     have:=Nat.mul_le_mul hw1 (show 1<=x by omega);rw[<-hz,mz];omega
    show _=jj z;rw[jj,aK this];rfl
   .have OL:x=0:=by simpa using OL
    subst OL;refine⟨ad,rfl,be,.int .u32 0,fun O J r=>QU r,?_⟩;have UX:val (ls.take (i+1))=val (ls.take i):=by rw[dY E];omega
    have RD:val (ls.take (i+1))<1073741824:=by rw[UX];exact hv
    have h02:∀j,0<j->j<i+1->ls[j]? =some 0:=fun j W I=>by
     rcases az j i with h3|h3
     .exact h0 j W h3
     .have:j=i:=by omega
      rw[this];exact E
    refine⟨ad,rfl,be,.int .u32 0,fun O J r=>QU r,((0:Nat):Int),bv,((val (ls.take (i+1)):Nat):Int),by rw[UX,wrap64]<;>omega,((i+1:Nat):Int),wo,?_⟩;intro IR w3 r3;exact⟨(i+1,w3),⟨OJ,Y.tr r3.cV,RD,h02⟩,sbgn [] r3,dec OJ⟩
  .have hp:i=0:=by
    have:¬((i:Int)>0):=aL hp;omega
   subst hp;refine⟨ad,rfl,be,.int .u32 x,fun O J r=>QU r,?_⟩;apply bS<;>intro XF
   .have XF:=aI XF;intro I8 we re;refine⟨_,rfl,Y.tr re.cV,?_⟩;have:¬z.natAbs<1073741824:=by
     rw[<-hz,mz];rw[jV]at hge;omega
    show _=jj z;rw[jj,aK this];rfl
   .have XF:=aL XF;have UX:val (ls.take (0+1))=x:=by rw[dY E];simp[val,jV]
    have RD:val (ls.take (0+1))<1073741824:=by rw[UX];omega
    have h02:∀j,0<j->j<0+1->ls[j]? =some 0:=fun j W I=>by
     omega
    refine⟨ad,rfl,be,.int .u32 x,fun O J r=>QU r,((x:Nat):Int),wo,((val (ls.take (0+1)):Nat):Int),by rw[UX,wrap64]<;>simp[val]<;>omega,((0+1:Nat):Int),wo,?_⟩;intro IR w3 r3;exact⟨(0+1,w3),⟨OJ,Y.tr r3.cV,RD,h02⟩,sbgn [] r3,by dsimp only;omega⟩
 .have OJ:i=ls.length:=by
   have:¬i<ls.length:=by simpa using OJ
   omega
  subst OJ;rw[bF]at hv ⊢;have Oo:z.natAbs<1073741824:=by rw[<-hz,mz];exact hv
  cases b with
  |true=>
   refine⟨-(val ls:Int),wo,?_⟩;intro I8 we re;refine⟨_,rfl,Y.tr re.cV,?_⟩;show _=jj z;rw[jj,aM Oo,<-hz,Gm];rfl
  |false=>
   intro I8 we re;refine⟨_,rfl,Y.tr re.cV,?_⟩;show _=jj z;rw[jj,aM Oo,<-hz,LN];rfl
theorem AT{a b:Int}(N:b≠0):a.tdiv (b.sign*(Nat.gcd a.natAbs b.natAbs:Nat))=(Rat.divInt a b).num/\b.tdiv (b.sign*(Nat.gcd a.natAbs b.natAbs:Nat))=((Rat.divInt a b).den:Int):=by
 have V:0<Nat.gcd a.natAbs b.natAbs:=cF _ be;obtain⟨k,Z⟩:((Nat.gcd a.natAbs b.natAbs:Nat):Int) ∣ a:=by rw[<-Int.natAbs_dvd_natAbs];exact Nat.gcd_dvd_left _ _
 obtain⟨l,hl⟩:((Nat.gcd a.natAbs b.natAbs:Nat):Int) ∣ b:=by rw[<-Int.natAbs_dvd_natAbs];exact Nat.gcd_dvd_right _ _
 have hc:(b.gcd a:Int)=(Nat.gcd a.natAbs b.natAbs:Nat):=by rw[Int.gcd_comm];rfl
 have Qf:b.gcd a=Nat.gcd a.natAbs b.natAbs:=by rw[Int.gcd_comm];rfl
 rw[Rat.num_divInt,Rat.den_divInt,aK N,hc,Qf];generalize Nat.gcd a.natAbs b.natAbs=g at*
 have hgi:(g:Int)≠0:=by omega
 have hs:b.sign*b.sign=1:=by
  rcases Int.lt_or_gt_of_ne N with h|h
  .rw[bm h];rfl
  .rw[cD h];rfl
 have hs0:b.sign≠0:=fun e=>by rw[e]at hs;simp at hs
 have OL:b.sign*g≠0:=Int.mul_ne_zero hs0 hgi;have Rj:((b.natAbs / g:Nat):Int)=b.sign*l:=by
  rw[Int.natCast_ediv,show((b.natAbs:Nat):Int)=b.sign*b by
   rcases Int.lt_or_gt_of_ne N with h|h
   .rw[bm h];omega
   .rw[cD h];omega]
  conv=>lhs;lhs;rhs;rw[hl]
  rw[show b.sign*(↑g*l)= ↑g*(b.sign*l) by rw[<-Int.mul_assoc,<-Int.mul_assoc,Int.mul_comm b.sign]];exact Int.mul_ediv_cancel_left _ hgi
 constructor
 .rw[show b.sign*a / (g:Int)=b.sign*k by
   conv=>lhs;lhs;rhs;rw[Z]
   rw[show b.sign*(↑g*k)= ↑g*(b.sign*k) by rw[<-Int.mul_assoc,<-Int.mul_assoc,Int.mul_comm b.sign]]
   exact Int.mul_ediv_cancel_left _ hgi]
  conv=>lhs;lhs;rw[Z,show(g:Int)*k=(b.sign*g)*(b.sign*k) by
   rw[show (b.sign* ↑g)*(b.sign*k)=(b.sign*b.sign)*(↑g*k) by simp only[Int.mul_assoc,Int.mul_comm,Int.mul_left_comm],hs,Int.one_mul]]
  exact Int.mul_tdiv_cancel_left _ OL
 .rw[Rj]
  conv=>lhs;lhs;rw[hl,show(g:Int)*l=(b.sign*g)*(b.sign*l) by
   rw[show (b.sign* ↑g)*(b.sign*l)=(b.sign*b.sign)*(↑g*l) by simp only[Int.mul_assoc,Int.mul_comm,Int.mul_left_comm],hs,Int.one_mul]]
  exact Int.mul_tdiv_cancel_left _ OL
theorem rU(a b:Int)(w:World)(ha:a.natAbs<4611686018427387904)(N:b.natAbs<4611686018427387904)(Ri:b≠0):
  eD PG Fd.tF #[iV a,iV b] w (eL w fun v F=>cZ F (Nf w F) v (Rat.divInt a b)):=by
 refine wC ce ?_;refine⟨-a,wo,-b,wo,?_⟩;conv=>whnf
 rw[show max a (-a)=(a.natAbs:Int) by omega,show max b (-b)=(b.natAbs:Int) by omega]
 refine⟨Nat×Nat×World,fun z=>⟨[(0,iZ a),(1,iZ b),(4,pP 0 0),(5,iZ z.1),(6,iZ z.2.1)],[(0,.box T.Rat [.v (.bool false),.v nls,.v (.bool false),.v nls])],1,[],z.2.2⟩,fun z=>z.2.1,
  fun z=>Bq w z.2.2/\Nat.gcd z.1 z.2.1=Nat.gcd a.natAbs b.natAbs/\z.1<4611686018427387904/\z.2.1<4611686018427387904,?_,?_⟩
 .intro O J r;exact⟨(a.natAbs,b.natAbs,J),⟨r.cV,rfl,ha,N⟩,sbgn [] r⟩
 rintro⟨x,y,w1⟩ ⟨Y,V,E,hy⟩;dsimp only at Y V E hy ⊢;conv=>whnf
 apply bS<;>intro h
 .have h:0<y:=by
   have:(y:Int)>0:=aI h;omega
  refine dP (idO 6) ?_;have hm:=cG x h;refine⟨be,((x % y:Nat):Int),rfl,?_⟩;intro IR w3 r3;exact⟨(y,x % y,w3),⟨Y.tr r3.cV,by dsimp only;rw[<-V,Nat.gcd_comm x y,Nat.gcd_rec y x,Nat.gcd_comm],hy,by dsimp only;omega⟩,sbgn [] r3,by dsimp only;omega⟩
 have h:y=0:=by
  have:¬(y:Int)>0:=aL h;omega
 subst h;rw[Nat.gcd_zero_right]at V;have Qp:x≠0:=by rw[V];exact Nat.pos_iff_ne_zero.1 (cF _ be)
 obtain⟨U,hd⟩:=AT (a:=a) Ri;rw[<-V]at U hd;have bn:(Rat.divInt a b).num.natAbs<=a.natAbs:=by rw[<-U];exact Int.natAbs_tdiv_le_natAbs _ _
 have bd:((Rat.divInt a b).den:Int).natAbs<=b.natAbs:=by rw[<-hd];exact Int.natAbs_tdiv_le_natAbs _ _
 apply bS<;>intro RK
 .have RK:=aI RK;rw[bm RK,Int.neg_one_mul]at U hd;refine⟨-(x:Int),wo,?_⟩;refine dP [.x 0,.x 1,.x 2,.x 4,.x 5,.x 6,.x 3,.x 7,.x 8,.x 9] ?_;refine⟨be,(Rat.divInt a b).num,by rw[U,wrap64]<;>omega,be,((Rat.divInt a b).den:Int),by rw[hd,wrap64]<;>omega,?_⟩;refine cN (I9:=fun _ J v F=>dG F (Nf J F) v (Rat.divInt a b).num) (fun O J r=>lF _ J be be) ?_;rintro O wa v1 wb r G OX hI;replace Y:=Y.tr OX;have hN:=hI.eX (S:=FF) r.cR (iv:=(wa.heap.size,wb.heap.size)::[]) aF;generalize (wa.heap.size,wb.heap.size)::[]=iv at*
  obtain⟨b1,a1,m1,c1,rfl⟩:=hN.shape;refine cN (I9:=fun _ J v F=>dG F (Nf J F) v ((Rat.divInt a b).den:Int)) (fun O J r=>lF _ J be be) ?_;rintro O wa v1 PK r G OX hI;replace Y:=Y.tr OX;replace hN:=hN.cL (K:=(wa.heap.size,PK.heap.size)::iv) r oF G fun x E=>aD _ E;have hD:=hI.eX (S:=FF) r.cR (iv:=(wa.heap.size,PK.heap.size)::iv) aF;generalize (wa.heap.size,PK.heap.size)::iv=iv2 at*
  obtain⟨b2,a2,m2,c2,rfl⟩:=hD.shape;exact rtn Y fun I8 we re=>(cZ.of hN hD).out re oF
 .have RK:=aL RK;rw[cD be,Int.one_mul]at U hd;refine dP [.x 0,.x 1,.x 2,.x 4,.x 5,.x 6,.x 3,.x 7,.x 8,.x 9] ?_;refine⟨be,(Rat.divInt a b).num,by rw[U,wrap64]<;>omega,be,((Rat.divInt a b).den:Int),by rw[hd,wrap64]<;>omega,?_⟩;refine cN (I9:=fun _ J v F=>dG F (Nf J F) v (Rat.divInt a b).num) (fun O J r=>lF _ J be be) ?_;rintro O wa v1 wb r G OX hI;replace Y:=Y.tr OX;have hN:=hI.eX (S:=FF) r.cR (iv:=(wa.heap.size,wb.heap.size)::[]) aF;generalize (wa.heap.size,wb.heap.size)::[]=iv at*
  obtain⟨b1,a1,m1,c1,rfl⟩:=hN.shape;refine cN (I9:=fun _ J v F=>dG F (Nf J F) v ((Rat.divInt a b).den:Int)) (fun O J r=>lF _ J be be) ?_;rintro O wa v1 PK r G OX hI;replace Y:=Y.tr OX;replace hN:=hN.cL (K:=(wa.heap.size,PK.heap.size)::iv) r oF G fun x E=>aD _ E;have hD:=hI.eX (S:=FF) r.cR (iv:=(wa.heap.size,PK.heap.size)::iv) aF;generalize (wa.heap.size,PK.heap.size)::iv=iv2 at*
  obtain⟨b2,a2,m2,c2,rfl⟩:=hD.shape;exact rtn Y fun I8 we re=>(cZ.of hN hD).out re oF
theorem tk(h:z.natAbs<1073741824):jj z= .tuple #[iV z,.bool true]:=aM h
theorem Bb{x y:Int}(L:Old S w)(E:jE w S v x)(hy:jE w S u y)(Ve:x.natAbs<1073741824)(hys:y.natAbs<1073741824)(QH:y≠0):
  eD PG Fd.sS #[v,u] w (eL w fun v' F=>cZ F (Nf w F) v' (Rat.divInt x y)):=by
 have Y:=bR w;replace E:=E.cO (S':=Cv S w.heap.size []) fun _ h=>.inl h;replace hy:=hy.cO (S':=Cv S w.heap.size []) fun _ h=>.inl h;obtain⟨bx,ax,lx,cx,rfl⟩:=E.shape;obtain⟨b2,ay,ly,cy,rfl⟩:=hy.shape;refine sF ce ?_;refine cM (cE Y (pE (.tuple #[iV x,.bool true])) (fun O J r=>(nm (rlo r L) (E.rel r L)).mono fun e F ⟨v2,e1,e2,e3⟩=>⟨v2,e1,e2,by rw[e3,tk Ve]⟩) ?_);rintro O On v1 Oi OS r G Y A rfl;replace E:=E.cL r L G (mC A);replace hy:=hy.cL r L G (mC A);refine cM (cE Y (pE (.tuple #[iV y,.bool true])) (fun O J r=>(nm (rlo r L) (hy.rel r L)).mono fun e F ⟨v2,e1,e2,e3⟩=>⟨v2,e1,e2,by rw[e3,tk hys]⟩) ?_);rintro O _ v1 _ iv2 r G Y A rfl;refine cM (cE Y (pR cZ (Rat.divInt x y)) (fun O J r=>rU x y J be be QH) ?_);rintro O _ _ _ iv r G Y A hI;have hR:=hI.cO (nw r A);obtain⟨b1,a1,m1,c1,b3,a3,m3,c3,rfl⟩:=hR.shape;exact rtn Y fun I8 we re=>hR.out re oF
theorem yq(n:Int):Rat.divInt n 1=(n:Rat):=by
 have:=Rat.num_divInt_den (n:Rat);rw[Rat.num_intCast,Rat.den_intCast]at this;exact this
theorem jR(n:Int)(w:World)(U:n.natAbs<1073741824):
  eD PG Fd.qI #[iV n] w (eL w fun v' F=>cZ F (Nf w F) v' (n:Rat)):=by
 have Y:=bR w;refine qQ ce ?_;refine cM (cN (I9:=fun _ J v F=>dG F (Nf J F) v n) (fun O J r=>lF _ J be be) ?_);rintro O wa v1 wb r G OX hI;replace Y:=Y.tr OX;have hN:=hI.eX (S:=FF) r.cR (iv:=(wa.heap.size,wb.heap.size)::[]) aF;generalize (wa.heap.size,wb.heap.size)::[]=iv at*
 obtain⟨b1,a1,m1,c1,rfl⟩:=hN.shape;refine cM (cN (I9:=fun _ J v F=>dG F (Nf J F) v 1) (fun O J r=>lF _ J be be) ?_);rintro O wa v1 PK r G OX hI;replace Y:=Y.tr OX;replace hN:=hN.cL (K:=(wa.heap.size,PK.heap.size)::iv) r oF G fun x E=>aD _ E;have hD:=hI.eX (S:=FF) r.cR (iv:=(wa.heap.size,PK.heap.size)::iv) aF;generalize (wa.heap.size,PK.heap.size)::iv=iv2 at*
 obtain⟨b2,a2,m2,c2,rfl⟩:=hD.shape;refine cM (cE Y (pR cZ (Rat.divInt n 1)) (fun O J r=>Bb (rlo r oF) (hN.rel r oF).r (hD.rel r oF).r U bv bv) ?_);rintro O _ _ _ iv r G Y A hI;have hR:=hI.cO (nw r A);obtain⟨b1,a1,m1,c1,b3,a3,m3,c3,rfl⟩:=hR.shape;rw[yq]at hR;exact rtn Y fun I8 we re=>hR.out re oF
theorem KV{n1 n2:Bool}{ms:List Nat}(L:Old S w)(E:tW w S v n1 ls)(hy:tW w S u n2 ms):
  eD PG Fd.mq #[v,u] w (eL w fun v' _=>v'= .bool (decide (n1=n2/\ls=ms))):=by
 obtain⟨lv,rfl,W⟩:=E;obtain⟨mv,rfl,I⟩:=hy;obtain⟨a,c,rfl,_,ha⟩:=W.sl;obtain⟨b,e,rfl,_,N⟩:=I.sl;have hle1:=W.le;have Vv:=I.le;have Y:=bR w;refine uL ce ?_;apply bS<;>intro U
 .have U:n1≠n2:=fun h=>by rw[h]at U;simp at U
  intro O F r;exact⟨_,rfl,r.cV,by rw[av (fun h=>U h.1)];rfl⟩
 have U:n1=n2:=by simpa using U
 subst U;apply bS<;>intro h
 .have h:ls.length≠ms.length:=fun G=>by rw[G]at h;simp at h
  intro O F r;exact⟨_,rfl,r.cV,by rw[av (fun e=>h (by rw[e.2]))];rfl⟩
 have h:ls.length=ms.length:=by
  have:(ls.length:Int)=ms.length:=by simpa using h
  omega
 refine⟨Nat×World,fun z=>⟨[(2,pP 0 0),(3,pP 1 0),(5,iZ z.1)],[(1,.box T.Int [.v (.bool n1),.v (.slice b ms.length e)]),(0,.box T.Int [.v (.bool n1),.v (.slice a ls.length c)])],2,[],z.2⟩,fun z=>ls.length-z.1,
  fun z=>z.1<=ls.length/\Bq w z.2/\ls.take z.1=ms.take z.1,?_,?_⟩
 .intro O J r;exact⟨(0,J),⟨ce,r.cV,ce⟩,sbgn [] r⟩
 rintro⟨i,w1⟩ ⟨R,Y,ht⟩;dsimp only at R Y ht ⊢;apply bS<;>intro OJ
 .have OJ:=dL OJ;obtain⟨x,E⟩:=gO ls i;obtain⟨y,hy⟩:=gO ms i;obtain⟨ad,rfl,q1,q2⟩:=ha i x E;obtain⟨ad2,rfl,q3,q4⟩:=N i y hy;have QI:∀{H nx iv O J},Rel H nx iv w.heap.size w1 O J->J.cell? (ad.add ((i:Int).toNat*1))=some (.int .u32 x):=fun r=>by
   rw[aN,bC];exact fY L Y r q1 q2
  have RM:∀{H nx iv O J},Rel H nx iv w.heap.size w1 O J->J.cell? (ad2.add ((i:Int).toNat*1))=some (.int .u32 y):=fun r=>by
   rw[aN,bC];exact fY L Y r q3 q4
  refine dP (idO 11) ?_;refine⟨ad,rfl,be,.int .u32 x,fun O J r=>QI r,ad2,rfl,be,.int .u32 y,fun O J r=>RM r,?_⟩;apply bS<;>intro OL
  .have OL:x≠y:=fun h=>by rw[h]at OL;simp at OL
   intro O F r;refine⟨_,rfl,Y.tr r.cV,?_⟩
   rw[av (fun e=>OL (by
    have:=e.2;rw[this,hy]at E;injection E with E
    exact E.symm))]
   rfl
  have OL:x=y:=by
   have:(x:Int)=y:=by simpa using OL
   omega
  subst OL;have UH:ls.take (i+1)=ms.take (i+1):=by rw[bE,bE,ht,E,hy]
  refine inc i ?_;intro IR w3 r3;exact⟨(i+1,w3),⟨OJ,Y.tr r3.cV,UH⟩,sbgn [] r3,dec OJ⟩
 have OJ:i=ls.length:=by
  have:¬i<ls.length:=by simpa using OJ
  omega
 subst OJ;rw[bF,h,bF]at ht;intro O F r;exact⟨_,rfl,Y.tr r.cV,by rw[bQ ⟨rfl,ht⟩];rfl⟩
theorem HQ{a:List Nat}(la:Lm a)(lb:Lm b)(na:Nz a)(nb:Nz b)(h:val a=val b):a=b:=by
 have:a.length=b.length:=by
  rcases Nat.lt_trichotomy a.length b.length with W|W|W
  .have:=iz la nb W;omega
  .exact W
  .have:=iz lb na W;omega
 exact val_inj la lb this h
theorem rV{x y:Int}(L:Old S w)(E:dG w S v x)(hy:dG w S u y):
  eD PG Fd.mq #[v,u] w (eL w fun v' _=>v'= .bool (decide (x=y))):=by
 obtain⟨ls,W,I,h3⟩:=E;obtain⟨ms,k1,k2,k3⟩:=hy;have e:decide (decide (x<0)=decide (y<0)/\ls=ms)=decide (x=y):=by
  refine decide_eq_decide.2 ⟨fun ⟨e1,e2⟩=>?_,fun e1=>?_⟩
  .have e1:=decide_eq_decide.1 e1;rw[e2]at h3;omega
  .subst e1;obtain⟨_,_,l1⟩:=W;obtain⟨_,_,l2⟩:=k1;exact⟨rfl,HQ l1.lm l2.lm I k2 be⟩
 exact(KV L W k1).mono fun _ F ⟨v2,e1,e2,e3⟩=>⟨v2,e1,e2,by rw[e3,e]⟩
theorem Lk{p q:Rat}(L:Old S w)(E:cZ w S v p)(hy:cZ w S u q):
  eD PG Fd.xj #[v,u] w (eL w fun v' _=>v'= .bool (decide (p=q))):=by
 obtain⟨b1,a1,n1,c1,b2,a2,n2,c2,rfl⟩:=E.shape;obtain⟨b3,a3,n3,c3,b4,a4,n4,c4,rfl⟩:=hy.shape;refine zK ce ?_;refine cM (cN (I9:=fun _ J v F=>v= .bool (decide (p.num=q.num))) (fun O J r=>rV (oS L r) (E.num.cP fun g V=>r.cV.block g (L g V)) (hy.num.cP fun g V=>r.cV.block g (L g V))) ?_);rintro O wa v1 wb r G N rfl;have Y:=N;generalize (wa.heap.size,wb.heap.size)::[]=iv at*
 apply bS<;>intro h
 .have h:=aI h;refine cM (cE Y (pE (.bool (decide ((p.den:Int)=q.den)))) (fun O J r=>rV (oS L r) (E.den.cP (kS Y r L)) (hy.den.cP (kS Y r L))) ?_);rintro O _ _ _ iv2 r G Y A rfl;intro I8 we re;refine⟨_,rfl,Y.tr re.cV,?_⟩;have:decide (p=q)=decide ((p.den:Int)=q.den):=decide_eq_decide.2 ⟨fun e=>by rw[e],fun e=>Rat.ext h be⟩;rw[this];rfl
 .have h:=aL h;intro I8 we re;refine⟨_,rfl,Y.tr re.cV,?_⟩;rw[av (fun e=>h (by rw[e]))];rfl
theorem yr{xs ys:List Rat}(L:Old S w)(E:cS w S v xs)(hy:cS w S u ys):
  eD PG Fd.qJ #[v,u] w (eL w fun v' _=>v'= .bool (decide (xs=ys))):=by
 obtain⟨a,c,rfl,hc,hm⟩:=dU.shape E;obtain⟨b,e,rfl,Qf,SF⟩:=dU.shape hy;unfold maxLen at hm SF;refine tQ ce ?_;apply bS<;>intro h
 .have h:xs.length≠ys.length:=fun G=>by rw[G]at h;simp at h
  intro O F r;exact⟨_,rfl,r.cV,by rw[av (fun e=>h (by rw[e]))];rfl⟩
 have h:xs.length=ys.length:=by
  have:(xs.length:Int)=ys.length:=by simpa using h
  omega
 refine⟨Nat×World,fun z=>⟨[(0,sV a xs.length c),(1,sV b ys.length e),(5,iZ z.1)],[],0,[],z.2⟩,fun z=>xs.length-z.1,
  fun z=>z.1<=xs.length/\Bq w z.2/\xs.take z.1=ys.take z.1,?_,?_⟩
 .intro O J r;exact⟨(0,J),⟨ce,r.cV,ce⟩,sbgn [] r⟩
 rintro⟨i,w1⟩ ⟨R,Y,ht⟩;dsimp only at R Y ht ⊢;apply bS<;>intro OJ
 .have OJ:=dL OJ;obtain⟨x,Pf⟩:=gO xs i;obtain⟨y,SG⟩:=gO ys i;obtain⟨ad2,cs2,rfl,SH,-,Ph⟩:=dU.load hy SG;obtain⟨p2,q2,r2,s2,t2,u2,v2,F,rfl,SH⟩:=SH;obtain⟨ad,cs,rfl,hR,-,hl⟩:=dU.load E Pf;obtain⟨p1,q1,r1,s1,t1,u1,v1,w1,rfl,hR⟩:=hR;refine dP (idO 10) ?_;refine⟨ad,rfl,be,rC p1 q1 r1 s1 t1 u1 v1 w1,rfl,rdO hl Y L,ad2,rfl,be,rC p2 q2 r2 s2 t2 u2 v2 F,rfl,rdO Ph Y L,?_⟩;refine cE Y (pE (.bool (decide (x=y)))) (fun O J r=>Lk (oS L r) (hR.cP (kS Y r L)) (SH.cP (kS Y r L))) ?_;rintro O _ _ _ iv2 r G Y A rfl;apply bS<;>intro OL
  .have OL:x≠y:=fun h=>by rw[h]at OL;simp at OL
   intro O F r;refine⟨_,rfl,Y.tr r.cV,?_⟩
   rw[av (fun e=>OL (by
    rw[e,SG]at Pf;injection Pf with Pf
    exact Pf.symm))]
   rfl
  have OL:x=y:=by simpa using OL
  subst OL;have UH:xs.take (i+1)=ys.take (i+1):=by rw[bE,bE,ht,Pf,SG]
  refine inc i ?_;intro IR w3 r3;exact⟨(i+1,w3),⟨OJ,Y.tr r3.cV,UH⟩,sbgn [] r3,dec OJ⟩
 have OJ:i=xs.length:=by
  have:¬i<xs.length:=by simpa using OJ
  omega
 subst OJ;rw[bF,h,bF]at ht;intro O F r;exact⟨_,rfl,Y.tr r.cV,by rw[bQ ht];rfl⟩
theorem DS{xs ys:List (List Rat)}(L:Old S w)(E:dC w S v xs)(hy:dC w S u ys):
  eD PG Fd.ow #[v,u] w (eL w fun v' _=>v'= .bool (decide (xs=ys))):=by
 obtain⟨a,c,rfl,hc,hm⟩:=dD.shape E;obtain⟨b,e,rfl,Qf,SF⟩:=dD.shape hy;unfold maxLen at hm SF;refine sU ce ?_;apply bS<;>intro h
 .have h:xs.length≠ys.length:=fun G=>by rw[G]at h;simp at h
  intro O F r;exact⟨_,rfl,r.cV,by rw[av (fun e=>h (by rw[e]))];rfl⟩
 have h:xs.length=ys.length:=by
  have:(xs.length:Int)=ys.length:=by simpa using h
  omega
 refine⟨Nat×World,fun z=>⟨[(0,sV a xs.length c),(1,sV b ys.length e),(5,iZ z.1)],[],0,[],z.2⟩,fun z=>xs.length-z.1,
  fun z=>z.1<=xs.length/\Bq w z.2/\xs.take z.1=ys.take z.1,?_,?_⟩
 .intro O J r;exact⟨(0,J),⟨ce,r.cV,ce⟩,sbgn [] r⟩
 rintro⟨i,w1⟩ ⟨R,Y,ht⟩;dsimp only at R Y ht ⊢;apply bS<;>intro OJ
 .have OJ:=dL OJ;obtain⟨x,Pf⟩:=gO xs i;obtain⟨y,SG⟩:=gO ys i;obtain⟨ad,u1,rfl,hR,k1,l1⟩:=dD.load E Pf;obtain⟨ad2,u2,rfl,SH,k2,l2⟩:=dD.load hy SG;obtain⟨p1,q1,rfl,-⟩:=dU.shape hR;obtain⟨p2,q2,rfl,-⟩:=dU.shape SH;refine dP (idO 10) ?_;refine⟨ad,rfl,be,.slice p1 x.length q1,rd1 l1 Y (L _ k1),ad2,rfl,be,.slice p2 y.length q2,rd1 l2 Y (L _ k2),?_⟩;refine cE Y (pE (.bool (decide (x=y)))) (fun O J r=>yr (oS L r) (cS.cP hR (kS Y r L)) (cS.cP SH (kS Y r L))) ?_;rintro O _ _ _ iv2 r G Y A rfl;apply bS<;>intro OL
  .have OL:x≠y:=fun h=>by rw[h]at OL;simp at OL
   intro O F r;refine⟨_,rfl,Y.tr r.cV,?_⟩
   rw[av (fun e=>OL (by
    rw[e,SG]at Pf;injection Pf with Pf
    exact Pf.symm))]
   rfl
  have OL:x=y:=by simpa using OL
  subst OL;have UH:xs.take (i+1)=ys.take (i+1):=by rw[bE,bE,ht,Pf,SG]
  refine inc i ?_;intro IR w3 r3;exact⟨(i+1,w3),⟨OJ,Y.tr r3.cV,UH⟩,sbgn [] r3,dec OJ⟩
 have OJ:i=xs.length:=by
  have:¬i<xs.length:=by simpa using OJ
  omega
 subst OJ;rw[bF,h,bF]at ht;intro O F r;exact⟨_,rfl,Y.tr r.cV,by rw[bQ ht];rfl⟩
abbrev Head:=Bool×Option Addr×Nat×Nat
def Km:List (List (Int×Int)):=[[(1,1),(2,1)],[(2,1),(4,1)]]
def Ml:List (Int×Int):=[(3,1),(6,1)]
theorem Ll:zY Km Ml=0:=by decide +kernel
theorem Ln:gT (nE (de Km) (Ml.map cU)) (dH Km)=([[1,2,3,1,0],[0,0,0,-2,1]],[0]):=by decide +kernel
theorem JC:(∀r∈Km,wm r)/\wm Ml:=by unfold wm;decide +kernel
theorem Mm:Ht (nE (de Km) (Ml.map cU)) 2:=by unfold Ht;decide +kernel
theorem Nd:jZ [[1,2,3,1,0],[0,0,0,-2,1]] [0] 2 1=[3,0]:=by decide +kernel
theorem Ng:da [[1,2,3,1,0],[0,0,0,-2,1]] [0] 2 2=[[-2,1]]:=by decide +kernel
theorem KW{r:Nat}(h:yV (2*100*100:Int).natAbs r):r=141:=by
 have W:=h.1;have I:=h.2;have e:(2*100*100:Int).natAbs=20000:=by decide
 rw[e]at W I;rcases Nat.lt_trichotomy r 141 with h3|h3|h3
 .have:=Nat.mul_le_mul (show r+1<=141 by omega) (show r+1<=141 by omega);omega
 .exact h3
 .have:=Nat.mul_le_mul (show 142<=r by omega) (show 142<=r by omega);omega
theorem Lo:H5 (ratio (Rat.divInt 141 100).num (Rat.divInt 141 100).den)=⟨#[49,52,49,47,49,48,48]⟩:=by decide +kernel
theorem KX(h:z.natAbs<4294967296):ln z.natAbs<=10000000000:=aP (gF.2 (show z.natAbs<4294967296^1 by omega)) bv
theorem HS(L:Old S w)(E:jE w S v (-7))(hy:jE w S u 2):
  eD PG Fd.oN #[v,u] w (eL w fun v' F=>∃q r,v'= .tuple #[q,r,iV 0]/\dG F (Nf w F) q (-4)/\dG F (Nf w F) r 1):=
 (Cw L E hy (KX bv) (KX bv)).mono fun _ F ⟨v2,e1,e2,e3⟩=>⟨v2,e1,e2,e3.elim (fun h=>absurd h.1 bv) fun h=>h.2⟩
theorem JD(w:World):
  eD PG Fd.kf #[iV 2,iV 100] w (eL w fun v' F=>∃q,v'= .tuple #[q,iV 0]/\cZ F (Nf w F) q (Rat.divInt 141 100)):=
 (yb 2 100 w bv bv bv bv).mono fun _ F ⟨v2,e1,e2,e3⟩=>⟨v2,e1,e2,e3.elim (fun h=>absurd h.1 bv) fun⟨_,r,q,W,I,h3⟩=>⟨q,I,by
  rw[KW W]at h3
  exact h3⟩⟩
theorem JE(L:Old S w)(h:dK w S v Km)(hu:dB w S u Ml):
  eD PG Fd.qH #[v,u] w (eL w fun v' F=>∃vx vk,v'= .tuple #[.agg #[iV 0,vx,vk,nls],iV 0]/\cS F (Nf w F) vx [3,0]/\dC F (Nf w F) vk [[-2,1]]):=
 (Ei (h0:=2) L h hu fun _=>⟨JC.1,JC.2,Mm,bv,bv⟩).mono fun _ F ⟨v2,e1,e2,e3⟩=>⟨v2,e1,e2,by
  rcases e3 with h|⟨_,s,rfl,F',pv,hA,h⟩
  .exact absurd Ll h.1
  .rw[Ln]at hA;injection hA with hA hp;subst hA hp;rcases h with⟨j,vp,W,I,h3,_⟩|⟨vx,vk,_,rfl,I,h3⟩
   .have:j=1:=by
     have:j<2:=I;have:1<=j:=W;omega
    subst this;exact absurd (show dZ [[1,2,3,1,0],[0,0,0,-2,1]] 1 2=0 by decide +kernel) h3
   .refine⟨vx,vk,rfl,?_,?_⟩
    .have:=Nd;rw[<-this];exact I
    .have:=Ng;rw[<-this]
     exact h3⟩
theorem HT(L:Old S w)(h:cZ w S v (Rat.divInt 141 100)):
  eD PG Fd.oO #[v] w (eL w fun v' _=>v'= .string ⟨#[49,52,49,47,49,48,48]⟩):=by
 have:=DM L h.r (KX (by decide +kernel)) (KX (by decide +kernel)) (by decide +kernel) (by decide +kernel);rw[Lo]at this;exact this
end Go.Ex
namespace Go.Sx
open Go Go.Ex Go.Proofs
variable{S':Nat->Prop}{O:Nat->Sx.dc}
theorem Rel.JF{α:Type}{P:World->(Nat->Prop)->List Value->α->Prop}{H:Hp}{nx:Nat}{iv:Iv}{B:Nat}{w J:World}(r:Rel H nx iv B w O J){id t:Nat}{u0 u1 u2 u3 u4 u5 u6 u7:Value}{x y:α}
  (h:dF H id=some (.box t [.v u0,.v u1,.v u2,.v u3,.v u4,.v u5,.v u6,.v u7])) (W:∀u∈[u0,u1,u2,u3,u4,u5,u6,u7],u.oneCell'=true) (p1:P J S' [u0,u1,u2,u3] x) (p2:P J S' [u4,u5,u6,u7] y) (V:S' (O id).g):
  dU P J S' (.slice (some ⟨(O id).g,0,none⟩) 2 2) [x,y]:=
 ⟨[[u0,u1,u2,u3],[u4,u5,u6,u7]],(r.kh (sz:=4) (n:=2) h rfl (by simp[maxLen]) (fun u hu=>by
  simp only[List.mem_cons,List.not_mem_nil,or_false]at hu
  rcases hu with rfl|rfl|rfl|rfl|rfl|rfl|rfl|rfl<;>exact W _ (by simp[At.den]))).cO (fun g Qy=>by rw[Qy];exact V),rfl,ce,fun j cs z k1 k2=>by
  match j with
  |0=>simp at k1 k2;subst k1 k2;exact p1
  |1=>simp at k1 k2;subst k1 k2;exact p2
  |j+2=>simp at k1⟩
end Go.Sx
namespace Go.Ex
open Go Go.Sx Go.Proofs
variable{S:Nat->Prop}{O:Nat->Sx.dc}{a2:Option Addr}{q:Rat}{w:World}
theorem cZ.four{b b2:Bool}{a:Option Addr}{n c n2 c2:Nat}(h:cZ w S (.agg #[.bool b,.slice a n c,.bool b2,.slice a2 n2 c2]) q):yo w S (rC b a n c b2 a2 n2 c2) (q.num,(q.den:Int)):=
 ⟨b,a,n,c,b2,a2,n2,c2,rfl,h.r⟩
theorem cZ.AU{b b2:Bool}{a:Option Addr}{n c n2 c2:Nat}(h:cZ w S (.agg #[.bool b,.slice a n c,.bool b2,.slice a2 n2 c2]) q):lE w S (rC b a n c b2 a2 n2 c2) q:=
 ⟨b,a,n,c,b2,a2,n2,c2,rfl,h⟩
theorem Rel.lt{H:Hp}{nx:Nat}{iv:Iv}{B:Nat}{J:World}(r:Rel H nx iv B w O J){id t:Nat}{cs:List At}(h:dF H id=some (.box t cs)):(O id).g<J.heap.size:=(r.low id _ h (r.nn id _ h (by intros;simp) ce)).2
theorem fw(w:World):eD PG Fd.ux #[] w (eL w fun v' _=>v'= .bool true):=by
 have Y:=bR w;refine xy ce ?_;conv=>whnf
 refine cM (cE Y (pR dG (-7)) (fun O J r=>Fb _ J bv bv) ?_);rintro O _ _ _ OS r G Y A U;have hA:=U.cO (nw r A);clear r;obtain⟨A0,A1,A2,A3,rfl⟩:=hA.shape;conv=>whnf
 refine cM (cE Y (pR dG 2) (fun O J r=>Fb _ J bv bv) ?_);rintro O _ _ _ iv2 r G Y A U;replace hA:=hA.cL r oF G (mC A);have hB:=U.cO (nw r A);clear r;obtain⟨C0,C1,C2,C3,rfl⟩:=hB.shape;conv=>whnf
 refine cM (cE Y (fun _ J v F=>∃q r,v= .tuple #[q,r,iV 0]/\dG F (Nf J F) q (-4)/\dG F (Nf J F) r 1) (fun O J r=>HS (rlo r oF) (hA.rel r oF).r (hB.rel r oF).r) ?_);rintro O _ _ _ OR r G Y A ⟨q,rr,rfl,k1,k2⟩;clear hA;clear hB;have hq:=k1.cO (nw r A);have hr:=k2.cO (nw r A);clear r;obtain⟨s3_0a,s3_0b,s3_0c,s3_0d,rfl⟩:=hq.shape;obtain⟨s3_1a,s3_1b,s3_1c,s3_1d,rfl⟩:=hr.shape;conv=>whnf
 refine cM (cE Y (fun _ J v F=>∃q,v= .tuple #[q,iV 0]/\cZ F (Nf J F) q (Rat.divInt 141 100)) (fun O J r=>JD J) ?_);rintro O _ _ _ Ob r G Y A ⟨f,rfl,k1⟩;replace hq:=hq.cL r oF G (mC A);replace hr:=hr.cL r oF G (mC A);have hf:=k1.cO (nw r A);clear r;obtain⟨s4_0a,s4_0b,s4_0c,s4_0d,s4_0e,s4_0f,s4_0g,s4_0h,rfl⟩:=hf.shape;conv=>whnf
 refine cM (cE Y (pR cZ ((1:Int):Rat)) (fun O J r=>jR 1 J bv) ?_);rintro O _ _ _ Of r G Y A U;replace hq:=hq.cL r oF G (mC A);replace hr:=hr.cL r oF G (mC A);replace hf:=hf.cL r oF G (mC A);have Qp:=U.cO (nw r A);clear r;obtain⟨E0,E1,E2,E3,E4,E5,E6,E7,rfl⟩:=Qp.shape;conv=>whnf
 refine cM (cE Y (pR cZ ((2:Int):Rat)) (fun O J r=>jR 2 J bv) ?_);rintro O _ _ _ PL r G Y A U;replace hq:=hq.cL r oF G (mC A);replace hr:=hr.cL r oF G (mC A);replace hf:=hf.cL r oF G (mC A);replace Qp:=Qp.cL r oF G (mC A);have Rl:=U.cO (nw r A);clear r;obtain⟨F0,F1,F2,F3,F4,F5,F6,F7,rfl⟩:=Rl.shape;conv=>whnf
 refine cM (cE Y (pR cZ ((2:Int):Rat)) (fun O J r=>jR 2 J bv) ?_);rintro O _ _ _ QB r G Y A U;replace hq:=hq.cL r oF G (mC A);replace hr:=hr.cL r oF G (mC A);replace hf:=hf.cL r oF G (mC A);replace Qp:=Qp.cL r oF G (mC A);replace Rl:=Rl.cL r oF G (mC A);have Pe:=U.cO (nw r A);clear r;obtain⟨G0,G1,G2,G3,G4,G5,G6,G7,rfl⟩:=Pe.shape;conv=>whnf
 refine cM (cE Y (pR cZ ((4:Int):Rat)) (fun O J r=>jR 4 J bv) ?_);rintro O _ _ _ RT r G Y A U;replace hq:=hq.cL r oF G (mC A);replace hr:=hr.cL r oF G (mC A);replace hf:=hf.cL r oF G (mC A);replace Qp:=Qp.cL r oF G (mC A);replace Rl:=Rl.cL r oF G (mC A);replace Pe:=Pe.cL r oF G (mC A);have Xq:=U.cO (nw r A);clear r;obtain⟨I0,I1,I2,I3,I4,I5,I6,I7,rfl⟩:=Xq.shape;conv=>whnf
 refine cM (cE Y (pR cZ ((3:Int):Rat)) (fun O J r=>jR 3 J bv) ?_);rintro O _ _ _ Ta r G Y A U;replace hq:=hq.cL r oF G (mC A);replace hr:=hr.cL r oF G (mC A);replace hf:=hf.cL r oF G (mC A);replace Qp:=Qp.cL r oF G (mC A);replace Rl:=Rl.cL r oF G (mC A);replace Pe:=Pe.cL r oF G (mC A);replace Xq:=Xq.cL r oF G (mC A);have hx4:=U.cO (nw r A);clear r;obtain⟨J0,J1,J2,J3,J4,J5,J6,J7,rfl⟩:=hx4.shape;conv=>whnf
 refine cM (cE Y (pR cZ ((6:Int):Rat)) (fun O J r=>jR 6 J bv) ?_);rintro O _ _ _ SP r G Y A U;replace hq:=hq.cL r oF G (mC A);replace hr:=hr.cL r oF G (mC A);replace hf:=hf.cL r oF G (mC A);replace Qp:=Qp.cL r oF G (mC A);replace Rl:=Rl.cL r oF G (mC A);replace Pe:=Pe.cL r oF G (mC A);replace Xq:=Xq.cL r oF G (mC A);replace hx4:=hx4.cL r oF G (mC A);have hx5:=U.cO (nw r A);clear r;obtain⟨N0,N1,N2,N3,N4,N5,N6,N7,rfl⟩:=hx5.shape;conv=>whnf
 refine cM (cE Y (fun _ J v F=>∃vx vk,v= .tuple #[.agg #[iV 0,vx,vk,nls],iV 0]/\cS F (Nf J F) vx [3,0]/\dC F (Nf J F) vk [[-2,1]]) (fun O J r=>?_) ?_)
 .have f0:=(Qp.rel r oF).four.cO (S':=fun g=>g<J.heap.size) fun g V=>rlo r oF g V;have f1:=(Rl.rel r oF).four.cO (S':=fun g=>g<J.heap.size) fun g V=>rlo r oF g V;have f2:=(Pe.rel r oF).four.cO (S':=fun g=>g<J.heap.size) fun g V=>rlo r oF g V;have f3:=(Xq.rel r oF).four.cO (S':=fun g=>g<J.heap.size) fun g V=>rlo r oF g V;have f4:=(hx4.rel r oF).four.cO (S':=fun g=>g<J.heap.size) fun g V=>rlo r oF g V;have f5:=(hx5.rel r oF).four.cO (S':=fun g=>g<J.heap.size) fun g V=>rlo r oF g V;have r0:=r.JF (id:=3) rfl (by simp[Value.oneCell']) f0 f1 (Rel.lt r rfl);have r1:=r.JF (id:=4) rfl (by simp[Value.oneCell']) f2 f3 (Rel.lt r rfl);have r2:=r.JF (id:=6) rfl (by simp[Value.oneCell']) f4 f5 (Rel.lt r rfl);refine JE (S:=fun g=>g<J.heap.size) (fun g V=>V) ?_ r2;refine⟨[.slice (some ⟨(O 3).g,0,none⟩) 2 2,.slice (some ⟨(O 4).g,0,none⟩) 2 2],(r.kh (id:=5) (sz:=1) (n:=2) rfl rfl (by simp[maxLen]) (fun u hu=>by simp at hu;rcases hu with rfl|rfl<;>rfl)).cO (fun g V=>by rw[V];exact Rel.lt r rfl),rfl,fun i u x k1 k2=>?_⟩
  match i with
  |0=>simp[Km]at k1 k2;subst k1 k2;exact r0
  |1=>simp[Km]at k1 k2;subst k1 k2;exact r1
  |i+2=>simp at k1
 rintro O _ _ _ SR r G Y A ⟨vx,vk,rfl,k1,k2⟩;replace hq:=hq.cL r oF G (mC A);replace hr:=hr.cL r oF G (mC A);replace hf:=hf.cL r oF G (mC A);clear Qp;clear Rl;clear Pe;clear Xq;clear hx4;clear hx5;have S9:=cS.cO k1 (nw r A);have Qd:=dC.cO k2 (nw r A);clear r;clear k1 k2;obtain⟨sx_a,sx_c,rfl,-⟩:=dU.shape S9;obtain⟨sk_a,sk_c,rfl,-⟩:=dD.shape Qd;conv=>whnf
 refine dP (idO 27) ?_;conv=>whnf
 refine cE Y (pR dG (-4)) (fun O J r=>lF _ J bv bv) ?_;rintro O _ _ _ TN r G Y A U;replace hq:=hq.cL r oF G (mC A);replace hr:=hr.cL r oF G (mC A);replace hf:=hf.cL r oF G (mC A);replace S9:=cS.cL S9 r oF G (mC A);replace Qd:=dC.cL Qd r oF G (mC A);have h4:=U.cO (nw r A);clear r;obtain⟨O0,O1,O2,O3,rfl⟩:=h4.shape;conv=>whnf
 refine cE Y (pE (.bool true)) (fun O J r=>rV (rlo r oF) (hq.rel r oF) (h4.rel r oF)) ?_;rintro O _ _ _ Um r G Y A rfl;clear hq;replace hr:=hr.cL r oF G (mC A);replace hf:=hf.cL r oF G (mC A);replace S9:=cS.cL S9 r oF G (mC A);replace Qd:=dC.cL Qd r oF G (mC A);clear h4;clear r;conv=>whnf
 refine cE Y (pR dG 1) (fun O J r=>lF _ J bv bv) ?_;rintro O _ _ _ Vs r G Y A U;replace hr:=hr.cL r oF G (mC A);replace hf:=hf.cL r oF G (mC A);replace S9:=cS.cL S9 r oF G (mC A);replace Qd:=dC.cL Qd r oF G (mC A);have W:=U.cO (nw r A);clear r;obtain⟨P0,P1,P2,P3,rfl⟩:=W.shape;conv=>whnf
 refine cE Y (pE (.bool true)) (fun O J r=>rV (rlo r oF) (hr.rel r oF) (W.rel r oF)) ?_;rintro O _ _ _ Ww r G Y A rfl;clear hr;replace hf:=hf.cL r oF G (mC A);replace S9:=cS.cL S9 r oF G (mC A);replace Qd:=dC.cL Qd r oF G (mC A);clear W;clear r;conv=>whnf
 refine cE Y (pE (.string ⟨#[49,52,49,47,49,48,48]⟩)) (fun O J r=>HT (rlo r oF) (hf.rel r oF)) ?_;rintro O _ _ _ iv16 r G Y A rfl;clear hf;replace S9:=cS.cL S9 r oF G (mC A);replace Qd:=dC.cL Qd r oF G (mC A);clear r;conv=>whnf
 refine dP (idO 21) ?_;conv=>whnf
 refine cE Y (pR cZ ((3:Int):Rat)) (fun O J r=>jR 3 J bv) ?_;rintro O _ _ _ iv17 r G Y A U;replace S9:=cS.cL S9 r oF G (mC A);replace Qd:=dC.cL Qd r oF G (mC A);have Qp:=U.cO (nw r A);clear r;obtain⟨T0,T1,T2,T3,T4,T5,T6,T7,rfl⟩:=Qp.shape;conv=>whnf
 refine cE Y (pR cZ ((0:Int):Rat)) (fun O J r=>jR 0 J bv) ?_;rintro O _ _ _ iv18 r G Y A U;replace S9:=cS.cL S9 r oF G (mC A);replace Qd:=dC.cL Qd r oF G (mC A);replace Qp:=Qp.cL r oF G (mC A);have Rl:=U.cO (nw r A);clear r;obtain⟨U0,U1,U2,U3,U4,U5,U6,U7,rfl⟩:=Rl.shape;conv=>whnf
 refine cE Y (pE (.bool true)) (fun O J r=>?_) ?_
 .have f0:=(Qp.rel r oF).AU.cO (S':=fun g=>g<J.heap.size) fun g V=>rlo r oF g V;have f1:=(Rl.rel r oF).AU.cO (S':=fun g=>g<J.heap.size) fun g V=>rlo r oF g V;have r0:=r.JF (id:=8) rfl (by simp[Value.oneCell']) f0 f1 (Rel.lt r rfl);exact yr (xs:=[3,0]) (ys:=[3,0]) (fun g V=>V) (cS.cO (cS.rel S9 r oF) fun g V=>rlo r oF g V) r0
 rintro O _ _ _ iv19 r G Y A rfl;clear S9;replace Qd:=dC.cL Qd r oF G (mC A);clear Qp;clear Rl;clear r;conv=>whnf
 refine cE Y (pR cZ ((-2:Int):Rat)) (fun O J r=>jR (-2) J bv) ?_;rintro O _ _ _ iv20 r G Y A U;replace Qd:=dC.cL Qd r oF G (mC A);have Qp:=U.cO (nw r A);clear r;obtain⟨V0,V1,V2,V3,V4,V5,V6,V7,rfl⟩:=Qp.shape;conv=>whnf
 refine cE Y (pR cZ ((1:Int):Rat)) (fun O J r=>jR 1 J bv) ?_;rintro O _ _ _ iv21 r G Y A U;replace Qd:=dC.cL Qd r oF G (mC A);replace Qp:=Qp.cL r oF G (mC A);have Rl:=U.cO (nw r A);clear r;obtain⟨W0,W1,W2,W3,W4,W5,W6,W7,rfl⟩:=Rl.shape;conv=>whnf
 refine cE Y (pE (.bool true)) (fun O J r=>?_) ?_
 .have f0:=(Qp.rel r oF).AU.cO (S':=fun g=>g<J.heap.size) fun g V=>rlo r oF g V;have f1:=(Rl.rel r oF).AU.cO (S':=fun g=>g<J.heap.size) fun g V=>rlo r oF g V;have r0:=r.JF (id:=9) rfl (by simp[Value.oneCell']) f0 f1 (Rel.lt r rfl);refine DS (xs:=[[-2,1]]) (ys:=[[-2,1]]) (fun g V=>V) (dC.cO (dC.rel Qd r oF) fun g V=>rlo r oF g V) ?_;refine⟨[.slice (some ⟨(O 9).g,0,none⟩) 2 2],(r.kh (id:=10) (sz:=1) (n:=1) rfl rfl (by simp[maxLen]) (fun u hu=>by simp at hu;subst hu;rfl)).cO (fun g V=>by rw[V];exact Rel.lt r rfl),rfl,fun i u x k1 k2=>?_⟩
  match i with
  |0=>simp at k1 k2;subst k1 k2;exact r0
  |i+1=>simp at k1
 rintro O _ _ _ iv22 r G Y A rfl;clear Qd;clear Qp;clear Rl;clear r;conv=>whnf
 exact rtn Y fun I8 we re=>rfl
end Go.Ex
namespace Go.Ex
variable{cs:List Int}{ls:List Nat}{f:Nat->Int}
def fR(f:Nat->Int):Nat->Int
 |0=>0
 |n+1=>f 0+65536*fR (fun i=>f (i+1)) n
theorem xd(f:Nat->Int)(n:Nat):dS ((List.range n).map f)=fR f n:=by
 induction n generalizing f with
 |zero=>rfl
 |succ n ih=>
  rw[List.range_succ_eq_map,List.map_cons,List.map_map,dS,fR,<-ih];rfl
theorem xe(f g:Nat->Int)(n:Nat):fR (fun i=>f i+g i) n=fR f n+fR g n:=by
 induction n generalizing f g with
 |zero=>rfl
 |succ n ih=>simp only[fR,ih];omega
theorem ED(k:Int)(f:Nat->Int)(n:Nat):fR (fun i=>k*f i) n=k*fR f n:=by
 induction n generalizing f with
 |zero=>simp[fR]
 |succ n ih=>simp only[fR,ih,Int.mul_add];rw[Int.mul_left_comm]
theorem uw{n:Nat}(h:∀i,i<n->f i=0):fR f n=0:=by
 induction n generalizing f with
 |zero=>rfl
 |succ n ih=>rw[fR,h 0 be,ih fun i R=>h (i+1) be];rfl
theorem qA(a:List Int)(n:Nat)(h:a.length<=n):fR (fun i=>a.getD i 0) n=dS a:=by
 induction a generalizing n with
 |nil=>exact uw fun i _=>by simp
 |cons c r ih=>
  obtain⟨m,rfl⟩:∃m,n=m+1:=⟨n-1,by simp at h;omega⟩
  have e:=ih m (by simpa using h);rw[fR,dS,<-e];simp[List.getD]
def iO(a b:List Int)(i:Nat):Nat->Int
 |0=>0
 |k+1=>iO a b i k+a.getD k 0*(if k<=i then b.getD (i-k) 0 else 0)
def fk(a b:List Int)(i:Nat):Int:=iO a b i (i+1)
theorem Gf(b:List Int)(i k:Nat):iO [] b i k=0:=by
 induction k with
 |zero=>rfl
 |succ k ih=>rw[iO,ih];simp
theorem EE(c:Int)(r b:List Int)(i k:Nat):iO (c::r) b (i+1) (k+1)=c*b.getD (i+1) 0+iO r b i k:=by
 induction k with
 |zero=>simp[iO]
 |succ k ih=>
  rw[iO,ih,iO];have e:(c::r).getD (k+1) 0=r.getD k 0:=by simp[List.getD]
  rw[e];have e2:(if k+1<=i+1 then b.getD (i+1-(k+1)) 0 else 0)=(if k<=i then b.getD (i-k) 0 else 0):=by
   by_cases h:k<=i
   .rw[aM h,aM be,show i+1-(k+1)=i-k by omega]
   .rw[aK h,aK be]
  rw[e2,Int.add_assoc]
theorem Cg(c:Int)(r b:List Int)(i:Nat):fk (c::r) b (i+1)=c*b.getD (i+1) 0+fk r b i:=EE c r b i (i+1)
theorem Ch(c:Int)(r b:List Int):fk (c::r) b 0=c*b.getD 0 0:=by simp[fk,iO]
theorem IE(a b:List Int)(n:Nat)(h:a.length+b.length<=n+1):fR (fk a b) n=dS a*dS b:=by
 induction a generalizing n with
 |nil=>
  rw[show fk [] b=fun _=>(0:Int)from funext fun i=>Gf b i _,uw fun _ _=>rfl];simp[dS]
 |cons c r ih=>
  cases n with
  |zero=>
   have N:b=[]:=List.eq_nil_of_length_eq_zero (by simp at h;omega);subst N;simp[fR,dS]
  |succ m=>
   have e1:fR (fk (c::r) b) (m+1)=fR (fun i=>c*b.getD i 0) (m+1)+65536*fR (fk r b) m:=by
    have e2:fR (fun i=>fk (c::r) b (i+1)) m=fR (fun i=>c*b.getD (i+1) 0) m+fR (fk r b) m:=by
     rw[<-xe];congr 1
     funext i
     exact Cg c r b i
    rw[fR,fR,e2,Ch,Int.mul_add];omega
   have h':r.length+b.length<=m+1:=by simp at h;omega
   rw[e1,ih m h',ED,qA b (m+1) be,dS,Int.add_mul,Int.mul_assoc]
theorem EF(a b:List Int)(i k k0:Nat)(h0:∀j,j<k0->b.length<=i-j)(Z:k0<=i+1)(h:k<=k0):iO a b i k=0:=by
 induction k with
 |zero=>rfl
 |succ k ih=>
  rw[iO,ih be,aM be];have:b.getD (i-k) 0=0:=by rw[List.getD,List.getElem?_eq_none (h0 k be)];rfl
  rw[this];simp
theorem EG(a b:List Int)(i k m:Nat)(h:a.length<=k):iO a b i (k+m)=iO a b i k:=by
 induction m with
 |zero=>rfl
 |succ m ih=>
  rw[<-Nat.add_assoc,iO,ih];have:a.getD (k+m) 0=0:=by rw[List.getD,List.getElem?_eq_none be];rfl
  rw[this];simp
theorem mS{a b:List Int}{i:Nat}(ha:∀x∈a,-65535<=x/\x<=65535)(N:∀x∈b,-65535<=x/\x<=65535)(k:Nat):(iO a b i k).natAbs<=4294836225*k:=by
 have key:∀(l:List Int) (j:Nat),(∀x∈l,-65535<=x/\x<=65535)->(l.getD j 0).natAbs<=65535:=fun l j h=>by
  rw[List.getD]
  cases hj:l[j]? with
  |none=>simp
  |some d=>have:=h d (aG hj);simp;omega
 induction k with
 |zero=>simp[iO]
 |succ k ih=>
  rw[iO];have W:=key a k ha;have I:(if k<=i then b.getD (i-k) 0 else 0).natAbs<=65535:=by
   split
   .exact key b _ N
   .simp
  have h3:=Nat.mul_le_mul W I;rw[<-Int.natAbs_mul]at h3;generalize a.getD k 0*(if k<=i then b.getD (i-k) 0 else 0)=p at*
  omega
def dy(s:Int):List Nat->List Int
 |[]=>[]
 |l::r=>s*((l % 65536:Nat):Int)::s*((l / 65536:Nat):Int)::dy s r
theorem BD(s:Int)(ls:List Nat):dS (dy s ls)=s*(val ls:Int):=by
 induction ls with
 |nil=>simp[dy,dS,val]
 |cons l r ih=>
  rw[dy,dS,dS,ih,val];have e1:((l+4294967296*val r:Nat):Int)=((l % 65536:Nat):Int)+65536*((l / 65536:Nat):Int)+4294967296*((val r:Nat):Int):=by omega
  rw[e1,Int.mul_add,Int.mul_add,Int.mul_add];rw[Int.mul_left_comm 65536 s,Int.mul_left_comm s 65536,Int.mul_left_comm s 4294967296];omega
theorem ov(s:Int)(a b:List Nat):dy s (a++b)=dy s a++dy s b:=by
 induction a with
 |nil=>rfl
 |cons l r ih=>simp[dy,ih]
theorem iF(s:Int)(ls:List Nat):(dy s ls).length=2*ls.length:=by
 induction ls with
 |nil=>rfl
 |cons l r ih=>simp[dy,ih];omega
theorem xf{s:Int}(hs:s=1\/s= -1)(h:Lm ls):∀c∈dy s ls,-65535<=c/\c<=65535:=by
 induction ls with
 |nil=>intro c hc;cases hc
 |cons l r ih=>
  have hl:=h l aF;intro c hc;rw[dy]at hc;rcases List.mem_cons.1 hc with rfl|hc
  .rcases hs with rfl|rfl<;>omega
  rcases List.mem_cons.1 hc with rfl|hc
  .rcases hs with rfl|rfl<;>omega
  .exact ih (fun x E=>h x (aD _ E)) c hc
theorem vq(h:Lm ls):∀c∈dy 1 ls,0<=c/\c<=65535:=fun c hc=>by
 induction ls with
 |nil=>cases hc
 |cons l r ih=>
  have hl:=h l aF;rw[dy]at hc;rcases List.mem_cons.1 hc with rfl|hc
  .omega
  rcases List.mem_cons.1 hc with rfl|hc
  .omega
  .exact ih (fun x E=>h x (aD _ E)) hc
theorem Ci{i:Nat}{c:Int}(h:cs[i]? =some c):dS (cs.drop i)=c+65536*dS (cs.drop (i+1)):=by
 rw[List.drop_eq_getElem_cons (aH.1 h).1,dS];have:=(aH.1 h).2;rw[this]
end Go.Ex
namespace Go.Ex
open Go Go.Sx Go.Proofs
variable{ls:List Nat}{S:Nat->Prop}
theorem JG{k:Nat}(h:Lm ls)(hl:ls.length<=k):ln (val ls)<=k:=gF.2 (Nat.lt_of_lt_of_le (oH h) (CL hl))
theorem Cv.false{B:Nat}{iv:Iv}{g:Nat}(h:Cv FF B iv g):Cv S B iv g:=h.elim (fun h=>h.elim) .inr
theorem EO{w:World}{v u:Value}{f g:Rat}(L:Old S w)(hf:cY w S v f)(V:cY w S u g)(hlf:rl f<=10000000000)(hlg:rl g<=10000000000):
  eD PG Fd.lz #[v,u] w (eL w fun v' F=>v'=iV (rs (f-g))):=by
 have Y:=bR w;have l1:=fj f;have l2:=fC f;have l3:=fj g;have l4:=fC g;have m0:=cz f.num g.den;have m1:=cz g.num f.den;replace hf:=hf.cO (S':=Cv S w.heap.size []) fun _ h=>.inl h;replace V:=V.cO (S':=Cv S w.heap.size []) fun _ h=>.inl h;obtain⟨b1,a1,n1,c1,b2,a2,n2,c2,rfl⟩:=hf.shape;obtain⟨b3,a3,n3,c3,b4,a4,n4,c4,rfl⟩:=V.shape;have S3:=hf.num;have Pb:=hf.den;have Sr:=V.num;have RI:=V.den;refine pK ce ?_;refine dP [.x 0,.x 1,.x 2,.x 3,.x 5,.x 6,.x 7,.x 8,.x 4,.x 9,.x 10,.x 11] ?_;refine cE Y (pR dw (f.num*(g.den:Int))) (fun O J r=>fq (rlo r L) (S3.rel r L) (RI.rel r L) be be) ?_;rintro O _ _ _ OS r G Y A U;replace Pb:=Pb.cL r L G (mC A);replace Sr:=Sr.cL r L G (mC A);have hA:=U.cO (nw r A);obtain⟨A0,A1,A2,A3,rfl⟩:=hA.shape;refine cE Y (pR dw (g.num*(f.den:Int))) (fun O J r=>fq (rlo r L) (Sr.rel r L) (Pb.rel r L) be be) ?_;rintro O _ _ _ iv2 r G Y A U;replace hA:=hA.cL r oF G (mC A);have hB:=U.cO (nw r A);obtain⟨C0,C1,C2,C3,rfl⟩:=hB.shape;refine cE Y (pE (iV (rs (f-g)))) (fun O J r=>(Jf f g)▸yR (rlo r oF) (hA.rel r oF) (hB.rel r oF) be be) ?_;rintro O _ _ _ OR r G Y A rfl;exact rtn Y fun I8 we re=>rfl
theorem KG{q:Rat}:rs q=0↔q=0:=by rw[rs,bX,Rat.num_eq_zero]
theorem JH{n:Int}(W: -9223372036854775808<=n)(I:n<=9223372036854775807):rl (n:Rat)<=2:=by
 have:=tc W I;unfold rl;rw[Rat.num_intCast,Rat.den_intCast];have:ln 1=1:=by decide
 omega
theorem yf(n:Int)(w:World)(W: -9223372036854775808<=n)(I:n<=9223372036854775807):
  eD PG Fd.vA #[iV n] w (eL w fun v' F=>cZ F (Nf w F) v' (n:Rat)):=by
 have Y:=bR w;have hl:=JH W I;refine yD ce ?_;refine cM (cE Y (pR cY (n)) (fun O J r=>iD n J W I) ?_);rintro O _ _ _ OS r G Y A U;have hX:=U.cO (nw r A);obtain⟨A0,A1,A2,A3,A4,A5,A6,A7,rfl⟩:=hX.shape;refine cM (cE Y (pR cZ (n)) (fun O J r=>wk (rlo r oF) (hX.rel r oF) be) ?_);rintro O _ _ _ iv2 r G Y A U;have hC:=U.cO (nw r A);obtain⟨C0,C1,C2,C3,C4,C5,C6,C7,rfl⟩:=hC.shape;exact rtn Y fun I8 we re=>hC.out re oF
end Go.Ex
