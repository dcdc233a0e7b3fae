/- Texts X44 to X54: lemmas, each with its conditions. -/
import Derived.Test.YtbffinhkognefaaGreatDoorP7
namespace Go.Ex
open Go Go.Sx Go.Proofs
variable{b:List (Int×Int)}{M:List (List (Int×Int))}{Fn:List (List Rat)}{h:Nat}{S:Nat->Prop}{P:Rat->Prop}
theorem ji(w:World)(t e:TypeId)(a:Option Addr)(n c n' c':Nat)(h:PG.underlying t=some (.slice e)):
  (binOp .neq t (.slice a n c) (.slice none n' c')).run PG w= .ok (.bool a.isSome) w:=by
 have:∀d,(Op.equalIn (d+1) t (.slice a n c) (.slice none n' c')).run PG w= .ok a.isNone w:=fun d=>by cases a<;>simp[Op.equalIn,run_underlying h]
 simp only[binOp]
 cases a<;>simp[Op.equal,Op.maxDepth,this 9999]
theorem aAT{l:List Rat}{i:Nat}{q:Rat}(h:∀x∈l,P x)(hq:P q):∀x∈l.set i q,P x:=fun x E=>by
 rcases bQ E with Y|Y
 .exact h x Y
 .rw[Y];exact hq
theorem IX(H:Ht Fn h)(I:2<=h)(i c:Nat):rl (dU Fn i c)+1<=h:=by
 unfold dU
 cases hA:Fn[i]? with
 |none=>
  have:Fn.getD i []=[]:=by rw[List.getD,hA];rfl
  rw[this];show rl 0+1<=h;exact aR bv I
 |some r=>
  have:Fn.getD i []=r:=by rw[List.getD,hA];rfl
  rw[this];exact kl (H.at hA) I c
theorem Di(H:Ht Fn h)(I:2<=h)(pv:List Nat)(cols i:Nat):∀x∈iD Fn pv cols i,rl x+1<=h:=by
 induction i with
 |zero=>intro x E;simp[iD]at E;rw[E.2];exact aR bv I
 |succ i ih=>rw[kO];exact aAT ih (IX H I _ _)
theorem ju(Fn:List (List Rat))(pv:List Nat)(cols i:Nat):(iD Fn pv cols i).length=cols:=by
 induction i with
 |zero=>simp[iD]
 |succ i ih=>rw[kO,bW,ih]
theorem LB(H:Ht Fn h)(I:2<=h)(pv:List Nat)(cols c i:Nat):∀x∈kG Fn pv cols c i,rl x+1<=h:=by
 induction i with
 |zero=>
  unfold kG;refine aAT (fun x E=>?_) (aR bv I);rw[aY E];exact aR bv I
 |succ i ih=>rw[ll];exact aAT ih (by rw[kj];exact IX H I _ _)
theorem HE(H:Ht Fn h)(I:2<=h)(pv:List Nat)(cols c:Nat):∀r∈dz Fn pv cols c,r.length=cols/\∀x∈r,rl x+1<=h:=fun r hr=>by
 unfold dz at hr;obtain⟨c',_,rfl⟩:=bE.1 hr;exact⟨uE _ _ _ _ _,LB H I _ _ _ _⟩
theorem HF(Fn:List (List Rat))(pv:List Nat)(cols c:Nat):(dz Fn pv cols c).length<=c:=by
 unfold dz;rw[aO];exact aR (List.length_filter_le _ _) ce
def Cl(M:List (List (Int×Int)))(b:List (Int×Int)):Nat:=if jm M≠0 then jm M else if b.length≠M.length then 11 else 0
def aAU(M:List (List (Int×Int)))(b:List (Int×Int))(w F:World)(s:Value):Prop:=∃Fn pv,(Fn,pv)=dG (pB (dT M) (b.map dD)) (dM M)/\
 ((∃j vp,pv.length<=j/\j<M.length/\dU Fn j (dM M)≠0/\(∀k,pv.length<=k->k<j->dU Fn k (dM M)=0)/\s= .agg #[iV 1,nls,nls,vp]/\
   cg F (Nf w F) vp (((Fn.getD j []).drop (dM M+1)).map (· *(1 / dU Fn j (dM M)))))\/
  (∃vx vk,(∀k,pv.length<=k->k<M.length->dU Fn k (dM M)=0)/\s= .agg #[iV 0,vx,vk,nls]/\cg F (Nf w F) vx (iD Fn pv (dM M) pv.length)/\
   db F (Nf w F) vk (dz Fn pv (dM M) (dM M))))
theorem IY{w:World}{v u:Value}{h0:Nat}(W:Old S w)(h:dR w S v M)(hu:dK w S u b)(hf:Cl M b=0->(∀r∈M,vN r)/\vN b/\Ht (pB (dT M) (b.map dD)) h0/\2<=h0/\4^M.length*h0<=500000000):
  eL PG FS.sM #[v,u] w (eY w fun v' F=>(Cl M b≠0/\v'= .tuple #[.agg #[iV 0,nls,nls,nls],iV (Cl M b)])\/
   (Cl M b=0/\∃s,v'= .tuple #[s,iV 0]/\aAU M b w F s)):=by
 replace h:=dR.arg h [];replace hu:=dK.arg hu [];obtain⟨am,cm,rfl,SF,-⟩:=dH.shape h;obtain⟨ab,cb,rfl,RK,-⟩:=dN.shape hu;refine BK ce ?_;conv=>whnf
 refine cW (cU (GT:=fun _ _ v _=>v=iV ((Cl M b:Nat):Int)) (fun O J r=>Ck (rlo r W) (dR.rel h r W) (dK.rel hu r W)) ?_);rintro O wa v1 wb r L G rfl;replace h:=dR.cS (K:=(wa.heap.size,wb.heap.size)::[]) h r W L fun x E=>aD _ E;replace hu:=dK.cS (K:=(wa.heap.size,wb.heap.size)::[]) hu r W L fun x E=>aD _ E;clear r L;generalize (wa.heap.size,wb.heap.size)::[]=iv at*
 conv=>whnf
 refine zk.mk (fun h0'=>?_) (fun h0'=>?_)
 .have h0':Cl M b≠0:=fun e=>by rw[e]at h0';simp at h0'
  conv=>whnf
  exact rtn G fun GE we re=>.inl ⟨h0',rfl⟩
 have h0':Cl M b=0:=by
  have h4:((Cl M b:Int)==0)=true:=by simpa using h0'
  have:=eq_of_beq h4;omega
 obtain⟨hf1,hf2,TX,I,TH⟩:=hf h0';have hE:jm M=0/\b.length=M.length:=by
  unfold Cl at h0';split at h0'
  .rename_i h3;exact absurd h0' h3
  .split at h0'
   .cases h0'
   .rename_i h3 h4;exact⟨be,be⟩
 have hE2:(∀r∈M,r.length=dM M)/\M.length<=60/\dM M<=60:=by
  have h3:=hE.1;unfold jm at h3;split at h3
  .rename_i h4;split at h3
   .cases h3
   .exact⟨h4,be,be⟩
  .cases h3
 obtain⟨Pm,hRl,Qg⟩:=hE2;conv=>whnf
 refine cW (cU (GT:=fun _ J v' F=>∃Fn pv,(Fn,pv)=dG (pB (dT M) (b.map dD)) (dM M)/\
   ((∃j vp,pv.length<=j/\j<M.length/\dU Fn j (dM M)≠0/\(∀k,pv.length<=k->k<j->dU Fn k (dM M)=0)/\v'= .agg #[vp,nls,nls]/\(∃a n c,vp= .slice (some a) n c)/\
     eF F (Nf J F) (Nf J F) vp (((Fn.getD j []).drop (dM M+1)).map (· *(1 / dU Fn j (dM M)))))\/
    (∃vx vk,(∀k,pv.length<=k->k<M.length->dU Fn k (dM M)=0)/\v'= .agg #[nls,vx,vk]/\eF F (Nf J F) (Nf J F) vx (iD Fn pv (dM M) pv.length)/\
     fR F (Nf J F) vk (dz Fn pv (dM M) (dM M))))) (fun O J r=>Oe (rlo r W) (dR.rel h r W) (dK.rel hu r W) hf1 hf2 Pm hE.2 be be TX I TH) ?_)
 rintro O wc v1 wd r L A ⟨Fn,pv,hA,YM⟩;have hinv:=lz (cols:=dM M) TX I;rw[<-hA]at hinv;obtain⟨Ul,QQ,Ty,hAh⟩:=hinv;dsimp only at Ul QQ Ty hAh;rw[yj,aO]at Ul QQ;have XI:Ht Fn 500000000:=hAh.mono (aR (Nat.mul_le_mul_right _ (Nat.pow_le_pow_right bv QQ)) TH);replace G:=G.tr A;rcases YM with⟨j,vp,hj1,XJ,hj3,hj4,rfl,⟨ap,np,cp,rfl⟩,hP⟩|⟨vx,vk,hz,rfl,hX,hK⟩
 .have UF:eF wd (Cf w ((wc.heap.size,wd.heap.size)::iv)) (Cf w ((wc.heap.size,wd.heap.size)::iv)) (.slice (some ap) np cp) _:=hP.cV (fun g V=>V.ep r.cZ aF) fun g V=>V.ep r.cZ aF;clear r L A hP h hu;generalize (wc.heap.size,wd.heap.size)::iv=iv2 at*
  obtain⟨_,_,Xp,-,Yx⟩:=UF.shape;have hrj:∀x∈((Fn.getD j []).drop (dM M+1)).map (· *(1 / dU Fn j (dM M))),rl x<=10000000000:=fun x E=>by
   obtain⟨y,hy,rfl⟩:=bE.1 E;have Y:rl y+1<=500000000:=by
    cases hAj:Fn[j]? with
    |none=>
     have:Fn.getD j []=[]:=by rw[List.getD,hAj];rfl
     rw[this]at hy;simp at hy
    |some r=>
     have:Fn.getD j []=r:=by rw[List.getD,hAj];rfl
     rw[this]at hy;exact XI.at hAj y (List.mem_of_mem_drop hy)
   have h2':=jl y (1 / dU Fn j (dM M));have h3:=uj hj3;have h4:=IX XI bv j (dM M);omega
  have TM:(((Fn.getD j []).drop (dM M+1)).map (· *(1 / dU Fn j (dM M)))).length<=1000000:=by
   have hL0:iq (dM M+1+M.length) (pB (dT M) (b.map dD)):=fun r hr=>by
    obtain⟨i,N⟩:=az hr;simp only[pB,List.getElem?_mapIdx,Option.map_eq_some_iff,aU]at N;obtain⟨r1,⟨r0,RW,rfl⟩,rfl⟩:=N;have:=Pm r0 (aG RW);simp[xF];omega
   have hL:=yM (cols:=dM M) hL0;rw[<-hA]at hL;rw[aO,List.length_drop,hL.getD (show j<Fn.length by omega)];omega
  conv=>whnf
  refine⟨true,fun O w1 o1 o2=>by simp[eqGuard,SV.den,At.den,ji w1 T.row T.dO (some ap) np cp 0 0 te],?_⟩;conv=>whnf
  refine cW (cU (GT:=fun _ J v F=>cg F (Nf J F) v (((Fn.getD j []).drop (dM M+1)).map (· *(1 / dU Fn j (dM M))))) (fun O J r=>kZ (rlo r oF) (UF.rel r oF oF) TM hrj) ?_);rintro O wa v1 wb r L A hO;have Qh:=cg.ep (S:=FF) hO r.cZ (iv:=(wa.heap.size,wb.heap.size)::iv2) aF;replace G:=G.tr A;clear r L A hO UF;generalize (wa.heap.size,wb.heap.size)::iv2=Pu at*
  obtain⟨a5,c5,rfl,-,-⟩:=dN.shape Qh;conv=>whnf
  exact rtn G fun GE we re=>.inr ⟨h0',_,rfl,Fn,pv,hA,.inl ⟨j,_,hj1,XJ,hj3,hj4,rfl,cg.out Qh re oF⟩⟩
 .have hXN:eF wd (Cf w ((wc.heap.size,wd.heap.size)::iv)) (Cf w ((wc.heap.size,wd.heap.size)::iv)) vx _:=hX.cV (fun g V=>V.ep r.cZ aF) fun g V=>V.ep r.cZ aF;have hKN:=fR.ep (S:=FF) hK r.cZ (iv:=(wc.heap.size,wd.heap.size)::iv) aF;clear r L A hX hK h hu;generalize (wc.heap.size,wd.heap.size)::iv=iv2 at*
  obtain⟨ax,cx,rfl,-,-⟩:=hXN.shape;obtain⟨ak,ck,rfl,-,-⟩:=dH.shape hKN;have SS:=ju Fn pv (dM M) pv.length;have hxh:=Di XI bv pv (dM M) pv.length;have hkh:=HE XI bv pv (dM M) (dM M);have WX:=HF Fn pv (dM M) (dM M);conv=>whnf
  refine⟨false,fun O w1 o1 o2=>by simp[eqGuard,SV.den,At.den,ji w1 T.row T.dO none 0 0 0 0 te],?_⟩;conv=>whnf
  refine dP [.x 0,.x 1,.x 3,.x 4,.x 2,.x 5,.x 6,.x 7,.x 8] ?_;conv=>whnf
  refine cU (GT:=fun _ J v F=>cg F (Nf J F) v (iD Fn pv (dM M) pv.length)) (fun O J r=>kZ (rlo r oF) (hXN.rel r oF oF) (by rw[SS];omega) (fun q hq=>by have:=hxh q hq;omega)) ?_;rintro O wa v1 wb r L A hO;have Qh:=cg.ep (S:=FF) hO r.cZ (iv:=(wa.heap.size,wb.heap.size)::iv2) aF;replace hKN:=fR.cS (K:=(wa.heap.size,wb.heap.size)::iv2) hKN r oF L fun x E=>aD _ E;replace G:=G.tr A;clear r L A hO hXN;generalize (wa.heap.size,wb.heap.size)::iv2=Pu at*
  obtain⟨a5,c5,rfl,-,-⟩:=dN.shape Qh;conv=>whnf
  refine cU (GT:=fun _ J v F=>db F (Nf J F) v (dz Fn pv (dM M) (dM M))) (fun O J r=>Of (rlo r oF) (fR.rel hKN r oF) be (show dM M<=1000000 by omega) (fun r hr=>(hkh r hr).1) (fun r hr q hq=>by have:=(hkh r hr).2 q hq;omega)) ?_;rintro O wa v1 wb r L A hO;have UF:=db.ep (S:=FF) hO r.cZ (iv:=(wa.heap.size,wb.heap.size)::Pu) aF;replace Qh:=cg.cS (K:=(wa.heap.size,wb.heap.size)::Pu) Qh r oF L fun x E=>aD _ E;replace G:=G.tr A;clear r L A hO hKN;generalize (wa.heap.size,wb.heap.size)::Pu=QD at*
  obtain⟨a6,c6,rfl,-,-⟩:=dH.shape UF;conv=>whnf
  exact rtn G fun GE we re=>.inr ⟨h0',_,rfl,Fn,pv,hA,.inr ⟨_,_,hz,rfl,cg.out Qh re oF,db.out UF re oF⟩⟩
end Go.Ex
namespace Go.Ex
variable{ds:List Nat}
def dw:List Int->Int
 |[]=>0
 |c::r=>c+65536*dw r
def up(k:Nat):Int:=65536^k
theorem EU(k:Nat):up (k+1)=65536*up k:=by rw[up,Int.pow_succ,Int.mul_comm];rfl
theorem MQ(k:Nat):0<up k:=Int.pow_pos bv
theorem CU(a b:List Int):dw (a++b)=dw a+up a.length*dw b:=by
 induction a with
 |nil=>simp[dw,up]
 |cons c r ih=>rw[List.cons_append,dw,ih,dw,bm,EU,Int.mul_add,<-Int.mul_assoc];omega
theorem Ho(a:List Int):dw (a.map (- ·))= -dw a:=by
 induction a with
 |nil=>rfl
 |cons c r ih=>rw[List.map_cons,dw,ih,dw];omega
def Dg(l:List Nat):Prop:=∀d∈l,d<65536
def oG(l:List Nat):Int:=dw (l.map fun d:Nat=>(d:Int))
theorem Ao{l:List Nat}(h:Dg l):0<=oG l/\oG l<up l.length:=by
 induction l with
 |nil=>exact⟨Int.le_refl _,bv⟩
 |cons d r ih=>
  have Y:=ih fun x E=>h x (aD _ E);have I:=h d aF;have e:oG (d::r)=(d:Int)+65536*oG r:=rfl;rw[e,bm,EU];omega
def eG:List Int->Int->List Nat×Int
 |[],k=>([],k)
 |c::r,k=>(((c+k) % 65536).toNat::(eG r ((c+k) / 65536)).1,(eG r ((c+k) / 65536)).2)
theorem mz:∀(cs:List Int) (k:Int),dw cs+k=oG (eG cs k).1+up cs.length*(eG cs k).2/\Dg (eG cs k).1/\(eG cs k).1.length=cs.length
 |[],k=>⟨by simp[dw,eG,oG,up],by simp[eG,Dg],rfl⟩
 |c::r,k=>by
  obtain⟨Y,I,h3⟩:=mz r ((c+k) / 65536);have h4:0<=(c+k) % 65536:=Int.emod_nonneg _ bv;have h5:(c+k) % 65536<65536:=Int.emod_lt_of_pos _ bv;have h6:=Int.mul_ediv_add_emod (c+k) 65536;refine⟨?_,fun d hd=>?_,by simp[eG,h3]⟩
  .have e:oG (eG (c::r) k).1=(((c+k) % 65536).toNat:Int)+65536*oG (eG r ((c+k) / 65536)).1:=rfl;have e2:(eG (c::r) k).2=(eG r ((c+k) / 65536)).2:=rfl;rw[e,e2,dw,bm,EU,Int.mul_assoc];omega
  .have e:(eG (c::r) k).1=((c+k) % 65536).toNat::(eG r ((c+k) / 65536)).1:=rfl;rw[e]at hd;rcases List.mem_cons.1 hd with rfl|hd
   .omega
   .exact I d hd
theorem EV(cs:List Int)(c k:Int):eG (cs++[c]) k=((eG cs k).1++[((c+(eG cs k).2) % 65536).toNat],(c+(eG cs k).2) / 65536):=by
 induction cs generalizing k with
 |nil=>rfl
 |cons d r ih=>simp only[List.cons_append,eG,ih]
theorem lV:∀(cs:List Int) (k:Int),(∀c∈cs,-1152921504606846976<=c/\c<=1152921504606846976)-> -1152921504606846976<=k->k<=1152921504606846976-> -1152921504606846976<=(eG cs k).2/\(eG cs k).2<=1152921504606846976
 |[],k,_,Y,I=>⟨Y,I⟩
 |c::r,k,h,Y,I=>by
  have hc:=h c aF;exact lV r _ (fun x E=>h x (aD _ E)) be be
def dc(n:Nat):List Nat:=if h:n=0 then []else n % 65536::dc (n / 65536)
termination_by n
decreasing_by omega
theorem nA:dc 0=[]:=by rw[dc];rfl
theorem sE{n:Nat}(h:0<n):dc n=n % 65536::dc (n / 65536):=by
 rw[dc,dif_neg be]
theorem nB(n:Nat):oG (dc n)=n/\Dg (dc n):=by
 induction n using Nat.strongRecOn with
 |_ n ih=>
  rcases bH n with h|h
  .subst h;rw[nA];exact⟨rfl,by simp[Dg]⟩
  .rw[sE h];obtain⟨Y,I⟩:=ih (n / 65536) be;refine⟨?_,fun d hd=>?_⟩
   .have e:oG (n % 65536::dc (n / 65536))=((n % 65536:Nat):Int)+65536*oG (dc (n / 65536)):=rfl;rw[e,Y];omega
   .rcases List.mem_cons.1 hd with rfl|hd
    .omega
    .exact I d hd
theorem kW{n:Nat}:∀{k:Nat},n<65536^k->(dc n).length<=k
 |0,h=>by
  have:n=0:=by simp at h;exact h
  subst this;rw[nA];simp
 |k+1,h=>by
  rcases bH n with h0|h0
  .subst h0;rw[nA];simp
  .rw[sE h0,bm];have:=kW (n:=n / 65536) (k:=k) (by rw[Nat.pow_succ]at h;exact Nat.div_lt_of_lt_mul (by rw[bc];exact h));omega
def ig:List Nat->List Nat
 |[]=>[]
 |[a]=>[a]
 |a::b::r=>(a+65536*b)::ig r
theorem Ap:∀(l:List Nat),Dg l->(val (ig l):Int)=oG l/\Lm (ig l)/\(ig l).length=(l.length+1) / 2
 |[],_=>⟨rfl,by simp[ig,Lm],rfl⟩
 |[a],h=>by
  have:=h a ce;exact⟨by simp[ig,val,oG,dw],fun x E=>by simp[ig]at E;omega,by simp[ig]⟩
 |a::b::r,h=>by
  obtain⟨Y,I,h3⟩:=Ap r fun x E=>h x (aD _ (aD _ E));have ha:=h a ce;have A:=h b ce;refine⟨?_,fun x E=>?_,?_⟩
  .have e:oG (a::b::r)=(a:Int)+65536*((b:Int)+65536*oG r):=rfl;rw[e,<-Y,ig,val];simp only[Int.natCast_add,Int.natCast_mul]
   omega
  .rw[ig]at E;rcases List.mem_cons.1 E with rfl|E
   .omega
   .exact I x E
  .rw[ig,bm,h3];simp only[bm]
   omega
def pk(ds:List Nat)(k:Nat):List Nat:=(List.range k).map fun i=>ds.getD (2*i) 0+65536*ds.getD (2*i+1) 0
theorem z8(ds:List Nat)(k:Nat):pk ds (k+1)=pk ds k++[ds.getD (2*k) 0+65536*ds.getD (2*k+1) 0]:=by simp[pk,bz]
theorem xV(ds:List Nat)(k:Nat):(pk ds k).length=k:=by simp[pk]
theorem MR:∀(ds:List Nat),pk ds ((ds.length+1) / 2)=ig ds
 |[]=>rfl
 |[a]=>by simp[pk,ig,bz]
 |a::b::r=>by
  have ih:=MR r;have e:((a::b::r).length+1) / 2=(r.length+1) / 2+1:=by simp only[bm];omega
  rw[e,ig,<-ih,pk,List.range_succ_eq_map,List.map_cons,List.map_map,pk];congr 1
theorem MS(h:Dg ds)(k:Nat):Lm (pk ds k):=fun x E=>by
 obtain⟨i,_,rfl⟩:=bE.1 E;have key:∀j,ds.getD j 0<65536:=fun j=>by
  rw[List.getD]
  cases hj:ds[j]? with
  |none=>simp
  |some d=>simp;exact h d (aG hj)
 have Y:=key (2*i);have I:=key (2*i+1);omega
end Go.Ex
namespace Go.Ex
open Go Go.Sx Go.Proofs
variable{cs:List Int}{S:Nat->Prop}{v:Value}{w:World}
def eQ(w:World)(S:Nat->Prop)(v:Value)(cs:List Int):Prop:=fe w S 1 v (cs.map (Value.int .i64)) cs.length
theorem eQ.cX{F:World}(h:eQ w S v cs)(R:∀g,S g->F.heap[g]? =w.heap[g]?):eQ F S v cs:=fe.cX h R
theorem eQ.cV{S':Nat->Prop}(h:eQ w S v cs)(R:∀g,S g->S' g):eQ w S' v cs:=fe.cV h R
theorem eQ.load{a:Option Addr}{n c j:Nat}{x:Int}(h:eQ w S (.slice a n c) cs)(E:cs[j]? =some x):∃ad,a=some ad/\S ad.block/\w.cell? (ad.add (j*1))=some (iV x):=by
 obtain⟨_,_,_,a',c',e,_,h4⟩:=h;injection e with e1 e2 e3;subst e1;obtain⟨ad,k1,k2,k3⟩:=h4 j (iV x) (by rw[aU,E];rfl);exact⟨ad,k1,k2,by rw[av];exact k3⟩
theorem eQ.shape(h:eQ w S v cs):∃a c,v= .slice a cs.length c/\cs.length<=c:=by
 obtain⟨_,_,_,a',c',e,h3,_⟩:=h;exact⟨a',c',e,h3⟩
def eZ(ds:List Nat):List Int:=ds.map fun d:Nat=>(d:Int)
theorem fJ(ds:List Nat):(eZ ds).length=ds.length:=by simp[eZ]
end Go.Ex
namespace Go.Sx
open Go Go.Ex Go.Proofs
variable{cs:List Value}{O:Nat->Sx.eH}
theorem Rel.FA{H:Hp}{nx:Nat}{iv:Iv}{B:Nat}{w J:World}(r:Rel H nx iv B w O J){id t m sz:Nat}(h:dV H id=some (.vec t sz cs))(hm:cs.length=m*sz)(hs:0<sz):
  J.ownsRow B t sz ((At.w id m).den O) m cs:=by
 rcases r.vec id t sz _ h with⟨U,rfl⟩|⟨U,spare,A,hc,RO⟩
 .have UR:m=0:=by
   rcases bH m with h|h
   .exact h
   .have:=Nat.mul_pos h hs;simp at hm;omega
  subst UR;have:(At.w id 0).den O=nls:=by simp[At.den,U]
  rw[this];exact World.ownsRow_nil _ _ _ _
 .have hv:(At.w id m).den O= .slice (some ⟨(O id).g,0,none⟩) m (O id).cap:=by simp[At.den,U]
  have Y:(cs++spare).length=cs.length+spare.length:=aV;rw[hv];refine⟨hm,.inr ⟨(O id).g,(O id).cap,_,rfl,(r.low id _ h U).1,A,?_,RO,by simpa using hc,?_⟩⟩
  .have I:m*sz<=(O id).cap*sz:=by omega
   exact Nat.le_of_mul_le_mul_right I hs
  .rw[<-hm];simp
end Go.Sx
namespace Go.Ex
open Go Go.Sx Go.Proofs
theorem HG(n:Nat)(w:World)(U:n<=9223372036854775807):eL PG FS.wX #[iV n] w (eY w fun v F=>eQ F (Nf w F) v (eZ (dc n))):=by
 refine zL ce ?_
 refine⟨Nat×List Nat×World,fun z=>⟨[(0,iZ z.1),(3,.o (.w 0 z.2.1.length))],[(0,.vec T.int 1 ((eZ z.2.1).map (Value.int .i64)))],1,[],z.2.2⟩,fun z=>z.1,
  fun z=>Bq w z.2.2/\z.1<=n/\z.2.1.length<=n-z.1/\z.2.1++dc z.1=dc n,?_,?_⟩
 .intro O J r
  exact⟨(n,[],J),⟨r.cj,lr,ce,ce⟩,Sub.nil 3 T.int 1 rfl (by simp[jn,SV.sc,At.sc,fu]) r fun I9 r1=>
   sbgn [] r1⟩
 rintro⟨k,ds,w1⟩ ⟨G,R,hl,hs⟩;dsimp only at G R hl hs ⊢;have S5:=fJ ds;apply bS<;>intro h
 .have h:0<k:=by
   have:(k:Int)>0:=aJ h;omega
  refine⟨bv,((k % 65536:Nat):Int),mT k 65536,?_⟩;refine .inl ?_;refine⟨by simp[S5],?_,by have Y:=congrArg List.length hs;rw[aV]at Y;have I:=kW (n:=n) (k:=4) be;unfold maxLen;omega,?_⟩
  .have Y:=congrArg List.length hs;rw[aV]at Y;have I:=kW (n:=n) (k:=4) be;omega
  refine⟨bv,((k / 65536:Nat):Int),Em be,?_⟩;intro I8 w3 r3;have XY:(ds++[k % 65536]).length=ds.length+1:=by simp
  have Um:(eZ (ds++[k % 65536])).map (Value.int .i64)=(eZ ds).map (Value.int .i64)++[iV ((k % 65536:Nat):Int)]:=by simp[eZ]
  refine⟨(k / 65536,ds++[k % 65536],w3),⟨G.tr r3.cj,by dsimp only;omega,by dsimp only;rw[XY];omega,?_⟩,
   sbgn [(0,2)] r3 ⟨by rw[Um];rfl,trivial⟩ ⟨rfl,by dsimp only;rw[XY];rfl,trivial⟩,by dsimp only;omega⟩
  dsimp only
  rw[<-hs,sE h];simp
 .have h:k=0:=by
   have:¬(k:Int)>0:=aL h;omega
  subst h;rw[nA,List.append_nil]at hs;subst hs;intro GE we re;refine⟨_,rfl,G.tr re.cj,?_⟩;have:=re.ku (id:=0) (sz:=1) (m:=(dc n).length) rfl (by simp[S5]) (by have I:=kW (n:=n) (k:=4) be;unfold maxLen;omega) bv (by intro u hu;simp at hu;obtain⟨_,_,rfl⟩:=hu;rfl);unfold eQ;rw[S5];exact this.cV fun g V=>.inr V
variable{cs:List Int}{S:Nat->Prop}
theorem xy(n:Int):(n.tmod 65536<0->n % 65536=n.tmod 65536+65536)/\(¬n.tmod 65536<0->n % 65536=n.tmod 65536)/\ -65536<n.tmod 65536/\n.tmod 65536<65536:=by
 by_cases h:0<=n
 .rw[Int.tmod_eq_emod_of_nonneg h];omega
 .have Y:n.tmod 65536= -((-n) % 65536):=by
   have:n= -(-n):=by omega
   conv=>lhs;rw[this]
   rw[Int.neg_tmod,Int.tmod_eq_emod_of_nonneg be]
  rw[Y];omega
theorem Dm(n:Int):(n-n % 65536).tdiv 65536=n / 65536:=by
 have h:n-n % 65536=65536*(n / 65536):=by omega
 rw[h,Int.mul_tdiv_cancel_left _ bv]
theorem Dn{w:World}{v:Value}(W:Old S w)(h:eQ w S v cs)(A:∀c∈cs,-1152921504606846976<=c/\c<=1152921504606846976)(hl:cs.length<=1000000000):
  eL PG FS.uN #[v] w (eY w fun v' F=>∃o,v'= .tuple #[o,iV (eG cs 0).2]/\F.ownsRow w.heap.size T.int 1 o cs.length ((eZ (eG cs 0).1).map (Value.int .i64))):=by
 obtain⟨a,c,rfl,hc⟩:=h.shape;refine xf ce ?_
 refine⟨Nat×World,fun z=>⟨[(0,sV a cs.length c),(4,.o (.w 0 z.1)),(5,.o (.v (iV (eG (cs.take z.1) 0).2))),(6,iZ z.1)],[(0,.vec T.int 1 ((eZ (eG (cs.take z.1) 0).1).map (Value.int .i64)))],1,[],z.2⟩,fun z=>cs.length-z.1,
  fun z=>Bq w z.2/\z.1<=cs.length,?_,?_⟩
 .intro O J r
  exact⟨(0,J),⟨r.cj,ce⟩,Sub.nil 4 T.int 1 rfl (by simp[jn,SV.sc,At.sc,fu]) r fun I9 r1=>
   sbgn [] r1⟩
 rintro⟨i,w1⟩ ⟨G,N⟩;dsimp only at G N ⊢;obtain⟨-,hdg,hlen⟩:=mz (cs.take i) 0;have Tn:((eZ (eG (cs.take i) 0).1).map (Value.int .i64)).length=i:=by rw[aO,fJ,hlen,bN];omega
 obtain⟨hk1,Tm⟩:=lV (cs.take i) 0 (fun c hc=>A c (List.mem_of_mem_take hc)) bv bv;have hR:eQ w1 S (.slice a cs.length c) cs:=eQ.cX h fun g V=>G.block g (W g V);apply bS<;>intro h
 .have h:=dL h;obtain⟨x,E⟩:=gO cs i;obtain⟨S4,Qa⟩:=A x (aG E);obtain⟨ad,rfl,q1,q2⟩:=hR.load E;have VX:cs.take (i+1)=cs.take i++[x]:=by rw[bM,E];rfl
  have hsn:=EV (cs.take i) x 0;rw[<-VX]at hsn;generalize (eG (cs.take i) 0).1=ds at*
  generalize (eG (cs.take i) 0).2=k at*
  obtain⟨t1,t2,t3,t4⟩:=xy (x+k);have hem1:=Int.emod_nonneg (x+k) (show (65536:Int)≠0 by decide);have hem2:=Int.emod_lt_of_pos (x+k) (show (0:Int)<65536 by decide);refine⟨ad,rfl,be,iV x,fun O J r=>?_,?_⟩
  .rw[aK,cd (w:=w1) (F:=J) (by rw[df];exact rls (S:=S) r W (.inl q1))];exact q2
  refine⟨x+k,wo,bv,(x+k).tmod 65536,rfl,?_⟩;apply bS<;>intro SE
  .have SE:=t1 (aJ SE);refine⟨(x+k) % 65536,by rw[SE,wrap64]<;>omega,x+k-(x+k) % 65536,wo,bv,(x+k) / 65536,by rw[Dm,wrap64]<;>omega,?_⟩;refine .inl ?_;refine⟨by rw[Tn,av],be,mx,((i+1:Nat):Int),wo,?_⟩;intro I8 w3 r3;have Um:(eZ (eG (cs.take (i+1)) 0).1).map (Value.int .i64)=(eZ ds).map (Value.int .i64)++[iV ((x+k) % 65536)]:=by
    rw[hsn];simp[eZ,Int.toNat_of_nonneg hem1]
   have hk5:(eG (cs.take (i+1)) 0).2=(x+k) / 65536:=by rw[hsn]
   exact⟨(i+1,w3),⟨G.tr r3.cj,by dsimp only;omega⟩,sbgn [(0,2)] r3 ⟨by dsimp only;rw[Um];rfl,trivial⟩ ⟨rfl,rfl,by dsimp only;rw[hk5];rfl,rfl,trivial⟩,by dsimp only;omega⟩
  .have SE:=t2 (aL SE);rw[<-SE];refine⟨x+k-(x+k) % 65536,wo,bv,(x+k) / 65536,by rw[Dm,wrap64]<;>omega,?_⟩;refine .inl ?_;refine⟨by rw[Tn,av],be,mx,((i+1:Nat):Int),wo,?_⟩;intro I8 w3 r3;have Um:(eZ (eG (cs.take (i+1)) 0).1).map (Value.int .i64)=(eZ ds).map (Value.int .i64)++[iV ((x+k) % 65536)]:=by
    rw[hsn];simp[eZ,Int.toNat_of_nonneg hem1]
   have hk5:(eG (cs.take (i+1)) 0).2=(x+k) / 65536:=by rw[hsn]
   exact⟨(i+1,w3),⟨G.tr r3.cj,by dsimp only;omega⟩,sbgn [(0,2)] r3 ⟨by dsimp only;rw[Um];rfl,trivial⟩ ⟨rfl,rfl,by dsimp only;rw[hk5];rfl,rfl,trivial⟩,by dsimp only;omega⟩
 .have h:i=cs.length:=by
   have:¬i<cs.length:=by simpa using h
   omega
  subst h;rw[bK]at Tn ⊢;exact rtn G fun GE we re=>⟨_,rfl,re.FA (id:=0) rfl (by rw[Tn,av]) bv⟩
end Go.Ex
namespace Go.Sx
open Go Go.Ex Go.Proofs
variable{ls:List Nat}{O:Nat->Sx.eH}
theorem Rel.NI{H:Hp}{nx:Nat}{iv:Iv}{B:Nat}{w J:World}(r:Rel H nx iv B w O J){id t m:Nat}(h:dV H id=some (.vec t 1 (EQ ls)))(hm:m<=ls.length)(Qj:Lm ls)(hle:ls.length<=9223372036854775807):
  dZ J (fun g=>B<=g/\g<J.heap.size) ((At.w id m).den O) (ls.take m):=by
 have QZ:(ls.take m).length=m:=by rw[bN];omega
 rcases r.vec id t 1 _ h with⟨U,hu⟩|⟨U,spare,A,hc,RO⟩
 .have hl:ls=[]:=by cases ls with
   |nil=>rfl
   |cons a b=>simp[EQ]at hu
  subst hl;simp at hm;subst hm;have:(At.w id 0).den O=nls:=by simp[At.den,U]
  rw[this];exact dZ.nil _ _
 .refine⟨Qj.take m,by rw[QZ];omega,some ⟨(O id).g,0,none⟩,(O id).cap,by rw[QZ];simp[At.den,U],?_,fun j x E=>⟨_,rfl,r.low id _ h U,?_⟩⟩
  .have Y:(EQ ls++spare).length=ls.length+spare.length:=by rw[aV,gP]
   rw[QZ];omega
  .rw[List.getElem?_take]at E;split at E
   .rw[dF,cell_of A,aS,aN (by rw[gP];exact(aH.1 E).1)];exact uR E
   .cases E
end Go.Sx
namespace Go.Ex
open Go Go.Sx Go.Proofs
section
variable{ds ls:List Nat}{S:Nat->Prop}
theorem Ia{n:Nat}(_hn:n<ls.length)(h0:ls[n]? =some 0):eO (ls.take (n+1))=eO (ls.take n):=by
 rw[bM,h0];exact mP _
theorem Ic{n x:Nat}(h0:ls[n]? =some x)(E:x≠0):eO (ls.take (n+1))=ls.take (n+1):=by
 rw[bM,h0];exact qJ _ E
theorem HH{w:World}{v:Value}(W:Old S w)(h:eQ w S v (eZ ds))(hd:Dg ds)(hl:ds.length<=1000000000):
  eL PG FS.wW #[v] w (eY w fun v' F=>∃lv,v'= .agg #[.bool false,lv]/\dZ F (Nf w F) lv (eO (ig ds))):=by
 obtain⟨a,c,rfl,hc⟩:=h.shape;rw[fJ]at hc h ⊢;refine zK ce ?_
 refine⟨Nat×World,fun z=>match z.1 with
   |0=>⟨[(0,sV a ds.length c),(2,pP 0 0),(3,pP 1 0),(4,iZ 0)],[(1,.box T.Int [.v (.bool false),.v nls]),(0,.box T.Int [.v (.bool false),.v nls])],2,[],z.2⟩
   |k+1=>⟨[(0,sV a ds.length c),(2,pP 0 0),(3,pP 1 0),(4,.o (.v (iV ((2*(k+1):Nat):Int))))],[(2,.vec T.uint32 1 (EQ (pk ds (k+1)))),(1,.box T.Int [.v (.bool false),.w 2 (k+1)]),(0,.box T.Int [.v (.bool false),.v nls])],3,[],z.2⟩,
  fun z=>ds.length-z.1,fun z=>Bq w z.2/\2*z.1<=ds.length+1,?_,?_⟩
 .intro O J r;exact⟨(0,J),⟨r.cj,ce⟩,sbgn [] r⟩
 rintro⟨k,w1⟩ ⟨G,N⟩;dsimp only at G N;have hR:eQ w1 S (.slice a ds.length c) (eZ ds):=eQ.cX h fun g V=>G.block g (W g V)
 cases k with
 |zero=>
  apply bS<;>intro Y
  .have Y:0<ds.length:=by
    have:=aJ Y;omega
   obtain⟨d0,hd0⟩:=gO ds 0;have hd0b:=hd d0 (aG hd0);have VD:ds.getD (2*0) 0=d0:=by show ds.getD 0 0=d0;rw[List.getD,hd0];rfl
   obtain⟨ad,rfl,q1,q2⟩:=hR.load (j:=0) (x:=(d0:Int)) (by rw[eZ,aU,hd0];rfl);refine⟨ad,rfl,be,iV (d0:Int),fun O J r=>?_,?_⟩
   .show J.cell? (ad.add (0*1))=_;rw[cd (w:=w1) (F:=J) (by rw[df];exact rls (S:=S) r W (.inl q1))];exact q2
   refine inc 0 ?_;apply bS<;>intro I
   .have I:0+1<ds.length:=by
     have:=aJ I;omega
    obtain⟨d1,QM⟩:=gO ds (0+1);have hd1b:=hd d1 (aG QM);have Tt:ds.getD (2*0+1) 0=d1:=by show ds.getD (0+1) 0=d1;rw[List.getD,QM];rfl
    obtain⟨_,QV,q3,q4⟩:=hR.load (j:=0+1) (x:=(d1:Int)) (by rw[eZ,aU,QM];rfl);injection QV with QV;subst QV;refine⟨((0+1:Nat):Int),wo,ad,rfl,be,iV (d1:Int),fun O J r=>?_,?_⟩
    .show J.cell? (ad.add ((0+1)*1))=_;rw[cd (w:=w1) (F:=J) (by rw[df];exact rls (S:=S) r W (.inl q3))];exact q4
    refine⟨((65536*d1:Nat):Int),wo,((d0+65536*d1:Nat):Int),wo,?_⟩;have Ua:=z8 ds 0;rw[VD,Tt]at Ua;generalize d0+65536*d1=dd at*
    have hdd:dd<4294967296:=MS hd (0+1) dd (by rw[Ua];simp);refine⟨(dd:Int),by rw[jQ]<;>omega,?_⟩;refine .inl ?_;refine⟨be,mx,((2*(0+1):Nat):Int),wo,?_⟩;intro I8 w3 r3;have hU:EQ (pk ds (0+1))=EQ (pk ds 0)++[.int .u32 (dd:Int)]:=by rw[Ua];simp[EQ]
    exact⟨(0+1,w3),⟨G.tr r3.cj,by dsimp only;omega⟩,sbgn [(2,3)] r3 ⟨by dsimp only;rw[hU];rfl,rfl,rfl,trivial⟩,by dsimp only;omega⟩
   .have I:0+1=ds.length:=by
     have:=aL I;omega
    have Tt:ds.getD (2*0+1) 0=0:=by show ds.getD (0+1) 0=0;rw[List.getD,List.getElem?_eq_none be];rfl
    have Ua:=z8 ds 0;rw[VD,Tt]at Ua;obtain⟨dd,hdde⟩:∃dd,dd=d0:=⟨_,rfl⟩
    rw[<-hdde]at Ua ⊢;have hdd:dd<4294967296:=by omega
    rw[show dd+65536*0=dd by omega]at Ua;refine⟨(dd:Int),by rw[jQ]<;>omega,?_⟩;refine .inl ?_;refine⟨be,mx,((2*(0+1):Nat):Int),wo,?_⟩;intro I8 w3 r3;have hU:EQ (pk ds (0+1))=EQ (pk ds 0)++[.int .u32 (dd:Int)]:=by rw[Ua];simp[EQ]
    exact⟨(0+1,w3),⟨G.tr r3.cj,by dsimp only;omega⟩,sbgn [(2,3)] r3 ⟨by dsimp only;rw[hU];rfl,rfl,rfl,trivial⟩,by dsimp only;omega⟩
  .have Y:ds=[]:=by
    have:=aL Y;exact List.eq_nil_of_length_eq_zero be
   subst Y;refine⟨World,fun z=>⟨[(2,pP 0 0),(3,pP 1 0),(6,iZ 0)],[(1,.box T.Int [.v (.bool false),.v nls]),(0,.box T.Int [.v (.bool false),.v nls])],2,[],z⟩,fun _=>0,fun z=>Bq w z,?_,?_⟩
   .intro O J r;exact⟨J,G.tr r.cj,sbgn [] r⟩
   intro F G;dsimp only at G ⊢;refine⟨⟨bv,bv,bv⟩,none,0,0,d8,d8,d8,?_⟩;exact rtn G fun GE we re=>⟨_,rfl,dZ.nil _ _⟩
 |succ k=>
  apply bS<;>intro Y
  .have Y:(2*(k+1))<ds.length:=by
    have:=aJ Y;omega
   obtain⟨d0,hd0⟩:=gO ds ((2*(k+1)));have hd0b:=hd d0 (aG hd0);have VD:ds.getD (2*(k+1)) 0=d0:=by show ds.getD (2*(k+1)) 0=d0;rw[List.getD,hd0];rfl
   obtain⟨ad,rfl,q1,q2⟩:=hR.load (j:=(2*(k+1))) (x:=(d0:Int)) (by rw[eZ,aU,hd0];rfl);refine⟨ad,rfl,be,iV (d0:Int),fun O J r=>?_,?_⟩
   .show J.cell? (ad.add ((2*(k+1))*1))=_;rw[cd (w:=w1) (F:=J) (by rw[df];exact rls (S:=S) r W (.inl q1))];exact q2
   refine⟨(((2*(k+1))+1:Nat):Int),wo,?_⟩;apply bS<;>intro I
   .have I:(2*(k+1))+1<ds.length:=by
     have:=aJ I;omega
    obtain⟨d1,QM⟩:=gO ds ((2*(k+1))+1);have hd1b:=hd d1 (aG QM);have Tt:ds.getD (2*(k+1)+1) 0=d1:=by show ds.getD ((2*(k+1))+1) 0=d1;rw[List.getD,QM];rfl
    obtain⟨_,QV,q3,q4⟩:=hR.load (j:=(2*(k+1))+1) (x:=(d1:Int)) (by rw[eZ,aU,QM];rfl);injection QV with QV;subst QV;refine⟨(((2*(k+1))+1:Nat):Int),wo,ad,rfl,be,iV (d1:Int),fun O J r=>?_,?_⟩
    .show J.cell? (ad.add (((2*(k+1))+1)*1))=_;rw[cd (w:=w1) (F:=J) (by rw[df];exact rls (S:=S) r W (.inl q3))];exact q4
    refine⟨((65536*d1:Nat):Int),wo,((d0+65536*d1:Nat):Int),wo,?_⟩;have Ua:=z8 ds (k+1);rw[VD,Tt]at Ua;generalize d0+65536*d1=dd at*
    have hdd:dd<4294967296:=MS hd ((k+1)+1) dd (by rw[Ua];simp);refine⟨(dd:Int),by rw[jQ]<;>omega,?_⟩;refine .inl ?_;refine⟨by rw[gP,xV];omega,be,mx,((2*((k+1)+1):Nat):Int),wo,?_⟩;intro I8 w3 r3;have hU:EQ (pk ds ((k+1)+1))=EQ (pk ds (k+1))++[.int .u32 (dd:Int)]:=by rw[Ua];simp[EQ]
    exact⟨((k+1)+1,w3),⟨G.tr r3.cj,by dsimp only;omega⟩,sbgn [(2,4)] r3 ⟨by dsimp only;rw[hU];rfl,rfl,rfl,trivial⟩,by dsimp only;omega⟩
   .have I:(2*(k+1))+1=ds.length:=by
     have:=aL I;omega
    have Tt:ds.getD (2*(k+1)+1) 0=0:=by show ds.getD ((2*(k+1))+1) 0=0;rw[List.getD,List.getElem?_eq_none be];rfl
    have Ua:=z8 ds (k+1);rw[VD,Tt]at Ua;obtain⟨dd,hdde⟩:∃dd,dd=d0:=⟨_,rfl⟩
    rw[<-hdde]at Ua ⊢;have hdd:dd<4294967296:=by omega
    rw[show dd+65536*0=dd by omega]at Ua;refine⟨(dd:Int),by rw[jQ]<;>omega,?_⟩;refine .inl ?_;refine⟨by rw[gP,xV];omega,be,mx,((2*((k+1)+1):Nat):Int),wo,?_⟩;intro I8 w3 r3;have hU:EQ (pk ds ((k+1)+1))=EQ (pk ds (k+1))++[.int .u32 (dd:Int)]:=by rw[Ua];simp[EQ]
    exact⟨((k+1)+1,w3),⟨G.tr r3.cj,by dsimp only;omega⟩,sbgn [(2,4)] r3 ⟨by dsimp only;rw[hU];rfl,rfl,rfl,trivial⟩,by dsimp only;omega⟩
  .have Y:ds.length<=2*(k+1):=by
    have:=aL Y;omega
   have R:k+1=(ds.length+1) / 2:=by omega
   have Ua:pk ds (k+1)=ig ds:=by rw[R];exact MR ds
   have hlen:=xV ds (k+1);have Qj:=MS hd (k+1);rw[<-Ua];obtain⟨ls,hls⟩:∃ls,ls=pk ds (k+1):=⟨_,rfl⟩
   rw[<-hls]at hlen Qj ⊢
   refine⟨by show(EQ (pk ds (k+1))).length=_;rw[<-hls,gP,hlen];simp,Nat×World,fun z=>⟨[(2,pP 0 0),(3,pP 1 0),(6,iZ z.1)],[(2,.vec T.uint32 1 (EQ ls)),(1,.box T.Int [.v (.bool false),.w 2 (k+1)]),(0,.box T.Int [.v (.bool false),.v nls])],3,[],z.2⟩,fun z=>z.1,
    fun z=>Bq w z.2/\z.1<=k+1/\eO (ls.take z.1)=eO ls,?_,?_⟩
   .intro O J r;exact⟨(k+1,J),⟨G.tr r.cj,lr,by dsimp only;rw[List.take_of_length_le be]⟩,sbgn [] r ⟨by dsimp only;rw[hls];rfl,rfl,rfl,trivial⟩⟩
   rintro⟨n,F⟩ ⟨G,U,htr⟩;dsimp only at G U htr ⊢
   cases n with
   |zero=>
    refine⟨by rw[gP,hlen];simp,⟨be,be⟩,0,d8,?_⟩;intro GE we re;refine⟨_,rfl,G.tr re.cj,_,rfl,?_⟩;have:=re.NI (id:=2) (m:=0) rfl (ae _) Qj be;rw[<-htr];exact this.cV fun g V=>.inr V
   |succ n=>
    obtain⟨x,E⟩:=gO ls n;refine zk.mk (fun hp=>?_) (fun hp=>absurd (aL hp) be);refine⟨(n:Int),wo,by rw[gP,hlen];simp,be,.int .u32 (x:Int),by simpa using uR E,?_⟩;apply bS<;>intro h0
    .have h0:x=0:=by have:=eq_of_beq h0;omega
     subst h0;refine⟨(n:Int),wo,?_⟩;intro I8 w3 r3;exact⟨(n,w3),⟨G.tr r3.cj,by dsimp only;omega,by dsimp only;rw[<-htr,Ia be E]⟩,sbgn [] r3,by dsimp only;omega⟩
    .have h0:x≠0:=fun e=>by rw[e]at h0;exact absurd h0 bv
     refine⟨by rw[gP,hlen];simp,⟨be,be⟩,n+1,d8,?_⟩;intro GE we re;refine⟨_,rfl,G.tr re.cj,_,rfl,?_⟩;have:=re.NI (id:=2) (m:=n+1) rfl be Qj be;rw[<-htr,Ic E h0];exact this.cV fun g V=>.inr V
end
variable{H:Hp}{z:Int}{iv:Iv}{cs:List Int}{b ds ls:List Nat}{xs:List Value}{B nx:Nat}{S:Nat->Prop}{O:Nat->Sx.eH}{u v:Value}{w:World}
theorem xG{J F:World}{v':Value}(hc:xL iv v)(r:Rel H nx iv B w O J)(S0:∀g,v'.ownBlock=some g->g<F.heap.size/\(v.ownBlock=some g\/g=J.heap.size)):
  ∀lo N,(lo,N)∈en v'->N<=F.heap.size/\∀id b,dV H id=some b->(O id).nil=false->¬(lo<=(O id).g/\(O id).g<N):=fun lo N hm=>by
 obtain⟨V,rfl⟩:=kX.1 hm;obtain⟨Y,I⟩:=S0 _ V;refine⟨be,fun id c hc' U L=>?_⟩;rcases I with I|I
 .exact hc.not r I id c hc' U be
 .have:=(r.low id c hc' U).2;omega
theorem dZ.out{w1 J:World}(h:dZ w1 (Cv S w.heap.size iv) v ls)(r:Rel H nx iv w.heap.size w1 O J)(W:Old S w):dZ J (Nw S w J) v ls:=
 (dZ.rel h r W).cV fun _ V=>Cv.nw V r
theorem Jj{B' e sz m:Nat}(h:w.ownsRow B e sz v m xs)(A:B'<=B):w.ownsRow B' e sz v m xs:=⟨h.1,h.2.imp id fun⟨g,cap,cur,k1,k2,k3⟩=>⟨g,cap,cur,k1,be,k3⟩⟩
theorem xH(a b:List Nat):eZ (a++b)=eZ a++eZ b:=by simp[eZ]
theorem th{m:Nat}(h:w.ownsRow B T.int 1 v m (cs.map (Value.int .i64)))(hm:m=cs.length)(hl:m<=maxLen):eQ w (fun g=>v.ownBlock=some g) v cs:=by
 subst hm;rcases h.2 with⟨rfl,h0⟩|⟨g,cap,cur,rfl,A,hc,SR,RO,QK,R7⟩
 .have:cs=[]:=List.eq_nil_of_length_eq_zero h0;subst this;exact⟨by simp[maxLen],ce,ce,none,0,rfl,lr,ce⟩
 .refine⟨hl,h.1,fun u hu=>by simp at hu;obtain⟨_,_,rfl⟩:=hu;rfl,_,cap,rfl,SR,fun j u hu=>⟨_,rfl,rfl,?_⟩⟩;exact h.cells (g:=g) rfl j u hu
theorem Dg.append{a:List Nat}(ha:Dg a)(A:Dg b):Dg (a++b):=fun x E=>(bB.1 E).elim (ha x) (A x)
theorem yl(a b:List Nat):oG (a++b)=oG a+up a.length*oG b:=by
 unfold oG;rw[bw,CU,aO]
theorem Bx(hd:Dg ds):Nz (eO (ig ds))/\(val (eO (ig ds)):Int)=oG ds:=by
 obtain⟨Y,I,_⟩:=Ap ds hd;obtain⟨k1,k2,_⟩:=fL (ig ds);exact⟨k2,by rw[k1,Y]⟩
theorem xz(W:Old S w)(h:eQ w S v cs)(A:∀c∈cs,-1152921504606846976<=c/\c<=1152921504606846976)(hl:cs.length<=100000000):
  eL PG FS.lW #[v] w (eY w fun v' F=>dX F (Nf w F) v' (dw cs)):=by
 obtain⟨a,c,rfl,hc⟩:=h.shape;obtain⟨hspec,hdg,S5⟩:=mz cs 0;obtain⟨hk1,Tm⟩:=lV cs 0 A bv bv;rw[Int.add_zero]at hspec;refine xa ce ?_;refine cW (cU (GT:=fun _ J v' F=>∃o,v'= .tuple #[o,iV (eG cs 0).2]/\F.ownsRow J.heap.size T.int 1 o cs.length ((eZ (eG cs 0).1).map (Value.int .i64))) (fun O J r=>Dn (oS W r) (eQ.cX h fun g V=>rls (S:=S) r W (.inl V)) A be) ?_);rintro O wa v1 wb r L G ⟨o,rfl,Pm⟩;have Rr:xL [(wa.heap.size,wb.heap.size)] o:=fun g V=>⟨_,_,aX.2 rfl,(ownsRow.low Pm g V).1,(ownsRow.low Pm g V).2⟩
 replace Pm:=Jj Pm r.cZ;generalize [(wa.heap.size,wb.heap.size)]=iv at*
 generalize hds:(eG cs 0).1=ds at*
 generalize R:(eG cs 0).2=k at*
 obtain⟨ao,co,rfl,hco⟩:=ef Pm;apply bS<;>intro SE
 .have SE:=aJ SE;have hV:dw cs<0:=by
   have Y:=(Ao hdg).2;rw[S5]at Y;have I:=MQ cs.length;have h3:up cs.length*k<=up cs.length*(-1):=Int.mul_le_mul_of_nonneg_left be be;omega
  obtain⟨YY,hdg2',hdl2⟩:=mz (cs.map (- ·)) 0;have Q2:∀c∈cs.map (- ·),-1152921504606846976<=c/\c<=1152921504606846976:=fun c hc=>by
   obtain⟨x,E,rfl⟩:=bE.1 hc;have:=A x E;omega
  obtain⟨hk1',hk2'⟩:=lV (cs.map (- ·)) 0 Q2 bv bv;rw[Int.add_zero,Ho,aO]at YY;rw[aO]at hdl2;have TE:0<=(eG (cs.map (- ·)) 0).2:=by
   have Y:=(Ao hdg2').2;rw[hdl2]at Y;have I:=MQ cs.length;apply Decidable.byContradiction;intro h3;have h4:up cs.length*(eG (cs.map (- ·)) 0).2<=up cs.length*(-1):=Int.mul_le_mul_of_nonneg_left be be;omega
  refine⟨Nat×World,fun z=>⟨[(0,sV a cs.length c),(2,pP 0 0),(3,sV ao cs.length co),(5,iZ z.1)],[(0,.box T.Int [.v (.bool false),.v nls])],1,iv,z.2⟩,fun z=>cs.length-z.1,
   fun z=>z.1<=cs.length/\Bq w z.2/\z.2.ownsRow w.heap.size T.int 1 (.slice ao cs.length co) cs.length (((cs.take z.1).map (- ·)++(eZ ds).drop z.1).map (Value.int .i64)),?_,?_⟩
  .intro O J r;exact⟨(0,J),⟨ce,G.tr r.cj,by simpa using fh Pm Rr r⟩,sbgn [] r⟩
  rintro⟨i,w1⟩ ⟨N,G,Pm⟩;dsimp only at N G Pm ⊢;have hR:eQ w1 S (.slice a cs.length c) cs:=eQ.cX h fun g V=>G.block g (W g V);apply bS<;>intro Pk
  .have Pk:=dL Pk;obtain⟨x,E⟩:=gO cs i;obtain⟨S4,Qa⟩:=A x (aG E);obtain⟨ad,rfl,q1,q2⟩:=hR.load E;obtain⟨go,Yn⟩:∃g,ao=some ⟨g,0,none⟩:=by
    rcases Pm.2 with⟨_,h0⟩|⟨g,cap,cur,e,_⟩
    .omega
    .injection e with e;exact⟨g,e⟩
   subst Yn;refine⟨ad,rfl,be,iV x,fun O J r=>?_,?_⟩
   .rw[aK,cd (w:=w1) (F:=J) (by rw[df];exact rls (S:=S) r W (.inl q1))];exact q2
   refine⟨-x,wo,⟨go,0,none⟩,rfl,be,?_⟩;intro O J r;have UG:=fh Pm Rr r;obtain⟨g',Sm,Py,RN,QW,QK⟩:=nT (nv:=[iV (-x)]) UG rfl Pk rfl bv;injection Sm with Sm;injection Sm with Sm;subst Sm;rw[Ez (by rw[aO,aV,aO,bN,List.length_drop,fJ,S5];omega)]at RN;have QV:(⟨go,0,none⟩:Addr).add ((i:Int).toNat*1)=⟨go,i*1,none⟩:=by rw[aK,dF,aS]
   have Qk:=fun id b A U=>Rr.not r (b:=go) rfl id b A U;have hgoB:=(ownsRow.low Pm go rfl).1;have hw':Bq w (setCells J ⟨go,i*1,none⟩ [iV (-x)]):=(G.tr r.cj).tr (Bel.grown QW (fun g V=>by injection V with V;subst V;exact hgoB) r.cZ);have hlist:(((cs.take i).map (- ·)++(eZ ds).drop i).map (Value.int .i64)).set i (iV (-x))=((cs.take (i+1)).map (- ·)++(eZ ds).drop (i+1)).map (Value.int .i64):=by
    rw[<-List.map_set];congr 1;have Ts:((cs.take i).map (- ·)).length=i:=by rw[aO,bN];omega
    obtain⟨d,hd⟩:∃d,(eZ ds)[i]? =some d:=⟨_,aE (by rw[fJ,S5];exact Pk)⟩
    have QJ:(eZ ds).drop i=d::(eZ ds).drop (i+1):=by
     rw[List.drop_eq_getElem_cons (by rw[fJ,S5];exact Pk)];congr 1;have:=aE (l:=eZ ds) (i:=i) (by rw[fJ,S5];exact Pk);rw[hd]at this;injection this with this;exact this.symm
    rw[bM,E,bw,QJ,List.set_append_right _ _ be,Ts,bY];simp
   refine⟨by rw[QV],fun j hj=>by rw[QV];exact Py j hj,fun id b A U=>by rw[QV];exact Qk id b A U,fun F RT=>?_⟩;have RT:F=setCells J ⟨go,i*1,none⟩ [iV (-x)]:=by rw[RT];exact congrArg (fun x=>setCells J x _) QV
   rw[<-RT]at RN hw'
   erw [hlist]at RN
   refine inc i ?_;intro I8 w3 r3;exact⟨(i+1,w3),⟨Pk,hw'.tr r3.cj,fh RN Rr r3⟩,sbgn [] r3,dec Pk⟩
  have Pk:i=cs.length:=by
   have:¬i<cs.length:=by simpa using Pk
   omega
  subst Pk;rw[bK,List.drop_of_length_le (by rw[fJ,S5];exact aq _),List.append_nil]at Pm;refine⟨⟨be,be,be⟩,ao,cs.length,co,Gb ao co,be,be,?_⟩;refine cW (cU (GT:=fun _ J v' F=>∃o,v'= .tuple #[o,iV (eG (cs.map (- ·)) 0).2]/\F.ownsRow J.heap.size T.int 1 o cs.length ((eZ (eG (cs.map (- ·)) 0).1).map (Value.int .i64))) (fun O J r=>?_) ?_)
  .have h8:=fh Pm Rr r;have h9:=th h8 (by rw[aO]) mx;have h10:=Dn (fun g V=>(ownsRow.low h8 g V).2) h9 Q2 (by rw[aO];omega);rw[aO]at h10;exact h10
  rintro O wc v1 wd r L QE ⟨o2,rfl,Q7⟩;have Sq:xL ((wc.heap.size,wd.heap.size)::iv) o2:=fun g V=>⟨_,_,aF,(ownsRow.low Q7 g V).1,(ownsRow.low Q7 g V).2⟩
  replace Q7:=Jj Q7 r.cZ;replace G:=G.tr QE;generalize (wc.heap.size,wd.heap.size)::iv=iv2 at*
  generalize hds2:(eG (cs.map (- ·)) 0).1=ds2 at*
  generalize hkk2:(eG (cs.map (- ·)) 0).2=k2 at*
  obtain⟨kn,rfl⟩:∃kn:Nat,k2=kn:=⟨k2.toNat,be⟩
  obtain⟨ao2,co2,rfl,hco2⟩:=ef Q7;have ds2_len:ds2.length=cs.length:=hdl2;have ds2_dg:Dg ds2:=hdg2';refine cW (cU (GT:=fun _ J v F=>eQ F (Nf J F) v (eZ (dc kn))) (fun O J r=>by exact HG kn J be) ?_);rintro O ws vs wt r L A hsp;have WM:eQ wt (Cf w ((ws.heap.size,wt.heap.size)::iv2)) vs (eZ (dc kn)):=eQ.cV hsp fun g V=>V.ep r.cZ aF;replace Q7:=ownsRow.cX (fh Q7 Sq r) fun g V=>L.block g (by have:=(ownsRow.low (fh Q7 Sq r) g V).2;exact this);replace Sq:xL ((ws.heap.size,wt.heap.size)::iv2) _:=Sq.mono fun p hp=>aD _ hp;replace G:=G.tr A;generalize (ws.heap.size,wt.heap.size)::iv2=oc at*
  obtain⟨asp,csp,rfl,-⟩:=WM.shape;rw[fJ]at WM ⊢;have UQ:=kW (n:=kn) (k:=4) be;have hsd:=(nB kn).2
  refine .inr (iP hτ lr (xs:=(eZ ds2).map (Value.int .i64)) (news:=(eZ (dc kn)).map (Value.int .i64)) (m:=cs.length) (k:=(dc kn).length) d8 d8 bv d8 d8 (fun O J r=>⟨fh Q7 Sq r,fun g V=>Sq.not r V⟩) (by simp[eZ]) (by intro u hu;simp at hu;obtain⟨_,_,rfl⟩:=hu;rfl) mx be
   (fun O J r=>?_) (fun v' F=>en v') (fun O J v' F r QK S0=>xG Sq r S0) (fun O J v' F r h5 h6 h7=>?_))
  .obtain⟨_,_,_,a2,c2,e2,_,e3⟩:=WM;injection e2 with e4 e5 e6;subst e4 e6
   cases asp with
   |none=>
    have h0:(dc kn).length=0:=by
     rcases bH (dc kn).length with h0|h0
     .exact h0
     .obtain⟨ad2,q1,_⟩:=e3 0 _ (aE (show 0<((eZ (dc kn)).map (Value.int .i64)).length by simp[eZ];exact h0))
      cases q1
    exact .inl ⟨csp,by rw[h0];rfl,h0⟩
   |some ad3=>
    refine .inr ⟨ad3,csp,rfl,fun j u hu=>?_⟩;obtain⟨ad2,q1,q2,q3⟩:=e3 j u hu;injection q1 with q1;subst q1;rw[cd (w:=wt) (F:=J) (by rw[df];exact rls r oF q2)];exact q3
  replace G:Bq w F:=(G.tr r.cj).tr (Bel.grown h6 (fun g V=>by
   have:=(ownsRow.low Q7 g V).1;omega) r.cZ)
  have hcat:(eZ ds2).map (Value.int .i64)++(eZ (dc kn)).map (Value.int .i64)=(eZ (ds2++dc kn)).map (Value.int .i64):=by rw[xH,bw]
  rw[hcat]at h5;have Tu:cs.length+(dc kn).length=(eZ (ds2++dc kn)).length:=by rw[fJ,aV,ds2_len]
  have YZ:Dg (ds2++dc kn):=ds2_dg.append hsd;have Qu:(ds2++dc kn).length<=1000000000:=by rw[aV,ds2_len];omega
  obtain⟨a3,c3,rfl,-⟩:=ef h5;refine cW (cU (GT:=fun _ J v' F=>∃lv,v'= .agg #[.bool false,lv]/\dZ F (Nf J F) lv (eO (ig (ds2++dc kn)))) (fun O J r=>?_) ?_)
  .have h8:=fh h5 (xL.row _) r;have h9:=th h8 Tu mx;have h10:=HH (w:=J) (fun g V=>(ownsRow.low h8 g V).2) h9 YZ Qu;exact h10
  rintro O wp v1 wq r L A ⟨lv,rfl,hL⟩;have XV:=hL.ep (S:=FF) r.cZ (iv:=[(wp.heap.size,wq.heap.size)]) aF;have XV:dZ wq (Cf w ((wp.heap.size,wq.heap.size)::en (.slice a3 (cs.length+(dc kn).length) c3))) lv (eO (ig (ds2++dc kn))):=hL.cV fun g V=>V.ep r.cZ aF;replace G:=G.tr A;generalize (wp.heap.size,wq.heap.size)::en (.slice a3 (cs.length+(dc kn).length) c3)=ivq at*
  obtain⟨hnz,hvv⟩:=Bx YZ;obtain⟨a4,n4,c4,rfl⟩:=XV.shape;have YK: -dw cs=oG (ds2++dc kn):=by rw[YY,yl,(nB kn).1,ds2_len]
  obtain⟨pp,Xp,hpp⟩:=XV.la;injection Xp with WK ZS WL;subst WK ZS WL;have hlenpos:0<pp.ls.length:=by
   rw[hpp];rcases bH (eO (ig (ds2++dc kn))).length with h0|h0
   .rw[List.eq_nil_of_length_eq_zero h0]at hvv;simp[val]at hvv;omega
   .exact h0
  intro GE we re;refine⟨_,rfl,G.tr re.cj,eO (ig (ds2++dc kn)),⟨_,?_,XV.out re oF⟩,hnz,?_⟩
  .rw[bg hV];have:decide ((pp.ls.length:Int)>0)=true:=bg be;rw[<-this];rfl
  .have:((val (eO (ig (ds2++dc kn))):Nat):Int)= -dw cs:=by rw[hvv,YK]
   omega
 .have SE:=aL SE;obtain⟨kn,rfl⟩:∃kn:Nat,k=kn:=⟨k.toNat,be⟩
  have ds_len:ds.length=cs.length:=S5;have ds_dg:Dg ds:=hdg;refine cW (cU (GT:=fun _ J v F=>eQ F (Nf J F) v (eZ (dc kn))) (fun O J r=>by exact HG kn J be) ?_);rintro O ws vs wt r L A hsp;have WM:eQ wt (Cf w ((ws.heap.size,wt.heap.size)::iv)) vs (eZ (dc kn)):=eQ.cV hsp fun g V=>V.ep r.cZ aF;replace Pm:=ownsRow.cX (fh Pm Rr r) fun g V=>L.block g (by have:=(ownsRow.low (fh Pm Rr r) g V).2;exact this);replace Rr:xL ((ws.heap.size,wt.heap.size)::iv) _:=Rr.mono fun p hp=>aD _ hp;replace G:=G.tr A;generalize (ws.heap.size,wt.heap.size)::iv=oc at*
  obtain⟨asp,csp,rfl,-⟩:=WM.shape;rw[fJ]at WM ⊢;have UQ:=kW (n:=kn) (k:=4) be;have hsd:=(nB kn).2
  refine .inr (iP hτ lr (xs:=(eZ ds).map (Value.int .i64)) (news:=(eZ (dc kn)).map (Value.int .i64)) (m:=cs.length) (k:=(dc kn).length) d8 d8 bv d8 d8 (fun O J r=>⟨fh Pm Rr r,fun g V=>Rr.not r V⟩) (by simp[eZ]) (by intro u hu;simp at hu;obtain⟨_,_,rfl⟩:=hu;rfl) mx be
   (fun O J r=>?_) (fun v' F=>en v') (fun O J v' F r QK S0=>xG Rr r S0) (fun O J v' F r h5 h6 h7=>?_))
  .obtain⟨_,_,_,a2,c2,e2,_,e3⟩:=WM;injection e2 with e4 e5 e6;subst e4 e6
   cases asp with
   |none=>
    have h0:(dc kn).length=0:=by
     rcases bH (dc kn).length with h0|h0
     .exact h0
     .obtain⟨ad2,q1,_⟩:=e3 0 _ (aE (show 0<((eZ (dc kn)).map (Value.int .i64)).length by simp[eZ];exact h0))
      cases q1
    exact .inl ⟨csp,by rw[h0];rfl,h0⟩
   |some ad3=>
    refine .inr ⟨ad3,csp,rfl,fun j u hu=>?_⟩;obtain⟨ad2,q1,q2,q3⟩:=e3 j u hu;injection q1 with q1;subst q1;rw[cd (w:=wt) (F:=J) (by rw[df];exact rls r oF q2)];exact q3
  replace G:Bq w F:=(G.tr r.cj).tr (Bel.grown h6 (fun g V=>by
   have:=(ownsRow.low Pm g V).1;omega) r.cZ)
  have hcat:(eZ ds).map (Value.int .i64)++(eZ (dc kn)).map (Value.int .i64)=(eZ (ds++dc kn)).map (Value.int .i64):=by rw[xH,bw]
  rw[hcat]at h5;have Tu:cs.length+(dc kn).length=(eZ (ds++dc kn)).length:=by rw[fJ,aV,ds_len]
  have YZ:Dg (ds++dc kn):=ds_dg.append hsd;have Qu:(ds++dc kn).length<=1000000000:=by rw[aV,ds_len];omega
  obtain⟨a3,c3,rfl,-⟩:=ef h5;refine cW (cU (GT:=fun _ J v' F=>∃lv,v'= .agg #[.bool false,lv]/\dZ F (Nf J F) lv (eO (ig (ds++dc kn)))) (fun O J r=>?_) ?_)
  .have h8:=fh h5 (xL.row _) r;have h9:=th h8 Tu mx;have h10:=HH (w:=J) (fun g V=>(ownsRow.low h8 g V).2) h9 YZ Qu;exact h10
  rintro O wp v1 wq r L A ⟨lv,rfl,hL⟩;have XV:=hL.ep (S:=FF) r.cZ (iv:=[(wp.heap.size,wq.heap.size)]) aF;have XV:dZ wq (Cf w ((wp.heap.size,wq.heap.size)::en (.slice a3 (cs.length+(dc kn).length) c3))) lv (eO (ig (ds++dc kn))):=hL.cV fun g V=>V.ep r.cZ aF;replace G:=G.tr A;generalize (wp.heap.size,wq.heap.size)::en (.slice a3 (cs.length+(dc kn).length) c3)=ivq at*
  obtain⟨hnz,hvv⟩:=Bx YZ;obtain⟨a4,n4,c4,rfl⟩:=XV.shape;intro GE we re;have YK:dw cs=oG (ds++dc kn):=by rw[hspec,yl,(nB kn).1,ds_len]
  refine⟨_,rfl,G.tr re.cj,eO (ig (ds++dc kn)),⟨_,?_,XV.out re oF⟩,hnz,?_⟩
  .have:¬dw cs<0:=by rw[YK,<-hvv];omega
   rw[bI this];rfl
  .rw[YK,<-hvv];rfl
theorem aAV(n:Int):dw [n.tmod 65536,(n.tdiv 65536).tmod 65536,(n.tdiv 65536).tdiv 65536]=n:=by
 simp only[dw]
 have Y:=Int.mul_tdiv_add_tmod n 65536;have I:=Int.mul_tdiv_add_tmod (n.tdiv 65536) 65536;omega
theorem mm(n:Int)(w:World)(Y: -9223372036854775808<=n)(I:n<=9223372036854775807):
  eL PG FS.GV #[iV n] w (eY w fun v F=>dX F (Nf w F) v n):=by
 refine GY ce ?_;have b1:=xy n;have b2:=xy (n.tdiv 65536);have e1:=Int.mul_tdiv_add_tmod n 65536;have e2:=Int.mul_tdiv_add_tmod (n.tdiv 65536) 65536;have Wp:=aAV n;refine⟨bv,n.tmod 65536,rfl,bv,n.tdiv 65536,wo,bv,_,rfl,bv,n.tdiv 65536,wo,bv,(n.tdiv 65536).tdiv 65536,wo,?_⟩;generalize n.tmod 65536=c0 at*
 generalize (n.tdiv 65536).tmod 65536=c1 at*
 generalize (n.tdiv 65536).tdiv 65536=c2 at*
 refine cW (cU (GT:=fun _ J v F=>dX F (Nf J F) v n) (fun O J r=>?_) ?_)
 .rw[<-Wp];have ha:=r.kJ (id:=1) (sz:=1) (n:=3) rfl rfl bv (by intro u hu;simp at hu;rcases hu with rfl|rfl|rfl<;>rfl)
  exact xz (S:=fun g=>g=(O 1).g) (fun g V=>by rw[V];exact(r.low 1 _ rfl (r.nn 1 _ rfl (by intros;simp) ce)).2) (cs:=[c0,c1,c2]) ha (by
   intro c hc;simp at hc
   rcases hc with rfl|rfl|rfl<;>omega) ce
 rintro O wa v1 wb r L A hI;have hI:=hI.ep (S:=FF) r.cZ (iv:=(wa.heap.size,wb.heap.size)::[]) aF;generalize (wa.heap.size,wb.heap.size)::[]=iv at*
 obtain⟨b,a,m,c,rfl⟩:=hI.shape;intro GE we re;exact⟨_,rfl,A.tr re.cj,hI.out re oF⟩
def kx(z:Int):Value:=if z.natAbs<1073741824 then .tuple #[iV z,.bool true]else .tuple #[iV 0,.bool false]
theorem jg.B8(h:jg w S v z):∃b a ls c,v= .agg #[.bool b,.slice a ls.length c]/\dZ w S (.slice a ls.length c) ls/\sg b (val ls)=z:=by
 obtain⟨b,ls,⟨lv,Y,I⟩,h3⟩:=h;obtain⟨a,c,rfl,_⟩:=I.sl;exact⟨b,a,ls,c,Y,I,h3⟩
theorem Og{i x:Nat}(h:ls[i]? =some x):wt i*x<=val ls:=by
 have N:=(aH.1 h).1;have Y:=fH ls (i+1) N;rw[eK h]at Y;omega
theorem aBP{i:Nat}(h:0<i):4294967296<=wt i:=by
 obtain⟨k,rfl⟩:∃k,i=k+1:=⟨i-1,be⟩
 have:=AG k;rw[jb];omega
theorem pn(W:Old S w)(hI:jg w S v z):
  eL PG FS.yb #[v] w (eY w fun v' _=>v'=kx z):=by
 obtain⟨b,a,ls,c,rfl,hL,hz⟩:=hI.B8;refine BV ce ?_;have hlen:=hL.le
 refine⟨Nat×World,fun y=>⟨[(1,pP 0 0),(4,.o (.v (iV (val (ls.take y.1))))),(5,iZ y.1)],[(0,.box T.Int [.v (.bool b),.v (.slice a ls.length c)])],1,[],y.2⟩,fun y=>ls.length-y.1,
  fun y=>y.1<=ls.length/\Bq w y.2/\val (ls.take y.1)<1073741824/\(∀j,0<j->j<y.1->ls[j]? =some 0),?_,?_⟩
 .intro O J r;exact⟨(0,J),⟨ce,r.cj,by simp[val],be⟩,sbgn [] r⟩
 rintro⟨i,w1⟩ ⟨N,G,hv,h0⟩;dsimp only at N G hv h0 ⊢;apply bS<;>intro Pk
 .have Pk:=dL Pk;obtain⟨a',c',e,_,QA⟩:=hL.sl;injection e with e1 e2 e3;subst e1 e3;obtain⟨x,E⟩:=gO ls i;have Rk:=hL.lm x (aG E);obtain⟨ad,rfl,q1,q2⟩:=QA i x E;have Rt:∀{H nx iv O J},Rel H nx iv w.heap.size w1 O J->J.cell? (ad.add ((i:Int).toNat*1))=some (.int .u32 x):=fun r=>by
   rw[aK,av];exact gN W G r q1 q2
  have TC:=Og E;apply bS<;>intro hp
  .have hp:0<i:=by
    have:(i:Int)>0:=aJ hp;omega
   have hw1:=aBP hp;refine⟨ad,rfl,be,.int .u32 x,fun O J r=>Rt r,?_⟩;apply bS<;>intro Po
   .have Po:x≠0:=by simpa using Po
    intro GE we re;refine⟨_,rfl,G.tr re.cj,?_⟩;have:¬z.natAbs<1073741824:=by
     have:=Nat.mul_le_mul hw1 (show 1<=x by omega);rw[<-hz,ow];omega
    show _=kx z;rw[kx,aI this];rfl
   .have Po:x=0:=by simpa using Po
    subst Po;refine⟨ad,rfl,be,.int .u32 0,fun O J r=>Rt r,?_⟩;have Vx:val (ls.take (i+1))=val (ls.take i):=by rw[eK E];omega
    have Sh:val (ls.take (i+1))<1073741824:=by rw[Vx];exact hv
    have h02:∀j,0<j->j<i+1->ls[j]? =some 0:=fun j Y I=>by
     rcases aW j i with h3|h3
     .exact h0 j Y h3
     .have:j=i:=by omega
      rw[this];exact E
    refine⟨ad,rfl,be,.int .u32 0,fun O J r=>Rt r,((0:Nat):Int),bv,((val (ls.take (i+1)):Nat):Int),by rw[Vx,wrap64]<;>omega,((i+1:Nat):Int),wo,?_⟩;intro I8 w3 r3;exact⟨(i+1,w3),⟨Pk,G.tr r3.cj,Sh,h02⟩,sbgn [] r3,dec Pk⟩
  .have hp:i=0:=by
    have:¬((i:Int)>0):=aL hp;omega
   subst hp;refine⟨ad,rfl,be,.int .u32 x,fun O J r=>Rt r,?_⟩;apply bS<;>intro ZX
   .have ZX:=aJ ZX;intro GE we re;refine⟨_,rfl,G.tr re.cj,?_⟩;have:¬z.natAbs<1073741824:=by
     rw[<-hz,ow];rw[kD]at TC;omega
    show _=kx z;rw[kx,aI this];rfl
   .have ZX:=aL ZX;have Vx:val (ls.take (0+1))=x:=by rw[eK E];simp[val,kD]
    have Sh:val (ls.take (0+1))<1073741824:=by rw[Vx];omega
    have h02:∀j,0<j->j<0+1->ls[j]? =some 0:=fun j Y I=>by
     omega
    refine⟨ad,rfl,be,.int .u32 x,fun O J r=>Rt r,((x:Nat):Int),wo,((val (ls.take (0+1)):Nat):Int),by rw[Vx,wrap64]<;>simp[val]<;>omega,((0+1:Nat):Int),wo,?_⟩;intro I8 w3 r3;exact⟨(0+1,w3),⟨Pk,G.tr r3.cj,Sh,h02⟩,sbgn [] r3,by dsimp only;omega⟩
 .have Pk:i=ls.length:=by
   have:¬i<ls.length:=by simpa using Pk
   omega
  subst Pk;rw[bK]at hv ⊢;have QZ:z.natAbs<1073741824:=by rw[<-hz,ow];exact hv
  cases b with
  |true=>
   refine⟨-(val ls:Int),wo,?_⟩;intro GE we re;refine⟨_,rfl,G.tr re.cj,?_⟩;show _=kx z;rw[kx,aM QZ,<-hz,K7];rfl
  |false=>
   intro GE we re;refine⟨_,rfl,G.tr re.cj,?_⟩;show _=kx z;rw[kx,aM QZ,<-hz,aAE];rfl
theorem Dp{a b:Int}(A:b≠0):a.tdiv (b.sign*(Nat.gcd a.natAbs b.natAbs:Nat))=(Rat.divInt a b).num/\b.tdiv (b.sign*(Nat.gcd a.natAbs b.natAbs:Nat))=((Rat.divInt a b).den:Int):=by
 have V:0<Nat.gcd a.natAbs b.natAbs:=cL _ be;obtain⟨k,R⟩:((Nat.gcd a.natAbs b.natAbs:Nat):Int) ∣ a:=by rw[<-Int.natAbs_dvd_natAbs];exact Nat.gcd_dvd_left _ _
 obtain⟨l,hl⟩:((Nat.gcd a.natAbs b.natAbs:Nat):Int) ∣ b:=by rw[<-Int.natAbs_dvd_natAbs];exact Nat.gcd_dvd_right _ _
 have hc:(b.gcd a:Int)=(Nat.gcd a.natAbs b.natAbs:Nat):=by rw[Int.gcd_comm];rfl
 have SX:b.gcd a=Nat.gcd a.natAbs b.natAbs:=by rw[Int.gcd_comm];rfl
 rw[Rat.num_divInt,Rat.den_divInt,aI A,hc,SX];generalize Nat.gcd a.natAbs b.natAbs=g at*
 have hgi:(g:Int)≠0:=by omega
 have hs:b.sign*b.sign=1:=by
  rcases Int.lt_or_gt_of_ne A with h|h
  .rw[cH h];rfl
  .rw[cK h];rfl
 have hs0:b.sign≠0:=fun e=>by rw[e]at hs;simp at hs
 have Po:b.sign*g≠0:=Int.mul_ne_zero hs0 hgi;have Td:((b.natAbs / g:Nat):Int)=b.sign*l:=by
  rw[Int.natCast_ediv,show((b.natAbs:Nat):Int)=b.sign*b by
   rcases Int.lt_or_gt_of_ne A with h|h
   .rw[cH h];omega
   .rw[cK h];omega]
  conv=>lhs;lhs;rhs;rw[hl]
  rw[show b.sign*(↑g*l)= ↑g*(b.sign*l) by rw[<-Int.mul_assoc,<-Int.mul_assoc,Int.mul_comm b.sign]];exact Int.mul_ediv_cancel_left _ hgi
 constructor
 .rw[show b.sign*a / (g:Int)=b.sign*k by
   conv=>lhs;lhs;rhs;rw[R]
   rw[show b.sign*(↑g*k)= ↑g*(b.sign*k) by rw[<-Int.mul_assoc,<-Int.mul_assoc,Int.mul_comm b.sign]]
   exact Int.mul_ediv_cancel_left _ hgi]
  conv=>lhs;lhs;rw[R,show(g:Int)*k=(b.sign*g)*(b.sign*k) by
   rw[show (b.sign* ↑g)*(b.sign*k)=(b.sign*b.sign)*(↑g*k) by simp only[Int.mul_assoc,Int.mul_comm,Int.mul_left_comm],hs,Int.one_mul]]
  exact Int.mul_tdiv_cancel_left _ Po
 .rw[Td]
  conv=>lhs;lhs;rw[hl,show(g:Int)*l=(b.sign*g)*(b.sign*l) by
   rw[show (b.sign* ↑g)*(b.sign*l)=(b.sign*b.sign)*(↑g*l) by simp only[Int.mul_assoc,Int.mul_comm,Int.mul_left_comm],hs,Int.one_mul]]
  exact Int.mul_tdiv_cancel_left _ Po
theorem tj(a b:Int)(w:World)(ha:a.natAbs<4611686018427387904)(A:b.natAbs<4611686018427387904)(Tz:b≠0):
  eL PG FS.wR #[iV a,iV b] w (eY w fun v F=>dI F (Nf w F) v (Rat.divInt a b)):=by
 refine zE ce ?_;refine⟨-a,wo,-b,wo,?_⟩;conv=>whnf
 rw[show max a (-a)=(a.natAbs:Int) by omega,show max b (-b)=(b.natAbs:Int) by omega]
 refine⟨Nat×Nat×World,fun z=>⟨[(0,iZ a),(1,iZ b),(4,pP 0 0),(5,iZ z.1),(6,iZ z.2.1)],[(0,.box T.Rat [.v (.bool false),.v nls,.v (.bool false),.v nls])],1,[],z.2.2⟩,fun z=>z.2.1,
  fun z=>Bq w z.2.2/\Nat.gcd z.1 z.2.1=Nat.gcd a.natAbs b.natAbs/\z.1<4611686018427387904/\z.2.1<4611686018427387904,?_,?_⟩
 .intro O J r;exact⟨(a.natAbs,b.natAbs,J),⟨r.cj,rfl,ha,A⟩,sbgn [] r⟩
 rintro⟨x,y,w1⟩ ⟨G,V,E,hy⟩;dsimp only at G V E hy ⊢;conv=>whnf
 apply bS<;>intro h
 .have h:0<y:=by
   have:(y:Int)>0:=aJ h;omega
  refine dP (idO 6) ?_;have hm:=cM x h;refine⟨be,((x % y:Nat):Int),rfl,?_⟩;intro I8 w3 r3;exact⟨(y,x % y,w3),⟨G.tr r3.cj,by dsimp only;rw[<-V,Nat.gcd_comm x y,Nat.gcd_rec y x,Nat.gcd_comm],hy,by dsimp only;omega⟩,sbgn [] r3,by dsimp only;omega⟩
 have h:y=0:=by
  have:¬(y:Int)>0:=aL h;omega
 subst h;rw[Nat.gcd_zero_right]at V;have Qd:x≠0:=by rw[V];exact Nat.pos_iff_ne_zero.1 (cL _ be)
 obtain⟨U,hd⟩:=Dp (a:=a) Tz;rw[<-V]at U hd;have bn:(Rat.divInt a b).num.natAbs<=a.natAbs:=by rw[<-U];exact Int.natAbs_tdiv_le_natAbs _ _
 have bd:((Rat.divInt a b).den:Int).natAbs<=b.natAbs:=by rw[<-hd];exact Int.natAbs_tdiv_le_natAbs _ _
 apply bS<;>intro Sg
 .have Sg:=aJ Sg;rw[cH Sg,Int.neg_one_mul]at U hd;refine⟨-(x:Int),wo,?_⟩;refine dP [.x 0,.x 1,.x 2,.x 4,.x 5,.x 6,.x 3,.x 7,.x 8,.x 9] ?_;refine⟨be,(Rat.divInt a b).num,by rw[U,wrap64]<;>omega,be,((Rat.divInt a b).den:Int),by rw[hd,wrap64]<;>omega,?_⟩;refine cU (GT:=fun _ J v F=>dX F (Nf J F) v (Rat.divInt a b).num) (fun O J r=>mm _ J be be) ?_;rintro O wa v1 wb r L QE hI;replace G:=G.tr QE;have hN:=hI.ep (S:=FF) r.cZ (iv:=(wa.heap.size,wb.heap.size)::[]) aF;generalize (wa.heap.size,wb.heap.size)::[]=iv at*
  obtain⟨b1,a1,m1,c1,rfl⟩:=hN.shape;refine cU (GT:=fun _ J v F=>dX F (Nf J F) v ((Rat.divInt a b).den:Int)) (fun O J r=>mm _ J be be) ?_;rintro O wa v1 QT r L QE hI;replace G:=G.tr QE;replace hN:=hN.cS (K:=(wa.heap.size,QT.heap.size)::iv) r oF L fun x E=>aD _ E;have hD:=hI.ep (S:=FF) r.cZ (iv:=(wa.heap.size,QT.heap.size)::iv) aF;generalize (wa.heap.size,QT.heap.size)::iv=iv2 at*
  obtain⟨b2,a2,m2,c2,rfl⟩:=hD.shape;exact rtn G fun GE we re=>(dI.of hN hD).out re oF
 .have Sg:=aL Sg;rw[cK be,Int.one_mul]at U hd;refine dP [.x 0,.x 1,.x 2,.x 4,.x 5,.x 6,.x 3,.x 7,.x 8,.x 9] ?_;refine⟨be,(Rat.divInt a b).num,by rw[U,wrap64]<;>omega,be,((Rat.divInt a b).den:Int),by rw[hd,wrap64]<;>omega,?_⟩;refine cU (GT:=fun _ J v F=>dX F (Nf J F) v (Rat.divInt a b).num) (fun O J r=>mm _ J be be) ?_;rintro O wa v1 wb r L QE hI;replace G:=G.tr QE;have hN:=hI.ep (S:=FF) r.cZ (iv:=(wa.heap.size,wb.heap.size)::[]) aF;generalize (wa.heap.size,wb.heap.size)::[]=iv at*
  obtain⟨b1,a1,m1,c1,rfl⟩:=hN.shape;refine cU (GT:=fun _ J v F=>dX F (Nf J F) v ((Rat.divInt a b).den:Int)) (fun O J r=>mm _ J be be) ?_;rintro O wa v1 QT r L QE hI;replace G:=G.tr QE;replace hN:=hN.cS (K:=(wa.heap.size,QT.heap.size)::iv) r oF L fun x E=>aD _ E;have hD:=hI.ep (S:=FF) r.cZ (iv:=(wa.heap.size,QT.heap.size)::iv) aF;generalize (wa.heap.size,QT.heap.size)::iv=iv2 at*
  obtain⟨b2,a2,m2,c2,rfl⟩:=hD.shape;exact rtn G fun GE we re=>(dI.of hN hD).out re oF
theorem xI(h:z.natAbs<1073741824):kx z= .tuple #[iV z,.bool true]:=aM h
theorem FB{x y:Int}(W:Old S w)(E:jg w S v x)(hy:jg w S u y)(YA:x.natAbs<1073741824)(hys:y.natAbs<1073741824)(Qz:y≠0):
  eL PG FS.uy #[v,u] w (eY w fun v' F=>dI F (Nf w F) v' (Rat.divInt x y)):=by
 have G:=bR w;replace E:=E.cV (S':=Cv S w.heap.size []) fun _ h=>.inl h;replace hy:=hy.cV (S':=Cv S w.heap.size []) fun _ h=>.inl h;obtain⟨bx,ax,lx,cx,rfl⟩:=E.shape;obtain⟨b2,ay,ly,cy,rfl⟩:=hy.shape;refine uP ce ?_;refine cW (cE G (pE (.tuple #[iV x,.bool true])) (fun O J r=>(pn (rlo r W) (E.rel r W)).mono fun e F ⟨v2,e1,e2,e3⟩=>⟨v2,e1,e2,by rw[e3,xI YA]⟩) ?_);rintro O QP v1 QL Pv r L G h_ rfl;replace E:=E.cS r W L (mC h_);replace hy:=hy.cS r W L (mC h_);refine cW (cE G (pE (.tuple #[iV y,.bool true])) (fun O J r=>(pn (rlo r W) (hy.rel r W)).mono fun e F ⟨v2,e1,e2,e3⟩=>⟨v2,e1,e2,by rw[e3,xI hys]⟩) ?_);rintro O _ v1 _ iv2 r L G h_ rfl;refine cW (cE G (pR dI (Rat.divInt x y)) (fun O J r=>tj x y J be be Qz) ?_);rintro O _ _ _ iv r L G h_ hI;have hR:=hI.cV (nw r h_);obtain⟨b1,a1,m1,c1,b3,a3,m3,c3,rfl⟩:=hR.shape;exact rtn G fun GE we re=>hR.out re oF
theorem By(n:Int):Rat.divInt n 1=(n:Rat):=by
 have:=Rat.num_divInt_den (n:Rat);rw[Rat.num_intCast,Rat.den_intCast]at this;exact this
theorem fm(n:Int)(w:World)(U:n.natAbs<1073741824):
  eL PG FS.sN #[iV n] w (eY w fun v' F=>dI F (Nf w F) v' (n:Rat)):=by
 have G:=bR w;refine sY ce ?_;refine cW (cU (GT:=fun _ J v F=>dX F (Nf J F) v n) (fun O J r=>mm _ J be be) ?_);rintro O wa v1 wb r L QE hI;replace G:=G.tr QE;have hN:=hI.ep (S:=FF) r.cZ (iv:=(wa.heap.size,wb.heap.size)::[]) aF;generalize (wa.heap.size,wb.heap.size)::[]=iv at*
 obtain⟨b1,a1,m1,c1,rfl⟩:=hN.shape;refine cW (cU (GT:=fun _ J v F=>dX F (Nf J F) v 1) (fun O J r=>mm _ J be be) ?_);rintro O wa v1 QT r L QE hI;replace G:=G.tr QE;replace hN:=hN.cS (K:=(wa.heap.size,QT.heap.size)::iv) r oF L fun x E=>aD _ E;have hD:=hI.ep (S:=FF) r.cZ (iv:=(wa.heap.size,QT.heap.size)::iv) aF;generalize (wa.heap.size,QT.heap.size)::iv=iv2 at*
 obtain⟨b2,a2,m2,c2,rfl⟩:=hD.shape;refine cW (cE G (pR dI (Rat.divInt n 1)) (fun O J r=>FB (rlo r oF) (hN.rel r oF).r (hD.rel r oF).r U bv bv) ?_);rintro O _ _ _ iv r L G h_ hI;have hR:=hI.cV (nw r h_);obtain⟨b1,a1,m1,c1,b3,a3,m3,c3,rfl⟩:=hR.shape;rw[By]at hR;exact rtn G fun GE we re=>hR.out re oF
theorem Oh{n1 n2:Bool}{ms:List Nat}(W:Old S w)(E:wv w S v n1 ls)(hy:wv w S u n2 ms):
  eL PG FS.oq #[v,u] w (eY w fun v' _=>v'= .bool (decide (n1=n2/\ls=ms))):=by
 obtain⟨lv,rfl,Y⟩:=E;obtain⟨mv,rfl,I⟩:=hy;obtain⟨a,c,rfl,_,ha⟩:=Y.sl;obtain⟨b,e,rfl,_,A⟩:=I.sl;have hle1:=Y.le;have YO:=I.le;have G:=bR w;refine xZ ce ?_;apply bS<;>intro U
 .have U:n1≠n2:=fun h=>by rw[h]at U;simp at U
  intro O F r;exact⟨_,rfl,r.cj,by rw[bI (fun h=>U h.1)];rfl⟩
 have U:n1=n2:=by simpa using U
 subst U;apply bS<;>intro h
 .have h:ls.length≠ms.length:=fun L=>by rw[L]at h;simp at h
  intro O F r;exact⟨_,rfl,r.cj,by rw[bI (fun e=>h (by rw[e.2]))];rfl⟩
 have h:ls.length=ms.length:=by
  have:(ls.length:Int)=ms.length:=by simpa using h
  omega
 refine⟨Nat×World,fun z=>⟨[(2,pP 0 0),(3,pP 1 0),(5,iZ z.1)],[(1,.box T.Int [.v (.bool n1),.v (.slice b ms.length e)]),(0,.box T.Int [.v (.bool n1),.v (.slice a ls.length c)])],2,[],z.2⟩,fun z=>ls.length-z.1,
  fun z=>z.1<=ls.length/\Bq w z.2/\ls.take z.1=ms.take z.1,?_,?_⟩
 .intro O J r;exact⟨(0,J),⟨ce,r.cj,ce⟩,sbgn [] r⟩
 rintro⟨i,w1⟩ ⟨N,G,ht⟩;dsimp only at N G ht ⊢;apply bS<;>intro Pk
 .have Pk:=dL Pk;obtain⟨x,E⟩:=gO ls i;obtain⟨y,hy⟩:=gO ms i;obtain⟨ad,rfl,q1,q2⟩:=ha i x E;obtain⟨ad2,rfl,q3,q4⟩:=A i y hy;have RL:∀{H nx iv O J},Rel H nx iv w.heap.size w1 O J->J.cell? (ad.add ((i:Int).toNat*1))=some (.int .u32 x):=fun r=>by
   rw[aK,av];exact gN W G r q1 q2
  have R9:∀{H nx iv O J},Rel H nx iv w.heap.size w1 O J->J.cell? (ad2.add ((i:Int).toNat*1))=some (.int .u32 y):=fun r=>by
   rw[aK,av];exact gN W G r q3 q4
  refine dP (idO 11) ?_;refine⟨ad,rfl,be,.int .u32 x,fun O J r=>RL r,ad2,rfl,be,.int .u32 y,fun O J r=>R9 r,?_⟩;apply bS<;>intro Po
  .have Po:x≠y:=fun h=>by rw[h]at Po;simp at Po
   intro O F r;refine⟨_,rfl,G.tr r.cj,?_⟩
   rw[bI (fun e=>Po (by
    have:=e.2;rw[this,hy]at E;injection E with E
    exact E.symm))]
   rfl
  have Po:x=y:=by
   have:(x:Int)=y:=by simpa using Po
   omega
  subst Po;have WW:ls.take (i+1)=ms.take (i+1):=by rw[bM,bM,ht,E,hy]
  refine inc i ?_;intro I8 w3 r3;exact⟨(i+1,w3),⟨Pk,G.tr r3.cj,WW⟩,sbgn [] r3,dec Pk⟩
 have Pk:i=ls.length:=by
  have:¬i<ls.length:=by simpa using Pk
  omega
 subst Pk;rw[bK,h,bK]at ht;intro O F r;exact⟨_,rfl,G.tr r.cj,by rw[bg ⟨rfl,ht⟩];rfl⟩
theorem LC{a:List Nat}(la:Lm a)(lb:Lm b)(na:Nz a)(nb:Nz b)(h:val a=val b):a=b:=by
 have:a.length=b.length:=by
  rcases cP a.length b.length with Y|Y|Y
  .have:=jc la nb Y;omega
  .exact Y
  .have:=jc lb na Y;omega
 exact val_inj la lb this h
theorem nN{x y:Int}(W:Old S w)(E:dX w S v x)(hy:dX w S u y):
  eL PG FS.oq #[v,u] w (eY w fun v' _=>v'= .bool (decide (x=y))):=by
 obtain⟨ls,Y,I,h3⟩:=E;obtain⟨ms,k1,k2,k3⟩:=hy;have e:decide (decide (x<0)=decide (y<0)/\ls=ms)=decide (x=y):=by
  refine decide_eq_decide.2 ⟨fun ⟨e1,e2⟩=>?_,fun e1=>?_⟩
  .have e1:=decide_eq_decide.1 e1;rw[e2]at h3;omega
  .subst e1;obtain⟨_,_,l1⟩:=Y;obtain⟨_,_,l2⟩:=k1;exact⟨rfl,LC l1.lm l2.lm I k2 be⟩
 exact(Oh W Y k1).mono fun _ F ⟨v2,e1,e2,e3⟩=>⟨v2,e1,e2,by rw[e3,e]⟩
theorem aAW{p q:Rat}(W:Old S w)(E:dI w S v p)(hy:dI w S u q):
  eL PG FS.uz #[v,u] w (eY w fun v' _=>v'= .bool (decide (p=q))):=by
 obtain⟨b1,a1,n1,c1,b2,a2,n2,c2,rfl⟩:=E.shape;obtain⟨b3,a3,n3,c3,b4,a4,n4,c4,rfl⟩:=hy.shape;refine uQ ce ?_;refine cW (cU (GT:=fun _ J v F=>v= .bool (decide (p.num=q.num))) (fun O J r=>nN (oS W r) (E.num.cX fun g V=>r.cj.block g (W g V)) (hy.num.cX fun g V=>r.cj.block g (W g V))) ?_);rintro O wa v1 wb r L A rfl;have G:=A;generalize (wa.heap.size,wb.heap.size)::[]=iv at*
 apply bS<;>intro h
 .have h:=aJ h;refine cW (cE G (pE (.bool (decide ((p.den:Int)=q.den)))) (fun O J r=>nN (oS W r) (E.den.cX (kS G r W)) (hy.den.cX (kS G r W))) ?_);rintro O _ _ _ iv2 r L G h_ rfl;intro GE we re;refine⟨_,rfl,G.tr re.cj,?_⟩;have:decide (p=q)=decide ((p.den:Int)=q.den):=decide_eq_decide.2 ⟨fun e=>by rw[e],fun e=>Rat.ext h be⟩;rw[this];rfl
 .have h:=aL h;intro GE we re;refine⟨_,rfl,G.tr re.cj,?_⟩;rw[bI (fun e=>h (by rw[e]))];rfl
theorem CA{xs ys:List Rat}(W:Old S w)(E:cg w S v xs)(hy:cg w S u ys):
  eL PG FS.sO #[v,u] w (eY w fun v' _=>v'= .bool (decide (xs=ys))):=by
 obtain⟨a,c,rfl,hc,hm⟩:=dN.shape E;obtain⟨b,e,rfl,SX,Th⟩:=dN.shape hy;unfold maxLen at hm Th;refine wh ce ?_;apply bS<;>intro h
 .have h:xs.length≠ys.length:=fun L=>by rw[L]at h;simp at h
  intro O F r;exact⟨_,rfl,r.cj,by rw[bI (fun e=>h (by rw[e]))];rfl⟩
 have h:xs.length=ys.length:=by
  have:(xs.length:Int)=ys.length:=by simpa using h
  omega
 refine⟨Nat×World,fun z=>⟨[(0,sV a xs.length c),(1,sV b ys.length e),(5,iZ z.1)],[],0,[],z.2⟩,fun z=>xs.length-z.1,
  fun z=>z.1<=xs.length/\Bq w z.2/\xs.take z.1=ys.take z.1,?_,?_⟩
 .intro O J r;exact⟨(0,J),⟨ce,r.cj,ce⟩,sbgn [] r⟩
 rintro⟨i,w1⟩ ⟨N,G,ht⟩;dsimp only at N G ht ⊢;apply bS<;>intro Pk
 .have Pk:=dL Pk;obtain⟨x,Q5⟩:=gO xs i;obtain⟨y,Re⟩:=gO ys i;obtain⟨ad2,cs2,rfl,UO,-,Qu⟩:=dN.load hy Re;obtain⟨p2,q2,r2,s2,t2,u2,v2,F,rfl,UO⟩:=UO;obtain⟨ad,cs,rfl,hR,-,hl⟩:=dN.load E Q5;obtain⟨p1,q1,r1,s1,t1,u1,v1,w1,rfl,hR⟩:=hR;refine dP (idO 10) ?_;refine⟨ad,rfl,be,rC p1 q1 r1 s1 t1 u1 v1 w1,rfl,rdO hl G W,ad2,rfl,be,rC p2 q2 r2 s2 t2 u2 v2 F,rfl,rdO Qu G W,?_⟩;refine cE G (pE (.bool (decide (x=y)))) (fun O J r=>aAW (oS W r) (hR.cX (kS G r W)) (UO.cX (kS G r W))) ?_;rintro O _ _ _ iv2 r L G h_ rfl;apply bS<;>intro Po
  .have Po:x≠y:=fun h=>by rw[h]at Po;simp at Po
   intro O F r;refine⟨_,rfl,G.tr r.cj,?_⟩
   rw[bI (fun e=>Po (by
    rw[e,Re]at Q5;injection Q5 with Q5
    exact Q5.symm))]
   rfl
  have Po:x=y:=by simpa using Po
  subst Po;have WW:xs.take (i+1)=ys.take (i+1):=by rw[bM,bM,ht,Q5,Re]
  refine inc i ?_;intro I8 w3 r3;exact⟨(i+1,w3),⟨Pk,G.tr r3.cj,WW⟩,sbgn [] r3,dec Pk⟩
 have Pk:i=xs.length:=by
  have:¬i<xs.length:=by simpa using Pk
  omega
 subst Pk;rw[bK,h,bK]at ht;intro O F r;exact⟨_,rfl,G.tr r.cj,by rw[bg ht];rfl⟩
theorem HI{xs ys:List (List Rat)}(W:Old S w)(E:db w S v xs)(hy:db w S u ys):
  eL PG FS.qu #[v,u] w (eY w fun v' _=>v'= .bool (decide (xs=ys))):=by
 obtain⟨a,c,rfl,hc,hm⟩:=dH.shape E;obtain⟨b,e,rfl,SX,Th⟩:=dH.shape hy;unfold maxLen at hm Th;refine vF ce ?_;apply bS<;>intro h
 .have h:xs.length≠ys.length:=fun L=>by rw[L]at h;simp at h
  intro O F r;exact⟨_,rfl,r.cj,by rw[bI (fun e=>h (by rw[e]))];rfl⟩
 have h:xs.length=ys.length:=by
  have:(xs.length:Int)=ys.length:=by simpa using h
  omega
 refine⟨Nat×World,fun z=>⟨[(0,sV a xs.length c),(1,sV b ys.length e),(5,iZ z.1)],[],0,[],z.2⟩,fun z=>xs.length-z.1,
  fun z=>z.1<=xs.length/\Bq w z.2/\xs.take z.1=ys.take z.1,?_,?_⟩
 .intro O J r;exact⟨(0,J),⟨ce,r.cj,ce⟩,sbgn [] r⟩
 rintro⟨i,w1⟩ ⟨N,G,ht⟩;dsimp only at N G ht ⊢;apply bS<;>intro Pk
 .have Pk:=dL Pk;obtain⟨x,Q5⟩:=gO xs i;obtain⟨y,Re⟩:=gO ys i;obtain⟨ad,u1,rfl,hR,k1,l1⟩:=dH.load E Q5;obtain⟨ad2,u2,rfl,UO,k2,l2⟩:=dH.load hy Re;obtain⟨p1,q1,rfl,-⟩:=dN.shape hR;obtain⟨p2,q2,rfl,-⟩:=dN.shape UO;refine dP (idO 10) ?_;refine⟨ad,rfl,be,.slice p1 x.length q1,rd1 l1 G (W _ k1),ad2,rfl,be,.slice p2 y.length q2,rd1 l2 G (W _ k2),?_⟩;refine cE G (pE (.bool (decide (x=y)))) (fun O J r=>CA (oS W r) (cg.cX hR (kS G r W)) (cg.cX UO (kS G r W))) ?_;rintro O _ _ _ iv2 r L G h_ rfl;apply bS<;>intro Po
  .have Po:x≠y:=fun h=>by rw[h]at Po;simp at Po
   intro O F r;refine⟨_,rfl,G.tr r.cj,?_⟩
   rw[bI (fun e=>Po (by
    rw[e,Re]at Q5;injection Q5 with Q5
    exact Q5.symm))]
   rfl
  have Po:x=y:=by simpa using Po
  subst Po;have WW:xs.take (i+1)=ys.take (i+1):=by rw[bM,bM,ht,Q5,Re]
  refine inc i ?_;intro I8 w3 r3;exact⟨(i+1,w3),⟨Pk,G.tr r3.cj,WW⟩,sbgn [] r3,dec Pk⟩
 have Pk:i=xs.length:=by
  have:¬i<xs.length:=by simpa using Pk
  omega
 subst Pk;rw[bK,h,bK]at ht;intro O F r;exact⟨_,rfl,G.tr r.cj,by rw[bg ht];rfl⟩
abbrev Head:=Bool×Option Addr×Nat×Nat
def PN:List (List (Int×Int)):=[[(1,1),(2,1)],[(2,1),(4,1)]]
def awB:List (Int×Int):=[(3,1),(6,1)]
theorem aAX:Cl PN awB=0:=by decide +kernel
theorem aAY:dG (pB (dT PN) (awB.map dD)) (dM PN)=([[1,2,3,1,0],[0,0,0,-2,1]],[0]):=by decide +kernel
theorem NJ:(∀r∈PN,vN r)/\vN awB:=by unfold vN;decide +kernel
theorem aBQ:Ht (pB (dT PN) (awB.map dD)) 2:=by unfold Ht;decide +kernel
theorem aBf:iD [[1,2,3,1,0],[0,0,0,-2,1]] [0] 2 1=[3,0]:=by decide +kernel
theorem aBg:dz [[1,2,3,1,0],[0,0,0,-2,1]] [0] 2 2=[[-2,1]]:=by decide +kernel
theorem Oi{r:Nat}(h:Bb (2*100*100:Int).natAbs r):r=141:=by
 have Y:=h.1;have I:=h.2;have e:(2*100*100:Int).natAbs=20000:=by decide
 rw[e]at Y I;rcases cP r 141 with h3|h3|h3
 .have:=Nat.mul_le_mul (show r+1<=141 by omega) (show r+1<=141 by omega);omega
 .exact h3
 .have:=Nat.mul_le_mul (show 142<=r by omega) (show 142<=r by omega);omega
theorem aAZ:LU (ratio (Rat.divInt 141 100).num (Rat.divInt 141 100).den)=⟨#[49,52,49,47,49,48,48]⟩:=by decide +kernel
theorem Oj(h:z.natAbs<4294967296):ln z.natAbs<=10000000000:=aR (iH.2 (show z.natAbs<4294967296^1 by omega)) bv
theorem LF(W:Old S w)(E:jg w S v (-7))(hy:jg w S u 2):
  eL PG FS.qO #[v,u] w (eY w fun v' F=>∃q r,v'= .tuple #[q,r,iV 0]/\dX F (Nf w F) q (-4)/\dX F (Nf w F) r 1):=
 (Gf W E hy (Oj bv) (Oj bv)).mono fun _ F ⟨v2,e1,e2,e3⟩=>⟨v2,e1,e2,e3.elim (fun h=>absurd h.1 bv) fun h=>h.2⟩
theorem NK(w:World):
  eL PG FS.mR #[iV 2,iV 100] w (eY w fun v' F=>∃q,v'= .tuple #[q,iV 0]/\dI F (Nf w F) q (Rat.divInt 141 100)):=
 (Bi 2 100 w bv bv bv bv).mono fun _ F ⟨v2,e1,e2,e3⟩=>⟨v2,e1,e2,e3.elim (fun h=>absurd h.1 bv) fun⟨_,r,q,Y,I,h3⟩=>⟨q,I,by
  rw[Oi Y]at h3
  exact h3⟩⟩
theorem NL(W:Old S w)(h:dR w S v PN)(hu:dK w S u awB):
  eL PG FS.sM #[v,u] w (eY w fun v' F=>∃vx vk,v'= .tuple #[.agg #[iV 0,vx,vk,nls],iV 0]/\cg F (Nf w F) vx [3,0]/\db F (Nf w F) vk [[-2,1]]):=
 (IY (h0:=2) W h hu fun _=>⟨NJ.1,NJ.2,aBQ,bv,bv⟩).mono fun _ F ⟨v2,e1,e2,e3⟩=>⟨v2,e1,e2,by
  rcases e3 with h|⟨_,s,rfl,Fn,pv,hA,h⟩
  .exact absurd aAX h.1
  .rw[aAY]at hA;injection hA with hA hp;subst hA hp;rcases h with⟨j,vp,Y,I,h3,_⟩|⟨vx,vk,_,rfl,I,h3⟩
   .have:j=1:=by
     have:j<2:=I;have:1<=j:=Y;omega
    subst this;exact absurd (show dU [[1,2,3,1,0],[0,0,0,-2,1]] 1 2=0 by decide +kernel) h3
   .refine⟨vx,vk,rfl,?_,?_⟩
    .have:=aBf;rw[<-this];exact I
    .have:=aBg;rw[<-this]
     exact h3⟩
theorem LG(W:Old S w)(h:dI w S v (Rat.divInt 141 100)):
  eL PG FS.qP #[v] w (eY w fun v' _=>v'= .string ⟨#[49,52,49,47,49,48,48]⟩):=by
 have:=HC W h.r (Oj (by decide +kernel)) (Oj (by decide +kernel)) (by decide +kernel) (by decide +kernel);rw[aAZ]at this;exact this
end Go.Ex
namespace Go.Sx
open Go Go.Ex Go.Proofs
variable{S':Nat->Prop}{O:Nat->Sx.eH}
theorem Rel.NM{α:Type}{P:World->(Nat->Prop)->List Value->α->Prop}{H:Hp}{nx:Nat}{iv:Iv}{B:Nat}{w J:World}(r:Rel H nx iv B w O J){id t:Nat}{u0 u1 u2 u3 u4 u5 u6 u7:Value}{x y:α}
  (h:dV H id=some (.box t [.v u0,.v u1,.v u2,.v u3,.v u4,.v u5,.v u6,.v u7])) (Y:∀u∈[u0,u1,u2,u3,u4,u5,u6,u7],u.oneCell'=true) (p1:P J S' [u0,u1,u2,u3] x) (p2:P J S' [u4,u5,u6,u7] y) (V:S' (O id).g):
  dN P J S' (.slice (some ⟨(O id).g,0,none⟩) 2 2) [x,y]:=
 ⟨[[u0,u1,u2,u3],[u4,u5,u6,u7]],(r.kJ (sz:=4) (n:=2) h rfl (by simp[maxLen]) (fun u hu=>by
  simp only[List.mem_cons,List.not_mem_nil,or_false]at hu
  rcases hu with rfl|rfl|rfl|rfl|rfl|rfl|rfl|rfl<;>exact Y _ (by simp[At.den]))).cV (fun g Sm=>by rw[Sm];exact V),rfl,ce,fun j cs z k1 k2=>by
  match j with
  |0=>simp at k1 k2;subst k1 k2;exact p1
  |1=>simp at k1 k2;subst k1 k2;exact p2
  |j+2=>simp at k1⟩
end Go.Sx
namespace Go.Ex
open Go Go.Sx Go.Proofs
variable{S:Nat->Prop}{O:Nat->Sx.eH}{a2:Option Addr}{q:Rat}{w:World}
theorem dI.four{b b2:Bool}{a:Option Addr}{n c n2 c2:Nat}(h:dI w S (.agg #[.bool b,.slice a n c,.bool b2,.slice a2 n2 c2]) q):zO w S (rC b a n c b2 a2 n2 c2) (q.num,(q.den:Int)):=
 ⟨b,a,n,c,b2,a2,n2,c2,rfl,h.r⟩
theorem dI.pj{b b2:Bool}{a:Option Addr}{n c n2 c2:Nat}(h:dI w S (.agg #[.bool b,.slice a n c,.bool b2,.slice a2 n2 c2]) q):j6 w S (rC b a n c b2 a2 n2 c2) q:=
 ⟨b,a,n,c,b2,a2,n2,c2,rfl,h⟩
theorem Rel.lt{H:Hp}{nx:Nat}{iv:Iv}{B:Nat}{J:World}(r:Rel H nx iv B w O J){id t:Nat}{cs:List At}(h:dV H id=some (.box t cs)):(O id).g<J.heap.size:=(r.low id _ h (r.nn id _ h (by intros;simp) ce)).2
theorem Ev(w:World):eL PG FS.yQ #[] w (eY w fun v' _=>v'= .bool true):=by
 have G:=bR w;refine BI ce ?_;conv=>whnf
 refine cW (cE G (pR dX (-7)) (fun O J r=>JU _ J bv bv) ?_);rintro O _ _ _ Pv r L G h_ U;have hA:=U.cV (nw r h_);clear r;obtain⟨A0,A1,A2,A3,rfl⟩:=hA.shape;conv=>whnf
 refine cW (cE G (pR dX 2) (fun O J r=>JU _ J bv bv) ?_);rintro O _ _ _ iv2 r L G h_ U;replace hA:=hA.cS r oF L (mC h_);have hB:=U.cV (nw r h_);clear r;obtain⟨C0,C1,C2,C3,rfl⟩:=hB.shape;conv=>whnf
 refine cW (cE G (fun _ J v F=>∃q r,v= .tuple #[q,r,iV 0]/\dX F (Nf J F) q (-4)/\dX F (Nf J F) r 1) (fun O J r=>LF (rlo r oF) (hA.rel r oF).r (hB.rel r oF).r) ?_);rintro O _ _ _ Pu r L G h_ ⟨q,rr,rfl,k1,k2⟩;clear hA;clear hB;have hq:=k1.cV (nw r h_);have hr:=k2.cV (nw r h_);clear r;obtain⟨s3_0a,s3_0b,s3_0c,s3_0d,rfl⟩:=hq.shape;obtain⟨s3_1a,s3_1b,s3_1c,s3_1d,rfl⟩:=hr.shape;conv=>whnf
 refine cW (cE G (fun _ J v F=>∃q,v= .tuple #[q,iV 0]/\dI F (Nf J F) q (Rat.divInt 141 100)) (fun O J r=>NK J) ?_);rintro O _ _ _ QD r L G h_ ⟨f,rfl,k1⟩;replace hq:=hq.cS r oF L (mC h_);replace hr:=hr.cS r oF L (mC h_);have hf:=k1.cV (nw r h_);clear r;obtain⟨s4_0a,s4_0b,s4_0c,s4_0d,s4_0e,s4_0f,s4_0g,s4_0h,rfl⟩:=hf.shape;conv=>whnf
 refine cW (cE G (pR dI ((1:Int):Rat)) (fun O J r=>fm 1 J bv) ?_);rintro O _ _ _ QH r L G h_ U;replace hq:=hq.cS r oF L (mC h_);replace hr:=hr.cS r oF L (mC h_);replace hf:=hf.cS r oF L (mC h_);have Qd:=U.cV (nw r h_);clear r;obtain⟨E0,E1,E2,E3,E4,E5,E6,E7,rfl⟩:=Qd.shape;conv=>whnf
 refine cW (cE G (pR dI ((2:Int):Rat)) (fun O J r=>fm 2 J bv) ?_);rintro O _ _ _ Qe r L G h_ U;replace hq:=hq.cS r oF L (mC h_);replace hr:=hr.cS r oF L (mC h_);replace hf:=hf.cS r oF L (mC h_);replace Qd:=Qd.cS r oF L (mC h_);have S4:=U.cV (nw r h_);clear r;obtain⟨F0,F1,F2,F3,F4,F5,F6,F7,rfl⟩:=S4.shape;conv=>whnf
 refine cW (cE G (pR dI ((2:Int):Rat)) (fun O J r=>fm 2 J bv) ?_);rintro O _ _ _ RS r L G h_ U;replace hq:=hq.cS r oF L (mC h_);replace hr:=hr.cS r oF L (mC h_);replace hf:=hf.cS r oF L (mC h_);replace Qd:=Qd.cS r oF L (mC h_);replace S4:=S4.cS r oF L (mC h_);have Qa:=U.cV (nw r h_);clear r;obtain⟨G0,G1,G2,G3,G4,G5,G6,G7,rfl⟩:=Qa.shape;conv=>whnf
 refine cW (cE G (pR dI ((4:Int):Rat)) (fun O J r=>fm 4 J bv) ?_);rintro O _ _ _ Sw r L G h_ U;replace hq:=hq.cS r oF L (mC h_);replace hr:=hr.cS r oF L (mC h_);replace hf:=hf.cS r oF L (mC h_);replace Qd:=Qd.cS r oF L (mC h_);replace S4:=S4.cS r oF L (mC h_);replace Qa:=Qa.cS r oF L (mC h_);have XK:=U.cV (nw r h_);clear r;obtain⟨I0,I1,I2,I3,I4,I5,I6,I7,rfl⟩:=XK.shape;conv=>whnf
 refine cW (cE G (pR dI ((3:Int):Rat)) (fun O J r=>fm 3 J bv) ?_);rintro O _ _ _ VE r L G h_ U;replace hq:=hq.cS r oF L (mC h_);replace hr:=hr.cS r oF L (mC h_);replace hf:=hf.cS r oF L (mC h_);replace Qd:=Qd.cS r oF L (mC h_);replace S4:=S4.cS r oF L (mC h_);replace Qa:=Qa.cS r oF L (mC h_);replace XK:=XK.cS r oF L (mC h_);have Ya:=U.cV (nw r h_);clear r;obtain⟨J0,J1,J2,J3,J4,J5,J6,J7,rfl⟩:=Ya.shape;conv=>whnf
 refine cW (cE G (pR dI ((6:Int):Rat)) (fun O J r=>fm 6 J bv) ?_);rintro O _ _ _ VF r L G h_ U;replace hq:=hq.cS r oF L (mC h_);replace hr:=hr.cS r oF L (mC h_);replace hf:=hf.cS r oF L (mC h_);replace Qd:=Qd.cS r oF L (mC h_);replace S4:=S4.cS r oF L (mC h_);replace Qa:=Qa.cS r oF L (mC h_);replace XK:=XK.cS r oF L (mC h_);replace Ya:=Ya.cS r oF L (mC h_);have hx5:=U.cV (nw r h_);clear r;obtain⟨N0,N1,N2,N3,N4,N5,N6,N7,rfl⟩:=hx5.shape;conv=>whnf
 refine cW (cE G (fun _ J v F=>∃vx vk,v= .tuple #[.agg #[iV 0,vx,vk,nls],iV 0]/\cg F (Nf J F) vx [3,0]/\db F (Nf J F) vk [[-2,1]]) (fun O J r=>?_) ?_)
 .have f0:=(Qd.rel r oF).four.cV (S':=fun g=>g<J.heap.size) fun g V=>rlo r oF g V;have f1:=(S4.rel r oF).four.cV (S':=fun g=>g<J.heap.size) fun g V=>rlo r oF g V;have f2:=(Qa.rel r oF).four.cV (S':=fun g=>g<J.heap.size) fun g V=>rlo r oF g V;have f3:=(XK.rel r oF).four.cV (S':=fun g=>g<J.heap.size) fun g V=>rlo r oF g V;have f4:=(Ya.rel r oF).four.cV (S':=fun g=>g<J.heap.size) fun g V=>rlo r oF g V;have f5:=(hx5.rel r oF).four.cV (S':=fun g=>g<J.heap.size) fun g V=>rlo r oF g V;have r0:=r.NM (id:=3) rfl (by simp[Value.oneCell']) f0 f1 (Rel.lt r rfl);have r1:=r.NM (id:=4) rfl (by simp[Value.oneCell']) f2 f3 (Rel.lt r rfl);have r2:=r.NM (id:=6) rfl (by simp[Value.oneCell']) f4 f5 (Rel.lt r rfl);refine NL (S:=fun g=>g<J.heap.size) (fun g V=>V) ?_ r2;refine⟨[.slice (some ⟨(O 3).g,0,none⟩) 2 2,.slice (some ⟨(O 4).g,0,none⟩) 2 2],(r.kJ (id:=5) (sz:=1) (n:=2) rfl rfl (by simp[maxLen]) (fun u hu=>by simp at hu;rcases hu with rfl|rfl<;>rfl)).cV (fun g V=>by rw[V];exact Rel.lt r rfl),rfl,fun i u x k1 k2=>?_⟩
  match i with
  |0=>simp[PN]at k1 k2;subst k1 k2;exact r0
  |1=>simp[PN]at k1 k2;subst k1 k2;exact r1
  |i+2=>simp at k1
 rintro O _ _ _ XL r L G h_ ⟨vx,vk,rfl,k1,k2⟩;replace hq:=hq.cS r oF L (mC h_);replace hr:=hr.cS r oF L (mC h_);replace hf:=hf.cS r oF L (mC h_);clear Qd;clear S4;clear Qa;clear XK;clear Ya;clear hx5;have Ur:=cg.cV k1 (nw r h_);have SU:=db.cV k2 (nw r h_);clear r;clear k1 k2;obtain⟨sx_a,sx_c,rfl,-⟩:=dN.shape Ur;obtain⟨sk_a,sk_c,rfl,-⟩:=dH.shape SU;conv=>whnf
 refine dP (idO 27) ?_;conv=>whnf
 refine cE G (pR dX (-4)) (fun O J r=>mm _ J bv bv) ?_;rintro O _ _ _ ZY r L G h_ U;replace hq:=hq.cS r oF L (mC h_);replace hr:=hr.cS r oF L (mC h_);replace hf:=hf.cS r oF L (mC h_);replace Ur:=cg.cS Ur r oF L (mC h_);replace SU:=db.cS SU r oF L (mC h_);have h4:=U.cV (nw r h_);clear r;obtain⟨O0,O1,O2,O3,rfl⟩:=h4.shape;conv=>whnf
 refine cE G (pE (.bool true)) (fun O J r=>nN (rlo r oF) (hq.rel r oF) (h4.rel r oF)) ?_;rintro O _ _ _ ZZ r L G h_ rfl;clear hq;replace hr:=hr.cS r oF L (mC h_);replace hf:=hf.cS r oF L (mC h_);replace Ur:=cg.cS Ur r oF L (mC h_);replace SU:=db.cS SU r oF L (mC h_);clear h4;clear r;conv=>whnf
 refine cE G (pR dX 1) (fun O J r=>mm _ J bv bv) ?_;rintro O _ _ _ iv14 r L G h_ U;replace hr:=hr.cS r oF L (mC h_);replace hf:=hf.cS r oF L (mC h_);replace Ur:=cg.cS Ur r oF L (mC h_);replace SU:=db.cS SU r oF L (mC h_);have Y:=U.cV (nw r h_);clear r;obtain⟨P0,P1,P2,P3,rfl⟩:=Y.shape;conv=>whnf
 refine cE G (pE (.bool true)) (fun O J r=>nN (rlo r oF) (hr.rel r oF) (Y.rel r oF)) ?_;rintro O _ _ _ iv15 r L G h_ rfl;clear hr;replace hf:=hf.cS r oF L (mC h_);replace Ur:=cg.cS Ur r oF L (mC h_);replace SU:=db.cS SU r oF L (mC h_);clear Y;clear r;conv=>whnf
 refine cE G (pE (.string ⟨#[49,52,49,47,49,48,48]⟩)) (fun O J r=>LG (rlo r oF) (hf.rel r oF)) ?_;rintro O _ _ _ iv16 r L G h_ rfl;clear hf;replace Ur:=cg.cS Ur r oF L (mC h_);replace SU:=db.cS SU r oF L (mC h_);clear r;conv=>whnf
 refine dP (idO 21) ?_;conv=>whnf
 refine cE G (pR dI ((3:Int):Rat)) (fun O J r=>fm 3 J bv) ?_;rintro O _ _ _ iv17 r L G h_ U;replace Ur:=cg.cS Ur r oF L (mC h_);replace SU:=db.cS SU r oF L (mC h_);have Qd:=U.cV (nw r h_);clear r;obtain⟨T0,T1,T2,T3,T4,T5,T6,T7,rfl⟩:=Qd.shape;conv=>whnf
 refine cE G (pR dI ((0:Int):Rat)) (fun O J r=>fm 0 J bv) ?_;rintro O _ _ _ iv18 r L G h_ U;replace Ur:=cg.cS Ur r oF L (mC h_);replace SU:=db.cS SU r oF L (mC h_);replace Qd:=Qd.cS r oF L (mC h_);have S4:=U.cV (nw r h_);clear r;obtain⟨U0,U1,U2,U3,U4,U5,U6,U7,rfl⟩:=S4.shape;conv=>whnf
 refine cE G (pE (.bool true)) (fun O J r=>?_) ?_
 .have f0:=(Qd.rel r oF).pj.cV (S':=fun g=>g<J.heap.size) fun g V=>rlo r oF g V;have f1:=(S4.rel r oF).pj.cV (S':=fun g=>g<J.heap.size) fun g V=>rlo r oF g V;have r0:=r.NM (id:=8) rfl (by simp[Value.oneCell']) f0 f1 (Rel.lt r rfl);exact CA (xs:=[3,0]) (ys:=[3,0]) (fun g V=>V) (cg.cV (cg.rel Ur r oF) fun g V=>rlo r oF g V) r0
 rintro O _ _ _ iv19 r L G h_ rfl;clear Ur;replace SU:=db.cS SU r oF L (mC h_);clear Qd;clear S4;clear r;conv=>whnf
 refine cE G (pR dI ((-2:Int):Rat)) (fun O J r=>fm (-2) J bv) ?_;rintro O _ _ _ iv20 r L G h_ U;replace SU:=db.cS SU r oF L (mC h_);have Qd:=U.cV (nw r h_);clear r;obtain⟨V0,V1,V2,V3,V4,V5,V6,V7,rfl⟩:=Qd.shape;conv=>whnf
 refine cE G (pR dI ((1:Int):Rat)) (fun O J r=>fm 1 J bv) ?_;rintro O _ _ _ iv21 r L G h_ U;replace SU:=db.cS SU r oF L (mC h_);replace Qd:=Qd.cS r oF L (mC h_);have S4:=U.cV (nw r h_);clear r;obtain⟨W0,W1,W2,W3,W4,W5,W6,W7,rfl⟩:=S4.shape;conv=>whnf
 refine cE G (pE (.bool true)) (fun O J r=>?_) ?_
 .have f0:=(Qd.rel r oF).pj.cV (S':=fun g=>g<J.heap.size) fun g V=>rlo r oF g V;have f1:=(S4.rel r oF).pj.cV (S':=fun g=>g<J.heap.size) fun g V=>rlo r oF g V;have r0:=r.NM (id:=9) rfl (by simp[Value.oneCell']) f0 f1 (Rel.lt r rfl);refine HI (xs:=[[-2,1]]) (ys:=[[-2,1]]) (fun g V=>V) (db.cV (db.rel SU r oF) fun g V=>rlo r oF g V) ?_;refine⟨[.slice (some ⟨(O 9).g,0,none⟩) 2 2],(r.kJ (id:=10) (sz:=1) (n:=1) rfl rfl (by simp[maxLen]) (fun u hu=>by simp at hu;subst hu;rfl)).cV (fun g V=>by rw[V];exact Rel.lt r rfl),rfl,fun i u x k1 k2=>?_⟩
  match i with
  |0=>simp at k1 k2;subst k1 k2;exact r0
  |i+1=>simp at k1
 rintro O _ _ _ iv22 r L G h_ rfl;clear SU;clear Qd;clear S4;clear r;conv=>whnf
 exact rtn G fun GE we re=>rfl
end Go.Ex
namespace Go.Ex
variable{cs:List Int}{ls:List Nat}{f:Nat->Int}
def gC(f:Nat->Int):Nat->Int
 |0=>0
 |n+1=>f 0+65536*gC (fun i=>f (i+1)) n
theorem Aq(f:Nat->Int)(n:Nat):dw ((List.range n).map f)=gC f n:=by
 induction n generalizing f with
 |zero=>rfl
 |succ n ih=>
  rw[List.range_succ_eq_map,List.map_cons,List.map_map,dw,gC,<-ih];rfl
theorem Ar(f g:Nat->Int)(n:Nat):gC (fun i=>f i+g i) n=gC f n+gC g n:=by
 induction n generalizing f g with
 |zero=>rfl
 |succ n ih=>simp only[gC,ih];omega
theorem Hr(k:Int)(f:Nat->Int)(n:Nat):gC (fun i=>k*f i) n=k*gC f n:=by
 induction n generalizing f with
 |zero=>simp[gC]
 |succ n ih=>simp only[gC,ih,Int.mul_add];rw[Int.mul_left_comm]
theorem yP{n:Nat}(h:∀i,i<n->f i=0):gC f n=0:=by
 induction n generalizing f with
 |zero=>rfl
 |succ n ih=>rw[gC,h 0 be,ih fun i N=>h (i+1) be];rfl
theorem sF(a:List Int)(n:Nat)(h:a.length<=n):gC (fun i=>a.getD i 0) n=dw a:=by
 induction a generalizing n with
 |nil=>exact yP fun i _=>by simp
 |cons c r ih=>
  obtain⟨m,rfl⟩:∃m,n=m+1:=⟨n-1,by simp at h;omega⟩
  have e:=ih m (by simpa using h);rw[gC,dw,<-e];simp[List.getD]
def jR(a b:List Int)(i:Nat):Nat->Int
 |0=>0
 |k+1=>jR a b i k+a.getD k 0*(if k<=i then b.getD (i-k) 0 else 0)
def gj(a b:List Int)(i:Nat):Int:=jR a b i (i+1)
theorem KZ(b:List Int)(i k:Nat):jR [] b i k=0:=by
 induction k with
 |zero=>rfl
 |succ k ih=>rw[jR,ih];simp
theorem Hs(c:Int)(r b:List Int)(i k:Nat):jR (c::r) b (i+1) (k+1)=c*b.getD (i+1) 0+jR r b i k:=by
 induction k with
 |zero=>simp[jR]
 |succ k ih=>
  rw[jR,ih,jR];have e:(c::r).getD (k+1) 0=r.getD k 0:=by simp[List.getD]
  rw[e];have e2:(if k+1<=i+1 then b.getD (i+1-(k+1)) 0 else 0)=(if k<=i then b.getD (i-k) 0 else 0):=by
   by_cases h:k<=i
   .rw[aM h,aM be,show i+1-(k+1)=i-k by omega]
   .rw[aI h,aI be]
  rw[e2,Int.add_assoc]
theorem GP(c:Int)(r b:List Int)(i:Nat):gj (c::r) b (i+1)=c*b.getD (i+1) 0+gj r b i:=Hs c r b i (i+1)
theorem GQ(c:Int)(r b:List Int):gj (c::r) b 0=c*b.getD 0 0:=by simp[gj,jR]
theorem MU(a b:List Int)(n:Nat)(h:a.length+b.length<=n+1):gC (gj a b) n=dw a*dw b:=by
 induction a generalizing n with
 |nil=>
  rw[show gj [] b=fun _=>(0:Int)from funext fun i=>KZ b i _,yP fun _ _=>rfl];simp[dw]
 |cons c r ih=>
  cases n with
  |zero=>
   have A:b=[]:=List.eq_nil_of_length_eq_zero (by simp at h;omega);subst A;simp[gC,dw]
  |succ m=>
   have e1:gC (gj (c::r) b) (m+1)=gC (fun i=>c*b.getD i 0) (m+1)+65536*gC (gj r b) m:=by
    have e2:gC (fun i=>gj (c::r) b (i+1)) m=gC (fun i=>c*b.getD (i+1) 0) m+gC (gj r b) m:=by
     rw[<-Ar];congr 1
     funext i
     exact GP c r b i
    rw[gC,gC,e2,GQ,Int.mul_add];omega
   have h':r.length+b.length<=m+1:=by simp at h;omega
   rw[e1,ih m h',Hr,sF b (m+1) be,dw,Int.add_mul,Int.mul_assoc]
theorem Hu(a b:List Int)(i k k0:Nat)(h0:∀j,j<k0->b.length<=i-j)(R:k0<=i+1)(h:k<=k0):jR a b i k=0:=by
 induction k with
 |zero=>rfl
 |succ k ih=>
  rw[jR,ih be,aM be];have:b.getD (i-k) 0=0:=by rw[List.getD,List.getElem?_eq_none (h0 k be)];rfl
  rw[this];simp
theorem Hv(a b:List Int)(i k m:Nat)(h:a.length<=k):jR a b i (k+m)=jR a b i k:=by
 induction m with
 |zero=>rfl
 |succ m ih=>
  rw[<-Nat.add_assoc,jR,ih];have:a.getD (k+m) 0=0:=by rw[List.getD,List.getElem?_eq_none be];rfl
  rw[this];simp
theorem oK{a b:List Int}{i:Nat}(ha:∀x∈a,-65535<=x/\x<=65535)(A:∀x∈b,-65535<=x/\x<=65535)(k:Nat):(jR a b i k).natAbs<=4294836225*k:=by
 have key:∀(l:List Int) (j:Nat),(∀x∈l,-65535<=x/\x<=65535)->(l.getD j 0).natAbs<=65535:=fun l j h=>by
  rw[List.getD]
  cases hj:l[j]? with
  |none=>simp
  |some d=>have:=h d (aG hj);simp;omega
 induction k with
 |zero=>simp[jR]
 |succ k ih=>
  rw[jR];have Y:=key a k ha;have I:(if k<=i then b.getD (i-k) 0 else 0).natAbs<=65535:=by
   split
   .exact key b _ A
   .simp
  have h3:=Nat.mul_le_mul Y I;rw[<-Int.natAbs_mul]at h3;generalize a.getD k 0*(if k<=i then b.getD (i-k) 0 else 0)=p at*
  omega
def eW(s:Int):List Nat->List Int
 |[]=>[]
 |l::r=>s*((l % 65536:Nat):Int)::s*((l / 65536:Nat):Int)::eW s r
theorem EW(s:Int)(ls:List Nat):dw (eW s ls)=s*(val ls:Int):=by
 induction ls with
 |nil=>simp[eW,dw,val]
 |cons l r ih=>
  rw[eW,dw,dw,ih,val];have e1:((l+4294967296*val r:Nat):Int)=((l % 65536:Nat):Int)+65536*((l / 65536:Nat):Int)+4294967296*((val r:Nat):Int):=by omega
  rw[e1,Int.mul_add,Int.mul_add,Int.mul_add];rw[Int.mul_left_comm 65536 s,Int.mul_left_comm s 65536,Int.mul_left_comm s 4294967296];omega
theorem qt(s:Int)(a b:List Nat):eW s (a++b)=eW s a++eW s b:=by
 induction a with
 |nil=>rfl
 |cons l r ih=>simp[eW,ih]
theorem jJ(s:Int)(ls:List Nat):(eW s ls).length=2*ls.length:=by
 induction ls with
 |nil=>rfl
 |cons l r ih=>simp[eW,ih];omega
theorem As{s:Int}(hs:s=1\/s= -1)(h:Lm ls):∀c∈eW s ls,-65535<=c/\c<=65535:=by
 induction ls with
 |nil=>intro c hc;cases hc
 |cons l r ih=>
  have hl:=h l aF;intro c hc;rw[eW]at hc;rcases List.mem_cons.1 hc with rfl|hc
  .rcases hs with rfl|rfl<;>omega
  rcases List.mem_cons.1 hc with rfl|hc
  .rcases hs with rfl|rfl<;>omega
  .exact ih (fun x E=>h x (aD _ E)) c hc
theorem yv(h:Lm ls):∀c∈eW 1 ls,0<=c/\c<=65535:=fun c hc=>by
 induction ls with
 |nil=>cases hc
 |cons l r ih=>
  have hl:=h l aF;rw[eW]at hc;rcases List.mem_cons.1 hc with rfl|hc
  .omega
  rcases List.mem_cons.1 hc with rfl|hc
  .omega
  .exact ih (fun x E=>h x (aD _ E)) hc
theorem GR{i:Nat}{c:Int}(h:cs[i]? =some c):dw (cs.drop i)=c+65536*dw (cs.drop (i+1)):=by
 rw[List.drop_eq_getElem_cons (aH.1 h).1,dw];have:=(aH.1 h).2;rw[this]
end Go.Ex
namespace Go.Ex
open Go Go.Sx Go.Proofs
variable{ls:List Nat}{S:Nat->Prop}
theorem NN{k:Nat}(h:Lm ls)(hl:ls.length<=k):ln (val ls)<=k:=iH.2 (Nat.lt_of_lt_of_le (qI h) (Fs hl))
theorem Cv.false{B:Nat}{iv:Iv}{g:Nat}(h:Cv FF B iv g):Cv S B iv g:=h.elim (fun h=>h.elim) .inr
theorem vM{w:World}{v u:Value}{f g:Rat}(W:Old S w)(hf:cz w S v f)(V:cz w S u g)(hlf:rl f<=10000000000)(hlg:rl g<=10000000000):
  eL PG FS.nf #[v,u] w (eY w fun v' F=>v'=iV (rs (f-g))):=by
 have G:=bR w;have l1:=fv f;have l2:=fI f;have l3:=fv g;have l4:=fI g;have m0:=dQ f.num g.den;have m1:=dQ g.num f.den;replace hf:=hf.cV (S':=Cv S w.heap.size []) fun _ h=>.inl h;replace V:=V.cV (S':=Cv S w.heap.size []) fun _ h=>.inl h;obtain⟨b1,a1,n1,c1,b2,a2,n2,c2,rfl⟩:=hf.shape;obtain⟨b3,a3,n3,c3,b4,a4,n4,c4,rfl⟩:=V.shape;have Ui:=hf.num;have RI:=hf.den;have VV:=V.num;have Sj:=V.den;refine rQ ce ?_;refine dP [.x 0,.x 1,.x 2,.x 3,.x 5,.x 6,.x 7,.x 8,.x 4,.x 9,.x 10,.x 11] ?_;refine cE G (pR eS (f.num*(g.den:Int))) (fun O J r=>gp (rlo r W) (Ui.rel r W) (Sj.rel r W) be be) ?_;rintro O _ _ _ Pv r L G h_ U;replace RI:=RI.cS r W L (mC h_);replace VV:=VV.cS r W L (mC h_);have hA:=U.cV (nw r h_);obtain⟨A0,A1,A2,A3,rfl⟩:=hA.shape;refine cE G (pR eS (g.num*(f.den:Int))) (fun O J r=>gp (rlo r W) (VV.rel r W) (RI.rel r W) be be) ?_;rintro O _ _ _ iv2 r L G h_ U;replace hA:=hA.cS r oF L (mC h_);have hB:=U.cV (nw r h_);obtain⟨C0,C1,C2,C3,rfl⟩:=hB.shape;refine cE G (pE (iV (rs (f-g)))) (fun O J r=>(Ns f g)▸B7 (rlo r oF) (hA.rel r oF) (hB.rel r oF) be be) ?_;rintro O _ _ _ Pu r L G h_ rfl;exact rtn G fun GE we re=>rfl
theorem gL{q:Rat}:rs q=0↔q=0:=by rw[rs,bo,Rat.num_eq_zero]
theorem NO{n:Int}(Y: -9223372036854775808<=n)(I:n<=9223372036854775807):rl (n:Rat)<=2:=by
 have:=xC Y I;unfold rl;rw[Rat.num_intCast,Rat.den_intCast];have:ln 1=1:=by decide
 omega
theorem Bm(n:Int)(w:World)(Y: -9223372036854775808<=n)(I:n<=9223372036854775807):
  eL PG FS.yS #[iV n] w (eY w fun v' F=>dI F (Nf w F) v' (n:Rat)):=by
 have G:=bR w;have hl:=NO Y I;refine BM ce ?_;refine cW (cE G (pR cz (n)) (fun O J r=>iX n J Y I) ?_);rintro O _ _ _ Pv r L G h_ U;have hX:=U.cV (nw r h_);obtain⟨A0,A1,A2,A3,A4,A5,A6,A7,rfl⟩:=hX.shape;refine cW (cE G (pR dI (n)) (fun O J r=>zc (rlo r oF) (hX.rel r oF) be) ?_);rintro O _ _ _ iv2 r L G h_ U;have hC:=U.cV (nw r h_);obtain⟨C0,C1,C2,C3,C4,C5,C6,C7,rfl⟩:=hC.shape;exact rtn G fun GE we re=>hC.out re oF
end Go.Ex
