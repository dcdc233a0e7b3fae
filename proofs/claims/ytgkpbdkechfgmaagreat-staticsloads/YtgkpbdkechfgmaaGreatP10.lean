/- Texts X144 to L34: lemmas, each with its conditions. -/
import Derived.Test.YtgkpbdkechfgmaaGreatP9
set_option maxHeartbeats 2000000
namespace Go.Ex
open Go Go.Sx Go.Proofs
variable{L:Array Value}{H:Hp}{p:Int×Int×Int}{b s:Int×Int×Rat}{iv:Iv}{xs:List (Int×Int×Int)}{seen:List (Int×Int×Rat)}{W:List (List Value)}{l:List Ld}{B i id nx:Nat}{S:Nat->Prop}{O:Nat->Sx.da}{a:Option Addr}{v vb vl vn vs:Value}{w:World}{f:fc}
def cX{α:Type}(e:List α->α->Int):List α->List α->Int
 |_,[]=>0
 |seen,x::r=>if e seen x=0 then cX e (seen++[x]) r else e seen x
section
variable{α:Type}{e:List α->α->Int}{xs:List α}
theorem dH{k:Nat}{x:α}(G:xs[k]? =some x)(h0:e (xs.take k) x=0):cX e (xs.take k) (xs.drop k)=cX e (xs.take (k+1)) (xs.drop (k+1)):=by
 have E:=(aD.1 G).1;have X:=(aD.1 G).2;rw[List.drop_eq_getElem_cons E,X,cX,aH h0,aY,G];rfl
theorem cJ{k:Nat}{x:α}{c:Int}(G:xs[k]? =some x)(h0:e (xs.take k) x=c)(hc:c≠0):cX e (xs.take k) (xs.drop k)=c:=by
 have E:=(aD.1 G).1;have X:=(aD.1 G).2;rw[List.drop_eq_getElem_cons E,X,cX,aF (by rw[h0];exact hc),h0]
theorem dy{k:Nat}(E:xs.length<=k):cX e (xs.take k) (xs.drop k)=0:=by
 rw[List.drop_eq_nil_of_le E];rfl
theorem fL(h:cX e [] xs=0):∀k x,xs[k]? =some x->e (xs.take k) x=0:=by
 have key:∀k,k<=xs.length->cX e (xs.take k) (xs.drop k)=0/\∀j x,j<k->xs[j]? =some x->e (xs.take j) x=0:=fun k=>by
  induction k with
  |zero=>intro _;exact⟨by simpa using h,fun j x hj=>be⟩
  |succ k ih=>
   intro E;obtain⟨Y,X⟩:=ih be;obtain⟨x,G⟩:=gO xs k;have h0:e (xs.take k) x=0:=by
    by_cases h0:e (xs.take k) x=0
    .exact h0
    .rw[cJ G rfl h0]at Y;exact Y
   refine⟨by rw[<-dH G h0];exact Y,fun j y hj hy=>?_⟩;rcases aR j k with RR|RR
   .exact X j y RR hy
   .have:j=k:=by omega
    subst this;rw[G]at hy;injection hy with hy;rw[<-hy];exact h0
 exact fun k x G=>(key xs.length lr).2 k x (aD.1 G).1 G
end
def jx(n:Int):Prop:= -1000000<=n/\n<=1000000
instance (n : Int) : Decidable (jx n) := by unfold jx; infer_instance
def ee(seen:List (Int×Int×Int))(p:Int×Int×Int):Int:=if jx p.1/\jx p.2.1/\jx p.2.2 then(if p∈seen then 12 else 0)else 2
def gB(b:Int×Int×Rat):Int×Int:=(min b.1 b.2.1,max b.1 b.2.1)
def gA(n:Nat)(i:Int):Prop:=0<=i/\i<n
instance (n : Nat) (i : Int) : Decidable (gA n i) := by unfold gA; infer_instance
def eu(n:Nat)(seen:List (Int×Int×Rat))(b:Int×Int×Rat):Int:=
 if gA n b.1/\gA n b.2.1 then(if b.1=b.2.1 then 3 else if gB b∈seen.map gB then 5 else if b.2.2<=0 then 2 else 0)else 6
def iP(s:Int×Int×Rat):Int×Int:=(s.1,s.2.1)
def jt(n:Nat)(seen:List (Int×Int×Rat))(s:Int×Int×Rat):Int:=
 if gA n s.1 then(if 0<=s.2.1/\s.2.1<=2 then(if iP s∈seen.map iP then 5 else if s.2.2<0 then 2 else 0)else 2)else 6
def eJ(f:fc):Int:=
 if 20<f.nodes.length\/60<f.bars.length\/60<f.cV.length then 8 else
  if cX ee [] f.nodes≠0 then cX ee [] f.nodes else
   if cX (eu f.nodes.length) [] f.bars≠0 then cX (eu f.nodes.length) [] f.bars else cX (jt f.nodes.length) [] f.cV
def jO(n:Nat)(x:Ld):Int:=if gA n x.1 then(if jx x.2.1/\jx x.2.2.1/\jx x.2.2.2 then 0 else 2)else 6
def jH(n:Nat)(l:List Ld):Int:=if 200<l.length then 8 else cX (fun _=>jO n) [] l
def kH(f:fc)(l:List Ld):Int:=if eJ f≠0 then eJ f else jH f.nodes.length l
theorem sH{seen:List (Int×Int×Int)}:ee seen p=0↔(jx p.1/\jx p.2.1/\jx p.2.2)/\p∉seen:=by
 unfold ee;split<;>rename_i h
 .split<;>rename_i X<;>simp[h,X]
 .simp[h]
theorem qP{n:Nat}:eu n seen b=0↔(gA n b.1/\gA n b.2.1)/\b.1≠b.2.1/\gB b∉seen.map gB/\0<b.2.2:=by
 unfold eu;rw[<-Rat.not_le];by_cases h:gA n b.1/\gA n b.2.1
 .rw[aH h];by_cases X:b.1=b.2.1
  .rw[aH X];exact⟨(fun e=>by cases e),fun e=>absurd X e.2.1⟩
  .rw[aF X];by_cases N:gB b∈seen.map gB
   .rw[aH N];exact⟨(fun e=>by cases e),fun e=>absurd N e.2.2.1⟩
   .rw[aF N];by_cases h4:b.2.2<=0
    .rw[aH h4];exact⟨(fun e=>by cases e),fun e=>absurd h4 e.2.2.2⟩
    .rw[aF h4];exact⟨fun _=>⟨h,X,N,h4⟩,fun _=>rfl⟩
 .rw[aF h];exact⟨(fun e=>by cases e),fun e=>absurd e.1 h⟩
theorem qO{n:Nat}:jt n seen s=0↔gA n s.1/\(0<=s.2.1/\s.2.1<=2)/\iP s∉seen.map iP/\0<=s.2.2:=by
 unfold jt;rw[<-Rat.not_lt];by_cases h:gA n s.1<;>by_cases X:0<=s.2.1/\s.2.1<=2<;>by_cases N:iP s∈seen.map iP<;>by_cases h4:s.2.2<0<;>simp only[h,X,N,h4]<;>simp
theorem FP{n:Nat}{x:Ld}:jO n x=0↔gA n x.1/\jx x.2.1/\jx x.2.2.1/\jx x.2.2.2:=by
 unfold jO;split<;>rename_i h
 .split<;>rename_i X<;>simp[h,X]
 .simp[h]
theorem Ay(h:eJ f=0):(f.nodes.length<=20/\f.bars.length<=60/\f.cV.length<=60)/\cX ee [] f.nodes=0/\cX (eu f.nodes.length) [] f.bars=0/\cX (jt f.nodes.length) [] f.cV=0:=by
 unfold eJ at h;split at h<;>rename_i Y
 .cases h
 .split at h<;>rename_i X
  .exact absurd h X
  .split at h<;>rename_i N
   .exact absurd h N
   .exact⟨be,by simpa using X,by simpa using N,h⟩
theorem so(h:eJ f=0):wG f:=by
 obtain⟨⟨Y,X,N⟩,Z,hb,hs⟩:=Ay h;refine⟨fun p hp=>?_,fun b TS=>?_,fun s Se=>?_,Y,X,N⟩
 .obtain⟨k,E⟩:=aT hp;exact(sH.1 (fL Z k p E)).1
 .obtain⟨k,E⟩:=aT TS;exact(qP.1 (fL hb k b E)).1
 .obtain⟨k,E⟩:=aT Se;have:=qO.1 (fL hs k s E);exact⟨this.1,this.2.1⟩
theorem xU{n:Nat}(h:jH n l=0):zT n l:=by
 unfold jH at h;split at h<;>rename_i Y
 .cases h
 .refine⟨be,fun x G=>?_⟩;obtain⟨k,E⟩:=aT G;exact FP.1 (fL h k x E)
theorem ns(h:kH f l=0):eJ f=0/\jH f.nodes.length l=0:=by
 unfold kH at h;split at h<;>rename_i Y
 .exact absurd h Y
 .exact⟨by simpa using Y,h⟩
theorem ig(n:Int)(w:World):eC PG Fn.ko #[iV n,iV 1000000] w (eI w fun v' _=>∃d,v'= .bool d/\(d=true↔jx n)):=by
 have V:=bR w;refine ll bv ?_;refine⟨-1000000,bi,?_⟩;apply bS<;>intro Y
 .intro GT we re;have Y:=aE Y;exact⟨_,rfl,V.tr re.cN,_,rfl,by rw[decide_eq_true_iff];exact⟨fun h=>⟨Y,h⟩,fun h=>h.2⟩⟩
 .intro GT we re;have Y:=aC Y;exact⟨_,rfl,V.tr re.cN,_,rfl,(fun h=>by cases h),fun h=>absurd h.1 Y⟩
theorem CM(n:Int)(w:World)(an ab aq:Option Addr)(ln cn nb cb nq cq:Nat):eC PG Fn.wD #[.agg #[.slice an ln cn,.slice ab nb cb,.slice aq nq cq],iV n] w (eI w fun v' _=>∃d,v'= .bool d/\(d=true↔gA ln n)):=by
 have V:=bR w;refine zK bv ?_;apply bS<;>intro Y
 .intro GT we re;have Y:=aE Y;exact⟨_,rfl,V.tr re.cN,_,rfl,by rw[decide_eq_true_iff];exact⟨fun h=>⟨Y,h⟩,fun h=>h.2⟩⟩
 .intro GT we re;have Y:=aC Y;exact⟨_,rfl,V.tr re.cN,_,rfl,(fun h=>by cases h),fun h=>absurd h.1 Y⟩
theorem CN(x y0 y1 y2:Int)(n:Nat)(w:World):eC PG Fn.l7 #[.agg #[iV x,iV y0,iV y1,iV y2],iV n] w (eI w fun v' _=>v'=iV (jO n (x,y0,y1,y2))):=by
 have V:=bR w;refine pU bv ?_;apply bS<;>intro Y
 .have Y:=aE Y;exact rtn V fun GT we re=>by show iV _=_;rw[jO,aF (by unfold gA;omega)]
 have Y:=aC Y;apply bS<;>intro X
 .have X:=aE X;exact rtn V fun GT we re=>by show iV _=_;rw[jO,aF (by unfold gA;omega)]
 have X:=aC X;have hh:gA n x:=by unfold gA;omega
 refine cD (cE V (fun _ J v I=>∃d,v= .bool d/\(d=true↔jx y0)) (fun O J r=>ig _ J) ?_);rintro O _ _ _ OK r R V h_ ⟨d0,rfl,OM⟩
 cases d0
 .have OM:¬jx y0:=fun h=>by have:=OM.2 h;cases this
  exact rtn V fun GT we re=>by show iV _=_;rw[jO,aH hh,aF (fun h=>OM h.1)]
 replace OM:=OM.1 rfl;refine cD (cE V (fun _ J v I=>∃d,v= .bool d/\(d=true↔jx y1)) (fun O J r=>ig _ J) ?_);rintro O _ _ _ OH r R V h_ ⟨d1,rfl,OG⟩
 cases d1
 .have OG:¬jx y1:=fun h=>by have:=OG.2 h;cases this
  exact rtn V fun GT we re=>by show iV _=_;rw[jO,aH hh,aF (fun h=>OG h.2.1)]
 replace OG:=OG.1 rfl;refine cD (cE V (fun _ J v I=>∃d,v= .bool d/\(d=true↔jx y2)) (fun O J r=>ig _ J) ?_);rintro O _ _ _ OW r R V h_ ⟨d2,rfl,OQ⟩
 cases d2
 .have OQ:¬jx y2:=fun h=>by have:=OQ.2 h;cases this
  exact rtn V fun GT we re=>by show iV _=_;rw[jO,aH hh,aF (fun h=>OQ h.2.2)]
 replace OQ:=OQ.1 rfl;exact rtn V fun GT we re=>by show iV _=_;rw[jO,aH hh,aH ⟨OM,OG,OQ⟩]
theorem qz{n:Nat}(U:Old S w)(hl:cU w S vl l):eC PG Fn.kp #[vl,iV n] w (eI w fun v' _=>v'=iV (jH n l)):=by
 have V:=bR w;obtain⟨al,cl,rfl,OR,Qo⟩:=hl.shape;unfold maxLen at Qo;refine oV bv ?_;apply bS<;>intro Y
 .have Y:=aE Y;exact rtn V fun GT we re=>by show iV _=_;rw[jH,aH be]
 have Y:=aC Y
 refine⟨Nat×World×Iv,fun z=>⟨[(1,iZ n),(11,sV al l.length cl),(12,iZ l.length),(13,iN z.1)],[],0,z.2.2,z.2.1⟩,fun z=>l.length-z.1,
  fun z=>z.1<=l.length/\Bq w z.2.1/\jH n l=cX (fun _=>jO n) (l.take z.1) (l.drop z.1),?_,?_⟩
 .intro O J A;exact⟨(0,J,[]),⟨aP _,V.tr A.cN,by rw[jH,aF be];rfl⟩,sbgn [] A⟩
 rintro⟨i,w1,iv⟩ ⟨D,V,hE⟩;dsimp only at D V hE ⊢;apply bS<;>intro Ny
 .have Ny:=dL Ny;obtain⟨x,G⟩:=gO l i;obtain⟨adx,L,Od,hP,-,OZ⟩:=hl.load bi G;have hP:L=[iV x.1,iV x.2.1,iV x.2.2.1,iV x.2.2.2]:=hP;subst hP;refine⟨adx,Od,be,[iV x.1,iV x.2.1,iV x.2.2.1,iV x.2.2.2],rfl,rdO OZ V U,?_⟩;refine cD (cE V (pE (iV (jO n x))) (fun O J r=>CN _ _ _ _ n J) ?_);rintro O _ _ _ OK r R V h_ rfl;obtain⟨c,hc⟩:=exq (jO n x);rw[hc];apply bS<;>intro hd
  .have hd:c≠0:=by simpa using hd
   exact rtn V fun GT we re=>by show iV _=_;rw[hE,cJ G hc hd]
  have hd:c=0:=by simpa using hd
  rw[hd]at hc;rw[dH G hc]at hE;refine inc i ?_;intro IR w6 A;exact⟨(i+1,w6,_),⟨Ny,V.tr A.cN,hE⟩,sbgn [] A,dec Ny⟩
 have Ny:=dE D Ny;rw[dy be]at hE;exact rtn V fun GT we re=>by show iV _=_;rw[hE]
theorem eB{j:Nat}(h:L[j]? =some v)(w:World):(part T.int L j).run PG w= .ok v w:=by
 have:=(hτ T.int _ rfl).isAgg w;simp only[part,Sem.run_bind,this,Result.andThen]
 simp[h]
theorem eq_int(d:Nat)(a b:Int)(w:World):(Op.equalIn (d+1) T.int (iV a) (iV b)).run PG w= .ok (a==b) w:=by
 unfold Op.equalIn;simp[run_underlying ((hτ T.int _ rfl).i1 rfl)]
theorem LC(p0 p1 p2 q0 q1 q2:Int)(w:World):(Op.equal T.Node (.agg #[iV p0,iV p1,iV p2]) (.agg #[iV q0,iV q1,iV q2])).run PG w= .ok (decide (p0=q0/\p1=q1/\p2=q2)) w:=by
 have h:=run_underlying Tryz.underlying195;simp only[Op.equal,Op.maxDepth]
 unfold Op.equalIn;have a0:=eB (L:= #[iV p0,iV p1,iV p2]) (j:=0) rfl;have a1:=eB (L:= #[iV p0,iV p1,iV p2]) (j:=1) rfl;have a2:=eB (L:= #[iV p0,iV p1,iV p2]) (j:=2) rfl;have b0:=eB (L:= #[iV q0,iV q1,iV q2]) (j:=0) rfl;have b1:=eB (L:= #[iV q0,iV q1,iV q2]) (j:=1) rfl;have b2:=eB (L:= #[iV q0,iV q1,iV q2]) (j:=2) rfl;simp[h,a0,a1,a2,b0,b1,b2,eq_int 9998];by_cases h0:p0=q0
 .by_cases Y:p1=q1
  .by_cases X:p2=q2<;>simp[h0,Y,X]
  .simp[h0,Y]
 .simp[h0]
theorem LD(p0 p1 q0 q1:Int)(w:World):(Op.equal T.Bv (.agg #[iV p0,iV p1]) (.agg #[iV q0,iV q1])).run PG w= .ok (decide (p0=q0/\p1=q1)) w:=by
 have h:=run_underlying Tryz.underlying281;simp only[Op.equal,Op.maxDepth]
 unfold Op.equalIn;have a0:=eB (L:= #[iV p0,iV p1]) (j:=0) rfl;have a1:=eB (L:= #[iV p0,iV p1]) (j:=1) rfl;have b0:=eB (L:= #[iV q0,iV q1]) (j:=0) rfl;have b1:=eB (L:= #[iV q0,iV q1]) (j:=1) rfl;simp[h,a0,a1,b0,b1,eq_int 9998];by_cases h0:p0=q0
 .by_cases Y:p1=q1<;>simp[h0,Y]
 .simp[h0]
abbrev BM(p:Int×Int×Int):Value:=.agg #[iV p.1,iV p.2.1,iV p.2.2]
theorem EA(p q:Int×Int×Int)(w:World)(o1 o2:Operand):(do eqGuard .eql T.Node o1 o2 (BM p) (BM q);binOp .eql T.Node (BM p) (BM q)).run PG w= .ok (.bool (decide (p=q))) w:=by
 have h:=LC p.1 p.2.1 p.2.2 q.1 q.2.1 q.2.2 w;simp[eqGuard,binOp,h];obtain⟨a,b,c⟩:=p;obtain⟨a2,b2,c2⟩:=q;by_cases h0:a=a2
 .by_cases Y:b=b2
  .by_cases X:c=c2<;>simp[h0,Y,X]
  .simp[h0,Y]
 .simp[h0]
def mm(k:Int×Int):Value:=.agg #[.int .i64 k.1,.int .i64 k.2]
theorem pg{a b:Int×Int}(h:mm a=mm b):a=b:=by
 unfold mm at h;injection h with h;have Y:=congrArg (fun x=>x[0]?) h;have X:=congrArg (fun x=>x[1]?) h;simp at Y X;exact Prod.ext Y X
theorem Hl(d:Nat)(a:Int)(em:Bool)(w:World):(Instr.checkKey em (d+1) T.int (iV a)).run PG w= .ok () w:=by
 unfold Instr.checkKey;simp[run_underlying ((hτ T.int _ rfl).i1 rfl)]
theorem FQ(p0 p1:Int)(em:Bool)(w:World):(Instr.checkKey em 10000 T.Bv (.agg #[iV p0,iV p1])).run PG w= .ok () w:=by
 have h:=run_underlying Tryz.underlying281;have a0:=eB (L:= #[iV p0,iV p1]) (j:=0) rfl;have a1:=eB (L:= #[iV p0,iV p1]) (j:=1) rfl;unfold Instr.checkKey;simp[h,a0,a1,Hl 9998]
theorem xV:IQ PG T.Bv (fun v=>∃k,v=mm k) where
 desc:=⟨_,Tryz.underlying281⟩
 check:=fun w em v ⟨k,e⟩=>by subst e;exact FQ k.1 k.2 em w
 eq:=fun w a b ⟨p,e1⟩ ⟨q,e2⟩=>by
  subst e1 e2;refine⟨_,LD p.1 p.2 q.1 q.2 w,?_⟩;rw[decide_eq_true_iff];exact⟨fun h=>by rw[show p=q from Prod.ext h.1 h.2],fun h=>by have:=pg h;subst this;exact⟨rfl,rfl⟩⟩
theorem tj:PG.underlying T.wT=some (.map T.Bv T.bool):=Tryz.underlying279
theorem BN(w:World):(zeroValue T.bool).run PG w= .ok (.bool false) w:=by kernel_rfl
theorem Jh(ad:Option Addr)(k:Nat):ad.map (·.add (0*k))=ad:=by
 rw[Nat.zero_mul]
 cases ad with
 |none=>rfl
 |some a=>simp only[Option.map_some,Option.some.injEq];unfold Addr.add;split<;>simp_all
theorem dW.take{α:Type}{k:Nat}{P:World->(Nat->Prop)->List Value->α->Prop}{n c:Nat}{xs:List α}(h:dW k P w S (.slice a n c) xs)(D:i<=xs.length):
  dW k P w S (.slice a i c) (xs.take i):=by
 obtain⟨W,⟨h0,Y,X,a',c',e,N,h4⟩,hl,hlk,hf⟩:=h;injection e with e1 e2 e3;subst e1 e2 e3;have hlen:(W.take i).length=i:=by rw[aZ,hl];omega
 have hli:(xs.take i).length=i:=by rw[aZ];omega
 have Tj:W.flatten=(W.take i).flatten++(W.drop i).flatten:=by rw[<-List.flatten_append,List.take_append_drop]
 refine⟨W.take i,⟨be,?_,fun u hu=>X u (by rw[Tj];exact List.mem_append_left _ hu),a,c,by rw[hli],be,fun j u hj=>h4 j u ?_⟩,by rw[hlen,hli],fun L hc=>hlk L (List.mem_of_mem_take hc),fun j L x k1 k2=>?_⟩
 .rw[ed fun L hc=>hlk L (List.mem_of_mem_take hc),hlen,hli]
 .rw[Tj,aK (aD.1 hj).1];exact hj
 .have hj:=(aD.1 k1).1;rw[hlen]at hj;rw[bT hj]at k1 k2;exact hf j L x k1 k2
theorem mM.cK{I:World}(h:mM w S v xs)(E:∀g,S g->I.heap[g]? =w.heap[g]?):mM I S v xs:=dW.cK (w:=w) (fun _ _ h=>h) h E
theorem CO(U:Old S w)(Z:mM w S vn xs)(p:Int×Int×Int):eC PG Fn.fY #[vn,BM p] w (eI w fun v' _=>∃r,v'=iV r/\(-1<=r)/\(0<=r↔p∈xs)):=by
 have V:=bR w;obtain⟨an,cn,rfl,hcn,RH⟩:=Z.shape;unfold maxLen at RH;refine iI bv ?_
 refine⟨Nat×World,fun z=>⟨[(0,sV an xs.length cn),(3,pP 0 0),(7,iZ xs.length),(8,iN z.1)],[(0,.box T.Node [.v (iV p.1),.v (iV p.2.1),.v (iV p.2.2)])],1,[],z.2⟩,fun z=>xs.length-z.1,
  fun z=>z.1<=xs.length/\Bq w z.2/\(p∈xs↔p∈xs.drop z.1),?_,?_⟩
 .intro O J A;exact⟨(0,J),⟨aP _,V.tr A.cN,Iff.rfl⟩,sbgn [] A⟩
 rintro⟨i,w1⟩ ⟨D,V,hE⟩;dsimp only at D V hE ⊢;apply bS<;>intro Ny
 .have Ny:=dL Ny;obtain⟨q,G⟩:=gO xs i;have hdr:xs.drop i=q::xs.drop (i+1):=by rw[List.drop_eq_getElem_cons Ny,(aD.1 G).2]
  obtain⟨adx,L,Od,hP,-,OZ⟩:=Z.load bi G;have hP:L=[iV q.1,iV q.2.1,iV q.2.2]:=hP;subst hP;refine gH hτ pB (.x 1 (.x 2 (.x 3 (.ld 0 32 (.ld 4 32 (.x 5 .nil)))))) d4 d4 ?_;refine⟨adx,Od,be,[iV q.1,iV q.2.1,iV q.2.2],rfl,rdO OZ V U,decide (p=q),fun O w o1 o2=>EA p q w o1 o2,?_⟩;apply bS<;>intro hd
  .have hd:p=q:=aE hd;exact rtn V fun GT we re=>⟨_,rfl,be,iff_of_true be (hE.2 (by rw[hdr,hd];exact aI))⟩
  have hd:p≠q:=aC hd;rw[hdr,List.mem_cons,or_iff_right hd]at hE;refine inc i ?_;intro IR w6 A;exact⟨(i+1,w6),⟨Ny,V.tr A.cN,hE⟩,sbgn [] A,dec Ny⟩
 have Ny:=dE D Ny;rw[Ny,List.drop_length]at hE;exact rtn V fun GT we re=>⟨_,rfl,be,iff_of_false be fun h=>by cases hE.1 h⟩
theorem xB(U:Old S w)(Z:mM w S vn xs)(p:Int×Int×Int):eC PG Fn.fH #[vn,BM p] w (eI w fun v' _=>∃d,v'= .bool d/\(d=true↔p∈xs)):=by
 have V:=bR w;obtain⟨an,cn,rfl,hcn,RH⟩:=Z.shape;refine gj bv ?_;refine cD (cE V (fun _ J v I=>∃r,v=iV r/\(-1<=r)/\(0<=r↔p∈xs)) (fun O J r=>CO (p:=p) (oS U r) (mM.cK Z (kS V r U))) ?_);rintro O _ _ _ OK r R V h_ ⟨r0,rfl,hr0,SA⟩;exact rtn V fun GT we re=>⟨_,rfl,by rw[decide_eq_true_iff];exact SA⟩
def xC(w:World)(S:Nat->Prop)(g:Nat)(ks:List Value):Prop:=S g/\DD w g ks
section
variable{S:Nat->Prop}{H:Hp}{nx:Nat}{iv K:Iv}{B:Nat}{w J I:World}{O:Nat->Sx.da}{g:Nat}{ks:List Value}
theorem xC.rel(h:xC w (Cv S B iv) g ks)(r:Rel H nx iv B w O J)(U:∀g,S g->g<B):xC J (Cv S B iv) g ks:=⟨h.1,h.2.cK (rls r U h.1)⟩
theorem xC.cH(h:xC w (Cv S B iv) g ks)(r:Rel H nx iv B w O J)(U:∀g,S g->g<B)(R:Ext J I)(hm:∀p,p∈iv->p∈K):xC I (Cv S B K) g ks:=
 ⟨h.1.mono hm,(h.rel r U).2.cK (R.block g (rlo r U g h.1))⟩
end
theorem tk(U:Old S w)(hf:dq w S vn vb vs f):eC PG Fn.qm #[.agg #[vn,vb,vs]] w (eI w fun v' _=>v'=iV (eJ f)):=by
 have V:=bR w;obtain⟨an,cn,ab,cb,aq,cq,rfl,rfl,rfl,RH,Rh,Si⟩:=hf.shape;obtain⟨_,_,hsh,hcn,_⟩:=hf.nodes.shape;injection hsh with e1 e2 e3;subst e1 e3;refine ue bv ?_;apply bS<;>intro h0
 .have h0:=aE h0;exact rtn V fun GT we re=>by show iV _=_;rw[eJ,aH be]
 have h0:=aC h0;apply bS<;>intro Y
 .have Y:=aE Y;exact rtn V fun GT we re=>by show iV _=_;rw[eJ,aH be]
 have Y:=aC Y;apply bS<;>intro X
 .have X:=aE X;exact rtn V fun GT we re=>by show iV _=_;rw[eJ,aH be]
 have X:=aC X
 refine⟨Nat×World×Iv,fun z=>⟨[(1,pP 0 0),(30,sV an f.nodes.length cn),(31,iZ f.nodes.length),(32,iN z.1)],[(0,.box T.Frame [.v (.slice an f.nodes.length cn),.v (.slice ab f.bars.length cb),.v (.slice aq f.cV.length cq)])],1,z.2.2,z.2.1⟩,fun z=>f.nodes.length-z.1,
  fun z=>z.1<=f.nodes.length/\Bq w z.2.1/\cX ee [] f.nodes=cX ee (f.nodes.take z.1) (f.nodes.drop z.1),?_,?_⟩
 .intro O J A;exact⟨(0,J,[]),⟨aP _,V.tr A.cN,rfl⟩,sbgn [] A⟩
 rintro⟨i,w1,iv⟩ ⟨D,V,hE⟩;dsimp only at D V hE ⊢;apply bS<;>intro Ny
 .have Ny:=dL Ny;obtain⟨q,G⟩:=gO f.nodes i;obtain⟨adx,L,Od,hP,-,OZ⟩:=hf.nodes.load bi G;have hP:L=[iV q.1,iV q.2.1,iV q.2.2]:=hP;subst hP;refine⟨adx,Od,be,[iV q.1,iV q.2.1,iV q.2.2],rfl,rdO OZ V U,?_⟩;refine cD (cE V (fun _ J v I=>∃d,v= .bool d/\(d=true↔jx q.1)) (fun O J r=>ig _ J) ?_);rintro O Ph v1 Pa OK r R V h_ ⟨d0,rfl,OM⟩
  cases d0
  .have OM:¬jx q.1:=fun h=>by have:=OM.2 h;cases this
   exact rtn V fun GT we re=>by show iV _=_;rw[eJ,aF be,aH (by rw[hE,cJ G (show ee (f.nodes.take i) q=2 by rw[ee,aF (fun h=>OM h.1)]) bi];decide),hE,cJ G (show ee (f.nodes.take i) q=2 by rw[ee,aF (fun h=>OM h.1)]) bi]
  replace OM:=OM.1 rfl;refine cD (cE V (fun _ J v I=>∃d,v= .bool d/\(d=true↔jx q.2.1)) (fun O J r=>ig _ J) ?_);rintro O QT v2 PO OH r R V h_ ⟨d1,rfl,OG⟩
  cases d1
  .have OG:¬jx q.2.1:=fun h=>by have:=OG.2 h;cases this
   exact rtn V fun GT we re=>by show iV _=_;rw[eJ,aF be,aH (by rw[hE,cJ G (show ee (f.nodes.take i) q=2 by rw[ee,aF (fun h=>OG h.2.1)]) bi];decide),hE,cJ G (show ee (f.nodes.take i) q=2 by rw[ee,aF (fun h=>OG h.2.1)]) bi]
  replace OG:=OG.1 rfl;refine cD (cE V (fun _ J v I=>∃d,v= .bool d/\(d=true↔jx q.2.2)) (fun O J r=>ig _ J) ?_);rintro O Pm v3 Pg OW r R V h_ ⟨d2,rfl,OQ⟩
  cases d2
  .have OQ:¬jx q.2.2:=fun h=>by have:=OQ.2 h;cases this
   exact rtn V fun GT we re=>by show iV _=_;rw[eJ,aF be,aH (by rw[hE,cJ G (show ee (f.nodes.take i) q=2 by rw[ee,aF (fun h=>OQ h.2.2)]) bi];decide),hE,cJ G (show ee (f.nodes.take i) q=2 by rw[ee,aF (fun h=>OQ h.2.2)]) bi]
  replace OQ:=OQ.1 rfl;refine gH hτ pB (.x 0 (.x 2 (.ld 1 104 (.x 3 (.ld 4 96 (.x 5 (.x 6 .nil))))))) d4 d4 ?_;refine⟨⟨be,be,be⟩,an,i,cn,by rw[show ((0:Int).toNat*3)=0*3 from rfl,Jh];split<;>rfl,bv,bv,?_⟩;refine cE V (fun _ J v I=>∃d,v= .bool d/\(d=true↔q∈f.nodes.take i)) (fun O J r=>xB (p:=q) (oS U r) (mM.cK (hf.nodes.take (Nat.le_of_lt Ny)) (kS V r U))) ?_;rintro O _ _ _ Ow r R V h_ ⟨d3,rfl,TL⟩
  cases d3
  .have TL:q∉f.nodes.take i:=fun h=>by have:=TL.2 h;cases this
   rw[dH G (sH.2 ⟨⟨OM,OG,OQ⟩,TL⟩)]at hE;refine inc i ?_;intro IR w6 A;exact⟨(i+1,w6,_),⟨Ny,V.tr A.cN,hE⟩,sbgn [] A,dec Ny⟩
  replace TL:=TL.1 rfl;exact rtn V fun GT we re=>by show iV _=_;rw[eJ,aF be,aH (by rw[hE,cJ G (show ee (f.nodes.take i) q=12 by rw[ee,aH ⟨OM,OG,OQ⟩,aH TL]) bi];decide),hE,cJ G (show ee (f.nodes.take i) q=12 by rw[ee,aH ⟨OM,OG,OQ⟩,aH TL]) bi]
 have Ny:=dE D Ny;rw[dy be]at hE;refine vH (fun O wa wb r hM0 F Oj=>?_);have PA:=(V.tr r.cN).tr (jv.grown F (fun x e=>by cases e) r.cR);have hB:w.heap.size<=wa.heap.size:=r.cR;have hM:xC wb (Cf w ((wa.heap.size,wa.heap.size+1)::iv)) wa.heap.size []:=⟨.inr ⟨hB,_,_,aI,lr,cB _⟩,hM0⟩
 generalize (wa.heap.size,wa.heap.size+1)::iv=OH at*
 obtain⟨gm,hgm⟩:=exq wa.heap.size;rw[hgm]at hM ⊢;have V:=PA
 refine⟨Nat×World×Iv,fun z=>⟨[(1,pP 0 0),(5,.o (.v (.map (some gm)))),(64,sV ab f.bars.length cb),(65,iZ f.bars.length),(66,iN z.1)],[(0,.box T.Frame [.v (.slice an f.nodes.length cn),.v (.slice ab f.bars.length cb),.v (.slice aq f.cV.length cq)])],1,z.2.2,z.2.1⟩,fun z=>f.bars.length-z.1,
  fun z=>z.1<=f.bars.length/\Bq w z.2.1/\cX (eu f.nodes.length) [] f.bars=cX (eu f.nodes.length) (f.bars.take z.1) (f.bars.drop z.1)/\xC z.2.1 (Cf w z.2.2) gm ((f.bars.take z.1).map fun b=>mm (gB b)),?_,?_⟩
 .intro O J A;exact⟨(0,J,OH),⟨aP _,V.tr A.cN,rfl,hM.rel A oF⟩,sbgn [] A⟩
 rintro⟨i,w1,iv⟩ ⟨D,V,OS,hM⟩;dsimp only at D V OS hM ⊢;apply bS<;>intro Ny
 .have Ny:=dL Ny;obtain⟨b,G⟩:=gO f.bars i;obtain⟨adb,L,QB,hF,-,PT⟩:=hf.bars.load bi G;obtain⟨g0,g1,g2,g3,g4,g5,g6,g7,rfl,hF⟩:=hF;refine⟨adb,QB,be,[iV b.1,iV b.2.1,.bool g0,.slice g1 g2 g3,.bool g4,.slice g5 g6 g7],rfl,rdO PT V U,?_⟩;refine cD (cE V (fun _ J v I=>∃d,v= .bool d/\(d=true↔gA f.nodes.length b.1)) (fun O J r=>CM _ J _ _ _ _ _ _ _ _ _) ?_);rintro O Ph v1 Pa OK r R V h_ ⟨d0,rfl,OM⟩;replace hM:=hM.cH r oF R (mC h_)
  cases d0
  .have OM:¬gA f.nodes.length b.1:=fun h=>by have:=OM.2 h;cases this
   exact rtn V fun GT we re=>by show iV _=_;rw[eJ,aF be,aF (by rw[hE];decide),aH (by rw[OS,cJ G (show eu f.nodes.length (f.bars.take i) b=6 by rw[eu,aF (fun h=>OM h.1)]) bi];decide),OS,cJ G (show eu f.nodes.length (f.bars.take i) b=6 by rw[eu,aF (fun h=>OM h.1)]) bi]
  replace OM:=OM.1 rfl;refine cD (cE V (fun _ J v I=>∃d,v= .bool d/\(d=true↔gA f.nodes.length b.2.1)) (fun O J r=>CM _ J _ _ _ _ _ _ _ _ _) ?_);rintro O QT v2 PO OH r R V h_ ⟨d1,rfl,OG⟩;replace hM:=hM.cH r oF R (mC h_)
  cases d1
  .have OG:¬gA f.nodes.length b.2.1:=fun h=>by have:=OG.2 h;cases this
   exact rtn V fun GT we re=>by show iV _=_;rw[eJ,aF be,aF (by rw[hE];decide),aH (by rw[OS,cJ G (show eu f.nodes.length (f.bars.take i) b=6 by rw[eu,aF (fun h=>OG h.2)]) bi];decide),OS,cJ G (show eu f.nodes.length (f.bars.take i) b=6 by rw[eu,aF (fun h=>OG h.2)]) bi]
  replace OG:=OG.1 rfl;apply bS<;>intro Oo
  .have Oo:b.1=b.2.1:=by simpa using Oo
   exact rtn V fun GT we re=>by show iV _=_;rw[eJ,aF be,aF (by rw[hE];decide),aH (by rw[OS,cJ G (show eu f.nodes.length (f.bars.take i) b=3 by rw[eu,aH ⟨OM,OG⟩,aH Oo]) bi];decide),OS,cJ G (show eu f.nodes.length (f.bars.take i) b=3 by rw[eu,aH ⟨OM,OG⟩,aH Oo]) bi]
  have Oo:b.1≠b.2.1:=by simpa using Oo
  refine xe xV tj BN rfl rfl (key:=mm (gB b)) (fun _=>rfl) ⟨_,rfl⟩ (fun k E=>by obtain⟨x,_,rfl⟩:=aV.1 E;exact⟨_,rfl⟩) (fun O J r=>(hM.rel r oF).2) (fun O J d r hd=>?_);replace V:=V.tr r.cN;replace hM:=hM.rel r oF;replace hd:d=true↔gB b∈(f.bars.take i).map gB:=by
   rw[hd];constructor
   .intro h;obtain⟨x,Y,X⟩:=aV.1 h;exact aV.2 ⟨x,Y,pg X⟩
   .intro h;obtain⟨x,Y,X⟩:=aV.1 h;exact aV.2 ⟨x,Y,congrArg mm X⟩
  cases d
  .have Pn:gB b∉(f.bars.take i).map gB:=fun h=>by have:=hd.2 h;cases this
   refine cD (cE V (pE (iV (rs b.2.2))) (fun O J r=>(FI (oS U r) (hF.v.cK (kS V r U)) (fP.zero (S:=S)).v).mono fun _ _ ⟨v2,e1,e2,e3⟩=>⟨v2,e1,e2,by rw[e3,pf]⟩) ?_);rintro O _ _ _ OW r R V h_ rfl;replace hM:=hM.cH r oF R (mC h_);obtain⟨cf,hcf⟩:=exq (rs b.2.2);rw[hcf];apply bS<;>intro Ot
   .have Ot:b.2.2<=0:=by have:=aE Ot;rw[<-Rat.not_lt,<-nt];omega
    exact rtn V fun GT we re=>by show iV _=_;rw[eJ,aF be,aF (by rw[hE];decide),aH (by rw[OS,cJ G (show eu f.nodes.length (f.bars.take i) b=2 by rw[eu,aH ⟨OM,OG⟩,aF Oo,aF Pn,aH Ot]) bi];decide),OS,cJ G (show eu f.nodes.length (f.bars.take i) b=2 by rw[eu,aH ⟨OM,OG⟩,aF Oo,aF Pn,aH Ot]) bi]
   .have Ot:0<b.2.2:=by have:=aC Ot;rw[<-nt];omega
    refine qd xV tj rfl rfl (key:=mm (gB b)) (fun _=>rfl) rfl ⟨_,rfl⟩ (fun k E=>by obtain⟨x,_,rfl⟩:=aV.1 E;exact⟨_,rfl⟩) (fun h=>by
     obtain⟨x,Y,X⟩:=aV.1 h
     exact Pn (aV.2 ⟨x,Y,pg X⟩)) (fun O J r=>⟨(hM.rel r oF).2,Rel.not r oF hM.1⟩) (fun O wa wb r hM2 F Oj=>?_)
    replace V:=(V.tr r.cN).tr (jv.grown F (fun x e=>by injection e with e;subst e;exact hM.1.elim (fun h=>h.elim) fun h=>h.1) r.cR);rw[show ((f.bars.take i).map fun b=>mm (gB b))++[mm (gB b)]=(f.bars.take (i+1)).map fun b=>mm (gB b) by rw[aY,G];simp]at hM2;replace hM:xC wb (Cf w OW) gm ((f.bars.take (i+1)).map fun b=>mm (gB b)):=⟨hM.1,hM2⟩
    rw[dH G (qP.2 ⟨⟨OM,OG⟩,Oo,Pn,Ot⟩)]at OS;refine inc i ?_;intro IR w6 A;exact⟨(i+1,w6,_),⟨Ny,V.tr A.cN,OS,hM.rel A oF⟩,sbgn [] A,dec Ny⟩
  .have hd:=hd.1 rfl;exact rtn V fun GT we re=>by show iV _=_;rw[eJ,aF be,aF (by rw[hE];decide),aH (by rw[OS,cJ G (show eu f.nodes.length (f.bars.take i) b=5 by rw[eu,aH ⟨OM,OG⟩,aF Oo,aH hd]) bi];decide),OS,cJ G (show eu f.nodes.length (f.bars.take i) b=5 by rw[eu,aH ⟨OM,OG⟩,aF Oo,aH hd]) bi]
 have Ny:=dE D Ny;rw[dy be]at OS;have hE1:=OS;refine vH (fun O wa wb r hM0 F Oj=>?_);have PA:=(V.tr r.cN).tr (jv.grown F (fun x e=>by cases e) r.cR);have hB:w.heap.size<=wa.heap.size:=r.cR;have hM:xC wb (Cf w ((wa.heap.size,wa.heap.size+1)::iv)) wa.heap.size []:=⟨.inr ⟨hB,_,_,aI,lr,cB _⟩,hM0⟩
 generalize (wa.heap.size,wa.heap.size+1)::iv=OH at*
 obtain⟨gm,hgm⟩:=exq wa.heap.size;rw[hgm]at hM ⊢;have V:=PA
 refine⟨Nat×World×Iv,fun z=>⟨[(1,pP 0 0),(9,.o (.v (.map (some gm)))),(115,sV aq f.cV.length cq),(116,iZ f.cV.length),(117,iN z.1)],[(0,.box T.Frame [.v (.slice an f.nodes.length cn),.v (.slice ab f.bars.length cb),.v (.slice aq f.cV.length cq)])],1,z.2.2,z.2.1⟩,fun z=>f.cV.length-z.1,
  fun z=>z.1<=f.cV.length/\Bq w z.2.1/\cX (jt f.nodes.length) [] f.cV=cX (jt f.nodes.length) (f.cV.take z.1) (f.cV.drop z.1)/\xC z.2.1 (Cf w z.2.2) gm ((f.cV.take z.1).map fun b=>mm (iP b)),?_,?_⟩
 .intro O J A;exact⟨(0,J,OH),⟨aP _,V.tr A.cN,rfl,hM.rel A oF⟩,sbgn [] A⟩
 rintro⟨i,w1,iv⟩ ⟨D,V,OS,hM⟩;dsimp only at D V OS hM ⊢;apply bS<;>intro Ny
 .have Ny:=dL Ny;obtain⟨b,G⟩:=gO f.cV i;obtain⟨adb,L,QB,hF,-,PT⟩:=hf.cV.load bi G;obtain⟨g0,g1,g2,g3,g4,g5,g6,g7,rfl,hF⟩:=hF;refine⟨adb,QB,be,[iV b.1,iV b.2.1,.bool g0,.slice g1 g2 g3,.bool g4,.slice g5 g6 g7],rfl,rdO PT V U,?_⟩;refine cD (cE V (fun _ J v I=>∃d,v= .bool d/\(d=true↔gA f.nodes.length b.1)) (fun O J r=>CM _ J _ _ _ _ _ _ _ _ _) ?_);rintro O _ _ _ OK r R V h_ ⟨d0,rfl,OM⟩;replace hM:=hM.cH r oF R (mC h_)
  cases d0
  .have OM:¬gA f.nodes.length b.1:=fun h=>by have:=OM.2 h;cases this
   exact rtn V fun GT we re=>by show iV _=_;rw[eJ,aF be,aF (by rw[hE];decide),aF (by rw[hE1];decide),OS,cJ G (show jt f.nodes.length (f.cV.take i) b=6 by rw[jt,aF OM]) bi]
  replace OM:=OM.1 rfl;apply bS<;>intro Qe
  .have Qe:=aE Qe;exact rtn V fun GT we re=>by show iV _=_;rw[eJ,aF be,aF (by rw[hE];decide),aF (by rw[hE1];decide),OS,cJ G (show jt f.nodes.length (f.cV.take i) b=2 by rw[jt,aH OM,aF (fun h=>be)]) bi]
  have Qe:=aC Qe;apply bS<;>intro QH
  .have QH:=aE QH;exact rtn V fun GT we re=>by show iV _=_;rw[eJ,aF be,aF (by rw[hE];decide),aF (by rw[hE1];decide),OS,cJ G (show jt f.nodes.length (f.cV.take i) b=2 by rw[jt,aH OM,aF (fun h=>be)]) bi]
  have QH:=aC QH;have Od:0<=b.2.1/\b.2.1<=2:=by omega
  refine xe xV tj BN rfl rfl (key:=mm (iP b)) (fun _=>rfl) ⟨_,rfl⟩ (fun k E=>by obtain⟨x,_,rfl⟩:=aV.1 E;exact⟨_,rfl⟩) (fun O J r=>(hM.rel r oF).2) (fun O J d r hd=>?_);replace V:=V.tr r.cN;replace hM:=hM.rel r oF;replace hd:d=true↔iP b∈(f.cV.take i).map iP:=by
   rw[hd];constructor
   .intro h;obtain⟨x,Y,X⟩:=aV.1 h;exact aV.2 ⟨x,Y,pg X⟩
   .intro h;obtain⟨x,Y,X⟩:=aV.1 h;exact aV.2 ⟨x,Y,congrArg mm X⟩
  cases d
  .have Pn:iP b∉(f.cV.take i).map iP:=fun h=>by have:=hd.2 h;cases this
   refine cD (cE V (pE (iV (rs b.2.2))) (fun O J r=>(FI (oS U r) (hF.v.cK (kS V r U)) (fP.zero (S:=S)).v).mono fun _ _ ⟨v2,e1,e2,e3⟩=>⟨v2,e1,e2,by rw[e3,pf]⟩) ?_);rintro O _ _ _ OH r R V h_ rfl;replace hM:=hM.cH r oF R (mC h_);obtain⟨cf,hcf⟩:=exq (rs b.2.2);rw[hcf];apply bS<;>intro Ot
   .have Ot:b.2.2<0:=by have:=aE Ot;rw[<-lD];omega
    exact rtn V fun GT we re=>by show iV _=_;rw[eJ,aF be,aF (by rw[hE];decide),aF (by rw[hE1];decide),OS,cJ G (show jt f.nodes.length (f.cV.take i) b=2 by rw[jt,aH OM,aH Od,aF Pn,aH Ot]) bi]
   .have Ot:0<=b.2.2:=by have:=aC Ot;rw[<-Rat.not_lt,<-lD];omega
    refine qd xV tj rfl rfl (key:=mm (iP b)) (fun _=>rfl) rfl ⟨_,rfl⟩ (fun k E=>by obtain⟨x,_,rfl⟩:=aV.1 E;exact⟨_,rfl⟩) (fun h=>by
     obtain⟨x,Y,X⟩:=aV.1 h
     exact Pn (aV.2 ⟨x,Y,pg X⟩)) (fun O J r=>⟨(hM.rel r oF).2,Rel.not r oF hM.1⟩) (fun O wa wb r hM2 F Oj=>?_)
    replace V:=(V.tr r.cN).tr (jv.grown F (fun x e=>by injection e with e;subst e;exact hM.1.elim (fun h=>h.elim) fun h=>h.1) r.cR);rw[show ((f.cV.take i).map fun b=>mm (iP b))++[mm (iP b)]=(f.cV.take (i+1)).map fun b=>mm (iP b) by rw[aY,G];simp]at hM2;replace hM:xC wb (Cf w OH) gm ((f.cV.take (i+1)).map fun b=>mm (iP b)):=⟨hM.1,hM2⟩
    rw[dH G (qO.2 ⟨OM,Od,Pn,Ot⟩)]at OS;refine inc i ?_;intro IR w6 A;exact⟨(i+1,w6,_),⟨Ny,V.tr A.cN,OS,hM.rel A oF⟩,sbgn [] A,dec Ny⟩
  .have hd:=hd.1 rfl;exact rtn V fun GT we re=>by show iV _=_;rw[eJ,aF be,aF (by rw[hE];decide),aF (by rw[hE1];decide),OS,cJ G (show jt f.nodes.length (f.cV.take i) b=5 by rw[jt,aH OM,aH Od,aH hd]) bi]
 have Ny:=dE D Ny;rw[dy be]at OS;exact rtn V fun GT we re=>by show iV _=_;rw[eJ,aF be,aF (by rw[hE];decide),aF (by rw[hE1];decide),OS]
theorem ph(U:Old S w)(hf:dq w S vn vb vs f)(hl:cU w S vl l):eC PG Fn.kr #[.agg #[vn,vb,vs],vl] w (eI w fun v' _=>v'=iV (kH f l)):=by
 have V:=bR w;obtain⟨an,cn,ab,cb,aq,cq,rfl,rfl,rfl,RH,Rh,Si⟩:=hf.shape;obtain⟨al,cl,rfl,OR,Qo⟩:=hl.shape;refine oW bv ?_;refine cD (cE V (pE (iV (eJ f))) (fun O J r=>tk (oS U r) (hf.cK (kS V r U))) ?_);rintro O _ _ _ OK r R V h_ rfl;obtain⟨c,hc⟩:=exq (eJ f);rw[hc];apply bS<;>intro hd
 .have hd:c≠0:=by simpa using hd
  exact rtn V fun GT we re=>by show iV _=_;rw[kH,aH (by rw[hc];exact hd),hc]
 have hd:c=0:=by simpa using hd
 refine cD (cE V (pE (iV (jH f.nodes.length l))) (fun O J r=>qz (oS U r) (hl.cK (kS V r U))) ?_);rintro O _ _ _ OH r R V h_ rfl;exact rtn V fun GT we re=>by show iV _=_;rw[kH,aF (by rw[hc,hd];decide)]
structure Calm(f:fc)(h:Nat):Prop where
 ok:wG f
 c0:0<f.cols
 b2:CI (cQ f) f.cols h
 a2:Ht (dJ (cQ f) f.cols).1 h
 st:kO (cQ f) f.cols=[]
 hh:3*h<=90000
structure aAI(f:fc)(l:List Ld)(h:Nat)(x:List Rat):Prop where
 ok:zT f.nodes.length l
 b1:CI (j3 (cQ f) (dV (j0 f l) (-1))) (f.cols+1) h
 x:nM (cQ f) (dV (j0 f l) (-1)) f.cols=some x
theorem wH(f:fc)(l:List Ld):(j0 f l).length=3*f.nodes.length:=by rw[j0,dx,aM,nm]
theorem jX(a b:List Rat):(fD a b).length=a.length:=List.length_mapIdx ..
theorem M0{r s n:Nat}(Y:r*r<=n)(X:n<(r+1)*(r+1))(N:s*s<=n)(h4:n<(s+1)*(s+1)):r=s:=by
 rcases bw r s with h|h|h
 .have:=Nat.mul_le_mul (show r+1<=s from h) (show r+1<=s from h);omega
 .exact h
 .have:=Nat.mul_le_mul (show s+1<=r from h) (show s+1<=r from h);omega
theorem LF(n:Nat)(w:World)(Z:n<4000000004000000001):eC PG Fn.tL #[iV n] w (eI w fun v' _=>∃r:Nat,v'=iV r/\r*r<=n/\n<(r+1)*(r+1)):=by
 have V:=bR w;refine wv bv ?_
 refine⟨Nat×Int×World,fun z=>⟨[(0,iZ n),(3,iN z.1),(4,iZ z.2.1)],[],0,[],z.2.2⟩,fun z=>(z.2.1-z.1).toNat,
  fun z=>(z.1:Int)<=z.2.1/\z.2.1<=2000000000/\Bq w z.2.2/\z.1*z.1<=n/\(n:Int)<(z.2.1+1)*(z.2.1+1),?_,?_⟩
 .intro O J A;exact⟨(0,2000000000,J),⟨bv,bv,V.tr A.cN,bv,by dsimp only;omega⟩,sbgn [] A⟩
 rintro⟨lo,D,w1⟩ ⟨hlh,Rx,V,R0,PV⟩;dsimp only at hlh Rx V R0 PV ⊢;obtain⟨D,rfl⟩:=Int.eq_ofNat_of_zero_le (show 0<=D by omega);replace PV:n<(D+1)*(D+1):=by
  have h:((D:Int)+1)*((D:Int)+1)=(((D+1)*(D+1):Nat):Int):=by push_cast;rfl
  rw[h]at PV;omega
 apply bS<;>intro Ny
 .have Ny:=dL Ny;obtain⟨m,hm⟩:=exq ((lo+D+1) / 2);have SB:lo<m:=by omega
  have VH:m<=D:=by omega
  have Rc:m*m<=2000000000*2000000000:=Nat.mul_le_mul be be;refine⟨((lo+D:Nat):Int),wo,((lo+D+1:Nat):Int),wo,bi,(m:Int),by rw[show ((lo+D+1:Nat):Int).tdiv 2=(((lo+D+1) / 2:Nat):Int)from rfl,hm,wrap64]<;>omega,((m*m:Nat):Int),by rw[wrap64]<;>push_cast<;>first|rfl|omega,?_⟩;apply bS<;>intro hd
  .have hd:m*m<=n:=by have:=aE hd;omega
   intro IR w6 A;exact⟨(m,D,w6),⟨by dsimp only;omega,Rx,V.tr A.cN,hd,by dsimp only;rw[show ((D:Int)+1)*((D:Int)+1)=(((D+1)*(D+1):Nat):Int) by push_cast;rfl];omega⟩,sbgn [] A,by dsimp only;omega⟩
  .have hd:n<m*m:=by have:=aC hd;omega
   have hu3:(lo:Int)<=((m-1:Nat):Int):=by omega
   have hu4:((m-1:Nat):Int)<=2000000000:=by omega
   have UU:(n:Int)<(((m-1:Nat):Int)+1)*(((m-1:Nat):Int)+1):=by rw[show ((m-1:Nat):Int)+1=m by omega];exact_mod_cast hd
   refine⟨((m-1:Nat):Int),wo,?_⟩;intro IR w6 A;exact⟨(lo,((m-1:Nat):Int),w6),⟨hu3,hu4,V.tr A.cN,R0,UU⟩,sbgn [] A,by dsimp only;omega⟩
 have Ny:lo=D:=by have:=aC Ny;omega
 subst Ny;exact rtn V fun GT we re=>⟨_,rfl,R0,PV⟩
theorem LG(n:Int)(w:World):eC PG Fn.jo #[iV n] w (eI w fun v' _=>∃d,v'= .bool d/\(d=true↔0<=n/\n<=1000000)):=by
 have V:=bR w;refine mi bv ?_;apply bS<;>intro Y
 .intro GT we re;have Y:=aE Y;exact⟨_,rfl,V.tr re.cN,_,rfl,by rw[decide_eq_true_iff];exact⟨fun h=>⟨Y,h⟩,fun h=>h.2⟩⟩
 .intro GT we re;have Y:=aC Y;exact⟨_,rfl,V.tr re.cN,_,rfl,(fun h=>by cases h),fun h=>absurd h.1 Y⟩
theorem Ji(sq st:Nat)(w:World)(h0:0<sq)(Y:st<=1000000):eC PG Fn.qo #[iV sq,iV st] w (eI w fun v' I=>∃r:Nat,r*r<=st*st*1000*1000 / sq/\st*st*1000*1000 / sq<(r+1)*(r+1)/\cY I (Nf w I) v' (Rat.divInt r 1000)):=by
 have V:=bR w;have X:st*st<=1000000*1000000:=Nat.mul_le_mul Y Y;have h4:st*st*1000*1000 / sq<=st*st*1000*1000:=Nat.div_le_self _ _;obtain⟨m,hm⟩:=exq (st*st*1000*1000 / sq);refine uh bv ?_;refine⟨((st*st:Nat):Int),by rw[wrap64]<;>push_cast<;>first|rfl|omega,((st*st*1000:Nat):Int),wo,((st*st*1000*1000:Nat):Int),wo,be,(m:Int),by rw[show ((st*st*1000*1000:Nat):Int).tdiv (sq:Int)=((st*st*1000*1000 / sq:Nat):Int)from rfl,hm,wrap64]<;>omega,?_⟩;refine cD (cE V (fun _ J v I=>∃r:Nat,v=iV r/\r*r<=m/\m<(r+1)*(r+1)) (fun O J r=>LF m J be) ?_);rintro O _ _ _ OK r R V h_ ⟨rt,rfl,SA,R1⟩;have hrt:rt<=2000000000:=by
  rcases aR 2000000000 rt with h|h
  .have:=Nat.mul_le_mul h h;omega
  .exact h
 refine cD (cE V (fun _ J v I=>∃r,v= .tuple #[r,iV 0]/\cY I (Nf J I) r (Rat.divInt rt 1000)) (fun O J r=>(FR rt 1000 J be be bi bi).mono fun _ _ ⟨v2,e1,e2,e3⟩=>⟨v2,e1,e2,e3.elim (fun k=>absurd k.1 bi) fun h=>h.2⟩) ?_);rintro O _ _ _ OH r R V h_ ⟨q1,rfl,k1⟩;have hd:=k1.cF (nw r h_);obtain⟨s2_0a,s2_0b,s2_0c,s2_0d,s2_0e,s2_0f,s2_0g,s2_0h,rfl⟩:=hd.shape;exact rtn V fun GT we re=>⟨rt,hm▸SA,hm▸R1,hd.out re oF⟩
theorem FT(sq st:Nat)(w:World)(h0:0<sq)(X:sq<=20000000000000)(Y:st<=1000000):eC PG Fn.ql #[iV sq,iV st] w (eI w fun v' I=>∃vr,∃r:Nat,v'= .tuple #[vr,iV 0]/\r*r<=st*st*1000*1000 / sq/\st*st*1000*1000 / sq<(r+1)*(r+1)/\cY I (Nf w I) vr (Rat.divInt r 1000)):=by
 have V:=bR w;refine ud bv ?_;refine vF.mk (fun k1=>absurd (aE k1) be) (fun _=>?_);refine vF.mk (fun k1=>absurd (aE k1) be) (fun _=>?_);refine cD (cE V (pE (.bool true)) (fun O J r=>(LG st J).mono fun _ _ ⟨v2,e1,e2,d,e3,e4⟩=>⟨v2,e1,e2,by rw[e3,e4.2 ⟨be,be⟩]⟩) ?_);rintro O _ _ _ OK r R V h_ rfl;refine cD (cE V (fun _ J v I=>∃r:Nat,r*r<=st*st*1000*1000 / sq/\st*st*1000*1000 / sq<(r+1)*(r+1)/\cY I (Nf J I) v (Rat.divInt r 1000)) (fun O J r=>Ji sq st J h0 Y) ?_);rintro O _ _ _ OH r R V h_ ⟨rt,SA,R1,k1⟩;have hd:=k1.cF (nw r h_);obtain⟨s2_0a,s2_0b,s2_0c,s2_0d,s2_0e,s2_0f,s2_0g,s2_0h,rfl⟩:=hd.shape;exact rtn V fun GT we re=>⟨_,rt,rfl,SA,R1,hd.out re oF⟩
set_option maxRecDepth 100000
def NF(m:Nat):List Value:=[iV ((m / 3:Nat):Int),iV ((m % 3:Nat):Int),.bool false,nls,.bool false,nls]
def rA(m:Nat):List (List Value):=(List.range m).map NF
theorem FU{k:Nat}(E:k<3):(rA (3*i+k)).flatten++[iV (i:Int),iV (k:Int),.bool false,nls,.bool false,nls]=(rA (3*i+(k+1))).flatten:=by
 rw[rA,rA,<-Nat.add_assoc,bZ,aU,List.flatten_append];simp only[List.map_cons,List.map_nil,NF,show(3*i+k) / 3=i by omega,show(3*i+k) % 3=k by omega]
 simp
theorem Hm(m:Nat):(rA m).length=m:=by rw[rA,aM,List.length_range]
theorem Hn(m:Nat):∀L∈rA m,L.length=6:=fun L hc=>by
 obtain⟨j,_,rfl⟩:=aV.1 hc;rfl
theorem fP.zeroV:fP w S (.agg #[.bool false,nls,.bool false,nls]) 0:=fP.zero
theorem ux(w:World):eC PG Fn.qj #[] w (eI w fun v' I=>∃vn vb vs,v'= .agg #[vn,vb,vs]/\dq I (Nf w I) vn vb vs fJ):=by
 have V:=bR w;refine ub bv ?_;refine cD (cE V (pR cY ((1:Int):Rat)) (fun O J r=>zU 1 J bi) ?_);rintro O _ _ _ OK r R V h_ Z;have hd:=Z.cF (nw r h_);obtain⟨A0,A1,A2,A3,A4,A5,A6,A7,rfl⟩:=hd.shape;conv=>whnf
 refine⟨Nat×World,fun z=>⟨[(0,pP 0 0),(2,pP 4 0),(3,iN z.1)],[(5,.vec T.xR 6 (rA (3*z.1)).flatten),(4,.box T.Frame [.s 2 0 3 3,.s 3 0 2 2,.w 5 (3*z.1)]),(3,.box T.NS [.v (iV 0),.v (iV 2),.v (.bool A0),.v (.slice A1 A2 A3),.v (.bool A4),.v (.slice A5 A6 A7),.v (iV 1),.v (iV 2),.v (.bool A0),.v (.slice A1 A2 A3),.v (.bool A4),.v (.slice A5 A6 A7)]),(2,.box T.Node [.v (iV 0),.v (iV 0),.v (iV 0),.v (iV 0),.v (iV 0),.v (iV 4),.v (iV 3),.v (iV 0),.v (iV 0)]),(0,.box T.Frame [.v nls,.v nls,.v nls])],6,OK,z.2⟩,fun z=>2-z.1,
  fun z=>z.1<=2/\Bq w z.2/\cY z.2 (Cf w OK) (.agg #[.bool A0,.slice A1 A2 A3,.bool A4,.slice A5 A6 A7]) ((1:Int):Rat),?_,?_⟩
 .intro O J r;exact⟨(0,J),⟨aP _,V.tr r.cN,hd.rel r oF⟩,Sub.AM 4 2 T.xR 6 rfl rfl (by simp[kL,SV.sc,At.sc,fp]) r fun Id r1=>sbgn [] r1⟩
 rintro⟨i,w1⟩ ⟨D,V,hd⟩;dsimp only at D V hd ⊢;conv=>whnf
 apply bS<;>intro Ny
 .have Ny:i<2:=by have:=aE Ny;omega
  refine⟨Nat×World,fun z=>⟨[(0,pP 0 0),(2,pP 4 0),(3,iN i),(4,iN z.1)],[(5,.vec T.xR 6 (rA (3*i+z.1)).flatten),(4,.box T.Frame [.s 2 0 3 3,.s 3 0 2 2,.w 5 (3*i+z.1)]),(3,.box T.NS [.v (iV 0),.v (iV 2),.v (.bool A0),.v (.slice A1 A2 A3),.v (.bool A4),.v (.slice A5 A6 A7),.v (iV 1),.v (iV 2),.v (.bool A0),.v (.slice A1 A2 A3),.v (.bool A4),.v (.slice A5 A6 A7)]),(2,.box T.Node [.v (iV 0),.v (iV 0),.v (iV 0),.v (iV 0),.v (iV 0),.v (iV 4),.v (iV 3),.v (iV 0),.v (iV 0)]),(0,.box T.Frame [.v nls,.v nls,.v nls])],6,OK,z.2⟩,fun z=>3-z.1,
   fun z=>z.1<=3/\Bq w z.2/\cY z.2 (Cf w OK) (.agg #[.bool A0,.slice A1 A2 A3,.bool A4,.slice A5 A6 A7]) ((1:Int):Rat),?_,?_⟩
  .intro O J A;exact⟨(0,J),⟨aP _,V.tr A.cN,hd.rel A oF⟩,sbgn [] A⟩
  rintro⟨k,w3⟩ ⟨E,V,hd⟩;dsimp only at E V hd ⊢;apply bS<;>intro OA
  .have OA:k<3:=by have:=aE OA;omega
   have hs:=FU (i:=i) OA;have OL:=ed (Hn (3*i+k));have RZ:=Hm (3*i+k);refine .inl ?_;refine⟨be,be,mx,((k+1:Nat):Int),wo,?_⟩;intro IR w6 A;exact⟨(k+1,w6),⟨OA,V.tr A.cN,hd.rel A oF⟩,sbgn [(5,7)] A ⟨by dsimp only;rw[<-hs];rfl,rfl,rfl,rfl,rfl,trivial⟩,dec OA⟩
  have OA:k=3:=by have:=aC OA;omega
  subst OA;refine inc i ?_;intro IR w6 A;exact⟨(i+1,w6),⟨Ny,V.tr A.cN,hd.rel A oF⟩,sbgn [] A,dec Ny⟩
 have Ny:i=2:=by have:=aC Ny;omega
 subst Ny;refine .inl ?_;refine⟨bi,bi,bi,?_⟩;intro GT we re;have hN:∀{id:Nat} {bk:j1},cw _ id=some bk->(GT id).nil=false->Nf w we (GT id).g:=fun h Z=>by
  obtain⟨Y,X⟩:=re.low _ _ h Z;exact .inr ⟨Y,X⟩
 have hR:=hd.out re oF;have hL:fP we (Nf w we) (.agg #[.bool A0,.slice A1 A2 A3,.bool A4,.slice A5 A6 A7]) 1:=hR.l bi;refine⟨_,rfl,V.tr re.cN,_,_,_,rfl,?_,?_,?_⟩
 .refine⟨[[iV 0,iV 0,iV 0],[iV 0,iV 0,iV 4],[iV 3,iV 0,iV 0]],(re.mO (id:=2) (sz:=3) (n:=3) rfl rfl bi (by repeat' first|refine List.forall_mem_cons.2 ⟨rfl,?_⟩|exact fun u hu=>absurd hu List.not_mem_nil)).cF fun g F=>by subst F;exact hN (id:=2) rfl (re.nn 2 _ rfl (by intros;simp) bv),rfl,bv,fun j L x Y X=>?_⟩;rcases j with _|_|_|j
  .cases Y;cases X;rfl
  .cases Y;cases X;rfl
  .cases Y;cases X;rfl
  .cases X
 .refine⟨[[iV 0,iV 2,.bool A0,.slice A1 A2 A3,.bool A4,.slice A5 A6 A7],[iV 1,iV 2,.bool A0,.slice A1 A2 A3,.bool A4,.slice A5 A6 A7]],(re.mO (id:=3) (sz:=6) (n:=2) rfl rfl bi (by repeat' first|refine List.forall_mem_cons.2 ⟨rfl,?_⟩|exact fun u hu=>absurd hu List.not_mem_nil)).cF fun g F=>by subst F;exact hN (id:=3) rfl (re.nn 3 _ rfl (by intros;simp) bv),rfl,bv,fun j L x Y X=>?_⟩;rcases j with _|_|j
  .cases Y;cases X;exact⟨_,_,_,_,_,_,_,_,rfl,hL⟩
  .cases Y;cases X;exact⟨_,_,_,_,_,_,_,_,rfl,hL⟩
  .cases X
 .refine⟨rA 6++[[iV 2,iV 1,.bool false,nls,.bool false,nls]],?_,rfl,bi,fun j L x Y X=>?_⟩
  .have h5:=re.iq (id:=7) (sz:=6) (m:=7) rfl bi bi bi bi;rw[List.flatten_append];exact h5.cF fun g F=>.inr F
  .rcases j with _|_|_|_|_|_|_|j
   .cases Y;cases X;exact⟨_,_,_,_,_,_,_,_,rfl,fP.zeroV⟩
   .cases Y;cases X;exact⟨_,_,_,_,_,_,_,_,rfl,fP.zeroV⟩
   .cases Y;cases X;exact⟨_,_,_,_,_,_,_,_,rfl,fP.zeroV⟩
   .cases Y;cases X;exact⟨_,_,_,_,_,_,_,_,rfl,fP.zeroV⟩
   .cases Y;cases X;exact⟨_,_,_,_,_,_,_,_,rfl,fP.zeroV⟩
   .cases Y;cases X;exact⟨_,_,_,_,_,_,_,_,rfl,fP.zeroV⟩
   .cases Y;cases X;exact⟨_,_,_,_,_,_,_,_,rfl,fP.zeroV⟩
   .cases X
structure ek(w:World)(S:Nat->Prop)(W:List (List Value))(qs:List Rat):Prop where
 len:W.length=qs.length
 four:∀L∈W,L.length=4
 at_:∀(j:Nat) L q,W[j]? =some L->qs[j]? =some q->jV w S L q
section
variable{S S':Nat->Prop}{H:Hp}{nx:Nat}{iv K:Iv}{B:Nat}{w J I:World}{O:Nat->Sx.da}{W:List (List Value)}{qs:List Rat}
theorem ek.nil:ek w S [] []:=⟨rfl,fun _ h=>(by cases h),fun _ _ _ h=>by cases h⟩
theorem ek.cK(h:ek w S W qs)(E:∀g,S g->I.heap[g]? =w.heap[g]?):ek I S W qs:=⟨h.len,h.four,fun j L q Y X=>by
 obtain⟨b,a,n,c,b2,a2,n2,c2,e,hr⟩:=h.at_ j L q Y X
 exact⟨b,a,n,c,b2,a2,n2,c2,e,hr.cK E⟩⟩
theorem ek.cF(h:ek w S W qs)(E:∀g,S g->S' g):ek w S' W qs:=⟨h.len,h.four,fun j L q Y X=>by
 obtain⟨b,a,n,c,b2,a2,n2,c2,e,hr⟩:=h.at_ j L q Y X
 exact⟨b,a,n,c,b2,a2,n2,c2,e,hr.cF E⟩⟩
theorem ek.rel(h:ek w (Cv S B iv) W qs)(r:Rel H nx iv B w O J)(U:∀g,S g->g<B):ek J (Cv S B iv) W qs:=h.cK fun _ F=>rls r U F
theorem ek.cH(h:ek w (Cv S B iv) W qs)(r:Rel H nx iv B w O J)(U:∀g,S g->g<B)(R:Ext J I)(hm:∀p,p∈iv->p∈K):ek I (Cv S B K) W qs:=
 ((h.rel r U).cK fun g F=>R.block g (rlo r U g F)).cF fun _ F=>F.mono hm
theorem ek.push{L:List Value}{q:Rat}(h:ek w S W qs)(hc:jV w S L q)(h4:L.length=4):ek w S (W++[L]) (qs++[q]):=by
 refine⟨by simp[h.len],fun x G=>?_,fun j x p Y X=>?_⟩
 .rcases bV.1 G with G|G
  .exact h.four x G
  .rw[bJ.1 G];exact h4
 .rcases aR j W.length with D|D
  .rw[aK D]at Y;rw[aK (by rw[<-h.len];exact D)]at X;exact h.at_ j x p Y X
  .have Qu:j=W.length:=by have:=(aD.1 Y).1;simp at this;omega
   subst Qu;rw[aQ lr,bP]at Y;rw[h.len,aQ lr,bP]at X;simp at Y X;subst Y X;exact hc
theorem ek.one(h:ek w S W qs):∀u∈W.flatten,u.oneCell'=true:=fun u hu=>by
 obtain⟨L,hc,hu⟩:=List.mem_flatten.1 hu;obtain⟨j,hj⟩:=aT hc;obtain⟨_,_,_,_,_,_,_,_,rfl,_⟩:=h.at_ j L _ hj (aB (by rw[<-h.len];exact(aD.1 hj).1));simp at hu;rcases hu with rfl|rfl|rfl|rfl<;>rfl
theorem ek.sD(h:ek w (Cv FF B iv) W qs)(r:Rel H nx iv B w O J)(Oh:cw H id=some (.vec T.Rat 4 W.flatten))(h0:0<W.length)(hm:W.length<=maxLen):
  eA J FF B [(B,J.heap.size)] ((SV.o (.w id W.length)).den O) W.length qs:=by
 have X:=h.rel r (iH B);obtain⟨k1,k2,k3,k4⟩:=NC r Oh rfl h0 hm ⟨X.len,X.at_⟩;have R6:(SV.o (.w id W.length)).den O= .slice (some ⟨(O id).g,0,none⟩) W.length (O id).cap:=by simp[SV.den,At.den,k1]
 rw[R6];have key:∀g,Cv FF B iv g->Cv FF B [(B,J.heap.size)] g:=fun g F=>
  .inr ⟨F.elim (fun h=>h.elim) fun h=>h.1,B,J.heap.size,bJ.2 rfl,F.elim (fun h=>h.elim) fun h=>h.1,rlo r (iH B) g F⟩
 refine⟨k4.cF fun g F=>⟨key g F,fun e=>?_⟩,fun g F=>?_⟩
 .injection e with e;exact Rel.not r (iH B) F id _ Oh k1 e
 .injection F with F;subst F;have:=(r.low id _ Oh k1).2;exact .inr ⟨k2,B,J.heap.size,bJ.2 rfl,k2,this⟩
theorem ek.list(h:ek w S W qs)(hs:jW w S 4 v W.flatten W.length):cP w S v qs:=⟨W,h.len▸hs,h.len,h.four,h.at_⟩
end
theorem EB{l:List Int}(U:Old S w)(hl:tf w S v l)(hl0:0<l.length)(Ps:l.length<=1000)(hb:∀z∈l,z.natAbs<1073741824):
  eC PG Fn.tC #[v] w (eI w fun v' I=>eA I FF w.heap.size [(w.heap.size,I.heap.size)] v' l.length (dx l)):=by
 have V:=bR w;obtain⟨al,cl,rfl,OR,Qo⟩:=hl.shape;unfold maxLen at Qo;refine wW bv ?_
 refine⟨Nat×List (List Value)×World×Iv,fun z=>⟨[(0,sV al l.length cl),(3,.o (.w 0 z.2.1.length)),(4,iN z.1)],[(0,.vec T.Rat 4 z.2.1.flatten)],1,z.2.2.2,z.2.2.1⟩,fun z=>l.length-z.1,
  fun z=>z.1<=l.length/\Bq w z.2.2.1/\ek z.2.2.1 (Cf w z.2.2.2) z.2.1 (dx (l.take z.1)),?_,?_⟩
 .intro O J r;exact⟨(0,[],J,[]),⟨aP _,V.tr r.cN,ek.nil⟩,Sub.nil 3 T.Rat 4 rfl (by simp[kL,SV.sc,At.sc,fp]) r fun Id r1=>sbgn [] r1⟩
 rintro⟨i,W,w1,iv⟩ ⟨D,V,hG⟩;dsimp only at D V hG ⊢;have OL:=gW hG.four;have hcl2:W.length=i:=by rw[hG.len,dx,aM,aZ];omega
 apply bS<;>intro Ny
 .have Ny:=dL Ny;obtain⟨z,hz⟩:=gO l i;have SS:=hb z (aG hz);have PI:dx (l.take (i+1))=dx (l.take i)++[(z:Rat)]:=by rw[dx,aY,hz,aU];rfl
  obtain⟨adx,Od,hSx,OZ⟩:=tf.at hl hz;refine⟨adx,Od,be,iV z,rd1 OZ V (U _ hSx),?_⟩;refine cD (cE V (pR cY (z:Rat)) (fun O J r=>zU z J be) ?_);rintro O _ _ _ OK r R V h_ Z;replace hG:=hG.cH r oF R (mC h_);have hd:=Z.cF (nw r h_);obtain⟨A0,A1,A2,A3,A4,A5,A6,A7,rfl⟩:=hd.shape;have PF:=hG.push (L:=rC A0 A1 A2 A3 A4 A5 A6 A7) (q:=(z:Rat)) ⟨_,_,_,_,_,_,_,_,rfl,hd⟩ rfl;rw[<-PI]at PF;have OV:W.flatten++(rC A0 A1 A2 A3 A4 A5 A6 A7:List Value)=(W++([rC A0 A1 A2 A3 A4 A5 A6 A7]:List (List Value))).flatten:=by simp
  refine .inl ?_;refine⟨be,be,mx,((i+1:Nat):Int),wo,?_⟩;intro IR w3 A;exact⟨(i+1,W++[rC A0 A1 A2 A3 A4 A5 A6 A7],w3,_),⟨Ny,V.tr A.cN,PF.rel A oF⟩,sbgn [(0,2)] A ⟨by dsimp only;rw[<-OV];rfl,trivial⟩ ⟨rfl,by dsimp only;rw[l1];rfl,rfl,trivial⟩,dec Ny⟩
 have Ny:=dE D Ny;subst Ny;rw[bG]at hG;intro GT we re;refine⟨_,rfl,V.tr re.cN,?_⟩;have h5:=hG.sD re (id:=0) rfl be mx;have h6:W.length=l.length:=hcl2;rw[<-h6];exact h5
theorem dq.iR{J I:World}(h:dq I (Nf J I) vn vb vs f)(hB:B<=J.heap.size)(hm:(J.heap.size,I.heap.size)∈iv):dq I (Cv FF B iv) vn vb vs f:=h.cF fun _ F=>F.iR hB hm
abbrev FV(a b c:Int):Value:=.agg #[iV a,iV b,iV c]
theorem M4(p0 p1 p2 q0 q1 q2:Int)(w:World):(Op.equal T.yf (FV p0 p1 p2) (FV q0 q1 q2)).run PG w= .ok (decide (p0=q0/\p1=q1/\p2=q2)) w:=by
 have h:=run_underlying Tryz.underlying97;simp only[Op.equal,Op.maxDepth]
 unfold Op.equalIn;have a0:=eB (L:= #[iV p0,iV p1,iV p2]) (j:=0) rfl;have a1:=eB (L:= #[iV p0,iV p1,iV p2]) (j:=1) rfl;have a2:=eB (L:= #[iV p0,iV p1,iV p2]) (j:=2) rfl;have b0:=eB (L:= #[iV q0,iV q1,iV q2]) (j:=0) rfl;have b1:=eB (L:= #[iV q0,iV q1,iV q2]) (j:=1) rfl;have b2:=eB (L:= #[iV q0,iV q1,iV q2]) (j:=2) rfl;simp[h,a0,a1,a2,b0,b1,b2,eq_int 9998];by_cases h0:p0=q0
 .by_cases Y:p1=q1
  .by_cases X:p2=q2<;>simp[h0,Y,X]
  .simp[h0,Y]
 .simp[h0]
theorem LH(p0 p1 p2 q0 q1 q2:Int)(w:World)(o1 o2:Operand):(do eqGuard .eql T.yf o1 o2 (FV p0 p1 p2) (FV q0 q1 q2);binOp .eql T.yf (FV p0 p1 p2) (FV q0 q1 q2)).run PG w= .ok (.bool (decide (p0=q0/\p1=q1/\p2=q2))) w:=by
 have h:=M4 p0 p1 p2 q0 q1 q2 w;simp[eqGuard,binOp,h]
theorem Li{J:World}(r:Rel H nx iv B w O J){n:Nat}{l:List Int}(h:cw H id=some (.box T.int (l.map fun z=>At.v (iV z))))(Z:l.length=n)(hm:n<=maxLen):
  tf J (fun g=>g=(O id).g) (.slice (some ⟨(O id).g,0,none⟩) n n) l:=by
 subst Z;have h5:=r.mO (sz:=1) (n:=l.length) h bv hm (fun u hu=>by obtain⟨z,_,rfl⟩:=aV.1 hu;rfl);rw[List.map_map]at h5;exact h5
def Ni(L:List Value):Prop:=∃b a n c b2 a2 n2 c2,L=(rC b a n c b2 a2 n2 c2)
def xD(L:List Value):Prop:=∃b a n c b2 a2 n2 c2,L=(rC b a n c b2 a2 n2 c2)/\n<=3/\n2<=3
theorem M5(a:Addr)(m n:Nat):(a.add m).add n=a.add (m+n):=by
 unfold Addr.add;split<;>split<;>simp_all<;>omega
theorem rdF{w1:World}{x:Value}{ad b a':Addr}(k:S ad.block/\w.cell? b=some x)(V:jv B w w1)(U:∀g,S g->g<B)(ha:a'=b:=by simp only[aJ,Int.toNat_zero,Nat.zero_mul,M5]<;>first|rfl|(congr 1;omega))(hb:b.block=ad.block:=by simp only[eV]):∀(O:Nat->Sx.da) J,Rel H nx iv B w1 O J->J.cell? a'=some x:=fun O J r=>by
 rw[ha,cO (w:=w) (I:=J) (by rw[hb];exact(V.tr r.cN).block _ (U _ k.1))];exact k.2
theorem iC.l3{b1 b2:Bool}{a1 a2:Option Addr}{n1 n2 c1 c2:Nat}{a b:Int}(h:iC w S (.agg #[.bool b1,.slice a1 n1 c1,.bool b2,.slice a2 n2 c2]) a b)(hf:xD (rC b1 a1 n1 c1 b2 a2 n2 c2)):
  fP w S (.agg #[.bool b1,.slice a1 n1 c1,.bool b2,.slice a2 n2 c2]) (ratio a b)/\rl (ratio a b)<=3:=by
 obtain⟨_,_,_,_,_,_,_,_,e,k1,k2⟩:=hf;simp only[List.cons.injEq,Value.slice.injEq,Value.bool.injEq,and_true]at e;obtain⟨rfl,⟨rfl,rfl,rfl⟩,rfl,rfl,rfl,rfl⟩:=e;obtain⟨b1,l1,b2,l2,e,Y,X⟩:=h;simp only[Value.agg.injEq,Array.mk.injEq,List.cons.injEq,Value.bool.injEq,and_true]at e;obtain⟨rfl,rfl,rfl,rfl⟩:=e;have g1:=Y.short k1;have g2:=X.short k2;have r1:=g1.ln;have r2:=g2.ln;have hr:=gn a b;refine⟨⟨_,_,_,_,a,b,rfl,?_,?_,rfl⟩,be⟩
 .obtain⟨ng,ls,i1,i2,i3⟩:=g1;exact⟨ng,ls,i1,i2,be⟩
 .obtain⟨ng,ls,i1,i2,i3⟩:=g2;exact⟨ng,ls,i1,i2,be⟩
theorem Gp(U:Old S w)(hq:jW w S 4 v W.flatten W.length)(hF:∀L∈W,Ni L):
  eC PG Fn.vZ #[v] w (eI w fun v' _=>∃d,v'= .bool d/\(d=true->W.length<=80/\∀L∈W,xD L)):=by
 have V:=bR w;have h4:∀L∈W,L.length=4:=fun L hc=>by obtain⟨_,_,_,_,_,_,_,_,rfl⟩:=hF L hc;rfl
 have hK:dW 4 (fun _ _ L x=>L=x) w S v W:=⟨W,hq,rfl,h4,fun j L x Y X=>by rw[Y]at X;injection X⟩
 obtain⟨a,c,rfl,hc,hm⟩:=hK.shape;unfold maxLen at hm;refine yz bv ?_
 refine⟨Nat×World,fun z=>⟨[(0,sV a W.length c),(3,iN z.1)],[],0,[],z.2⟩,fun z=>W.length-z.1,
  fun z=>z.1<=W.length/\Bq w z.2/\∀j L,j<z.1->W[j]? =some L->xD L,?_,?_⟩
 .intro O J A;exact⟨(0,J),⟨aP _,V.tr A.cN,fun j L hj=>absurd hj (Nat.not_lt_zero j)⟩,sbgn [] A⟩
 rintro⟨i,w1⟩ ⟨D,V,hE⟩;dsimp only at D V hE ⊢;apply bS<;>intro Ny
 .have Ny:=dL Ny;apply bS<;>intro h80
  .have h80:W.length<=80:=by have:=aE h80;omega
   obtain⟨L,Of⟩:=gO W i;obtain⟨g0,g1,g2,g3,g4,g5,g6,g7,rfl⟩:=hF L (aG Of);obtain⟨adx,cs2,Od,Ue,-,Th⟩:=hK.load bi Of;subst Ue;refine⟨adx,Od,be,.slice g1 g2 g3,rdF (Th 1 _ rfl) V U,?_⟩;apply bS<;>intro k3
   .exact rtn V fun GT we re=>⟨_,rfl,fun h=>by cases h⟩
   have k3:=aC k3;refine⟨adx,Od,be,.slice g5 g6 g7,rdF (Th 3 _ rfl) V U,?_⟩;apply bS<;>intro k4
   .exact rtn V fun GT we re=>⟨_,rfl,fun h=>by cases h⟩
   have k4:=aC k4;have OS:∀j L,j<i+1->W[j]? =some L->xD L:=fun j L hj hc=>by
    rcases aR j i with h|h
    .exact hE j L h hc
    .have:j=i:=by omega
     subst this;rw[Of]at hc;injection hc with hc;subst hc;exact⟨_,_,_,_,_,_,_,_,rfl,be,be⟩
   refine inc i ?_;intro IR w6 A;exact⟨(i+1,w6),⟨Ny,V.tr A.cN,OS⟩,sbgn [] A,dec Ny⟩
  .have h80:=aC h80;exact rtn V fun GT we re=>⟨_,rfl,fun h=>by have:=aE h;omega⟩
 have Ny:=dE D Ny;subst Ny;intro GT we re
 exact⟨_,rfl,V.tr re.cN,_,rfl,fun h=>⟨by have:=aE h;omega,fun L hc=>by
  obtain⟨j,hj⟩:=aT hc
  exact hE j L (aD.1 hj).1 hj⟩⟩
end Go.Ex
namespace Go.Ex
theorem aAG{a b x p q:Rat}(Y:a<x)(X:x<=b):(p<=q->p<=p+(x-a) / (b-a)*(q-p)/\p+(x-a) / (b-a)*(q-p)<=q)/\(q<=p->q<=p+(x-a) / (b-a)*(q-p)/\p+(x-a) / (b-a)*(q-p)<=p):=by
 have hd:0<b-a:=by grind
 have D:0<=(b-a)⁻¹:=Rat.le_of_lt (Rat.inv_pos.2 hd);obtain⟨t,ht⟩:∃t,(x-a) / (b-a)=t:=⟨_,rfl⟩
 have t0:0<=t:=by rw[<-ht,bo];exact Rat.mul_nonneg (by grind) D
 have t1:t<=1:=by
  rw[<-ht,bo,<-Rat.mul_inv_cancel (b-a) (by grind)];exact Rat.mul_le_mul_of_nonneg_right (by grind) D
 rw[ht];refine⟨fun h=>?_,fun h=>?_⟩
 .have k1:0<=t*(q-p):=Rat.mul_nonneg t0 (by grind);have k2:t*(q-p)<=1*(q-p):=Rat.mul_le_mul_of_nonneg_right t1 (by grind);grind
 .have k1:0<=t*(p-q):=Rat.mul_nonneg t0 (by grind);have k2:t*(p-q)<=1*(p-q):=Rat.mul_le_mul_of_nonneg_right t1 (by grind);have k3:t*(q-p)= -(t*(p-q)):=by grind
  grind
end Go.Ex
namespace Go.Ex
open Go Go.Sx Go.Proofs
section
variable{p:Int×Int×(Int×Int)}{xs:List (Int×Int×(Int×Int))}{W:List (List Value)}{L:List Value}{S:Nat->Prop}{v vb vn vs:Value}{w:World}
theorem oA(c b:Int×Int×Rat):gB c=gB b↔(c.1=b.1/\c.2.1=b.2.1)\/(c.1=b.2.1/\c.2.1=b.1):=by
 unfold gB;rw[Prod.mk.injEq];omega
theorem CP(c b:Int×Int×Rat):iP c=iP b↔c.1=b.1/\c.2.1=b.2.1:=by
 unfold iP;rw[Prod.mk.injEq]
section
variable{α β:Type}{C9:List α}{F':α->β}{x:β}
theorem lE{k:Nat}{c:α}(hc:C9[k]? =some c)(h:F' c≠x)(hE:x∈C9.map F'↔x∈(C9.drop k).map F'):x∈C9.map F'↔x∈(C9.drop (k+1)).map F':=by
 rw[hE,List.drop_eq_getElem_cons (aD.1 hc).1,(aD.1 hc).2,List.map_cons,List.mem_cons,or_iff_right fun e=>h e.symm]
theorem tn{k:Nat}{c:α}(hc:C9[k]? =some c)(h:F' c=x):x∈C9.map F':=aV.2 ⟨c,aG hc,h⟩
theorem CQ{k:Nat}(E:C9.length<=k)(hE:x∈C9.map F'↔x∈(C9.drop k).map F'):x∉C9.map F':=fun h=>by
 have:=hE.1 h;rw[List.drop_eq_nil_of_le E]at this
 cases this
end
theorem mn(n:Int)(an ab aq:Option Addr)(ln cn nb cb nq cq:Nat)(w:World):eC PG Fn.tE #[.agg #[.slice an ln cn,.slice ab nb cb,.slice aq nq cq],iV n] w (eI w fun v' _=>∃d,v'= .bool d/\(d=true↔gA ln n)):=by
 have V:=bR w;refine wY bv ?_;apply bS<;>intro Y
 .intro GT we re;have Y:=aE Y;exact⟨_,rfl,V.tr re.cN,_,rfl,by rw[decide_eq_true_iff];exact⟨fun h=>⟨Y,h⟩,fun h=>h.2⟩⟩
 .intro GT we re;have Y:=aC Y;exact⟨_,rfl,V.tr re.cN,_,rfl,(fun h=>by cases h),fun h=>absurd h.1 Y⟩
theorem fm(n lo D:Int)(w:World):eC PG Fn.ve #[iV n,iV lo,iV D] w (eI w fun v' _=>∃d,v'= .bool d/\(d=true↔lo<=n/\n<=D)):=by
 have V:=bR w;refine zA bv ?_;apply bS<;>intro Y
 .intro GT we re;have Y:=aE Y;exact⟨_,rfl,V.tr re.cN,_,rfl,by rw[decide_eq_true_iff];exact⟨fun h=>⟨Y,h⟩,fun h=>h.2⟩⟩
 .intro GT we re;have Y:=aC Y;exact⟨_,rfl,V.tr re.cN,_,rfl,(fun h=>by cases h),fun h=>absurd h.1 Y⟩
theorem zW{q:Rat}(U:Old S w)(hp:fP w S v q):eC PG Fn.nV #[v] w (eI w fun v' _=>v'=iV (rs q)):=by
 obtain⟨a,b,Y,rfl,_,_⟩:=hp.v;exact FW U Y
theorem zX{f:fc}(U:Old S w)(hf:dq w S vn vb vs f):eC PG Fn.vW #[.agg #[vn,vb,vs]] w (eI w fun v' _=>v'=iV (eJ f)):=by
 have V:=bR w;obtain⟨an,cn,ab,cb,aq,cq,rfl,rfl,rfl,RH,Rh,Si⟩:=hf.shape;refine yv bv ?_;apply bS<;>intro h0
 .have h0:=aE h0;exact rtn V fun GT we re=>by show iV _=_;rw[eJ,aH be]
 have h0:=aC h0;apply bS<;>intro Y
 .have Y:=aE Y;exact rtn V fun GT we re=>by show iV _=_;rw[eJ,aH be]
 have Y:=aC Y;apply bS<;>intro X
 .have X:=aE X;exact rtn V fun GT we re=>by show iV _=_;rw[eJ,aH be]
 have X:=aC X
 refine⟨Nat×World×Iv,fun z=>⟨[(1,pP 0 0),(3,iN z.1)],[(0,.box T.Frame [.v (.slice an f.nodes.length cn),.v (.slice ab f.bars.length cb),.v (.slice aq f.cV.length cq)])],1,z.2.2,z.2.1⟩,fun z=>f.nodes.length-z.1,
  fun z=>z.1<=f.nodes.length/\Bq w z.2.1/\cX ee [] f.nodes=cX ee (f.nodes.take z.1) (f.nodes.drop z.1),?_,?_⟩
 .intro O J A;exact⟨(0,J,_),⟨aP _,V.tr A.cN,rfl⟩,sbgn [] A⟩
 rintro⟨i,w1,iv⟩ ⟨D,V,hE⟩;dsimp only at D V hE ⊢;apply bS<;>intro Ny
 .have Ny:=dL Ny;obtain⟨b,G⟩:=gO f.nodes i;have hLl:(f.nodes.take i).length=i:=by rw[aZ];omega
  obtain⟨adb,L,QB,hF,-,PT⟩:=hf.nodes.load bi G;have hF:L=[iV b.1,iV b.2.1,iV b.2.2]:=hF;subst hF;refine⟨adb,QB,be,[iV b.1,iV b.2.1,iV b.2.2],rfl,rdO PT V U,?_⟩;refine cD (cE V (fun _ J v I=>∃d,v= .bool d/\(d=true↔jx b.1)) (fun O J r=>fm _ _ _ J) ?_);rintro O Ph v1 Pa OK r R V h_ ⟨d0,rfl,OM⟩
  cases d0
  .have OM:¬jx b.1:=fun h=>by have:=OM.2 h;cases this
   exact rtn V fun GT we re=>by show iV _=_;rw[eJ,aF be,aH (by rw[hE,cJ G (show ee (f.nodes.take i) b=2 by rw[ee,aF (fun h=>OM h.1)]) bi];decide),hE,cJ G (show ee (f.nodes.take i) b=2 by rw[ee,aF (fun h=>OM h.1)]) bi]
  replace OM:=OM.1 rfl;refine cD (cE V (fun _ J v I=>∃d,v= .bool d/\(d=true↔jx b.2.1)) (fun O J r=>fm _ _ _ J) ?_);rintro O QT v2 PO OH r R V h_ ⟨d1,rfl,OG⟩
  cases d1
  .have OG:¬jx b.2.1:=fun h=>by have:=OG.2 h;cases this
   exact rtn V fun GT we re=>by show iV _=_;rw[eJ,aF be,aH (by rw[hE,cJ G (show ee (f.nodes.take i) b=2 by rw[ee,aF (fun h=>OG h.2.1)]) bi];decide),hE,cJ G (show ee (f.nodes.take i) b=2 by rw[ee,aF (fun h=>OG h.2.1)]) bi]
  replace OG:=OG.1 rfl;refine cD (cE V (fun _ J v I=>∃d,v= .bool d/\(d=true↔jx b.2.2)) (fun O J r=>fm _ _ _ J) ?_);rintro O Pm v3 Pg OW r R V h_ ⟨d2,rfl,OQ⟩
  cases d2
  .have OQ:¬jx b.2.2:=fun h=>by have:=OQ.2 h;cases this
   exact rtn V fun GT we re=>by show iV _=_;rw[eJ,aF be,aH (by rw[hE,cJ G (show ee (f.nodes.take i) b=2 by rw[ee,aF (fun h=>OQ h.2.2)]) bi];decide),hE,cJ G (show ee (f.nodes.take i) b=2 by rw[ee,aF (fun h=>OQ h.2.2)]) bi]
  replace OQ:=OQ.1 rfl
  refine⟨Nat×World,fun z=>⟨[(1,pP 0 0),(3,iN i),(4,pP 1 0),(5,iN z.1)],[(1,.box T.Node [.v (iV b.1),.v (iV b.2.1),.v (iV b.2.2)]),(0,.box T.Frame [.v (.slice an f.nodes.length cn),.v (.slice ab f.bars.length cb),.v (.slice aq f.cV.length cq)])],2,OW,z.2⟩,fun z=>i-z.1,
   fun z=>z.1<=i/\Bq w z.2/\(b∈(f.nodes.take i).map id↔b∈((f.nodes.take i).drop z.1).map id),?_,?_⟩
  .intro O J A;exact⟨(0,J),⟨aP _,V.tr A.cN,Iff.rfl⟩,sbgn [] A⟩
  rintro⟨k,I⟩ ⟨E,V,hK⟩;dsimp only at E V hK ⊢;apply bS<;>intro OA
  .have OA:=dL OA;obtain⟨c,hc⟩:=gO f.nodes k;have Rq:(f.nodes.take i)[k]? =some c:=by rw[bT OA];exact hc
   obtain⟨adc,cs2,VI,SF,-,SN⟩:=hf.nodes.load bi hc;have SF:cs2=[iV c.1,iV c.2.1,iV c.2.2]:=SF;subst SF;refine dP (idO 7) ?_;refine⟨adc,VI,be,[iV c.1,iV c.2.1,iV c.2.2],rfl,rdO SN V U,decide (c=b),fun O w o1 o2=>EA c b w o1 o2,?_⟩;apply bS<;>intro hd
   .have hd:c=b:=aE hd;have Q2:b∈f.nodes.take i:=by have:=tn (F':=id) Rq hd;rwa [List.map_id]at this
    exact rtn V fun GT we re=>by show iV _=_;rw[eJ,aF be,aH (by rw[hE,cJ G (show ee (f.nodes.take i) b=12 by rw[ee,aH ⟨OM,OG,OQ⟩,aH Q2]) bi];decide),hE,cJ G (show ee (f.nodes.take i) b=12 by rw[ee,aH ⟨OM,OG,OQ⟩,aH Q2]) bi]
   have hd:c≠b:=aC hd;have Qz:=lE (F':=id) Rq hd hK;refine inc k ?_;intro IR w6 A;exact⟨(k+1,w6),⟨OA,V.tr A.cN,Qz⟩,sbgn [] A,dec OA⟩
  have OA:k=i:=by have:=aC OA;omega
  have Pn:=CQ (by rw[hLl];omega) hK;rw[List.map_id]at Pn;rw[dH G (sH.2 ⟨⟨OM,OG,OQ⟩,Pn⟩)]at hE;refine inc i ?_;intro IR w6 A;exact⟨(i+1,w6,_),⟨Ny,V.tr A.cN,hE⟩,sbgn [] A,dec Ny⟩
 have Ny:=dE D Ny;rw[dy be]at hE
 refine⟨Nat×World×Iv,fun z=>⟨[(1,pP 0 0),(6,iN z.1)],[(0,.box T.Frame [.v (.slice an f.nodes.length cn),.v (.slice ab f.bars.length cb),.v (.slice aq f.cV.length cq)])],1,z.2.2,z.2.1⟩,fun z=>f.bars.length-z.1,
  fun z=>z.1<=f.bars.length/\Bq w z.2.1/\cX (eu f.nodes.length) [] f.bars=cX (eu f.nodes.length) (f.bars.take z.1) (f.bars.drop z.1),?_,?_⟩
 .intro O J A;exact⟨(0,J,_),⟨aP _,V.tr A.cN,rfl⟩,sbgn [] A⟩
 rintro⟨i,w1,iv⟩ ⟨D,V,OS⟩;dsimp only at D V OS ⊢;apply bS<;>intro Ny
 .have Ny:=dL Ny;obtain⟨b,G⟩:=gO f.bars i;have hLl:(f.bars.take i).length=i:=by rw[aZ];omega
  obtain⟨adb,L,QB,hF,-,PT⟩:=hf.bars.load bi G;obtain⟨g0,g1,g2,g3,g4,g5,g6,g7,rfl,hF⟩:=hF;refine⟨adb,QB,be,[iV b.1,iV b.2.1,.bool g0,.slice g1 g2 g3,.bool g4,.slice g5 g6 g7],rfl,rdO PT V U,?_⟩;refine cD (cE V (fun _ J v I=>∃d,v= .bool d/\(d=true↔gA f.nodes.length b.1)) (fun O J r=>mn _ _ _ _ _ _ _ _ _ _ J) ?_);rintro O Ph v1 Pa OK r R V h_ ⟨d0,rfl,OM⟩
  cases d0
  .have OM:¬gA f.nodes.length b.1:=fun h=>by have:=OM.2 h;cases this
   exact rtn V fun GT we re=>by show iV _=_;rw[eJ,aF be,aF (by rw[hE];decide),aH (by rw[OS,cJ G (show eu f.nodes.length (f.bars.take i) b=6 by rw[eu,aF (fun h=>OM h.1)]) bi];decide),OS,cJ G (show eu f.nodes.length (f.bars.take i) b=6 by rw[eu,aF (fun h=>OM h.1)]) bi]
  replace OM:=OM.1 rfl;refine cD (cE V (fun _ J v I=>∃d,v= .bool d/\(d=true↔gA f.nodes.length b.2.1)) (fun O J r=>mn _ _ _ _ _ _ _ _ _ _ J) ?_);rintro O QT v2 PO OH r R V h_ ⟨d1,rfl,OG⟩
  cases d1
  .have OG:¬gA f.nodes.length b.2.1:=fun h=>by have:=OG.2 h;cases this
   exact rtn V fun GT we re=>by show iV _=_;rw[eJ,aF be,aF (by rw[hE];decide),aH (by rw[OS,cJ G (show eu f.nodes.length (f.bars.take i) b=6 by rw[eu,aF (fun h=>OG h.2)]) bi];decide),OS,cJ G (show eu f.nodes.length (f.bars.take i) b=6 by rw[eu,aF (fun h=>OG h.2)]) bi]
  replace OG:=OG.1 rfl;apply bS<;>intro Oo
  .have Oo:b.1=b.2.1:=by simpa using Oo
   exact rtn V fun GT we re=>by show iV _=_;rw[eJ,aF be,aF (by rw[hE];decide),aH (by rw[OS,cJ G (show eu f.nodes.length (f.bars.take i) b=3 by rw[eu,aH ⟨OM,OG⟩,aH Oo]) bi];decide),OS,cJ G (show eu f.nodes.length (f.bars.take i) b=3 by rw[eu,aH ⟨OM,OG⟩,aH Oo]) bi]
  have Oo:b.1≠b.2.1:=by simpa using Oo
  refine⟨Nat×World,fun z=>⟨[(1,pP 0 0),(6,iN i),(7,pP 1 0),(8,iN z.1)],[(1,.box T.NS [.v (iV b.1),.v (iV b.2.1),.v (.bool g0),.v (.slice g1 g2 g3),.v (.bool g4),.v (.slice g5 g6 g7)]),(0,.box T.Frame [.v (.slice an f.nodes.length cn),.v (.slice ab f.bars.length cb),.v (.slice aq f.cV.length cq)])],2,OH,z.2⟩,fun z=>i-z.1,
   fun z=>z.1<=i/\Bq w z.2/\(gB b∈(f.bars.take i).map gB↔gB b∈((f.bars.take i).drop z.1).map gB),?_,?_⟩
  .intro O J A;exact⟨(0,J),⟨aP _,V.tr A.cN,Iff.rfl⟩,sbgn [] A⟩
  rintro⟨k,I⟩ ⟨E,V,hK⟩;dsimp only at E V hK ⊢;apply bS<;>intro OA
  .have OA:=dL OA;obtain⟨c,hc⟩:=gO f.bars k;have Rq:(f.bars.take i)[k]? =some c:=by rw[bT OA];exact hc
   obtain⟨adc,cs2,VI,SF,-,SN⟩:=hf.bars.load bi hc;obtain⟨q0,q1,q2,q3,q4,q5,q6,q7,rfl,-⟩:=SF;refine⟨adc,VI,be,[iV c.1,iV c.2.1,.bool q0,.slice q1 q2 q3,.bool q4,.slice q5 q6 q7],rfl,rdO SN V U,?_⟩;apply bS<;>intro e1
   .have e1:(c.1=b.1):=by simpa using e1
    apply bS<;>intro e2
    .have e2:(c.2.1=b.2.1):=by simpa using e2
     have Q2:=tn (F':=gB) Rq (show gB c=gB b by rw[oA];omega);exact rtn V fun GT we re=>by show iV _=_;rw[eJ,aF be,aF (by rw[hE];decide),aH (by rw[OS,cJ G (show eu f.nodes.length (f.bars.take i) b=5 by rw[eu,aH ⟨OM,OG⟩,aF Oo,aH Q2]) bi];decide),OS,cJ G (show eu f.nodes.length (f.bars.take i) b=5 by rw[eu,aH ⟨OM,OG⟩,aF Oo,aH Q2]) bi]
    .have e2:¬(c.2.1=b.2.1):=by simpa using e2
     apply bS<;>intro e3
     .have e3:(c.1=b.2.1):=by simpa using e3
      apply bS<;>intro e4
      .have e4:(c.2.1=b.1):=by simpa using e4
       have Q2:=tn (F':=gB) Rq (show gB c=gB b by rw[oA];omega);exact rtn V fun GT we re=>by show iV _=_;rw[eJ,aF be,aF (by rw[hE];decide),aH (by rw[OS,cJ G (show eu f.nodes.length (f.bars.take i) b=5 by rw[eu,aH ⟨OM,OG⟩,aF Oo,aH Q2]) bi];decide),OS,cJ G (show eu f.nodes.length (f.bars.take i) b=5 by rw[eu,aH ⟨OM,OG⟩,aF Oo,aH Q2]) bi]
      .have e4:¬(c.2.1=b.1):=by simpa using e4
       have Qz:=lE (F':=gB) Rq (show gB c≠gB b by rw[Ne,oA];omega) hK;refine inc k ?_;intro IR w6 A;exact⟨(k+1,w6),⟨OA,V.tr A.cN,Qz⟩,sbgn [] A,dec OA⟩
     .have e3:¬(c.1=b.2.1):=by simpa using e3
      have Qz:=lE (F':=gB) Rq (show gB c≠gB b by rw[Ne,oA];omega) hK;refine inc k ?_;intro IR w6 A;exact⟨(k+1,w6),⟨OA,V.tr A.cN,Qz⟩,sbgn [] A,dec OA⟩
   .have e1:¬(c.1=b.1):=by simpa using e1
    apply bS<;>intro e3
    .have e3:(c.1=b.2.1):=by simpa using e3
     apply bS<;>intro e4
     .have e4:(c.2.1=b.1):=by simpa using e4
      have Q2:=tn (F':=gB) Rq (show gB c=gB b by rw[oA];omega);exact rtn V fun GT we re=>by show iV _=_;rw[eJ,aF be,aF (by rw[hE];decide),aH (by rw[OS,cJ G (show eu f.nodes.length (f.bars.take i) b=5 by rw[eu,aH ⟨OM,OG⟩,aF Oo,aH Q2]) bi];decide),OS,cJ G (show eu f.nodes.length (f.bars.take i) b=5 by rw[eu,aH ⟨OM,OG⟩,aF Oo,aH Q2]) bi]
     .have e4:¬(c.2.1=b.1):=by simpa using e4
      have Qz:=lE (F':=gB) Rq (show gB c≠gB b by rw[Ne,oA];omega) hK;refine inc k ?_;intro IR w6 A;exact⟨(k+1,w6),⟨OA,V.tr A.cN,Qz⟩,sbgn [] A,dec OA⟩
    .have e3:¬(c.1=b.2.1):=by simpa using e3
     have Qz:=lE (F':=gB) Rq (show gB c≠gB b by rw[Ne,oA];omega) hK;refine inc k ?_;intro IR w6 A;exact⟨(k+1,w6),⟨OA,V.tr A.cN,Qz⟩,sbgn [] A,dec OA⟩
  have OA:k=i:=by have:=aC OA;omega
  have Pn:=CQ (by rw[hLl];omega) hK;refine cD (cE V (pE (iV (rs b.2.2))) (fun O J r=>(zW (oS U r) (hF.cK (kS V r U)))) ?_);rintro O Pm v3 Pg OW r R V h_ rfl;obtain⟨cf,hcf⟩:=exq (rs b.2.2);rw[hcf];apply bS<;>intro Ot
  .have Ot:b.2.2<=0:=by have:=aE Ot;rw[<-Rat.not_lt,<-nt];omega
   exact rtn V fun GT we re=>by show iV _=_;rw[eJ,aF be,aF (by rw[hE];decide),aH (by rw[OS,cJ G (show eu f.nodes.length (f.bars.take i) b=2 by rw[eu,aH ⟨OM,OG⟩,aF Oo,aF Pn,aH Ot]) bi];decide),OS,cJ G (show eu f.nodes.length (f.bars.take i) b=2 by rw[eu,aH ⟨OM,OG⟩,aF Oo,aF Pn,aH Ot]) bi]
  have Ot:0<b.2.2:=by have:=aC Ot;rw[<-nt];omega
  rw[dH G (qP.2 ⟨⟨OM,OG⟩,Oo,Pn,Ot⟩)]at OS;refine inc i ?_;intro IR w6 A;exact⟨(i+1,w6,_),⟨Ny,V.tr A.cN,OS⟩,sbgn [] A,dec Ny⟩
 have Ny:=dE D Ny;rw[dy be]at OS
 refine⟨Nat×World×Iv,fun z=>⟨[(1,pP 0 0),(10,iN z.1)],[(0,.box T.Frame [.v (.slice an f.nodes.length cn),.v (.slice ab f.bars.length cb),.v (.slice aq f.cV.length cq)])],1,z.2.2,z.2.1⟩,fun z=>f.cV.length-z.1,
  fun z=>z.1<=f.cV.length/\Bq w z.2.1/\cX (jt f.nodes.length) [] f.cV=cX (jt f.nodes.length) (f.cV.take z.1) (f.cV.drop z.1),?_,?_⟩
 .intro O J A;exact⟨(0,J,_),⟨aP _,V.tr A.cN,rfl⟩,sbgn [] A⟩
 rintro⟨i,w1,iv⟩ ⟨D,V,Uf⟩;dsimp only at D V Uf ⊢;apply bS<;>intro Ny
 .have Ny:=dL Ny;obtain⟨b,G⟩:=gO f.cV i;have hLl:(f.cV.take i).length=i:=by rw[aZ];omega
  obtain⟨adb,L,QB,hF,-,PT⟩:=hf.cV.load bi G;obtain⟨g0,g1,g2,g3,g4,g5,g6,g7,rfl,hF⟩:=hF;refine⟨adb,QB,be,[iV b.1,iV b.2.1,.bool g0,.slice g1 g2 g3,.bool g4,.slice g5 g6 g7],rfl,rdO PT V U,?_⟩;refine cD (cE V (fun _ J v I=>∃d,v= .bool d/\(d=true↔gA f.nodes.length b.1)) (fun O J r=>mn _ _ _ _ _ _ _ _ _ _ J) ?_);rintro O _ _ _ OK r R V h_ ⟨d0,rfl,OM⟩
  cases d0
  .have OM:¬gA f.nodes.length b.1:=fun h=>by have:=OM.2 h;cases this
   exact rtn V fun GT we re=>by show iV _=_;rw[eJ,aF be,aF (by rw[hE];decide),aF (by rw[OS];decide),Uf,cJ G (show jt f.nodes.length (f.cV.take i) b=6 by rw[jt,aF OM]) bi]
  replace OM:=OM.1 rfl;refine cD (cE V (fun _ J v I=>∃d,v= .bool d/\(d=true↔0<=b.2.1/\b.2.1<=2)) (fun O J r=>fm _ _ _ J) ?_);rintro O _ _ _ OH r R V h_ ⟨d1,rfl,Od⟩
  cases d1
  .have Od:¬(0<=b.2.1/\b.2.1<=2):=fun h=>by have:=Od.2 h;cases this
   exact rtn V fun GT we re=>by show iV _=_;rw[eJ,aF be,aF (by rw[hE];decide),aF (by rw[OS];decide),Uf,cJ G (show jt f.nodes.length (f.cV.take i) b=2 by rw[jt,aH OM,aF Od]) bi]
  replace Od:=Od.1 rfl
  refine⟨Nat×World,fun z=>⟨[(1,pP 0 0),(10,iN i),(11,pP 1 0),(12,iN z.1)],[(1,.box T.xR [.v (iV b.1),.v (iV b.2.1),.v (.bool g0),.v (.slice g1 g2 g3),.v (.bool g4),.v (.slice g5 g6 g7)]),(0,.box T.Frame [.v (.slice an f.nodes.length cn),.v (.slice ab f.bars.length cb),.v (.slice aq f.cV.length cq)])],2,OH,z.2⟩,fun z=>i-z.1,
   fun z=>z.1<=i/\Bq w z.2/\(iP b∈(f.cV.take i).map iP↔iP b∈((f.cV.take i).drop z.1).map iP),?_,?_⟩
  .intro O J A;exact⟨(0,J),⟨aP _,V.tr A.cN,Iff.rfl⟩,sbgn [] A⟩
  rintro⟨k,I⟩ ⟨E,V,hK⟩;dsimp only at E V hK ⊢;apply bS<;>intro OA
  .have OA:=dL OA;obtain⟨c,hc⟩:=gO f.cV k;have Rq:(f.cV.take i)[k]? =some c:=by rw[bT OA];exact hc
   obtain⟨adc,cs2,VI,SF,-,SN⟩:=hf.cV.load bi hc;obtain⟨q0,q1,q2,q3,q4,q5,q6,q7,rfl,-⟩:=SF;refine dP (idO 20) ?_;refine⟨adc,VI,be,iV c.1,rdF (SN 0 _ rfl) V U,?_⟩;apply bS<;>intro e1
   .have e1:(c.1=b.1):=by simpa using e1
    refine⟨adc,VI,be,iV c.2.1,rdF (SN 1 _ rfl) V U,?_⟩;apply bS<;>intro e2
    .have e2:(c.2.1=b.2.1):=by simpa using e2
     have Q2:=tn (F':=iP) Rq (show iP c=iP b by rw[CP];omega);exact rtn V fun GT we re=>by show iV _=_;rw[eJ,aF be,aF (by rw[hE];decide),aF (by rw[OS];decide),Uf,cJ G (show jt f.nodes.length (f.cV.take i) b=5 by rw[jt,aH OM,aH Od,aH Q2]) bi]
    .have e2:¬(c.2.1=b.2.1):=by simpa using e2
     have Qz:=lE (F':=iP) Rq (show iP c≠iP b by rw[Ne,CP];omega) hK;refine inc k ?_;intro IR w6 A;exact⟨(k+1,w6),⟨OA,V.tr A.cN,Qz⟩,sbgn [] A,dec OA⟩
   .have e1:¬(c.1=b.1):=by simpa using e1
    have Qz:=lE (F':=iP) Rq (show iP c≠iP b by rw[Ne,CP];omega) hK;refine inc k ?_;intro IR w6 A;exact⟨(k+1,w6),⟨OA,V.tr A.cN,Qz⟩,sbgn [] A,dec OA⟩
  have OA:k=i:=by have:=aC OA;omega
  have Pn:=CQ (by rw[hLl];omega) hK;refine cD (cE V (pE (iV (rs b.2.2))) (fun O J r=>(zW (oS U r) (hF.cK (kS V r U)))) ?_);rintro O _ _ _ OW r R V h_ rfl;obtain⟨cf,hcf⟩:=exq (rs b.2.2);rw[hcf];apply bS<;>intro Ot
  .have Ot:b.2.2<0:=by have:=aE Ot;rw[<-lD];omega
   exact rtn V fun GT we re=>by show iV _=_;rw[eJ,aF be,aF (by rw[hE];decide),aF (by rw[OS];decide),Uf,cJ G (show jt f.nodes.length (f.cV.take i) b=2 by rw[jt,aH OM,aH Od,aF Pn,aH Ot]) bi]
  have Ot:0<=b.2.2:=by have:=aC Ot;rw[<-Rat.not_lt,<-lD];omega
  rw[dH G (qO.2 ⟨OM,Od,Pn,Ot⟩)]at Uf;refine inc i ?_;intro IR w6 A;exact⟨(i+1,w6,_),⟨Ny,V.tr A.cN,Uf⟩,sbgn [] A,dec Ny⟩
 have Ny:=dE D Ny;rw[dy be]at Uf;exact rtn V fun GT we re=>by show iV _=_;rw[eJ,aF be,aF (by rw[hE];decide),aF (by rw[OS];decide),Uf]
def rq(p:Int×Int):Rat:=ratio p.1 p.2
structure FX where
 nodes:List (Int×Int×Int)
 bars:List (Int×Int×(Int×Int))
 cV:List (Int×Int×(Int×Int))
def FY(p:Int×Int×(Int×Int)):Int×Int×Rat:=(p.1,p.2.1,rq p.2.2)
def FX.val(f:FX):fc:=⟨f.nodes,f.bars.map FY,f.cV.map FY⟩
def tp(w:World)(S:Nat->Prop)(L:List Value)(p:Int×Int×(Int×Int)):Prop:=∃b a n c b2 a2 n2 c2,L=[iV p.1,iV p.2.1,.bool b,.slice a n c,.bool b2,.slice a2 n2 c2]/\iC w S (.agg #[.bool b,.slice a n c,.bool b2,.slice a2 n2 c2]) p.2.2.1 p.2.2.2
structure pj(w:World)(S:Nat->Prop)(vn vb vs:Value)(f:FX):Prop where
 nodes:mM w S vn f.nodes
 bars:dW 6 tp w S vb f.bars
 cV:dW 6 tp w S vs f.cV
theorem tp.cK{I:World}(h:tp w S L p)(E:∀g,S g->I.heap[g]? =w.heap[g]?):tp I S L p:=by
 obtain⟨b,a,n,c,b2,a2,n2,c2,Y,X⟩:=h;exact⟨b,a,n,c,b2,a2,n2,c2,Y,X.cK E⟩
theorem pj.cK{I:World}{f:FX}(h:pj w S vn vb vs f)(E:∀g,S g->I.heap[g]? =w.heap[g]?):pj I S vn vb vs f:=
 ⟨dW.cK (w:=w) (fun _ _ h=>h) h.nodes E,dW.cK (fun _ _ h=>h.cK E) h.bars E,dW.cK (fun _ _ h=>h.cK E) h.cV E⟩
theorem tp.Nt(h:tp w S L p)(hf:xD (L.drop 2)):CL w S L (FY p)/\rl (FY p).2.2<=3:=by
 obtain⟨b,a,n,c,b2,a2,n2,c2,rfl,X⟩:=h;obtain⟨N,h4⟩:=X.l3 hf;exact⟨⟨b,a,n,c,b2,a2,n2,c2,rfl,N⟩,h4⟩
theorem dW.cells{α:Type}{k:Nat}{P:World->(Nat->Prop)->List Value->α->Prop}{xs:List α}(h:dW k P w S v xs):
  ∃W:List (List Value),W.length=xs.length/\dW k (fun w S L (y:List Value×α)=>L=y.1/\P w S L y.2) w S v (W.zip xs)/\(∀(j:Nat) L x,W[j]? =some L->xs[j]? =some x->P w S L x)/\
   ∀{β:Type} (Q:World->(Nat->Prop)->List Value->β->Prop) (ys:List β),ys.length=xs.length->(∀(j:Nat) L y,W[j]? =some L->ys[j]? =some y->Q w S L y)->dW k Q w S v ys:=by
 obtain⟨W,Y,X,N,h4⟩:=h;have hz:(W.zip xs).length=xs.length:=by rw[List.length_zip,X,Nat.min_self]
 refine⟨W,X,⟨W,by rw[hz];exact Y,by rw[hz,X],N,fun j L y k1 k2=>?_⟩,h4,fun Q ys hl hQ=>⟨W,by rw[hl];exact Y,by rw[hl,X],N,hQ⟩⟩;rw[List.getElem?_zip_eq_some]at k2;rw[k1]at k2;exact⟨by injection k2.1,h4 j L _ k1 k2.2⟩
theorem Lj.of(h4:∀(j:Nat) L x,W[j]? =some L->xs[j]? =some x->tp w S L x)
  (hQ:∀{β:Type} (Q:World->(Nat->Prop)->List Value->β->Prop) (ys:List β),ys.length=xs.length->(∀(j:Nat) L y,W[j]? =some L->ys[j]? =some y->Q w S L y)->dW 6 Q w S v ys)
  (hl:W.length=xs.length) (hf:∀j L,j<xs.length->W[j]? =some L->xD (L.drop 2)):Jg w S v (xs.map FY)/\∀b∈xs.map FY,rl b.2.2<=3:=by
 refine⟨hQ CL _ (aM ..) fun j L y k1 k2=>?_,fun b hb=>?_⟩
 .rw[aO]at k2;obtain⟨p,hp,rfl⟩:=Option.map_eq_some_iff.1 k2;exact((h4 j L p k1 hp).Nt (hf j L (aD.1 hp).1 k1)).1
 .obtain⟨p,hp,rfl⟩:=aV.1 hb;obtain⟨j,hj⟩:=aT hp;have Sb:=(aD.1 hj).1;have hc:W[j]? =some W[j]:=aB be;exact((h4 j _ p hc hj).Nt (hf j _ Sb hc)).2
theorem Jl{f:FX}(U:Old S w)(hf:pj w S vn vb vs f):eC PG Fn.pF #[.agg #[vn,vb,vs]] w (eI w fun v' _=>∃d,v'= .bool d/\
  (d=true->dq w S vn vb vs f.val/\(∀b∈f.val.bars,rl b.2.2<=3)/\(∀b∈f.val.cV,rl b.2.2<=3)/\(eJ f.val≠0\/f.val.nodes.length<=4/\f.val.bars.length<=6))):=by
 have V:=bR w;obtain⟨an,cn,rfl,hcn,RH⟩:=hf.nodes.shape;obtain⟨bcs,Po,hbz,Rd,hbQ⟩:=hf.bars.cells;obtain⟨qcs,Ta,hqz,hq4,hqQ⟩:=hf.cV.cells;obtain⟨ab,cb,rfl,PZ,Rh⟩:=hf.bars.shape;obtain⟨aq,cq,rfl,hcq,Si⟩:=hf.cV.shape;refine yt bv ?_;apply bS<;>intro h0
 .exact rtn V fun GT we re=>⟨_,rfl,fun h=>by cases h⟩
 have h0:=aC h0;apply bS<;>intro Y
 .exact rtn V fun GT we re=>⟨_,rfl,fun h=>by cases h⟩
 have Y:=aC Y;apply bS<;>intro X
 .exact rtn V fun GT we re=>⟨_,rfl,fun h=>by cases h⟩
 have X:=aC X
 refine⟨Nat×World×Iv,fun z=>⟨[(1,pP 0 0),(3,iN z.1)],[(0,.box T.Frame [.v (.slice an f.nodes.length cn),.v (.slice ab f.bars.length cb),.v (.slice aq f.cV.length cq)])],1,z.2.2,z.2.1⟩,fun z=>f.bars.length-z.1,
  fun z=>z.1<=f.bars.length/\Bq w z.2.1/\∀(j:Nat) (L:List Value),j<z.1->bcs[j]? =some L->xD (L.drop 2),?_,?_⟩
 .intro O J A;exact⟨(0,J,_),⟨aP _,V.tr A.cN,fun j L hj=>absurd hj (Nat.not_lt_zero j)⟩,sbgn [] A⟩
 rintro⟨i,w1,iv⟩ ⟨D,V,hB⟩;dsimp only at D V hB ⊢;apply bS<;>intro Ny
 .have Ny:=dL Ny;obtain⟨L,Of⟩:=gO bcs i;obtain⟨p,hp⟩:=gO f.bars i;obtain⟨g0,g1,g2,g3,g4,g5,g6,g7,rfl,-⟩:=Rd i L p Of hp;obtain⟨adx,cs2,Od,⟨Ue,-⟩,-,Th⟩:=hbz.load bi (show (bcs.zip f.bars)[i]? =some (_,p) by rw[List.getElem?_zip_eq_some];exact⟨Of,hp⟩);have Ue:cs2=[iV p.1,iV p.2.1,.bool g0,.slice g1 g2 g3,.bool g4,.slice g5 g6 g7]:=Ue;subst Ue;refine⟨adx,Od,be,rC g0 g1 g2 g3 g4 g5 g6 g7,rfl,fun O J r j u hu=>?_,?_⟩
  .have hj4:=(aD.1 hu).1;obtain⟨k1,k2⟩:=Th (2+j) u (by rcases j with _|_|_|_|j<;>first|exact hu|(have:j+4<4:=hj4;omega));rw[cO (w:=w) (I:=J) (by simp only[eV];exact(V.tr r.cN).block _ (U _ k1))];simp only[aJ,M5]at k2 ⊢
   first|exact k2|(rw [<-k2];congr 2;omega)
  refine cD (cE V (fun _ J v I=>∃d,v= .bool d/\(d=true->xD (rC g0 g1 g2 g3 g4 g5 g6 g7))) (fun O J r=>(Gp (S:=fun g=>g=(O 1).g) (W:=[rC g0 g1 g2 g3 g4 g5 g6 g7]) (fun g F=>by subst F;exact Rel.lt r (id:=1) rfl) (r.mO (id:=1) (sz:=4) (n:=1) rfl rfl bi (by repeat' first|refine List.forall_mem_cons.2 ⟨rfl,?_⟩|exact fun u hu=>absurd hu List.not_mem_nil)) (fun L hc=>by rw[bJ.1 hc];exact⟨_,_,_,_,_,_,_,_,rfl⟩)).mono fun _ _ ⟨v2,e1,e2,d,e3,e4⟩=>⟨v2,e1,e2,d,e3,fun h=>(e4 h).2 _ aI⟩) ?_);rintro O Ph v1 Pa OK r R V h_ ⟨d2,rfl,OQ⟩
  cases d2
  .exact rtn V fun GT we re=>⟨_,rfl,fun h=>by cases h⟩
  have OS:∀j L,j<i+1->bcs[j]? =some L->xD (L.drop 2):=fun j L hj hc=>by
   rcases aR j i with h|h
   .exact hB j L h hc
   .have:j=i:=by omega
    subst this;rw[Of]at hc;injection hc with hc;subst hc;exact OQ rfl
  refine inc i ?_;intro IR w6 A;exact⟨(i+1,w6,_),⟨Ny,V.tr A.cN,OS⟩,sbgn [] A,dec Ny⟩
 have Ny:=dE D Ny;subst Ny
 refine⟨Nat×World×Iv,fun z=>⟨[(1,pP 0 0),(4,iN z.1)],[(0,.box T.Frame [.v (.slice an f.nodes.length cn),.v (.slice ab f.bars.length cb),.v (.slice aq f.cV.length cq)])],1,z.2.2,z.2.1⟩,fun z=>f.cV.length-z.1,
  fun z=>z.1<=f.cV.length/\Bq w z.2.1/\∀(j:Nat) (L:List Value),j<z.1->qcs[j]? =some L->xD (L.drop 2),?_,?_⟩
 .intro O J A;exact⟨(0,J,_),⟨aP _,V.tr A.cN,fun j L hj=>absurd hj (Nat.not_lt_zero j)⟩,sbgn [] A⟩
 rintro⟨i,w1,iv⟩ ⟨D,V,hQ⟩;dsimp only at D V hQ ⊢;apply bS<;>intro Ny
 .have Ny:=dL Ny;obtain⟨L,Of⟩:=gO qcs i;obtain⟨p,hp⟩:=gO f.cV i;obtain⟨g0,g1,g2,g3,g4,g5,g6,g7,rfl,-⟩:=hq4 i L p Of hp;obtain⟨adx,cs2,Od,⟨Ue,-⟩,-,Th⟩:=hqz.load bi (show (qcs.zip f.cV)[i]? =some (_,p) by rw[List.getElem?_zip_eq_some];exact⟨Of,hp⟩);have Ue:cs2=[iV p.1,iV p.2.1,.bool g0,.slice g1 g2 g3,.bool g4,.slice g5 g6 g7]:=Ue;subst Ue;refine⟨adx,Od,be,rC g0 g1 g2 g3 g4 g5 g6 g7,rfl,fun O J r j u hu=>?_,?_⟩
  .have hj4:=(aD.1 hu).1;obtain⟨k1,k2⟩:=Th (2+j) u (by rcases j with _|_|_|_|j<;>first|exact hu|(have:j+4<4:=hj4;omega));rw[cO (w:=w) (I:=J) (by simp only[eV];exact(V.tr r.cN).block _ (U _ k1))];simp only[aJ,M5]at k2 ⊢
   first|exact k2|(rw [<-k2];congr 2;omega)
  refine cD (cE V (fun _ J v I=>∃d,v= .bool d/\(d=true->xD (rC g0 g1 g2 g3 g4 g5 g6 g7))) (fun O J r=>(Gp (S:=fun g=>g=(O 1).g) (W:=[rC g0 g1 g2 g3 g4 g5 g6 g7]) (fun g F=>by subst F;exact Rel.lt r (id:=1) rfl) (r.mO (id:=1) (sz:=4) (n:=1) rfl rfl bi (by repeat' first|refine List.forall_mem_cons.2 ⟨rfl,?_⟩|exact fun u hu=>absurd hu List.not_mem_nil)) (fun L hc=>by rw[bJ.1 hc];exact⟨_,_,_,_,_,_,_,_,rfl⟩)).mono fun _ _ ⟨v2,e1,e2,d,e3,e4⟩=>⟨v2,e1,e2,d,e3,fun h=>(e4 h).2 _ aI⟩) ?_);rintro O Ph v1 Pa OK r R V h_ ⟨d2,rfl,OQ⟩
  cases d2
  .exact rtn V fun GT we re=>⟨_,rfl,fun h=>by cases h⟩
  have OS:∀j L,j<i+1->qcs[j]? =some L->xD (L.drop 2):=fun j L hj hc=>by
   rcases aR j i with h|h
   .exact hQ j L h hc
   .have:j=i:=by omega
    subst this;rw[Of]at hc;injection hc with hc;subst hc;exact OQ rfl
  refine inc i ?_;intro IR w6 A;exact⟨(i+1,w6,_),⟨Ny,V.tr A.cN,OS⟩,sbgn [] A,dec Ny⟩
 have Ny:=dE D Ny;subst Ny;obtain⟨kb,kb2⟩:=Lj.of Rd hbQ Po hB;obtain⟨kq,kq2⟩:=Lj.of hq4 hqQ Ta hQ;have hR:dq w S (.slice an f.nodes.length cn) (.slice ab f.bars.length cb) (.slice aq f.cV.length cq) f.val:=⟨hf.nodes,kb,kq⟩
 refine cD (cE V (pE (iV (eJ f.val))) (fun O J r=>zX (oS U r) (hR.cK (kS V r U))) ?_);rintro O _ _ _ OK r R V h_ rfl;obtain⟨e,R⟩:=exq (eJ f.val);rw[R];apply bS<;>intro hd
 .have hd:e≠0:=by simpa using hd
  exact rtn V fun GT we re=>⟨_,rfl,fun _=>⟨hR,kb2,kq2,.inl hd⟩⟩
 have hd:e=0:=by simpa using hd
 apply bS<;>intro h4
 .have h4:=aE h4;exact rtn V fun GT we re=>⟨_,rfl,fun h=>⟨hR,kb2,kq2,.inr ⟨by show f.nodes.length<=4;omega,by show(f.bars.map FY).length<=6;rw[aM];have:=aE h;omega⟩⟩⟩
 exact rtn V fun GT we re=>⟨_,rfl,fun h=>by cases h⟩
section
variable{xs:List Rat}{l:List (Rat×Rat)}{i:Nat}{x:Rat}{r:Rat×Rat}
end
section
variable{S:Nat->Prop}{w w1 J:World}{H:Hp}{nx:Nat}{iv:Iv}{O:Nat->Sx.da}
theorem Ho{f:FX}(U:Old S w)(V:Bq w w1)(r:Rel H nx iv w.heap.size w1 O J)(hf:pj w S vn vb vs f):eC PG Fn.pF #[.agg #[vn,vb,vs]] J (eI J fun v' _=>∃d,v'= .bool d/\
  (d=true->dq w S vn vb vs f.val/\(∀b∈f.val.bars,rl b.2.2<=3)/\(∀b∈f.val.cV,rl b.2.2<=3)/\(eJ f.val≠0\/f.val.nodes.length<=4/\f.val.bars.length<=6))):=
 have E:∀g,S g->J.heap[g]? =w.heap[g]? :=fun g F=>(V.tr r.cN).block g (U g F)
 (Jl (S:=S) (oS U r) (hf.cK E)).mono fun _ _ ⟨v2,e1,e2,d,e3,e4⟩=>⟨v2,e1,e2,d,e3,fun h=>⟨(e4 h).1.cK fun g F=>(E g F).symm,(e4 h).2⟩⟩
end
end
variable{L:List Value}
structure dR{α:Type}(k:Nat)(P:World->(Nat->Prop)->List Value->α->Prop)(w:World)(S:Nat->Prop)(W:List (List Value))(qs:List α):Prop where
 len:W.length=qs.length
 wid:∀L∈W,L.length=k
 at_:∀(j:Nat) L q,W[j]? =some L->qs[j]? =some q->P w S L q
section
variable{α:Type}{k:Nat}{P:World->(Nat->Prop)->List Value->α->Prop}{w I:World}{S S':Nat->Prop}{W:List (List Value)}{qs:List α}
theorem dR.nil:dR k P w S [] []:=⟨rfl,fun _ h=>(by cases h),fun _ _ _ h=>by cases h⟩
theorem dR.map{P':World->(Nat->Prop)->List Value->α->Prop}(h:dR k P w S W qs)(hP:∀L q,P w S L q->P' I S' L q):dR k P' I S' W qs:=⟨h.len,h.wid,fun j L q Y X=>hP L q (h.at_ j L q Y X)⟩
theorem dR.push{q:α}(h:dR k P w S W qs)(hc:P w S L q)(h4:L.length=k):dR k P w S (W++[L]) (qs++[q]):=by
 refine⟨by simp[h.len],fun x G=>?_,fun j x p Y X=>?_⟩
 .rcases bV.1 G with G|G
  .exact h.wid x G
  .rw[bJ.1 G];exact h4
 .rcases aR j W.length with D|D
  .rw[aK D]at Y;rw[aK (by rw[<-h.len];exact D)]at X;exact h.at_ j x p Y X
  .have Qu:j=W.length:=by have:=(aD.1 Y).1;simp at this;omega
   subst Qu;rw[aQ lr,bP]at Y;rw[h.len,aQ lr,bP]at X;simp at Y X;subst Y X;exact hc
theorem dR.one(h:dR k P w S W qs)(Y:∀L q,P w S L q->∀u∈L,u.oneCell'=true):∀u∈W.flatten,u.oneCell'=true:=fun u hu=>by
 obtain⟨L,hc,hu⟩:=List.mem_flatten.1 hu;obtain⟨j,hj⟩:=aT hc;exact Y L _ (h.at_ j L _ hj (aB (by rw[<-h.len];exact(aD.1 hj).1))) u hu
theorem dR.list{v:Value}(h:dR k P w S W qs)(hs:jW w S k v W.flatten W.length):dW k P w S v qs:=⟨W,h.len▸hs,h.len,h.wid,h.at_⟩
end
section
variable{S S':Nat->Prop}{H:Hp}{nx:Nat}{iv K:Iv}{B:Nat}{w J I:World}{O:Nat->Sx.da}{v:Value}{l:List (Rat×Rat)}
end
end Go.Ex
namespace Go.Ex
abbrev I3:=Int×Int×Int
def rU(s:Nat->I3)(fa:Int)(x:Ld):Nat->I3:=fun n=>if(n:Int)=x.1 then((s n).1+fa*x.2.1,(s n).2.1+fa*x.2.2.1,(s n).2.2+fa*x.2.2.2)else s n
def ma(s:Nat->I3)(fa:Int)(l:List Ld):Nat->Nat->I3
 |0=>s
 |k+1=>rU (ma s fa l k) fa (l.getD k (0,0,0,0))
def fK(L:List (List Ld))(fs:List Int):Nat->Nat->I3
 |0=>fun _=>(0,0,0)
 |c+1=>ma (fK L fs c) (fs.getD c 0) (L.getD c []) (L.getD c []).length
def zq(p:I3):Prop:=jx p.1/\jx p.2.1/\jx p.2.2
instance (p : I3) : Decidable (zq p) := by unfold zq; infer_instance
def Bi(n:Int):Int:=if -100<=n/\n<=100 then 0 else 2
def zt(s:Nat->I3)(n:Nat):Int:=if zq (s n)then 0 else 8
def iO(L:List (List Ld))(fs:List Int):Int:=
 if 16<L.length then 8 else if fs.length≠L.length then 11 else if cX (fun _=>Bi) [] fs≠0 then 2 else
  if cX (fun _=>jH 20) [] L≠0 then cX (fun _=>jH 20) [] L else cX (fun _=>zt (fK L fs L.length)) [] (List.range 20)
def fF(s:Nat->I3):Nat->List Ld
 |0=>[]
 |n+1=>if s n=(0,0,0)then fF s n else fF s n++[((n:Int),s n)]
theorem rV(s:Nat->I3):∀n,(fF s n).length<=n
 |0=>aN _
 |n+1=>by
  have:=rV s n;rw[fF];split
  .omega
  .rw[aL,aS];omega
def MH(s:Nat->I3)(t:Int):Prop:=∀n,(-t<=(s n).1/\(s n).1<=t)/\(-t<=(s n).2.1/\(s n).2.1<=t)/\(-t<=(s n).2.2/\(s n).2.2<=t)
theorem nN{a b:Int}(Y: -100<=a)(X:a<=100)(N: -1000000<=b)(h4:b<=1000000): -100000000<=a*b/\a*b<=100000000:=by
 have e:(a*b).natAbs<=100*1000000:=by rw[Int.natAbs_mul];exact Nat.mul_le_mul be be
 omega
theorem MH.add{s:Nat->I3}{t fa:Int}{x:Ld}(h:MH s t)(hf: -100<=fa/\fa<=100)(G:jx x.2.1/\jx x.2.2.1/\jx x.2.2.2):MH (rU s fa x) (t+100000000):=fun n=>by
 obtain⟨⟨a1,a2⟩,⟨a3,a4⟩,a5,a6⟩:=G;have Y:=nN hf.1 hf.2 a1 a2;have X:=nN hf.1 hf.2 a3 a4;have N:=nN hf.1 hf.2 a5 a6;have:=h n;unfold rU;split
 .dsimp only;omega
 .omega
def zf(s:Nat->I3)(j:Nat):Int:=if j % 4=1 then(s (j / 4)).1 else if j % 4=2 then(s (j / 4)).2.1 else if j % 4=3 then(s (j / 4)).2.2 else 0
def q8(z:Nat->Int)(j:Nat)(v:Int)(i:Nat):Int:=if i=j then v else z i
theorem DS(s:Nat->I3)(n:Nat):zf s (4*n)=0/\zf s (4*n+1)=(s n).1/\zf s (4*n+2)=(s n).2.1/\zf s (4*n+3)=(s n).2.2:=by
 unfold zf;refine⟨?_,?_,?_,?_⟩
 .rw[aF be,aF be,aF be]
 .rw[aH be,show(4*n+1) / 4=n by omega]
 .rw[aF be,aH be,show(4*n+2) / 4=n by omega]
 .rw[aF be,aF be,aH be,show(4*n+3) / 4=n by omega]
theorem MI(s:Nat->I3)(fa:Int)(x:Ld){n:Nat}(Z:x.1=n)(j:Nat):
  q8 (q8 (q8 (zf s) (4*n+1) ((s n).1+fa*x.2.1)) (4*n+2) ((s n).2.1+fa*x.2.2.1)) (4*n+3) ((s n).2.2+fa*x.2.2.2) j=zf (rU s fa x) j:=by
 unfold q8;by_cases N:j=4*n+3
 .subst N;rw[aH rfl,(DS _ n).2.2.2,rU,aH Z.symm]
 rw[aF N];by_cases X:j=4*n+2
 .subst X;rw[aH rfl,(DS _ n).2.2.1,rU,aH Z.symm]
 rw[aF X];by_cases Y:j=4*n+1
 .subst Y;rw[aH rfl,(DS _ n).2.1,rU,aH Z.symm]
 rw[aF Y];unfold zf;by_cases hj:j / 4=n
 .rw[aF be,aF be,aF be,aF be,aF be,aF be]
 .have:rU s fa x (j / 4)=s (j / 4):=by rw[rU,aF be]
  rw[this]
theorem Ik(z:Nat->Int){j:Nat}(v:Int){m:Nat}(hj:j<m):((List.range m).map z).set j v=(List.range m).map (q8 z j v):=by
 refine bY fun i=>?_;rw[List.getElem?_set,aO];by_cases h:j=i
 .subst h;rw[aH rfl,aH (by simpa using hj),aO,bf hj];simp[q8]
 .rw[aF h,aO];rcases aR i m with X|X
  .rw[bf X];simp only[q8,Option.map_some,aF (fun e:i=j=>h e.symm)]
  .rw[List.getElem?_eq_none (by simpa using X)];rfl
end Go.Ex
