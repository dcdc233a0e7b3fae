/- Texts X145 to L46: lemmas, each with its conditions. -/
import Derived.Test.YtgkpbdkechfgmaaGreatP12
namespace Go.Ex
open Go Go.Sx Go.Proofs
variable{W:Array Value}{xs:List (Int×Int×Int)}{S:Nat->Prop}{a:Option Addr}{v vb vn vs:Value}{w:World}{f:fC}
theorem iw{j:Nat}(h:W[j]? =some v)(w:World):(part T.int W j).run PG w= .ok v w:=by
 have:=(hτ T.int _ rfl).isAgg w;simp only[part,Sem.run_bind,this,Result.andThen]
 simp[h]
theorem eq_int(d:Nat)(a b:Int)(w:World):(Op.equalIn (d+1) T.int (.int .i64 a) (.int .i64 b)).run PG w= .ok (a==b) w:=by
 unfold Op.equalIn;simp[run_underlying ((hτ T.int _ rfl).i1 rfl)]
theorem Nv(p0 p1 p2 q0 q1 q2:Int)(w:World):(Op.equal T.Node (.agg #[.int .i64 p0,.int .i64 p1,.int .i64 p2]) (.agg #[.int .i64 q0,.int .i64 q1,.int .i64 q2])).run PG w= .ok (decide (p0=q0/\p1=q1/\p2=q2)) w:=by
 have h:=run_underlying Tryz.underlying195;simp only[Op.equal,Op.maxDepth]
 unfold Op.equalIn;have a0:=iw (W:= #[Value.int .i64 p0,Value.int .i64 p1,Value.int .i64 p2]) (j:=0) rfl;have a1:=iw (W:= #[Value.int .i64 p0,Value.int .i64 p1,Value.int .i64 p2]) (j:=1) rfl;have a2:=iw (W:= #[Value.int .i64 p0,Value.int .i64 p1,Value.int .i64 p2]) (j:=2) rfl;have b0:=iw (W:= #[Value.int .i64 q0,Value.int .i64 q1,Value.int .i64 q2]) (j:=0) rfl;have b1:=iw (W:= #[Value.int .i64 q0,Value.int .i64 q1,Value.int .i64 q2]) (j:=1) rfl;have b2:=iw (W:= #[Value.int .i64 q0,Value.int .i64 q1,Value.int .i64 q2]) (j:=2) rfl;simp[h,a0,a1,a2,b0,b1,b2,eq_int 9998];by_cases h0:p0=q0
 ·by_cases L:p1=q1
  ·by_cases G:p2=q2<;>simp[h0,L,G]
  ·simp[h0,L]
 ·simp[h0]
theorem Nx(p0 p1 q0 q1:Int)(w:World):(Op.equal T.Dq (.agg #[.int .i64 p0,.int .i64 p1]) (.agg #[.int .i64 q0,.int .i64 q1])).run PG w= .ok (decide (p0=q0/\p1=q1)) w:=by
 have h:=run_underlying Tryz.underlying281;simp only[Op.equal,Op.maxDepth]
 unfold Op.equalIn;have a0:=iw (W:= #[Value.int .i64 p0,Value.int .i64 p1]) (j:=0) rfl;have a1:=iw (W:= #[Value.int .i64 p0,Value.int .i64 p1]) (j:=1) rfl;have b0:=iw (W:= #[Value.int .i64 q0,Value.int .i64 q1]) (j:=0) rfl;have b1:=iw (W:= #[Value.int .i64 q0,Value.int .i64 q1]) (j:=1) rfl;simp[h,a0,a1,b0,b1,eq_int 9998];by_cases h0:p0=q0
 ·by_cases L:p1=q1<;>simp[h0,L]
 ·simp[h0]
abbrev DB(p:Int×Int×Int):Value:=.agg #[.int .i64 p.1,.int .i64 p.2.1,.int .i64 p.2.2]
theorem GQ(p q:Int×Int×Int)(w:World)(o1 o2:Operand):(do eqGuard .eql T.Node o1 o2 (DB p) (DB q);binOp .eql T.Node (DB p) (DB q)).run PG w= .ok (.bool (decide (p=q))) w:=by
 have h:=Nv p.1 p.2.1 p.2.2 q.1 q.2.1 q.2.2 w;simp[eqGuard,binOp,h];obtain⟨a,b,c⟩:=p;obtain⟨a2,b2,c2⟩:=q;by_cases h0:a=a2
 ·by_cases L:b=b2
  ·by_cases G:c=c2<;>simp[h0,L,G]
  ·simp[h0,L]
 ·simp[h0]
def oD(k:Int×Int):Value:=.agg #[.int .i64 k.1,.int .i64 k.2]
theorem qp{a b:Int×Int}(h:oD a=oD b):a=b:=by
 unfold oD at h;injection h with h;have L:=congrArg (fun x=>x[0]?) h;have G:=congrArg (fun x=>x[1]?) h;simp at L G;exact Prod.ext L G
theorem KC(d:Nat)(a:Int)(em:Bool)(w:World):(Instr.checkKey em (d+1) T.int (.int .i64 a)).run PG w= .ok () w:=by
 unfold Instr.checkKey;simp[run_underlying ((hτ T.int _ rfl).i1 rfl)]
theorem Hf(p0 p1:Int)(em:Bool)(w:World):(Instr.checkKey em 10000 T.Dq (.agg #[.int .i64 p0,.int .i64 p1])).run PG w= .ok () w:=by
 have h:=run_underlying Tryz.underlying281;have a0:=iw (W:= #[Value.int .i64 p0,Value.int .i64 p1]) (j:=0) rfl;have a1:=iw (W:= #[Value.int .i64 p0,Value.int .i64 p1]) (j:=1) rfl;unfold Instr.checkKey;simp[h,a0,a1,KC 9998]
theorem yp:Ks PG T.Dq (fun v=>∃k,v=oD k) where
 desc:=⟨_,Tryz.underlying281⟩
 check:=fun w em v ⟨k,e⟩=>by subst e;exact Hf k.1 k.2 em w
 eq:=fun w a b ⟨p,e1⟩ ⟨q,e2⟩=>by
  subst e1 e2;refine⟨_,Nx p.1 p.2 q.1 q.2 w,?_⟩;rw[decide_eq_true_iff];exact⟨fun h=>by rw[show p=q from Prod.ext h.1 h.2],fun h=>by have:=qp h;subst this;exact⟨rfl,rfl⟩⟩
theorem uz:PG.underlying T.yD=some (.map T.Dq T.bool):=Tryz.underlying279
theorem DC(w:World):(zeroValue T.bool).run PG w= .ok (.bool false) w:=by kernel_rfl
theorem MV(ad:Option Addr)(k:Nat):ad.map (·.add (0*k))=ad:=by
 rw[Nat.zero_mul]
 cases ad with
 |none=>rfl
 |some a=>simp only[bc,Option.some.injEq];unfold Addr.add;split<;>simp_all
theorem fG.take{α:Type}{k:Nat}{P:World->(Nat->Prop)->List Value->α->Prop}{n c:Nat}{xs:List α}(h:fG k P w S (.slice a n c) xs){i:Nat}(A:i<=xs.length):
  fG k P w S (.slice a i c) (xs.take i):=by
 obtain⟨Z,⟨h0,L,G,a',c',e,N,h4⟩,hl,hlk,hf⟩:=h;injection e with e1 e2 e3;subst e1 e2 e3;have hlen:(Z.take i).length=i:=by rw[aX,hl];omega
 have UH:(xs.take i).length=i:=by rw[aX];omega
 have Vf:Z.flatten=(Z.take i).flatten++(Z.drop i).flatten:=by rw[<-List.flatten_append,List.take_append_drop]
 refine⟨Z.take i,⟨by omega,?_,fun u hu=>G u (by rw[Vf];exact List.mem_append_left _ hu),a,c,by rw[UH],by omega,fun j u hj=>h4 j u ?_⟩,by rw[hlen,UH],fun W hc=>hlk W (List.mem_of_mem_take hc),fun j W x k1 k2=>?_⟩
 ·rw[wY fun W hc=>hlk W (List.mem_of_mem_take hc),hlen,UH]
 ·rw[Vf,aI (aD.1 hj).1];exact hj
 ·have hj:=(aD.1 k1).1;rw[hlen]at hj;rw[bS hj]at k1 k2;exact hf j W x k1 k2
theorem nK.cK{V:World}(h:nK w S v xs)(D:∀g,S g->V.heap[g]? =w.heap[g]?):nK V S v xs:=fG.cK (w:=w) (fun _ _ h=>h) h D
theorem EW(X:Old S w)(R:nK w S vn xs)(p:Int×Int×Int):eI PG F'.gC #[vn,DB p] w (eO w fun v' _=>∃r,v'= .int .i64 r/\(-1<=r)/\(0<=r↔p∈xs)):=by
 have I:=bR w;obtain⟨an,cn,rfl,hcn,RR⟩:=R.shape;unfold maxLen at RR;refine jE (by simp) ?_
 refine⟨Nat×World,fun z=>⟨[(0,sV an xs.length cn),(3,pP 0 0),(7,iZ xs.length),(8,iN z.1)],[(0,.box T.Node [.v (.int .i64 p.1),.v (.int .i64 p.2.1),.v (.int .i64 p.2.2)])],1,[],z.2⟩,fun z=>xs.length-z.1,
  fun z=>z.1<=xs.length/\dw w.heap.size w z.2/\(p∈xs↔p∈xs.drop z.1),?_,?_⟩
 ·intro O J E;exact⟨(0,J),⟨aQ _,I.tr E.cU,Iff.rfl⟩,Sub.gn [] E⟩
 rintro⟨i,w1⟩ ⟨A,I,hE⟩;dsimp only at A I hE ⊢;refine dQ.mk ?_ ?_<;>intro OZ
 ·have OZ:i<xs.length:=by simpa using OZ
  obtain⟨q,F⟩:∃x,xs[i]? =some x:=⟨_,aA OZ⟩
  have hdr:xs.drop i=q::xs.drop (i+1):=by rw[List.drop_eq_getElem_cons OZ,(aD.1 F).2]
  obtain⟨adx,W,QE,hP,-,PU⟩:=R.load (by decide) F;have hP:W=[.int .i64 q.1,.int .i64 q.2.1,.int .i64 q.2.2]:=hP;subst hP;refine jQ hτ dx (.x 1 (.x 2 (.x 3 (.ld 0 32 (.ld 4 32 (.x 5 .nil)))))) (by kernel_rfl) (by kernel_rfl) ?_;refine⟨adx,QE,by omega,[.int .i64 q.1,.int .i64 q.2.1,.int .i64 q.2.2],rfl,rdO PU I X,decide (p=q),fun O w o1 o2=>GQ p q w o1 o2,?_⟩;refine dQ.mk ?_ ?_<;>intro hd
  ·have hd:p=q:=aK hd;exact rtn I fun IR we re=>⟨_,rfl,by omega,iff_of_true (by omega) (hE.2 (by rw[hdr,hd];exact aF))⟩
  have hd:p≠q:=aG hd;rw[hdr,List.mem_cons,or_iff_right hd]at hE;refine⟨((i+1:Nat):Int),wo,?_⟩;intro GT w6 E;exact⟨(i+1,w6),⟨OZ,I.tr E.cU,hE⟩,Sub.gn [] E,by dsimp only;omega⟩
 have OZ:i=xs.length:=aR A (by simpa using OZ);rw[OZ,List.drop_length]at hE;exact rtn I fun IR we re=>⟨_,rfl,by omega,iff_of_false (by omega) fun h=>by cases hE.1 h⟩
theorem y8(X:Old S w)(R:nK w S vn xs)(p:Int×Int×Int):eI PG F'.ff #[vn,DB p] w (eO w fun v' _=>∃d,v'= .bool d/\(d=true↔p∈xs)):=by
 have I:=bR w;obtain⟨an,cn,rfl,hcn,RR⟩:=R.shape;refine iY (by simp) ?_;refine cJ (cE I (fun _ J v V=>∃r,v= .int .i64 r/\(-1<=r)/\(0<=r↔p∈xs)) (fun O J r=>EW (p:=p) (oS X r) (nK.cK R (kS I r X))) ?_);rintro O _ _ _ Oo r U I h_ ⟨r0,rfl,Wg,SU⟩;exact rtn I fun IR we re=>⟨_,rfl,by rw[decide_eq_true_iff];exact SU⟩
def y9(w:World)(S:Nat->Prop)(g:Nat)(ks:List Value):Prop:=S g/\FG w g ks
section
variable{S:Nat->Prop}{H:Hp}{nx:Nat}{iv K:Iv}{B:Nat}{w J V:World}{O:Nat->Sx.dq}{g:Nat}{ks:List Value}
theorem y9.rel(h:y9 w (Cv S B iv) g ks)(r:Rel H nx iv B w O J)(X:∀g,S g->g<B):y9 J (Cv S B iv) g ks:=⟨h.1,h.2.cK (Rel.same r X h.1)⟩
theorem y9.cM(h:y9 w (Cv S B iv) g ks)(r:Rel H nx iv B w O J)(X:∀g,S g->g<B)(U:Ext J V)(hm:∀p,p∈iv->p∈K):y9 V (Cv S B K) g ks:=
 ⟨h.1.mono hm,(h.rel r X).2.cK (U.block g (Rel.old r X g h.1))⟩
end
set_option maxHeartbeats 2000000 in
theorem BB(X:Old S w)(hf:eG w S vn vb vs f):eI PG F'.sK #[.agg #[vn,vb,vs]] w (eO w fun v' _=>v'= .int .i64 (e8 f)):=by
 have I:=bR w;obtain⟨an,cn,ab,cb,aq,cq,rfl,rfl,rfl,RR,Rk,SM⟩:=hf.shape;obtain⟨_,_,hsh,hcn,_⟩:=hf.nodes.shape;injection hsh with e1 e2 e3;subst e1 e3;refine wM (by simp) ?_;refine dQ.mk ?_ ?_<;>intro h0
 ·have h0:=aK h0;exact rtn I fun IR we re=>by show Value.int .i64 _=_;rw[e8,if_pos (by omega)]
 have h0:=aG h0;refine dQ.mk ?_ ?_<;>intro L
 ·have L:=aK L;exact rtn I fun IR we re=>by show Value.int .i64 _=_;rw[e8,if_pos (by omega)]
 have L:=aG L;refine dQ.mk ?_ ?_<;>intro G
 ·have G:=aK G;exact rtn I fun IR we re=>by show Value.int .i64 _=_;rw[e8,if_pos (by omega)]
 have G:=aG G
 refine⟨Nat×World×Iv,fun z=>⟨[(1,pP 0 0),(30,sV an f.nodes.length cn),(31,iZ f.nodes.length),(32,iN z.1)],[(0,.box T.Frame [.v (.slice an f.nodes.length cn),.v (.slice ab f.bars.length cb),.v (.slice aq f.cZ.length cq)])],1,z.2.2,z.2.1⟩,fun z=>f.nodes.length-z.1,
  fun z=>z.1<=f.nodes.length/\dw w.heap.size w z.2.1/\fH fN [] f.nodes=fH fN (f.nodes.take z.1) (f.nodes.drop z.1),?_,?_⟩
 ·intro O J E;exact⟨(0,J,[]),⟨aQ _,I.tr E.cU,rfl⟩,Sub.gn [] E⟩
 rintro⟨i,w1,iv⟩ ⟨A,I,hE⟩;dsimp only at A I hE ⊢;refine dQ.mk ?_ ?_<;>intro OZ
 ·have OZ:i<f.nodes.length:=by simpa using OZ
  obtain⟨q,F⟩:∃x,f.nodes[i]? =some x:=⟨_,aA OZ⟩
  obtain⟨adx,W,QE,hP,-,PU⟩:=hf.nodes.load (by decide) F;have hP:W=[.int .i64 q.1,.int .i64 q.2.1,.int .i64 q.2.2]:=hP;subst hP;refine⟨adx,QE,by omega,[.int .i64 q.1,.int .i64 q.2.1,.int .i64 q.2.2],rfl,rdO PU I X,?_⟩;refine cJ (cE I (fun _ J v V=>∃d,v= .bool d/\(d=true↔nQ q.1)) (fun O J r=>lO _ J) ?_);rintro O Q6 v1 QT Oo r U I h_ ⟨d0,rfl,Ov⟩
  cases d0
  ·have Ov:¬nQ q.1:=fun h=>by have:=Ov.2 h;cases this
   exact rtn I fun IR we re=>by show Value.int .i64 _=_;rw[e8,aH (by omega),if_pos (by rw[hE,cX F (show fN (f.nodes.take i) q=2 by rw[fN,aH (fun h=>Ov h.1)]) (by decide)];decide),hE,cX F (show fN (f.nodes.take i) q=2 by rw[fN,aH (fun h=>Ov h.1)]) (by decide)]
  replace Ov:=Ov.1 rfl;refine cJ (cE I (fun _ J v V=>∃d,v= .bool d/\(d=true↔nQ q.2.1)) (fun O J r=>lO _ J) ?_);rintro O Q7 v2 Pt Od r U I h_ ⟨d1,rfl,PF⟩
  cases d1
  ·have PF:¬nQ q.2.1:=fun h=>by have:=PF.2 h;cases this
   exact rtn I fun IR we re=>by show Value.int .i64 _=_;rw[e8,aH (by omega),if_pos (by rw[hE,cX F (show fN (f.nodes.take i) q=2 by rw[fN,aH (fun h=>PF h.2.1)]) (by decide)];decide),hE,cX F (show fN (f.nodes.take i) q=2 by rw[fN,aH (fun h=>PF h.2.1)]) (by decide)]
  replace PF:=PF.1 rfl;refine cJ (cE I (fun _ J v V=>∃d,v= .bool d/\(d=true↔nQ q.2.2)) (fun O J r=>lO _ J) ?_);rintro O QF v3 Pw Oq r U I h_ ⟨d2,rfl,QD⟩
  cases d2
  ·have QD:¬nQ q.2.2:=fun h=>by have:=QD.2 h;cases this
   exact rtn I fun IR we re=>by show Value.int .i64 _=_;rw[e8,aH (by omega),if_pos (by rw[hE,cX F (show fN (f.nodes.take i) q=2 by rw[fN,aH (fun h=>QD h.2.2)]) (by decide)];decide),hE,cX F (show fN (f.nodes.take i) q=2 by rw[fN,aH (fun h=>QD h.2.2)]) (by decide)]
  replace QD:=QD.1 rfl;refine jQ hτ dx (.x 0 (.x 2 (.ld 1 104 (.x 3 (.ld 4 96 (.x 5 (.x 6 .nil))))))) (by kernel_rfl) (by kernel_rfl) ?_;refine⟨⟨by omega,by omega,by omega⟩,an,i,cn,by rw[show ((0:Int).toNat*3)=0*3 from rfl,MV];split<;>rfl,by simp,by simp,?_⟩;refine cE I (fun _ J v V=>∃d,v= .bool d/\(d=true↔q∈f.nodes.take i)) (fun O J r=>y8 (p:=q) (oS X r) (nK.cK (hf.nodes.take (Nat.le_of_lt OZ)) (kS I r X))) ?_;rintro O _ _ _ Ox r U I h_ ⟨d3,rfl,hz3⟩
  cases d3
  ·have hz3:q∉f.nodes.take i:=fun h=>by have:=hz3.2 h;cases this
   rw[gp F (tM.2 ⟨⟨Ov,PF,QD⟩,hz3⟩)]at hE;refine⟨((i+1:Nat):Int),wo,?_⟩;intro GT w6 E;exact⟨(i+1,w6,_),⟨OZ,I.tr E.cU,hE⟩,Sub.gn [] E,by dsimp only;omega⟩
  replace hz3:=hz3.1 rfl;exact rtn I fun IR we re=>by show Value.int .i64 _=_;rw[e8,aH (by omega),if_pos (by rw[hE,cX F (show fN (f.nodes.take i) q=12 by rw[fN,if_pos ⟨Ov,PF,QD⟩,if_pos hz3]) (by decide)];decide),hE,cX F (show fN (f.nodes.take i) q=12 by rw[fN,if_pos ⟨Ov,PF,QD⟩,if_pos hz3]) (by decide)]
 have OZ:i=f.nodes.length:=aR A (by simpa using OZ);rw[jS (by omega)]at hE;refine xE (fun O wa wb r hM0 Y PN=>?_);have PE:=(I.tr r.cU).tr (dw.grown Y (fun x e=>by cases e) r.cI);have hB:w.heap.size<=wa.heap.size:=r.cI;have hM:y9 wb (Cf w ((wa.heap.size,wa.heap.size+1)::iv)) wa.heap.size []:=⟨.inr ⟨hB,_,_,aF,Nat.le_refl _,bQ _⟩,hM0⟩
 generalize (wa.heap.size,wa.heap.size+1)::iv=Od at*
 obtain⟨gm,Qo⟩:∃gm,wa.heap.size=gm:=⟨_,rfl⟩
 rw[Qo]at hM ⊢;have I:=PE
 refine⟨Nat×World×Iv,fun z=>⟨[(1,pP 0 0),(5,.o (.v (.map (some gm)))),(64,sV ab f.bars.length cb),(65,iZ f.bars.length),(66,iN z.1)],[(0,.box T.Frame [.v (.slice an f.nodes.length cn),.v (.slice ab f.bars.length cb),.v (.slice aq f.cZ.length cq)])],1,z.2.2,z.2.1⟩,fun z=>f.bars.length-z.1,
  fun z=>z.1<=f.bars.length/\dw w.heap.size w z.2.1/\fH (fX f.nodes.length) [] f.bars=fH (fX f.nodes.length) (f.bars.take z.1) (f.bars.drop z.1)/\y9 z.2.1 (Cf w z.2.2) gm ((f.bars.take z.1).map fun b=>oD (gf b)),?_,?_⟩
 ·intro O J E;exact⟨(0,J,Od),⟨aQ _,I.tr E.cU,rfl,hM.rel E (cH w)⟩,Sub.gn [] E⟩
 rintro⟨i,w1,iv⟩ ⟨A,I,PM,hM⟩;dsimp only at A I PM hM ⊢;refine dQ.mk ?_ ?_<;>intro OZ
 ·have OZ:i<f.bars.length:=by simpa using OZ
  obtain⟨b,F⟩:∃b,f.bars[i]? =some b:=⟨_,aA OZ⟩
  obtain⟨adb,W,QS,hF,-,PV⟩:=hf.bars.load (by decide) F;obtain⟨g0,g1,g2,g3,g4,g5,g6,g7,rfl,hF⟩:=hF;refine⟨adb,QS,by omega,[.int .i64 b.1,.int .i64 b.2.1,.bool g0,.slice g1 g2 g3,.bool g4,.slice g5 g6 g7],rfl,rdO PV I X,?_⟩;refine cJ (cE I (fun _ J v V=>∃d,v= .bool d/\(d=true↔j1 f.nodes.length b.1)) (fun O J r=>He _ J _ _ _ _ _ _ _ _ _) ?_);rintro O Q6 v1 QT Oo r U I h_ ⟨d0,rfl,Ov⟩;replace hM:=hM.cM r (cH w) U (mC h_)
  cases d0
  ·have Ov:¬j1 f.nodes.length b.1:=fun h=>by have:=Ov.2 h;cases this
   exact rtn I fun IR we re=>by show Value.int .i64 _=_;rw[e8,aH (by omega),aH (by rw[hE];decide),if_pos (by rw[PM,cX F (show fX f.nodes.length (f.bars.take i) b=6 by rw[fX,aH (fun h=>Ov h.1)]) (by decide)];decide),PM,cX F (show fX f.nodes.length (f.bars.take i) b=6 by rw[fX,aH (fun h=>Ov h.1)]) (by decide)]
  replace Ov:=Ov.1 rfl;refine cJ (cE I (fun _ J v V=>∃d,v= .bool d/\(d=true↔j1 f.nodes.length b.2.1)) (fun O J r=>He _ J _ _ _ _ _ _ _ _ _) ?_);rintro O Q7 v2 Pt Od r U I h_ ⟨d1,rfl,PF⟩;replace hM:=hM.cM r (cH w) U (mC h_)
  cases d1
  ·have PF:¬j1 f.nodes.length b.2.1:=fun h=>by have:=PF.2 h;cases this
   exact rtn I fun IR we re=>by show Value.int .i64 _=_;rw[e8,aH (by omega),aH (by rw[hE];decide),if_pos (by rw[PM,cX F (show fX f.nodes.length (f.bars.take i) b=6 by rw[fX,aH (fun h=>PF h.2)]) (by decide)];decide),PM,cX F (show fX f.nodes.length (f.bars.take i) b=6 by rw[fX,aH (fun h=>PF h.2)]) (by decide)]
  replace PF:=PF.1 rfl;refine dQ.mk ?_ ?_<;>intro QA
  ·have QA:b.1=b.2.1:=by simpa using QA
   exact rtn I fun IR we re=>by show Value.int .i64 _=_;rw[e8,aH (by omega),aH (by rw[hE];decide),if_pos (by rw[PM,cX F (show fX f.nodes.length (f.bars.take i) b=3 by rw[fX,if_pos ⟨Ov,PF⟩,if_pos QA]) (by decide)];decide),PM,cX F (show fX f.nodes.length (f.bars.take i) b=3 by rw[fX,if_pos ⟨Ov,PF⟩,if_pos QA]) (by decide)]
  have QA:b.1≠b.2.1:=by simpa using QA
  refine zK yp uz DC rfl rfl (key:=oD (gf b)) (fun _=>rfl) ⟨_,rfl⟩ (fun k D=>by obtain⟨x,_,rfl⟩:=aU.1 D;exact⟨_,rfl⟩) (fun O J r=>(hM.rel r (cH w)).2) (fun O J d r hd=>?_);replace I:=I.tr r.cU;replace hM:=hM.rel r (cH w);replace hd:d=true↔gf b∈(f.bars.take i).map gf:=by
   rw[hd];constructor
   ·intro h;obtain⟨x,L,G⟩:=aU.1 h;exact aU.2 ⟨x,L,qp G⟩
   ·intro h;obtain⟨x,L,G⟩:=aU.1 h;exact aU.2 ⟨x,L,congrArg oD G⟩
  cases d
  ·have Qi:gf b∉(f.bars.take i).map gf:=fun h=>by have:=hd.2 h;cases this
   refine cJ (cE I (fun _ J v V=>v= .int .i64 (rs b.2.2)) (fun O J r=>(H5 (oS X r) (hF.v.cK (kS I r X)) (ed.zero (S:=S)).v).mono fun _ _ ⟨v2,e1,e2,e3⟩=>⟨v2,e1,e2,by rw[e3,ql]⟩) ?_);rintro O _ _ _ Oq r U I h_ rfl;replace hM:=hM.cM r (cH w) U (mC h_);obtain⟨cf,Wr⟩:∃c,rs b.2.2=c:=⟨_,rfl⟩
   rw[Wr];refine dQ.mk ?_ ?_<;>intro Pn
   ·have Pn:b.2.2<=0:=by have:=aK Pn;rw[<-Rat.not_lt,<-pD];omega
    exact rtn I fun IR we re=>by show Value.int .i64 _=_;rw[e8,aH (by omega),aH (by rw[hE];decide),if_pos (by rw[PM,cX F (show fX f.nodes.length (f.bars.take i) b=2 by rw[fX,if_pos ⟨Ov,PF⟩,aH QA,aH Qi,if_pos Pn]) (by decide)];decide),PM,cX F (show fX f.nodes.length (f.bars.take i) b=2 by rw[fX,if_pos ⟨Ov,PF⟩,aH QA,aH Qi,if_pos Pn]) (by decide)]
   ·have Pn:0<b.2.2:=by have:=aG Pn;rw[<-pD];omega
    refine sD yp uz rfl rfl (key:=oD (gf b)) (fun _=>rfl) rfl ⟨_,rfl⟩ (fun k D=>by obtain⟨x,_,rfl⟩:=aU.1 D;exact⟨_,rfl⟩) (fun h=>by
     obtain⟨x,L,G⟩:=aU.1 h
     exact Qi (aU.2 ⟨x,L,qp G⟩)) (fun O J r=>⟨(hM.rel r (cH w)).2,Rel.not r (cH w) hM.1⟩) (fun O wa wb r SB Y PN=>?_)
    replace I:=(I.tr r.cU).tr (dw.grown Y (fun x e=>by injection e with e;subst e;exact hM.1.elim (fun h=>h.elim) fun h=>h.1) r.cI);rw[show ((f.bars.take i).map fun b=>oD (gf b))++[oD (gf b)]=(f.bars.take (i+1)).map fun b=>oD (gf b) by rw[List.take_add_one,F];simp]at SB;replace hM:y9 wb (Cf w Oq) gm ((f.bars.take (i+1)).map fun b=>oD (gf b)):=⟨hM.1,SB⟩
    rw[gp F (nZ.2 ⟨⟨Ov,PF⟩,QA,Qi,Pn⟩)]at PM;refine⟨((i+1:Nat):Int),wo,?_⟩;intro GT w6 E;exact⟨(i+1,w6,_),⟨OZ,I.tr E.cU,PM,hM.rel E (cH w)⟩,Sub.gn [] E,by dsimp only;omega⟩
  ·have hd:=hd.1 rfl;exact rtn I fun IR we re=>by show Value.int .i64 _=_;rw[e8,aH (by omega),aH (by rw[hE];decide),if_pos (by rw[PM,cX F (show fX f.nodes.length (f.bars.take i) b=5 by rw[fX,if_pos ⟨Ov,PF⟩,aH QA,if_pos hd]) (by decide)];decide),PM,cX F (show fX f.nodes.length (f.bars.take i) b=5 by rw[fX,if_pos ⟨Ov,PF⟩,aH QA,if_pos hd]) (by decide)]
 have OZ:i=f.bars.length:=aR A (by simpa using OZ);rw[jS (by omega)]at PM;have VG:=PM;refine xE (fun O wa wb r hM0 Y PN=>?_);have PE:=(I.tr r.cU).tr (dw.grown Y (fun x e=>by cases e) r.cI);have hB:w.heap.size<=wa.heap.size:=r.cI;have hM:y9 wb (Cf w ((wa.heap.size,wa.heap.size+1)::iv)) wa.heap.size []:=⟨.inr ⟨hB,_,_,aF,Nat.le_refl _,bQ _⟩,hM0⟩
 generalize (wa.heap.size,wa.heap.size+1)::iv=Od at*
 obtain⟨gm,Qo⟩:∃gm,wa.heap.size=gm:=⟨_,rfl⟩
 rw[Qo]at hM ⊢;have I:=PE
 refine⟨Nat×World×Iv,fun z=>⟨[(1,pP 0 0),(9,.o (.v (.map (some gm)))),(115,sV aq f.cZ.length cq),(116,iZ f.cZ.length),(117,iN z.1)],[(0,.box T.Frame [.v (.slice an f.nodes.length cn),.v (.slice ab f.bars.length cb),.v (.slice aq f.cZ.length cq)])],1,z.2.2,z.2.1⟩,fun z=>f.cZ.length-z.1,
  fun z=>z.1<=f.cZ.length/\dw w.heap.size w z.2.1/\fH (kh f.nodes.length) [] f.cZ=fH (kh f.nodes.length) (f.cZ.take z.1) (f.cZ.drop z.1)/\y9 z.2.1 (Cf w z.2.2) gm ((f.cZ.take z.1).map fun b=>oD (jK b)),?_,?_⟩
 ·intro O J E;exact⟨(0,J,Od),⟨aQ _,I.tr E.cU,rfl,hM.rel E (cH w)⟩,Sub.gn [] E⟩
 rintro⟨i,w1,iv⟩ ⟨A,I,PM,hM⟩;dsimp only at A I PM hM ⊢;refine dQ.mk ?_ ?_<;>intro OZ
 ·have OZ:i<f.cZ.length:=by simpa using OZ
  obtain⟨b,F⟩:∃b,f.cZ[i]? =some b:=⟨_,aA OZ⟩
  obtain⟨adb,W,QS,hF,-,PV⟩:=hf.cZ.load (by decide) F;obtain⟨g0,g1,g2,g3,g4,g5,g6,g7,rfl,hF⟩:=hF;refine⟨adb,QS,by omega,[.int .i64 b.1,.int .i64 b.2.1,.bool g0,.slice g1 g2 g3,.bool g4,.slice g5 g6 g7],rfl,rdO PV I X,?_⟩;refine cJ (cE I (fun _ J v V=>∃d,v= .bool d/\(d=true↔j1 f.nodes.length b.1)) (fun O J r=>He _ J _ _ _ _ _ _ _ _ _) ?_);rintro O _ _ _ Oo r U I h_ ⟨d0,rfl,Ov⟩;replace hM:=hM.cM r (cH w) U (mC h_)
  cases d0
  ·have Ov:¬j1 f.nodes.length b.1:=fun h=>by have:=Ov.2 h;cases this
   exact rtn I fun IR we re=>by show Value.int .i64 _=_;rw[e8,aH (by omega),aH (by rw[hE];decide),aH (by rw[VG];decide),PM,cX F (show kh f.nodes.length (f.cZ.take i) b=6 by rw[kh,aH Ov]) (by decide)]
  replace Ov:=Ov.1 rfl;refine dQ.mk ?_ ?_<;>intro SS
  ·have SS:=aK SS;exact rtn I fun IR we re=>by show Value.int .i64 _=_;rw[e8,aH (by omega),aH (by rw[hE];decide),aH (by rw[VG];decide),PM,cX F (show kh f.nodes.length (f.cZ.take i) b=2 by rw[kh,if_pos Ov,aH (fun h=>by omega)]) (by decide)]
  have SS:=aG SS;refine dQ.mk ?_ ?_<;>intro RP
  ·have RP:=aK RP;exact rtn I fun IR we re=>by show Value.int .i64 _=_;rw[e8,aH (by omega),aH (by rw[hE];decide),aH (by rw[VG];decide),PM,cX F (show kh f.nodes.length (f.cZ.take i) b=2 by rw[kh,if_pos Ov,aH (fun h=>by omega)]) (by decide)]
  have RP:=aG RP;have QE:0<=b.2.1/\b.2.1<=2:=by omega
  refine zK yp uz DC rfl rfl (key:=oD (jK b)) (fun _=>rfl) ⟨_,rfl⟩ (fun k D=>by obtain⟨x,_,rfl⟩:=aU.1 D;exact⟨_,rfl⟩) (fun O J r=>(hM.rel r (cH w)).2) (fun O J d r hd=>?_);replace I:=I.tr r.cU;replace hM:=hM.rel r (cH w);replace hd:d=true↔jK b∈(f.cZ.take i).map jK:=by
   rw[hd];constructor
   ·intro h;obtain⟨x,L,G⟩:=aU.1 h;exact aU.2 ⟨x,L,qp G⟩
   ·intro h;obtain⟨x,L,G⟩:=aU.1 h;exact aU.2 ⟨x,L,congrArg oD G⟩
  cases d
  ·have Qi:jK b∉(f.cZ.take i).map jK:=fun h=>by have:=hd.2 h;cases this
   refine cJ (cE I (fun _ J v V=>v= .int .i64 (rs b.2.2)) (fun O J r=>(H5 (oS X r) (hF.v.cK (kS I r X)) (ed.zero (S:=S)).v).mono fun _ _ ⟨v2,e1,e2,e3⟩=>⟨v2,e1,e2,by rw[e3,ql]⟩) ?_);rintro O _ _ _ Od r U I h_ rfl;replace hM:=hM.cM r (cH w) U (mC h_);obtain⟨cf,Wr⟩:∃c,rs b.2.2=c:=⟨_,rfl⟩
   rw[Wr];refine dQ.mk ?_ ?_<;>intro Pn
   ·have Pn:b.2.2<0:=by have:=aK Pn;rw[<-mF];omega
    exact rtn I fun IR we re=>by show Value.int .i64 _=_;rw[e8,aH (by omega),aH (by rw[hE];decide),aH (by rw[VG];decide),PM,cX F (show kh f.nodes.length (f.cZ.take i) b=2 by rw[kh,if_pos Ov,if_pos QE,aH Qi,if_pos Pn]) (by decide)]
   ·have Pn:0<=b.2.2:=by have:=aG Pn;rw[<-Rat.not_lt,<-mF];omega
    refine sD yp uz rfl rfl (key:=oD (jK b)) (fun _=>rfl) rfl ⟨_,rfl⟩ (fun k D=>by obtain⟨x,_,rfl⟩:=aU.1 D;exact⟨_,rfl⟩) (fun h=>by
     obtain⟨x,L,G⟩:=aU.1 h
     exact Qi (aU.2 ⟨x,L,qp G⟩)) (fun O J r=>⟨(hM.rel r (cH w)).2,Rel.not r (cH w) hM.1⟩) (fun O wa wb r SB Y PN=>?_)
    replace I:=(I.tr r.cU).tr (dw.grown Y (fun x e=>by injection e with e;subst e;exact hM.1.elim (fun h=>h.elim) fun h=>h.1) r.cI);rw[show ((f.cZ.take i).map fun b=>oD (jK b))++[oD (jK b)]=(f.cZ.take (i+1)).map fun b=>oD (jK b) by rw[List.take_add_one,F];simp]at SB;replace hM:y9 wb (Cf w Od) gm ((f.cZ.take (i+1)).map fun b=>oD (jK b)):=⟨hM.1,SB⟩
    rw[gp F (rR.2 ⟨Ov,QE,Qi,Pn⟩)]at PM;refine⟨((i+1:Nat):Int),wo,?_⟩;intro GT w6 E;exact⟨(i+1,w6,_),⟨OZ,I.tr E.cU,PM,hM.rel E (cH w)⟩,Sub.gn [] E,by dsimp only;omega⟩
  ·have hd:=hd.1 rfl;exact rtn I fun IR we re=>by show Value.int .i64 _=_;rw[e8,aH (by omega),aH (by rw[hE];decide),aH (by rw[VG];decide),PM,cX F (show kh f.nodes.length (f.cZ.take i) b=5 by rw[kh,if_pos Ov,if_pos QE,if_pos hd]) (by decide)]
 have OZ:i=f.cZ.length:=aR A (by simpa using OZ);rw[jS (by omega)]at PM;exact rtn I fun IR we re=>by show Value.int .i64 _=_;rw[e8,aH (by omega),aH (by rw[hE];decide),aH (by rw[VG];decide),PM]
theorem qq{vl:Value}{l:List Ld}(X:Old S w)(hf:eG w S vn vb vs f)(hl:jA w S vl l):eI PG F'.ll #[.agg #[vn,vb,vs],vl] w (eO w fun v' _=>v'= .int .i64 (iu f l)):=by
 have I:=bR w;obtain⟨an,cn,ab,cb,aq,cq,rfl,rfl,rfl,RR,Rk,SM⟩:=hf.shape;obtain⟨al,cl,rfl,Pu,RM⟩:=hl.shape;refine pY (by simp) ?_;refine cJ (cE I (fun _ J v V=>v= .int .i64 (e8 f)) (fun O J r=>BB (oS X r) (hf.cK (kS I r X))) ?_);rintro O _ _ _ Oo r U I h_ rfl;obtain⟨c,hc⟩:∃c,e8 f=c:=⟨_,rfl⟩
 rw[hc];refine dQ.mk ?_ ?_<;>intro hd
 ·have hd:c≠0:=by simpa using hd
  exact rtn I fun IR we re=>by show Value.int .i64 _=_;rw[iu,if_pos (by rw[hc];exact hd),hc]
 have hd:c=0:=by simpa using hd
 refine cJ (cE I (fun _ J v V=>v= .int .i64 (tL f.nodes.length l)) (fun O J r=>Br (oS X r) (hl.cK (kS I r X))) ?_);rintro O _ _ _ Od r U I h_ rfl;exact rtn I fun IR we re=>by show Value.int .i64 _=_;rw[iu,aH (by rw[hc,hd];decide)]
structure Calm(f:fC)(h:Nat):Prop where
 ok:uy f
 c0:0<f.cols
 b2:EO (cT f) f.cols h
 a2:Ht (dY (cT f) f.cols).1 h
 st:kX (cT f) f.cols=[]
 hh:3*h<=90000
structure aBd(f:fC)(l:List Ld)(h:Nat)(x:List Rat):Prop where
 ok:xm f.nodes.length l
 b1:EO (kM (cT f) (dE (fV f l) (-1))) (f.cols+1) h
 x:o6 (cT f) (dE (fV f l) (-1)) f.cols=some x
theorem qt(f:fC)(l:List Ld):(fV f l).length=3*f.nodes.length:=by rw[fV,dI,aJ,kT]
theorem kE(a b:List Rat):(fJ a b).length=a.length:=List.length_mapIdx ..
set_option maxRecDepth 100000
theorem ed.zeroV:ed w S (.agg #[.bool false,.slice none 0 0,.bool false,.slice none 0 0]) 0:=ed.zero
structure eS(w:World)(S:Nat->Prop)(Z:List (List Value))(qs:List Rat):Prop where
 len:Z.length=qs.length
 four:∀W∈Z,W.length=4
 at_:∀(j:Nat) W q,Z[j]? =some W->qs[j]? =some q->jD w S W q
section
variable{S S':Nat->Prop}{H:Hp}{nx:Nat}{iv K:Iv}{B:Nat}{w J V:World}{O:Nat->Sx.dq}{Z:List (List Value)}{qs:List Rat}
theorem eS.nil:eS w S [] []:=⟨rfl,fun _ h=>(by cases h),fun _ _ _ h=>by cases h⟩
theorem eS.cK(h:eS w S Z qs)(D:∀g,S g->V.heap[g]? =w.heap[g]?):eS V S Z qs:=⟨h.len,h.four,fun j W q L G=>by
 obtain⟨b,a,n,c,b2,a2,n2,c2,e,hr⟩:=h.at_ j W q L G
 exact⟨b,a,n,c,b2,a2,n2,c2,e,hr.cK D⟩⟩
theorem eS.cN(h:eS w S Z qs)(D:∀g,S g->S' g):eS w S' Z qs:=⟨h.len,h.four,fun j W q L G=>by
 obtain⟨b,a,n,c,b2,a2,n2,c2,e,hr⟩:=h.at_ j W q L G
 exact⟨b,a,n,c,b2,a2,n2,c2,e,hr.cN D⟩⟩
theorem eS.rel(h:eS w (Cv S B iv) Z qs)(r:Rel H nx iv B w O J)(X:∀g,S g->g<B):eS J (Cv S B iv) Z qs:=h.cK fun _ Y=>Rel.same r X Y
theorem eS.cM(h:eS w (Cv S B iv) Z qs)(r:Rel H nx iv B w O J)(X:∀g,S g->g<B)(U:Ext J V)(hm:∀p,p∈iv->p∈K):eS V (Cv S B K) Z qs:=
 ((h.rel r X).cK fun g Y=>U.block g (Rel.old r X g Y)).cN fun _ Y=>Y.mono hm
theorem eS.push{W:List Value}{q:Rat}(h:eS w S Z qs)(hc:jD w S W q)(h4:W.length=4):eS w S (Z++[W]) (qs++[q]):=by
 refine⟨by simp[h.len],fun x F=>?_,fun j x p L G=>?_⟩
 ·rcases bB.1 F with F|F
  ·exact h.four x F
  ·rw[bD.1 F];exact h4
 ·rcases aO j Z.length with A|A
  ·rw[aI A]at L;rw[aI (by rw[<-h.len];exact A)]at G;exact h.at_ j x p L G
  ·have SR:j=Z.length:=by have:=(aD.1 L).1;simp at this;omega
   subst SR;rw[aM (Nat.le_refl _),bJ]at L;rw[h.len,aM (Nat.le_refl _),bJ]at G;simp at L G;subst L G;exact hc
theorem eS.one(h:eS w S Z qs):∀u∈Z.flatten,u.oneCell'=true:=fun u hu=>by
 obtain⟨W,hc,hu⟩:=List.mem_flatten.1 hu;obtain⟨j,hj⟩:=aN hc;obtain⟨_,_,_,_,_,_,_,_,rfl,_⟩:=h.at_ j W _ hj (aA (by rw[<-h.len];exact(aD.1 hj).1));simp at hu;rcases hu with rfl|rfl|rfl|rfl<;>rfl
theorem eS.list(h:eS w S Z qs)(hs:ie w S 4 v Z.flatten Z.length):cS w S v qs:=⟨Z,h.len▸hs,h.len,h.four,h.at_⟩
end
theorem eG.dK{J V:World}{B:Nat}{iv:Iv}(h:eG V (Nf J V) vn vb vs f)(hB:B<=J.heap.size)(hm:(J.heap.size,V.heap.size)∈iv):eG V (Cv FF B iv) vn vb vs f:=h.cN fun _ Y=>Y.dK hB hm
def GR(W:List Value):Prop:=∃b a n c b2 a2 n2 c2,W=[.bool b,.slice a n c,.bool b2,.slice a2 n2 c2]/\n<=3/\n2<=3
theorem kF(a:Addr)(m n:Nat):(a.add m).add n=a.add (m+n):=by
 unfold Addr.add;split<;>split<;>simp_all<;>omega
theorem iM.l3{b1 b2:Bool}{a1 a2:Option Addr}{n1 n2 c1 c2:Nat}{a b:Int}(h:iM w S (.agg #[.bool b1,.slice a1 n1 c1,.bool b2,.slice a2 n2 c2]) a b)(hf:GR [.bool b1,.slice a1 n1 c1,.bool b2,.slice a2 n2 c2]):
  ed w S (.agg #[.bool b1,.slice a1 n1 c1,.bool b2,.slice a2 n2 c2]) (ratio a b)/\rl (ratio a b)<=3:=by
 obtain⟨_,_,_,_,_,_,_,_,e,k1,k2⟩:=hf;simp only[List.cons.injEq,Value.slice.injEq,Value.bool.injEq,and_true]at e;obtain⟨rfl,⟨rfl,rfl,rfl⟩,rfl,rfl,rfl,rfl⟩:=e;obtain⟨b1,l1,b2,l2,e,L,G⟩:=h;simp only[Value.agg.injEq,Array.mk.injEq,List.cons.injEq,Value.bool.injEq,and_true]at e;obtain⟨rfl,rfl,rfl,rfl⟩:=e;have g1:=L.short k1;have g2:=G.short k2;have r1:=g1.ln;have r2:=g2.ln;have hr:=il a b;refine⟨⟨_,_,_,_,a,b,rfl,?_,?_,rfl⟩,by omega⟩
 ·obtain⟨ng,ls,i1,i2,i3⟩:=g1;exact⟨ng,ls,i1,i2,by omega⟩
 ·obtain⟨ng,ls,i1,i2,i3⟩:=g2;exact⟨ng,ls,i1,i2,by omega⟩
end Go.Ex
namespace Go.Ex
theorem aBQ{a b x p q:Rat}(L:a<x)(G:x<=b):(p<=q->p<=p+(x-a) / (b-a)*(q-p)/\p+(x-a) / (b-a)*(q-p)<=q)/\(q<=p->q<=p+(x-a) / (b-a)*(q-p)/\p+(x-a) / (b-a)*(q-p)<=p):=by
 have hd:0<b-a:=by grind
 have A:0<=(b-a)⁻¹:=Rat.le_of_lt (Rat.inv_pos.2 hd);obtain⟨t,ht⟩:∃t,(x-a) / (b-a)=t:=⟨_,rfl⟩
 have t0:0<=t:=by rw[<-ht,bp];exact Rat.mul_nonneg (by grind) A
 have t1:t<=1:=by
  rw[<-ht,bp,<-Rat.mul_inv_cancel (b-a) (by grind)];exact Rat.mul_le_mul_of_nonneg_right (by grind) A
 rw[ht];refine⟨fun h=>?_,fun h=>?_⟩
 ·have k1:0<=t*(q-p):=Rat.mul_nonneg t0 (by grind);have k2:t*(q-p)<=1*(q-p):=Rat.mul_le_mul_of_nonneg_right t1 (by grind);grind
 ·have k1:0<=t*(p-q):=Rat.mul_nonneg t0 (by grind);have k2:t*(p-q)<=1*(p-q):=Rat.mul_le_mul_of_nonneg_right t1 (by grind);have k3:t*(q-p)= -(t*(p-q)):=by grind
  grind
end Go.Ex
namespace Go.Ex
open Go Go.Sx Go.Proofs
variable{p:Int×Int×(Int×Int)}{xs:List (Int×Int×(Int×Int))}{Z:List (List Value)}{W:List Value}{S:Nat->Prop}{v vb vn vs:Value}{w:World}{f:fC}
theorem pF(c b:Int×Int×Rat):gf c=gf b↔(c.1=b.1/\c.2.1=b.2.1)\/(c.1=b.2.1/\c.2.1=b.1):=by
 unfold gf;rw[Prod.mk.injEq];omega
theorem EX(c b:Int×Int×Rat):jK c=jK b↔c.1=b.1/\c.2.1=b.2.1:=by
 unfold jK;rw[Prod.mk.injEq]
section
variable{α β:Type}{C8:List α}{Fn:α->β}{x:β}
theorem mG{k:Nat}{c:α}(hc:C8[k]? =some c)(h:Fn c≠x)(hE:x∈C8.map Fn↔x∈(C8.drop k).map Fn):x∈C8.map Fn↔x∈(C8.drop (k+1)).map Fn:=by
 rw[hE,List.drop_eq_getElem_cons (aD.1 hc).1,(aD.1 hc).2,List.map_cons,List.mem_cons,or_iff_right fun e=>h e.symm]
theorem vB{k:Nat}{c:α}(hc:C8[k]? =some c)(h:Fn c=x):x∈C8.map Fn:=aU.2 ⟨c,aC hc,h⟩
theorem EY{k:Nat}(D:C8.length<=k)(hE:x∈C8.map Fn↔x∈(C8.drop k).map Fn):x∉C8.map Fn:=fun h=>by
 have:=hE.1 h;rw[List.drop_eq_nil_of_le D]at this
 cases this
end
theorem rV(n:Int)(an ab aq:Option Addr)(ln cn nb cb nq cq:Nat)(w:World):eI PG F'.uM #[.agg #[.slice an ln cn,.slice ab nb cb,.slice aq nq cq],.int .i64 n] w (eO w fun v' _=>∃d,v'= .bool d/\(d=true↔j1 ln n)):=by
 have I:=bR w;refine yI (by simp) ?_;refine dQ.mk ?_ ?_<;>intro L
 ·intro IR we re;have L:=aK L;exact⟨_,rfl,I.tr re.cU,_,rfl,by rw[decide_eq_true_iff];exact⟨fun h=>⟨L,h⟩,fun h=>h.2⟩⟩
 ·intro IR we re;have L:=aG L;exact⟨_,rfl,I.tr re.cU,_,rfl,(fun h=>by cases h),fun h=>absurd h.1 L⟩
theorem mH(n lo A:Int)(w:World):eI PG F'.xU #[.int .i64 n,.int .i64 lo,.int .i64 A] w (eO w fun v' _=>∃d,v'= .bool d/\(d=true↔lo<=n/\n<=A)):=by
 have I:=bR w;refine Ab (by simp) ?_;refine dQ.mk ?_ ?_<;>intro L
 ·intro IR we re;have L:=aK L;exact⟨_,rfl,I.tr re.cU,_,rfl,by rw[decide_eq_true_iff];exact⟨fun h=>⟨L,h⟩,fun h=>h.2⟩⟩
 ·intro IR we re;have L:=aG L;exact⟨_,rfl,I.tr re.cU,_,rfl,(fun h=>by cases h),fun h=>absurd h.1 L⟩
theorem BD{q:Rat}(X:Old S w)(hp:ed w S v q):eI PG F'.kC #[v] w (eO w fun v' _=>v'= .int .i64 (rs q)):=by
 obtain⟨a,b,L,rfl,_,_⟩:=hp.v;exact tO X L
set_option maxHeartbeats 2000000 in
theorem MY(X:Old S w)(hf:eG w S vn vb vs f):eI PG F'.xT #[.agg #[vn,vb,vs]] w (eO w fun v' _=>v'= .int .i64 (e8 f)):=by
 have I:=bR w;obtain⟨an,cn,ab,cb,aq,cq,rfl,rfl,rfl,RR,Rk,SM⟩:=hf.shape;refine Aa (by simp) ?_;refine dQ.mk ?_ ?_<;>intro h0
 ·have h0:=aK h0;exact rtn I fun IR we re=>by show Value.int .i64 _=_;rw[e8,if_pos (by omega)]
 have h0:=aG h0;refine dQ.mk ?_ ?_<;>intro L
 ·have L:=aK L;exact rtn I fun IR we re=>by show Value.int .i64 _=_;rw[e8,if_pos (by omega)]
 have L:=aG L;refine dQ.mk ?_ ?_<;>intro G
 ·have G:=aK G;exact rtn I fun IR we re=>by show Value.int .i64 _=_;rw[e8,if_pos (by omega)]
 have G:=aG G
 refine⟨Nat×World×Iv,fun z=>⟨[(1,pP 0 0),(3,iN z.1)],[(0,.box T.Frame [.v (.slice an f.nodes.length cn),.v (.slice ab f.bars.length cb),.v (.slice aq f.cZ.length cq)])],1,z.2.2,z.2.1⟩,fun z=>f.nodes.length-z.1,
  fun z=>z.1<=f.nodes.length/\dw w.heap.size w z.2.1/\fH fN [] f.nodes=fH fN (f.nodes.take z.1) (f.nodes.drop z.1),?_,?_⟩
 ·intro O J E;exact⟨(0,J,_),⟨aQ _,I.tr E.cU,rfl⟩,Sub.gn [] E⟩
 rintro⟨i,w1,iv⟩ ⟨A,I,hE⟩;dsimp only at A I hE ⊢;refine dQ.mk ?_ ?_<;>intro OZ
 ·have OZ:i<f.nodes.length:=by simpa using OZ
  obtain⟨b,F⟩:∃b,f.nodes[i]? =some b:=⟨_,aA OZ⟩
  have hLl:(f.nodes.take i).length=i:=by rw[aX];omega
  obtain⟨adb,W,QS,hF,-,PV⟩:=hf.nodes.load (by decide) F;have hF:W=[.int .i64 b.1,.int .i64 b.2.1,.int .i64 b.2.2]:=hF;subst hF;refine⟨adb,QS,by omega,[.int .i64 b.1,.int .i64 b.2.1,.int .i64 b.2.2],rfl,rdO PV I X,?_⟩;refine cJ (cE I (fun _ J v V=>∃d,v= .bool d/\(d=true↔nQ b.1)) (fun O J r=>mH _ _ _ J) ?_);rintro O Q6 v1 QT Oo r U I h_ ⟨d0,rfl,Ov⟩
  cases d0
  ·have Ov:¬nQ b.1:=fun h=>by have:=Ov.2 h;cases this
   exact rtn I fun IR we re=>by show Value.int .i64 _=_;rw[e8,aH (by omega),if_pos (by rw[hE,cX F (show fN (f.nodes.take i) b=2 by rw[fN,aH (fun h=>Ov h.1)]) (by decide)];decide),hE,cX F (show fN (f.nodes.take i) b=2 by rw[fN,aH (fun h=>Ov h.1)]) (by decide)]
  replace Ov:=Ov.1 rfl;refine cJ (cE I (fun _ J v V=>∃d,v= .bool d/\(d=true↔nQ b.2.1)) (fun O J r=>mH _ _ _ J) ?_);rintro O Q7 v2 Pt Od r U I h_ ⟨d1,rfl,PF⟩
  cases d1
  ·have PF:¬nQ b.2.1:=fun h=>by have:=PF.2 h;cases this
   exact rtn I fun IR we re=>by show Value.int .i64 _=_;rw[e8,aH (by omega),if_pos (by rw[hE,cX F (show fN (f.nodes.take i) b=2 by rw[fN,aH (fun h=>PF h.2.1)]) (by decide)];decide),hE,cX F (show fN (f.nodes.take i) b=2 by rw[fN,aH (fun h=>PF h.2.1)]) (by decide)]
  replace PF:=PF.1 rfl;refine cJ (cE I (fun _ J v V=>∃d,v= .bool d/\(d=true↔nQ b.2.2)) (fun O J r=>mH _ _ _ J) ?_);rintro O QF v3 Pw Oq r U I h_ ⟨d2,rfl,QD⟩
  cases d2
  ·have QD:¬nQ b.2.2:=fun h=>by have:=QD.2 h;cases this
   exact rtn I fun IR we re=>by show Value.int .i64 _=_;rw[e8,aH (by omega),if_pos (by rw[hE,cX F (show fN (f.nodes.take i) b=2 by rw[fN,aH (fun h=>QD h.2.2)]) (by decide)];decide),hE,cX F (show fN (f.nodes.take i) b=2 by rw[fN,aH (fun h=>QD h.2.2)]) (by decide)]
  replace QD:=QD.1 rfl
  refine⟨Nat×World,fun z=>⟨[(1,pP 0 0),(3,iN i),(4,pP 1 0),(5,iN z.1)],[(1,.box T.Node [.v (.int .i64 b.1),.v (.int .i64 b.2.1),.v (.int .i64 b.2.2)]),(0,.box T.Frame [.v (.slice an f.nodes.length cn),.v (.slice ab f.bars.length cb),.v (.slice aq f.cZ.length cq)])],2,Oq,z.2⟩,fun z=>i-z.1,
   fun z=>z.1<=i/\dw w.heap.size w z.2/\(b∈(f.nodes.take i).map id↔b∈((f.nodes.take i).drop z.1).map id),?_,?_⟩
  ·intro O J E;exact⟨(0,J),⟨aQ _,I.tr E.cU,Iff.rfl⟩,Sub.gn [] E⟩
  rintro⟨k,V⟩ ⟨D,I,hK⟩;dsimp only at D I hK ⊢;refine dQ.mk ?_ ?_<;>intro Oj
  ·have Oj:k<i:=by have:=aK Oj;omega
   obtain⟨c,hc⟩:∃c,f.nodes[k]? =some c:=⟨_,aA (by omega)⟩
   have TQ:(f.nodes.take i)[k]? =some c:=by rw[bS Oj];exact hc
   obtain⟨adc,cs2,XY,TC,-,Tt⟩:=hf.nodes.load (by decide) hc;have TC:cs2=[.int .i64 c.1,.int .i64 c.2.1,.int .i64 c.2.2]:=TC;subst TC;refine cR hτ dx [.x 0,.x 1,.x 2,.x 3,.x 4,.x 5,.x 6] (by kernel_rfl) (by kernel_rfl) ?_;refine⟨adc,XY,by omega,[.int .i64 c.1,.int .i64 c.2.1,.int .i64 c.2.2],rfl,rdO Tt I X,decide (c=b),fun O w o1 o2=>GQ c b w o1 o2,?_⟩;refine dQ.mk ?_ ?_<;>intro hd
   ·have hd:c=b:=aK hd;have RO:b∈f.nodes.take i:=by have:=vB (Fn:=id) TQ hd;rwa [List.map_id]at this
    exact rtn I fun IR we re=>by show Value.int .i64 _=_;rw[e8,aH (by omega),if_pos (by rw[hE,cX F (show fN (f.nodes.take i) b=12 by rw[fN,if_pos ⟨Ov,PF,QD⟩,if_pos RO]) (by decide)];decide),hE,cX F (show fN (f.nodes.take i) b=12 by rw[fN,if_pos ⟨Ov,PF,QD⟩,if_pos RO]) (by decide)]
   have hd:c≠b:=aG hd;have Qh:=mG (Fn:=id) TQ hd hK;refine⟨((k+1:Nat):Int),wo,?_⟩;intro GT w6 E;exact⟨(k+1,w6),⟨Oj,I.tr E.cU,Qh⟩,Sub.gn [] E,by dsimp only;omega⟩
  have Oj:k=i:=by have:=aG Oj;omega
  have Qi:=EY (by rw[hLl];omega) hK;rw[List.map_id]at Qi;rw[gp F (tM.2 ⟨⟨Ov,PF,QD⟩,Qi⟩)]at hE;refine⟨((i+1:Nat):Int),wo,?_⟩;intro GT w6 E;exact⟨(i+1,w6,_),⟨OZ,I.tr E.cU,hE⟩,Sub.gn [] E,by dsimp only;omega⟩
 have OZ:i=f.nodes.length:=aR A (by simpa using OZ);rw[jS (by omega)]at hE
 refine⟨Nat×World×Iv,fun z=>⟨[(1,pP 0 0),(6,iN z.1)],[(0,.box T.Frame [.v (.slice an f.nodes.length cn),.v (.slice ab f.bars.length cb),.v (.slice aq f.cZ.length cq)])],1,z.2.2,z.2.1⟩,fun z=>f.bars.length-z.1,
  fun z=>z.1<=f.bars.length/\dw w.heap.size w z.2.1/\fH (fX f.nodes.length) [] f.bars=fH (fX f.nodes.length) (f.bars.take z.1) (f.bars.drop z.1),?_,?_⟩
 ·intro O J E;exact⟨(0,J,_),⟨aQ _,I.tr E.cU,rfl⟩,Sub.gn [] E⟩
 rintro⟨i,w1,iv⟩ ⟨A,I,PM⟩;dsimp only at A I PM ⊢;refine dQ.mk ?_ ?_<;>intro OZ
 ·have OZ:i<f.bars.length:=by simpa using OZ
  obtain⟨b,F⟩:∃b,f.bars[i]? =some b:=⟨_,aA OZ⟩
  have hLl:(f.bars.take i).length=i:=by rw[aX];omega
  obtain⟨adb,W,QS,hF,-,PV⟩:=hf.bars.load (by decide) F;obtain⟨g0,g1,g2,g3,g4,g5,g6,g7,rfl,hF⟩:=hF;refine⟨adb,QS,by omega,[.int .i64 b.1,.int .i64 b.2.1,.bool g0,.slice g1 g2 g3,.bool g4,.slice g5 g6 g7],rfl,rdO PV I X,?_⟩;refine cJ (cE I (fun _ J v V=>∃d,v= .bool d/\(d=true↔j1 f.nodes.length b.1)) (fun O J r=>rV _ _ _ _ _ _ _ _ _ _ J) ?_);rintro O Q6 v1 QT Oo r U I h_ ⟨d0,rfl,Ov⟩
  cases d0
  ·have Ov:¬j1 f.nodes.length b.1:=fun h=>by have:=Ov.2 h;cases this
   exact rtn I fun IR we re=>by show Value.int .i64 _=_;rw[e8,aH (by omega),aH (by rw[hE];decide),if_pos (by rw[PM,cX F (show fX f.nodes.length (f.bars.take i) b=6 by rw[fX,aH (fun h=>Ov h.1)]) (by decide)];decide),PM,cX F (show fX f.nodes.length (f.bars.take i) b=6 by rw[fX,aH (fun h=>Ov h.1)]) (by decide)]
  replace Ov:=Ov.1 rfl;refine cJ (cE I (fun _ J v V=>∃d,v= .bool d/\(d=true↔j1 f.nodes.length b.2.1)) (fun O J r=>rV _ _ _ _ _ _ _ _ _ _ J) ?_);rintro O Q7 v2 Pt Od r U I h_ ⟨d1,rfl,PF⟩
  cases d1
  ·have PF:¬j1 f.nodes.length b.2.1:=fun h=>by have:=PF.2 h;cases this
   exact rtn I fun IR we re=>by show Value.int .i64 _=_;rw[e8,aH (by omega),aH (by rw[hE];decide),if_pos (by rw[PM,cX F (show fX f.nodes.length (f.bars.take i) b=6 by rw[fX,aH (fun h=>PF h.2)]) (by decide)];decide),PM,cX F (show fX f.nodes.length (f.bars.take i) b=6 by rw[fX,aH (fun h=>PF h.2)]) (by decide)]
  replace PF:=PF.1 rfl;refine dQ.mk ?_ ?_<;>intro QA
  ·have QA:b.1=b.2.1:=by simpa using QA
   exact rtn I fun IR we re=>by show Value.int .i64 _=_;rw[e8,aH (by omega),aH (by rw[hE];decide),if_pos (by rw[PM,cX F (show fX f.nodes.length (f.bars.take i) b=3 by rw[fX,if_pos ⟨Ov,PF⟩,if_pos QA]) (by decide)];decide),PM,cX F (show fX f.nodes.length (f.bars.take i) b=3 by rw[fX,if_pos ⟨Ov,PF⟩,if_pos QA]) (by decide)]
  have QA:b.1≠b.2.1:=by simpa using QA
  refine⟨Nat×World,fun z=>⟨[(1,pP 0 0),(6,iN i),(7,pP 1 0),(8,iN z.1)],[(1,.box T.Bar [.v (.int .i64 b.1),.v (.int .i64 b.2.1),.v (.bool g0),.v (.slice g1 g2 g3),.v (.bool g4),.v (.slice g5 g6 g7)]),(0,.box T.Frame [.v (.slice an f.nodes.length cn),.v (.slice ab f.bars.length cb),.v (.slice aq f.cZ.length cq)])],2,Od,z.2⟩,fun z=>i-z.1,
   fun z=>z.1<=i/\dw w.heap.size w z.2/\(gf b∈(f.bars.take i).map gf↔gf b∈((f.bars.take i).drop z.1).map gf),?_,?_⟩
  ·intro O J E;exact⟨(0,J),⟨aQ _,I.tr E.cU,Iff.rfl⟩,Sub.gn [] E⟩
  rintro⟨k,V⟩ ⟨D,I,hK⟩;dsimp only at D I hK ⊢;refine dQ.mk ?_ ?_<;>intro Oj
  ·have Oj:k<i:=by have:=aK Oj;omega
   obtain⟨c,hc⟩:∃c,f.bars[k]? =some c:=⟨_,aA (by omega)⟩
   have TQ:(f.bars.take i)[k]? =some c:=by rw[bS Oj];exact hc
   obtain⟨adc,cs2,XY,TC,-,Tt⟩:=hf.bars.load (by decide) hc;obtain⟨q0,q1,q2,q3,q4,q5,q6,q7,rfl,-⟩:=TC;refine⟨adc,XY,by omega,[.int .i64 c.1,.int .i64 c.2.1,.bool q0,.slice q1 q2 q3,.bool q4,.slice q5 q6 q7],rfl,rdO Tt I X,?_⟩;refine dQ.mk ?_ ?_<;>intro e1
   ·have e1:(c.1=b.1):=by simpa using e1
    refine dQ.mk ?_ ?_<;>intro e2
    ·have e2:(c.2.1=b.2.1):=by simpa using e2
     have RO:=vB (Fn:=gf) TQ (show gf c=gf b by rw[pF];omega);exact rtn I fun IR we re=>by show Value.int .i64 _=_;rw[e8,aH (by omega),aH (by rw[hE];decide),if_pos (by rw[PM,cX F (show fX f.nodes.length (f.bars.take i) b=5 by rw[fX,if_pos ⟨Ov,PF⟩,aH QA,if_pos RO]) (by decide)];decide),PM,cX F (show fX f.nodes.length (f.bars.take i) b=5 by rw[fX,if_pos ⟨Ov,PF⟩,aH QA,if_pos RO]) (by decide)]
    ·have e2:¬(c.2.1=b.2.1):=by simpa using e2
     refine dQ.mk ?_ ?_<;>intro e3
     ·have e3:(c.1=b.2.1):=by simpa using e3
      refine dQ.mk ?_ ?_<;>intro e4
      ·have e4:(c.2.1=b.1):=by simpa using e4
       have RO:=vB (Fn:=gf) TQ (show gf c=gf b by rw[pF];omega);exact rtn I fun IR we re=>by show Value.int .i64 _=_;rw[e8,aH (by omega),aH (by rw[hE];decide),if_pos (by rw[PM,cX F (show fX f.nodes.length (f.bars.take i) b=5 by rw[fX,if_pos ⟨Ov,PF⟩,aH QA,if_pos RO]) (by decide)];decide),PM,cX F (show fX f.nodes.length (f.bars.take i) b=5 by rw[fX,if_pos ⟨Ov,PF⟩,aH QA,if_pos RO]) (by decide)]
      ·have e4:¬(c.2.1=b.1):=by simpa using e4
       have Qh:=mG (Fn:=gf) TQ (show gf c≠gf b by rw[Ne,pF];omega) hK;refine⟨((k+1:Nat):Int),wo,?_⟩;intro GT w6 E;exact⟨(k+1,w6),⟨Oj,I.tr E.cU,Qh⟩,Sub.gn [] E,by dsimp only;omega⟩
     ·have e3:¬(c.1=b.2.1):=by simpa using e3
      have Qh:=mG (Fn:=gf) TQ (show gf c≠gf b by rw[Ne,pF];omega) hK;refine⟨((k+1:Nat):Int),wo,?_⟩;intro GT w6 E;exact⟨(k+1,w6),⟨Oj,I.tr E.cU,Qh⟩,Sub.gn [] E,by dsimp only;omega⟩
   ·have e1:¬(c.1=b.1):=by simpa using e1
    refine dQ.mk ?_ ?_<;>intro e3
    ·have e3:(c.1=b.2.1):=by simpa using e3
     refine dQ.mk ?_ ?_<;>intro e4
     ·have e4:(c.2.1=b.1):=by simpa using e4
      have RO:=vB (Fn:=gf) TQ (show gf c=gf b by rw[pF];omega);exact rtn I fun IR we re=>by show Value.int .i64 _=_;rw[e8,aH (by omega),aH (by rw[hE];decide),if_pos (by rw[PM,cX F (show fX f.nodes.length (f.bars.take i) b=5 by rw[fX,if_pos ⟨Ov,PF⟩,aH QA,if_pos RO]) (by decide)];decide),PM,cX F (show fX f.nodes.length (f.bars.take i) b=5 by rw[fX,if_pos ⟨Ov,PF⟩,aH QA,if_pos RO]) (by decide)]
     ·have e4:¬(c.2.1=b.1):=by simpa using e4
      have Qh:=mG (Fn:=gf) TQ (show gf c≠gf b by rw[Ne,pF];omega) hK;refine⟨((k+1:Nat):Int),wo,?_⟩;intro GT w6 E;exact⟨(k+1,w6),⟨Oj,I.tr E.cU,Qh⟩,Sub.gn [] E,by dsimp only;omega⟩
    ·have e3:¬(c.1=b.2.1):=by simpa using e3
     have Qh:=mG (Fn:=gf) TQ (show gf c≠gf b by rw[Ne,pF];omega) hK;refine⟨((k+1:Nat):Int),wo,?_⟩;intro GT w6 E;exact⟨(k+1,w6),⟨Oj,I.tr E.cU,Qh⟩,Sub.gn [] E,by dsimp only;omega⟩
  have Oj:k=i:=by have:=aG Oj;omega
  have Qi:=EY (by rw[hLl];omega) hK;refine cJ (cE I (fun _ J v V=>v= .int .i64 (rs b.2.2)) (fun O J r=>(BD (oS X r) (hF.cK (kS I r X)))) ?_);rintro O QF v3 Pw Oq r U I h_ rfl;obtain⟨cf,Wr⟩:∃c,rs b.2.2=c:=⟨_,rfl⟩
  rw[Wr];refine dQ.mk ?_ ?_<;>intro Pn
  ·have Pn:b.2.2<=0:=by have:=aK Pn;rw[<-Rat.not_lt,<-pD];omega
   exact rtn I fun IR we re=>by show Value.int .i64 _=_;rw[e8,aH (by omega),aH (by rw[hE];decide),if_pos (by rw[PM,cX F (show fX f.nodes.length (f.bars.take i) b=2 by rw[fX,if_pos ⟨Ov,PF⟩,aH QA,aH Qi,if_pos Pn]) (by decide)];decide),PM,cX F (show fX f.nodes.length (f.bars.take i) b=2 by rw[fX,if_pos ⟨Ov,PF⟩,aH QA,aH Qi,if_pos Pn]) (by decide)]
  have Pn:0<b.2.2:=by have:=aG Pn;rw[<-pD];omega
  rw[gp F (nZ.2 ⟨⟨Ov,PF⟩,QA,Qi,Pn⟩)]at PM;refine⟨((i+1:Nat):Int),wo,?_⟩;intro GT w6 E;exact⟨(i+1,w6,_),⟨OZ,I.tr E.cU,PM⟩,Sub.gn [] E,by dsimp only;omega⟩
 have OZ:i=f.bars.length:=aR A (by simpa using OZ);rw[jS (by omega)]at PM
 refine⟨Nat×World×Iv,fun z=>⟨[(1,pP 0 0),(10,iN z.1)],[(0,.box T.Frame [.v (.slice an f.nodes.length cn),.v (.slice ab f.bars.length cb),.v (.slice aq f.cZ.length cq)])],1,z.2.2,z.2.1⟩,fun z=>f.cZ.length-z.1,
  fun z=>z.1<=f.cZ.length/\dw w.heap.size w z.2.1/\fH (kh f.nodes.length) [] f.cZ=fH (kh f.nodes.length) (f.cZ.take z.1) (f.cZ.drop z.1),?_,?_⟩
 ·intro O J E;exact⟨(0,J,_),⟨aQ _,I.tr E.cU,rfl⟩,Sub.gn [] E⟩
 rintro⟨i,w1,iv⟩ ⟨A,I,Vg⟩;dsimp only at A I Vg ⊢;refine dQ.mk ?_ ?_<;>intro OZ
 ·have OZ:i<f.cZ.length:=by simpa using OZ
  obtain⟨b,F⟩:∃b,f.cZ[i]? =some b:=⟨_,aA OZ⟩
  have hLl:(f.cZ.take i).length=i:=by rw[aX];omega
  obtain⟨adb,W,QS,hF,-,PV⟩:=hf.cZ.load (by decide) F;obtain⟨g0,g1,g2,g3,g4,g5,g6,g7,rfl,hF⟩:=hF;refine⟨adb,QS,by omega,[.int .i64 b.1,.int .i64 b.2.1,.bool g0,.slice g1 g2 g3,.bool g4,.slice g5 g6 g7],rfl,rdO PV I X,?_⟩;refine cJ (cE I (fun _ J v V=>∃d,v= .bool d/\(d=true↔j1 f.nodes.length b.1)) (fun O J r=>rV _ _ _ _ _ _ _ _ _ _ J) ?_);rintro O _ _ _ Oo r U I h_ ⟨d0,rfl,Ov⟩
  cases d0
  ·have Ov:¬j1 f.nodes.length b.1:=fun h=>by have:=Ov.2 h;cases this
   exact rtn I fun IR we re=>by show Value.int .i64 _=_;rw[e8,aH (by omega),aH (by rw[hE];decide),aH (by rw[PM];decide),Vg,cX F (show kh f.nodes.length (f.cZ.take i) b=6 by rw[kh,aH Ov]) (by decide)]
  replace Ov:=Ov.1 rfl;refine cJ (cE I (fun _ J v V=>∃d,v= .bool d/\(d=true↔0<=b.2.1/\b.2.1<=2)) (fun O J r=>mH _ _ _ J) ?_);rintro O _ _ _ Od r U I h_ ⟨d1,rfl,QE⟩
  cases d1
  ·have QE:¬(0<=b.2.1/\b.2.1<=2):=fun h=>by have:=QE.2 h;cases this
   exact rtn I fun IR we re=>by show Value.int .i64 _=_;rw[e8,aH (by omega),aH (by rw[hE];decide),aH (by rw[PM];decide),Vg,cX F (show kh f.nodes.length (f.cZ.take i) b=2 by rw[kh,if_pos Ov,aH QE]) (by decide)]
  replace QE:=QE.1 rfl
  refine⟨Nat×World,fun z=>⟨[(1,pP 0 0),(10,iN i),(11,pP 1 0),(12,iN z.1)],[(1,.box T.Dp [.v (.int .i64 b.1),.v (.int .i64 b.2.1),.v (.bool g0),.v (.slice g1 g2 g3),.v (.bool g4),.v (.slice g5 g6 g7)]),(0,.box T.Frame [.v (.slice an f.nodes.length cn),.v (.slice ab f.bars.length cb),.v (.slice aq f.cZ.length cq)])],2,Od,z.2⟩,fun z=>i-z.1,
   fun z=>z.1<=i/\dw w.heap.size w z.2/\(jK b∈(f.cZ.take i).map jK↔jK b∈((f.cZ.take i).drop z.1).map jK),?_,?_⟩
  ·intro O J E;exact⟨(0,J),⟨aQ _,I.tr E.cU,Iff.rfl⟩,Sub.gn [] E⟩
  rintro⟨k,V⟩ ⟨D,I,hK⟩;dsimp only at D I hK ⊢;refine dQ.mk ?_ ?_<;>intro Oj
  ·have Oj:k<i:=by have:=aK Oj;omega
   obtain⟨c,hc⟩:∃c,f.cZ[k]? =some c:=⟨_,aA (by omega)⟩
   have TQ:(f.cZ.take i)[k]? =some c:=by rw[bS Oj];exact hc
   obtain⟨adc,cs2,XY,TC,-,Tt⟩:=hf.cZ.load (by decide) hc;obtain⟨q0,q1,q2,q3,q4,q5,q6,q7,rfl,-⟩:=TC;refine cR hτ dx [.x 0,.x 1,.x 2,.x 3,.x 4,.x 5,.x 6,.x 7,.x 8,.x 9,.x 10,.x 11,.x 12,.x 13,.x 14,.x 15,.x 16,.x 17,.x 18,.x 19] (by kernel_rfl) (by kernel_rfl) ?_;refine⟨adc,XY,by omega,.int .i64 c.1,fun O J r=>?_,?_⟩
   ·obtain⟨k1,k2⟩:=Tt 0 _ rfl;rw[cL (w:=w) (V:=J) (by simp only[dF];exact(I.tr r.cU).block _ (X _ k1))];simp only[aE,kF]at k2 ⊢;exact k2
   refine dQ.mk ?_ ?_<;>intro e1
   ·have e1:(c.1=b.1):=by simpa using e1
    refine⟨adc,XY,by omega,.int .i64 c.2.1,fun O J r=>?_,?_⟩
    ·obtain⟨k1,k2⟩:=Tt 1 _ rfl;rw[cL (w:=w) (V:=J) (by simp only[dF];exact(I.tr r.cU).block _ (X _ k1))];simp only[aE,kF]at k2 ⊢;exact k2
    refine dQ.mk ?_ ?_<;>intro e2
    ·have e2:(c.2.1=b.2.1):=by simpa using e2
     have RO:=vB (Fn:=jK) TQ (show jK c=jK b by rw[EX];omega);exact rtn I fun IR we re=>by show Value.int .i64 _=_;rw[e8,aH (by omega),aH (by rw[hE];decide),aH (by rw[PM];decide),Vg,cX F (show kh f.nodes.length (f.cZ.take i) b=5 by rw[kh,if_pos Ov,if_pos QE,if_pos RO]) (by decide)]
    ·have e2:¬(c.2.1=b.2.1):=by simpa using e2
     have Qh:=mG (Fn:=jK) TQ (show jK c≠jK b by rw[Ne,EX];omega) hK;refine⟨((k+1:Nat):Int),wo,?_⟩;intro GT w6 E;exact⟨(k+1,w6),⟨Oj,I.tr E.cU,Qh⟩,Sub.gn [] E,by dsimp only;omega⟩
   ·have e1:¬(c.1=b.1):=by simpa using e1
    have Qh:=mG (Fn:=jK) TQ (show jK c≠jK b by rw[Ne,EX];omega) hK;refine⟨((k+1:Nat):Int),wo,?_⟩;intro GT w6 E;exact⟨(k+1,w6),⟨Oj,I.tr E.cU,Qh⟩,Sub.gn [] E,by dsimp only;omega⟩
  have Oj:k=i:=by have:=aG Oj;omega
  have Qi:=EY (by rw[hLl];omega) hK;refine cJ (cE I (fun _ J v V=>v= .int .i64 (rs b.2.2)) (fun O J r=>(BD (oS X r) (hF.cK (kS I r X)))) ?_);rintro O _ _ _ Oq r U I h_ rfl;obtain⟨cf,Wr⟩:∃c,rs b.2.2=c:=⟨_,rfl⟩
  rw[Wr];refine dQ.mk ?_ ?_<;>intro Pn
  ·have Pn:b.2.2<0:=by have:=aK Pn;rw[<-mF];omega
   exact rtn I fun IR we re=>by show Value.int .i64 _=_;rw[e8,aH (by omega),aH (by rw[hE];decide),aH (by rw[PM];decide),Vg,cX F (show kh f.nodes.length (f.cZ.take i) b=2 by rw[kh,if_pos Ov,if_pos QE,aH Qi,if_pos Pn]) (by decide)]
  have Pn:0<=b.2.2:=by have:=aG Pn;rw[<-Rat.not_lt,<-mF];omega
  rw[gp F (rR.2 ⟨Ov,QE,Qi,Pn⟩)]at Vg;refine⟨((i+1:Nat):Int),wo,?_⟩;intro GT w6 E;exact⟨(i+1,w6,_),⟨OZ,I.tr E.cU,Vg⟩,Sub.gn [] E,by dsimp only;omega⟩
 have OZ:i=f.cZ.length:=aR A (by simpa using OZ);rw[jS (by omega)]at Vg;exact rtn I fun IR we re=>by show Value.int .i64 _=_;rw[e8,aH (by omega),aH (by rw[hE];decide),aH (by rw[PM];decide),Vg]
def rq(p:Int×Int):Rat:=ratio p.1 p.2
structure Hg where
 nodes:List (Int×Int×Int)
 bars:List (Int×Int×(Int×Int))
 cZ:List (Int×Int×(Int×Int))
def GS(p:Int×Int×(Int×Int)):Int×Int×Rat:=(p.1,p.2.1,rq p.2.2)
def Hg.val(f:Hg):fC:=⟨f.nodes,f.bars.map GS,f.cZ.map GS⟩
def vC(w:World)(S:Nat->Prop)(W:List Value)(p:Int×Int×(Int×Int)):Prop:=∃b a n c b2 a2 n2 c2,W=[.int .i64 p.1,.int .i64 p.2.1,.bool b,.slice a n c,.bool b2,.slice a2 n2 c2]/\iM w S (.agg #[.bool b,.slice a n c,.bool b2,.slice a2 n2 c2]) p.2.2.1 p.2.2.2
structure qu(w:World)(S:Nat->Prop)(vn vb vs:Value)(f:Hg):Prop where
 nodes:nK w S vn f.nodes
 bars:fG 6 vC w S vb f.bars
 cZ:fG 6 vC w S vs f.cZ
theorem vC.cK{V:World}(h:vC w S W p)(D:∀g,S g->V.heap[g]? =w.heap[g]?):vC V S W p:=by
 obtain⟨b,a,n,c,b2,a2,n2,c2,L,G⟩:=h;exact⟨b,a,n,c,b2,a2,n2,c2,L,G.cK D⟩
theorem qu.cK{V:World}{f:Hg}(h:qu w S vn vb vs f)(D:∀g,S g->V.heap[g]? =w.heap[g]?):qu V S vn vb vs f:=
 ⟨fG.cK (w:=w) (fun _ _ h=>h) h.nodes D,fG.cK (fun _ _ h=>h.cK D) h.bars D,fG.cK (fun _ _ h=>h.cK D) h.cZ D⟩
theorem vC.few(h:vC w S W p)(hf:GR (W.drop 2)):ER w S W (GS p)/\rl (GS p).2.2<=3:=by
 obtain⟨b,a,n,c,b2,a2,n2,c2,rfl,G⟩:=h;obtain⟨N,h4⟩:=G.l3 hf;exact⟨⟨b,a,n,c,b2,a2,n2,c2,rfl,N⟩,h4⟩
theorem fG.cells{α:Type}{k:Nat}{P:World->(Nat->Prop)->List Value->α->Prop}{xs:List α}(h:fG k P w S v xs):
  ∃Z:List (List Value),Z.length=xs.length/\fG k (fun w S W (y:List Value×α)=>W=y.1/\P w S W y.2) w S v (Z.zip xs)/\(∀(j:Nat) W x,Z[j]? =some W->xs[j]? =some x->P w S W x)/\
   ∀{β:Type} (Q:World->(Nat->Prop)->List Value->β->Prop) (ys:List β),ys.length=xs.length->(∀(j:Nat) W y,Z[j]? =some W->ys[j]? =some y->Q w S W y)->fG k Q w S v ys:=by
 obtain⟨Z,L,G,N,h4⟩:=h;have hz:(Z.zip xs).length=xs.length:=by rw[List.length_zip,G,Nat.min_self]
 refine⟨Z,G,⟨Z,by rw[hz];exact L,by rw[hz,G],N,fun j W y k1 k2=>?_⟩,h4,fun Q ys hl hQ=>⟨Z,by rw[hl];exact L,by rw[hl,G],N,hQ⟩⟩;rw[List.getElem?_zip_eq_some]at k2;rw[k1]at k2;exact⟨by injection k2.1,h4 j W _ k1 k2.2⟩
theorem aAD.of(h4:∀(j:Nat) W x,Z[j]? =some W->xs[j]? =some x->vC w S W x)
  (hQ:∀{β:Type} (Q:World->(Nat->Prop)->List Value->β->Prop) (ys:List β),ys.length=xs.length->(∀(j:Nat) W y,Z[j]? =some W->ys[j]? =some y->Q w S W y)->fG 6 Q w S v ys)
  (hl:Z.length=xs.length) (hf:∀j W,j<xs.length->Z[j]? =some W->GR (W.drop 2)):MU w S v (xs.map GS)/\∀b∈xs.map GS,rl b.2.2<=3:=by
 refine⟨hQ ER _ (aJ ..) fun j W y k1 k2=>?_,fun b hb=>?_⟩
 ·rw[aL]at k2;obtain⟨p,hp,rfl⟩:=Option.map_eq_some_iff.1 k2;exact((h4 j W p k1 hp).few (hf j W (aD.1 hp).1 k1)).1
 ·obtain⟨p,hp,rfl⟩:=aU.1 hb;obtain⟨j,hj⟩:=aN hp;have Tj:=(aD.1 hj).1;have hc:Z[j]? =some Z[j]:=aA (by omega);exact((h4 j _ p hc hj).few (hf j _ Tj hc)).2
section
variable{xs:List Rat}{l:List (Rat×Rat)}{i:Nat}{x:Rat}{r:Rat×Rat}
end
theorem my(hf:eG w S vn vb vs f)(h60:f.bars.length<=60/\f.cZ.length<=60):eI PG F'.qH #[.agg #[vn,vb,vs]] w (eO w fun v' _=>v'= .int .i64 f.cols):=by
 have I:=bR w;obtain⟨an,cn,ab,cb,aq,cq,rfl,rfl,rfl,RR,Rk,SM⟩:=hf.shape;refine u6 (by simp) ?_;refine⟨((f.bars.length+f.cZ.length:Nat):Int),wo,?_⟩;exact rtn I fun IR we re=>rfl
section
variable{S:Nat->Prop}{w w1 J:World}{H:Hp}{nx:Nat}{iv:Iv}{O:Nat->Sx.dq}
end
end Go.Ex
namespace Go.Ex
end Go.Ex
namespace Go.Ex
open Go Go.Sx Go.Proofs
variable{b:Int×Int×Rat}{S:Nat->Prop}{f:fC}
theorem KD{n:Nat}(h:n<9223372036854775807):ln n<=2:=by have:=BE (n:=(n:Int)) (by omega) (by omega);rwa [Int.natAbs_natCast]at this
theorem M0(h:e8 f=0)(hb:b∈f.bars):b.1≠b.2.1/\0<b.2.2:=by
 obtain⟨_,_,Qq,_⟩:=wA h;obtain⟨k,D⟩:=aN hb;have:=nZ.1 (jL Qq k b D);exact⟨this.2.1,this.2.2.2⟩
structure aBe{α:Type}(k:Nat)(P:World->(Nat->Prop)->List Value->α->Prop)(w:World)(S:Nat->Prop)(Z:List (List Value))(qs:List α):Prop where
 len:Z.length=qs.length
 wid:∀W∈Z,W.length=k
 at_:∀(j:Nat) W q,Z[j]? =some W->qs[j]? =some q->P w S W q
section
variable{α:Type}{k:Nat}{P:World->(Nat->Prop)->List Value->α->Prop}{w V:World}{S S':Nat->Prop}{Z:List (List Value)}{qs:List α}
end
theorem Iu{n:Int}(h:n.natAbs<9223372036854775807):rl (n:Rat)<=2:=by
 have G:ln n.natAbs<=2:=KD h;unfold rl;rw[Rat.num_intCast,Rat.den_intCast];have N:ln 1=1:=by decide
 omega
set_option maxHeartbeats 1000000 in
theorem Bt{w:World}{vn vb vs:Value}{i:Nat}(X:Old S w)(hf:eG w S vn vb vs f)(Of:uy f)(hb:f.bars[i]? =some b):
  eI PG F'.ns #[.agg #[vn,vb,vs],.int .i64 i] w (eO w fun v' _=>v'= .agg #[.int .i64 ((f.node b.2.1).1-(f.node b.1).1),.int .i64 ((f.node b.2.1).2.1-(f.node b.1).2.1),.int .i64 ((f.node b.2.1).2.2-(f.node b.1).2.2)]):=by
 have I:=bR w;obtain⟨an,cn,ab,cb,aq,cq,rfl,rfl,rfl,RR,Rk,SM⟩:=hf.shape;obtain⟨SH,S1,S2⟩:=And.intro Of.n (And.intro Of.b Of.s);have OZ:=(aD.1 hb).1;obtain⟨hA,hB⟩:=Of.Ng b (aC hb);obtain⟨ka,pa,ea,hka,hpa,Wo,⟨_,_⟩,⟨_,_⟩,⟨_,_⟩⟩:=Of.node hA.1 hA.2;obtain⟨kb,pb,eb,Oj,Td,Wp,⟨_,_⟩,⟨_,_⟩,⟨_,_⟩⟩:=Of.node hB.1 hB.2;obtain⟨adx,csx,QE,RQ,-,PU⟩:=hf.bars.load (by decide) hb;obtain⟨g0,g1,g2,g3,g4,g5,g6,g7,rfl,-⟩:=RQ;obtain⟨ada,csa,haa,hPa,-,Q1⟩:=hf.nodes.load (by decide) hpa;obtain⟨adb,csb,QS,hPb,-,PV⟩:=hf.nodes.load (by decide) Td;have hPa:csa=[.int .i64 pa.1,.int .i64 pa.2.1,.int .i64 pa.2.2]:=hPa;have hPb:csb=[.int .i64 pb.1,.int .i64 pb.2.1,.int .i64 pb.2.2]:=hPb;subst hPa hPb;rw[Wo,Wp];rw[ea,eb]at PU;refine rz (by simp) ?_;refine jQ hτ dx (.x 0 (.x 2 (.x 4 (.x 10 (.x 12 (.x 14 (.ld 1 12583680 (.ld 3 12583904 (.x 5 (.x 6 (.ld 7 12583680 (.x 8 (.ld 9 12582912 (.ld 11 9175040 (.ld 13 9404416 (.x 15 (.x 16 (.ld 17 9175040 (.x 18 (.ld 19 8388608 (.two 20 (.x 21 (.x 22 (.x 23 .nil))) 21 (.x 20 (.x 22 (.x 23 .nil)))))))))))))))))))))))) (by kernel_rfl) (by kernel_rfl) ?_;refine⟨adx,QE,by omega,.int .i64 (ka:Int),fun O J r=>?_,?_⟩
 ·obtain⟨k1,k2⟩:=PU 0 _ rfl;rw[cL (w:=w) (V:=J) (by simp only[dF];exact(I.tr r.cU).block _ (X _ k1))];simp only[aE,kF]at k2 ⊢;exact k2
 refine⟨ada,haa,by omega,[.int .i64 pa.1,.int .i64 pa.2.1,.int .i64 pa.2.2],rfl,rdO Q1 I X,adx,QE,by omega,.int .i64 (kb:Int),fun O J r=>?_,?_⟩
 ·obtain⟨k1,k2⟩:=PU 1 _ rfl;rw[cL (w:=w) (V:=J) (by simp only[dF];exact(I.tr r.cU).block _ (X _ k1))];simp only[aE,kF]at k2 ⊢;exact k2
 refine⟨adb,QS,by omega,[.int .i64 pb.1,.int .i64 pb.2.1,.int .i64 pb.2.2],rfl,rdO PV I X,?_,?_⟩
 ·conv=>whnf
  refine⟨[.int .i64 pb.1,.int .i64 pb.2.1,.int .i64 pb.2.2],rfl,rdO PV I X,rfl,.int .i64 (kb:Int),fun O J r=>?_,?_⟩
  ·obtain⟨k1,k2⟩:=PU 1 _ rfl;rw[cL (w:=w) (V:=J) (by simp only[dF];exact(I.tr r.cU).block _ (X _ k1))];simp only[aE,kF]at k2 ⊢;exact k2
  refine⟨rfl,rfl,rfl,[.int .i64 pa.1,.int .i64 pa.2.1,.int .i64 pa.2.2],rfl,rdO Q1 I X,rfl,.int .i64 (ka:Int),fun O J r=>?_,?_⟩
  ·obtain⟨k1,k2⟩:=PU 0 _ rfl;rw[cL (w:=w) (V:=J) (by simp only[dF];exact(I.tr r.cU).block _ (X _ k1))];simp only[aE,kF]at k2 ⊢;exact k2
  refine⟨rfl,rfl,rfl,[.int .i64 pb.1,.int .i64 pb.2.1,.int .i64 pb.2.2],rfl,rdO PV I X,rfl,.int .i64 (kb:Int),fun O J r=>?_,?_⟩
  ·obtain⟨k1,k2⟩:=PU 1 _ rfl;rw[cL (w:=w) (V:=J) (by simp only[dF];exact(I.tr r.cU).block _ (X _ k1))];simp only[aE,kF]at k2 ⊢;exact k2
  refine⟨rfl,rfl,rfl,[.int .i64 pa.1,.int .i64 pa.2.1,.int .i64 pa.2.2],rfl,rdO Q1 I X,rfl,.int .i64 (ka:Int),fun O J r=>?_,?_⟩
  ·obtain⟨k1,k2⟩:=PU 0 _ rfl;rw[cL (w:=w) (V:=J) (by simp only[dF];exact(I.tr r.cU).block _ (X _ k1))];simp only[aE,kF]at k2 ⊢;exact k2
  refine⟨rfl,rfl,rfl,[.int .i64 pb.1,.int .i64 pb.2.1,.int .i64 pb.2.2],rfl,rdO PV I X,rfl,.int .i64 (kb:Int),fun O J r=>?_,?_⟩
  ·obtain⟨k1,k2⟩:=PU 1 _ rfl;rw[cL (w:=w) (V:=J) (by simp only[dF];exact(I.tr r.cU).block _ (X _ k1))];simp only[aE,kF]at k2 ⊢;exact k2
  refine⟨rfl,rfl,rfl,pb.1-pa.1,wo,pb.2.1-pa.2.1,wo,pb.2.2-pa.2.2,wo,?_⟩;exact rtn I fun IR we re=>rfl
 ·conv=>whnf
  refine⟨[.int .i64 pb.1,.int .i64 pb.2.1,.int .i64 pb.2.2],rfl,rdO PV I X,rfl,.int .i64 (kb:Int),fun O J r=>?_,?_⟩
  ·obtain⟨k1,k2⟩:=PU 1 _ rfl;rw[cL (w:=w) (V:=J) (by simp only[dF];exact(I.tr r.cU).block _ (X _ k1))];simp only[aE,kF]at k2 ⊢;exact k2
  refine⟨rfl,rfl,rfl,[.int .i64 pa.1,.int .i64 pa.2.1,.int .i64 pa.2.2],rfl,rdO Q1 I X,rfl,.int .i64 (ka:Int),fun O J r=>?_,?_⟩
  ·obtain⟨k1,k2⟩:=PU 0 _ rfl;rw[cL (w:=w) (V:=J) (by simp only[dF];exact(I.tr r.cU).block _ (X _ k1))];simp only[aE,kF]at k2 ⊢;exact k2
  refine⟨rfl,rfl,rfl,[.int .i64 pb.1,.int .i64 pb.2.1,.int .i64 pb.2.2],rfl,rdO PV I X,rfl,.int .i64 (kb:Int),fun O J r=>?_,?_⟩
  ·obtain⟨k1,k2⟩:=PU 1 _ rfl;rw[cL (w:=w) (V:=J) (by simp only[dF];exact(I.tr r.cU).block _ (X _ k1))];simp only[aE,kF]at k2 ⊢;exact k2
  refine⟨rfl,rfl,rfl,[.int .i64 pa.1,.int .i64 pa.2.1,.int .i64 pa.2.2],rfl,rdO Q1 I X,rfl,.int .i64 (ka:Int),fun O J r=>?_,?_⟩
  ·obtain⟨k1,k2⟩:=PU 0 _ rfl;rw[cL (w:=w) (V:=J) (by simp only[dF];exact(I.tr r.cU).block _ (X _ k1))];simp only[aE,kF]at k2 ⊢;exact k2
  refine⟨rfl,rfl,rfl,[.int .i64 pb.1,.int .i64 pb.2.1,.int .i64 pb.2.2],rfl,rdO PV I X,rfl,.int .i64 (kb:Int),fun O J r=>?_,?_⟩
  ·obtain⟨k1,k2⟩:=PU 1 _ rfl;rw[cL (w:=w) (V:=J) (by simp only[dF];exact(I.tr r.cU).block _ (X _ k1))];simp only[aE,kF]at k2 ⊢;exact k2
  refine⟨rfl,rfl,rfl,pb.1-pa.1,wo,pb.2.1-pa.2.1,wo,pb.2.2-pa.2.2,wo,?_⟩;exact rtn I fun IR we re=>rfl
section
variable{S S':Nat->Prop}{H:Hp}{nx:Nat}{iv K:Iv}{B:Nat}{w J V:World}{O:Nat->Sx.dq}{v:Value}{l:List (Rat×Rat)}
end
end Go.Ex
namespace Go.Ex
abbrev I3:=Int×Int×Int
def NX(p:I3):Prop:=nQ p.1/\nQ p.2.1/\nQ p.2.2
instance (p : I3) : Decidable (NX p) := by unfold NX; infer_instance
end Go.Ex
namespace Go.Ex
open Go Go.Sx Go.Proofs
end Go.Ex
namespace Go.Sx
open Go Go.Ex Go.Proofs
variable{vs:List Value}{O:Nat->Sx.dq}
theorem Sub.aB2{B nx:Nat}{l:Env}{H:Hp}{iv:Iv}{w J:World}{t:xD}(id:Nat){bt:Nat}(PY:dG H id=some (.box bt (vs.map At.v)))(r:Rel H nx iv B w O J)
  (h:Rel ((id,.arr bt vs)::H) nx iv B w O J->Sx.Sub B l nx O J t):Sx.Sub B l nx O J t:=by
 have WK:=r.nn id _ PY (by intros;simp) (by simp);have PT:=r.box id bt _ PY;have RF:(vs.map At.v).map (At.den O)=vs:=by
  rw[List.map_map];exact List.map_id _
 rw[RF]at PT
 exact h (r.store (b':=.arr bt vs) (H':=(id,.arr bt vs)::H) (V:=J) PY (by simp) WK (fun j=>by
  rw[dB];by_cases hj:id=j
  ·subst hj;simp
  ·rw[aH hj,aH (fun h=>hj h.symm)]) rfl rfl rfl rfl (fun _ _=>rfl) ⟨WK,PT⟩ trivial)
end Go.Sx
namespace Go.Ex
open Go Go.Sx Go.Proofs
abbrev aBH(x:Ld):Value:=.agg #[.int .i64 x.1,.int .i64 x.2.1,.int .i64 x.2.2.1,.int .i64 x.2.2.2]
end Go.Ex
namespace Go.Ex
open Go Go.Sx Go.Proofs
variable{S:Nat->Prop}
theorem KE(x:Ld)(w:World):eI PG F'.uN #[aBH x] w (eO w fun v' _=>∃d,v'= .bool d/\(d=true↔NX x.2)):=by
 have I:=bR w;obtain⟨x0,x1,x2,x3⟩:=x;refine yJ (by simp) ?_;refine cJ (cE I (fun _ J v V=>∃d,v= .bool d/\(d=true↔ -1000000<=x1/\x1<=1000000)) (fun O J r=>mH _ _ _ J) ?_);rintro O _ _ _ Oo r U I h_ ⟨d0,rfl,Ov⟩
 cases d0
 ·have Ov:¬nQ x1:=fun h=>by have:=Ov.2 h;cases this
  exact rtn I fun IR we re=>⟨_,rfl,(fun h=>by cases h),fun h=>absurd h.1 Ov⟩
 replace Ov:nQ x1:=Ov.1 rfl;refine cJ (cE I (fun _ J v V=>∃d,v= .bool d/\(d=true↔ -1000000<=x2/\x2<=1000000)) (fun O J r=>mH _ _ _ J) ?_);rintro O _ _ _ Od r U I h_ ⟨d1,rfl,PF⟩
 cases d1
 ·have PF:¬nQ x2:=fun h=>by have:=PF.2 h;cases this
  exact rtn I fun IR we re=>⟨_,rfl,(fun h=>by cases h),fun h=>absurd h.2.1 PF⟩
 replace PF:nQ x2:=PF.1 rfl;refine cJ (cE I (fun _ J v V=>∃d,v= .bool d/\(d=true↔ -1000000<=x3/\x3<=1000000)) (fun O J r=>mH _ _ _ J) ?_);rintro O _ _ _ Oq r U I h_ ⟨d2,rfl,QD⟩
 cases d2
 ·have QD:¬nQ x3:=fun h=>by have:=QD.2 h;cases this
  exact rtn I fun IR we re=>⟨_,rfl,(fun h=>by cases h),fun h=>absurd h.2.2 QD⟩
 replace QD:nQ x3:=QD.1 rfl;exact rtn I fun IR we re=>⟨_,rfl,fun _=>⟨Ov,PF,QD⟩,fun _=>rfl⟩
theorem jA.aB3{w:World}:jA w S (.slice none 0 0) []:=⟨[],⟨aQ _,rfl,by simp,none,0,rfl,Nat.le_refl _,fun j u h=>by cases h⟩,rfl,by simp,fun j W x h=>by cases h⟩
section
variable{S S':Nat->Prop}{H:Hp}{nx:Nat}{iv K:Iv}{B:Nat}{w J V:World}{O:Nat->Sx.dq}{v:Value}{l:List Ld}
end
end Go.Ex
namespace Go.Ex
variable{d:Int}{b:Int×Int×Rat}{M:List (List Rat)}{l x0 I':List Rat}{Fn c j n:Nat}{x y:Nat->Rat}{Fd:Rat}{f:fC}
theorem rO{a b:Rat}(ha:a≠0)(hb:b≠0):a*b≠0:=fun e=>by
 rcases Rat.mul_eq_zero.1 e with h|h
 ·exact ha h
 ·exact hb h
def Den(Fn:Nat)(Fd:Rat)(l:List Rat):Prop:=Fd≠0/\Ib Fn Fd/\∀t,Ib Fn (Fd*l.getD t 0)
def HO(Fn:Nat)(Fd:Rat)(M:List (List Rat)):Prop:=Fd≠0/\Ib Fn Fd/\∀k t,Ib Fn (Fd*dD M k t)
theorem Den.rl(h:Den Fn Fd l):∀q∈l,rl q<=ln Fn:=fun q hq=>by
 obtain⟨j,hj⟩:=aN hq;have:=yj h.1 h.2.1 (h.2.2 j)
 rwa [List.getD,hj]at this
theorem HO.rl(h:HO Fn Fd M):∀r∈M,∀q∈r,rl q<=ln Fn:=fun r hr q hq=>by
 obtain⟨k,D⟩:=aN hr;obtain⟨j,hj⟩:=aN hq;have:=yj h.1 h.2.1 (h.2.2 k j)
 rwa [dD,show M.getD k []=r by rw[List.getD,D];rfl,List.getD,hj]at this
theorem ij{t:Nat}(h:l.length<=t):l.getD t 0=0:=by rw[List.getD,List.getElem?_eq_none h];rfl
theorem Nb{k t:Nat}(hM:fZ n M)(h:n<=t):dD M k t=0:=by
 rw[dD];rcases aO k M.length with D|D
 ·exact ij (by rw[hM.getD D];exact h)
 ·rw[show M.getD k []=[] by rw[List.getD,List.getElem?_eq_none D];rfl];rfl
theorem L0{k t:Nat}(h:M.length<=k):dD M k t=0:=by
 rw[dD,show M.getD k []=[] by rw[List.getD,List.getElem?_eq_none h];rfl];rfl
section
variable{M:List (List Rat)}{n B:Nat}{b:List Rat}
theorem I1(hM:fZ n M)(hW:zl M n B)(hB:1<=B)(hc:c<=n):∃Fd:Rat,Fd≠0/\Ib (fB B M.length) Fd/\∀i t,i<(cQ M c).2.length->t<n->Ib (fB B M.length) (Fd*dD (cQ M c).1 i t):=by
 obtain⟨σ,F8,h⟩:=qD hM hW c hc;have hle:=h.red.2.1;rw[h.len]at hle;have hm:=rM hB hle;exact⟨_,h.zn.nz,h.zn.den.mono hm,fun i t A ht=>(h.zn.ent A ht).mono hm⟩
theorem Nc(hM:fZ n M)(hW:zl M n B)(hB:1<=B):∃Fd,HO (fB B M.length) Fd (cW M n):=by
 obtain⟨Fd,h0,hD,hE⟩:=I1 hM hW hB (Nat.le_refl n);obtain⟨r1,r2,E,r4,r5⟩:=eA hM n (Nat.le_refl _);have Qv:=gh M n;refine⟨Fd,h0,hD,fun k t=>?_⟩;rcases aO k (cW M n).length with D|D
 ·rcases aO t n with ht|ht
  ·have hf:=lX.1 (qC (by rw[<-l9];exact D));rw[dD,zq M n D];generalize (jZ (cQ M n).2 n).getD k 0=c at hf;by_cases hp:t∈(cQ M n).2
   ·obtain⟨j,hj,rfl⟩:=sd hp;rw[oX (D':=fp (cQ M n).1 (cQ M n).2 n c) (f:=fun i=> -(dD (cQ M n).1 i c)) (fun i=>gI _ _ n c i) (j6 _ _ n c) Qv.2.1 r4 _ (Nat.le_refl _) hj,show Fd* -(dD (cQ M n).1 j c)= -(Fd*dD (cQ M n).1 j c) by grind];exact(hE j c hj hf.1).neg
   ·rw[qB hp hf.1];split
    ·rw[Rat.mul_one];exact hD
    ·rw[ah];exact Ib.zero _
  ·rw[Nb (jk M n) ht,ah];exact Ib.zero _
 ·rw[L0 D,ah];exact Ib.zero _
theorem uC{x:List Rat}(hM:fZ n M)(hW:zl (dg M b) (n+1) B)(hB:1<=B)(h:fM M b n=some x):∃Fd,Den (fB B M.length) Fd x:=by
 obtain⟨Fd,h0,hD,hE⟩:=I1 (jI (b:=b) hM) hW hB (Nat.le_succ n);rw[eH]at hD hE;obtain⟨r1,r2,E,r4,r5⟩:=eA (jI (b:=b) hM) n (Nat.le_succ _);have Qv:=gh (dg M b) n;unfold fM at h;dsimp only at h;split at h
 ·injection h with h;subst h;refine⟨Fd,h0,hD,fun t=>?_⟩;by_cases hp:t∈(cQ (dg M b) n).2
  ·obtain⟨j,hj,rfl⟩:=sd hp;rw[oX (D':=fE (cQ (dg M b) n).1 (cQ (dg M b) n).2 n) (f:=fun i=>dD (cQ (dg M b) n).1 i n) (fun i=>gJ _ _ n i) (j7 _ _ n) Qv.2.1 r4 _ (Nat.le_refl _) hj];exact hE j n hj (by omega)
  ·rw[tt hp,ah];exact Ib.zero _
 ·cases h
end
def k9(I':List Rat):Nat->Rat
 |0=>1
 |t+1=>k9 I' t*((I'.getD t 0).den:Rat)
theorem Fg(I':List Rat):∀k,k9 I' k≠0
 |0=>by show(1:Rat)≠0;decide
 |k+1=>rO (Fg I' k) (by have:=(I'.getD k 0).den_nz;exact_mod_cast this)
theorem zu{I':List Rat}{B:Nat}(h:∀t,(I'.getD t 0).den<=B):∀k,Ib (B^k) (k9 I' k)
 |0=>Ib.one (Nat.le_refl _)
 |k+1=>by
  rw[Nat.pow_succ];exact(zu h k).mul ⟨((I'.getD k 0).den:Int),rfl,by rw[Int.natAbs_natCast];exact h k⟩
theorem I2(q:Rat):(q.den:Rat)*q=(q.num:Rat):=by
 have h:=Rat.num_divInt_den q;have h0:((q.den:Int):Rat)≠0:=by have:=q.den_nz;exact_mod_cast this
 rw[Rat.divInt_eq_div]at h;have L:(q.num:Rat) / ((q.den:Int):Rat)*((q.den:Int):Rat)=(q.num:Rat):=Rat.div_mul_cancel h0;rw[h,bu]at L;exact L
theorem CY{I':List Rat}{B:Nat}(h:∀t,(I'.getD t 0).den<=B)(R:∀t,(I'.getD t 0).num.natAbs<=B)(hB:1<=B):∀k t,t<k->Ib (B^k) (k9 I' k*I'.getD t 0)
 |0,t,ht=>by omega
 |k+1,t,ht=>by
  rw[k9,Nat.pow_succ];rcases aO t k with L|L
  ·rw[show ∀a b c:Rat,a*b*c=(a*c)*b from fun a b c=>by grind];exact(CY h R hB k t L).mul ⟨((I'.getD k 0).den:Int),rfl,by rw[Int.natAbs_natCast];exact h k⟩
  ·rw[show t=k by omega,Rat.mul_assoc,I2];exact(zu h k).mul (Ib.int (R k))
theorem kQ{l:Nat}:1<=wt l:=zR l
theorem I4{q:Rat}{l:Nat}(h:rl q<=l):q.num.natAbs<wt l/\q.den<wt l:=⟨gU.1 (aW (gG q) h),gU.1 (aW (aAZ q) h)⟩
theorem La(l k:Nat):wt l^k=wt (l*k):=by rw[vY,vY,<-Nat.pow_mul,bg]
theorem Lb(hl:I'.length<=n)(h:∀q∈I',rl q<=3):Den (wt (3*n)) (k9 I' n) I':=by
 have N:∀t,rl (I'.getD t 0)<=3:=fun t=>by
  rw[List.getD]
  cases ht:I'[t]? with
  |none=>show rl 0<=3;decide
  |some q=>exact h q (aC ht)
 have L:∀t,(I'.getD t 0).den<=wt 3:=fun t=>Nat.le_of_lt (I4 (N t)).2;have G:∀t,(I'.getD t 0).num.natAbs<=wt 3:=fun t=>Nat.le_of_lt (I4 (N t)).1;refine⟨Fg I' n,by rw[<-La];exact zu L n,fun t=>?_⟩;rcases aO t n with ht|ht
 ·rw[<-La];exact CY L G kQ n t ht
 ·rw[ij (by omega),ah];exact Ib.zero _
theorem getD_some{α:Type}{l:List α}{i:Nat}{x d:α}(h:l[i]? =some x):l.getD i d=x:=by rw[List.getD,h];rfl
structure uD(M:List (List Rat))(n:Nat)(I':Nat->Rat):Prop where
 len:fZ n M
 pos:∀t,t<n->0<=I' t
 aA0:∀x:Nat->Rat,(∀j,j<M.length->mulR M n x j=0)->cw (fun t=>I' t*(x t*x t)) n=0->∀t,t<n->x t=0
theorem Fh(M:List (List Rat))(n:Nat)(x y:Nat->Rat)(j:Nat):mulR M n (fun t=>x t+y t) j=mulR M n x j+mulR M n y j:=by
 unfold mulR;rw[<-gP];exact cP fun t _=>by grind
theorem Lc(M:List (List Rat))(n:Nat)(x:Nat->Rat)(c:Rat)(j:Nat):mulR M n (fun t=>c*x t) j=c*mulR M n x j:=by
 unfold mulR;rw[<-ek];exact cP fun t _=>by grind
theorem Fi(M:List (List Rat))(n:Nat)(S:Mx)(c:Nat->Rat)(j s:Nat):mulR M n (fun t=>cw (fun k=>c k*S k t) s) j=cw (fun k=>c k*mulR M n (S k) j) s:=by
 induction s with
 |zero=>exact(cP (g:=fun _=>0) fun t _=>ah _).trans (dc n)
 |succ s ih=>
  show mulR M n (fun t=>cw (fun k=>c k*S k t) s+c s*S s t) j=cw (fun k=>c k*mulR M n (S k) j) s+c s*mulR M n (S s) j;rw[Fh,Lc,ih]
theorem sj(h:∀t,t<n->x t=y t)(j:Nat):mulR M n x j=mulR M n y j:=cP fun t ht=>by rw[h t ht]
def sG(I' x y:Nat->Rat)(n:Nat):Rat:=cw (fun t=>I' t*(x t*y t)) n
theorem uE(I' x y:Nat->Rat)(n:Nat):sG I' x y n=sG I' y x n:=cP fun t _=>by grind
theorem I5(I' x y z:Nat->Rat)(n:Nat):sG I' x (fun t=>y t+z t) n=sG I' x y n+sG I' x z n:=by
 unfold sG;rw[<-gP];exact cP fun t _=>by grind
theorem uF(I' x:Nat->Rat)(S:Mx)(c:Nat->Rat)(n s:Nat):sG I' x (fun t=>cw (fun k=>c k*S k t) s) n=cw (fun k=>c k*sG I' x (S k) n) s:=by
 unfold sG;rw[cP (g:=fun t=>cw (fun k=>c k*(I' t*(x t*S k t))) s) fun t _=>by rw[<-ek,<-ek];exact cP fun k _=>by grind,lZ];exact cP fun k _=>by rw[ek]
theorem vq{I' x' y':Nat->Rat}(L:∀t,t<n->x t=x' t)(G:∀t,t<n->y t=y' t):sG I' x y n=sG I' x' y' n:=cP fun t ht=>by rw[L t ht,G t ht]
section
variable{M:List (List Rat)}{n:Nat}{I':Nat->Rat}{b:List Rat}
def I6(M:List (List Rat))(n:Nat)(I':Nat->Rat)(i j:Nat):Rat:=sG I' (dD (cW M n) i) (dD (cW M n) j) n
theorem uD.Le(h:uD M n I'){c:Nat->Rat}(hc:∀i,i<(cW M n).length->cw (fun j=>I6 M n I' i j*c j) (cW M n).length=0):∀i,i<(cW M n).length->c i=0:=by
 obtain⟨y,hy⟩:∃y:Nat->Rat,y=fun t=>cw (fun k=>c k*dD (cW M n) k t) (cW M n).length:=⟨_,rfl⟩
 have VU:∀j,j<M.length->mulR M n y j=0:=fun j hj=>by
  rw[hy,Fi,cP (g:=fun _=>0) fun k D=>by rw[qE h.len D j hj,ah],dc]
 have I:∀i,i<(cW M n).length->sG I' (dD (cW M n) i) y n=0:=fun i A=>by
  rw[hy,uF,<-hc i A];exact cP fun k _=>bu _ _
 have h0:sG I' y y n=0:=by
  have:sG I' y y n=cw (fun k=>c k*sG I' y (dD (cW M n) k) n) (cW M n).length:=by
   rw[<-uF,<-hy]
  rw[this,cP (g:=fun _=>0) fun k D=>by rw[uE,I k D,ah],dc]
 exact Da (M:=M) fun t ht=>by
  have:=h.aA0 y VU h0 t ht;rw[hy]at this;exact this
theorem uD.only(h:uD M n I')(F:∀j,j<M.length->mulR M n x j=0)(hs:∀k,k<(cW M n).length->sG I' (dD (cW M n) k) x n=0):∀t,t<n->x t=0:=by
 obtain⟨c,hc⟩:=I0 h.len F;have h0:sG I' x x n=0:=by
  rw[vq (x':=x) (fun _ _=>rfl) hc,uF,cP (g:=fun _=>0) fun k D=>by rw[uE,hs k D,ah],dc]
 exact h.aA0 x F h0
def iD(M:List (List Rat))(n:Nat)(I':Nat->Rat):List (List Rat):=M++(cW M n).map fun s=>(List.range n).map fun t=>I' t*s.getD t 0
theorem rP(hM:fZ n M):fZ n (iD M n I'):=fun r hr=>by
 rcases bB.1 hr with hr|hr
 ·exact hM r hr
 ·obtain⟨s,hs,rfl⟩:=aU.1 hr;simp
theorem iW:(iD M n I').length=M.length+(cW M n).length:=by unfold iD;rw[List.length_append,aJ]
theorem CZ{t:Nat}(hj:j<M.length):dD (iD M n I') j t=dD M j t:=by
 have h:(iD M n I')[j]? =M[j]? :=aI hj;rw[aA hj]at h;rw[dD,dD,getD_some h,getD_some (aA hj)]
theorem Ca{k t:Nat}(D:k<(cW M n).length)(ht:t<n):dD (iD M n I') (M.length+k) t=I' t*dD (cW M n) k t:=by
 have hr:=aA D;have h:(iD M n I')[M.length+k]? =some ((List.range n).map fun t=>I' t*(cW M n)[k].getD t 0):=by
  unfold iD;rw[aM (Nat.le_add_right _ _),Nat.add_sub_cancel_left,aL,hr];rfl
 rw[dD,dD,getD_some h,getD_some hr];exact getD_some (by rw[aL,bm ht];rfl)
theorem Cb{k:Nat}(D:k<(cW M n).length):mulR (iD M n I') n x (M.length+k)=sG I' (dD (cW M n) k) x n:=by
 unfold mulR sG;exact cP fun t ht=>by rw[Ca D ht,Rat.mul_assoc]
theorem zw(hj:j<M.length):mulR (iD M n I') n x j=mulR M n x j:=by
 unfold mulR;exact cP fun t _=>by rw[CZ hj]
theorem uD.inj(h:uD M n I'):Inj (iD M n I') n:=fun x F t ht=>by
 refine h.only (fun j hj=>?_) (fun k D=>?_) t ht
 ·rw[<-zw hj];exact F j (by rw[iW];omega)
 ·rw[<-Cb D];exact F _ (by rw[iW];omega)
def fL(k:Nat):List Rat:=List.replicate k 0
theorem kc(b:List Rat)(k j:Nat):(b++fL k).getD j 0=b.getD j 0:=by
 unfold fL;rcases aO j b.length with h|h
 ·rw[List.getD,aI h,<-List.getD]
 ·rw[ij h,List.getD,aM h,List.getElem?_replicate];split<;>rfl
structure jB(M:List (List Rat))(n:Nat)(I':Nat->Rat)(b x:List Rat):Prop where
 len:x.length=n
 eq:∀j,j<M.length->mulR M n (fun t=>x.getD t 0) j=b.getD j 0
 st:∀k,k<(cW M n).length->sG I' (dD (cW M n) k) (fun t=>x.getD t 0) n=0
theorem uD.one(h:uD M n I'){x y:List Rat}(F:jB M n I' b x)(hy:jB M n I' b y):x=y:=by
 refine gz 0 (by rw[F.len,hy.len]) fun t ht=>?_;rw[F.len]at ht
 have:=h.only (x:=fun t=>x.getD t 0-y.getD t 0) (fun j hj=>by rw[Fe,F.eq j hj,hy.eq j hj];grind) (fun k D=>by
  rw[show (fun t=>x.getD t 0-y.getD t 0)=fun t=>x.getD t 0+(-1)*y.getD t 0 from funext fun t=>by grind,I5,F.st k D];have G:=hy.st k D;unfold sG at G ⊢;rw[cP (f:=fun t=>I' t*(dD (cW M n) k t*(-1*y.getD t 0))) (g:=fun t=>(-1)*(I' t*(dD (cW M n) k t*y.getD t 0))) fun t _=>by grind,ek,G]
  grind) t ht
 grind
theorem uD.base(h:uD M n I'){x:List Rat}(hb:b.length=M.length)(F:jB M n I' b x):fM (iD M n I') (b++fL (cW M n).length) n=some x:=by
 refine CX (rP h.len) h.inj F.len fun j hj=>?_;rw[kc];rcases aO j M.length with L|L
 ·rw[zw L];exact F.eq j L
 ·obtain⟨k,rfl⟩:∃k,j=M.length+k:=⟨j-M.length,by omega⟩
  rw[iW]at hj;rw[Cb (by omega),ij (by omega)];exact F.st k (by omega)
end
theorem Fj(x y:List Rat)(n:Nat):e7 x y n=cw (fun t=>x.getD t 0*y.getD t 0) n:=o0 x y n
theorem lf{a b:List Rat}{t:Nat}(ht:t<a.length):(fJ a b).getD t 0=a.getD t 0*b.getD t 0:=by
 have h:=aA ht;rw[getD_some h];exact getD_some (by rw[fJ,List.getElem?_mapIdx,h];rfl)
section
variable{M:List (List Rat)}{n:Nat}{fl b:List Rat}
theorem vv(M:List (List Rat))(n:Nat)(fl:List Rat){i:Nat}(A:i<(cW M n).length)(hj:j<(cW M n).length):dD (ei (cW M n) fl) i j=I6 M n (fun t=>fl.getD t 0) i j:=by
 have hr:=aA A;have hs:=aA hj;have hl:((cW M n)[i]).length=n:=jk M n _ (aY A);have L:(ei (cW M n) fl)[i]? =some ((cW M n).map fun r=>e7 (fJ (cW M n)[i] fl) r (cW M n)[i].length):=by rw[ei,aL,hr];rfl
 have G:((cW M n).map fun r=>e7 (fJ (cW M n)[i] fl) r (cW M n)[i].length)[j]? =some (e7 (fJ (cW M n)[i] fl) (cW M n)[j] (cW M n)[i].length):=by rw[aL,hs];rfl
 rw[dD,getD_some L,getD_some G,o0,hl];refine cP fun t ht=>?_;rw[lf (by omega),dD,dD,getD_some hr,getD_some hs];grind
theorem oa(st:List (List Rat))(fl:List Rat):fZ st.length (ei st fl):=fun r hr=>by
 obtain⟨s,hs,rfl⟩:=aU.1 hr;rw[aJ]
theorem Fk(M:List (List Rat))(n:Nat)(fl x:List Rat){i:Nat}(A:i<(cW M n).length):(gw (cW M n) fl x).getD i 0= -(sG (fun t=>fl.getD t 0) (dD (cW M n) i) (fun t=>x.getD t 0) n):=by
 have hr:=aA A;have hl:((cW M n)[i]).length=n:=jk M n _ (aY A);have L:(gw (cW M n) fl x)[i]? =some (-(e7 (fJ (cW M n)[i] fl) x (cW M n)[i].length)):=by rw[gw,aL,hr];rfl
 rw[getD_some L,o0,hl];congr 1;refine cP fun t ht=>?_;rw[lf (by omega),dD,getD_some hr];grind
theorem rQ(st:List (List Rat))(c x:List Rat):∀i,(l8 st c x i).length=x.length
 |0=>rfl
 |i+1=>by rw[l8,List.length_mapIdx,rQ st c x i]
theorem zx(st:List (List Rat))(c x:List Rat){t:Nat}(ht:t<x.length):∀i,(l8 st c x i).getD t 0=x.getD t 0+cw (fun k=>c.getD k 0*dD st k t) i
 |0=>(bU _).symm
 |i+1=>by
  have hl:t<(l8 st c x i).length:=by rw[rQ];exact ht
  have ih:=zx st c x ht i;rw[getD_some (aA hl)]at ih;rw[getD_some (show (l8 st c x (i+1))[t]? =some ((l8 st c x i)[t]+c.getD i 0*(st.getD i []).getD t 0) by rw[l8,List.getElem?_mapIdx,aA hl];rfl),ih,cw,Rat.add_assoc];rfl
theorem uD.force(h:uD M n fun t=>fl.getD t 0)(h0:fM M b n=some x0):∃c,fM (ei (cW M n) fl) (gw (cW M n) fl x0) (cW M n).length=some c/\c.length=(cW M n).length/\
  jB M n (fun t=>fl.getD t 0) b (l8 (cW M n) c x0 (cW M n).length):=by
 obtain⟨SS,RP⟩:=iV h.len h0;have hG:=oa (cW M n) fl;have hGl:(ei (cW M n) fl).length=(cW M n).length:=aJ _;have hc:∃c,fM (ei (cW M n) fl) (gw (cW M n) fl x0) (cW M n).length=some c:=by
  cases e:fM (ei (cW M n) fl) (gw (cW M n) fl x0) (cW M n).length with
  |some c=>exact⟨c,rfl⟩
  |none=>
   obtain⟨y,y1,y2⟩:=o8 hG e;rw[hGl]at y1 y2;have hy:=h.Le (c:=y) fun i A=>Eq.trans (cP fun j hj=>by rw[vv M n fl hj A,bu];unfold I6;rw[uE]) (y1 i A);exact absurd (by rw[cP (g:=fun _=>0) fun j hj=>by rw[hy j hj,bE],dc]) y2
 obtain⟨c,hc⟩:=hc;obtain⟨c1,c2⟩:=iV hG hc;refine⟨c,hc,c1,by rw[rQ];exact SS,fun j hj=>?_,fun k D=>?_⟩
 ·rw[sj (y:=fun t=>x0.getD t 0+cw (fun k=>c.getD k 0*dD (cW M n) k t) (cW M n).length) fun t ht=>zx _ c x0 (by omega) _,Fh,Fi,RP j hj,cP (g:=fun _=>0) fun k D=>by rw[qE h.len D j hj,ah],dc,bU]
 ·rw[vq (x':=dD (cW M n) k) (y':=fun t=>x0.getD t 0+cw (fun k=>c.getD k 0*dD (cW M n) k t) (cW M n).length) (fun _ _=>rfl) fun t ht=>zx _ c x0 (by omega) _,I5,uF];have G:=c2 k (by omega);rw[Fk M n fl x0 D]at G;unfold mulR at G;rw[cP (g:=fun t=>c.getD t 0*sG (fun t=>fl.getD t 0) (dD (cW M n) k) (dD (cW M n) t) n) fun t ht=>by rw[vv M n fl D ht,bu];rfl]at G;rw[G];grind
end
def ez(M:List (List Int))(r c:Nat):Int:=(M.getD r []).getD c 0
theorem getD_set_ne{α:Type}{l:List α}{i:Nat}{x d:α}(h:i≠j):(l.set i x).getD j d=l.getD j d:=by rw[List.getD,aS h,<-List.getD]
theorem mX{α:Type}{l:List α}{i:Nat}{x d:α}(h:i<l.length):(l.set i x).getD i d=x:=by rw[List.getD,aP h];rfl
theorem j8{M:List (List Int)}{r r' c':Nat}(h:r'≠r\/c'≠c):ez (putAt M r c d) r' c'=ez M r' c':=by
 unfold ez putAt;by_cases L:r'=r
 ·subst L;have G:c≠c':=h.elim (fun h=>absurd rfl h) fun h=>h.symm;rcases aO r' M.length with N|N
  ·rw[mX N,getD_set_ne G]
  ·rw[List.set_eq_of_length_le N]
 ·rw[getD_set_ne (Ne.symm L)]
theorem Fl{M:List (List Int)}{r:Nat}(hr:r<M.length)(hc:c<(M.getD r []).length):ez (putAt M r c d) r c=d:=by
 unfold ez putAt;rw[mX hr,mX hc]
theorem iG(M:List (List Int))(r c:Nat)(d:Int):uA M r c d=putAt M r c (ez M r c+d):=rfl
theorem Db{i:Nat}(hb:f.bars[i]? =some b):f.bars.getD i (0,0,0)=b:=by rw[List.getD,hb];rfl
theorem vw{f:fC}{M:List (List Int)}{i c r:Nat}(h:c≠i):∀k,ez (ee f M i k) r c=ez M r c
 |0=>rfl
 |k+1=>by
  rw[ee];rw[iG,j8 (.inr h),iG,j8 (.inr h)];exact vw h k
theorem mY(f:fC){r c:Nat}:∀i,i<=c->ez (dm f i) r c=0
 |0,_=>by
  unfold ez dm;rcases aO r (3*f.nodes.length)with h|h
  ·rw[show (List.replicate (3*f.nodes.length) (List.replicate f.cols (0:Int))).getD r []=List.replicate f.cols 0 by rw[List.getD,List.getElem?_replicate,if_pos h];rfl,List.getD,List.getElem?_replicate];split<;>rfl
  ·rw[show (List.replicate (3*f.nodes.length) (List.replicate f.cols (0:Int))).getD r []=[] by rw[List.getD,List.getElem?_replicate,aH (by omega)];rfl];rfl
 |i+1,h=>by rw[dm,vw (by omega)];exact mY f i (by omega)
theorem toNat_add{a:Int}{k ka:Nat}(h:a=ka):(3*a+(k:Int)).toNat=3*ka+k:=by omega
theorem Cc{f:fC}{M:List (List Int)}{i r ka kb:Nat}{b:Int×Int×Rat}(hb:f.bars[i]? =some b)(ea:b.1=ka)(eb:b.2.1=kb):∀k,k<=3->k<=r % 3->ez (ee f M i k) r i=ez M r i
 |0,_,_=>rfl
 |k+1,N,h=>by
  rw[ee];rw[Db hb,toNat_add ea,toNat_add eb,iG,j8 (.inl (by omega)),iG,j8 (.inl (by omega))];exact Cc hb ea eb k (by omega) (by omega)
theorem oc{i r ka kb k:Nat}(hb:f.bars[i]? =some b)(ea:b.1=ka)(eb:b.2.1=kb)(D:k<=3)(h:k<=r % 3):ez (ee f (dm f i) i k) r i=0:=by
 rw[Cc hb ea eb k D h];exact mY f i (Nat.le_refl _)
theorem zy{f:fC}{r c:Nat}(h:c<f.bars.length):∀k,ez (fO f k) r c=ez (dm f f.bars.length) r c
 |0=>rfl
 |k+1=>by
  rw[fO];rw[j8 (.inr (by omega))];exact zy h k
theorem xP{f:fC}{r i:Nat}:∀k,k<=i->ez (fO f k) r (f.bars.length+i)=0
 |0,_=>mY f _ (by omega)
 |k+1,h=>by
  rw[fO];rw[j8 (.inr (by omega))];exact xP k (by omega)
def hJ(s:Int×Int×Rat):Nat:=(3*s.1+s.2.1).toNat
theorem Cd{f:fC}(I:∀k,∀l∈fO f k,l.length=f.cols)(hlen:∀k,(fO f k).length=3*f.nodes.length)(Oa:∀s∈f.cZ,hJ s<3*f.nodes.length){r i:Nat}{s:Int×Int×Rat}(hs:f.cZ[i]? =some s):
  ∀k,i<k->ez (fO f k) r (f.bars.length+i)=if r=hJ s then 1 else 0
 |0,h=>by omega
 |k+1,h=>by
  rw[fO];rcases aO i k with L|L
  ·rw[j8 (.inr (by omega))];exact Cd I hlen Oa hs k L
  ·have:i=k:=by omega
   subst this;have Y:f.cZ.getD i (0,0,0)=s:=by rw[List.getD,hs];rfl
   have XS:=Oa s (aC hs);have A:=(aD.1 hs).1;rw[Y];by_cases G:r=hJ s
   ·rw[if_pos G,G];have hm:hJ s<(fO f i).length:=by rw[hlen];exact XS
    exact Fl hm (by
     show f.bars.length+i<((fO f i).getD (hJ s) []).length;rw[List.getD,aA hm];show f.bars.length+i<((fO f i)[hJ s]).length;rw[I i _ (aY hm),fC.cols]
     omega)
   ·rw[aH G];exact(j8 (r:=hJ s) (.inl G)).trans (xP i (Nat.le_refl _))
end Go.Ex
