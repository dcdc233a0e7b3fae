/- Texts X145 to L44: lemmas, each with its conditions. -/
import Derived.Test.YtgkpbdkechfgmaaGreatP13
set_option maxHeartbeats 2000000
namespace Go.Ex
open Go Go.Sx Go.Proofs
variable{Z:Array Value}{H:Hp}{iv:Iv}{xs:List (Int×Int×Int)}{A:List (List Value)}{l:List Int}{B i id n nx:Nat}{S:Nat->Prop}{O:Nat->Sx.eG}{a:Option Addr}{v vb vn vs:Value}{w:World}{f:eh}
theorem fw{j:Nat}(h:Z[j]? =some v)(w:World):(part T.int Z j).run PG w= .ok v w:=by
 have:=(hτ T.int _ rfl).isAgg w;simp only[part,Sem.run_bind,this,Result.andThen]
 simp[h]
theorem eq_int(d:Nat)(a b:Int)(w:World):(Op.equalIn (d+1) T.int (iV a) (iV b)).run PG w= .ok (a==b) w:=by
 unfold Op.equalIn;simp[run_underlying ((hτ T.int _ rfl).i1 rfl)]
theorem aCA(p0 p1 p2 q0 q1 q2:Int)(w:World):(Op.equal T.Node (.agg #[iV p0,iV p1,iV p2]) (.agg #[iV q0,iV q1,iV q2])).run PG w= .ok (decide (p0=q0/\p1=q1/\p2=q2)) w:=by
 have h:=run_underlying Tryz.underlying195;simp only[Op.equal,Op.maxDepth]
 unfold Op.equalIn;have a0:=fw (Z:= #[iV p0,iV p1,iV p2]) (j:=0) rfl;have a1:=fw (Z:= #[iV p0,iV p1,iV p2]) (j:=1) rfl;have a2:=fw (Z:= #[iV p0,iV p1,iV p2]) (j:=2) rfl;have b0:=fw (Z:= #[iV q0,iV q1,iV q2]) (j:=0) rfl;have b1:=fw (Z:= #[iV q0,iV q1,iV q2]) (j:=1) rfl;have b2:=fw (Z:= #[iV q0,iV q1,iV q2]) (j:=2) rfl;simp[h,a0,a1,a2,b0,b1,b2,eq_int 9998];by_cases h0:p0=q0
 .by_cases I:p1=q1
  .by_cases G:p2=q2<;>simp[h0,I,G]
  .simp[h0,I]
 .simp[h0]
theorem aCB(p0 p1 q0 q1:Int)(w:World):(Op.equal T.GW (.agg #[iV p0,iV p1]) (.agg #[iV q0,iV q1])).run PG w= .ok (decide (p0=q0/\p1=q1)) w:=by
 have h:=run_underlying Tryz.underlying281;simp only[Op.equal,Op.maxDepth]
 unfold Op.equalIn;have a0:=fw (Z:= #[iV p0,iV p1]) (j:=0) rfl;have a1:=fw (Z:= #[iV p0,iV p1]) (j:=1) rfl;have b0:=fw (Z:= #[iV q0,iV q1]) (j:=0) rfl;have b1:=fw (Z:= #[iV q0,iV q1]) (j:=1) rfl;simp[h,a0,a1,b0,b1,eq_int 9998];by_cases h0:p0=q0
 .by_cases I:p1=q1<;>simp[h0,I]
 .simp[h0]
abbrev FM(p:Int×Int×Int):Value:=.agg #[iV p.1,iV p.2.1,iV p.2.2]
theorem Iu(p q:Int×Int×Int)(w:World)(o1 o2:Operand):(do eqGuard .eql T.Node o1 o2 (FM p) (FM q);binOp .eql T.Node (FM p) (FM q)).run PG w= .ok (.bool (decide (p=q))) w:=by
 have h:=aCA p.1 p.2.1 p.2.2 q.1 q.2.1 q.2.2 w;simp[eqGuard,binOp,h];obtain⟨a,b,c⟩:=p;obtain⟨a2,b2,c2⟩:=q;by_cases h0:a=a2
 .by_cases I:b=b2
  .by_cases G:c=c2<;>simp[h0,I,G]
  .simp[h0,I]
 .simp[h0]
def pS(k:Int×Int):Value:=.agg #[.int .i64 k.1,.int .i64 k.2]
theorem sj{a b:Int×Int}(h:pS a=pS b):a=b:=by
 unfold pS at h;injection h with h;have I:=congrArg (fun x=>x[0]?) h;have G:=congrArg (fun x=>x[1]?) h;simp at I G;exact Prod.ext I G
theorem NV(d:Nat)(a:Int)(em:Bool)(w:World):(Instr.checkKey em (d+1) T.int (iV a)).run PG w= .ok () w:=by
 unfold Instr.checkKey;simp[run_underlying ((hτ T.int _ rfl).i1 rfl)]
theorem Ka(p0 p1:Int)(em:Bool)(w:World):(Instr.checkKey em 10000 T.GW (.agg #[iV p0,iV p1])).run PG w= .ok () w:=by
 have h:=run_underlying Tryz.underlying281;have a0:=fw (Z:= #[iV p0,iV p1]) (j:=0) rfl;have a1:=fw (Z:= #[iV p0,iV p1]) (j:=1) rfl;unfold Instr.checkKey;simp[h,a0,a1,NV 9998]
theorem BN:OJ PG T.GW (fun v=>∃k,v=pS k) where
 desc:=⟨_,Tryz.underlying281⟩
 check:=fun w em v ⟨k,e⟩=>by subst e;exact Ka k.1 k.2 em w
 eq:=fun w a b ⟨p,e1⟩ ⟨q,e2⟩=>by
  subst e1 e2;refine⟨_,aCB p.1 p.2 q.1 q.2 w,?_⟩;rw[decide_eq_true_iff];exact⟨fun h=>by rw[show p=q from Prod.ext h.1 h.2],fun h=>by have:=sj h;subst this;exact⟨rfl,rfl⟩⟩
theorem xu:PG.underlying T.AR=some (.map T.GW T.bool):=Tryz.underlying279
theorem FN(w:World):(zeroValue T.bool).run PG w= .ok (.bool false) w:=by kernel_rfl
theorem aAh(ad:Option Addr)(k:Nat):ad.map (·.add (0*k))=ad:=by
 rw[Nat.zero_mul]
 cases ad with
 |none=>rfl
 |some a=>simp only[bw,Option.some.injEq];unfold Addr.add;split<;>simp_all
theorem fW.take{α:Type}{k:Nat}{P:World->(Nat->Prop)->List Value->α->Prop}{c:Nat}{xs:List α}(h:fW k P w S (.slice a n c) xs)(D:i<=xs.length):
  fW k P w S (.slice a i c) (xs.take i):=by
 obtain⟨A,⟨h0,I,G,a',c',e,h3,h4⟩,hl,hlk,hf⟩:=h;injection e with e1 e2 e3;subst e1 e2 e3;have hlen:(A.take i).length=i:=by rw[ah,hl];omega
 have UY:(xs.take i).length=i:=by rw[ah];omega
 have Wn:A.flatten=(A.take i).flatten++(A.drop i).flatten:=by rw[<-List.flatten_append,List.take_append_drop]
 refine⟨A.take i,⟨be,?_,fun u hu=>G u (by rw[Wn];exact List.mem_append_left _ hu),a,c,by rw[UY],be,fun j u hj=>h4 j u ?_⟩,by rw[hlen,UY],fun Z hc=>hlk Z (bq hc),fun j Z x k1 k2=>?_⟩
 .rw[zI fun Z hc=>hlk Z (bq hc),hlen,UY]
 .rw[Wn,aI (aE.1 hj).1];exact hj
 .have hj:=(aE.1 k1).1;rw[hlen]at hj;rw[bo hj]at k1 k2;exact hf j Z x k1 k2
theorem o8.cR{Y:World}(h:o8 w S v xs)(K:∀g,S g->Y.heap[g]? =w.heap[g]?):o8 Y S v xs:=fW.cR (w:=w) (fun _ _ h=>h) h K
theorem Gv(F:Old S w)(W:o8 w S vn xs)(p:Int×Int×Int):eH PG GT.gS #[vn,FM p] w (eR w fun v' _=>∃r,v'=iV r/\(-1<=r)/\(0<=r↔p∈xs)):=by
 have V:=bR w;obtain⟨an,cn,rfl,hcn,R4⟩:=W.shape;unfold maxLen at R4;refine j0 bv ?_
 refine⟨Nat×World,fun z=>⟨[(0,sV an xs.length cn),(3,pP 0 0),(7,iZ xs.length),(8,iN z.1)],[(0,.box T.Node [.v (iV p.1),.v (iV p.2.1),.v (iV p.2.2)])],1,[],z.2⟩,fun z=>xs.length-z.1,
  fun z=>z.1<=xs.length/\Bq w z.2/\(p∈xs↔p∈xs.drop z.1),?_,?_⟩
 .intro O J R;exact⟨(0,J),⟨aR _,V.tr R.cZ,Iff.rfl⟩,sbgn [] R⟩
 rintro⟨i,w1⟩ ⟨D,V,hE⟩;dsimp only at D V hE ⊢;apply bS<;>intro Ou
 .have Ou:=dL Ou;obtain⟨q,U⟩:=gO xs i;have hdr:xs.drop i=q::xs.drop (i+1):=by rw[List.drop_eq_getElem_cons Ou,(aE.1 U).2]
  obtain⟨adx,Z,QU,hP,-,Pq⟩:=W.load bi U;have hP:Z=[iV q.1,iV q.2.1,iV q.2.2]:=hP;subst hP;refine jd hτ vC (.x 1 (.x 2 (.x 3 (.ld 0 32 (.ld 4 32 (.x 5 .nil)))))) d9 d9 ?_;refine⟨adx,QU,be,[iV q.1,iV q.2.1,iV q.2.2],rfl,rdO Pq V F,decide (p=q),fun O w o1 o2=>Iu p q w o1 o2,?_⟩;apply bS<;>intro hd
  .have hd:p=q:=aK hd;exact rtn V fun J8 we re=>⟨_,rfl,be,iff_of_true be (hE.2 (by rw[hdr,hd];exact aH))⟩
  have hd:p≠q:=aG hd;rw[hdr,List.mem_cons,or_iff_right hd]at hE;refine inc i ?_;intro I' w6 R;exact⟨(i+1,w6),⟨Ou,V.tr R.cZ,hE⟩,sbgn [] R,dec Ou⟩
 have Ou:=dE D Ou;rw[Ou,List.drop_length]at hE;exact rtn V fun J8 we re=>⟨_,rfl,be,iff_of_false be fun h=>by cases hE.1 h⟩
theorem Ao(F:Old S w)(W:o8 w S vn xs)(p:Int×Int×Int):eH PG GT.gD #[vn,FM p] w (eR w fun v' _=>∃d,v'= .bool d/\(d=true↔p∈xs)):=by
 have V:=bR w;obtain⟨an,cn,rfl,hcn,R4⟩:=W.shape;refine jG bv ?_;refine cQ (cE V (fun _ J v Y=>∃r,v=iV r/\(-1<=r)/\(0<=r↔p∈xs)) (fun O J r=>Gv (p:=p) (oS F r) (o8.cR W (kS V r F))) ?_);rintro O _ _ _ PA r L V E ⟨r0,rfl,hr0,Tk⟩;exact rtn V fun J8 we re=>⟨_,rfl,by rw[decide_eq_true_iff];exact Tk⟩
def Ap(w:World)(S:Nat->Prop)(g:Nat)(ks:List Value):Prop:=S g/\H9 w g ks
section
variable{S:Nat->Prop}{H:Hp}{nx:Nat}{iv N:Iv}{B:Nat}{w J Y:World}{O:Nat->Sx.eG}{g:Nat}{ks:List Value}
theorem Ap.rel(h:Ap w (Cv S B iv) g ks)(r:Rel H nx iv B w O J)(F:∀g,S g->g<B):Ap J (Cv S B iv) g ks:=⟨h.1,h.2.cR (rls r F h.1)⟩
theorem Ap.cS(h:Ap w (Cv S B iv) g ks)(r:Rel H nx iv B w O J)(F:∀g,S g->g<B)(L:Ext J Y)(hm:∀p,p∈iv->p∈N):Ap Y (Cv S B N) g ks:=
 ⟨h.1.mono hm,(h.rel r F).2.cR (L.block g (rlo r F g h.1))⟩
end
theorem DX(F:Old S w)(hf:dw w S vn vb vs f):eH PG GT.uG #[.agg #[vn,vb,vs]] w (eR w fun v' _=>v'=iV (eW f)):=by
 have V:=bR w;obtain⟨an,cn,ab,cb,aq,cq,rfl,rfl,rfl,R4,RY,SX⟩:=hf.shape;obtain⟨_,_,hsh,hcn,_⟩:=hf.nodes.shape;injection hsh with e1 e2 e3;subst e1 e3;refine yq bv ?_;apply bS<;>intro h0
 .have h0:=aK h0;exact rtn V fun J8 we re=>by show iV _=_;rw[eW,aM be]
 have h0:=aG h0;apply bS<;>intro I
 .have I:=aK I;exact rtn V fun J8 we re=>by show iV _=_;rw[eW,aM be]
 have I:=aG I;apply bS<;>intro G
 .have G:=aK G;exact rtn V fun J8 we re=>by show iV _=_;rw[eW,aM be]
 have G:=aG G
 refine⟨Nat×World×Iv,fun z=>⟨[(1,pP 0 0),(30,sV an f.nodes.length cn),(31,iZ f.nodes.length),(32,iN z.1)],[(0,.box T.Frame [.v (.slice an f.nodes.length cn),.v (.slice ab f.bars.length cb),.v (.slice aq f.dB.length cq)])],1,z.2.2,z.2.1⟩,fun z=>f.nodes.length-z.1,
  fun z=>z.1<=f.nodes.length/\Bq w z.2.1/\fZ fa [] f.nodes=fZ fa (f.nodes.take z.1) (f.nodes.drop z.1),?_,?_⟩
 .intro O J R;exact⟨(0,J,[]),⟨aR _,V.tr R.cZ,rfl⟩,sbgn [] R⟩
 rintro⟨i,w1,iv⟩ ⟨D,V,hE⟩;dsimp only at D V hE ⊢;apply bS<;>intro Ou
 .have Ou:=dL Ou;obtain⟨q,U⟩:=gO f.nodes i;obtain⟨adx,Z,QU,hP,-,Pq⟩:=hf.nodes.load bi U;have hP:Z=[iV q.1,iV q.2.1,iV q.2.2]:=hP;subst hP;refine⟨adx,QU,be,[iV q.1,iV q.2.1,iV q.2.2],rfl,rdO Pq V F,?_⟩;refine cQ (cE V (fun _ J v Y=>∃d,v= .bool d/\(d=true↔rK q.1)) (fun O J r=>mg _ J) ?_);rintro O Pw v1 Pa PA r L V E ⟨d0,rfl,PQ⟩
  cases d0
  .have PQ:¬rK q.1:=fun h=>by have:=PQ.2 h;cases this
   exact rtn V fun J8 we re=>by show iV _=_;rw[eW,aJ be,aM (by rw[hE,dG U (show fa (f.nodes.take i) q=2 by rw[fa,aJ (fun h=>PQ h.1)]) bi];decide),hE,dG U (show fa (f.nodes.take i) q=2 by rw[fa,aJ (fun h=>PQ h.1)]) bi]
  replace PQ:=PQ.1 rfl;refine cQ (cE V (fun _ J v Y=>∃d,v= .bool d/\(d=true↔rK q.2.1)) (fun O J r=>mg _ J) ?_);rintro O Qb v2 Px Oy r L V E ⟨d1,rfl,Pj⟩
  cases d1
  .have Pj:¬rK q.2.1:=fun h=>by have:=Pj.2 h;cases this
   exact rtn V fun J8 we re=>by show iV _=_;rw[eW,aJ be,aM (by rw[hE,dG U (show fa (f.nodes.take i) q=2 by rw[fa,aJ (fun h=>Pj h.2.1)]) bi];decide),hE,dG U (show fa (f.nodes.take i) q=2 by rw[fa,aJ (fun h=>Pj h.2.1)]) bi]
  replace Pj:=Pj.1 rfl;refine cQ (cE V (fun _ J v Y=>∃d,v= .bool d/\(d=true↔rK q.2.2)) (fun O J r=>mg _ J) ?_);rintro O QD v3 QC PH r L V E ⟨d2,rfl,QY⟩
  cases d2
  .have QY:¬rK q.2.2:=fun h=>by have:=QY.2 h;cases this
   exact rtn V fun J8 we re=>by show iV _=_;rw[eW,aJ be,aM (by rw[hE,dG U (show fa (f.nodes.take i) q=2 by rw[fa,aJ (fun h=>QY h.2.2)]) bi];decide),hE,dG U (show fa (f.nodes.take i) q=2 by rw[fa,aJ (fun h=>QY h.2.2)]) bi]
  replace QY:=QY.1 rfl;refine jd hτ vC (.x 0 (.x 2 (.ld 1 104 (.x 3 (.ld 4 96 (.x 5 (.x 6 .nil))))))) d9 d9 ?_;refine⟨⟨be,be,be⟩,an,i,cn,by rw[show ((0:Int).toNat*3)=0*3 from rfl,aAh];split<;>rfl,bv,bv,?_⟩;refine cE V (fun _ J v Y=>∃d,v= .bool d/\(d=true↔q∈f.nodes.take i)) (fun O J r=>Ao (p:=q) (oS F r) (o8.cR (hf.nodes.take (Nat.le_of_lt Ou)) (kS V r F))) ?_;rintro O _ _ _ PV r L V E ⟨d3,rfl,hz3⟩
  cases d3
  .have hz3:q∉f.nodes.take i:=fun h=>by have:=hz3.2 h;cases this
   rw[iz U (ve.2 ⟨⟨PQ,Pj,QY⟩,hz3⟩)]at hE;refine inc i ?_;intro I' w6 R;exact⟨(i+1,w6,_),⟨Ou,V.tr R.cZ,hE⟩,sbgn [] R,dec Ou⟩
  replace hz3:=hz3.1 rfl;exact rtn V fun J8 we re=>by show iV _=_;rw[eW,aJ be,aM (by rw[hE,dG U (show fa (f.nodes.take i) q=12 by rw[fa,aM ⟨PQ,Pj,QY⟩,aM hz3]) bi];decide),hE,dG U (show fa (f.nodes.take i) q=12 by rw[fa,aM ⟨PQ,Pj,QY⟩,aM hz3]) bi]
 have Ou:=dE D Ou;rw[kH be]at hE;refine zU (fun O wa wb r Tl X PR=>?_);have Pf:=(V.tr r.cZ).tr (ju.grown X (fun x e=>by cases e) r.dA);have hB:w.heap.size<=wa.heap.size:=r.dA;have hM:Ap wb (Cf w ((wa.heap.size,wa.heap.size+1)::iv)) wa.heap.size []:=⟨.inr ⟨hB,_,_,aH,lr,bc _⟩,Tl⟩
 generalize (wa.heap.size,wa.heap.size+1)::iv=Oy at*
 obtain⟨gm,Yf⟩:=exq wa.heap.size;rw[Yf]at hM ⊢;have V:=Pf
 refine⟨Nat×World×Iv,fun z=>⟨[(1,pP 0 0),(5,.o (.v (.map (some gm)))),(64,sV ab f.bars.length cb),(65,iZ f.bars.length),(66,iN z.1)],[(0,.box T.Frame [.v (.slice an f.nodes.length cn),.v (.slice ab f.bars.length cb),.v (.slice aq f.dB.length cq)])],1,z.2.2,z.2.1⟩,fun z=>f.bars.length-z.1,
  fun z=>z.1<=f.bars.length/\Bq w z.2.1/\fZ (fp f.nodes.length) [] f.bars=fZ (fp f.nodes.length) (f.bars.take z.1) (f.bars.drop z.1)/\Ap z.2.1 (Cf w z.2.2) gm ((f.bars.take z.1).map fun b=>pS (iE b)),?_,?_⟩
 .intro O J R;exact⟨(0,J,Oy),⟨aR _,V.tr R.cZ,rfl,hM.rel R oF⟩,sbgn [] R⟩
 rintro⟨i,w1,iv⟩ ⟨D,V,Pb,hM⟩;dsimp only at D V Pb hM ⊢;apply bS<;>intro Ou
 .have Ou:=dL Ou;obtain⟨b,U⟩:=gO f.bars i;obtain⟨adb,Z,QV,hF,-,PW⟩:=hf.bars.load bi U;obtain⟨g0,g1,g2,g3,g4,g5,g6,g7,rfl,hF⟩:=hF;refine⟨adb,QV,be,[iV b.1,iV b.2.1,.bool g0,.slice g1 g2 g3,.bool g4,.slice g5 g6 g7],rfl,rdO PW V F,?_⟩;refine cQ (cE V (fun _ J v Y=>∃d,v= .bool d/\(d=true↔jw f.nodes.length b.1)) (fun O J r=>KZ _ J _ _ _ _ _ _ _ _ _) ?_);rintro O Pw v1 Pa PA r L V E ⟨d0,rfl,PQ⟩;replace hM:=hM.cS r oF L (mC E)
  cases d0
  .have PQ:¬jw f.nodes.length b.1:=fun h=>by have:=PQ.2 h;cases this
   exact rtn V fun J8 we re=>by show iV _=_;rw[eW,aJ be,aJ (by rw[hE];decide),aM (by rw[Pb,dG U (show fp f.nodes.length (f.bars.take i) b=6 by rw[fp,aJ (fun h=>PQ h.1)]) bi];decide),Pb,dG U (show fp f.nodes.length (f.bars.take i) b=6 by rw[fp,aJ (fun h=>PQ h.1)]) bi]
  replace PQ:=PQ.1 rfl;refine cQ (cE V (fun _ J v Y=>∃d,v= .bool d/\(d=true↔jw f.nodes.length b.2.1)) (fun O J r=>KZ _ J _ _ _ _ _ _ _ _ _) ?_);rintro O Qb v2 Px Oy r L V E ⟨d1,rfl,Pj⟩;replace hM:=hM.cS r oF L (mC E)
  cases d1
  .have Pj:¬jw f.nodes.length b.2.1:=fun h=>by have:=Pj.2 h;cases this
   exact rtn V fun J8 we re=>by show iV _=_;rw[eW,aJ be,aJ (by rw[hE];decide),aM (by rw[Pb,dG U (show fp f.nodes.length (f.bars.take i) b=6 by rw[fp,aJ (fun h=>Pj h.2)]) bi];decide),Pb,dG U (show fp f.nodes.length (f.bars.take i) b=6 by rw[fp,aJ (fun h=>Pj h.2)]) bi]
  replace Pj:=Pj.1 rfl;apply bS<;>intro QS
  .have QS:b.1=b.2.1:=by simpa using QS
   exact rtn V fun J8 we re=>by show iV _=_;rw[eW,aJ be,aJ (by rw[hE];decide),aM (by rw[Pb,dG U (show fp f.nodes.length (f.bars.take i) b=3 by rw[fp,aM ⟨PQ,Pj⟩,aM QS]) bi];decide),Pb,dG U (show fp f.nodes.length (f.bars.take i) b=3 by rw[fp,aM ⟨PQ,Pj⟩,aM QS]) bi]
  have QS:b.1≠b.2.1:=by simpa using QS
  refine B5 BN xu FN rfl rfl (key:=pS (iE b)) (fun _=>rfl) ⟨_,rfl⟩ (fun k K=>by obtain⟨x,_,rfl⟩:=aV.1 K;exact⟨_,rfl⟩) (fun O J r=>(hM.rel r oF).2) (fun O J d r hd=>?_);replace V:=V.tr r.cZ;replace hM:=hM.rel r oF;replace hd:d=true↔iE b∈(f.bars.take i).map iE:=by
   rw[hd];constructor
   .intro h;obtain⟨x,I,G⟩:=aV.1 h;exact aV.2 ⟨x,I,sj G⟩
   .intro h;obtain⟨x,I,G⟩:=aV.1 h;exact aV.2 ⟨x,I,congrArg pS G⟩
  cases d
  .have RI:iE b∉(f.bars.take i).map iE:=fun h=>by have:=hd.2 h;cases this
   refine cQ (cE V (pE (iV (rs b.2.2))) (fun O J r=>(KO (oS F r) (hF.v.cR (kS V r F)) (e9.zero (S:=S)).v).mono fun _ _ ⟨v2,e1,e2,e3⟩=>⟨v2,e1,e2,by rw[e3,oL]⟩) ?_);rintro O _ _ _ PH r L V E rfl;replace hM:=hM.cS r oF L (mC E);obtain⟨cf,hcf⟩:=exq (rs b.2.2);rw[hcf];apply bS<;>intro Pc
   .have Pc:b.2.2<=0:=by have:=aK Pc;rw[<-Rat.not_lt,<-jc];omega
    exact rtn V fun J8 we re=>by show iV _=_;rw[eW,aJ be,aJ (by rw[hE];decide),aM (by rw[Pb,dG U (show fp f.nodes.length (f.bars.take i) b=2 by rw[fp,aM ⟨PQ,Pj⟩,aJ QS,aJ RI,aM Pc]) bi];decide),Pb,dG U (show fp f.nodes.length (f.bars.take i) b=2 by rw[fp,aM ⟨PQ,Pj⟩,aJ QS,aJ RI,aM Pc]) bi]
   .have Pc:0<b.2.2:=by have:=aG Pc;rw[<-jc];omega
    refine tw BN xu rfl rfl (key:=pS (iE b)) (fun _=>rfl) rfl ⟨_,rfl⟩ (fun k K=>by obtain⟨x,_,rfl⟩:=aV.1 K;exact⟨_,rfl⟩) (fun h=>by
     obtain⟨x,I,G⟩:=aV.1 h
     exact RI (aV.2 ⟨x,I,sj G⟩)) (fun O J r=>⟨(hM.rel r oF).2,Rel.not r oF hM.1⟩) (fun O wa wb r Qj X PR=>?_)
    replace V:=(V.tr r.cZ).tr (ju.grown X (fun x e=>by injection e with e;subst e;exact hM.1.elim (fun h=>h.elim) fun h=>h.1) r.dA);rw[show ((f.bars.take i).map fun b=>pS (iE b))++[pS (iE b)]=(f.bars.take (i+1)).map fun b=>pS (iE b) by rw[bB,U];simp]at Qj;replace hM:Ap wb (Cf w PH) gm ((f.bars.take (i+1)).map fun b=>pS (iE b)):=⟨hM.1,Qj⟩
    rw[iz U (oy.2 ⟨⟨PQ,Pj⟩,QS,RI,Pc⟩)]at Pb;refine inc i ?_;intro I' w6 R;exact⟨(i+1,w6,_),⟨Ou,V.tr R.cZ,Pb,hM.rel R oF⟩,sbgn [] R,dec Ou⟩
  .have hd:=hd.1 rfl;exact rtn V fun J8 we re=>by show iV _=_;rw[eW,aJ be,aJ (by rw[hE];decide),aM (by rw[Pb,dG U (show fp f.nodes.length (f.bars.take i) b=5 by rw[fp,aM ⟨PQ,Pj⟩,aJ QS,aM hd]) bi];decide),Pb,dG U (show fp f.nodes.length (f.bars.take i) b=5 by rw[fp,aM ⟨PQ,Pj⟩,aJ QS,aM hd]) bi]
 have Ou:=dE D Ou;rw[kH be]at Pb;have WG:=Pb;refine zU (fun O wa wb r Tl X PR=>?_);have Pf:=(V.tr r.cZ).tr (ju.grown X (fun x e=>by cases e) r.dA);have hB:w.heap.size<=wa.heap.size:=r.dA;have hM:Ap wb (Cf w ((wa.heap.size,wa.heap.size+1)::iv)) wa.heap.size []:=⟨.inr ⟨hB,_,_,aH,lr,bc _⟩,Tl⟩
 generalize (wa.heap.size,wa.heap.size+1)::iv=Oy at*
 obtain⟨gm,Yf⟩:=exq wa.heap.size;rw[Yf]at hM ⊢;have V:=Pf
 refine⟨Nat×World×Iv,fun z=>⟨[(1,pP 0 0),(9,.o (.v (.map (some gm)))),(115,sV aq f.dB.length cq),(116,iZ f.dB.length),(117,iN z.1)],[(0,.box T.Frame [.v (.slice an f.nodes.length cn),.v (.slice ab f.bars.length cb),.v (.slice aq f.dB.length cq)])],1,z.2.2,z.2.1⟩,fun z=>f.dB.length-z.1,
  fun z=>z.1<=f.dB.length/\Bq w z.2.1/\fZ (lu f.nodes.length) [] f.dB=fZ (lu f.nodes.length) (f.dB.take z.1) (f.dB.drop z.1)/\Ap z.2.1 (Cf w z.2.2) gm ((f.dB.take z.1).map fun b=>pS (j7 b)),?_,?_⟩
 .intro O J R;exact⟨(0,J,Oy),⟨aR _,V.tr R.cZ,rfl,hM.rel R oF⟩,sbgn [] R⟩
 rintro⟨i,w1,iv⟩ ⟨D,V,Pb,hM⟩;dsimp only at D V Pb hM ⊢;apply bS<;>intro Ou
 .have Ou:=dL Ou;obtain⟨b,U⟩:=gO f.dB i;obtain⟨adb,Z,QV,hF,-,PW⟩:=hf.dB.load bi U;obtain⟨g0,g1,g2,g3,g4,g5,g6,g7,rfl,hF⟩:=hF;refine⟨adb,QV,be,[iV b.1,iV b.2.1,.bool g0,.slice g1 g2 g3,.bool g4,.slice g5 g6 g7],rfl,rdO PW V F,?_⟩;refine cQ (cE V (fun _ J v Y=>∃d,v= .bool d/\(d=true↔jw f.nodes.length b.1)) (fun O J r=>KZ _ J _ _ _ _ _ _ _ _ _) ?_);rintro O _ _ _ PA r L V E ⟨d0,rfl,PQ⟩;replace hM:=hM.cS r oF L (mC E)
  cases d0
  .have PQ:¬jw f.nodes.length b.1:=fun h=>by have:=PQ.2 h;cases this
   exact rtn V fun J8 we re=>by show iV _=_;rw[eW,aJ be,aJ (by rw[hE];decide),aJ (by rw[WG];decide),Pb,dG U (show lu f.nodes.length (f.dB.take i) b=6 by rw[lu,aJ PQ]) bi]
  replace PQ:=PQ.1 rfl;apply bS<;>intro Sq
  .have Sq:=aK Sq;exact rtn V fun J8 we re=>by show iV _=_;rw[eW,aJ be,aJ (by rw[hE];decide),aJ (by rw[WG];decide),Pb,dG U (show lu f.nodes.length (f.dB.take i) b=2 by rw[lu,aM PQ,aJ (fun h=>be)]) bi]
  have Sq:=aG Sq;apply bS<;>intro RX
  .have RX:=aK RX;exact rtn V fun J8 we re=>by show iV _=_;rw[eW,aJ be,aJ (by rw[hE];decide),aJ (by rw[WG];decide),Pb,dG U (show lu f.nodes.length (f.dB.take i) b=2 by rw[lu,aM PQ,aJ (fun h=>be)]) bi]
  have RX:=aG RX;have QU:0<=b.2.1/\b.2.1<=2:=by omega
  refine B5 BN xu FN rfl rfl (key:=pS (j7 b)) (fun _=>rfl) ⟨_,rfl⟩ (fun k K=>by obtain⟨x,_,rfl⟩:=aV.1 K;exact⟨_,rfl⟩) (fun O J r=>(hM.rel r oF).2) (fun O J d r hd=>?_);replace V:=V.tr r.cZ;replace hM:=hM.rel r oF;replace hd:d=true↔j7 b∈(f.dB.take i).map j7:=by
   rw[hd];constructor
   .intro h;obtain⟨x,I,G⟩:=aV.1 h;exact aV.2 ⟨x,I,sj G⟩
   .intro h;obtain⟨x,I,G⟩:=aV.1 h;exact aV.2 ⟨x,I,congrArg pS G⟩
  cases d
  .have RI:j7 b∉(f.dB.take i).map j7:=fun h=>by have:=hd.2 h;cases this
   refine cQ (cE V (pE (iV (rs b.2.2))) (fun O J r=>(KO (oS F r) (hF.v.cR (kS V r F)) (e9.zero (S:=S)).v).mono fun _ _ ⟨v2,e1,e2,e3⟩=>⟨v2,e1,e2,by rw[e3,oL]⟩) ?_);rintro O _ _ _ Oy r L V E rfl;replace hM:=hM.cS r oF L (mC E);obtain⟨cf,hcf⟩:=exq (rs b.2.2);rw[hcf];apply bS<;>intro Pc
   .have Pc:b.2.2<0:=by have:=aK Pc;rw[<-nL];omega
    exact rtn V fun J8 we re=>by show iV _=_;rw[eW,aJ be,aJ (by rw[hE];decide),aJ (by rw[WG];decide),Pb,dG U (show lu f.nodes.length (f.dB.take i) b=2 by rw[lu,aM PQ,aM QU,aJ RI,aM Pc]) bi]
   .have Pc:0<=b.2.2:=by have:=aG Pc;rw[<-Rat.not_lt,<-nL];omega
    refine tw BN xu rfl rfl (key:=pS (j7 b)) (fun _=>rfl) rfl ⟨_,rfl⟩ (fun k K=>by obtain⟨x,_,rfl⟩:=aV.1 K;exact⟨_,rfl⟩) (fun h=>by
     obtain⟨x,I,G⟩:=aV.1 h
     exact RI (aV.2 ⟨x,I,sj G⟩)) (fun O J r=>⟨(hM.rel r oF).2,Rel.not r oF hM.1⟩) (fun O wa wb r Qj X PR=>?_)
    replace V:=(V.tr r.cZ).tr (ju.grown X (fun x e=>by injection e with e;subst e;exact hM.1.elim (fun h=>h.elim) fun h=>h.1) r.dA);rw[show ((f.dB.take i).map fun b=>pS (j7 b))++[pS (j7 b)]=(f.dB.take (i+1)).map fun b=>pS (j7 b) by rw[bB,U];simp]at Qj;replace hM:Ap wb (Cf w Oy) gm ((f.dB.take (i+1)).map fun b=>pS (j7 b)):=⟨hM.1,Qj⟩
    rw[iz U (tV.2 ⟨PQ,QU,RI,Pc⟩)]at Pb;refine inc i ?_;intro I' w6 R;exact⟨(i+1,w6,_),⟨Ou,V.tr R.cZ,Pb,hM.rel R oF⟩,sbgn [] R,dec Ou⟩
  .have hd:=hd.1 rfl;exact rtn V fun J8 we re=>by show iV _=_;rw[eW,aJ be,aJ (by rw[hE];decide),aJ (by rw[WG];decide),Pb,dG U (show lu f.nodes.length (f.dB.take i) b=5 by rw[lu,aM PQ,aM QU,aM hd]) bi]
 have Ou:=dE D Ou;rw[kH be]at Pb;exact rtn V fun J8 we re=>by show iV _=_;rw[eW,aJ be,aJ (by rw[hE];decide),aJ (by rw[WG];decide),Pb]
theorem sk{vl:Value}{l:List Ld}(F:Old S w)(hf:dw w S vn vb vs f)(hl:o9 w S vl l):eH PG GT.nD #[.agg #[vn,vb,vs],vl] w (eR w fun v' _=>v'=iV (mK f l)):=by
 have V:=bR w;obtain⟨an,cn,ab,cb,aq,cq,rfl,rfl,rfl,R4,RY,SX⟩:=hf.shape;obtain⟨al,cl,rfl,QW,SA⟩:=hl.shape;refine rF bv ?_;refine cQ (cE V (pE (iV (eW f))) (fun O J r=>DX (oS F r) (hf.cR (kS V r F))) ?_);rintro O _ _ _ PA r L V E rfl;obtain⟨c,hc⟩:=exq (eW f);rw[hc];apply bS<;>intro hd
 .have hd:c≠0:=by simpa using hd
  exact rtn V fun J8 we re=>by show iV _=_;rw[mK,aM (by rw[hc];exact hd),hc]
 have hd:c=0:=by simpa using hd
 refine cQ (cE V (pE (iV (Gt f.nodes.length l))) (fun O J r=>EJ (oS F r) (hl.cR (kS V r F))) ?_);rintro O _ _ _ Oy r L V E rfl;exact rtn V fun J8 we re=>by show iV _=_;rw[mK,aJ (by rw[hc,hd];decide)]
structure Calm(f:eh)(h:Nat):Prop where
 ok:xt f
 c0:0<f.cols
 b2:Gn (c9 f) f.cols h
 a2:Ht (dh (c9 f) f.cols).1 h
 st:mT (c9 f) f.cols=[]
 hh:3*h<=90000
structure aED(f:eh)(l:List Ld)(h:Nat)(x:List Rat):Prop where
 ok:Ir f.nodes.length l
 b1:Gn (ku (c9 f) (eI (ko f l) (-1))) (f.cols+1) h
 x:qA (c9 f) (eI (ko f l) (-1)) f.cols=some x
theorem AF(f:eh)(l:List Ld):(ko f l).length=3*f.nodes.length:=by rw[ko,dQ,aL,qY]
theorem ki(a b:List Rat):(fu a b).length=a.length:=List.length_mapIdx ..
theorem aDG{r s:Nat}(I:r*r<=n)(G:n<(r+1)*(r+1))(h3:s*s<=n)(h4:n<(s+1)*(s+1)):r=s:=by
 rcases cH r s with h|h|h
 .have:=Nat.mul_le_mul (show r+1<=s from h) (show r+1<=s from h);omega
 .exact h
 .have:=Nat.mul_le_mul (show s+1<=r from h) (show s+1<=r from h);omega
theorem aCC(n:Nat)(w:World)(W:n<4000000004000000001):eH PG GT.xN #[iV n] w (eR w fun v' _=>∃r:Nat,v'=iV r/\r*r<=n/\n<(r+1)*(r+1)):=by
 have V:=bR w;refine Aj bv ?_
 refine⟨Nat×Int×World,fun z=>⟨[(0,iZ n),(3,iN z.1),(4,iZ z.2.1)],[],0,[],z.2.2⟩,fun z=>(z.2.1-z.1).toNat,
  fun z=>(z.1:Int)<=z.2.1/\z.2.1<=2000000000/\Bq w z.2.2/\z.1*z.1<=n/\(n:Int)<(z.2.1+1)*(z.2.1+1),?_,?_⟩
 .intro O J R;exact⟨(0,2000000000,J),⟨bv,bv,V.tr R.cZ,bv,by dsimp only;omega⟩,sbgn [] R⟩
 rintro⟨lo,D,w1⟩ ⟨hlh,Ua,V,Sm,Qq⟩;dsimp only at hlh Ua V Sm Qq ⊢;obtain⟨D,rfl⟩:=Int.eq_ofNat_of_zero_le (show 0<=D by omega);replace Qq:n<(D+1)*(D+1):=by
  have h:((D:Int)+1)*((D:Int)+1)=(((D+1)*(D+1):Nat):Int):=by push_cast;rfl
  rw[h]at Qq;omega
 apply bS<;>intro Ou
 .have Ou:=dL Ou;obtain⟨m,hm⟩:=exq ((lo+D+1) / 2);have S9:lo<m:=by omega
  have UH:m<=D:=by omega
  have Qr:m*m<=2000000000*2000000000:=Nat.mul_le_mul be be;refine⟨((lo+D:Nat):Int),wo,((lo+D+1:Nat):Int),wo,bi,(m:Int),by rw[show ((lo+D+1:Nat):Int).tdiv 2=(((lo+D+1) / 2:Nat):Int)from rfl,hm,wrap64]<;>omega,((m*m:Nat):Int),by rw[wrap64]<;>push_cast<;>first|rfl|omega,?_⟩;apply bS<;>intro hd
  .have hd:m*m<=n:=by have:=aK hd;omega
   intro I' w6 R;exact⟨(m,D,w6),⟨by dsimp only;omega,Ua,V.tr R.cZ,hd,by dsimp only;rw[show ((D:Int)+1)*((D:Int)+1)=(((D+1)*(D+1):Nat):Int) by push_cast;rfl];omega⟩,sbgn [] R,by dsimp only;omega⟩
  .have hd:n<m*m:=by have:=aG hd;omega
   have hu3:(lo:Int)<=((m-1:Nat):Int):=by omega
   have hu4:((m-1:Nat):Int)<=2000000000:=by omega
   have Uo:(n:Int)<(((m-1:Nat):Int)+1)*(((m-1:Nat):Int)+1):=by rw[show ((m-1:Nat):Int)+1=m by omega];exact_mod_cast hd
   refine⟨((m-1:Nat):Int),wo,?_⟩;intro I' w6 R;exact⟨(lo,((m-1:Nat):Int),w6),⟨hu3,hu4,V.tr R.cZ,Sm,Uo⟩,sbgn [] R,by dsimp only;omega⟩
 have Ou:lo=D:=by have:=aG Ou;omega
 subst Ou;exact rtn V fun J8 we re=>⟨_,rfl,Sm,Qq⟩
theorem aCD(n:Int)(w:World):eH PG GT.lj #[iV n] w (eR w fun v' _=>∃d,v'= .bool d/\(d=true↔0<=n/\n<=1000000)):=by
 have V:=bR w;refine pH bv ?_;apply bS<;>intro I
 .intro J8 we re;have I:=aK I;exact⟨_,rfl,V.tr re.cZ,_,rfl,by rw[decide_eq_true_iff];exact⟨fun h=>⟨I,h⟩,fun h=>h.2⟩⟩
 .intro J8 we re;have I:=aG I;exact⟨_,rfl,V.tr re.cZ,_,rfl,(fun h=>by cases h),fun h=>absurd h.1 I⟩
theorem aAi(sq st:Nat)(w:World)(h0:0<sq)(I:st<=1000000):eH PG GT.uH #[iV sq,iV st] w (eR w fun v' Y=>∃r:Nat,r*r<=st*st*1000*1000 / sq/\st*st*1000*1000 / sq<(r+1)*(r+1)/\cY Y (Nf w Y) v' (Rat.divInt r 1000)):=by
 have V:=bR w;have G:st*st<=1000000*1000000:=Nat.mul_le_mul I I;have h4:st*st*1000*1000 / sq<=st*st*1000*1000:=Nat.div_le_self _ _;obtain⟨m,hm⟩:=exq (st*st*1000*1000 / sq);refine yt bv ?_;refine⟨((st*st:Nat):Int),by rw[wrap64]<;>push_cast<;>first|rfl|omega,((st*st*1000:Nat):Int),wo,((st*st*1000*1000:Nat):Int),wo,be,(m:Int),by rw[show ((st*st*1000*1000:Nat):Int).tdiv (sq:Int)=((st*st*1000*1000 / sq:Nat):Int)from rfl,hm,wrap64]<;>omega,?_⟩;refine cQ (cE V (fun _ J v Y=>∃r:Nat,v=iV r/\r*r<=m/\m<(r+1)*(r+1)) (fun O J r=>aCC m J be) ?_);rintro O _ _ _ PA r L V E ⟨rt,rfl,Tk,Sr⟩;have hrt:rt<=2000000000:=by
  rcases aS 2000000000 rt with h|h
  .have:=Nat.mul_le_mul h h;omega
  .exact h
 refine cQ (cE V (fun _ J v Y=>∃r,v= .tuple #[r,iV 0]/\cY Y (Nf J Y) r (Rat.divInt rt 1000)) (fun O J r=>(Kb rt 1000 J be be bi bi).mono fun _ _ ⟨v2,e1,e2,e3⟩=>⟨v2,e1,e2,e3.elim (fun k=>absurd k.1 bi) fun h=>h.2⟩) ?_);rintro O _ _ _ Oy r L V E ⟨q1,rfl,k1⟩;have hd:=k1.cP (nw r E);obtain⟨s2_0a,s2_0b,s2_0c,s2_0d,s2_0e,s2_0f,s2_0g,s2_0h,rfl⟩:=hd.shape;exact rtn V fun J8 we re=>⟨rt,hm▸Tk,hm▸Sr,hd.out re oF⟩
theorem Kd(sq st:Nat)(w:World)(h0:0<sq)(G:sq<=20000000000000)(I:st<=1000000):eH PG GT.uF #[iV sq,iV st] w (eR w fun v' Y=>∃vr,∃r:Nat,v'= .tuple #[vr,iV 0]/\r*r<=st*st*1000*1000 / sq/\st*st*1000*1000 / sq<(r+1)*(r+1)/\cY Y (Nf w Y) vr (Rat.divInt r 1000)):=by
 have V:=bR w;refine yp bv ?_;refine tG.mk (fun k1=>absurd (aK k1) be) (fun _=>?_);refine tG.mk (fun k1=>absurd (aK k1) be) (fun _=>?_);refine cQ (cE V (pE (.bool true)) (fun O J r=>(aCD st J).mono fun _ _ ⟨v2,e1,e2,d,e3,e4⟩=>⟨v2,e1,e2,by rw[e3,e4.2 ⟨be,be⟩]⟩) ?_);rintro O _ _ _ PA r L V E rfl;refine cQ (cE V (fun _ J v Y=>∃r:Nat,r*r<=st*st*1000*1000 / sq/\st*st*1000*1000 / sq<(r+1)*(r+1)/\cY Y (Nf J Y) v (Rat.divInt r 1000)) (fun O J r=>aAi sq st J h0 I) ?_);rintro O _ _ _ Oy r L V E ⟨rt,Tk,Sr,k1⟩;have hd:=k1.cP (nw r E);obtain⟨s2_0a,s2_0b,s2_0c,s2_0d,s2_0e,s2_0f,s2_0g,s2_0h,rfl⟩:=hd.shape;exact rtn V fun J8 we re=>⟨_,rt,rfl,Tk,Sr,hd.out re oF⟩
set_option maxRecDepth 100000
def aDe(m:Nat):List Value:=[iV ((m / 3:Nat):Int),iV ((m % 3:Nat):Int),.bool false,nls,.bool false,nls]
def uU(m:Nat):List (List Value):=(List.range m).map aDe
theorem Ke{k:Nat}(K:k<3):(uU (3*i+k)).flatten++[iV (i:Int),iV (k:Int),.bool false,nls,.bool false,nls]=(uU (3*i+(k+1))).flatten:=by
 rw[uU,uU,<-Nat.add_assoc,bU,a9,List.flatten_append];simp only[List.map_cons,List.map_nil,aDe,show(3*i+k) / 3=i by omega,show(3*i+k) % 3=k by omega]
 simp
theorem NW(m:Nat):(uU m).length=m:=by rw[uU,aL,List.length_range]
theorem NX(m:Nat):∀Z∈uU m,Z.length=6:=fun Z hc=>by
 obtain⟨j,_,rfl⟩:=aV.1 hc;rfl
theorem e9.zeroV:e9 w S (.agg #[.bool false,nls,.bool false,nls]) 0:=e9.zero
theorem zK(w:World):eH PG GT.uD #[] w (eR w fun v' Y=>∃vn vb vs,v'= .agg #[vn,vb,vs]/\dw Y (Nf w Y) vn vb vs gH):=by
 have V:=bR w;refine yn bv ?_;refine cQ (cE V (pR cY ((1:Int):Rat)) (fun O J r=>jf 1 J bi) ?_);rintro O _ _ _ PA r L V E W;have hd:=W.cP (nw r E);obtain⟨A0,A1,A2,A3,A4,A5,A6,A7,rfl⟩:=hd.shape;conv=>whnf
 refine⟨Nat×World,fun z=>⟨[(0,pP 0 0),(2,pP 4 0),(3,iN z.1)],[(5,.vec T.BI 6 (uU (3*z.1)).flatten),(4,.box T.Frame [.s 2 0 3 3,.s 3 0 2 2,.w 5 (3*z.1)]),(3,.box T.Bar [.v (iV 0),.v (iV 2),.v (.bool A0),.v (.slice A1 A2 A3),.v (.bool A4),.v (.slice A5 A6 A7),.v (iV 1),.v (iV 2),.v (.bool A0),.v (.slice A1 A2 A3),.v (.bool A4),.v (.slice A5 A6 A7)]),(2,.box T.Node [.v (iV 0),.v (iV 0),.v (iV 0),.v (iV 0),.v (iV 0),.v (iV 4),.v (iV 3),.v (iV 0),.v (iV 0)]),(0,.box T.Frame [.v nls,.v nls,.v nls])],6,PA,z.2⟩,fun z=>2-z.1,
  fun z=>z.1<=2/\Bq w z.2/\cY z.2 (Cf w PA) (.agg #[.bool A0,.slice A1 A2 A3,.bool A4,.slice A5 A6 A7]) ((1:Int):Rat),?_,?_⟩
 .intro O J r;exact⟨(0,J),⟨aR _,V.tr r.cZ,hd.rel r oF⟩,Sub.EH 4 2 T.BI 6 rfl rfl (by simp[kK,SV.sc,At.sc,fc]) r fun In r1=>sbgn [] r1⟩
 rintro⟨i,w1⟩ ⟨D,V,hd⟩;dsimp only at D V hd ⊢;conv=>whnf
 apply bS<;>intro Ou
 .have Ou:i<2:=by have:=aK Ou;omega
  refine⟨Nat×World,fun z=>⟨[(0,pP 0 0),(2,pP 4 0),(3,iN i),(4,iN z.1)],[(5,.vec T.BI 6 (uU (3*i+z.1)).flatten),(4,.box T.Frame [.s 2 0 3 3,.s 3 0 2 2,.w 5 (3*i+z.1)]),(3,.box T.Bar [.v (iV 0),.v (iV 2),.v (.bool A0),.v (.slice A1 A2 A3),.v (.bool A4),.v (.slice A5 A6 A7),.v (iV 1),.v (iV 2),.v (.bool A0),.v (.slice A1 A2 A3),.v (.bool A4),.v (.slice A5 A6 A7)]),(2,.box T.Node [.v (iV 0),.v (iV 0),.v (iV 0),.v (iV 0),.v (iV 0),.v (iV 4),.v (iV 3),.v (iV 0),.v (iV 0)]),(0,.box T.Frame [.v nls,.v nls,.v nls])],6,PA,z.2⟩,fun z=>3-z.1,
   fun z=>z.1<=3/\Bq w z.2/\cY z.2 (Cf w PA) (.agg #[.bool A0,.slice A1 A2 A3,.bool A4,.slice A5 A6 A7]) ((1:Int):Rat),?_,?_⟩
  .intro O J R;exact⟨(0,J),⟨aR _,V.tr R.cZ,hd.rel R oF⟩,sbgn [] R⟩
  rintro⟨k,w3⟩ ⟨K,V,hd⟩;dsimp only at K V hd ⊢;apply bS<;>intro Ow
  .have Ow:k<3:=by have:=aK Ow;omega
   have hs:=Ke (i:=i) Ow;have PM:=zI (NX (3*i+k));have TE:=NW (3*i+k);refine .inl ?_;refine⟨be,be,mx,((k+1:Nat):Int),wo,?_⟩;intro I' w6 R;exact⟨(k+1,w6),⟨Ow,V.tr R.cZ,hd.rel R oF⟩,sbgn [(5,7)] R ⟨by dsimp only;rw[<-hs];rfl,rfl,rfl,rfl,rfl,trivial⟩,dec Ow⟩
  have Ow:k=3:=by have:=aG Ow;omega
  subst Ow;refine inc i ?_;intro I' w6 R;exact⟨(i+1,w6),⟨Ou,V.tr R.cZ,hd.rel R oF⟩,sbgn [] R,dec Ou⟩
 have Ou:i=2:=by have:=aG Ou;omega
 subst Ou;refine .inl ?_;refine⟨bi,bi,bi,?_⟩;intro J8 we re;have hN:∀{id:Nat} {bk:kp},dU _ id=some bk->(J8 id).nil=false->Nf w we (J8 id).g:=fun h W=>by
  obtain⟨I,G⟩:=re.low _ _ h W;exact .inr ⟨I,G⟩
 have hR:=hd.out re oF;have hL:e9 we (Nf w we) (.agg #[.bool A0,.slice A1 A2 A3,.bool A4,.slice A5 A6 A7]) 1:=hR.l bi;refine⟨_,rfl,V.tr re.cZ,_,_,_,rfl,?_,?_,?_⟩
 .refine⟨[[iV 0,iV 0,iV 0],[iV 0,iV 0,iV 4],[iV 3,iV 0,iV 0]],(re.qW (id:=2) (sz:=3) (n:=3) rfl rfl bi (by repeat' first|refine List.forall_mem_cons.2 ⟨rfl,?_⟩|exact fun u hu=>absurd hu List.not_mem_nil)).cP fun g X=>by subst X;exact hN (id:=2) rfl (re.nn 2 _ rfl (by intros;simp) bv),rfl,bv,fun j Z x I G=>?_⟩;rcases j with _|_|_|j
  .cases I;cases G;rfl
  .cases I;cases G;rfl
  .cases I;cases G;rfl
  .cases G
 .refine⟨[[iV 0,iV 2,.bool A0,.slice A1 A2 A3,.bool A4,.slice A5 A6 A7],[iV 1,iV 2,.bool A0,.slice A1 A2 A3,.bool A4,.slice A5 A6 A7]],(re.qW (id:=3) (sz:=6) (n:=2) rfl rfl bi (by repeat' first|refine List.forall_mem_cons.2 ⟨rfl,?_⟩|exact fun u hu=>absurd hu List.not_mem_nil)).cP fun g X=>by subst X;exact hN (id:=3) rfl (re.nn 3 _ rfl (by intros;simp) bv),rfl,bv,fun j Z x I G=>?_⟩;rcases j with _|_|j
  .cases I;cases G;exact⟨_,_,_,_,_,_,_,_,rfl,hL⟩
  .cases I;cases G;exact⟨_,_,_,_,_,_,_,_,rfl,hL⟩
  .cases G
 .refine⟨uU 6++[[iV 2,iV 1,.bool false,nls,.bool false,nls]],?_,rfl,bi,fun j Z x I G=>?_⟩
  .have h5:=re.iD (id:=7) (sz:=6) (m:=7) rfl bi bi bi bi;rw[List.flatten_append];exact h5.cP fun g X=>.inr X
  .rcases j with _|_|_|_|_|_|_|j
   .cases I;cases G;exact⟨_,_,_,_,_,_,_,_,rfl,e9.zeroV⟩
   .cases I;cases G;exact⟨_,_,_,_,_,_,_,_,rfl,e9.zeroV⟩
   .cases I;cases G;exact⟨_,_,_,_,_,_,_,_,rfl,e9.zeroV⟩
   .cases I;cases G;exact⟨_,_,_,_,_,_,_,_,rfl,e9.zeroV⟩
   .cases I;cases G;exact⟨_,_,_,_,_,_,_,_,rfl,e9.zeroV⟩
   .cases I;cases G;exact⟨_,_,_,_,_,_,_,_,rfl,e9.zeroV⟩
   .cases I;cases G;exact⟨_,_,_,_,_,_,_,_,rfl,e9.zeroV⟩
   .cases G
structure dq(w:World)(S:Nat->Prop)(A:List (List Value))(qs:List Rat):Prop where
 len:A.length=qs.length
 four:∀Z∈A,Z.length=4
 at_:∀(j:Nat) Z q,A[j]? =some Z->qs[j]? =some q->js w S Z q
section
variable{S S':Nat->Prop}{H:Hp}{nx:Nat}{iv N:Iv}{B:Nat}{w J Y:World}{O:Nat->Sx.eG}{A:List (List Value)}{qs:List Rat}
theorem dq.nil:dq w S [] []:=⟨rfl,fun _ h=>(by cases h),fun _ _ _ h=>by cases h⟩
theorem dq.cR(h:dq w S A qs)(K:∀g,S g->Y.heap[g]? =w.heap[g]?):dq Y S A qs:=⟨h.len,h.four,fun j Z q I G=>by
 obtain⟨b,a,n,c,b2,a2,n2,c2,e,hr⟩:=h.at_ j Z q I G
 exact⟨b,a,n,c,b2,a2,n2,c2,e,hr.cR K⟩⟩
theorem dq.cP(h:dq w S A qs)(K:∀g,S g->S' g):dq w S' A qs:=⟨h.len,h.four,fun j Z q I G=>by
 obtain⟨b,a,n,c,b2,a2,n2,c2,e,hr⟩:=h.at_ j Z q I G
 exact⟨b,a,n,c,b2,a2,n2,c2,e,hr.cP K⟩⟩
theorem dq.rel(h:dq w (Cv S B iv) A qs)(r:Rel H nx iv B w O J)(F:∀g,S g->g<B):dq J (Cv S B iv) A qs:=h.cR fun _ X=>rls r F X
theorem dq.cS(h:dq w (Cv S B iv) A qs)(r:Rel H nx iv B w O J)(F:∀g,S g->g<B)(L:Ext J Y)(hm:∀p,p∈iv->p∈N):dq Y (Cv S B N) A qs:=
 ((h.rel r F).cR fun g X=>L.block g (rlo r F g X)).cP fun _ X=>X.mono hm
theorem dq.push{Z:List Value}{q:Rat}(h:dq w S A qs)(hc:js w S Z q)(h4:Z.length=4):dq w S (A++[Z]) (qs++[q]):=by
 refine⟨by simp[h.len],fun x U=>?_,fun j x p I G=>?_⟩
 .rcases bG.1 U with U|U
  .exact h.four x U
  .rw[bK.1 U];exact h4
 .rcases aS j A.length with D|D
  .rw[aI D]at I;rw[aI (by rw[<-h.len];exact D)]at G;exact h.at_ j x p I G
  .have Rr:j=A.length:=by have:=(aE.1 I).1;simp at this;omega
   subst Rr;rw[aN lr,bO]at I;rw[h.len,aN lr,bO]at G;simp at I G;subst I G;exact hc
theorem dq.one(h:dq w S A qs):∀u∈A.flatten,u.oneCell'=true:=fun u hu=>by
 obtain⟨Z,hc,hu⟩:=List.mem_flatten.1 hu;obtain⟨j,hj⟩:=aU hc;obtain⟨_,_,_,_,_,_,_,_,rfl,_⟩:=h.at_ j Z _ hj (aD (by rw[<-h.len];exact(aE.1 hj).1));simp at hu;rcases hu with rfl|rfl|rfl|rfl<;>rfl
theorem dq.pK(h:dq w (Cv FF B iv) A qs)(r:Rel H nx iv B w O J)(QF:dU H id=some (.vec T.Rat 4 A.flatten))(h0:0<A.length)(hm:A.length<=maxLen):
  eV J FF B [(B,J.heap.size)] ((SV.o (.w id A.length)).den O) A.length qs:=by
 have G:=h.rel r (dV B);obtain⟨k1,k2,k3,k4⟩:=aBx r QF rfl h0 hm ⟨G.len,G.at_⟩;have SI:(SV.o (.w id A.length)).den O= .slice (some ⟨(O id).g,0,none⟩) A.length (O id).cap:=by simp[SV.den,At.den,k1]
 rw[SI];have key:∀g,Cv FF B iv g->Cv FF B [(B,J.heap.size)] g:=fun g X=>
  .inr ⟨X.elim (fun h=>h.elim) fun h=>h.1,B,J.heap.size,bK.2 rfl,X.elim (fun h=>h.elim) fun h=>h.1,rlo r (dV B) g X⟩
 refine⟨k4.cP fun g X=>⟨key g X,fun e=>?_⟩,fun g X=>?_⟩
 .injection e with e;exact Rel.not r (dV B) X id _ QF k1 e
 .injection X with X;subst X;have:=(r.low id _ QF k1).2;exact .inr ⟨k2,B,J.heap.size,bK.2 rfl,k2,this⟩
theorem dq.list(h:dq w S A qs)(hs:j1 w S 4 v A.flatten A.length):cX w S v qs:=⟨A,h.len▸hs,h.len,h.four,h.at_⟩
end
theorem Iw(F:Old S w)(hl:DW w S v l)(hl0:0<l.length)(Ps:l.length<=1000)(hb:∀z∈l,z.natAbs<1073741824):
  eH PG GT.wz #[v] w (eR w fun v' Y=>eV Y FF w.heap.size [(w.heap.size,Y.heap.size)] v' l.length (dQ l)):=by
 have V:=bR w;obtain⟨al,cl,rfl,QW,SA⟩:=hl.shape;unfold maxLen at SA;refine AT bv ?_
 refine⟨Nat×List (List Value)×World×Iv,fun z=>⟨[(0,sV al l.length cl),(3,.o (.w 0 z.2.1.length)),(4,iN z.1)],[(0,.vec T.Rat 4 z.2.1.flatten)],1,z.2.2.2,z.2.2.1⟩,fun z=>l.length-z.1,
  fun z=>z.1<=l.length/\Bq w z.2.2.1/\dq z.2.2.1 (Cf w z.2.2.2) z.2.1 (dQ (l.take z.1)),?_,?_⟩
 .intro O J r;exact⟨(0,[],J,[]),⟨aR _,V.tr r.cZ,dq.nil⟩,Sub.nil 3 T.Rat 4 rfl (by simp[kK,SV.sc,At.sc,fc]) r fun In r1=>sbgn [] r1⟩
 rintro⟨i,A,w1,iv⟩ ⟨D,V,hG⟩;dsimp only at D V hG ⊢;have PM:=eP hG.four;have SG:A.length=i:=by rw[hG.len,dQ,aL,ah];omega
 apply bS<;>intro Ou
 .have Ou:=dL Ou;obtain⟨z,hz⟩:=gO l i;have Uy:=hb z (aC hz);have Qf:dQ (l.take (i+1))=dQ (l.take i)++[(z:Rat)]:=by rw[dQ,bB,hz,a9];rfl
  obtain⟨adx,QU,hSx,Pq⟩:=DW.at hl hz;refine⟨adx,QU,be,iV z,rd1 Pq V (F _ hSx),?_⟩;refine cQ (cE V (pR cY (z:Rat)) (fun O J r=>jf z J be) ?_);rintro O _ _ _ PA r L V E W;replace hG:=hG.cS r oF L (mC E);have hd:=W.cP (nw r E);obtain⟨A0,A1,A2,A3,A4,A5,A6,A7,rfl⟩:=hd.shape;have Rz:=hG.push (Z:=rC A0 A1 A2 A3 A4 A5 A6 A7) (q:=(z:Rat)) ⟨_,_,_,_,_,_,_,_,rfl,hd⟩ rfl;rw[<-Qf]at Rz;have QI:A.flatten++(rC A0 A1 A2 A3 A4 A5 A6 A7:List Value)=(A++([rC A0 A1 A2 A3 A4 A5 A6 A7]:List (List Value))).flatten:=by simp
  refine .inl ?_;refine⟨be,be,mx,((i+1:Nat):Int),wo,?_⟩;intro I' w3 R;exact⟨(i+1,A++[rC A0 A1 A2 A3 A4 A5 A6 A7],w3,_),⟨Ou,V.tr R.cZ,Rz.rel R oF⟩,sbgn [(0,2)] R ⟨by dsimp only;rw[<-QI];rfl,trivial⟩ ⟨rfl,by dsimp only;rw[l1];rfl,rfl,trivial⟩,dec Ou⟩
 have Ou:=dE D Ou;subst Ou;rw[bN]at hG;intro J8 we re;refine⟨_,rfl,V.tr re.cZ,?_⟩;have h5:=hG.pK re (id:=0) rfl be mx;have h6:A.length=l.length:=SG;rw[<-h6];exact h5
theorem dw.iR{J Y:World}(h:dw Y (Nf J Y) vn vb vs f)(hB:B<=J.heap.size)(hm:(J.heap.size,Y.heap.size)∈iv):dw Y (Cv FF B iv) vn vb vs f:=h.cP fun _ X=>X.iR hB hm
abbrev Kf(a b c:Int):Value:=.agg #[iV a,iV b,iV c]
theorem aDI(p0 p1 p2 q0 q1 q2:Int)(w:World):(Op.equal T.Cb (Kf p0 p1 p2) (Kf q0 q1 q2)).run PG w= .ok (decide (p0=q0/\p1=q1/\p2=q2)) w:=by
 have h:=run_underlying Tryz.underlying97;simp only[Op.equal,Op.maxDepth]
 unfold Op.equalIn;have a0:=fw (Z:= #[iV p0,iV p1,iV p2]) (j:=0) rfl;have a1:=fw (Z:= #[iV p0,iV p1,iV p2]) (j:=1) rfl;have a2:=fw (Z:= #[iV p0,iV p1,iV p2]) (j:=2) rfl;have b0:=fw (Z:= #[iV q0,iV q1,iV q2]) (j:=0) rfl;have b1:=fw (Z:= #[iV q0,iV q1,iV q2]) (j:=1) rfl;have b2:=fw (Z:= #[iV q0,iV q1,iV q2]) (j:=2) rfl;simp[h,a0,a1,a2,b0,b1,b2,eq_int 9998];by_cases h0:p0=q0
 .by_cases I:p1=q1
  .by_cases G:p2=q2<;>simp[h0,I,G]
  .simp[h0,I]
 .simp[h0]
theorem aCE(p0 p1 p2 q0 q1 q2:Int)(w:World)(o1 o2:Operand):(do eqGuard .eql T.Cb o1 o2 (Kf p0 p1 p2) (Kf q0 q1 q2);binOp .eql T.Cb (Kf p0 p1 p2) (Kf q0 q1 q2)).run PG w= .ok (.bool (decide (p0=q0/\p1=q1/\p2=q2))) w:=by
 have h:=aDI p0 p1 p2 q0 q1 q2 w;simp[eqGuard,binOp,h]
theorem aC6{J:World}(r:Rel H nx iv B w O J)(h:dU H id=some (.box T.int (l.map fun z=>At.v (iV z))))(W:l.length=n)(hm:n<=maxLen):
  DW J (fun g=>g=(O id).g) (.slice (some ⟨(O id).g,0,none⟩) n n) l:=by
 subst W;have h5:=r.qW (sz:=1) (n:=l.length) h bv hm (fun u hu=>by obtain⟨z,_,rfl⟩:=aV.1 hu;rfl);rw[List.map_map]at h5;exact h5
def aDf(Z:List Value):Prop:=∃b a n c b2 a2 n2 c2,Z=(rC b a n c b2 a2 n2 c2)
def Aq(Z:List Value):Prop:=∃b a n c b2 a2 n2 c2,Z=(rC b a n c b2 a2 n2 c2)/\n<=3/\n2<=3
theorem aAl(a:Addr)(m n:Nat):(a.add m).add n=a.add (m+n):=by
 unfold Addr.add;split<;>split<;>simp_all<;>omega
theorem rdF{w1:World}{x:Value}{ad b a':Addr}(k:S ad.block/\w.cell? b=some x)(V:ju B w w1)(F:∀g,S g->g<B)(ha:a'=b:=by simp only[aF,Int.toNat_zero,Nat.zero_mul,aAl]<;>first|rfl|(congr 1;omega))(hb:b.block=ad.block:=by simp only[dO]):∀(O:Nat->Sx.eG) J,Rel H nx iv B w1 O J->J.cell? a'=some x:=fun O J r=>by
 rw[ha,cV (w:=w) (Y:=J) (by rw[hb];exact(V.tr r.cZ).block _ (F _ k.1))];exact k.2
theorem jP.l3{b1 b2:Bool}{a1 a2:Option Addr}{n1 n2 c1 c2:Nat}{a b:Int}(h:jP w S (.agg #[.bool b1,.slice a1 n1 c1,.bool b2,.slice a2 n2 c2]) a b)(hf:Aq (rC b1 a1 n1 c1 b2 a2 n2 c2)):
  e9 w S (.agg #[.bool b1,.slice a1 n1 c1,.bool b2,.slice a2 n2 c2]) (ratio a b)/\rl (ratio a b)<=3:=by
 obtain⟨_,_,_,_,_,_,_,_,e,k1,k2⟩:=hf;simp only[List.cons.injEq,Value.slice.injEq,Value.bool.injEq,and_true]at e;obtain⟨rfl,⟨rfl,rfl,rfl⟩,rfl,rfl,rfl,rfl⟩:=e;obtain⟨b1,l1,b2,l2,e,I,G⟩:=h;simp only[Value.agg.injEq,Array.mk.injEq,List.cons.injEq,Value.bool.injEq,and_true]at e;obtain⟨rfl,rfl,rfl,rfl⟩:=e;have g1:=I.short k1;have g2:=G.short k2;have r1:=g1.ln;have r2:=g2.ln;have hr:=jM a b;refine⟨⟨_,_,_,_,a,b,rfl,?_,?_,rfl⟩,be⟩
 .obtain⟨ng,ls,i1,i2,i3⟩:=g1;exact⟨ng,ls,i1,i2,be⟩
 .obtain⟨ng,ls,i1,i2,i3⟩:=g2;exact⟨ng,ls,i1,i2,be⟩
theorem Gw(F:Old S w)(hq:j1 w S 4 v A.flatten A.length)(hF:∀Z∈A,aDf Z):
  eH PG GT.np #[v] w (eR w fun v' _=>∃d,v'= .bool d/\(d=true->A.length<=80/\∀Z∈A,Aq Z)):=by
 have V:=bR w;have h4:∀Z∈A,Z.length=4:=fun Z hc=>by obtain⟨_,_,_,_,_,_,_,_,rfl⟩:=hF Z hc;rfl
 have hK:fW 4 (fun _ _ Z x=>Z=x) w S v A:=⟨A,hq,rfl,h4,fun j Z x I G=>by rw[I]at G;injection G⟩
 obtain⟨a,c,rfl,hc,hm⟩:=hK.shape;unfold maxLen at hm;refine Ct bv ?_
 refine⟨Nat×World,fun z=>⟨[(0,sV a A.length c),(3,iN z.1)],[],0,[],z.2⟩,fun z=>A.length-z.1,
  fun z=>z.1<=A.length/\Bq w z.2/\∀j Z,j<z.1->A[j]? =some Z->Aq Z,?_,?_⟩
 .intro O J R;exact⟨(0,J),⟨aR _,V.tr R.cZ,fun j Z hj=>absurd hj (Nat.not_lt_zero j)⟩,sbgn [] R⟩
 rintro⟨i,w1⟩ ⟨D,V,hE⟩;dsimp only at D V hE ⊢;apply bS<;>intro Ou
 .have Ou:=dL Ou;apply bS<;>intro h80
  .have h80:A.length<=80:=by have:=aK h80;omega
   obtain⟨Z,PT⟩:=gO A i;obtain⟨g0,g1,g2,g3,g4,g5,g6,g7,rfl⟩:=hF Z (aC PT);obtain⟨adx,cs2,QU,Xu,-,Qz⟩:=hK.load bi PT;subst Xu;refine⟨adx,QU,be,.slice g1 g2 g3,rdF (Qz 1 _ rfl) V F,?_⟩;apply bS<;>intro k3
   .exact rtn V fun J8 we re=>⟨_,rfl,fun h=>by cases h⟩
   have k3:=aG k3;refine⟨adx,QU,be,.slice g5 g6 g7,rdF (Qz 3 _ rfl) V F,?_⟩;apply bS<;>intro k4
   .exact rtn V fun J8 we re=>⟨_,rfl,fun h=>by cases h⟩
   have k4:=aG k4;have Pb:∀j Z,j<i+1->A[j]? =some Z->Aq Z:=fun j Z hj hc=>by
    rcases aS j i with h|h
    .exact hE j Z h hc
    .have:j=i:=by omega
     subst this;rw[PT]at hc;injection hc with hc;subst hc;exact⟨_,_,_,_,_,_,_,_,rfl,be,be⟩
   refine inc i ?_;intro I' w6 R;exact⟨(i+1,w6),⟨Ou,V.tr R.cZ,Pb⟩,sbgn [] R,dec Ou⟩
  .have h80:=aG h80;exact rtn V fun J8 we re=>⟨_,rfl,fun h=>by have:=aK h;omega⟩
 have Ou:=dE D Ou;subst Ou;intro J8 we re
 exact⟨_,rfl,V.tr re.cZ,_,rfl,fun h=>⟨by have:=aK h;omega,fun Z hc=>by
  obtain⟨j,hj⟩:=aU hc
  exact hE j Z (aE.1 hj).1 hj⟩⟩
end Go.Ex
namespace Go.Ex
theorem aDo{a b x p q:Rat}(I:a<x)(G:x<=b):(p<=q->p<=p+(x-a) / (b-a)*(q-p)/\p+(x-a) / (b-a)*(q-p)<=q)/\(q<=p->q<=p+(x-a) / (b-a)*(q-p)/\p+(x-a) / (b-a)*(q-p)<=p):=by
 have hd:0<b-a:=by grind
 have D:0<=(b-a)⁻¹:=Rat.le_of_lt (Rat.inv_pos.2 hd);obtain⟨t,ht⟩:∃t,(x-a) / (b-a)=t:=⟨_,rfl⟩
 have t0:0<=t:=by rw[<-ht,bh];exact Rat.mul_nonneg (by grind) D
 have t1:t<=1:=by
  rw[<-ht,bh,<-Rat.mul_inv_cancel (b-a) (by grind)];exact Rat.mul_le_mul_of_nonneg_right (by grind) D
 rw[ht];refine⟨fun h=>?_,fun h=>?_⟩
 .have k1:0<=t*(q-p):=Rat.mul_nonneg t0 (by grind);have k2:t*(q-p)<=1*(q-p):=Rat.mul_le_mul_of_nonneg_right t1 (by grind);grind
 .have k1:0<=t*(p-q):=Rat.mul_nonneg t0 (by grind);have k2:t*(p-q)<=1*(p-q):=Rat.mul_le_mul_of_nonneg_right t1 (by grind);have k3:t*(q-p)= -(t*(p-q)):=by grind
  grind
end Go.Ex
namespace Go.Ex
open Go Go.Sx Go.Proofs
section
variable{p:Int×Int×(Int×Int)}{xs:List (Int×Int)}{A:List (List Value)}{Z:List Value}{S:Nat->Prop}{ax:Option Addr}{q:Rat}{v vb vn vs:Value}{w:World}{f:eh}
theorem NY{p:Rat}:rs (p-q)<=0↔p<=q:=by
 rw[<-Int.not_lt,Kg,Rat.not_lt]
theorem qc(c b:Int×Int×Rat):iE c=iE b↔(c.1=b.1/\c.2.1=b.2.1)\/(c.1=b.2.1/\c.2.1=b.1):=by
 unfold iE;rw[Prod.mk.injEq];omega
theorem Gx(c b:Int×Int×Rat):j7 c=j7 b↔c.1=b.1/\c.2.1=b.2.1:=by
 unfold j7;rw[Prod.mk.injEq]
section
variable{α β:Type}{D':List α}{GE:α->β}{x:β}
theorem nM{k:Nat}{c:α}(hc:D'[k]? =some c)(h:GE c≠x)(hE:x∈D'.map GE↔x∈(D'.drop k).map GE):x∈D'.map GE↔x∈(D'.drop (k+1)).map GE:=by
 rw[hE,List.drop_eq_getElem_cons (aE.1 hc).1,(aE.1 hc).2,List.map_cons,List.mem_cons,or_iff_right fun e=>h e.symm]
theorem xx{k:Nat}{c:α}(hc:D'[k]? =some c)(h:GE c=x):x∈D'.map GE:=aV.2 ⟨c,aC hc,h⟩
theorem Gy{k:Nat}(K:D'.length<=k)(hE:x∈D'.map GE↔x∈(D'.drop k).map GE):x∉D'.map GE:=fun h=>by
 have:=hE.1 h;rw[List.drop_eq_nil_of_le K]at this
 cases this
end
theorem zM(n:Int)(an ab aq:Option Addr)(ln cn nb cb nq cq:Nat)(w:World):eH PG GT.xC #[.agg #[.slice an ln cn,.slice ab nb cb,.slice aq nq cq],iV n] w (eR w fun v' _=>∃d,v'= .bool d/\(d=true↔jw ln n)):=by
 have V:=bR w;refine AW bv ?_;apply bS<;>intro I
 .intro J8 we re;have I:=aK I;exact⟨_,rfl,V.tr re.cZ,_,rfl,by rw[decide_eq_true_iff];exact⟨fun h=>⟨I,h⟩,fun h=>h.2⟩⟩
 .intro J8 we re;have I:=aG I;exact⟨_,rfl,V.tr re.cZ,_,rfl,(fun h=>by cases h),fun h=>absurd h.1 I⟩
theorem xy(n lo D:Int)(w:World):eH PG GT.zl #[iV n,iV lo,iV D] w (eR w fun v' _=>∃d,v'= .bool d/\(d=true↔lo<=n/\n<=D)):=by
 have V:=bR w;refine Cw bv ?_;apply bS<;>intro I
 .intro J8 we re;have I:=aK I;exact⟨_,rfl,V.tr re.cZ,_,rfl,by rw[decide_eq_true_iff];exact⟨fun h=>⟨I,h⟩,fun h=>h.2⟩⟩
 .intro J8 we re;have I:=aG I;exact⟨_,rfl,V.tr re.cZ,_,rfl,(fun h=>by cases h),fun h=>absurd h.1 I⟩
theorem qg(F:Old S w)(hp:e9 w S v q):eH PG GT.kf #[v] w (eR w fun v' _=>v'=iV (rs q)):=by
 obtain⟨a,b,I,rfl,_,_⟩:=hp.v;exact vh F I
theorem xz(F:Old S w)(hf:dw w S vn vb vs f):eH PG GT.zg #[.agg #[vn,vb,vs]] w (eR w fun v' _=>v'=iV (eW f)):=by
 have V:=bR w;obtain⟨an,cn,ab,cb,aq,cq,rfl,rfl,rfl,R4,RY,SX⟩:=hf.shape;refine Cr bv ?_;apply bS<;>intro h0
 .have h0:=aK h0;exact rtn V fun J8 we re=>by show iV _=_;rw[eW,aM be]
 have h0:=aG h0;apply bS<;>intro I
 .have I:=aK I;exact rtn V fun J8 we re=>by show iV _=_;rw[eW,aM be]
 have I:=aG I;apply bS<;>intro G
 .have G:=aK G;exact rtn V fun J8 we re=>by show iV _=_;rw[eW,aM be]
 have G:=aG G
 refine⟨Nat×World×Iv,fun z=>⟨[(1,pP 0 0),(3,iN z.1)],[(0,.box T.Frame [.v (.slice an f.nodes.length cn),.v (.slice ab f.bars.length cb),.v (.slice aq f.dB.length cq)])],1,z.2.2,z.2.1⟩,fun z=>f.nodes.length-z.1,
  fun z=>z.1<=f.nodes.length/\Bq w z.2.1/\fZ fa [] f.nodes=fZ fa (f.nodes.take z.1) (f.nodes.drop z.1),?_,?_⟩
 .intro O J R;exact⟨(0,J,_),⟨aR _,V.tr R.cZ,rfl⟩,sbgn [] R⟩
 rintro⟨i,w1,iv⟩ ⟨D,V,hE⟩;dsimp only at D V hE ⊢;apply bS<;>intro Ou
 .have Ou:=dL Ou;obtain⟨b,U⟩:=gO f.nodes i;have hLl:(f.nodes.take i).length=i:=by rw[ah];omega
  obtain⟨adb,Z,QV,hF,-,PW⟩:=hf.nodes.load bi U;have hF:Z=[iV b.1,iV b.2.1,iV b.2.2]:=hF;subst hF;refine⟨adb,QV,be,[iV b.1,iV b.2.1,iV b.2.2],rfl,rdO PW V F,?_⟩;refine cQ (cE V (fun _ J v Y=>∃d,v= .bool d/\(d=true↔rK b.1)) (fun O J r=>xy _ _ _ J) ?_);rintro O Pw v1 Pa PA r L V E ⟨d0,rfl,PQ⟩
  cases d0
  .have PQ:¬rK b.1:=fun h=>by have:=PQ.2 h;cases this
   exact rtn V fun J8 we re=>by show iV _=_;rw[eW,aJ be,aM (by rw[hE,dG U (show fa (f.nodes.take i) b=2 by rw[fa,aJ (fun h=>PQ h.1)]) bi];decide),hE,dG U (show fa (f.nodes.take i) b=2 by rw[fa,aJ (fun h=>PQ h.1)]) bi]
  replace PQ:=PQ.1 rfl;refine cQ (cE V (fun _ J v Y=>∃d,v= .bool d/\(d=true↔rK b.2.1)) (fun O J r=>xy _ _ _ J) ?_);rintro O Qb v2 Px Oy r L V E ⟨d1,rfl,Pj⟩
  cases d1
  .have Pj:¬rK b.2.1:=fun h=>by have:=Pj.2 h;cases this
   exact rtn V fun J8 we re=>by show iV _=_;rw[eW,aJ be,aM (by rw[hE,dG U (show fa (f.nodes.take i) b=2 by rw[fa,aJ (fun h=>Pj h.2.1)]) bi];decide),hE,dG U (show fa (f.nodes.take i) b=2 by rw[fa,aJ (fun h=>Pj h.2.1)]) bi]
  replace Pj:=Pj.1 rfl;refine cQ (cE V (fun _ J v Y=>∃d,v= .bool d/\(d=true↔rK b.2.2)) (fun O J r=>xy _ _ _ J) ?_);rintro O QD v3 QC PH r L V E ⟨d2,rfl,QY⟩
  cases d2
  .have QY:¬rK b.2.2:=fun h=>by have:=QY.2 h;cases this
   exact rtn V fun J8 we re=>by show iV _=_;rw[eW,aJ be,aM (by rw[hE,dG U (show fa (f.nodes.take i) b=2 by rw[fa,aJ (fun h=>QY h.2.2)]) bi];decide),hE,dG U (show fa (f.nodes.take i) b=2 by rw[fa,aJ (fun h=>QY h.2.2)]) bi]
  replace QY:=QY.1 rfl
  refine⟨Nat×World,fun z=>⟨[(1,pP 0 0),(3,iN i),(4,pP 1 0),(5,iN z.1)],[(1,.box T.Node [.v (iV b.1),.v (iV b.2.1),.v (iV b.2.2)]),(0,.box T.Frame [.v (.slice an f.nodes.length cn),.v (.slice ab f.bars.length cb),.v (.slice aq f.dB.length cq)])],2,PH,z.2⟩,fun z=>i-z.1,
   fun z=>z.1<=i/\Bq w z.2/\(b∈(f.nodes.take i).map id↔b∈((f.nodes.take i).drop z.1).map id),?_,?_⟩
  .intro O J R;exact⟨(0,J),⟨aR _,V.tr R.cZ,Iff.rfl⟩,sbgn [] R⟩
  rintro⟨k,Y⟩ ⟨K,V,hK⟩;dsimp only at K V hK ⊢;apply bS<;>intro Ow
  .have Ow:=dL Ow;obtain⟨c,hc⟩:=gO f.nodes k;have UP:(f.nodes.take i)[k]? =some c:=by rw[bo Ow];exact hc
   obtain⟨adc,cs2,Yg,Ry,-,Ty⟩:=hf.nodes.load bi hc;have Ry:cs2=[iV c.1,iV c.2.1,iV c.2.2]:=Ry;subst Ry;refine dP (idO 7) ?_;refine⟨adc,Yg,be,[iV c.1,iV c.2.1,iV c.2.2],rfl,rdO Ty V F,decide (c=b),fun O w o1 o2=>Iu c b w o1 o2,?_⟩;apply bS<;>intro hd
   .have hd:c=b:=aK hd;have SC:b∈f.nodes.take i:=by have:=xx (GE:=id) UP hd;rwa [List.map_id]at this
    exact rtn V fun J8 we re=>by show iV _=_;rw[eW,aJ be,aM (by rw[hE,dG U (show fa (f.nodes.take i) b=12 by rw[fa,aM ⟨PQ,Pj,QY⟩,aM SC]) bi];decide),hE,dG U (show fa (f.nodes.take i) b=12 by rw[fa,aM ⟨PQ,Pj,QY⟩,aM SC]) bi]
   have hd:c≠b:=aG hd;have R1:=nM (GE:=id) UP hd hK;refine inc k ?_;intro I' w6 R;exact⟨(k+1,w6),⟨Ow,V.tr R.cZ,R1⟩,sbgn [] R,dec Ow⟩
  have Ow:k=i:=by have:=aG Ow;omega
  have RI:=Gy (by rw[hLl];omega) hK;rw[List.map_id]at RI;rw[iz U (ve.2 ⟨⟨PQ,Pj,QY⟩,RI⟩)]at hE;refine inc i ?_;intro I' w6 R;exact⟨(i+1,w6,_),⟨Ou,V.tr R.cZ,hE⟩,sbgn [] R,dec Ou⟩
 have Ou:=dE D Ou;rw[kH be]at hE
 refine⟨Nat×World×Iv,fun z=>⟨[(1,pP 0 0),(6,iN z.1)],[(0,.box T.Frame [.v (.slice an f.nodes.length cn),.v (.slice ab f.bars.length cb),.v (.slice aq f.dB.length cq)])],1,z.2.2,z.2.1⟩,fun z=>f.bars.length-z.1,
  fun z=>z.1<=f.bars.length/\Bq w z.2.1/\fZ (fp f.nodes.length) [] f.bars=fZ (fp f.nodes.length) (f.bars.take z.1) (f.bars.drop z.1),?_,?_⟩
 .intro O J R;exact⟨(0,J,_),⟨aR _,V.tr R.cZ,rfl⟩,sbgn [] R⟩
 rintro⟨i,w1,iv⟩ ⟨D,V,Pb⟩;dsimp only at D V Pb ⊢;apply bS<;>intro Ou
 .have Ou:=dL Ou;obtain⟨b,U⟩:=gO f.bars i;have hLl:(f.bars.take i).length=i:=by rw[ah];omega
  obtain⟨adb,Z,QV,hF,-,PW⟩:=hf.bars.load bi U;obtain⟨g0,g1,g2,g3,g4,g5,g6,g7,rfl,hF⟩:=hF;refine⟨adb,QV,be,[iV b.1,iV b.2.1,.bool g0,.slice g1 g2 g3,.bool g4,.slice g5 g6 g7],rfl,rdO PW V F,?_⟩;refine cQ (cE V (fun _ J v Y=>∃d,v= .bool d/\(d=true↔jw f.nodes.length b.1)) (fun O J r=>zM _ _ _ _ _ _ _ _ _ _ J) ?_);rintro O Pw v1 Pa PA r L V E ⟨d0,rfl,PQ⟩
  cases d0
  .have PQ:¬jw f.nodes.length b.1:=fun h=>by have:=PQ.2 h;cases this
   exact rtn V fun J8 we re=>by show iV _=_;rw[eW,aJ be,aJ (by rw[hE];decide),aM (by rw[Pb,dG U (show fp f.nodes.length (f.bars.take i) b=6 by rw[fp,aJ (fun h=>PQ h.1)]) bi];decide),Pb,dG U (show fp f.nodes.length (f.bars.take i) b=6 by rw[fp,aJ (fun h=>PQ h.1)]) bi]
  replace PQ:=PQ.1 rfl;refine cQ (cE V (fun _ J v Y=>∃d,v= .bool d/\(d=true↔jw f.nodes.length b.2.1)) (fun O J r=>zM _ _ _ _ _ _ _ _ _ _ J) ?_);rintro O Qb v2 Px Oy r L V E ⟨d1,rfl,Pj⟩
  cases d1
  .have Pj:¬jw f.nodes.length b.2.1:=fun h=>by have:=Pj.2 h;cases this
   exact rtn V fun J8 we re=>by show iV _=_;rw[eW,aJ be,aJ (by rw[hE];decide),aM (by rw[Pb,dG U (show fp f.nodes.length (f.bars.take i) b=6 by rw[fp,aJ (fun h=>Pj h.2)]) bi];decide),Pb,dG U (show fp f.nodes.length (f.bars.take i) b=6 by rw[fp,aJ (fun h=>Pj h.2)]) bi]
  replace Pj:=Pj.1 rfl;apply bS<;>intro QS
  .have QS:b.1=b.2.1:=by simpa using QS
   exact rtn V fun J8 we re=>by show iV _=_;rw[eW,aJ be,aJ (by rw[hE];decide),aM (by rw[Pb,dG U (show fp f.nodes.length (f.bars.take i) b=3 by rw[fp,aM ⟨PQ,Pj⟩,aM QS]) bi];decide),Pb,dG U (show fp f.nodes.length (f.bars.take i) b=3 by rw[fp,aM ⟨PQ,Pj⟩,aM QS]) bi]
  have QS:b.1≠b.2.1:=by simpa using QS
  refine⟨Nat×World,fun z=>⟨[(1,pP 0 0),(6,iN i),(7,pP 1 0),(8,iN z.1)],[(1,.box T.Bar [.v (iV b.1),.v (iV b.2.1),.v (.bool g0),.v (.slice g1 g2 g3),.v (.bool g4),.v (.slice g5 g6 g7)]),(0,.box T.Frame [.v (.slice an f.nodes.length cn),.v (.slice ab f.bars.length cb),.v (.slice aq f.dB.length cq)])],2,Oy,z.2⟩,fun z=>i-z.1,
   fun z=>z.1<=i/\Bq w z.2/\(iE b∈(f.bars.take i).map iE↔iE b∈((f.bars.take i).drop z.1).map iE),?_,?_⟩
  .intro O J R;exact⟨(0,J),⟨aR _,V.tr R.cZ,Iff.rfl⟩,sbgn [] R⟩
  rintro⟨k,Y⟩ ⟨K,V,hK⟩;dsimp only at K V hK ⊢;apply bS<;>intro Ow
  .have Ow:=dL Ow;obtain⟨c,hc⟩:=gO f.bars k;have UP:(f.bars.take i)[k]? =some c:=by rw[bo Ow];exact hc
   obtain⟨adc,cs2,Yg,Ry,-,Ty⟩:=hf.bars.load bi hc;obtain⟨q0,q1,q2,q3,q4,q5,q6,q7,rfl,-⟩:=Ry;refine⟨adc,Yg,be,[iV c.1,iV c.2.1,.bool q0,.slice q1 q2 q3,.bool q4,.slice q5 q6 q7],rfl,rdO Ty V F,?_⟩;apply bS<;>intro e1
   .have e1:(c.1=b.1):=by simpa using e1
    apply bS<;>intro e2
    .have e2:(c.2.1=b.2.1):=by simpa using e2
     have SC:=xx (GE:=iE) UP (show iE c=iE b by rw[qc];omega);exact rtn V fun J8 we re=>by show iV _=_;rw[eW,aJ be,aJ (by rw[hE];decide),aM (by rw[Pb,dG U (show fp f.nodes.length (f.bars.take i) b=5 by rw[fp,aM ⟨PQ,Pj⟩,aJ QS,aM SC]) bi];decide),Pb,dG U (show fp f.nodes.length (f.bars.take i) b=5 by rw[fp,aM ⟨PQ,Pj⟩,aJ QS,aM SC]) bi]
    .have e2:¬(c.2.1=b.2.1):=by simpa using e2
     apply bS<;>intro e3
     .have e3:(c.1=b.2.1):=by simpa using e3
      apply bS<;>intro e4
      .have e4:(c.2.1=b.1):=by simpa using e4
       have SC:=xx (GE:=iE) UP (show iE c=iE b by rw[qc];omega);exact rtn V fun J8 we re=>by show iV _=_;rw[eW,aJ be,aJ (by rw[hE];decide),aM (by rw[Pb,dG U (show fp f.nodes.length (f.bars.take i) b=5 by rw[fp,aM ⟨PQ,Pj⟩,aJ QS,aM SC]) bi];decide),Pb,dG U (show fp f.nodes.length (f.bars.take i) b=5 by rw[fp,aM ⟨PQ,Pj⟩,aJ QS,aM SC]) bi]
      .have e4:¬(c.2.1=b.1):=by simpa using e4
       have R1:=nM (GE:=iE) UP (show iE c≠iE b by rw[Ne,qc];omega) hK;refine inc k ?_;intro I' w6 R;exact⟨(k+1,w6),⟨Ow,V.tr R.cZ,R1⟩,sbgn [] R,dec Ow⟩
     .have e3:¬(c.1=b.2.1):=by simpa using e3
      have R1:=nM (GE:=iE) UP (show iE c≠iE b by rw[Ne,qc];omega) hK;refine inc k ?_;intro I' w6 R;exact⟨(k+1,w6),⟨Ow,V.tr R.cZ,R1⟩,sbgn [] R,dec Ow⟩
   .have e1:¬(c.1=b.1):=by simpa using e1
    apply bS<;>intro e3
    .have e3:(c.1=b.2.1):=by simpa using e3
     apply bS<;>intro e4
     .have e4:(c.2.1=b.1):=by simpa using e4
      have SC:=xx (GE:=iE) UP (show iE c=iE b by rw[qc];omega);exact rtn V fun J8 we re=>by show iV _=_;rw[eW,aJ be,aJ (by rw[hE];decide),aM (by rw[Pb,dG U (show fp f.nodes.length (f.bars.take i) b=5 by rw[fp,aM ⟨PQ,Pj⟩,aJ QS,aM SC]) bi];decide),Pb,dG U (show fp f.nodes.length (f.bars.take i) b=5 by rw[fp,aM ⟨PQ,Pj⟩,aJ QS,aM SC]) bi]
     .have e4:¬(c.2.1=b.1):=by simpa using e4
      have R1:=nM (GE:=iE) UP (show iE c≠iE b by rw[Ne,qc];omega) hK;refine inc k ?_;intro I' w6 R;exact⟨(k+1,w6),⟨Ow,V.tr R.cZ,R1⟩,sbgn [] R,dec Ow⟩
    .have e3:¬(c.1=b.2.1):=by simpa using e3
     have R1:=nM (GE:=iE) UP (show iE c≠iE b by rw[Ne,qc];omega) hK;refine inc k ?_;intro I' w6 R;exact⟨(k+1,w6),⟨Ow,V.tr R.cZ,R1⟩,sbgn [] R,dec Ow⟩
  have Ow:k=i:=by have:=aG Ow;omega
  have RI:=Gy (by rw[hLl];omega) hK;refine cQ (cE V (pE (iV (rs b.2.2))) (fun O J r=>(qg (oS F r) (hF.cR (kS V r F)))) ?_);rintro O QD v3 QC PH r L V E rfl;obtain⟨cf,hcf⟩:=exq (rs b.2.2);rw[hcf];apply bS<;>intro Pc
  .have Pc:b.2.2<=0:=by have:=aK Pc;rw[<-Rat.not_lt,<-jc];omega
   exact rtn V fun J8 we re=>by show iV _=_;rw[eW,aJ be,aJ (by rw[hE];decide),aM (by rw[Pb,dG U (show fp f.nodes.length (f.bars.take i) b=2 by rw[fp,aM ⟨PQ,Pj⟩,aJ QS,aJ RI,aM Pc]) bi];decide),Pb,dG U (show fp f.nodes.length (f.bars.take i) b=2 by rw[fp,aM ⟨PQ,Pj⟩,aJ QS,aJ RI,aM Pc]) bi]
  have Pc:0<b.2.2:=by have:=aG Pc;rw[<-jc];omega
  rw[iz U (oy.2 ⟨⟨PQ,Pj⟩,QS,RI,Pc⟩)]at Pb;refine inc i ?_;intro I' w6 R;exact⟨(i+1,w6,_),⟨Ou,V.tr R.cZ,Pb⟩,sbgn [] R,dec Ou⟩
 have Ou:=dE D Ou;rw[kH be]at Pb
 refine⟨Nat×World×Iv,fun z=>⟨[(1,pP 0 0),(10,iN z.1)],[(0,.box T.Frame [.v (.slice an f.nodes.length cn),.v (.slice ab f.bars.length cb),.v (.slice aq f.dB.length cq)])],1,z.2.2,z.2.1⟩,fun z=>f.dB.length-z.1,
  fun z=>z.1<=f.dB.length/\Bq w z.2.1/\fZ (lu f.nodes.length) [] f.dB=fZ (lu f.nodes.length) (f.dB.take z.1) (f.dB.drop z.1),?_,?_⟩
 .intro O J R;exact⟨(0,J,_),⟨aR _,V.tr R.cZ,rfl⟩,sbgn [] R⟩
 rintro⟨i,w1,iv⟩ ⟨D,V,Wo⟩;dsimp only at D V Wo ⊢;apply bS<;>intro Ou
 .have Ou:=dL Ou;obtain⟨b,U⟩:=gO f.dB i;have hLl:(f.dB.take i).length=i:=by rw[ah];omega
  obtain⟨adb,Z,QV,hF,-,PW⟩:=hf.dB.load bi U;obtain⟨g0,g1,g2,g3,g4,g5,g6,g7,rfl,hF⟩:=hF;refine⟨adb,QV,be,[iV b.1,iV b.2.1,.bool g0,.slice g1 g2 g3,.bool g4,.slice g5 g6 g7],rfl,rdO PW V F,?_⟩;refine cQ (cE V (fun _ J v Y=>∃d,v= .bool d/\(d=true↔jw f.nodes.length b.1)) (fun O J r=>zM _ _ _ _ _ _ _ _ _ _ J) ?_);rintro O _ _ _ PA r L V E ⟨d0,rfl,PQ⟩
  cases d0
  .have PQ:¬jw f.nodes.length b.1:=fun h=>by have:=PQ.2 h;cases this
   exact rtn V fun J8 we re=>by show iV _=_;rw[eW,aJ be,aJ (by rw[hE];decide),aJ (by rw[Pb];decide),Wo,dG U (show lu f.nodes.length (f.dB.take i) b=6 by rw[lu,aJ PQ]) bi]
  replace PQ:=PQ.1 rfl;refine cQ (cE V (fun _ J v Y=>∃d,v= .bool d/\(d=true↔0<=b.2.1/\b.2.1<=2)) (fun O J r=>xy _ _ _ J) ?_);rintro O _ _ _ Oy r L V E ⟨d1,rfl,QU⟩
  cases d1
  .have QU:¬(0<=b.2.1/\b.2.1<=2):=fun h=>by have:=QU.2 h;cases this
   exact rtn V fun J8 we re=>by show iV _=_;rw[eW,aJ be,aJ (by rw[hE];decide),aJ (by rw[Pb];decide),Wo,dG U (show lu f.nodes.length (f.dB.take i) b=2 by rw[lu,aM PQ,aJ QU]) bi]
  replace QU:=QU.1 rfl
  refine⟨Nat×World,fun z=>⟨[(1,pP 0 0),(10,iN i),(11,pP 1 0),(12,iN z.1)],[(1,.box T.BI [.v (iV b.1),.v (iV b.2.1),.v (.bool g0),.v (.slice g1 g2 g3),.v (.bool g4),.v (.slice g5 g6 g7)]),(0,.box T.Frame [.v (.slice an f.nodes.length cn),.v (.slice ab f.bars.length cb),.v (.slice aq f.dB.length cq)])],2,Oy,z.2⟩,fun z=>i-z.1,
   fun z=>z.1<=i/\Bq w z.2/\(j7 b∈(f.dB.take i).map j7↔j7 b∈((f.dB.take i).drop z.1).map j7),?_,?_⟩
  .intro O J R;exact⟨(0,J),⟨aR _,V.tr R.cZ,Iff.rfl⟩,sbgn [] R⟩
  rintro⟨k,Y⟩ ⟨K,V,hK⟩;dsimp only at K V hK ⊢;apply bS<;>intro Ow
  .have Ow:=dL Ow;obtain⟨c,hc⟩:=gO f.dB k;have UP:(f.dB.take i)[k]? =some c:=by rw[bo Ow];exact hc
   obtain⟨adc,cs2,Yg,Ry,-,Ty⟩:=hf.dB.load bi hc;obtain⟨q0,q1,q2,q3,q4,q5,q6,q7,rfl,-⟩:=Ry;refine dP (idO 20) ?_;refine⟨adc,Yg,be,iV c.1,rdF (Ty 0 _ rfl) V F,?_⟩;apply bS<;>intro e1
   .have e1:(c.1=b.1):=by simpa using e1
    refine⟨adc,Yg,be,iV c.2.1,rdF (Ty 1 _ rfl) V F,?_⟩;apply bS<;>intro e2
    .have e2:(c.2.1=b.2.1):=by simpa using e2
     have SC:=xx (GE:=j7) UP (show j7 c=j7 b by rw[Gx];omega);exact rtn V fun J8 we re=>by show iV _=_;rw[eW,aJ be,aJ (by rw[hE];decide),aJ (by rw[Pb];decide),Wo,dG U (show lu f.nodes.length (f.dB.take i) b=5 by rw[lu,aM PQ,aM QU,aM SC]) bi]
    .have e2:¬(c.2.1=b.2.1):=by simpa using e2
     have R1:=nM (GE:=j7) UP (show j7 c≠j7 b by rw[Ne,Gx];omega) hK;refine inc k ?_;intro I' w6 R;exact⟨(k+1,w6),⟨Ow,V.tr R.cZ,R1⟩,sbgn [] R,dec Ow⟩
   .have e1:¬(c.1=b.1):=by simpa using e1
    have R1:=nM (GE:=j7) UP (show j7 c≠j7 b by rw[Ne,Gx];omega) hK;refine inc k ?_;intro I' w6 R;exact⟨(k+1,w6),⟨Ow,V.tr R.cZ,R1⟩,sbgn [] R,dec Ow⟩
  have Ow:k=i:=by have:=aG Ow;omega
  have RI:=Gy (by rw[hLl];omega) hK;refine cQ (cE V (pE (iV (rs b.2.2))) (fun O J r=>(qg (oS F r) (hF.cR (kS V r F)))) ?_);rintro O _ _ _ PH r L V E rfl;obtain⟨cf,hcf⟩:=exq (rs b.2.2);rw[hcf];apply bS<;>intro Pc
  .have Pc:b.2.2<0:=by have:=aK Pc;rw[<-nL];omega
   exact rtn V fun J8 we re=>by show iV _=_;rw[eW,aJ be,aJ (by rw[hE];decide),aJ (by rw[Pb];decide),Wo,dG U (show lu f.nodes.length (f.dB.take i) b=2 by rw[lu,aM PQ,aM QU,aJ RI,aM Pc]) bi]
  have Pc:0<=b.2.2:=by have:=aG Pc;rw[<-Rat.not_lt,<-nL];omega
  rw[iz U (tV.2 ⟨PQ,QU,RI,Pc⟩)]at Wo;refine inc i ?_;intro I' w6 R;exact⟨(i+1,w6,_),⟨Ou,V.tr R.cZ,Wo⟩,sbgn [] R,dec Ou⟩
 have Ou:=dE D Ou;rw[kH be]at Wo;exact rtn V fun J8 we re=>by show iV _=_;rw[eW,aJ be,aJ (by rw[hE];decide),aJ (by rw[Pb];decide),Wo]
def rq(p:Int×Int):Rat:=ratio p.1 p.2
structure Kh where
 nodes:List (Int×Int×Int)
 bars:List (Int×Int×(Int×Int))
 dB:List (Int×Int×(Int×Int))
def Ki(p:Int×Int×(Int×Int)):Int×Int×Rat:=(p.1,p.2.1,rq p.2.2)
def Kh.val(f:Kh):eh:=⟨f.nodes,f.bars.map Ki,f.dB.map Ki⟩
def yA(w:World)(S:Nat->Prop)(Z:List Value)(p:Int×Int×(Int×Int)):Prop:=∃b a n c b2 a2 n2 c2,Z=[iV p.1,iV p.2.1,.bool b,.slice a n c,.bool b2,.slice a2 n2 c2]/\jP w S (.agg #[.bool b,.slice a n c,.bool b2,.slice a2 n2 c2]) p.2.2.1 p.2.2.2
structure sn(w:World)(S:Nat->Prop)(vn vb vs:Value)(f:Kh):Prop where
 nodes:o8 w S vn f.nodes
 bars:fW 6 yA w S vb f.bars
 dB:fW 6 yA w S vs f.dB
theorem yA.cR{Y:World}(h:yA w S Z p)(K:∀g,S g->Y.heap[g]? =w.heap[g]?):yA Y S Z p:=by
 obtain⟨b,a,n,c,b2,a2,n2,c2,I,G⟩:=h;exact⟨b,a,n,c,b2,a2,n2,c2,I,G.cR K⟩
theorem sn.cR{Y:World}{f:Kh}(h:sn w S vn vb vs f)(K:∀g,S g->Y.heap[g]? =w.heap[g]?):sn Y S vn vb vs f:=
 ⟨fW.cR (w:=w) (fun _ _ h=>h) h.nodes K,fW.cR (fun _ _ h=>h.cR K) h.bars K,fW.cR (fun _ _ h=>h.cR K) h.dB K⟩
theorem yA.few(h:yA w S Z p)(hf:Aq (Z.drop 2)):Gr w S Z (Ki p)/\rl (Ki p).2.2<=3:=by
 obtain⟨b,a,n,c,b2,a2,n2,c2,rfl,G⟩:=h;obtain⟨h3,h4⟩:=G.l3 hf;exact⟨⟨b,a,n,c,b2,a2,n2,c2,rfl,h3⟩,h4⟩
theorem fW.cells{α:Type}{k:Nat}{P:World->(Nat->Prop)->List Value->α->Prop}{xs:List α}(h:fW k P w S v xs):
  ∃A:List (List Value),A.length=xs.length/\fW k (fun w S Z (y:List Value×α)=>Z=y.1/\P w S Z y.2) w S v (A.zip xs)/\(∀(j:Nat) Z x,A[j]? =some Z->xs[j]? =some x->P w S Z x)/\
   ∀{β:Type} (Q:World->(Nat->Prop)->List Value->β->Prop) (ys:List β),ys.length=xs.length->(∀(j:Nat) Z y,A[j]? =some Z->ys[j]? =some y->Q w S Z y)->fW k Q w S v ys:=by
 obtain⟨A,I,G,h3,h4⟩:=h;have hz:(A.zip xs).length=xs.length:=by rw[List.length_zip,G,Nat.min_self]
 refine⟨A,G,⟨A,by rw[hz];exact I,by rw[hz,G],h3,fun j Z y k1 k2=>?_⟩,h4,fun Q ys hl hQ=>⟨A,by rw[hl];exact I,by rw[hl,G],h3,hQ⟩⟩;rw[List.getElem?_zip_eq_some]at k2;rw[k1]at k2;exact⟨by injection k2.1,h4 j Z _ k1 k2.2⟩
theorem aC7.of{xs:List (Int×Int×(Int×Int))}(h4:∀(j:Nat) Z x,A[j]? =some Z->xs[j]? =some x->yA w S Z x)
  (hQ:∀{β:Type} (Q:World->(Nat->Prop)->List Value->β->Prop) (ys:List β),ys.length=xs.length->(∀(j:Nat) Z y,A[j]? =some Z->ys[j]? =some y->Q w S Z y)->fW 6 Q w S v ys)
  (hl:A.length=xs.length) (hf:∀j Z,j<xs.length->A[j]? =some Z->Aq (Z.drop 2)):aAg w S v (xs.map Ki)/\∀b∈xs.map Ki,rl b.2.2<=3:=by
 refine⟨hQ Gr _ (aL ..) fun j Z y k1 k2=>?_,fun b hb=>?_⟩
 .rw[aO]at k2;obtain⟨p,hp,rfl⟩:=Option.map_eq_some_iff.1 k2;exact((h4 j Z p k1 hp).few (hf j Z (aE.1 hp).1 k1)).1
 .obtain⟨p,hp,rfl⟩:=aV.1 hb;obtain⟨j,hj⟩:=aU hp;have Tu:=(aE.1 hj).1;have hc:A[j]? =some A[j]:=aD be;exact((h4 j _ p hc hj).few (hf j _ Tu hc)).2
theorem aAm{f:Kh}(F:Old S w)(hf:sn w S vn vb vs f):eH PG GT.sB #[.agg #[vn,vb,vs]] w (eR w fun v' _=>∃d,v'= .bool d/\
  (d=true->dw w S vn vb vs f.val/\(∀b∈f.val.bars,rl b.2.2<=3)/\(∀b∈f.val.dB,rl b.2.2<=3)/\(eW f.val≠0\/f.val.nodes.length<=4/\f.val.bars.length<=6))):=by
 have V:=bR w;obtain⟨an,cn,rfl,hcn,R4⟩:=hf.nodes.shape;obtain⟨bcs,Q3,hbz,TA,hbQ⟩:=hf.bars.cells;obtain⟨qcs,Ss,hqz,hq4,hqQ⟩:=hf.dB.cells;obtain⟨ab,cb,rfl,Pk,RY⟩:=hf.bars.shape;obtain⟨aq,cq,rfl,hcq,SX⟩:=hf.dB.shape;refine Cp bv ?_;apply bS<;>intro h0
 .exact rtn V fun J8 we re=>⟨_,rfl,fun h=>by cases h⟩
 have h0:=aG h0;apply bS<;>intro I
 .exact rtn V fun J8 we re=>⟨_,rfl,fun h=>by cases h⟩
 have I:=aG I;apply bS<;>intro G
 .exact rtn V fun J8 we re=>⟨_,rfl,fun h=>by cases h⟩
 have G:=aG G
 refine⟨Nat×World×Iv,fun z=>⟨[(1,pP 0 0),(3,iN z.1)],[(0,.box T.Frame [.v (.slice an f.nodes.length cn),.v (.slice ab f.bars.length cb),.v (.slice aq f.dB.length cq)])],1,z.2.2,z.2.1⟩,fun z=>f.bars.length-z.1,
  fun z=>z.1<=f.bars.length/\Bq w z.2.1/\∀(j:Nat) (Z:List Value),j<z.1->bcs[j]? =some Z->Aq (Z.drop 2),?_,?_⟩
 .intro O J R;exact⟨(0,J,_),⟨aR _,V.tr R.cZ,fun j Z hj=>absurd hj (Nat.not_lt_zero j)⟩,sbgn [] R⟩
 rintro⟨i,w1,iv⟩ ⟨D,V,hB⟩;dsimp only at D V hB ⊢;apply bS<;>intro Ou
 .have Ou:=dL Ou;obtain⟨Z,PT⟩:=gO bcs i;obtain⟨p,hp⟩:=gO f.bars i;obtain⟨g0,g1,g2,g3,g4,g5,g6,g7,rfl,-⟩:=TA i Z p PT hp;obtain⟨adx,cs2,QU,⟨Xu,-⟩,-,Qz⟩:=hbz.load bi (show (bcs.zip f.bars)[i]? =some (_,p) by rw[List.getElem?_zip_eq_some];exact⟨PT,hp⟩);have Xu:cs2=[iV p.1,iV p.2.1,.bool g0,.slice g1 g2 g3,.bool g4,.slice g5 g6 g7]:=Xu;subst Xu;refine⟨adx,QU,be,rC g0 g1 g2 g3 g4 g5 g6 g7,rfl,fun O J r j u hu=>?_,?_⟩
  .have Wp:=(aE.1 hu).1;obtain⟨k1,k2⟩:=Qz (2+j) u (by rcases j with _|_|_|_|j<;>first|exact hu|(have:j+4<4:=Wp;omega));rw[cV (w:=w) (Y:=J) (by simp only[dO];exact(V.tr r.cZ).block _ (F _ k1))];simp only[aF,aAl]at k2 ⊢
   first|exact k2|(rw [<-k2];congr 2;omega)
  refine cQ (cE V (fun _ J v Y=>∃d,v= .bool d/\(d=true->Aq (rC g0 g1 g2 g3 g4 g5 g6 g7))) (fun O J r=>(Gw (S:=fun g=>g=(O 1).g) (A:=[rC g0 g1 g2 g3 g4 g5 g6 g7]) (fun g X=>by subst X;exact Rel.lt r (id:=1) rfl) (r.qW (id:=1) (sz:=4) (n:=1) rfl rfl bi (by repeat' first|refine List.forall_mem_cons.2 ⟨rfl,?_⟩|exact fun u hu=>absurd hu List.not_mem_nil)) (fun Z hc=>by rw[bK.1 hc];exact⟨_,_,_,_,_,_,_,_,rfl⟩)).mono fun _ _ ⟨v2,e1,e2,d,e3,e4⟩=>⟨v2,e1,e2,d,e3,fun h=>(e4 h).2 _ aH⟩) ?_);rintro O Pw v1 Pa PA r L V E ⟨d2,rfl,QY⟩
  cases d2
  .exact rtn V fun J8 we re=>⟨_,rfl,fun h=>by cases h⟩
  have Pb:∀j Z,j<i+1->bcs[j]? =some Z->Aq (Z.drop 2):=fun j Z hj hc=>by
   rcases aS j i with h|h
   .exact hB j Z h hc
   .have:j=i:=by omega
    subst this;rw[PT]at hc;injection hc with hc;subst hc;exact QY rfl
  refine inc i ?_;intro I' w6 R;exact⟨(i+1,w6,_),⟨Ou,V.tr R.cZ,Pb⟩,sbgn [] R,dec Ou⟩
 have Ou:=dE D Ou;subst Ou
 refine⟨Nat×World×Iv,fun z=>⟨[(1,pP 0 0),(4,iN z.1)],[(0,.box T.Frame [.v (.slice an f.nodes.length cn),.v (.slice ab f.bars.length cb),.v (.slice aq f.dB.length cq)])],1,z.2.2,z.2.1⟩,fun z=>f.dB.length-z.1,
  fun z=>z.1<=f.dB.length/\Bq w z.2.1/\∀(j:Nat) (Z:List Value),j<z.1->qcs[j]? =some Z->Aq (Z.drop 2),?_,?_⟩
 .intro O J R;exact⟨(0,J,_),⟨aR _,V.tr R.cZ,fun j Z hj=>absurd hj (Nat.not_lt_zero j)⟩,sbgn [] R⟩
 rintro⟨i,w1,iv⟩ ⟨D,V,hQ⟩;dsimp only at D V hQ ⊢;apply bS<;>intro Ou
 .have Ou:=dL Ou;obtain⟨Z,PT⟩:=gO qcs i;obtain⟨p,hp⟩:=gO f.dB i;obtain⟨g0,g1,g2,g3,g4,g5,g6,g7,rfl,-⟩:=hq4 i Z p PT hp;obtain⟨adx,cs2,QU,⟨Xu,-⟩,-,Qz⟩:=hqz.load bi (show (qcs.zip f.dB)[i]? =some (_,p) by rw[List.getElem?_zip_eq_some];exact⟨PT,hp⟩);have Xu:cs2=[iV p.1,iV p.2.1,.bool g0,.slice g1 g2 g3,.bool g4,.slice g5 g6 g7]:=Xu;subst Xu;refine⟨adx,QU,be,rC g0 g1 g2 g3 g4 g5 g6 g7,rfl,fun O J r j u hu=>?_,?_⟩
  .have Wp:=(aE.1 hu).1;obtain⟨k1,k2⟩:=Qz (2+j) u (by rcases j with _|_|_|_|j<;>first|exact hu|(have:j+4<4:=Wp;omega));rw[cV (w:=w) (Y:=J) (by simp only[dO];exact(V.tr r.cZ).block _ (F _ k1))];simp only[aF,aAl]at k2 ⊢
   first|exact k2|(rw [<-k2];congr 2;omega)
  refine cQ (cE V (fun _ J v Y=>∃d,v= .bool d/\(d=true->Aq (rC g0 g1 g2 g3 g4 g5 g6 g7))) (fun O J r=>(Gw (S:=fun g=>g=(O 1).g) (A:=[rC g0 g1 g2 g3 g4 g5 g6 g7]) (fun g X=>by subst X;exact Rel.lt r (id:=1) rfl) (r.qW (id:=1) (sz:=4) (n:=1) rfl rfl bi (by repeat' first|refine List.forall_mem_cons.2 ⟨rfl,?_⟩|exact fun u hu=>absurd hu List.not_mem_nil)) (fun Z hc=>by rw[bK.1 hc];exact⟨_,_,_,_,_,_,_,_,rfl⟩)).mono fun _ _ ⟨v2,e1,e2,d,e3,e4⟩=>⟨v2,e1,e2,d,e3,fun h=>(e4 h).2 _ aH⟩) ?_);rintro O Pw v1 Pa PA r L V E ⟨d2,rfl,QY⟩
  cases d2
  .exact rtn V fun J8 we re=>⟨_,rfl,fun h=>by cases h⟩
  have Pb:∀j Z,j<i+1->qcs[j]? =some Z->Aq (Z.drop 2):=fun j Z hj hc=>by
   rcases aS j i with h|h
   .exact hQ j Z h hc
   .have:j=i:=by omega
    subst this;rw[PT]at hc;injection hc with hc;subst hc;exact QY rfl
  refine inc i ?_;intro I' w6 R;exact⟨(i+1,w6,_),⟨Ou,V.tr R.cZ,Pb⟩,sbgn [] R,dec Ou⟩
 have Ou:=dE D Ou;subst Ou;obtain⟨kb,kb2⟩:=aC7.of TA hbQ Q3 hB;obtain⟨kq,kq2⟩:=aC7.of hq4 hqQ Ss hQ;have hR:dw w S (.slice an f.nodes.length cn) (.slice ab f.bars.length cb) (.slice aq f.dB.length cq) f.val:=⟨hf.nodes,kb,kq⟩
 refine cQ (cE V (pE (iV (eW f.val))) (fun O J r=>xz (oS F r) (hR.cR (kS V r F))) ?_);rintro O _ _ _ PA r L V E rfl;obtain⟨e,L⟩:=exq (eW f.val);rw[L];apply bS<;>intro hd
 .have hd:e≠0:=by simpa using hd
  exact rtn V fun J8 we re=>⟨_,rfl,fun _=>⟨hR,kb2,kq2,.inl hd⟩⟩
 have hd:e=0:=by simpa using hd
 apply bS<;>intro h4
 .have h4:=aK h4;exact rtn V fun J8 we re=>⟨_,rfl,fun h=>⟨hR,kb2,kq2,.inr ⟨by show f.nodes.length<=4;omega,by show(f.bars.map Ki).length<=6;rw[aL];have:=aK h;omega⟩⟩⟩
 exact rtn V fun J8 we re=>⟨_,rfl,fun h=>by cases h⟩
theorem aAn(F:Old S w)(U:fy w S v xs):
  eH PG GT.np #[v] w (eR w fun v' _=>∃d,v'= .bool d/\(d=true->xs.length<=80/\dK w S v (xs.map rq)/\∀q∈xs.map rq,rl q<=3)):=by
 obtain⟨A,I,G,h3,h4⟩:=U;have hF:∀Z∈A,aDf Z:=fun Z hc=>by
  obtain⟨j,hj⟩:=aU hc;have Tu:=(aE.1 hj).1;obtain⟨b,a,n,c,b2,a2,n2,c2,e,_⟩:=h4 j Z _ hj (aD be);exact⟨b,a,n,c,b2,a2,n2,c2,e⟩
 refine(Gw F (by rw[G];exact I) hF).mono fun _ _ ⟨v2,e1,e2,d,e3,e4⟩=>⟨v2,e1,e2,d,e3,fun h=>?_⟩
 obtain⟨k1,k2⟩:=e4 h;have key:∀(j:Nat) Z p,A[j]? =some Z->xs[j]? =some p->mI w S Z (rq p)/\rl (rq p)<=3:=fun j Z p m1 m2=>by
  obtain⟨b,a,n,c,b2,a2,n2,c2,rfl,m3⟩:=h4 j Z p m1 m2;obtain⟨m4,m5⟩:=m3.l3 (k2 _ (aC m1));exact⟨⟨b,a,n,c,b2,a2,n2,c2,rfl,m4⟩,m5⟩
 refine⟨be,⟨A,by rw[aL];exact I,by rw[aL];exact G,h3,fun j Z q m1 m2=>?_⟩,fun q hq=>?_⟩
 .rw[aO]at m2;obtain⟨p,hp,rfl⟩:=Option.map_eq_some_iff.1 m2;exact(key j Z p m1 hp).1
 .obtain⟨p,hp,rfl⟩:=aV.1 hq;obtain⟨j,hj⟩:=aU hp;have Tu:=(aE.1 hj).1;exact(key j _ p (aD be) hj).2
section
variable{xs:List Rat}{l:List (Rat×Rat)}{i:Nat}{x:Rat}{r:Rat×Rat}
end
theorem Gz{n cx:Nat}(hf:dw w S vn vb vs f)(h60:f.bars.length<=60/\f.dB.length<=60):eH PG GT.ns #[.agg #[vn,vb,vs],.slice ax n cx] w (eR w fun v' _=>v'=iV (if n≠f.cols then 11 else 0)):=by
 have V:=bR w;obtain⟨an,cn,ab,cb,aq,cq,rfl,rfl,rfl,R4,RY,SX⟩:=hf.shape;unfold maxLen at RY SX;refine sS bv ?_;refine⟨((f.bars.length+f.dB.length:Nat):Int),wo,?_⟩;apply bS<;>intro hd
 .have hd:n≠f.cols:=by intro h;rw[h]at hd;simp[eh.cols]at hd
  exact rtn V fun J8 we re=>by show iV _=_;rw[aM hd]
 have hd:=(show (n:Int)=((f.bars.length+f.dB.length:Nat):Int)from(by simpa using hd))
 replace hd:n=f.cols:=by unfold eh.cols;omega
 exact rtn V fun J8 we re=>by show iV _=_;rw[aJ (by simpa using hd)]
theorem kT(hf:dw w S vn vb vs f)(h60:f.bars.length<=60/\f.dB.length<=60):eH PG GT.rz #[.agg #[vn,vb,vs]] w (eR w fun v' _=>v'=iV f.cols):=by
 have V:=bR w;obtain⟨an,cn,ab,cb,aq,cq,rfl,rfl,rfl,R4,RY,SX⟩:=hf.shape;refine xR bv ?_;refine⟨((f.bars.length+f.dB.length:Nat):Int),wo,?_⟩;exact rtn V fun J8 we re=>rfl
section
variable{S:Nat->Prop}{w w1 J:World}{H:Hp}{nx:Nat}{iv:Iv}{O:Nat->Sx.eG}
theorem NZ{f:Kh}(F:Old S w)(V:Bq w w1)(r:Rel H nx iv w.heap.size w1 O J)(hf:sn w S vn vb vs f):eH PG GT.sB #[.agg #[vn,vb,vs]] J (eR J fun v' _=>∃d,v'= .bool d/\
  (d=true->dw w S vn vb vs f.val/\(∀b∈f.val.bars,rl b.2.2<=3)/\(∀b∈f.val.dB,rl b.2.2<=3)/\(eW f.val≠0\/f.val.nodes.length<=4/\f.val.bars.length<=6))):=
 have K:∀g,S g->J.heap[g]? =w.heap[g]? :=fun g X=>(V.tr r.cZ).block g (F g X)
 (aAm (S:=S) (oS F r) (hf.cR K)).mono fun _ _ ⟨v2,e1,e2,d,e3,e4⟩=>⟨v2,e1,e2,d,e3,fun h=>⟨(e4 h).1.cR fun g X=>(K g X).symm,(e4 h).2⟩⟩
theorem Na(F:Old S w)(V:Bq w w1)(r:Rel H nx iv w.heap.size w1 O J)(U:fy w S v xs):
  eH PG GT.np #[v] J (eR J fun v' _=>∃d,v'= .bool d/\(d=true->xs.length<=80/\dK w S v (xs.map rq)/\∀q∈xs.map rq,rl q<=3)):=
 have K:∀g,S g->J.heap[g]? =w.heap[g]? :=fun g X=>(V.tr r.cZ).block g (F g X)
 (aAn (S:=S) (oS F r) (U.cR K)).mono fun _ _ ⟨v2,e1,e2,d,e3,e4⟩=>⟨v2,e1,e2,d,e3,fun h=>⟨(e4 h).1,dK.cR (e4 h).2.1 fun g X=>(K g X).symm,(e4 h).2.2⟩⟩
end
end
variable{b:Int×Int×Rat}{S:Nat->Prop}{f:eh}
theorem Nb{n:Nat}(h:n<9223372036854775807):ln n<=2:=by have:=nN (n:=(n:Int)) be be;rwa [Int.natAbs_natCast]at this
theorem aAp(h:eW f=0)(hb:b∈f.bars):b.1≠b.2.1/\0<b.2.2:=by
 obtain⟨_,_,QX,_⟩:=ya h;obtain⟨k,K⟩:=aU hb;have:=oy.1 (j8 QX k b K);exact⟨this.2.1,this.2.2.2⟩
structure aEE{α:Type}(k:Nat)(P:World->(Nat->Prop)->List Value->α->Prop)(w:World)(S:Nat->Prop)(A:List (List Value))(qs:List α):Prop where
 len:A.length=qs.length
 wid:∀Z∈A,Z.length=k
 at_:∀(j:Nat) Z q,A[j]? =some Z->qs[j]? =some q->P w S Z q
section
variable{α:Type}{k:Nat}{P:World->(Nat->Prop)->List Value->α->Prop}{w Y:World}{S S':Nat->Prop}{A:List (List Value)}{qs:List α}
end
theorem GQ{n:Int}(h:n.natAbs<9223372036854775807):rl (n:Rat)<=2:=by
 have G:ln n.natAbs<=2:=Nb h;unfold rl;rw[Rat.num_intCast,Rat.den_intCast];have h3:ln 1=1:=by decide
 omega
theorem EK{w:World}{vn vb vs:Value}{i:Nat}(F:Old S w)(hf:dw w S vn vb vs f)(Oz:xt f)(hb:f.bars[i]? =some b):
  eH PG GT.pD #[.agg #[vn,vb,vs],iV i] w (eR w fun v' _=>v'= .agg #[iV ((f.node b.2.1).1-(f.node b.1).1),iV ((f.node b.2.1).2.1-(f.node b.1).2.1),iV ((f.node b.2.1).2.2-(f.node b.1).2.2)]):=by
 have V:=bR w;obtain⟨an,cn,ab,cb,aq,cq,rfl,rfl,rfl,R4,RY,SX⟩:=hf.shape;obtain⟨Vk,UN,TY⟩:=And.intro Oz.n (And.intro Oz.b Oz.s);have Ou:=(aE.1 hb).1;obtain⟨hA,hB⟩:=Oz.IG b (aC hb);obtain⟨ka,pa,ea,Up,hpa,WE,⟨_,_⟩,⟨_,_⟩,⟨_,_⟩⟩:=Oz.node hA.1 hA.2;obtain⟨kb,pb,eb,Ow,Ts,So,⟨_,_⟩,⟨_,_⟩,⟨_,_⟩⟩:=Oz.node hB.1 hB.2;obtain⟨adx,csx,QU,Qu,-,Pq⟩:=hf.bars.load bi hb;obtain⟨g0,g1,g2,g3,g4,g5,g6,g7,rfl,-⟩:=Qu;obtain⟨ada,csa,haa,hPa,-,Qs⟩:=hf.nodes.load bi hpa;obtain⟨adb,csb,QV,hPb,-,PW⟩:=hf.nodes.load bi Ts;have hPa:csa=[iV pa.1,iV pa.2.1,iV pa.2.2]:=hPa;have hPb:csb=[iV pb.1,iV pb.2.1,iV pb.2.2]:=hPb;subst hPa hPb;rw[WE,So];rw[ea,eb]at Pq;refine tt bv ?_;refine jd hτ vC (.x 0 (.x 2 (.x 4 (.x 10 (.x 12 (.x 14 (.ld 1 12583680 (.ld 3 12583904 (.x 5 (.x 6 (.ld 7 12583680 (.x 8 (.ld 9 12582912 (.ld 11 9175040 (.ld 13 9404416 (.x 15 (.x 16 (.ld 17 9175040 (.x 18 (.ld 19 8388608 (.two 20 (.x 21 (.x 22 (.x 23 .nil))) 21 (.x 20 (.x 22 (.x 23 .nil)))))))))))))))))))))))) d9 d9 ?_;refine⟨adx,QU,be,iV (ka:Int),rdF (Pq 0 _ rfl) V F,?_⟩;refine⟨ada,haa,be,[iV pa.1,iV pa.2.1,iV pa.2.2],rfl,rdO Qs V F,adx,QU,be,iV (kb:Int),rdF (Pq 1 _ rfl) V F,?_⟩;refine⟨adb,QV,be,[iV pb.1,iV pb.2.1,iV pb.2.2],rfl,rdO PW V F,?_,?_⟩
 .conv=>whnf
  refine⟨[iV pb.1,iV pb.2.1,iV pb.2.2],rfl,rdO PW V F,rfl,iV (kb:Int),rdF (Pq 1 _ rfl) V F,?_⟩;refine⟨rfl,rfl,rfl,[iV pa.1,iV pa.2.1,iV pa.2.2],rfl,rdO Qs V F,rfl,iV (ka:Int),rdF (Pq 0 _ rfl) V F,?_⟩;refine⟨rfl,rfl,rfl,[iV pb.1,iV pb.2.1,iV pb.2.2],rfl,rdO PW V F,rfl,iV (kb:Int),rdF (Pq 1 _ rfl) V F,?_⟩;refine⟨rfl,rfl,rfl,[iV pa.1,iV pa.2.1,iV pa.2.2],rfl,rdO Qs V F,rfl,iV (ka:Int),rdF (Pq 0 _ rfl) V F,?_⟩;refine⟨rfl,rfl,rfl,[iV pb.1,iV pb.2.1,iV pb.2.2],rfl,rdO PW V F,rfl,iV (kb:Int),rdF (Pq 1 _ rfl) V F,?_⟩;refine⟨rfl,rfl,rfl,pb.1-pa.1,wo,pb.2.1-pa.2.1,wo,pb.2.2-pa.2.2,wo,?_⟩;exact rtn V fun J8 we re=>rfl
 .conv=>whnf
  refine⟨[iV pb.1,iV pb.2.1,iV pb.2.2],rfl,rdO PW V F,rfl,iV (kb:Int),rdF (Pq 1 _ rfl) V F,?_⟩;refine⟨rfl,rfl,rfl,[iV pa.1,iV pa.2.1,iV pa.2.2],rfl,rdO Qs V F,rfl,iV (ka:Int),rdF (Pq 0 _ rfl) V F,?_⟩;refine⟨rfl,rfl,rfl,[iV pb.1,iV pb.2.1,iV pb.2.2],rfl,rdO PW V F,rfl,iV (kb:Int),rdF (Pq 1 _ rfl) V F,?_⟩;refine⟨rfl,rfl,rfl,[iV pa.1,iV pa.2.1,iV pa.2.2],rfl,rdO Qs V F,rfl,iV (ka:Int),rdF (Pq 0 _ rfl) V F,?_⟩;refine⟨rfl,rfl,rfl,[iV pb.1,iV pb.2.1,iV pb.2.2],rfl,rdO PW V F,rfl,iV (kb:Int),rdF (Pq 1 _ rfl) V F,?_⟩;refine⟨rfl,rfl,rfl,pb.1-pa.1,wo,pb.2.1-pa.2.1,wo,pb.2.2-pa.2.2,wo,?_⟩;exact rtn V fun J8 we re=>rfl
section
variable{S S':Nat->Prop}{H:Hp}{nx:Nat}{iv N:Iv}{B:Nat}{w J Y:World}{O:Nat->Sx.eG}{v:Value}{l:List (Rat×Rat)}
end
end Go.Ex
namespace Go.Ex
abbrev I3:=Int×Int×Int
def aD0(p:I3):Prop:=rK p.1/\rK p.2.1/\rK p.2.2
instance (p : I3) : Decidable (aD0 p) := by unfold aD0; infer_instance
end Go.Ex
namespace Go.Sx
open Go Go.Ex Go.Proofs
variable{vs:List Value}{O:Nat->Sx.eG}
theorem Sub.aDg{B nx:Nat}{l:Env}{H:Hp}{iv:Iv}{w J:World}{t:B4}(id:Nat){bt:Nat}(QF:dU H id=some (.box bt (vs.map At.v)))(r:Rel H nx iv B w O J)
  (h:Rel ((id,.arr bt vs)::H) nx iv B w O J->Sx.Sub B l nx O J t):Sx.Sub B l nx O J t:=by
 have WW:=r.nn id _ QF (by intros;simp) bv;have Pt:=r.box id bt _ QF;have SI:(vs.map At.v).map (At.den O)=vs:=by
  rw[List.map_map];exact List.map_id _
 rw[SI]at Pt
 exact h (r.store (b':=.arr bt vs) (H':=(id,.arr bt vs)::H) (Y:=J) QF bv WW (fun j=>by
  rw[da];by_cases hj:id=j
  .subst hj;simp
  .rw[aJ hj,aJ (fun h=>hj h.symm)]) rfl rfl rfl rfl (fun _ _=>rfl) ⟨WW,Pt⟩ trivial)
end Go.Sx
namespace Go.Ex
open Go Go.Sx Go.Proofs
section
variable{S S':Nat->Prop}{H:Hp}{nx:Nat}{iv N:Iv}{B:Nat}{w J Y:World}{O:Nat->Sx.eG}{v:Value}{l:List Ld}
end
end Go.Ex
namespace Go.Ex
variable{M:List (List Rat)}{l x K8:List Rat}{GE:Nat}{Fd:Rat}
theorem wY{a b:Rat}(ha:a≠0)(hb:b≠0):a*b≠0:=fun e=>by
 rcases Rat.mul_eq_zero.1 e with h|h
 .exact ha h
 .exact hb h
def Den(GE:Nat)(Fd:Rat)(l:List Rat):Prop:=Fd≠0/\Ib GE Fd/\∀t,Ib GE (Fd*l.getD t 0)
def Jt(GE:Nat)(Fd:Rat)(M:List (List Rat)):Prop:=Fd≠0/\Ib GE Fd/\∀k t,Ib GE (Fd*dF M k t)
theorem Den.rl(h:Den GE Fd l):∀q∈l,rl q<=ln GE:=fun q hq=>by
 obtain⟨j,hj⟩:=aU hq;have:=tR h.1 h.2.1 (h.2.2 j)
 rwa [List.getD,hj]at this
theorem Jt.rl(h:Jt GE Fd M):∀r∈M,∀q∈r,rl q<=ln GE:=fun r hr q hq=>by
 obtain⟨k,K⟩:=aU hr;obtain⟨j,hj⟩:=aU hq;have:=tR h.1 h.2.1 (h.2.2 k j)
 rwa [dF,show M.getD k []=r by rw[List.getD,K];rfl,List.getD,hj]at this
theorem jL{t:Nat}(h:l.length<=t):l.getD t 0=0:=by rw[List.getD,List.getElem?_eq_none h];rfl
theorem aBg{n k t:Nat}(hM:fz n M)(h:n<=t):dF M k t=0:=by
 rw[dF];rcases aS k M.length with K|K
 .exact jL (by rw[hM.getD K];exact h)
 .rw[show M.getD k []=[] by rw[List.getD,List.getElem?_eq_none K];rfl];rfl
theorem On{k t:Nat}(h:M.length<=k):dF M k t=0:=by
 rw[dF,show M.getD k []=[] by rw[List.getD,List.getElem?_eq_none h];rfl];rfl
section
variable{M:List (List Rat)}{n B:Nat}{b:List Rat}
theorem LX(hM:fz n M)(hW:GA M n B)(hB:1<=B){c:Nat}(hc:c<=n):∃Fd:Rat,Fd≠0/\Ib (fB B M.length) Fd/\∀i t,i<(cW M c).2.length->t<n->Ib (fB B M.length) (Fd*dF (cW M c).1 i t):=by
 obtain⟨σ,F9,h⟩:=rf hM hW c hc;have hle:=h.red.2.1;rw[h.len]at hle;have hm:=tQ hB hle;exact⟨_,h.CH.nz,h.CH.den.mono hm,fun i t D ht=>(h.CH.ent D ht).mono hm⟩
theorem aBh(hM:fz n M)(hW:GA M n B)(hB:1<=B):∃Fd,Jt (fB B M.length) Fd (dJ M n):=by
 obtain⟨Fd,h0,hD,hE⟩:=LX hM hW hB (aP n);obtain⟨r1,r2,R,r4,r5⟩:=di hM n (aP _);have R6:=jD M n;refine⟨Fd,h0,hD,fun k t=>?_⟩;rcases aS k (dJ M n).length with K|K
 .rcases aS t n with ht|ht
  .have hf:=mo.1 (rZ (by rw[<-l8];exact K));rw[dF,CJ M n K];generalize (jr (cW M n).2 n).getD k 0=c at hf;by_cases hp:t∈(cW M n).2
   .obtain⟨j,hj,rfl⟩:=uj hp;rw[po (Do:=gj (cW M n).1 (cW M n).2 n c) (f:=fun i=> -(dF (cW M n).1 i c)) (fun i=>iq _ _ n c i) (lM _ _ n c) R6.2.1 r4 _ (aP _) hj,show Fd* -(dF (cW M n).1 j c)= -(Fd*dF (cW M n).1 j c) by grind];exact(hE j c hj hf.1).neg
   .rw[rY hp hf.1];split
    .rw[Rat.mul_one];exact hD
    .rw[bF];exact Ib.zero _
  .rw[aBg (qC M n) ht,bF];exact Ib.zero _
 .rw[On K,bF];exact Ib.zero _
theorem CL(hM:fz n M)(hW:GA (eU M b) (n+1) B)(hB:1<=B)(h:iB M b n=some x):∃Fd,Den (fB B M.length) Fd x:=by
 obtain⟨Fd,h0,hD,hE⟩:=LX (j4 (b:=b) hM) hW hB (Nat.le_succ n);rw[fH]at hD hE;obtain⟨r1,r2,R,r4,r5⟩:=di (j4 (b:=b) hM) n (Nat.le_succ _);have R6:=jD (eU M b) n;unfold iB at h;dsimp only at h;split at h
 .injection h with h;subst h;refine⟨Fd,h0,hD,fun t=>?_⟩;by_cases hp:t∈(cW (eU M b) n).2
  .obtain⟨j,hj,rfl⟩:=uj hp;rw[po (Do:=iU (cW (eU M b) n).1 (cW (eU M b) n).2 n) (f:=fun i=>dF (cW (eU M b) n).1 i n) (fun i=>ir _ _ n i) (lN _ _ n) R6.2.1 r4 _ (aP _) hj];exact hE j n hj be
  .rw[wQ hp,bF];exact Ib.zero _
 .cases h
end
def mz(K8:List Rat):Nat->Rat
 |0=>1
 |t+1=>mz K8 t*((K8.getD t 0).den:Rat)
theorem Hz(K8:List Rat):∀k,mz K8 k≠0
 |0=>by show(1:Rat)≠0;decide
 |k+1=>wY (Hz K8 k) (by have:=(K8.getD k 0).den_nz;exact_mod_cast this)
theorem CM{K8:List Rat}{B:Nat}(h:∀t,(K8.getD t 0).den<=B):∀k,Ib (B^k) (mz K8 k)
 |0=>Ib.one (aP _)
 |k+1=>by
  rw[Nat.pow_succ];exact(CM h k).mul ⟨((K8.getD k 0).den:Int),rfl,by rw[Int.natAbs_natCast];exact h k⟩
theorem BB(q:Rat):(q.den:Rat)*q=(q.num:Rat):=by
 have h:=Rat.num_divInt_den q;have h0:((q.den:Int):Rat)≠0:=by have:=q.den_nz;exact_mod_cast this
 rw[Rat.divInt_eq_div]at h;have I:(q.num:Rat) / ((q.den:Int):Rat)*((q.den:Int):Rat)=(q.num:Rat):=Rat.div_mul_cancel h0;rw[h,cB]at I;exact I
theorem Ek{K8:List Rat}{B:Nat}(h:∀t,(K8.getD t 0).den<=B)(W:∀t,(K8.getD t 0).num.natAbs<=B)(hB:1<=B):∀k t,t<k->Ib (B^k) (mz K8 k*K8.getD t 0)
 |0,t,ht=>by omega
 |k+1,t,ht=>by
  rw[mz,Nat.pow_succ];rcases aS t k with I|I
  .rw[show ∀a b c:Rat,a*b*c=(a*c)*b from fun a b c=>by grind];exact(Ek h W hB k t I).mul ⟨((K8.getD k 0).den:Int),rfl,by rw[Int.natAbs_natCast];exact h k⟩
  .rw[show t=k by omega,Rat.mul_assoc,BB];exact(CM h k).mul (Ib.int (W k))
theorem qD{l:Nat}:1<=wt l:=yR l
theorem IA{q:Rat}{l:Nat}(h:rl q<=l):q.num.natAbs<wt l/\q.den<wt l:=⟨gg.1 (aX (gI q) h),gg.1 (aX (aCt q) h)⟩
theorem Oo(l k:Nat):wt l^k=wt (l*k):=by rw[yS,yS,<-Nat.pow_mul,bz]
theorem IB{n:Nat}(hl:K8.length<=n)(h:∀q∈K8,rl q<=3):Den (wt (3*n)) (mz K8 n) K8:=by
 have h3:∀t,rl (K8.getD t 0)<=3:=fun t=>by
  rw[List.getD]
  cases ht:K8[t]? with
  |none=>show rl 0<=3;decide
  |some q=>exact h q (aC ht)
 have I:∀t,(K8.getD t 0).den<=wt 3:=fun t=>Nat.le_of_lt (IA (h3 t)).2;have G:∀t,(K8.getD t 0).num.natAbs<=wt 3:=fun t=>Nat.le_of_lt (IA (h3 t)).1;refine⟨Hz K8 n,by rw[<-Oo];exact CM I n,fun t=>?_⟩;rcases aS t n with ht|ht
 .rw[<-Oo];exact Ek I G qD n t ht
 .rw[jL be,bF];exact Ib.zero _
end Go.Ex
