/- Texts X145 to X166: lemmas, each with its conditions. -/
import Derived.Test.YtgkpbdkechfgmaaGreatP12
namespace Go.Ex
open Go Go.Sx Go.Proofs
variable{cs:Array Value}{iv:Iv}{xs:List (Int×Int×Int)}{css:List (List Value)}{l:List Int}{B i id k n:Nat}{S:Nat->Prop}{O:Nat->Sx.dx}{a:Option Addr}{v vb vn vs:Value}{w:World}{f:fA}
theorem fS{j:Nat}(h:cs[j]? =some v)(w:World):(part T.int cs j).run PG w= .ok v w:=by
 have:=(hτ T.int _ rfl).isAgg w;simp only[part,Sem.run_bind,this,Result.andThen]
 simp[h]
theorem eq_int(d:Nat)(a b:Int)(w:World):(Op.equalIn (d+1) T.int (.int .i64 a) (.int .i64 b)).run PG w= .ok (a==b) w:=by
 unfold Op.equalIn;simp[run_underlying ((hτ T.int _ rfl).i1 rfl)]
theorem Mm(p0 p1 p2 q0 q1 q2:Int)(w:World):(Op.equal T.Node (.agg #[.int .i64 p0,.int .i64 p1,.int .i64 p2]) (.agg #[.int .i64 q0,.int .i64 q1,.int .i64 q2])).run PG w= .ok (decide (p0=q0∧p1=q1∧p2=q2)) w:=by
 have h:=run_underlying Tryz.underlying195;simp only[Op.equal,Op.maxDepth]
 unfold Op.equalIn;have a0:=fS (cs:= #[Value.int .i64 p0,Value.int .i64 p1,Value.int .i64 p2]) (j:=0) rfl;have a1:=fS (cs:= #[Value.int .i64 p0,Value.int .i64 p1,Value.int .i64 p2]) (j:=1) rfl;have a2:=fS (cs:= #[Value.int .i64 p0,Value.int .i64 p1,Value.int .i64 p2]) (j:=2) rfl;have b0:=fS (cs:= #[Value.int .i64 q0,Value.int .i64 q1,Value.int .i64 q2]) (j:=0) rfl;have b1:=fS (cs:= #[Value.int .i64 q0,Value.int .i64 q1,Value.int .i64 q2]) (j:=1) rfl;have b2:=fS (cs:= #[Value.int .i64 q0,Value.int .i64 q1,Value.int .i64 q2]) (j:=2) rfl;simp[h,a0,a1,a2,b0,b1,b2,eq_int 9998];by_cases h0:p0=q0
 ·by_cases h1:p1=q1
  ·by_cases h2:p2=q2<;>simp[h0,h1,h2]
  ·simp[h0,h1]
 ·simp[h0]
theorem Mn(p0 p1 q0 q1:Int)(w:World):(Op.equal T.DJ (.agg #[.int .i64 p0,.int .i64 p1]) (.agg #[.int .i64 q0,.int .i64 q1])).run PG w= .ok (decide (p0=q0∧p1=q1)) w:=by
 have h:=run_underlying Tryz.underlying281;simp only[Op.equal,Op.maxDepth]
 unfold Op.equalIn;have a0:=fS (cs:= #[Value.int .i64 p0,Value.int .i64 p1]) (j:=0) rfl;have a1:=fS (cs:= #[Value.int .i64 p0,Value.int .i64 p1]) (j:=1) rfl;have b0:=fS (cs:= #[Value.int .i64 q0,Value.int .i64 q1]) (j:=0) rfl;have b1:=fS (cs:= #[Value.int .i64 q0,Value.int .i64 q1]) (j:=1) rfl;simp[h,a0,a1,b0,b1,eq_int 9998];by_cases h0:p0=q0
 ·by_cases h1:p1=q1<;>simp[h0,h1]
 ·simp[h0]
abbrev CP(p:Int×Int×Int):Value:=.agg #[.int .i64 p.1,.int .i64 p.2.1,.int .i64 p.2.2]
theorem Fb(p q:Int×Int×Int)(w:World)(o1 o2:Operand):(do eqGuard .eql T.Node o1 o2 (CP p) (CP q);binOp .eql T.Node (CP p) (CP q)).run PG w= .ok (.bool (decide (p=q))) w:=by
 have h:=Mm p.1 p.2.1 p.2.2 q.1 q.2.1 q.2.2 w;simp[eqGuard,binOp,h];obtain⟨a,b,c⟩:=p;obtain⟨a2,b2,c2⟩:=q;by_cases h0:a=a2
 ·by_cases h1:b=b2
  ·by_cases h2:c=c2<;>simp[h0,h1,h2]
  ·simp[h0,h1]
 ·simp[h0]
def n9(k:Int×Int):Value:=.agg #[.int .i64 k.1,.int .i64 k.2]
theorem qT{a b:Int×Int}(h:n9 a=n9 b):a=b:=by
 unfold n9 at h;injection h with h;have h1:=congrArg (fun x=>x[0]?) h;have h2:=congrArg (fun x=>x[1]?) h;simp at h1 h2;exact Prod.ext h1 h2
theorem JI(d:Nat)(a:Int)(em:Bool)(w:World):(Instr.checkKey em (d+1) T.int (.int .i64 a)).run PG w= .ok () w:=by
 unfold Instr.checkKey;simp[run_underlying ((hτ T.int _ rfl).i1 rfl)]
theorem HD(p0 p1:Int)(em:Bool)(w:World):(Instr.checkKey em 10000 T.DJ (.agg #[.int .i64 p0,.int .i64 p1])).run PG w= .ok () w:=by
 have h:=run_underlying Tryz.underlying281;have a0:=fS (cs:= #[Value.int .i64 p0,Value.int .i64 p1]) (j:=0) rfl;have a1:=fS (cs:= #[Value.int .i64 p0,Value.int .i64 p1]) (j:=1) rfl;unfold Instr.checkKey;simp[h,a0,a1,JI 9998]
theorem yQ:Js PG T.DJ (fun v=>∃k,v=n9 k) where
 desc:=⟨_,Tryz.underlying281⟩
 check:=fun w em v ⟨k,e⟩=>by subst e;exact HD k.1 k.2 em w
 eq:=fun w a b ⟨p,e1⟩ ⟨q,e2⟩=>by
  subst e1 e2;refine⟨_,Mn p.1 p.2 q.1 q.2 w,?_⟩;rw[decide_eq_true_iff];exact⟨fun h=>by rw[show p=q from Prod.ext h.1 h.2],fun h=>by have:=qT h;subst this;exact⟨rfl,rfl⟩⟩
theorem uX:PG.underlying T.x7=some (.map T.DJ T.bool):=Tryz.underlying279
theorem CQ(w:World):(zeroValue T.bool).run PG w= .ok (.bool false) w:=by kernel_rfl
theorem LN(ad:Option Addr)(k:Nat):ad.map (·.add (0*k))=ad:=by
 rw[Nat.zero_mul]
 cases ad with
 |none=>rfl
 |some a=>simp only[Option.map_some,Option.some.injEq];unfold Addr.add;split<;>simp_all
theorem e8.take{α:Type}{P:World->(Nat->Prop)->List Value->α->Prop}{c:Nat}{xs:List α}(h:e8 k P w S (.slice a n c) xs)(hi:i<=xs.length):
  e8 k P w S (.slice a i c) (xs.take i):=by
 obtain⟨css,⟨h0,h1,h2,a',c',e,h3,h4⟩,hl,hlk,hf⟩:=h;injection e with e1 e2 e3;subst e1 e2 e3;have hlen:(css.take i).length=i:=by rw[aW,hl];omega
 have hli:(xs.take i).length=i:=by rw[aW];omega
 have UT:css.flatten=(css.take i).flatten++(css.drop i).flatten:=by rw[<-List.flatten_append,List.take_append_drop]
 refine⟨css.take i,⟨by omega,?_,fun u hu=>h2 u (by rw[UT];exact List.mem_append_left _ hu),a,c,by rw[hli],by omega,fun j u hj=>h4 j u ?_⟩,by rw[hlen,hli],fun cs hc=>hlk cs (List.mem_of_mem_take hc),fun j cs x k1 k2=>?_⟩
 ·rw[vw fun cs hc=>hlk cs (List.mem_of_mem_take hc),hlen,hli]
 ·rw[UT,aL (aD.1 hj).1];exact hj
 ·have hj:=(aD.1 k1).1;rw[hlen]at hj;rw[bT hj]at k1 k2;exact hf j cs x k1 k2
theorem mu.cJ{w2:World}(h:mu w S v xs)(hk:∀g,S g->w2.heap[g]? =w.heap[g]?):mu w2 S v xs:=e8.cJ (w:=w) (fun _ _ h=>h) h hk
theorem Df(hS:Old S w)(hn:mu w S vn xs)(p:Int×Int×Int):eA PG N.fu #[vn,CP p] w (eF w fun v' _=>∃r,v'= .int .i64 r∧(-1<=r)∧(0<=r↔p∈xs)):=by
 have hw:=bR w;obtain⟨an,cn,rfl,hcn,Q1⟩:=hn.shape;unfold maxLen at Q1;refine iW (by simp) ?_
 refine⟨Nat×World,fun z=>⟨[(0,sV an xs.length cn),(3,pP 0 0),(7,iZ xs.length),(8,iN z.1)],[(0,.box T.Node [.v (.int .i64 p.1),.v (.int .i64 p.2.1),.v (.int .i64 p.2.2)])],1,[],z.2⟩,fun z=>xs.length-z.1,
  fun z=>z.1<=xs.length∧eE w.heap.size w z.2∧(p∈xs↔p∈xs.drop z.1),?_,?_⟩
 ·intro O w' r3;exact⟨(0,w'),⟨aQ _,hw.tr r3.cQ,Iff.rfl⟩,Sub.gn [] r3⟩
 rintro⟨i,w1⟩ ⟨hi,hw,hE⟩;dsimp only at hi hw hE ⊢;refine dK.mk ?_ ?_<;>intro OC
 ·have OC:i<xs.length:=by simpa using OC
  obtain⟨q,hx⟩:∃x,xs[i]? =some x:=⟨_,aB OC⟩
  have hdr:xs.drop i=q::xs.drop (i+1):=by rw[List.drop_eq_getElem_cons OC,(aD.1 hx).2]
  obtain⟨adx,cs,PC,hP,-,Oa⟩:=hn.load (by decide) hx;have hP:cs=[.int .i64 q.1,.int .i64 q.2.1,.int .i64 q.2.2]:=hP;subst hP;refine il hτ df (.x 1 (.x 2 (.x 3 (.ld 0 32 (.ld 4 32 (.x 5 .nil)))))) (by kernel_rfl) (by kernel_rfl) ?_;refine⟨adx,PC,by omega,[.int .i64 q.1,.int .i64 q.2.1,.int .i64 q.2.2],rfl,rdO Oa hw hS,decide (p=q),fun O w o1 o2=>Fb p q w o1 o2,?_⟩;refine dK.mk ?_ ?_<;>intro hd
  ·have hd:p=q:=aI hd;exact rtn hw fun ρe we re=>⟨_,rfl,by omega,iff_of_true (by omega) (hE.2 (by rw[hdr,hd];exact aG))⟩
  have hd:p≠q:=aH hd;rw[hdr,List.mem_cons,or_iff_right hd]at hE;refine⟨((i+1:Nat):Int),wo,?_⟩;intro ρ3 w6 r3;exact⟨(i+1,w6),⟨OC,hw.tr r3.cQ,hE⟩,Sub.gn [] r3,by dsimp only;omega⟩
 have OC:i=xs.length:=aO hi (by simpa using OC);rw[OC,List.drop_length]at hE;exact rtn hw fun ρe we re=>⟨_,rfl,by omega,iff_of_false (by omega) fun h=>by cases hE.1 h⟩
theorem xy(hS:Old S w)(hn:mu w S vn xs)(p:Int×Int×Int):eA PG N.fW #[vn,CP p] w (eF w fun v' _=>∃d,v'= .bool d∧(d=true↔p∈xs)):=by
 have hw:=bR w;obtain⟨an,cn,rfl,hcn,Q1⟩:=hn.shape;refine iF (by simp) ?_;refine cF (cE hw (fun _ w' v w2=>∃r,v= .int .i64 r∧(-1<=r)∧(0<=r↔p∈xs)) (fun O w' r=>Df (p:=p) (oS hS r) (mu.cJ hn (kS hw r hS))) ?_);rintro O _ _ _ OJ r he hw h_ ⟨r0,rfl,hr0,Sd⟩;exact rtn hw fun ρe we re=>⟨_,rfl,by rw[decide_eq_true_iff];exact Sd⟩
def xz(w:World)(S:Nat->Prop)(g:Nat)(ks:List Value):Prop:=S g∧ES w g ks
section
variable{S:Nat->Prop}{H:Hp}{nx:Nat}{iv iv':Iv}{B:Nat}{w w' w2:World}{O:Nat->Sx.dx}{g:Nat}{ks:List Value}
theorem xz.rel(h:xz w (Cv S B iv) g ks)(r:Rel H nx iv B w O w')(hS:∀g,S g->g<B):xz w' (Cv S B iv) g ks:=⟨h.1,h.2.cJ (Rel.same r hS h.1)⟩
theorem xz.cG(h:xz w (Cv S B iv) g ks)(r:Rel H nx iv B w O w')(hS:∀g,S g->g<B)(he:Ext w' w2)(hm:∀p,p∈iv->p∈iv'):xz w2 (Cv S B iv') g ks:=
 ⟨h.1.mono hm,(h.rel r hS).2.cJ (he.block g (Rel.old r hS g h.1))⟩
end
set_option maxHeartbeats 2000000 in
theorem Fe(hS:Old S w)(hf:dU w S vn vb vs f):eA PG N.rY #[.agg #[vn,vb,vs]] w (eF w fun v' _=>v'= .int .i64 (eL f)):=by
 have hw:=bR w;obtain⟨an,cn,ab,cb,aq,cq,rfl,rfl,rfl,Q1,Qh,RN⟩:=hf.shape;obtain⟨_,_,hsh,hcn,_⟩:=hf.nodes.shape;injection hsh with e1 e2 e3;subst e1 e3;refine vU (by simp) ?_;refine dK.mk ?_ ?_<;>intro h0
 ·have h0:=aI h0;exact rtn hw fun ρe we re=>by show Value.int .i64 _=_;rw[eL,if_pos (by omega)]
 have h0:=aH h0;refine dK.mk ?_ ?_<;>intro h1
 ·have h1:=aI h1;exact rtn hw fun ρe we re=>by show Value.int .i64 _=_;rw[eL,if_pos (by omega)]
 have h1:=aH h1;refine dK.mk ?_ ?_<;>intro h2
 ·have h2:=aI h2;exact rtn hw fun ρe we re=>by show Value.int .i64 _=_;rw[eL,if_pos (by omega)]
 have h2:=aH h2
 refine⟨Nat×World×Iv,fun z=>⟨[(1,pP 0 0),(30,sV an f.nodes.length cn),(31,iZ f.nodes.length),(32,iN z.1)],[(0,.box T.Frame [.v (.slice an f.nodes.length cn),.v (.slice ab f.bars.length cb),.v (.slice aq f.cX.length cq)])],1,z.2.2,z.2.1⟩,fun z=>f.nodes.length-z.1,
  fun z=>z.1<=f.nodes.length∧eE w.heap.size w z.2.1∧ek fD [] f.nodes=ek fD (f.nodes.take z.1) (f.nodes.drop z.1),?_,?_⟩
 ·intro O w' r3;exact⟨(0,w',[]),⟨aQ _,hw.tr r3.cQ,rfl⟩,Sub.gn [] r3⟩
 rintro⟨i,w1,iv⟩ ⟨hi,hw,hE⟩;dsimp only at hi hw hE ⊢;refine dK.mk ?_ ?_<;>intro OC
 ·have OC:i<f.nodes.length:=by simpa using OC
  obtain⟨q,hx⟩:∃x,f.nodes[i]? =some x:=⟨_,aB OC⟩
  obtain⟨adx,cs,PC,hP,-,Oa⟩:=hf.nodes.load (by decide) hx;have hP:cs=[.int .i64 q.1,.int .i64 q.2.1,.int .i64 q.2.2]:=hP;subst hP;refine⟨adx,PC,by omega,[.int .i64 q.1,.int .i64 q.2.1,.int .i64 q.2.2],rfl,rdO Oa hw hS,?_⟩;refine cF (cE hw (fun _ w' v w2=>∃d,v= .bool d∧(d=true↔nA q.1)) (fun O w' r=>lF _ w') ?_);rintro O Pg v1 PS OJ r he hw h_ ⟨d0,rfl,OM⟩
  cases d0
  ·have OM:¬nA q.1:=fun h=>by have:=OM.2 h;cases this
   exact rtn hw fun ρe we re=>by show Value.int .i64 _=_;rw[eL,aJ (by omega),if_pos (by rw[hE,cU hx (show fD (f.nodes.take i) q=2 by rw[fD,aJ (fun h=>OM h.1)]) (by decide)];decide),hE,cU hx (show fD (f.nodes.take i) q=2 by rw[fD,aJ (fun h=>OM h.1)]) (by decide)]
  replace OM:=OM.1 rfl;refine cF (cE hw (fun _ w' v w2=>∃d,v= .bool d∧(d=true↔nA q.2.1)) (fun O w' r=>lF _ w') ?_);rintro O Pn v2 PJ OG r he hw h_ ⟨d1,rfl,OR⟩
  cases d1
  ·have OR:¬nA q.2.1:=fun h=>by have:=OR.2 h;cases this
   exact rtn hw fun ρe we re=>by show Value.int .i64 _=_;rw[eL,aJ (by omega),if_pos (by rw[hE,cU hx (show fD (f.nodes.take i) q=2 by rw[fD,aJ (fun h=>OR h.2.1)]) (by decide)];decide),hE,cU hx (show fD (f.nodes.take i) q=2 by rw[fD,aJ (fun h=>OR h.2.1)]) (by decide)]
  replace OR:=OR.1 rfl;refine cF (cE hw (fun _ w' v w2=>∃d,v= .bool d∧(d=true↔nA q.2.2)) (fun O w' r=>lF _ w') ?_);rintro O PH v3 PD ON r he hw h_ ⟨d2,rfl,Oq⟩
  cases d2
  ·have Oq:¬nA q.2.2:=fun h=>by have:=Oq.2 h;cases this
   exact rtn hw fun ρe we re=>by show Value.int .i64 _=_;rw[eL,aJ (by omega),if_pos (by rw[hE,cU hx (show fD (f.nodes.take i) q=2 by rw[fD,aJ (fun h=>Oq h.2.2)]) (by decide)];decide),hE,cU hx (show fD (f.nodes.take i) q=2 by rw[fD,aJ (fun h=>Oq h.2.2)]) (by decide)]
  replace Oq:=Oq.1 rfl;refine il hτ df (.x 0 (.x 2 (.ld 1 104 (.x 3 (.ld 4 96 (.x 5 (.x 6 .nil))))))) (by kernel_rfl) (by kernel_rfl) ?_;refine⟨⟨by omega,by omega,by omega⟩,an,i,cn,by rw[show ((0:Int).toNat*3)=0*3 from rfl,LN];split<;>rfl,by simp,by simp,?_⟩;refine cE hw (fun _ w' v w2=>∃d,v= .bool d∧(d=true↔q∈f.nodes.take i)) (fun O w' r=>xy (p:=q) (oS hS r) (mu.cJ (hf.nodes.take (Nat.le_of_lt OC)) (kS hw r hS))) ?_;rintro O _ _ _ OZ r he hw h_ ⟨d3,rfl,hz3⟩
  cases d3
  ·have hz3:q∉f.nodes.take i:=fun h=>by have:=hz3.2 h;cases this
   rw[gY hx (sn.2 ⟨⟨OM,OR,Oq⟩,hz3⟩)]at hE;refine⟨((i+1:Nat):Int),wo,?_⟩;intro ρ3 w6 r3;exact⟨(i+1,w6,_),⟨OC,hw.tr r3.cQ,hE⟩,Sub.gn [] r3,by dsimp only;omega⟩
  replace hz3:=hz3.1 rfl;exact rtn hw fun ρe we re=>by show Value.int .i64 _=_;rw[eL,aJ (by omega),if_pos (by rw[hE,cU hx (show fD (f.nodes.take i) q=12 by rw[fD,if_pos ⟨OM,OR,Oq⟩,if_pos hz3]) (by decide)];decide),hE,cU hx (show fD (f.nodes.take i) q=12 by rw[fD,if_pos ⟨OM,OR,Oq⟩,if_pos hz3]) (by decide)]
 have OC:i=f.nodes.length:=aO hi (by simpa using OC);rw[iq (by omega)]at hE;refine wR (fun O wa wb r hM0 hg Oy=>?_);have Oz:=(hw.tr r.cQ).tr (eE.grown hg (fun x e=>by cases e) r.cD);have hB:w.heap.size<=wa.heap.size:=r.cD;have hM:xz wb (Cf w ((wa.heap.size,wa.heap.size+1)::iv)) wa.heap.size []:=⟨.inr ⟨hB,_,_,aG,aF _,bZ _⟩,hM0⟩
 generalize (wa.heap.size,wa.heap.size+1)::iv=OG at*
 obtain⟨gm,hgm⟩:∃gm,wa.heap.size=gm:=⟨_,rfl⟩
 rw[hgm]at hM ⊢;have hw:=Oz
 refine⟨Nat×World×Iv,fun z=>⟨[(1,pP 0 0),(5,.o (.v (.map (some gm)))),(64,sV ab f.bars.length cb),(65,iZ f.bars.length),(66,iN z.1)],[(0,.box T.Frame [.v (.slice an f.nodes.length cn),.v (.slice ab f.bars.length cb),.v (.slice aq f.cX.length cq)])],1,z.2.2,z.2.1⟩,fun z=>f.bars.length-z.1,
  fun z=>z.1<=f.bars.length∧eE w.heap.size w z.2.1∧ek (fO f.nodes.length) [] f.bars=ek (fO f.nodes.length) (f.bars.take z.1) (f.bars.drop z.1)∧xz z.2.1 (Cf w z.2.2) gm ((f.bars.take z.1).map fun b=>n9 (gU b)),?_,?_⟩
 ·intro O w' r3;exact⟨(0,w',OG),⟨aQ _,hw.tr r3.cQ,rfl,hM.rel r3 (cC w)⟩,Sub.gn [] r3⟩
 rintro⟨i,w1,iv⟩ ⟨hi,hw,OT,hM⟩;dsimp only at hi hw OT hM ⊢;refine dK.mk ?_ ?_<;>intro OC
 ·have OC:i<f.bars.length:=by simpa using OC
  obtain⟨b,hx⟩:∃b,f.bars[i]? =some b:=⟨_,aB OC⟩
  obtain⟨adb,cs,Pf,hF,-,Od⟩:=hf.bars.load (by decide) hx;obtain⟨g0,g1,g2,g3,g4,g5,g6,g7,rfl,hF⟩:=hF;refine⟨adb,Pf,by omega,[.int .i64 b.1,.int .i64 b.2.1,.bool g0,.slice g1 g2 g3,.bool g4,.slice g5 g6 g7],rfl,rdO Od hw hS,?_⟩;refine cF (cE hw (fun _ w' v w2=>∃d,v= .bool d∧(d=true↔jD f.nodes.length b.1)) (fun O w' r=>HC _ w' _ _ _ _ _ _ _ _ _) ?_);rintro O Pg v1 PS OJ r he hw h_ ⟨d0,rfl,OM⟩;replace hM:=hM.cG r (cC w) he (mC h_)
  cases d0
  ·have OM:¬jD f.nodes.length b.1:=fun h=>by have:=OM.2 h;cases this
   exact rtn hw fun ρe we re=>by show Value.int .i64 _=_;rw[eL,aJ (by omega),aJ (by rw[hE];decide),if_pos (by rw[OT,cU hx (show fO f.nodes.length (f.bars.take i) b=6 by rw[fO,aJ (fun h=>OM h.1)]) (by decide)];decide),OT,cU hx (show fO f.nodes.length (f.bars.take i) b=6 by rw[fO,aJ (fun h=>OM h.1)]) (by decide)]
  replace OM:=OM.1 rfl;refine cF (cE hw (fun _ w' v w2=>∃d,v= .bool d∧(d=true↔jD f.nodes.length b.2.1)) (fun O w' r=>HC _ w' _ _ _ _ _ _ _ _ _) ?_);rintro O Pn v2 PJ OG r he hw h_ ⟨d1,rfl,OR⟩;replace hM:=hM.cG r (cC w) he (mC h_)
  cases d1
  ·have OR:¬jD f.nodes.length b.2.1:=fun h=>by have:=OR.2 h;cases this
   exact rtn hw fun ρe we re=>by show Value.int .i64 _=_;rw[eL,aJ (by omega),aJ (by rw[hE];decide),if_pos (by rw[OT,cU hx (show fO f.nodes.length (f.bars.take i) b=6 by rw[fO,aJ (fun h=>OR h.2)]) (by decide)];decide),OT,cU hx (show fO f.nodes.length (f.bars.take i) b=6 by rw[fO,aJ (fun h=>OR h.2)]) (by decide)]
  replace OR:=OR.1 rfl;refine dK.mk ?_ ?_<;>intro Ow
  ·have Ow:b.1=b.2.1:=by simpa using Ow
   exact rtn hw fun ρe we re=>by show Value.int .i64 _=_;rw[eL,aJ (by omega),aJ (by rw[hE];decide),if_pos (by rw[OT,cU hx (show fO f.nodes.length (f.bars.take i) b=3 by rw[fO,if_pos ⟨OM,OR⟩,if_pos Ow]) (by decide)];decide),OT,cU hx (show fO f.nodes.length (f.bars.take i) b=3 by rw[fO,if_pos ⟨OM,OR⟩,if_pos Ow]) (by decide)]
  have Ow:b.1≠b.2.1:=by simpa using Ow
  refine yh yQ uX CQ rfl rfl (key:=n9 (gU b)) (fun _=>rfl) ⟨_,rfl⟩ (fun k hk=>by obtain⟨x,_,rfl⟩:=aU.1 hk;exact⟨_,rfl⟩) (fun O w' r=>(hM.rel r (cC w)).2) (fun O w' d r hd=>?_);replace hw:=hw.tr r.cQ;replace hM:=hM.rel r (cC w);replace hd:d=true↔gU b∈(f.bars.take i).map gU:=by
   rw[hd];constructor
   ·intro h;obtain⟨x,h1,h2⟩:=aU.1 h;exact aU.2 ⟨x,h1,qT h2⟩
   ·intro h;obtain⟨x,h1,h2⟩:=aU.1 h;exact aU.2 ⟨x,h1,congrArg n9 h2⟩
  cases d
  ·have QC:gU b∉(f.bars.take i).map gU:=fun h=>by have:=hd.2 h;cases this
   refine cF (cE hw (fun _ w' v w2=>v= .int .i64 (rs b.2.2)) (fun O w' r=>(D6 (oS hS r) (hF.v.cJ (kS hw r hS)) (eS.zero (S:=S)).v).mono fun _ _ ⟨v2,e1,e2,e3⟩=>⟨v2,e1,e2,by rw[e3,qR]⟩) ?_);rintro O _ _ _ ON r he hw h_ rfl;replace hM:=hM.cG r (cC w) he (mC h_);obtain⟨cf,Rt⟩:∃c,rs b.2.2=c:=⟨_,rfl⟩
   rw[Rt];refine dK.mk ?_ ?_<;>intro Oc
   ·have Oc:b.2.2<=0:=by have:=aI Oc;rw[<-Rat.not_lt,<-o9];omega
    exact rtn hw fun ρe we re=>by show Value.int .i64 _=_;rw[eL,aJ (by omega),aJ (by rw[hE];decide),if_pos (by rw[OT,cU hx (show fO f.nodes.length (f.bars.take i) b=2 by rw[fO,if_pos ⟨OM,OR⟩,aJ Ow,aJ QC,if_pos Oc]) (by decide)];decide),OT,cU hx (show fO f.nodes.length (f.bars.take i) b=2 by rw[fO,if_pos ⟨OM,OR⟩,aJ Ow,aJ QC,if_pos Oc]) (by decide)]
   ·have Oc:0<b.2.2:=by have:=aH Oc;rw[<-o9];omega
    refine rN yQ uX rfl rfl (key:=n9 (gU b)) (fun _=>rfl) rfl ⟨_,rfl⟩ (fun k hk=>by obtain⟨x,_,rfl⟩:=aU.1 hk;exact⟨_,rfl⟩) (fun h=>by
     obtain⟨x,h1,h2⟩:=aU.1 h
     exact QC (aU.2 ⟨x,h1,qT h2⟩)) (fun O w' r=>⟨(hM.rel r (cC w)).2,Rel.not r (cC w) hM.1⟩) (fun O wa wb r hM2 hg Oy=>?_)
    replace hw:=(hw.tr r.cQ).tr (eE.grown hg (fun x e=>by injection e with e;subst e;exact hM.1.elim (fun h=>h.elim) fun h=>h.1) r.cD);rw[show ((f.bars.take i).map fun b=>n9 (gU b))++[n9 (gU b)]=(f.bars.take (i+1)).map fun b=>n9 (gU b) by rw[List.take_add_one,hx];simp]at hM2;replace hM:xz wb (Cf w ON) gm ((f.bars.take (i+1)).map fun b=>n9 (gU b)):=⟨hM.1,hM2⟩
    rw[gY hx (nK.2 ⟨⟨OM,OR⟩,Ow,QC,Oc⟩)]at OT;refine⟨((i+1:Nat):Int),wo,?_⟩;intro ρ3 w6 r3;exact⟨(i+1,w6,_),⟨OC,hw.tr r3.cQ,OT,hM.rel r3 (cC w)⟩,Sub.gn [] r3,by dsimp only;omega⟩
  ·have hd:=hd.1 rfl;exact rtn hw fun ρe we re=>by show Value.int .i64 _=_;rw[eL,aJ (by omega),aJ (by rw[hE];decide),if_pos (by rw[OT,cU hx (show fO f.nodes.length (f.bars.take i) b=5 by rw[fO,if_pos ⟨OM,OR⟩,aJ Ow,if_pos hd]) (by decide)];decide),OT,cU hx (show fO f.nodes.length (f.bars.take i) b=5 by rw[fO,if_pos ⟨OM,OR⟩,aJ Ow,if_pos hd]) (by decide)]
 have OC:i=f.bars.length:=aO hi (by simpa using OC);rw[iq (by omega)]at OT;have Tv:=OT;refine wR (fun O wa wb r hM0 hg Oy=>?_);have Oz:=(hw.tr r.cQ).tr (eE.grown hg (fun x e=>by cases e) r.cD);have hB:w.heap.size<=wa.heap.size:=r.cD;have hM:xz wb (Cf w ((wa.heap.size,wa.heap.size+1)::iv)) wa.heap.size []:=⟨.inr ⟨hB,_,_,aG,aF _,bZ _⟩,hM0⟩
 generalize (wa.heap.size,wa.heap.size+1)::iv=OG at*
 obtain⟨gm,hgm⟩:∃gm,wa.heap.size=gm:=⟨_,rfl⟩
 rw[hgm]at hM ⊢;have hw:=Oz
 refine⟨Nat×World×Iv,fun z=>⟨[(1,pP 0 0),(9,.o (.v (.map (some gm)))),(115,sV aq f.cX.length cq),(116,iZ f.cX.length),(117,iN z.1)],[(0,.box T.Frame [.v (.slice an f.nodes.length cn),.v (.slice ab f.bars.length cb),.v (.slice aq f.cX.length cq)])],1,z.2.2,z.2.1⟩,fun z=>f.cX.length-z.1,
  fun z=>z.1<=f.cX.length∧eE w.heap.size w z.2.1∧ek (kX f.nodes.length) [] f.cX=ek (kX f.nodes.length) (f.cX.take z.1) (f.cX.drop z.1)∧xz z.2.1 (Cf w z.2.2) gm ((f.cX.take z.1).map fun b=>n9 (ia b)),?_,?_⟩
 ·intro O w' r3;exact⟨(0,w',OG),⟨aQ _,hw.tr r3.cQ,rfl,hM.rel r3 (cC w)⟩,Sub.gn [] r3⟩
 rintro⟨i,w1,iv⟩ ⟨hi,hw,OT,hM⟩;dsimp only at hi hw OT hM ⊢;refine dK.mk ?_ ?_<;>intro OC
 ·have OC:i<f.cX.length:=by simpa using OC
  obtain⟨b,hx⟩:∃b,f.cX[i]? =some b:=⟨_,aB OC⟩
  obtain⟨adb,cs,Pf,hF,-,Od⟩:=hf.cX.load (by decide) hx;obtain⟨g0,g1,g2,g3,g4,g5,g6,g7,rfl,hF⟩:=hF;refine⟨adb,Pf,by omega,[.int .i64 b.1,.int .i64 b.2.1,.bool g0,.slice g1 g2 g3,.bool g4,.slice g5 g6 g7],rfl,rdO Od hw hS,?_⟩;refine cF (cE hw (fun _ w' v w2=>∃d,v= .bool d∧(d=true↔jD f.nodes.length b.1)) (fun O w' r=>HC _ w' _ _ _ _ _ _ _ _ _) ?_);rintro O _ _ _ OJ r he hw h_ ⟨d0,rfl,OM⟩;replace hM:=hM.cG r (cC w) he (mC h_)
  cases d0
  ·have OM:¬jD f.nodes.length b.1:=fun h=>by have:=OM.2 h;cases this
   exact rtn hw fun ρe we re=>by show Value.int .i64 _=_;rw[eL,aJ (by omega),aJ (by rw[hE];decide),aJ (by rw[Tv];decide),OT,cU hx (show kX f.nodes.length (f.cX.take i) b=6 by rw[kX,aJ OM]) (by decide)]
  replace OM:=OM.1 rfl;refine dK.mk ?_ ?_<;>intro SH
  ·have SH:=aI SH;exact rtn hw fun ρe we re=>by show Value.int .i64 _=_;rw[eL,aJ (by omega),aJ (by rw[hE];decide),aJ (by rw[Tv];decide),OT,cU hx (show kX f.nodes.length (f.cX.take i) b=2 by rw[kX,if_pos OM,aJ (fun h=>by omega)]) (by decide)]
  have SH:=aH SH;refine dK.mk ?_ ?_<;>intro RM
  ·have RM:=aI RM;exact rtn hw fun ρe we re=>by show Value.int .i64 _=_;rw[eL,aJ (by omega),aJ (by rw[hE];decide),aJ (by rw[Tv];decide),OT,cU hx (show kX f.nodes.length (f.cX.take i) b=2 by rw[kX,if_pos OM,aJ (fun h=>by omega)]) (by decide)]
  have RM:=aH RM;have PC:0<=b.2.1∧b.2.1<=2:=by omega
  refine yh yQ uX CQ rfl rfl (key:=n9 (ia b)) (fun _=>rfl) ⟨_,rfl⟩ (fun k hk=>by obtain⟨x,_,rfl⟩:=aU.1 hk;exact⟨_,rfl⟩) (fun O w' r=>(hM.rel r (cC w)).2) (fun O w' d r hd=>?_);replace hw:=hw.tr r.cQ;replace hM:=hM.rel r (cC w);replace hd:d=true↔ia b∈(f.cX.take i).map ia:=by
   rw[hd];constructor
   ·intro h;obtain⟨x,h1,h2⟩:=aU.1 h;exact aU.2 ⟨x,h1,qT h2⟩
   ·intro h;obtain⟨x,h1,h2⟩:=aU.1 h;exact aU.2 ⟨x,h1,congrArg n9 h2⟩
  cases d
  ·have QC:ia b∉(f.cX.take i).map ia:=fun h=>by have:=hd.2 h;cases this
   refine cF (cE hw (fun _ w' v w2=>v= .int .i64 (rs b.2.2)) (fun O w' r=>(D6 (oS hS r) (hF.v.cJ (kS hw r hS)) (eS.zero (S:=S)).v).mono fun _ _ ⟨v2,e1,e2,e3⟩=>⟨v2,e1,e2,by rw[e3,qR]⟩) ?_);rintro O _ _ _ OG r he hw h_ rfl;replace hM:=hM.cG r (cC w) he (mC h_);obtain⟨cf,Rt⟩:∃c,rs b.2.2=c:=⟨_,rfl⟩
   rw[Rt];refine dK.mk ?_ ?_<;>intro Oc
   ·have Oc:b.2.2<0:=by have:=aI Oc;rw[<-lj];omega
    exact rtn hw fun ρe we re=>by show Value.int .i64 _=_;rw[eL,aJ (by omega),aJ (by rw[hE];decide),aJ (by rw[Tv];decide),OT,cU hx (show kX f.nodes.length (f.cX.take i) b=2 by rw[kX,if_pos OM,if_pos PC,aJ QC,if_pos Oc]) (by decide)]
   ·have Oc:0<=b.2.2:=by have:=aH Oc;rw[<-Rat.not_lt,<-lj];omega
    refine rN yQ uX rfl rfl (key:=n9 (ia b)) (fun _=>rfl) rfl ⟨_,rfl⟩ (fun k hk=>by obtain⟨x,_,rfl⟩:=aU.1 hk;exact⟨_,rfl⟩) (fun h=>by
     obtain⟨x,h1,h2⟩:=aU.1 h
     exact QC (aU.2 ⟨x,h1,qT h2⟩)) (fun O w' r=>⟨(hM.rel r (cC w)).2,Rel.not r (cC w) hM.1⟩) (fun O wa wb r hM2 hg Oy=>?_)
    replace hw:=(hw.tr r.cQ).tr (eE.grown hg (fun x e=>by injection e with e;subst e;exact hM.1.elim (fun h=>h.elim) fun h=>h.1) r.cD);rw[show ((f.cX.take i).map fun b=>n9 (ia b))++[n9 (ia b)]=(f.cX.take (i+1)).map fun b=>n9 (ia b) by rw[List.take_add_one,hx];simp]at hM2;replace hM:xz wb (Cf w OG) gm ((f.cX.take (i+1)).map fun b=>n9 (ia b)):=⟨hM.1,hM2⟩
    rw[gY hx (qq.2 ⟨OM,PC,QC,Oc⟩)]at OT;refine⟨((i+1:Nat):Int),wo,?_⟩;intro ρ3 w6 r3;exact⟨(i+1,w6,_),⟨OC,hw.tr r3.cQ,OT,hM.rel r3 (cC w)⟩,Sub.gn [] r3,by dsimp only;omega⟩
  ·have hd:=hd.1 rfl;exact rtn hw fun ρe we re=>by show Value.int .i64 _=_;rw[eL,aJ (by omega),aJ (by rw[hE];decide),aJ (by rw[Tv];decide),OT,cU hx (show kX f.nodes.length (f.cX.take i) b=5 by rw[kX,if_pos OM,if_pos PC,if_pos hd]) (by decide)]
 have OC:i=f.cX.length:=aO hi (by simpa using OC);rw[iq (by omega)]at OT;exact rtn hw fun ρe we re=>by show Value.int .i64 _=_;rw[eL,aJ (by omega),aJ (by rw[hE];decide),aJ (by rw[Tv];decide),OT]
theorem jf{vl:Value}{l:List Ld}(hS:Old S w)(hf:dU w S vn vb vs f)(hl:fL w S vl l):eA PG N.l5 #[.agg #[vn,vb,vs],vl] w (eF w fun v' _=>v'= .int .i64 (gR f l)):=by
 have hw:=bR w;obtain⟨an,cn,ab,cb,aq,cq,rfl,rfl,rfl,Q1,Qh,RN⟩:=hf.shape;obtain⟨al,cl,rfl,PU,QO⟩:=hl.shape;refine pF (by simp) ?_;refine cF (cE hw (fun _ w' v w2=>v= .int .i64 (eL f)) (fun O w' r=>Fe (oS hS r) (hf.cJ (kS hw r hS))) ?_);rintro O _ _ _ OJ r he hw h_ rfl;obtain⟨c,hc⟩:∃c,eL f=c:=⟨_,rfl⟩
 rw[hc];refine dK.mk ?_ ?_<;>intro hd
 ·have hd:c≠0:=by simpa using hd
  exact rtn hw fun ρe we re=>by show Value.int .i64 _=_;rw[gR,if_pos (by rw[hc];exact hd),hc]
 have hd:c=0:=by simpa using hd
 refine cF (cE hw (fun _ w' v w2=>v= .int .i64 (uV f.nodes.length l)) (fun O w' r=>BV (oS hS r) (hl.cJ (kS hw r hS))) ?_);rintro O _ _ _ OG r he hw h_ rfl;exact rtn hw fun ρe we re=>by show Value.int .i64 _=_;rw[gR,aJ (by rw[hc,hd];decide)]
structure Calm(f:fA)(h:Nat):Prop where
 ok:uU f
 c0:0<f.cols
 b2:D8 (cP f) f.cols h
 a2:Ht (dT (cP f) f.cols).1 h
 st:ko (cP f) f.cols=[]
 hh:3*h<=90000
structure aAz(f:fA)(l:List Ld)(h:Nat)(x:List Rat):Prop where
 ok:nL f.nodes.length l
 b1:D8 (jo (cP f) (cW (dI f l) (-1))) (f.cols+1) h
 x:oI (cP f) (cW (dI f l) (-1)) f.cols=some x
theorem fM(f:fA)(l:List Ld):(dI f l).length=3*f.nodes.length:=by rw[dI,c9,aK,kB]
theorem jg(a b:List Rat):(fR a b).length=a.length:=List.length_mapIdx ..
theorem aAD{r s:Nat}(h1:r*r<=n)(h2:n<(r+1)*(r+1))(h3:s*s<=n)(h4:n<(s+1)*(s+1)):r=s:=by
 rcases bs r s with h|h|h
 ·have:=Nat.mul_le_mul (show r+1<=s from h) (show r+1<=s from h);omega
 ·exact h
 ·have:=Nat.mul_le_mul (show s+1<=r from h) (show s+1<=r from h);omega
theorem Mo(n:Nat)(w:World)(hn:n<4000000004000000001):eA PG N.tz #[.int .i64 n] w (eF w fun v' _=>∃r:Nat,v'= .int .i64 r∧r*r<=n∧n<(r+1)*(r+1)):=by
 have hw:=bR w;refine xq (by simp) ?_
 refine⟨Nat×Int×World,fun z=>⟨[(0,iZ n),(3,iN z.1),(4,iZ z.2.1)],[],0,[],z.2.2⟩,fun z=>(z.2.1-z.1).toNat,
  fun z=>(z.1:Int)<=z.2.1∧z.2.1<=2000000000∧eE w.heap.size w z.2.2∧z.1*z.1<=n∧(n:Int)<(z.2.1+1)*(z.2.1+1),?_,?_⟩
 ·intro O w' r3;exact⟨(0,2000000000,w'),⟨by simp,by simp,hw.tr r3.cQ,by simp,by dsimp only;omega⟩,Sub.gn [] r3⟩
 rintro⟨lo,hi,w1⟩ ⟨hlh,S9,hw,SC,Pk⟩;dsimp only at hlh S9 hw SC Pk ⊢;obtain⟨hi,rfl⟩:=Int.eq_ofNat_of_zero_le (show 0<=hi by omega);replace Pk:n<(hi+1)*(hi+1):=by
  have h:((hi:Int)+1)*((hi:Int)+1)=(((hi+1)*(hi+1):Nat):Int):=by push_cast;rfl
  rw[h]at Pk;omega
 refine dK.mk ?_ ?_<;>intro OC
 ·have OC:lo<hi:=by have:=aI OC;omega
  obtain⟨m,hm⟩:∃m,(lo+hi+1) / 2=m:=⟨_,rfl⟩
  have Ra:lo<m:=by omega
  have Un:m<=hi:=by omega
  have Qg:m*m<=2000000000*2000000000:=Nat.mul_le_mul (by omega) (by omega);refine⟨((lo+hi:Nat):Int),wo,((lo+hi+1:Nat):Int),wo,by decide,(m:Int),by rw[show ((lo+hi+1:Nat):Int).tdiv 2=(((lo+hi+1) / 2:Nat):Int)from rfl,hm,wrap64]<;>omega,((m*m:Nat):Int),by rw[wrap64]<;>push_cast<;>first|rfl|omega,?_⟩;refine dK.mk ?_ ?_<;>intro hd
  ·have hd:m*m<=n:=by have:=aI hd;omega
   intro ρ3 w6 r3;exact⟨(m,hi,w6),⟨by dsimp only;omega,S9,hw.tr r3.cQ,hd,by dsimp only;rw[show ((hi:Int)+1)*((hi:Int)+1)=(((hi+1)*(hi+1):Nat):Int) by push_cast;rfl];omega⟩,Sub.gn [] r3,by dsimp only;omega⟩
  ·have hd:n<m*m:=by have:=aH hd;omega
   have hu3:(lo:Int)<=((m-1:Nat):Int):=by omega
   have hu4:((m-1:Nat):Int)<=2000000000:=by omega
   have TD:(n:Int)<(((m-1:Nat):Int)+1)*(((m-1:Nat):Int)+1):=by rw[show ((m-1:Nat):Int)+1=m by omega];exact_mod_cast hd
   refine⟨((m-1:Nat):Int),wo,?_⟩;intro ρ3 w6 r3;exact⟨(lo,((m-1:Nat):Int),w6),⟨hu3,hu4,hw.tr r3.cQ,SC,TD⟩,Sub.gn [] r3,by dsimp only;omega⟩
 have OC:lo=hi:=by have:=aH OC;omega
 subst OC;exact rtn hw fun ρe we re=>⟨_,rfl,SC,Pk⟩
theorem Mp(n:Int)(w:World):eA PG N.kT #[.int .i64 n] w (eF w fun v' _=>∃d,v'= .bool d∧(d=true↔0<=n∧n<=1000000)):=by
 have hw:=bR w;refine nW (by simp) ?_;refine dK.mk ?_ ?_<;>intro h1
 ·intro ρe we re;have h1:=aI h1;exact⟨_,rfl,hw.tr re.cQ,_,rfl,by rw[decide_eq_true_iff];exact⟨fun h=>⟨h1,h⟩,fun h=>h.2⟩⟩
 ·intro ρe we re;have h1:=aH h1;exact⟨_,rfl,hw.tr re.cQ,_,rfl,(fun h=>by cases h),fun h=>absurd h.1 h1⟩
theorem LO(sq st:Nat)(w:World)(h0:0<sq)(h1:st<=1000000):eA PG N.rZ #[.int .i64 sq,.int .i64 st] w (eF w fun v' w2=>∃r:Nat,r*r<=st*st*1000*1000 / sq∧st*st*1000*1000 / sq<(r+1)*(r+1)∧cT w2 (Nf w w2) v' (Rat.divInt r 1000)):=by
 have hw:=bR w;have h2:st*st<=1000000*1000000:=Nat.mul_le_mul h1 h1;have h4:st*st*1000*1000 / sq<=st*st*1000*1000:=Nat.div_le_self _ _;obtain⟨m,hm⟩:∃m,st*st*1000*1000 / sq=m:=⟨_,rfl⟩
 refine vW (by simp) ?_;refine⟨((st*st:Nat):Int),by rw[wrap64]<;>push_cast<;>first|rfl|omega,((st*st*1000:Nat):Int),wo,((st*st*1000*1000:Nat):Int),wo,by omega,(m:Int),by rw[show ((st*st*1000*1000:Nat):Int).tdiv (sq:Int)=((st*st*1000*1000 / sq:Nat):Int)from rfl,hm,wrap64]<;>omega,?_⟩;refine cF (cE hw (fun _ w' v w2=>∃r:Nat,v= .int .i64 r∧r*r<=m∧m<(r+1)*(r+1)) (fun O w' r=>Mo m w' (by omega)) ?_);rintro O _ _ _ OJ r he hw h_ ⟨rt,rfl,Sd,SD⟩;have hrt:rt<=2000000000:=by
  rcases aP 2000000000 rt with h|h
  ·have:=Nat.mul_le_mul h h;omega
  ·exact h
 refine cF (cE hw (fun _ w' v w2=>∃r,v= .tuple #[r,.int .i64 0]∧cT w2 (Nf w' w2) r (Rat.divInt rt 1000)) (fun O w' r=>(HE rt 1000 w' (by omega) (by omega) (by decide) (by decide)).mono fun _ _ ⟨v2,e1,e2,e3⟩=>⟨v2,e1,e2,e3.elim (fun k=>absurd k.1 (by decide)) fun h=>h.2⟩) ?_);rintro O _ _ _ OG r he hw h_ ⟨q1,rfl,k1⟩;have hd:=k1.dB (S:=FF) r.cD (mN h_);obtain⟨s2_0a,s2_0b,s2_0c,s2_0d,s2_0e,s2_0f,s2_0g,s2_0h,rfl⟩:=hd.shape;exact rtn hw fun ρe we re=>⟨rt,hm▸Sd,hm▸SD,hd.out re (cC w)⟩
theorem HF(sq st:Nat)(w:World)(h0:0<sq)(h2:sq<=20000000000000)(h1:st<=1000000):eA PG N.rX #[.int .i64 sq,.int .i64 st] w (eF w fun v' w2=>∃vr,∃r:Nat,v'= .tuple #[vr,.int .i64 0]∧r*r<=st*st*1000*1000 / sq∧st*st*1000*1000 / sq<(r+1)*(r+1)∧cT w2 (Nf w w2) vr (Rat.divInt r 1000)):=by
 have hw:=bR w;refine vT (by simp) ?_;refine dK.mk (fun k1=>absurd (aI k1) (by omega)) (fun _=>?_);refine dK.mk (fun k1=>absurd (aI k1) (by omega)) (fun _=>?_);refine cF (cE hw (fun _ w' v w2=>v= .bool true) (fun O w' r=>(Mp st w').mono fun _ _ ⟨v2,e1,e2,d,e3,e4⟩=>⟨v2,e1,e2,by rw[e3,e4.2 ⟨by omega,by omega⟩]⟩) ?_);rintro O _ _ _ OJ r he hw h_ rfl;refine cF (cE hw (fun _ w' v w2=>∃r:Nat,r*r<=st*st*1000*1000 / sq∧st*st*1000*1000 / sq<(r+1)*(r+1)∧cT w2 (Nf w' w2) v (Rat.divInt r 1000)) (fun O w' r=>LO sq st w' h0 h1) ?_);rintro O _ _ _ OG r he hw h_ ⟨rt,Sd,SD,k1⟩;have hd:=k1.dB (S:=FF) r.cD (mN h_);obtain⟨s2_0a,s2_0b,s2_0c,s2_0d,s2_0e,s2_0f,s2_0g,s2_0h,rfl⟩:=hd.shape;exact rtn hw fun ρe we re=>⟨_,rt,rfl,Sd,SD,hd.out re (cC w)⟩
set_option maxRecDepth 100000
def aA7(m:Nat):List Value:=[.int .i64 ((m / 3:Nat):Int),.int .i64 ((m % 3:Nat):Int),.bool false,.slice none 0 0,.bool false,.slice none 0 0]
def rp(m:Nat):List (List Value):=(List.range m).map aA7
theorem HG(hk:k<3):(rp (3*i+k)).flatten++[.int .i64 (i:Int),.int .i64 (k:Int),.bool false,.slice none 0 0,.bool false,.slice none 0 0]=(rp (3*i+(k+1))).flatten:=by
 rw[rp,rp,<-Nat.add_assoc,bM,List.map_append,List.flatten_append];simp only[List.map_cons,List.map_nil,aA7,show(3*i+k) / 3=i by omega,show(3*i+k) % 3=k by omega]
 simp
theorem JJ(m:Nat):(rp m).length=m:=by rw[rp,aK,List.length_range]
theorem JK(m:Nat):∀cs∈rp m,cs.length=6:=fun cs hc=>by
 obtain⟨j,_,rfl⟩:=aU.1 hc;rfl
theorem eS.zeroV:eS w S (.agg #[.bool false,.slice none 0 0,.bool false,.slice none 0 0]) 0:=eS.zero
theorem wB(w:World):eA PG N.rV #[] w (eF w fun v' w2=>∃vn vb vs,v'= .agg #[vn,vb,vs]∧dU w2 (Nf w w2) vn vb vs fb):=by
 have hw:=bR w;refine vR (by simp) ?_;refine cF (cE hw (fun _ w' v w2=>cT w2 (Nf w' w2) v ((1:Int):Rat)) (fun O w' r=>jO 1 w' (by decide)) ?_);rintro O _ _ _ OJ r he hw h_ hn;have hd:=hn.dB (S:=FF) r.cD (mN h_);obtain⟨A0,A1,A2,A3,A4,A5,A6,A7,rfl⟩:=hd.shape;conv=>whnf
 refine⟨Nat×World,fun z=>⟨[(0,pP 0 0),(2,pP 4 0),(3,iN z.1)],[(5,.vec T.yN 6 (rp (3*z.1)).flatten),(4,.box T.Frame [.s 2 0 3 3,.s 3 0 2 2,.w 5 (3*z.1)]),(3,.box T.Bar [.v (.int .i64 0),.v (.int .i64 2),.v (.bool A0),.v (.slice A1 A2 A3),.v (.bool A4),.v (.slice A5 A6 A7),.v (.int .i64 1),.v (.int .i64 2),.v (.bool A0),.v (.slice A1 A2 A3),.v (.bool A4),.v (.slice A5 A6 A7)]),(2,.box T.Node [.v (.int .i64 0),.v (.int .i64 0),.v (.int .i64 0),.v (.int .i64 0),.v (.int .i64 0),.v (.int .i64 4),.v (.int .i64 3),.v (.int .i64 0),.v (.int .i64 0)]),(0,.box T.Frame [.v (.slice none 0 0),.v (.slice none 0 0),.v (.slice none 0 0)])],6,OJ,z.2⟩,fun z=>2-z.1,
  fun z=>z.1<=2∧eE w.heap.size w z.2∧cT z.2 (Cf w OJ) (.agg #[.bool A0,.slice A1 A2 A3,.bool A4,.slice A5 A6 A7]) ((1:Int):Rat),?_,?_⟩
 ·intro O w' r;exact⟨(0,w'),⟨aQ _,hw.tr r.cQ,hd.rel r (cC w)⟩,Sub.BT 4 2 T.yN 6 rfl rfl (by simp[j8,SV.sc,At.sc,fa]) r fun ρ1 r1=>Sub.gn [] r1⟩
 rintro⟨i,w1⟩ ⟨hi,hw,hd⟩;dsimp only at hi hw hd ⊢;conv=>whnf
 refine dK.mk ?_ ?_<;>intro OC
 ·have OC:i<2:=by have:=aI OC;omega
  refine⟨Nat×World,fun z=>⟨[(0,pP 0 0),(2,pP 4 0),(3,iN i),(4,iN z.1)],[(5,.vec T.yN 6 (rp (3*i+z.1)).flatten),(4,.box T.Frame [.s 2 0 3 3,.s 3 0 2 2,.w 5 (3*i+z.1)]),(3,.box T.Bar [.v (.int .i64 0),.v (.int .i64 2),.v (.bool A0),.v (.slice A1 A2 A3),.v (.bool A4),.v (.slice A5 A6 A7),.v (.int .i64 1),.v (.int .i64 2),.v (.bool A0),.v (.slice A1 A2 A3),.v (.bool A4),.v (.slice A5 A6 A7)]),(2,.box T.Node [.v (.int .i64 0),.v (.int .i64 0),.v (.int .i64 0),.v (.int .i64 0),.v (.int .i64 0),.v (.int .i64 4),.v (.int .i64 3),.v (.int .i64 0),.v (.int .i64 0)]),(0,.box T.Frame [.v (.slice none 0 0),.v (.slice none 0 0),.v (.slice none 0 0)])],6,OJ,z.2⟩,fun z=>3-z.1,
   fun z=>z.1<=3∧eE w.heap.size w z.2∧cT z.2 (Cf w OJ) (.agg #[.bool A0,.slice A1 A2 A3,.bool A4,.slice A5 A6 A7]) ((1:Int):Rat),?_,?_⟩
  ·intro O w' r3;exact⟨(0,w'),⟨aQ _,hw.tr r3.cQ,hd.rel r3 (cC w)⟩,Sub.gn [] r3⟩
  rintro⟨k,w3⟩ ⟨hk,hw,hd⟩;dsimp only at hk hw hd ⊢;refine dK.mk ?_ ?_<;>intro OH
  ·have OH:k<3:=by have:=aI OH;omega
   have hs:=HG (i:=i) OH;have OX:=vw (JK (3*i+k));have R1:=JJ (3*i+k);refine .inl ?_;refine⟨by omega,by omega,by unfold maxLen;omega,((k+1:Nat):Int),wo,?_⟩;intro ρ3 w6 r3;exact⟨(k+1,w6),⟨OH,hw.tr r3.cQ,hd.rel r3 (cC w)⟩,Sub.gn [(5,7)] r3 ⟨by dsimp only;rw[<-hs];rfl,rfl,rfl,rfl,rfl,trivial⟩,by dsimp only;omega⟩
  have OH:k=3:=by have:=aH OH;omega
  subst OH;refine⟨((i+1:Nat):Int),wo,?_⟩;intro ρ3 w6 r3;exact⟨(i+1,w6),⟨OC,hw.tr r3.cQ,hd.rel r3 (cC w)⟩,Sub.gn [] r3,by dsimp only;omega⟩
 have OC:i=2:=by have:=aH OC;omega
 subst OC;refine .inl ?_;refine⟨by decide,by decide,by decide,?_⟩;intro ρe we re;have hN:∀{id:Nat} {bk:jm},dF _ id=some bk->(ρe id).nil=false->Nf w we (ρe id).g:=fun h hn=>by
  obtain⟨h1,h2⟩:=re.low _ _ h hn;exact .inr ⟨h1,h2⟩
 have hR:=hd.out re (cC w);have hL:eS we (Nf w we) (.agg #[.bool A0,.slice A1 A2 A3,.bool A4,.slice A5 A6 A7]) 1:=hR.l (by decide);refine⟨_,rfl,hw.tr re.cQ,_,_,_,rfl,?_,?_,?_⟩
 ·refine⟨[[.int .i64 0,.int .i64 0,.int .i64 0],[.int .i64 0,.int .i64 0,.int .i64 4],[.int .i64 3,.int .i64 0,.int .i64 0]],(re.qU (id:=2) (sz:=3) (n:=3) rfl rfl (by decide) (by repeat' first|refine List.forall_mem_cons.2 ⟨rfl,?_⟩|exact fun u hu=>absurd hu List.not_mem_nil)).cK fun g hg=>by subst hg;exact hN (id:=2) rfl (re.nn 2 _ rfl (by intros;simp) (by simp)),rfl,by simp,fun j cs x h1 h2=>?_⟩;rcases j with _|_|_|j
  ·cases h1;cases h2;rfl
  ·cases h1;cases h2;rfl
  ·cases h1;cases h2;rfl
  ·cases h2
 ·refine⟨[[.int .i64 0,.int .i64 2,.bool A0,.slice A1 A2 A3,.bool A4,.slice A5 A6 A7],[.int .i64 1,.int .i64 2,.bool A0,.slice A1 A2 A3,.bool A4,.slice A5 A6 A7]],(re.qU (id:=3) (sz:=6) (n:=2) rfl rfl (by decide) (by repeat' first|refine List.forall_mem_cons.2 ⟨rfl,?_⟩|exact fun u hu=>absurd hu List.not_mem_nil)).cK fun g hg=>by subst hg;exact hN (id:=3) rfl (re.nn 3 _ rfl (by intros;simp) (by simp)),rfl,by simp,fun j cs x h1 h2=>?_⟩;rcases j with _|_|j
  ·cases h1;cases h2;exact⟨_,_,_,_,_,_,_,_,rfl,hL⟩
  ·cases h1;cases h2;exact⟨_,_,_,_,_,_,_,_,rfl,hL⟩
  ·cases h2
 ·refine⟨rp 6++[[.int .i64 2,.int .i64 1,.bool false,.slice none 0 0,.bool false,.slice none 0 0]],?_,rfl,by decide,fun j cs x h1 h2=>?_⟩
  ·have h5:=re.iG (id:=7) (sz:=6) (m:=7) rfl (by decide) (by decide) (by decide) (by decide);rw[List.flatten_append];exact h5.cK fun g hg=>.inr hg
  ·rcases j with _|_|_|_|_|_|_|j
   ·cases h1;cases h2;exact⟨_,_,_,_,_,_,_,_,rfl,eS.zeroV⟩
   ·cases h1;cases h2;exact⟨_,_,_,_,_,_,_,_,rfl,eS.zeroV⟩
   ·cases h1;cases h2;exact⟨_,_,_,_,_,_,_,_,rfl,eS.zeroV⟩
   ·cases h1;cases h2;exact⟨_,_,_,_,_,_,_,_,rfl,eS.zeroV⟩
   ·cases h1;cases h2;exact⟨_,_,_,_,_,_,_,_,rfl,eS.zeroV⟩
   ·cases h1;cases h2;exact⟨_,_,_,_,_,_,_,_,rfl,eS.zeroV⟩
   ·cases h1;cases h2;exact⟨_,_,_,_,_,_,_,_,rfl,eS.zeroV⟩
   ·cases h2
structure eN(w:World)(S:Nat->Prop)(css:List (List Value))(qs:List Rat):Prop where
 len:css.length=qs.length
 four:∀cs∈css,cs.length=4
 at_:∀(j:Nat) cs q,css[j]? =some cs->qs[j]? =some q->iU w S cs q
section
variable{S S':Nat->Prop}{H:Hp}{nx:Nat}{iv iv':Iv}{B:Nat}{w w' w2:World}{O:Nat->Sx.dx}{css:List (List Value)}{qs:List Rat}
theorem eN.nil:eN w S [] []:=⟨rfl,fun _ h=>(by cases h),fun _ _ _ h=>by cases h⟩
theorem eN.cJ(h:eN w S css qs)(hk:∀g,S g->w2.heap[g]? =w.heap[g]?):eN w2 S css qs:=⟨h.len,h.four,fun j cs q h1 h2=>by
 obtain⟨b,a,n,c,b2,a2,n2,c2,e,hr⟩:=h.at_ j cs q h1 h2
 exact⟨b,a,n,c,b2,a2,n2,c2,e,hr.cJ hk⟩⟩
theorem eN.cK(h:eN w S css qs)(hk:∀g,S g->S' g):eN w S' css qs:=⟨h.len,h.four,fun j cs q h1 h2=>by
 obtain⟨b,a,n,c,b2,a2,n2,c2,e,hr⟩:=h.at_ j cs q h1 h2
 exact⟨b,a,n,c,b2,a2,n2,c2,e,hr.cK hk⟩⟩
theorem eN.rel(h:eN w (Cv S B iv) css qs)(r:Rel H nx iv B w O w')(hS:∀g,S g->g<B):eN w' (Cv S B iv) css qs:=h.cJ fun _ hg=>Rel.same r hS hg
theorem eN.cG(h:eN w (Cv S B iv) css qs)(r:Rel H nx iv B w O w')(hS:∀g,S g->g<B)(he:Ext w' w2)(hm:∀p,p∈iv->p∈iv'):eN w2 (Cv S B iv') css qs:=
 ((h.rel r hS).cJ fun g hg=>he.block g (Rel.old r hS g hg)).cK fun _ hg=>hg.mono hm
theorem eN.push{cs:List Value}{q:Rat}(h:eN w S css qs)(hc:iU w S cs q)(h4:cs.length=4):eN w S (css++[cs]) (qs++[q]):=by
 refine⟨by simp[h.len],fun x hx=>?_,fun j x p h1 h2=>?_⟩
 ·rcases bS.1 hx with hx|hx
  ·exact h.four x hx
  ·rw[bB.1 hx];exact h4
 ·rcases aP j css.length with hi|hi
  ·rw[aL hi]at h1;rw[aL (by rw[<-h.len];exact hi)]at h2;exact h.at_ j x p h1 h2
  ·have RT:j=css.length:=by have:=(aD.1 h1).1;simp at this;omega
   subst RT;rw[aN (aF _),bI]at h1;rw[h.len,aN (aF _),bI]at h2;simp at h1 h2;subst h1 h2;exact hc
theorem eN.one(h:eN w S css qs):∀u∈css.flatten,u.oneCell'=true:=fun u hu=>by
 obtain⟨cs,hc,hu⟩:=List.mem_flatten.1 hu;obtain⟨j,hj⟩:=aS hc;obtain⟨_,_,_,_,_,_,_,_,rfl,_⟩:=h.at_ j cs _ hj (aB (by rw[<-h.len];exact(aD.1 hj).1));simp at hu;rcases hu with rfl|rfl|rfl|rfl<;>rfl
theorem eN.kA(h:eN w (Cv FF B iv) css qs)(r:Rel H nx iv B w O w')(Om:dF H id=some (.vec T.Rat 4 css.flatten))(h0:0<css.length)(hm:css.length<=maxLen):
  dg w' FF B [(B,w'.heap.size)] ((SV.o (.w id css.length)).den O) css.length qs:=by
 have h2:=h.rel r (gQ B);obtain⟨k1,k2,k3,k4⟩:=aA5 r Om rfl h0 hm ⟨h2.len,h2.at_⟩;have Qo:(SV.o (.w id css.length)).den O= .slice (some ⟨(O id).g,0,none⟩) css.length (O id).cap:=by simp[SV.den,At.den,k1]
 rw[Qo];have key:∀g,Cv FF B iv g->Cv FF B [(B,w'.heap.size)] g:=fun g hg=>
  .inr ⟨hg.elim (fun h=>h.elim) fun h=>h.1,B,w'.heap.size,bB.2 rfl,hg.elim (fun h=>h.elim) fun h=>h.1,Rel.old r (gQ B) g hg⟩
 refine⟨k4.cK fun g hg=>⟨key g hg,fun e=>?_⟩,fun g hg=>?_⟩
 ·injection e with e;exact Rel.not r (gQ B) hg id _ Om k1 e
 ·injection hg with hg;subst hg;have:=(r.low id _ Om k1).2;exact .inr ⟨k2,B,w'.heap.size,bB.2 rfl,k2,this⟩
theorem eN.list(h:eN w S css qs)(hs:ij w S 4 v css.flatten css.length):cI w S v qs:=⟨css,h.len▸hs,h.len,h.four,h.at_⟩
end
theorem Ff(hS:Old S w)(hl:EC w S v l)(hl0:0<l.length)(PQ:l.length<=1000)(hb:∀z∈l,z.natAbs<1073741824):
  eA PG N.th #[v] w (eF w fun v' w2=>dg w2 FF w.heap.size [(w.heap.size,w2.heap.size)] v' l.length (c9 l)):=by
 have hw:=bR w;obtain⟨al,cl,rfl,PU,QO⟩:=hl.shape;unfold maxLen at QO;refine xa (by simp) ?_
 refine⟨Nat×List (List Value)×World×Iv,fun z=>⟨[(0,sV al l.length cl),(3,.o (.w 0 z.2.1.length)),(4,iN z.1)],[(0,.vec T.Rat 4 z.2.1.flatten)],1,z.2.2.2,z.2.2.1⟩,fun z=>l.length-z.1,
  fun z=>z.1<=l.length∧eE w.heap.size w z.2.2.1∧eN z.2.2.1 (Cf w z.2.2.2) z.2.1 (c9 (l.take z.1)),?_,?_⟩
 ·intro O w' r;exact⟨(0,[],w',[]),⟨aQ _,hw.tr r.cQ,eN.nil⟩,Sub.nil 3 T.Rat 4 rfl (by simp[j8,SV.sc,At.sc,fa]) r fun ρ1 r1=>Sub.gn [] r1⟩
 rintro⟨i,css,w1,iv⟩ ⟨hi,hw,hG⟩;dsimp only at hi hw hG ⊢;have OX:=eY hG.four;have TS:css.length=i:=by rw[hG.len,c9,aK,aW];omega
 refine dK.mk ?_ ?_<;>intro OC
 ·have OC:i<l.length:=by simpa using OC
  obtain⟨z,hz⟩:∃z,l[i]? =some z:=⟨_,aB OC⟩
  have SL:=hb z (aC hz);have QR:c9 (l.take (i+1))=c9 (l.take i)++[(z:Rat)]:=by rw[c9,List.take_add_one,hz,List.map_append];rfl
  obtain⟨adx,PC,hSx,Oa⟩:=EC.at hl hz;refine⟨adx,PC,by omega,.int .i64 z,rd1 Oa hw (hS _ hSx),?_⟩;refine cF (cE hw (fun _ w' v w2=>cT w2 (Nf w' w2) v (z:Rat)) (fun O w' r=>jO z w' (by omega)) ?_);rintro O _ _ _ OJ r he hw h_ hn;replace hG:=hG.cG r (cC w) he (mC h_);have hd:=hn.dB (S:=FF) r.cD (mN h_);obtain⟨A0,A1,A2,A3,A4,A5,A6,A7,rfl⟩:=hd.shape;have S2:=hG.push (cs:=[.bool A0,.slice A1 A2 A3,.bool A4,.slice A5 A6 A7]) (q:=(z:Rat)) ⟨_,_,_,_,_,_,_,_,rfl,hd⟩ rfl;rw[<-QR]at S2;have Pt:css.flatten++([.bool A0,.slice A1 A2 A3,.bool A4,.slice A5 A6 A7]:List Value)=(css++([[.bool A0,.slice A1 A2 A3,.bool A4,.slice A5 A6 A7]]:List (List Value))).flatten:=by simp
  refine .inl ?_;refine⟨by omega,by omega,by unfold maxLen;omega,((i+1:Nat):Int),wo,?_⟩;intro ρ3 w3 r3;exact⟨(i+1,css++[[.bool A0,.slice A1 A2 A3,.bool A4,.slice A5 A6 A7]],w3,_),⟨OC,hw.tr r3.cQ,S2.rel r3 (cC w)⟩,Sub.gn [(0,2)] r3 ⟨by dsimp only;rw[<-Pt];rfl,trivial⟩ ⟨rfl,by dsimp only;rw[List.length_append,List.length_singleton];rfl,rfl,trivial⟩,by dsimp only;omega⟩
 have OC:i=l.length:=aO hi (by simpa using OC);subst OC;rw[bD]at hG;intro ρe we re;refine⟨_,rfl,hw.tr re.cQ,?_⟩;have h5:=hG.kA re (id:=0) rfl (by omega) (by unfold maxLen;omega);have h6:css.length=l.length:=TS;rw[<-h6];exact h5
theorem dU.dB{w' w2:World}(h:dU w2 (Nf w' w2) vn vb vs f)(hB:B<=w'.heap.size)(hm:(w'.heap.size,w2.heap.size)∈iv):dU w2 (Cv FF B iv) vn vb vs f:=h.cK fun _ hg=>hg.dB hB hm
abbrev HH(a b c:Int):Value:=.agg #[.int .i64 a,.int .i64 b,.int .i64 c]
theorem aAF(p0 p1 p2 q0 q1 q2:Int)(w:World):(Op.equal T.zk (HH p0 p1 p2) (HH q0 q1 q2)).run PG w= .ok (decide (p0=q0∧p1=q1∧p2=q2)) w:=by
 have h:=run_underlying Tryz.underlying97;simp only[Op.equal,Op.maxDepth]
 unfold Op.equalIn;have a0:=fS (cs:= #[Value.int .i64 p0,Value.int .i64 p1,Value.int .i64 p2]) (j:=0) rfl;have a1:=fS (cs:= #[Value.int .i64 p0,Value.int .i64 p1,Value.int .i64 p2]) (j:=1) rfl;have a2:=fS (cs:= #[Value.int .i64 p0,Value.int .i64 p1,Value.int .i64 p2]) (j:=2) rfl;have b0:=fS (cs:= #[Value.int .i64 q0,Value.int .i64 q1,Value.int .i64 q2]) (j:=0) rfl;have b1:=fS (cs:= #[Value.int .i64 q0,Value.int .i64 q1,Value.int .i64 q2]) (j:=1) rfl;have b2:=fS (cs:= #[Value.int .i64 q0,Value.int .i64 q1,Value.int .i64 q2]) (j:=2) rfl;simp[h,a0,a1,a2,b0,b1,b2,eq_int 9998];by_cases h0:p0=q0
 ·by_cases h1:p1=q1
  ·by_cases h2:p2=q2<;>simp[h0,h1,h2]
  ·simp[h0,h1]
 ·simp[h0]
theorem Mq(p0 p1 p2 q0 q1 q2:Int)(w:World)(o1 o2:Operand):(do eqGuard .eql T.zk o1 o2 (HH p0 p1 p2) (HH q0 q1 q2);binOp .eql T.zk (HH p0 p1 p2) (HH q0 q1 q2)).run PG w= .ok (.bool (decide (p0=q0∧p1=q1∧p2=q2))) w:=by
 have h:=aAF p0 p1 p2 q0 q1 q2 w;simp[eqGuard,binOp,h]
theorem NR{H:Hp}{nx:Nat}{w':World}(r:Rel H nx iv B w O w')(h:dF H id=some (.box T.int (l.map fun z=>At.v (.int .i64 z))))(hn:l.length=n)(hm:n<=maxLen):
  EC w' (fun g=>g=(O id).g) (.slice (some ⟨(O id).g,0,none⟩) n n) l:=by
 subst hn;have h5:=r.qU (sz:=1) (n:=l.length) h (by simp) hm (fun u hu=>by obtain⟨z,_,rfl⟩:=aU.1 hu;rfl);rw[List.map_map]at h5;exact h5
def aAs(cs:List Value):Prop:=∃b a n c b2 a2 n2 c2,cs=[.bool b,.slice a n c,.bool b2,.slice a2 n2 c2]
def yA(cs:List Value):Prop:=∃b a n c b2 a2 n2 c2,cs=[.bool b,.slice a n c,.bool b2,.slice a2 n2 c2]∧n<=3∧n2<=3
theorem k7(a:Addr)(m n:Nat):(a.add m).add n=a.add (m+n):=by
 unfold Addr.add;split<;>split<;>simp_all<;>omega
theorem iO.l3{b1 b2:Bool}{a1 a2:Option Addr}{n1 n2 c1 c2:Nat}{a b:Int}(h:iO w S (.agg #[.bool b1,.slice a1 n1 c1,.bool b2,.slice a2 n2 c2]) a b)(hf:yA [.bool b1,.slice a1 n1 c1,.bool b2,.slice a2 n2 c2]):
  eS w S (.agg #[.bool b1,.slice a1 n1 c1,.bool b2,.slice a2 n2 c2]) (ratio a b)∧rl (ratio a b)<=3:=by
 obtain⟨_,_,_,_,_,_,_,_,e,k1,k2⟩:=hf;simp only[List.cons.injEq,Value.slice.injEq,Value.bool.injEq,and_true]at e;obtain⟨rfl,⟨rfl,rfl,rfl⟩,rfl,rfl,rfl,rfl⟩:=e;obtain⟨b1,l1,b2,l2,e,h1,h2⟩:=h;simp only[Value.agg.injEq,Array.mk.injEq,List.cons.injEq,Value.bool.injEq,and_true]at e;obtain⟨rfl,rfl,rfl,rfl⟩:=e;have g1:=h1.short k1;have g2:=h2.short k2;have r1:=g1.ln;have r2:=g2.ln;have hr:=iK a b;refine⟨⟨_,_,_,_,a,b,rfl,?_,?_,rfl⟩,by omega⟩
 ·obtain⟨ng,ls,i1,i2,i3⟩:=g1;exact⟨ng,ls,i1,i2,by omega⟩
 ·obtain⟨ng,ls,i1,i2,i3⟩:=g2;exact⟨ng,ls,i1,i2,by omega⟩
theorem II(hS:Old S w)(hq:ij w S 4 v css.flatten css.length)(hF:∀cs∈css,aAs cs):
  eA PG N.wx #[v] w (eF w fun v' _=>∃d,v'= .bool d∧(d=true->css.length<=80∧∀cs∈css,yA cs)):=by
 have hw:=bR w;have h4:∀cs∈css,cs.length=4:=fun cs hc=>by obtain⟨_,_,_,_,_,_,_,_,rfl⟩:=hF cs hc;rfl
 have hK:e8 4 (fun _ _ cs x=>cs=x) w S v css:=⟨css,hq,rfl,h4,fun j cs x h1 h2=>by rw[h1]at h2;injection h2⟩
 obtain⟨a,c,rfl,hc,hm⟩:=hK.shape;unfold maxLen at hm;refine AD (by simp) ?_
 refine⟨Nat×World,fun z=>⟨[(0,sV a css.length c),(3,iN z.1)],[],0,[],z.2⟩,fun z=>css.length-z.1,
  fun z=>z.1<=css.length∧eE w.heap.size w z.2∧∀j cs,j<z.1->css[j]? =some cs->yA cs,?_,?_⟩
 ·intro O w' r3;exact⟨(0,w'),⟨aQ _,hw.tr r3.cQ,fun j cs hj=>absurd hj (cB j)⟩,Sub.gn [] r3⟩
 rintro⟨i,w1⟩ ⟨hi,hw,hE⟩;dsimp only at hi hw hE ⊢;refine dK.mk ?_ ?_<;>intro OC
 ·have OC:i<css.length:=by simpa using OC
  refine dK.mk ?_ ?_<;>intro h80
  ·have h80:css.length<=80:=by have:=aI h80;omega
   obtain⟨cs,On⟩:∃cs,css[i]? =some cs:=⟨_,aB OC⟩
   obtain⟨g0,g1,g2,g3,g4,g5,g6,g7,rfl⟩:=hF cs (aC On);obtain⟨adx,cs2,PC,VL,-,QJ⟩:=hK.load (by decide) On;subst VL;refine⟨adx,PC,by omega,.slice g1 g2 g3,fun O w' r=>?_,?_⟩
   ·obtain⟨k1,k2⟩:=QJ 1 _ rfl;rw[aE,cH (w:=w) (w2:=w') (by simp only[dN];exact(hw.tr r.cQ).block _ (hS _ k1))];exact k2
   refine dK.mk ?_ ?_<;>intro k3
   ·exact rtn hw fun ρe we re=>⟨_,rfl,fun h=>by cases h⟩
   have k3:=aH k3;refine⟨adx,PC,by omega,.slice g5 g6 g7,fun O w' r=>?_,?_⟩
   ·obtain⟨k1,k2⟩:=QJ 3 _ rfl;rw[aE,cH (w:=w) (w2:=w') (by simp only[dN];exact(hw.tr r.cQ).block _ (hS _ k1))];exact k2
   refine dK.mk ?_ ?_<;>intro k4
   ·exact rtn hw fun ρe we re=>⟨_,rfl,fun h=>by cases h⟩
   have k4:=aH k4;have OT:∀j cs,j<i+1->css[j]? =some cs->yA cs:=fun j cs hj hc=>by
    rcases aP j i with h|h
    ·exact hE j cs h hc
    ·have:j=i:=by omega
     subst this;rw[On]at hc;injection hc with hc;subst hc;exact⟨_,_,_,_,_,_,_,_,rfl,by omega,by omega⟩
   refine⟨((i+1:Nat):Int),wo,?_⟩;intro ρ3 w6 r3;exact⟨(i+1,w6),⟨OC,hw.tr r3.cQ,OT⟩,Sub.gn [] r3,by dsimp only;omega⟩
  ·have h80:=aH h80;exact rtn hw fun ρe we re=>⟨_,rfl,fun h=>by have:=aI h;omega⟩
 have OC:i=css.length:=aO hi (by simpa using OC);subst OC;intro ρe we re
 exact⟨_,rfl,hw.tr re.cQ,_,rfl,fun h=>⟨by have:=aI h;omega,fun cs hc=>by
  obtain⟨j,hj⟩:=aS hc
  exact hE j cs (aD.1 hj).1 hj⟩⟩
end Go.Ex
namespace Go.Ex
theorem aAi{a b x p q:Rat}(h1:a<x)(h2:x<=b):(p<=q->p<=p+(x-a) / (b-a)*(q-p)∧p+(x-a) / (b-a)*(q-p)<=q)∧(q<=p->q<=p+(x-a) / (b-a)*(q-p)∧p+(x-a) / (b-a)*(q-p)<=p):=by
 have hd:0<b-a:=by grind
 have hi:0<=(b-a)⁻¹:=Rat.le_of_lt (Rat.inv_pos.2 hd);obtain⟨t,ht⟩:∃t,(x-a) / (b-a)=t:=⟨_,rfl⟩
 have t0:0<=t:=by rw[<-ht,b9];exact Rat.mul_nonneg (by grind) hi
 have t1:t<=1:=by
  rw[<-ht,b9,<-Rat.mul_inv_cancel (b-a) (by grind)];exact Rat.mul_le_mul_of_nonneg_right (by grind) hi
 rw[ht];refine⟨fun h=>?_,fun h=>?_⟩
 ·have k1:0<=t*(q-p):=Rat.mul_nonneg t0 (by grind);have k2:t*(q-p)<=1*(q-p):=Rat.mul_le_mul_of_nonneg_right t1 (by grind);grind
 ·have k1:0<=t*(p-q):=Rat.mul_nonneg t0 (by grind);have k2:t*(p-q)<=1*(p-q):=Rat.mul_le_mul_of_nonneg_right t1 (by grind);have k3:t*(q-p)= -(t*(p-q)):=by grind
  grind
end Go.Ex
namespace Go.Ex
open Go Go.Sx Go.Proofs
variable{p:Int×Int×(Int×Int)}{xs:List (Int×Int×(Int×Int))}{css:List (List Value)}{cs:List Value}{k:Nat}{S:Nat->Prop}{v vb vn vs:Value}{w:World}{f:fA}
theorem oc(c b:Int×Int×Rat):gU c=gU b↔(c.1=b.1∧c.2.1=b.2.1)∨(c.1=b.2.1∧c.2.1=b.1):=by
 unfold gU;rw[Prod.mk.injEq];omega
theorem Dh(c b:Int×Int×Rat):ia c=ia b↔c.1=b.1∧c.2.1=b.2.1:=by
 unfold ia;rw[Prod.mk.injEq]
section
variable{α β:Type}{L:List α}{K:α->β}{x:β}
theorem lk{c:α}(hc:L[k]? =some c)(h:K c≠x)(hE:x∈L.map K↔x∈(L.drop k).map K):x∈L.map K↔x∈(L.drop (k+1)).map K:=by
 rw[hE,List.drop_eq_getElem_cons (aD.1 hc).1,(aD.1 hc).2,List.map_cons,List.mem_cons,or_iff_right fun e=>h e.symm]
theorem uZ{c:α}(hc:L[k]? =some c)(h:K c=x):x∈L.map K:=aU.2 ⟨c,aC hc,h⟩
theorem Di(hk:L.length<=k)(hE:x∈L.map K↔x∈(L.drop k).map K):x∉L.map K:=fun h=>by
 have:=hE.1 h;rw[List.drop_eq_nil_of_le hk]at this
 cases this
end
theorem qw(n:Int)(an ab aq:Option Addr)(ln cn nb cb nq cq:Nat)(w:World):eA PG N.tn #[.agg #[.slice an ln cn,.slice ab nb cb,.slice aq nq cq],.int .i64 n] w (eF w fun v' _=>∃d,v'= .bool d∧(d=true↔jD ln n)):=by
 have hw:=bR w;refine xe (by simp) ?_;refine dK.mk ?_ ?_<;>intro h1
 ·intro ρe we re;have h1:=aI h1;exact⟨_,rfl,hw.tr re.cQ,_,rfl,by rw[decide_eq_true_iff];exact⟨fun h=>⟨h1,h⟩,fun h=>h.2⟩⟩
 ·intro ρe we re;have h1:=aH h1;exact⟨_,rfl,hw.tr re.cQ,_,rfl,(fun h=>by cases h),fun h=>absurd h.1 h1⟩
theorem ll(n lo hi:Int)(w:World):eA PG N.wy #[.int .i64 n,.int .i64 lo,.int .i64 hi] w (eF w fun v' _=>∃d,v'= .bool d∧(d=true↔lo<=n∧n<=hi)):=by
 have hw:=bR w;refine AE (by simp) ?_;refine dK.mk ?_ ?_<;>intro h1
 ·intro ρe we re;have h1:=aI h1;exact⟨_,rfl,hw.tr re.cQ,_,rfl,by rw[decide_eq_true_iff];exact⟨fun h=>⟨h1,h⟩,fun h=>h.2⟩⟩
 ·intro ρe we re;have h1:=aH h1;exact⟨_,rfl,hw.tr re.cQ,_,rfl,(fun h=>by cases h),fun h=>absurd h.1 h1⟩
theorem Ai{q:Rat}(hS:Old S w)(hp:eS w S v q):eA PG N.jd #[v] w (eF w fun v' _=>v'= .int .i64 (rs q)):=by
 obtain⟨a,b,h1,rfl,_,_⟩:=hp.v;exact ss hS h1
set_option maxHeartbeats 2000000 in
theorem Fg(hS:Old S w)(hf:dU w S vn vb vs f):eA PG N.wu #[.agg #[vn,vb,vs]] w (eF w fun v' _=>v'= .int .i64 (eL f)):=by
 have hw:=bR w;obtain⟨an,cn,ab,cb,aq,cq,rfl,rfl,rfl,Q1,Qh,RN⟩:=hf.shape;refine AA (by simp) ?_;refine dK.mk ?_ ?_<;>intro h0
 ·have h0:=aI h0;exact rtn hw fun ρe we re=>by show Value.int .i64 _=_;rw[eL,if_pos (by omega)]
 have h0:=aH h0;refine dK.mk ?_ ?_<;>intro h1
 ·have h1:=aI h1;exact rtn hw fun ρe we re=>by show Value.int .i64 _=_;rw[eL,if_pos (by omega)]
 have h1:=aH h1;refine dK.mk ?_ ?_<;>intro h2
 ·have h2:=aI h2;exact rtn hw fun ρe we re=>by show Value.int .i64 _=_;rw[eL,if_pos (by omega)]
 have h2:=aH h2
 refine⟨Nat×World×Iv,fun z=>⟨[(1,pP 0 0),(3,iN z.1)],[(0,.box T.Frame [.v (.slice an f.nodes.length cn),.v (.slice ab f.bars.length cb),.v (.slice aq f.cX.length cq)])],1,z.2.2,z.2.1⟩,fun z=>f.nodes.length-z.1,
  fun z=>z.1<=f.nodes.length∧eE w.heap.size w z.2.1∧ek fD [] f.nodes=ek fD (f.nodes.take z.1) (f.nodes.drop z.1),?_,?_⟩
 ·intro O w' r3;exact⟨(0,w',_),⟨aQ _,hw.tr r3.cQ,rfl⟩,Sub.gn [] r3⟩
 rintro⟨i,w1,iv⟩ ⟨hi,hw,hE⟩;dsimp only at hi hw hE ⊢;refine dK.mk ?_ ?_<;>intro OC
 ·have OC:i<f.nodes.length:=by simpa using OC
  obtain⟨b,hx⟩:∃b,f.nodes[i]? =some b:=⟨_,aB OC⟩
  have hLl:(f.nodes.take i).length=i:=by rw[aW];omega
  obtain⟨adb,cs,Pf,hF,-,Od⟩:=hf.nodes.load (by decide) hx;have hF:cs=[.int .i64 b.1,.int .i64 b.2.1,.int .i64 b.2.2]:=hF;subst hF;refine⟨adb,Pf,by omega,[.int .i64 b.1,.int .i64 b.2.1,.int .i64 b.2.2],rfl,rdO Od hw hS,?_⟩;refine cF (cE hw (fun _ w' v w2=>∃d,v= .bool d∧(d=true↔nA b.1)) (fun O w' r=>ll _ _ _ w') ?_);rintro O Pg v1 PS OJ r he hw h_ ⟨d0,rfl,OM⟩
  cases d0
  ·have OM:¬nA b.1:=fun h=>by have:=OM.2 h;cases this
   exact rtn hw fun ρe we re=>by show Value.int .i64 _=_;rw[eL,aJ (by omega),if_pos (by rw[hE,cU hx (show fD (f.nodes.take i) b=2 by rw[fD,aJ (fun h=>OM h.1)]) (by decide)];decide),hE,cU hx (show fD (f.nodes.take i) b=2 by rw[fD,aJ (fun h=>OM h.1)]) (by decide)]
  replace OM:=OM.1 rfl;refine cF (cE hw (fun _ w' v w2=>∃d,v= .bool d∧(d=true↔nA b.2.1)) (fun O w' r=>ll _ _ _ w') ?_);rintro O Pn v2 PJ OG r he hw h_ ⟨d1,rfl,OR⟩
  cases d1
  ·have OR:¬nA b.2.1:=fun h=>by have:=OR.2 h;cases this
   exact rtn hw fun ρe we re=>by show Value.int .i64 _=_;rw[eL,aJ (by omega),if_pos (by rw[hE,cU hx (show fD (f.nodes.take i) b=2 by rw[fD,aJ (fun h=>OR h.2.1)]) (by decide)];decide),hE,cU hx (show fD (f.nodes.take i) b=2 by rw[fD,aJ (fun h=>OR h.2.1)]) (by decide)]
  replace OR:=OR.1 rfl;refine cF (cE hw (fun _ w' v w2=>∃d,v= .bool d∧(d=true↔nA b.2.2)) (fun O w' r=>ll _ _ _ w') ?_);rintro O PH v3 PD ON r he hw h_ ⟨d2,rfl,Oq⟩
  cases d2
  ·have Oq:¬nA b.2.2:=fun h=>by have:=Oq.2 h;cases this
   exact rtn hw fun ρe we re=>by show Value.int .i64 _=_;rw[eL,aJ (by omega),if_pos (by rw[hE,cU hx (show fD (f.nodes.take i) b=2 by rw[fD,aJ (fun h=>Oq h.2.2)]) (by decide)];decide),hE,cU hx (show fD (f.nodes.take i) b=2 by rw[fD,aJ (fun h=>Oq h.2.2)]) (by decide)]
  replace Oq:=Oq.1 rfl
  refine⟨Nat×World,fun z=>⟨[(1,pP 0 0),(3,iN i),(4,pP 1 0),(5,iN z.1)],[(1,.box T.Node [.v (.int .i64 b.1),.v (.int .i64 b.2.1),.v (.int .i64 b.2.2)]),(0,.box T.Frame [.v (.slice an f.nodes.length cn),.v (.slice ab f.bars.length cb),.v (.slice aq f.cX.length cq)])],2,ON,z.2⟩,fun z=>i-z.1,
   fun z=>z.1<=i∧eE w.heap.size w z.2∧(b∈(f.nodes.take i).map id↔b∈((f.nodes.take i).drop z.1).map id),?_,?_⟩
  ·intro O w' r3;exact⟨(0,w'),⟨aQ _,hw.tr r3.cQ,Iff.rfl⟩,Sub.gn [] r3⟩
  rintro⟨k,w2⟩ ⟨hk,hw,hK⟩;dsimp only at hk hw hK ⊢;refine dK.mk ?_ ?_<;>intro OH
  ·have OH:k<i:=by have:=aI OH;omega
   obtain⟨c,hc⟩:∃c,f.nodes[k]? =some c:=⟨_,aB (by omega)⟩
   have S1:(f.nodes.take i)[k]? =some c:=by rw[bT OH];exact hc
   obtain⟨adc,cs2,Vm,R5,-,SR⟩:=hf.nodes.load (by decide) hc;have R5:cs2=[.int .i64 c.1,.int .i64 c.2.1,.int .i64 c.2.2]:=R5;subst R5;refine cM hτ df [.x 0,.x 1,.x 2,.x 3,.x 4,.x 5,.x 6] (by kernel_rfl) (by kernel_rfl) ?_;refine⟨adc,Vm,by omega,[.int .i64 c.1,.int .i64 c.2.1,.int .i64 c.2.2],rfl,rdO SR hw hS,decide (c=b),fun O w o1 o2=>Fb c b w o1 o2,?_⟩;refine dK.mk ?_ ?_<;>intro hd
   ·have hd:c=b:=aI hd;have Qm:b∈f.nodes.take i:=by have:=uZ (K:=id) S1 hd;rwa [List.map_id]at this
    exact rtn hw fun ρe we re=>by show Value.int .i64 _=_;rw[eL,aJ (by omega),if_pos (by rw[hE,cU hx (show fD (f.nodes.take i) b=12 by rw[fD,if_pos ⟨OM,OR,Oq⟩,if_pos Qm]) (by decide)];decide),hE,cU hx (show fD (f.nodes.take i) b=12 by rw[fD,if_pos ⟨OM,OR,Oq⟩,if_pos Qm]) (by decide)]
   have hd:c≠b:=aH hd;have Qe:=lk (K:=id) S1 hd hK;refine⟨((k+1:Nat):Int),wo,?_⟩;intro ρ3 w6 r3;exact⟨(k+1,w6),⟨OH,hw.tr r3.cQ,Qe⟩,Sub.gn [] r3,by dsimp only;omega⟩
  have OH:k=i:=by have:=aH OH;omega
  have QC:=Di (by rw[hLl];omega) hK;rw[List.map_id]at QC;rw[gY hx (sn.2 ⟨⟨OM,OR,Oq⟩,QC⟩)]at hE;refine⟨((i+1:Nat):Int),wo,?_⟩;intro ρ3 w6 r3;exact⟨(i+1,w6,_),⟨OC,hw.tr r3.cQ,hE⟩,Sub.gn [] r3,by dsimp only;omega⟩
 have OC:i=f.nodes.length:=aO hi (by simpa using OC);rw[iq (by omega)]at hE
 refine⟨Nat×World×Iv,fun z=>⟨[(1,pP 0 0),(6,iN z.1)],[(0,.box T.Frame [.v (.slice an f.nodes.length cn),.v (.slice ab f.bars.length cb),.v (.slice aq f.cX.length cq)])],1,z.2.2,z.2.1⟩,fun z=>f.bars.length-z.1,
  fun z=>z.1<=f.bars.length∧eE w.heap.size w z.2.1∧ek (fO f.nodes.length) [] f.bars=ek (fO f.nodes.length) (f.bars.take z.1) (f.bars.drop z.1),?_,?_⟩
 ·intro O w' r3;exact⟨(0,w',_),⟨aQ _,hw.tr r3.cQ,rfl⟩,Sub.gn [] r3⟩
 rintro⟨i,w1,iv⟩ ⟨hi,hw,OT⟩;dsimp only at hi hw OT ⊢;refine dK.mk ?_ ?_<;>intro OC
 ·have OC:i<f.bars.length:=by simpa using OC
  obtain⟨b,hx⟩:∃b,f.bars[i]? =some b:=⟨_,aB OC⟩
  have hLl:(f.bars.take i).length=i:=by rw[aW];omega
  obtain⟨adb,cs,Pf,hF,-,Od⟩:=hf.bars.load (by decide) hx;obtain⟨g0,g1,g2,g3,g4,g5,g6,g7,rfl,hF⟩:=hF;refine⟨adb,Pf,by omega,[.int .i64 b.1,.int .i64 b.2.1,.bool g0,.slice g1 g2 g3,.bool g4,.slice g5 g6 g7],rfl,rdO Od hw hS,?_⟩;refine cF (cE hw (fun _ w' v w2=>∃d,v= .bool d∧(d=true↔jD f.nodes.length b.1)) (fun O w' r=>qw _ _ _ _ _ _ _ _ _ _ w') ?_);rintro O Pg v1 PS OJ r he hw h_ ⟨d0,rfl,OM⟩
  cases d0
  ·have OM:¬jD f.nodes.length b.1:=fun h=>by have:=OM.2 h;cases this
   exact rtn hw fun ρe we re=>by show Value.int .i64 _=_;rw[eL,aJ (by omega),aJ (by rw[hE];decide),if_pos (by rw[OT,cU hx (show fO f.nodes.length (f.bars.take i) b=6 by rw[fO,aJ (fun h=>OM h.1)]) (by decide)];decide),OT,cU hx (show fO f.nodes.length (f.bars.take i) b=6 by rw[fO,aJ (fun h=>OM h.1)]) (by decide)]
  replace OM:=OM.1 rfl;refine cF (cE hw (fun _ w' v w2=>∃d,v= .bool d∧(d=true↔jD f.nodes.length b.2.1)) (fun O w' r=>qw _ _ _ _ _ _ _ _ _ _ w') ?_);rintro O Pn v2 PJ OG r he hw h_ ⟨d1,rfl,OR⟩
  cases d1
  ·have OR:¬jD f.nodes.length b.2.1:=fun h=>by have:=OR.2 h;cases this
   exact rtn hw fun ρe we re=>by show Value.int .i64 _=_;rw[eL,aJ (by omega),aJ (by rw[hE];decide),if_pos (by rw[OT,cU hx (show fO f.nodes.length (f.bars.take i) b=6 by rw[fO,aJ (fun h=>OR h.2)]) (by decide)];decide),OT,cU hx (show fO f.nodes.length (f.bars.take i) b=6 by rw[fO,aJ (fun h=>OR h.2)]) (by decide)]
  replace OR:=OR.1 rfl;refine dK.mk ?_ ?_<;>intro Ow
  ·have Ow:b.1=b.2.1:=by simpa using Ow
   exact rtn hw fun ρe we re=>by show Value.int .i64 _=_;rw[eL,aJ (by omega),aJ (by rw[hE];decide),if_pos (by rw[OT,cU hx (show fO f.nodes.length (f.bars.take i) b=3 by rw[fO,if_pos ⟨OM,OR⟩,if_pos Ow]) (by decide)];decide),OT,cU hx (show fO f.nodes.length (f.bars.take i) b=3 by rw[fO,if_pos ⟨OM,OR⟩,if_pos Ow]) (by decide)]
  have Ow:b.1≠b.2.1:=by simpa using Ow
  refine⟨Nat×World,fun z=>⟨[(1,pP 0 0),(6,iN i),(7,pP 1 0),(8,iN z.1)],[(1,.box T.Bar [.v (.int .i64 b.1),.v (.int .i64 b.2.1),.v (.bool g0),.v (.slice g1 g2 g3),.v (.bool g4),.v (.slice g5 g6 g7)]),(0,.box T.Frame [.v (.slice an f.nodes.length cn),.v (.slice ab f.bars.length cb),.v (.slice aq f.cX.length cq)])],2,OG,z.2⟩,fun z=>i-z.1,
   fun z=>z.1<=i∧eE w.heap.size w z.2∧(gU b∈(f.bars.take i).map gU↔gU b∈((f.bars.take i).drop z.1).map gU),?_,?_⟩
  ·intro O w' r3;exact⟨(0,w'),⟨aQ _,hw.tr r3.cQ,Iff.rfl⟩,Sub.gn [] r3⟩
  rintro⟨k,w2⟩ ⟨hk,hw,hK⟩;dsimp only at hk hw hK ⊢;refine dK.mk ?_ ?_<;>intro OH
  ·have OH:k<i:=by have:=aI OH;omega
   obtain⟨c,hc⟩:∃c,f.bars[k]? =some c:=⟨_,aB (by omega)⟩
   have S1:(f.bars.take i)[k]? =some c:=by rw[bT OH];exact hc
   obtain⟨adc,cs2,Vm,R5,-,SR⟩:=hf.bars.load (by decide) hc;obtain⟨q0,q1,q2,q3,q4,q5,q6,q7,rfl,-⟩:=R5;refine⟨adc,Vm,by omega,[.int .i64 c.1,.int .i64 c.2.1,.bool q0,.slice q1 q2 q3,.bool q4,.slice q5 q6 q7],rfl,rdO SR hw hS,?_⟩;refine dK.mk ?_ ?_<;>intro e1
   ·have e1:(c.1=b.1):=by simpa using e1
    refine dK.mk ?_ ?_<;>intro e2
    ·have e2:(c.2.1=b.2.1):=by simpa using e2
     have Qm:=uZ (K:=gU) S1 (show gU c=gU b by rw[oc];omega);exact rtn hw fun ρe we re=>by show Value.int .i64 _=_;rw[eL,aJ (by omega),aJ (by rw[hE];decide),if_pos (by rw[OT,cU hx (show fO f.nodes.length (f.bars.take i) b=5 by rw[fO,if_pos ⟨OM,OR⟩,aJ Ow,if_pos Qm]) (by decide)];decide),OT,cU hx (show fO f.nodes.length (f.bars.take i) b=5 by rw[fO,if_pos ⟨OM,OR⟩,aJ Ow,if_pos Qm]) (by decide)]
    ·have e2:¬(c.2.1=b.2.1):=by simpa using e2
     refine dK.mk ?_ ?_<;>intro e3
     ·have e3:(c.1=b.2.1):=by simpa using e3
      refine dK.mk ?_ ?_<;>intro e4
      ·have e4:(c.2.1=b.1):=by simpa using e4
       have Qm:=uZ (K:=gU) S1 (show gU c=gU b by rw[oc];omega);exact rtn hw fun ρe we re=>by show Value.int .i64 _=_;rw[eL,aJ (by omega),aJ (by rw[hE];decide),if_pos (by rw[OT,cU hx (show fO f.nodes.length (f.bars.take i) b=5 by rw[fO,if_pos ⟨OM,OR⟩,aJ Ow,if_pos Qm]) (by decide)];decide),OT,cU hx (show fO f.nodes.length (f.bars.take i) b=5 by rw[fO,if_pos ⟨OM,OR⟩,aJ Ow,if_pos Qm]) (by decide)]
      ·have e4:¬(c.2.1=b.1):=by simpa using e4
       have Qe:=lk (K:=gU) S1 (show gU c≠gU b by rw[Ne,oc];omega) hK;refine⟨((k+1:Nat):Int),wo,?_⟩;intro ρ3 w6 r3;exact⟨(k+1,w6),⟨OH,hw.tr r3.cQ,Qe⟩,Sub.gn [] r3,by dsimp only;omega⟩
     ·have e3:¬(c.1=b.2.1):=by simpa using e3
      have Qe:=lk (K:=gU) S1 (show gU c≠gU b by rw[Ne,oc];omega) hK;refine⟨((k+1:Nat):Int),wo,?_⟩;intro ρ3 w6 r3;exact⟨(k+1,w6),⟨OH,hw.tr r3.cQ,Qe⟩,Sub.gn [] r3,by dsimp only;omega⟩
   ·have e1:¬(c.1=b.1):=by simpa using e1
    refine dK.mk ?_ ?_<;>intro e3
    ·have e3:(c.1=b.2.1):=by simpa using e3
     refine dK.mk ?_ ?_<;>intro e4
     ·have e4:(c.2.1=b.1):=by simpa using e4
      have Qm:=uZ (K:=gU) S1 (show gU c=gU b by rw[oc];omega);exact rtn hw fun ρe we re=>by show Value.int .i64 _=_;rw[eL,aJ (by omega),aJ (by rw[hE];decide),if_pos (by rw[OT,cU hx (show fO f.nodes.length (f.bars.take i) b=5 by rw[fO,if_pos ⟨OM,OR⟩,aJ Ow,if_pos Qm]) (by decide)];decide),OT,cU hx (show fO f.nodes.length (f.bars.take i) b=5 by rw[fO,if_pos ⟨OM,OR⟩,aJ Ow,if_pos Qm]) (by decide)]
     ·have e4:¬(c.2.1=b.1):=by simpa using e4
      have Qe:=lk (K:=gU) S1 (show gU c≠gU b by rw[Ne,oc];omega) hK;refine⟨((k+1:Nat):Int),wo,?_⟩;intro ρ3 w6 r3;exact⟨(k+1,w6),⟨OH,hw.tr r3.cQ,Qe⟩,Sub.gn [] r3,by dsimp only;omega⟩
    ·have e3:¬(c.1=b.2.1):=by simpa using e3
     have Qe:=lk (K:=gU) S1 (show gU c≠gU b by rw[Ne,oc];omega) hK;refine⟨((k+1:Nat):Int),wo,?_⟩;intro ρ3 w6 r3;exact⟨(k+1,w6),⟨OH,hw.tr r3.cQ,Qe⟩,Sub.gn [] r3,by dsimp only;omega⟩
  have OH:k=i:=by have:=aH OH;omega
  have QC:=Di (by rw[hLl];omega) hK;refine cF (cE hw (fun _ w' v w2=>v= .int .i64 (rs b.2.2)) (fun O w' r=>(Ai (oS hS r) (hF.cJ (kS hw r hS)))) ?_);rintro O PH v3 PD ON r he hw h_ rfl;obtain⟨cf,Rt⟩:∃c,rs b.2.2=c:=⟨_,rfl⟩
  rw[Rt];refine dK.mk ?_ ?_<;>intro Oc
  ·have Oc:b.2.2<=0:=by have:=aI Oc;rw[<-Rat.not_lt,<-o9];omega
   exact rtn hw fun ρe we re=>by show Value.int .i64 _=_;rw[eL,aJ (by omega),aJ (by rw[hE];decide),if_pos (by rw[OT,cU hx (show fO f.nodes.length (f.bars.take i) b=2 by rw[fO,if_pos ⟨OM,OR⟩,aJ Ow,aJ QC,if_pos Oc]) (by decide)];decide),OT,cU hx (show fO f.nodes.length (f.bars.take i) b=2 by rw[fO,if_pos ⟨OM,OR⟩,aJ Ow,aJ QC,if_pos Oc]) (by decide)]
  have Oc:0<b.2.2:=by have:=aH Oc;rw[<-o9];omega
  rw[gY hx (nK.2 ⟨⟨OM,OR⟩,Ow,QC,Oc⟩)]at OT;refine⟨((i+1:Nat):Int),wo,?_⟩;intro ρ3 w6 r3;exact⟨(i+1,w6,_),⟨OC,hw.tr r3.cQ,OT⟩,Sub.gn [] r3,by dsimp only;omega⟩
 have OC:i=f.bars.length:=aO hi (by simpa using OC);rw[iq (by omega)]at OT
 refine⟨Nat×World×Iv,fun z=>⟨[(1,pP 0 0),(10,iN z.1)],[(0,.box T.Frame [.v (.slice an f.nodes.length cn),.v (.slice ab f.bars.length cb),.v (.slice aq f.cX.length cq)])],1,z.2.2,z.2.1⟩,fun z=>f.cX.length-z.1,
  fun z=>z.1<=f.cX.length∧eE w.heap.size w z.2.1∧ek (kX f.nodes.length) [] f.cX=ek (kX f.nodes.length) (f.cX.take z.1) (f.cX.drop z.1),?_,?_⟩
 ·intro O w' r3;exact⟨(0,w',_),⟨aQ _,hw.tr r3.cQ,rfl⟩,Sub.gn [] r3⟩
 rintro⟨i,w1,iv⟩ ⟨hi,hw,UU⟩;dsimp only at hi hw UU ⊢;refine dK.mk ?_ ?_<;>intro OC
 ·have OC:i<f.cX.length:=by simpa using OC
  obtain⟨b,hx⟩:∃b,f.cX[i]? =some b:=⟨_,aB OC⟩
  have hLl:(f.cX.take i).length=i:=by rw[aW];omega
  obtain⟨adb,cs,Pf,hF,-,Od⟩:=hf.cX.load (by decide) hx;obtain⟨g0,g1,g2,g3,g4,g5,g6,g7,rfl,hF⟩:=hF;refine⟨adb,Pf,by omega,[.int .i64 b.1,.int .i64 b.2.1,.bool g0,.slice g1 g2 g3,.bool g4,.slice g5 g6 g7],rfl,rdO Od hw hS,?_⟩;refine cF (cE hw (fun _ w' v w2=>∃d,v= .bool d∧(d=true↔jD f.nodes.length b.1)) (fun O w' r=>qw _ _ _ _ _ _ _ _ _ _ w') ?_);rintro O _ _ _ OJ r he hw h_ ⟨d0,rfl,OM⟩
  cases d0
  ·have OM:¬jD f.nodes.length b.1:=fun h=>by have:=OM.2 h;cases this
   exact rtn hw fun ρe we re=>by show Value.int .i64 _=_;rw[eL,aJ (by omega),aJ (by rw[hE];decide),aJ (by rw[OT];decide),UU,cU hx (show kX f.nodes.length (f.cX.take i) b=6 by rw[kX,aJ OM]) (by decide)]
  replace OM:=OM.1 rfl;refine cF (cE hw (fun _ w' v w2=>∃d,v= .bool d∧(d=true↔0<=b.2.1∧b.2.1<=2)) (fun O w' r=>ll _ _ _ w') ?_);rintro O _ _ _ OG r he hw h_ ⟨d1,rfl,PC⟩
  cases d1
  ·have PC:¬(0<=b.2.1∧b.2.1<=2):=fun h=>by have:=PC.2 h;cases this
   exact rtn hw fun ρe we re=>by show Value.int .i64 _=_;rw[eL,aJ (by omega),aJ (by rw[hE];decide),aJ (by rw[OT];decide),UU,cU hx (show kX f.nodes.length (f.cX.take i) b=2 by rw[kX,if_pos OM,aJ PC]) (by decide)]
  replace PC:=PC.1 rfl
  refine⟨Nat×World,fun z=>⟨[(1,pP 0 0),(10,iN i),(11,pP 1 0),(12,iN z.1)],[(1,.box T.yN [.v (.int .i64 b.1),.v (.int .i64 b.2.1),.v (.bool g0),.v (.slice g1 g2 g3),.v (.bool g4),.v (.slice g5 g6 g7)]),(0,.box T.Frame [.v (.slice an f.nodes.length cn),.v (.slice ab f.bars.length cb),.v (.slice aq f.cX.length cq)])],2,OG,z.2⟩,fun z=>i-z.1,
   fun z=>z.1<=i∧eE w.heap.size w z.2∧(ia b∈(f.cX.take i).map ia↔ia b∈((f.cX.take i).drop z.1).map ia),?_,?_⟩
  ·intro O w' r3;exact⟨(0,w'),⟨aQ _,hw.tr r3.cQ,Iff.rfl⟩,Sub.gn [] r3⟩
  rintro⟨k,w2⟩ ⟨hk,hw,hK⟩;dsimp only at hk hw hK ⊢;refine dK.mk ?_ ?_<;>intro OH
  ·have OH:k<i:=by have:=aI OH;omega
   obtain⟨c,hc⟩:∃c,f.cX[k]? =some c:=⟨_,aB (by omega)⟩
   have S1:(f.cX.take i)[k]? =some c:=by rw[bT OH];exact hc
   obtain⟨adc,cs2,Vm,R5,-,SR⟩:=hf.cX.load (by decide) hc;obtain⟨q0,q1,q2,q3,q4,q5,q6,q7,rfl,-⟩:=R5;refine cM hτ df [.x 0,.x 1,.x 2,.x 3,.x 4,.x 5,.x 6,.x 7,.x 8,.x 9,.x 10,.x 11,.x 12,.x 13,.x 14,.x 15,.x 16,.x 17,.x 18,.x 19] (by kernel_rfl) (by kernel_rfl) ?_;refine⟨adc,Vm,by omega,.int .i64 c.1,fun O w' r=>?_,?_⟩
   ·obtain⟨k1,k2⟩:=SR 0 _ rfl;rw[cH (w:=w) (w2:=w') (by simp only[dN];exact(hw.tr r.cQ).block _ (hS _ k1))];simp only[aE,k7]at k2 ⊢;exact k2
   refine dK.mk ?_ ?_<;>intro e1
   ·have e1:(c.1=b.1):=by simpa using e1
    refine⟨adc,Vm,by omega,.int .i64 c.2.1,fun O w' r=>?_,?_⟩
    ·obtain⟨k1,k2⟩:=SR 1 _ rfl;rw[cH (w:=w) (w2:=w') (by simp only[dN];exact(hw.tr r.cQ).block _ (hS _ k1))];simp only[aE,k7]at k2 ⊢;exact k2
    refine dK.mk ?_ ?_<;>intro e2
    ·have e2:(c.2.1=b.2.1):=by simpa using e2
     have Qm:=uZ (K:=ia) S1 (show ia c=ia b by rw[Dh];omega);exact rtn hw fun ρe we re=>by show Value.int .i64 _=_;rw[eL,aJ (by omega),aJ (by rw[hE];decide),aJ (by rw[OT];decide),UU,cU hx (show kX f.nodes.length (f.cX.take i) b=5 by rw[kX,if_pos OM,if_pos PC,if_pos Qm]) (by decide)]
    ·have e2:¬(c.2.1=b.2.1):=by simpa using e2
     have Qe:=lk (K:=ia) S1 (show ia c≠ia b by rw[Ne,Dh];omega) hK;refine⟨((k+1:Nat):Int),wo,?_⟩;intro ρ3 w6 r3;exact⟨(k+1,w6),⟨OH,hw.tr r3.cQ,Qe⟩,Sub.gn [] r3,by dsimp only;omega⟩
   ·have e1:¬(c.1=b.1):=by simpa using e1
    have Qe:=lk (K:=ia) S1 (show ia c≠ia b by rw[Ne,Dh];omega) hK;refine⟨((k+1:Nat):Int),wo,?_⟩;intro ρ3 w6 r3;exact⟨(k+1,w6),⟨OH,hw.tr r3.cQ,Qe⟩,Sub.gn [] r3,by dsimp only;omega⟩
  have OH:k=i:=by have:=aH OH;omega
  have QC:=Di (by rw[hLl];omega) hK;refine cF (cE hw (fun _ w' v w2=>v= .int .i64 (rs b.2.2)) (fun O w' r=>(Ai (oS hS r) (hF.cJ (kS hw r hS)))) ?_);rintro O _ _ _ ON r he hw h_ rfl;obtain⟨cf,Rt⟩:∃c,rs b.2.2=c:=⟨_,rfl⟩
  rw[Rt];refine dK.mk ?_ ?_<;>intro Oc
  ·have Oc:b.2.2<0:=by have:=aI Oc;rw[<-lj];omega
   exact rtn hw fun ρe we re=>by show Value.int .i64 _=_;rw[eL,aJ (by omega),aJ (by rw[hE];decide),aJ (by rw[OT];decide),UU,cU hx (show kX f.nodes.length (f.cX.take i) b=2 by rw[kX,if_pos OM,if_pos PC,aJ QC,if_pos Oc]) (by decide)]
  have Oc:0<=b.2.2:=by have:=aH Oc;rw[<-Rat.not_lt,<-lj];omega
  rw[gY hx (qq.2 ⟨OM,PC,QC,Oc⟩)]at UU;refine⟨((i+1:Nat):Int),wo,?_⟩;intro ρ3 w6 r3;exact⟨(i+1,w6,_),⟨OC,hw.tr r3.cQ,UU⟩,Sub.gn [] r3,by dsimp only;omega⟩
 have OC:i=f.cX.length:=aO hi (by simpa using OC);rw[iq (by omega)]at UU;exact rtn hw fun ρe we re=>by show Value.int .i64 _=_;rw[eL,aJ (by omega),aJ (by rw[hE];decide),aJ (by rw[OT];decide),UU]
def rq(p:Int×Int):Rat:=ratio p.1 p.2
structure HI where
 nodes:List (Int×Int×Int)
 bars:List (Int×Int×(Int×Int))
 cX:List (Int×Int×(Int×Int))
def HJ(p:Int×Int×(Int×Int)):Int×Int×Rat:=(p.1,p.2.1,rq p.2.2)
def HI.val(f:HI):fA:=⟨f.nodes,f.bars.map HJ,f.cX.map HJ⟩
def u6(w:World)(S:Nat->Prop)(cs:List Value)(p:Int×Int×(Int×Int)):Prop:=∃b a n c b2 a2 n2 c2,cs=[.int .i64 p.1,.int .i64 p.2.1,.bool b,.slice a n c,.bool b2,.slice a2 n2 c2]∧iO w S (.agg #[.bool b,.slice a n c,.bool b2,.slice a2 n2 c2]) p.2.2.1 p.2.2.2
structure qV(w:World)(S:Nat->Prop)(vn vb vs:Value)(f:HI):Prop where
 nodes:mu w S vn f.nodes
 bars:e8 6 u6 w S vb f.bars
 cX:e8 6 u6 w S vs f.cX
theorem u6.cJ{w2:World}(h:u6 w S cs p)(hk:∀g,S g->w2.heap[g]? =w.heap[g]?):u6 w2 S cs p:=by
 obtain⟨b,a,n,c,b2,a2,n2,c2,h1,h2⟩:=h;exact⟨b,a,n,c,b2,a2,n2,c2,h1,h2.cJ hk⟩
theorem qV.cJ{w2:World}{f:HI}(h:qV w S vn vb vs f)(hk:∀g,S g->w2.heap[g]? =w.heap[g]?):qV w2 S vn vb vs f:=
 ⟨e8.cJ (w:=w) (fun _ _ h=>h) h.nodes hk,e8.cJ (fun _ _ h=>h.cJ hk) h.bars hk,e8.cJ (fun _ _ h=>h.cJ hk) h.cX hk⟩
theorem u6.few(h:u6 w S cs p)(hf:yA (cs.drop 2)):Db w S cs (HJ p)∧rl (HJ p).2.2<=3:=by
 obtain⟨b,a,n,c,b2,a2,n2,c2,rfl,h2⟩:=h;obtain⟨h3,h4⟩:=h2.l3 hf;exact⟨⟨b,a,n,c,b2,a2,n2,c2,rfl,h3⟩,h4⟩
theorem e8.cells{α:Type}{P:World->(Nat->Prop)->List Value->α->Prop}{xs:List α}(h:e8 k P w S v xs):
  ∃css:List (List Value),css.length=xs.length∧e8 k (fun w S cs (y:List Value×α)=>cs=y.1∧P w S cs y.2) w S v (css.zip xs)∧(∀(j:Nat) cs x,css[j]? =some cs->xs[j]? =some x->P w S cs x)∧
   ∀{β:Type} (Q:World->(Nat->Prop)->List Value->β->Prop) (ys:List β),ys.length=xs.length->(∀(j:Nat) cs y,css[j]? =some cs->ys[j]? =some y->Q w S cs y)->e8 k Q w S v ys:=by
 obtain⟨css,h1,h2,h3,h4⟩:=h;have hz:(css.zip xs).length=xs.length:=by rw[List.length_zip,h2,Nat.min_self]
 refine⟨css,h2,⟨css,by rw[hz];exact h1,by rw[hz,h2],h3,fun j cs y k1 k2=>?_⟩,h4,fun Q ys hl hQ=>⟨css,by rw[hl];exact h1,by rw[hl,h2],h3,hQ⟩⟩;rw[List.getElem?_zip_eq_some]at k2;rw[k1]at k2;exact⟨by injection k2.1,h4 j cs _ k1 k2.2⟩
theorem NS.of(h4:∀(j:Nat) cs x,css[j]? =some cs->xs[j]? =some x->u6 w S cs x)
  (hQ:∀{β:Type} (Q:World->(Nat->Prop)->List Value->β->Prop) (ys:List β),ys.length=xs.length->(∀(j:Nat) cs y,css[j]? =some cs->ys[j]? =some y->Q w S cs y)->e8 6 Q w S v ys)
  (hl:css.length=xs.length) (hf:∀j cs,j<xs.length->css[j]? =some cs->yA (cs.drop 2)):LM w S v (xs.map HJ)∧∀b∈xs.map HJ,rl b.2.2<=3:=by
 refine⟨hQ Db _ (aK ..) fun j cs y k1 k2=>?_,fun b hb=>?_⟩
 ·rw[aM]at k2;obtain⟨p,hp,rfl⟩:=Option.map_eq_some_iff.1 k2;exact((h4 j cs p k1 hp).few (hf j cs (aD.1 hp).1 k1)).1
 ·obtain⟨p,hp,rfl⟩:=aU.1 hb;obtain⟨j,hj⟩:=aS hp;have TA:=(aD.1 hj).1;have hc:css[j]? =some css[j]:=aB (by omega);exact((h4 j _ p hc hj).few (hf j _ TA hc)).2
set_option maxHeartbeats 1000000 in
theorem LR{f:HI}(hS:Old S w)(hf:qV w S vn vb vs f):eA PG N.po #[.agg #[vn,vb,vs]] w (eF w fun v' _=>∃d,v'= .bool d∧
  (d=true->dU w S vn vb vs f.val∧(∀b∈f.val.bars,rl b.2.2<=3)∧(∀b∈f.val.cX,rl b.2.2<=3)∧(eL f.val≠0∨f.val.nodes.length<=4∧f.val.bars.length<=6))):=by
 have hw:=bR w;obtain⟨an,cn,rfl,hcn,Q1⟩:=hf.nodes.shape;obtain⟨bcs,PX,hbz,RS,hbQ⟩:=hf.bars.cells;obtain⟨qcs,UM,hqz,hq4,hqQ⟩:=hf.cX.cells;obtain⟨ab,cb,rfl,Pq,Qh⟩:=hf.bars.shape;obtain⟨aq,cq,rfl,hcq,RN⟩:=hf.cX.shape;refine zy (by simp) ?_;refine dK.mk ?_ ?_<;>intro h0
 ·exact rtn hw fun ρe we re=>⟨_,rfl,fun h=>by cases h⟩
 have h0:=aH h0;refine dK.mk ?_ ?_<;>intro h1
 ·exact rtn hw fun ρe we re=>⟨_,rfl,fun h=>by cases h⟩
 have h1:=aH h1;refine dK.mk ?_ ?_<;>intro h2
 ·exact rtn hw fun ρe we re=>⟨_,rfl,fun h=>by cases h⟩
 have h2:=aH h2
 refine⟨Nat×World×Iv,fun z=>⟨[(1,pP 0 0),(3,iN z.1)],[(0,.box T.Frame [.v (.slice an f.nodes.length cn),.v (.slice ab f.bars.length cb),.v (.slice aq f.cX.length cq)])],1,z.2.2,z.2.1⟩,fun z=>f.bars.length-z.1,
  fun z=>z.1<=f.bars.length∧eE w.heap.size w z.2.1∧∀(j:Nat) (cs:List Value),j<z.1->bcs[j]? =some cs->yA (cs.drop 2),?_,?_⟩
 ·intro O w' r3;exact⟨(0,w',_),⟨aQ _,hw.tr r3.cQ,fun j cs hj=>absurd hj (cB j)⟩,Sub.gn [] r3⟩
 rintro⟨i,w1,iv⟩ ⟨hi,hw,hB⟩;dsimp only at hi hw hB ⊢;refine dK.mk ?_ ?_<;>intro OC
 ·have OC:i<f.bars.length:=by simpa using OC
  obtain⟨cs,On⟩:∃cs,bcs[i]? =some cs:=⟨_,aB (by omega)⟩
  obtain⟨p,hp⟩:∃p,f.bars[i]? =some p:=⟨_,aB OC⟩
  obtain⟨g0,g1,g2,g3,g4,g5,g6,g7,rfl,-⟩:=RS i cs p On hp;obtain⟨adx,cs2,PC,⟨VL,-⟩,-,QJ⟩:=hbz.load (by decide) (show (bcs.zip f.bars)[i]? =some (_,p) by rw[List.getElem?_zip_eq_some];exact⟨On,hp⟩);have VL:cs2=[.int .i64 p.1,.int .i64 p.2.1,.bool g0,.slice g1 g2 g3,.bool g4,.slice g5 g6 g7]:=VL;subst VL;refine⟨adx,PC,by omega,[.bool g0,.slice g1 g2 g3,.bool g4,.slice g5 g6 g7],rfl,fun O w' r j u hu=>?_,?_⟩
  ·have hj4:=(aD.1 hu).1;obtain⟨k1,k2⟩:=QJ (2+j) u (by rcases j with _|_|_|_|j<;>first|exact hu|(have:j+4<4:=hj4;omega));rw[cH (w:=w) (w2:=w') (by simp only[dN];exact(hw.tr r.cQ).block _ (hS _ k1))];simp only[aE,k7]at k2 ⊢
   first|exact k2|(rw [<-k2];congr 2;omega)
  refine cF (cE hw (fun _ w' v w2=>∃d,v= .bool d∧(d=true->yA [.bool g0,.slice g1 g2 g3,.bool g4,.slice g5 g6 g7])) (fun O w' r=>(II (S:=fun g=>g=(O 1).g) (css:=[[.bool g0,.slice g1 g2 g3,.bool g4,.slice g5 g6 g7]]) (fun g hg=>by subst hg;exact Rel.lt r (id:=1) rfl) (r.qU (id:=1) (sz:=4) (n:=1) rfl rfl (by decide) (by repeat' first|refine List.forall_mem_cons.2 ⟨rfl,?_⟩|exact fun u hu=>absurd hu List.not_mem_nil)) (fun cs hc=>by rw[bB.1 hc];exact⟨_,_,_,_,_,_,_,_,rfl⟩)).mono fun _ _ ⟨v2,e1,e2,d,e3,e4⟩=>⟨v2,e1,e2,d,e3,fun h=>(e4 h).2 _ aG⟩) ?_);rintro O Pg v1 PS OJ r he hw h_ ⟨d2,rfl,Oq⟩
  cases d2
  ·exact rtn hw fun ρe we re=>⟨_,rfl,fun h=>by cases h⟩
  have OT:∀j cs,j<i+1->bcs[j]? =some cs->yA (cs.drop 2):=fun j cs hj hc=>by
   rcases aP j i with h|h
   ·exact hB j cs h hc
   ·have:j=i:=by omega
    subst this;rw[On]at hc;injection hc with hc;subst hc;exact Oq rfl
  refine⟨((i+1:Nat):Int),wo,?_⟩;intro ρ3 w6 r3;exact⟨(i+1,w6,_),⟨OC,hw.tr r3.cQ,OT⟩,Sub.gn [] r3,by dsimp only;omega⟩
 have OC:i=f.bars.length:=aO hi (by simpa using OC);subst OC
 refine⟨Nat×World×Iv,fun z=>⟨[(1,pP 0 0),(4,iN z.1)],[(0,.box T.Frame [.v (.slice an f.nodes.length cn),.v (.slice ab f.bars.length cb),.v (.slice aq f.cX.length cq)])],1,z.2.2,z.2.1⟩,fun z=>f.cX.length-z.1,
  fun z=>z.1<=f.cX.length∧eE w.heap.size w z.2.1∧∀(j:Nat) (cs:List Value),j<z.1->qcs[j]? =some cs->yA (cs.drop 2),?_,?_⟩
 ·intro O w' r3;exact⟨(0,w',_),⟨aQ _,hw.tr r3.cQ,fun j cs hj=>absurd hj (cB j)⟩,Sub.gn [] r3⟩
 rintro⟨i,w1,iv⟩ ⟨hi,hw,hQ⟩;dsimp only at hi hw hQ ⊢;refine dK.mk ?_ ?_<;>intro OC
 ·have OC:i<f.cX.length:=by simpa using OC
  obtain⟨cs,On⟩:∃cs,qcs[i]? =some cs:=⟨_,aB (by omega)⟩
  obtain⟨p,hp⟩:∃p,f.cX[i]? =some p:=⟨_,aB OC⟩
  obtain⟨g0,g1,g2,g3,g4,g5,g6,g7,rfl,-⟩:=hq4 i cs p On hp;obtain⟨adx,cs2,PC,⟨VL,-⟩,-,QJ⟩:=hqz.load (by decide) (show (qcs.zip f.cX)[i]? =some (_,p) by rw[List.getElem?_zip_eq_some];exact⟨On,hp⟩);have VL:cs2=[.int .i64 p.1,.int .i64 p.2.1,.bool g0,.slice g1 g2 g3,.bool g4,.slice g5 g6 g7]:=VL;subst VL;refine⟨adx,PC,by omega,[.bool g0,.slice g1 g2 g3,.bool g4,.slice g5 g6 g7],rfl,fun O w' r j u hu=>?_,?_⟩
  ·have hj4:=(aD.1 hu).1;obtain⟨k1,k2⟩:=QJ (2+j) u (by rcases j with _|_|_|_|j<;>first|exact hu|(have:j+4<4:=hj4;omega));rw[cH (w:=w) (w2:=w') (by simp only[dN];exact(hw.tr r.cQ).block _ (hS _ k1))];simp only[aE,k7]at k2 ⊢
   first|exact k2|(rw [<-k2];congr 2;omega)
  refine cF (cE hw (fun _ w' v w2=>∃d,v= .bool d∧(d=true->yA [.bool g0,.slice g1 g2 g3,.bool g4,.slice g5 g6 g7])) (fun O w' r=>(II (S:=fun g=>g=(O 1).g) (css:=[[.bool g0,.slice g1 g2 g3,.bool g4,.slice g5 g6 g7]]) (fun g hg=>by subst hg;exact Rel.lt r (id:=1) rfl) (r.qU (id:=1) (sz:=4) (n:=1) rfl rfl (by decide) (by repeat' first|refine List.forall_mem_cons.2 ⟨rfl,?_⟩|exact fun u hu=>absurd hu List.not_mem_nil)) (fun cs hc=>by rw[bB.1 hc];exact⟨_,_,_,_,_,_,_,_,rfl⟩)).mono fun _ _ ⟨v2,e1,e2,d,e3,e4⟩=>⟨v2,e1,e2,d,e3,fun h=>(e4 h).2 _ aG⟩) ?_);rintro O Pg v1 PS OJ r he hw h_ ⟨d2,rfl,Oq⟩
  cases d2
  ·exact rtn hw fun ρe we re=>⟨_,rfl,fun h=>by cases h⟩
  have OT:∀j cs,j<i+1->qcs[j]? =some cs->yA (cs.drop 2):=fun j cs hj hc=>by
   rcases aP j i with h|h
   ·exact hQ j cs h hc
   ·have:j=i:=by omega
    subst this;rw[On]at hc;injection hc with hc;subst hc;exact Oq rfl
  refine⟨((i+1:Nat):Int),wo,?_⟩;intro ρ3 w6 r3;exact⟨(i+1,w6,_),⟨OC,hw.tr r3.cQ,OT⟩,Sub.gn [] r3,by dsimp only;omega⟩
 have OC:i=f.cX.length:=aO hi (by simpa using OC);subst OC;obtain⟨kb,kb2⟩:=NS.of RS hbQ PX hB;obtain⟨kq,kq2⟩:=NS.of hq4 hqQ UM hQ;have hR:dU w S (.slice an f.nodes.length cn) (.slice ab f.bars.length cb) (.slice aq f.cX.length cq) f.val:=⟨hf.nodes,kb,kq⟩
 refine cF (cE hw (fun _ w' v w2=>v= .int .i64 (eL f.val)) (fun O w' r=>Fg (oS hS r) (hR.cJ (kS hw r hS))) ?_);rintro O _ _ _ OJ r he hw h_ rfl;obtain⟨e,he⟩:∃e,eL f.val=e:=⟨_,rfl⟩
 rw[he];refine dK.mk ?_ ?_<;>intro hd
 ·have hd:e≠0:=by simpa using hd
  exact rtn hw fun ρe we re=>⟨_,rfl,fun _=>⟨hR,kb2,kq2,.inl hd⟩⟩
 have hd:e=0:=by simpa using hd
 refine dK.mk ?_ ?_<;>intro h4
 ·have h4:=aI h4;exact rtn hw fun ρe we re=>⟨_,rfl,fun h=>⟨hR,kb2,kq2,.inr ⟨by show f.nodes.length<=4;omega,by show(f.bars.map HJ).length<=6;rw[aK];have:=aI h;omega⟩⟩⟩
 exact rtn hw fun ρe we re=>⟨_,rfl,fun h=>by cases h⟩
section
variable{xs:List Rat}{l:List (Rat×Rat)}{i:Nat}{x:Rat}{r:Rat×Rat}
end
theorem me(hf:dU w S vn vb vs f)(h60:f.bars.length<=60∧f.cX.length<=60):eA PG N.pj #[.agg #[vn,vb,vs]] w (eF w fun v' _=>v'= .int .i64 f.cols):=by
 have hw:=bR w;obtain⟨an,cn,ab,cb,aq,cq,rfl,rfl,rfl,Q1,Qh,RN⟩:=hf.shape;refine uD (by simp) ?_;refine⟨((f.bars.length+f.cX.length:Nat):Int),wo,?_⟩;exact rtn hw fun ρe we re=>rfl
section
variable{S:Nat->Prop}{w w1 w':World}{H:Hp}{nx:Nat}{iv:Iv}{O:Nat->Sx.dx}
theorem JL{f:HI}(hS:Old S w)(hw:eE w.heap.size w w1)(r:Rel H nx iv w.heap.size w1 O w')(hf:qV w S vn vb vs f):eA PG N.po #[.agg #[vn,vb,vs]] w' (eF w' fun v' _=>∃d,v'= .bool d∧
  (d=true->dU w S vn vb vs f.val∧(∀b∈f.val.bars,rl b.2.2<=3)∧(∀b∈f.val.cX,rl b.2.2<=3)∧(eL f.val≠0∨f.val.nodes.length<=4∧f.val.bars.length<=6))):=
 have hk:∀g,S g->w'.heap[g]? =w.heap[g]? :=fun g hg=>(hw.tr r.cQ).block g (hS g hg)
 (LR (S:=S) (oS hS r) (hf.cJ hk)).mono fun _ _ ⟨v2,e1,e2,d,e3,e4⟩=>⟨v2,e1,e2,d,e3,fun h=>⟨(e4 h).1.cJ fun g hg=>(hk g hg).symm,(e4 h).2⟩⟩
end
end Go.Ex
namespace Go.Ex
end Go.Ex
namespace Go.Ex
open Go Go.Sx Go.Proofs
variable{b:Int×Int×Rat}{S:Nat->Prop}{f:fA}
theorem JM{n:Nat}(h:n<9223372036854775807):ln n<=2:=by have:=lr (n:=(n:Int)) (by omega) (by omega);rwa [Int.natAbs_natCast]at this
theorem LU(h:eL f=0)(hb:b∈f.bars):b.1≠b.2.1∧0<b.2.2:=by
 obtain⟨_,_,QG,_⟩:=vE h;obtain⟨k,hk⟩:=aS hb;have:=nK.1 (ic QG k b hk);exact⟨this.2.1,this.2.2.2⟩
structure aBA{α:Type}(k:Nat)(P:World->(Nat->Prop)->List Value->α->Prop)(w:World)(S:Nat->Prop)(css:List (List Value))(qs:List α):Prop where
 len:css.length=qs.length
 wid:∀cs∈css,cs.length=k
 at_:∀(j:Nat) cs q,css[j]? =some cs->qs[j]? =some q->P w S cs q
section
variable{α:Type}{k:Nat}{P:World->(Nat->Prop)->List Value->α->Prop}{w w2:World}{S S':Nat->Prop}{css:List (List Value)}{qs:List α}
end
theorem IJ{n:Int}(h:n.natAbs<9223372036854775807):rl (n:Rat)<=2:=by
 have h2:ln n.natAbs<=2:=JM h;unfold rl;rw[Rat.num_intCast,Rat.den_intCast];have h3:ln 1=1:=by decide
 omega
set_option maxHeartbeats 1000000 in
theorem BW{w:World}{vn vb vs:Value}{i:Nat}(hS:Old S w)(hf:dU w S vn vb vs f)(OF:uU f)(hb:f.bars[i]? =some b):
  eA PG N.nR #[.agg #[vn,vb,vs],.int .i64 i] w (eF w fun v' _=>v'= .agg #[.int .i64 ((f.node b.2.1).1-(f.node b.1).1),.int .i64 ((f.node b.2.1).2.1-(f.node b.1).2.1),.int .i64 ((f.node b.2.1).2.2-(f.node b.1).2.2)]):=by
 have hw:=bR w;obtain⟨an,cn,ab,cb,aq,cq,rfl,rfl,rfl,Q1,Qh,RN⟩:=hf.shape;obtain⟨TR,SY,SZ⟩:=And.intro OF.n (And.intro OF.b OF.s);have OC:=(aD.1 hb).1;obtain⟨hA,hB⟩:=OF.Ma b (aC hb);obtain⟨ka,pa,ea,hka,hpa,VG,⟨_,_⟩,⟨_,_⟩,⟨_,_⟩⟩:=OF.node hA.1 hA.2;obtain⟨kb,pb,eb,OH,Um,VH,⟨_,_⟩,⟨_,_⟩,⟨_,_⟩⟩:=OF.node hB.1 hB.2;obtain⟨adx,csx,PC,Qn,-,Oa⟩:=hf.bars.load (by decide) hb;obtain⟨g0,g1,g2,g3,g4,g5,g6,g7,rfl,-⟩:=Qn;obtain⟨ada,csa,haa,hPa,-,PW⟩:=hf.nodes.load (by decide) hpa;obtain⟨adb,csb,Pf,hPb,-,Od⟩:=hf.nodes.load (by decide) Um;have hPa:csa=[.int .i64 pa.1,.int .i64 pa.2.1,.int .i64 pa.2.2]:=hPa;have hPb:csb=[.int .i64 pb.1,.int .i64 pb.2.1,.int .i64 pb.2.2]:=hPb;subst hPa hPb;rw[VG,VH];rw[ea,eb]at Oa;refine rK (by simp) ?_;refine il hτ df (.x 0 (.x 2 (.x 4 (.x 10 (.x 12 (.x 14 (.ld 1 12583680 (.ld 3 12583904 (.x 5 (.x 6 (.ld 7 12583680 (.x 8 (.ld 9 12582912 (.ld 11 9175040 (.ld 13 9404416 (.x 15 (.x 16 (.ld 17 9175040 (.x 18 (.ld 19 8388608 (.two 20 (.x 21 (.x 22 (.x 23 .nil))) 21 (.x 20 (.x 22 (.x 23 .nil)))))))))))))))))))))))) (by kernel_rfl) (by kernel_rfl) ?_;refine⟨adx,PC,by omega,.int .i64 (ka:Int),fun O w' r=>?_,?_⟩
 ·obtain⟨k1,k2⟩:=Oa 0 _ rfl;rw[cH (w:=w) (w2:=w') (by simp only[dN];exact(hw.tr r.cQ).block _ (hS _ k1))];simp only[aE,k7]at k2 ⊢;exact k2
 refine⟨ada,haa,by omega,[.int .i64 pa.1,.int .i64 pa.2.1,.int .i64 pa.2.2],rfl,rdO PW hw hS,adx,PC,by omega,.int .i64 (kb:Int),fun O w' r=>?_,?_⟩
 ·obtain⟨k1,k2⟩:=Oa 1 _ rfl;rw[cH (w:=w) (w2:=w') (by simp only[dN];exact(hw.tr r.cQ).block _ (hS _ k1))];simp only[aE,k7]at k2 ⊢;exact k2
 refine⟨adb,Pf,by omega,[.int .i64 pb.1,.int .i64 pb.2.1,.int .i64 pb.2.2],rfl,rdO Od hw hS,?_,?_⟩
 ·conv=>whnf
  refine⟨[.int .i64 pb.1,.int .i64 pb.2.1,.int .i64 pb.2.2],rfl,rdO Od hw hS,rfl,.int .i64 (kb:Int),fun O w' r=>?_,?_⟩
  ·obtain⟨k1,k2⟩:=Oa 1 _ rfl;rw[cH (w:=w) (w2:=w') (by simp only[dN];exact(hw.tr r.cQ).block _ (hS _ k1))];simp only[aE,k7]at k2 ⊢;exact k2
  refine⟨rfl,rfl,rfl,[.int .i64 pa.1,.int .i64 pa.2.1,.int .i64 pa.2.2],rfl,rdO PW hw hS,rfl,.int .i64 (ka:Int),fun O w' r=>?_,?_⟩
  ·obtain⟨k1,k2⟩:=Oa 0 _ rfl;rw[cH (w:=w) (w2:=w') (by simp only[dN];exact(hw.tr r.cQ).block _ (hS _ k1))];simp only[aE,k7]at k2 ⊢;exact k2
  refine⟨rfl,rfl,rfl,[.int .i64 pb.1,.int .i64 pb.2.1,.int .i64 pb.2.2],rfl,rdO Od hw hS,rfl,.int .i64 (kb:Int),fun O w' r=>?_,?_⟩
  ·obtain⟨k1,k2⟩:=Oa 1 _ rfl;rw[cH (w:=w) (w2:=w') (by simp only[dN];exact(hw.tr r.cQ).block _ (hS _ k1))];simp only[aE,k7]at k2 ⊢;exact k2
  refine⟨rfl,rfl,rfl,[.int .i64 pa.1,.int .i64 pa.2.1,.int .i64 pa.2.2],rfl,rdO PW hw hS,rfl,.int .i64 (ka:Int),fun O w' r=>?_,?_⟩
  ·obtain⟨k1,k2⟩:=Oa 0 _ rfl;rw[cH (w:=w) (w2:=w') (by simp only[dN];exact(hw.tr r.cQ).block _ (hS _ k1))];simp only[aE,k7]at k2 ⊢;exact k2
  refine⟨rfl,rfl,rfl,[.int .i64 pb.1,.int .i64 pb.2.1,.int .i64 pb.2.2],rfl,rdO Od hw hS,rfl,.int .i64 (kb:Int),fun O w' r=>?_,?_⟩
  ·obtain⟨k1,k2⟩:=Oa 1 _ rfl;rw[cH (w:=w) (w2:=w') (by simp only[dN];exact(hw.tr r.cQ).block _ (hS _ k1))];simp only[aE,k7]at k2 ⊢;exact k2
  refine⟨rfl,rfl,rfl,pb.1-pa.1,wo,pb.2.1-pa.2.1,wo,pb.2.2-pa.2.2,wo,?_⟩;exact rtn hw fun ρe we re=>rfl
 ·conv=>whnf
  refine⟨[.int .i64 pb.1,.int .i64 pb.2.1,.int .i64 pb.2.2],rfl,rdO Od hw hS,rfl,.int .i64 (kb:Int),fun O w' r=>?_,?_⟩
  ·obtain⟨k1,k2⟩:=Oa 1 _ rfl;rw[cH (w:=w) (w2:=w') (by simp only[dN];exact(hw.tr r.cQ).block _ (hS _ k1))];simp only[aE,k7]at k2 ⊢;exact k2
  refine⟨rfl,rfl,rfl,[.int .i64 pa.1,.int .i64 pa.2.1,.int .i64 pa.2.2],rfl,rdO PW hw hS,rfl,.int .i64 (ka:Int),fun O w' r=>?_,?_⟩
  ·obtain⟨k1,k2⟩:=Oa 0 _ rfl;rw[cH (w:=w) (w2:=w') (by simp only[dN];exact(hw.tr r.cQ).block _ (hS _ k1))];simp only[aE,k7]at k2 ⊢;exact k2
  refine⟨rfl,rfl,rfl,[.int .i64 pb.1,.int .i64 pb.2.1,.int .i64 pb.2.2],rfl,rdO Od hw hS,rfl,.int .i64 (kb:Int),fun O w' r=>?_,?_⟩
  ·obtain⟨k1,k2⟩:=Oa 1 _ rfl;rw[cH (w:=w) (w2:=w') (by simp only[dN];exact(hw.tr r.cQ).block _ (hS _ k1))];simp only[aE,k7]at k2 ⊢;exact k2
  refine⟨rfl,rfl,rfl,[.int .i64 pa.1,.int .i64 pa.2.1,.int .i64 pa.2.2],rfl,rdO PW hw hS,rfl,.int .i64 (ka:Int),fun O w' r=>?_,?_⟩
  ·obtain⟨k1,k2⟩:=Oa 0 _ rfl;rw[cH (w:=w) (w2:=w') (by simp only[dN];exact(hw.tr r.cQ).block _ (hS _ k1))];simp only[aE,k7]at k2 ⊢;exact k2
  refine⟨rfl,rfl,rfl,[.int .i64 pb.1,.int .i64 pb.2.1,.int .i64 pb.2.2],rfl,rdO Od hw hS,rfl,.int .i64 (kb:Int),fun O w' r=>?_,?_⟩
  ·obtain⟨k1,k2⟩:=Oa 1 _ rfl;rw[cH (w:=w) (w2:=w') (by simp only[dN];exact(hw.tr r.cQ).block _ (hS _ k1))];simp only[aE,k7]at k2 ⊢;exact k2
  refine⟨rfl,rfl,rfl,pb.1-pa.1,wo,pb.2.1-pa.2.1,wo,pb.2.2-pa.2.2,wo,?_⟩;exact rtn hw fun ρe we re=>rfl
section
variable{S S':Nat->Prop}{H:Hp}{nx:Nat}{iv iv':Iv}{B:Nat}{w w' w2:World}{O:Nat->Sx.dx}{v:Value}{l:List (Rat×Rat)}
end
end Go.Ex
namespace Go.Ex
abbrev I3:=Int×Int×Int
def M4(p:I3):Prop:=nA p.1∧nA p.2.1∧nA p.2.2
instance (p : I3) : Decidable (M4 p) := by unfold M4; infer_instance
end Go.Ex
namespace Go.Ex
open Go Go.Sx Go.Proofs
end Go.Ex
namespace Go.Sx
open Go Go.Ex Go.Proofs
variable{vs:List Value}{O:Nat->Sx.dx}
theorem Sub.aAt{B nx:Nat}{l:Env}{H:Hp}{iv:Iv}{w w':World}{t:Bh}(id:Nat){bt:Nat}(Om:dF H id=some (.box bt (vs.map At.v)))(r:Rel H nx iv B w O w')
  (h:Rel ((id,.arr bt vs)::H) nx iv B w O w'->Sx.Sub B l nx O w' t):Sx.Sub B l nx O w' t:=by
 have hnn:=r.nn id _ Om (by intros;simp) (by simp);have Ov:=r.box id bt _ Om;have Qo:(vs.map At.v).map (At.den O)=vs:=by
  rw[List.map_map];exact List.map_id _
 rw[Qo]at Ov
 exact h (r.store (b':=.arr bt vs) (H':=(id,.arr bt vs)::H) (w2:=w') Om (by simp) hnn (fun j=>by
  rw[dJ];by_cases hj:id=j
  ·subst hj;simp
  ·rw[aJ hj,aJ (fun h=>hj h.symm)]) rfl rfl rfl rfl (fun _ _=>rfl) ⟨hnn,Ov⟩ trivial)
end Go.Sx
namespace Go.Ex
open Go Go.Sx Go.Proofs
abbrev aA8(x:Ld):Value:=.agg #[.int .i64 x.1,.int .i64 x.2.1,.int .i64 x.2.2.1,.int .i64 x.2.2.2]
end Go.Ex
namespace Go.Ex
open Go Go.Sx Go.Proofs
theorem JN(x:Ld)(w:World):eA PG N.tp #[aA8 x] w (eF w fun v' _=>∃d,v'= .bool d∧(d=true↔M4 x.2)):=by
 have hw:=bR w;obtain⟨x0,x1,x2,x3⟩:=x;refine xf (by simp) ?_;refine cF (cE hw (fun _ w' v w2=>∃d,v= .bool d∧(d=true↔ -1000000<=x1∧x1<=1000000)) (fun O w' r=>ll _ _ _ w') ?_);rintro O _ _ _ OJ r he hw h_ ⟨d0,rfl,OM⟩
 cases d0
 ·have OM:¬nA x1:=fun h=>by have:=OM.2 h;cases this
  exact rtn hw fun ρe we re=>⟨_,rfl,(fun h=>by cases h),fun h=>absurd h.1 OM⟩
 replace OM:nA x1:=OM.1 rfl;refine cF (cE hw (fun _ w' v w2=>∃d,v= .bool d∧(d=true↔ -1000000<=x2∧x2<=1000000)) (fun O w' r=>ll _ _ _ w') ?_);rintro O _ _ _ OG r he hw h_ ⟨d1,rfl,OR⟩
 cases d1
 ·have OR:¬nA x2:=fun h=>by have:=OR.2 h;cases this
  exact rtn hw fun ρe we re=>⟨_,rfl,(fun h=>by cases h),fun h=>absurd h.2.1 OR⟩
 replace OR:nA x2:=OR.1 rfl;refine cF (cE hw (fun _ w' v w2=>∃d,v= .bool d∧(d=true↔ -1000000<=x3∧x3<=1000000)) (fun O w' r=>ll _ _ _ w') ?_);rintro O _ _ _ ON r he hw h_ ⟨d2,rfl,Oq⟩
 cases d2
 ·have Oq:¬nA x3:=fun h=>by have:=Oq.2 h;cases this
  exact rtn hw fun ρe we re=>⟨_,rfl,(fun h=>by cases h),fun h=>absurd h.2.2 Oq⟩
 replace Oq:nA x3:=Oq.1 rfl;exact rtn hw fun ρe we re=>⟨_,rfl,fun _=>⟨OM,OR,Oq⟩,fun _=>rfl⟩
section
variable{S S':Nat->Prop}{H:Hp}{nx:Nat}{iv iv':Iv}{B:Nat}{w w' w2:World}{O:Nat->Sx.dx}{v:Value}{l:List Ld}
end
end Go.Ex
