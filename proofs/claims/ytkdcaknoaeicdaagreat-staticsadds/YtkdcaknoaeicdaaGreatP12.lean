/- A part of the proof: texts X145 to L34. Each tells its conditions in its theorems. -/
import Derived.Test.YtkdcaknoaeicdaaGreatP7
import Derived.Test.YtkdcaknoaeicdaaGreatP11
namespace Go.Ex
open Go Go.Sx Go.Proofs
variable{cs:Array Value}{iv:Iv}{xs:List (Int×Int×Int)}{css:List (List Value)}{l:List Int}{B i id:Nat}{S:Nat->Prop}{O:Nat->Sx.dU}{a:Option Addr}{v vb vn vs:Value}{w:World}{f:fT}
theorem dm{j:Nat}(h:cs[j]? =some v)(w:World):(part T.int cs j).run PG w= .ok v w:=by
 have:=(hτ T.int _ rfl).isAgg w;simp only[part,Sem.run_bind,this,Result.andThen]
 simp[h]
theorem eq_int(d:Nat)(a b:Int)(w:World):(Op.equalIn (d+1) T.int (.int .i64 a) (.int .i64 b)).run PG w= .ok (a==b) w:=by
 unfold Op.equalIn;simp[run_underlying ((hτ T.int _ rfl).i1 rfl)]
theorem JL(p0 p1 p2 q0 q1 q2:Int)(w:World):(Op.equal T.Node (.agg #[.int .i64 p0,.int .i64 p1,.int .i64 p2]) (.agg #[.int .i64 q0,.int .i64 q1,.int .i64 q2])).run PG w= .ok (decide (p0=q0∧p1=q1∧p2=q2)) w:=by
 have h:=run_underlying Tryz.underlying169;simp only[Op.equal,Op.maxDepth]
 unfold Op.equalIn;have a0:=dm (cs:= #[Value.int .i64 p0,Value.int .i64 p1,Value.int .i64 p2]) (j:=0) rfl;have a1:=dm (cs:= #[Value.int .i64 p0,Value.int .i64 p1,Value.int .i64 p2]) (j:=1) rfl;have a2:=dm (cs:= #[Value.int .i64 p0,Value.int .i64 p1,Value.int .i64 p2]) (j:=2) rfl;have b0:=dm (cs:= #[Value.int .i64 q0,Value.int .i64 q1,Value.int .i64 q2]) (j:=0) rfl;have b1:=dm (cs:= #[Value.int .i64 q0,Value.int .i64 q1,Value.int .i64 q2]) (j:=1) rfl;have b2:=dm (cs:= #[Value.int .i64 q0,Value.int .i64 q1,Value.int .i64 q2]) (j:=2) rfl;simp[h,a0,a1,a2,b0,b1,b2,eq_int 9998];by_cases h0:p0=q0
 ·by_cases h1:p1=q1
  ·by_cases h2:p2=q2<;>simp[h0,h1,h2]
  ·simp[h0,h1]
 ·simp[h0]
theorem JM(p0 p1 q0 q1:Int)(w:World):(Op.equal T.As (.agg #[.int .i64 p0,.int .i64 p1]) (.agg #[.int .i64 q0,.int .i64 q1])).run PG w= .ok (decide (p0=q0∧p1=q1)) w:=by
 have h:=run_underlying Tryz.underlying187;simp only[Op.equal,Op.maxDepth]
 unfold Op.equalIn;have a0:=dm (cs:= #[Value.int .i64 p0,Value.int .i64 p1]) (j:=0) rfl;have a1:=dm (cs:= #[Value.int .i64 p0,Value.int .i64 p1]) (j:=1) rfl;have b0:=dm (cs:= #[Value.int .i64 q0,Value.int .i64 q1]) (j:=0) rfl;have b1:=dm (cs:= #[Value.int .i64 q0,Value.int .i64 q1]) (j:=1) rfl;simp[h,a0,a1,b0,b1,eq_int 9998];by_cases h0:p0=q0
 ·by_cases h1:p1=q1<;>simp[h0,h1]
 ·simp[h0]
abbrev AT(p:Int×Int×Int):Value:=.agg #[.int .i64 p.1,.int .i64 p.2.1,.int .i64 p.2.2]
theorem Cn(p q:Int×Int×Int)(w:World)(o1 o2:Operand):(do eqGuard .eql T.Node o1 o2 (AT p) (AT q);binOp .eql T.Node (AT p) (AT q)).run PG w= .ok (.bool (decide (p=q))) w:=by
 have h:=JL p.1 p.2.1 p.2.2 q.1 q.2.1 q.2.2 w;simp[eqGuard,binOp,h];obtain⟨a,b,c⟩:=p;obtain⟨a2,b2,c2⟩:=q;by_cases h0:a=a2
 ·by_cases h1:b=b2
  ·by_cases h2:c=c2<;>simp[h0,h1,h2]
  ·simp[h0,h1]
 ·simp[h0]
def mT(k:Int×Int):Value:=.agg #[.int .i64 k.1,.int .i64 k.2]
theorem ox{a b:Int×Int}(h:mT a=mT b):a=b:=by
 unfold mT at h;injection h with h;have h1:=congrArg (fun x=>x[0]?) h;have h2:=congrArg (fun x=>x[1]?) h;simp at h1 h2;exact Prod.ext h1 h2
theorem GF(d:Nat)(a:Int)(em:Bool)(w:World):(Instr.checkKey em (d+1) T.int (.int .i64 a)).run PG w= .ok () w:=by
 unfold Instr.checkKey;simp[run_underlying ((hτ T.int _ rfl).i1 rfl)]
theorem Dy(p0 p1:Int)(em:Bool)(w:World):(Instr.checkKey em 10000 T.As (.agg #[.int .i64 p0,.int .i64 p1])).run PG w= .ok () w:=by
 have h:=run_underlying Tryz.underlying187;have a0:=dm (cs:= #[Value.int .i64 p0,Value.int .i64 p1]) (j:=0) rfl;have a1:=dm (cs:= #[Value.int .i64 p0,Value.int .i64 p1]) (j:=1) rfl;unfold Instr.checkKey;simp[h,a0,a1,GF 9998]
theorem wK:Gb PG T.As (fun v=>∃k,v=mT k) where
 desc:=⟨_,Tryz.underlying187⟩
 check:=fun w em v ⟨k,e⟩=>by subst e;exact Dy k.1 k.2 em w
 eq:=fun w a b ⟨p,e1⟩ ⟨q,e2⟩=>by
  subst e1 e2;refine⟨_,JM p.1 p.2 q.1 q.2 w,?_⟩;rw[decide_eq_true_iff];exact⟨fun h=>by rw[show p=q from Prod.ext h.1 h.2],fun h=>by have:=ox h;subst this;exact⟨rfl,rfl⟩⟩
theorem s9:PG.underlying T.vF=some (.map T.As T.bool):=Tryz.underlying185
theorem AU(w:World):(zeroValue T.bool).run PG w= .ok (.bool false) w:=by kernel_rfl
theorem Hn(ad:Option Addr)(k:Nat):ad.map (·.add (0*k))=ad:=by
 rw[Nat.zero_mul]
 cases ad with
 |none=>rfl
 |some a=>simp only[Option.map_some,Option.some.injEq];unfold Addr.add;split<;>simp_all
theorem eH.take{α:Type}{k:Nat}{P:World->(Nat->Prop)->List Value->α->Prop}{n c:Nat}{xs:List α}(h:eH k P w S (.slice a n c) xs)(hi:i<=xs.length):
  eH k P w S (.slice a i c) (xs.take i):=by
 obtain⟨css,⟨h0,h1,h2,a',c',e,h3,h4⟩,hl,hlk,hf⟩:=h;injection e with e1 e2 e3;subst e1 e2 e3;have hlen:(css.take i).length=i:=by rw[aW,hl];omega
 have hli:(xs.take i).length=i:=by rw[aW];omega
 have hsplit:css.flatten=(css.take i).flatten++(css.drop i).flatten:=by rw[<-List.flatten_append,List.take_append_drop]
 refine⟨css.take i,⟨by omega,?_,fun u hu=>h2 u (by rw[hsplit];exact List.mem_append_left _ hu),a,c,by rw[hli],by omega,fun j u hj=>h4 j u ?_⟩,by rw[hlen,hli],fun cs hc=>hlk cs (List.mem_of_mem_take hc),fun j cs x k1 k2=>?_⟩
 ·rw[pV fun cs hc=>hlk cs (List.mem_of_mem_take hc),hlen,hli]
 ·rw[hsplit,aK (aC.1 hj).1];exact hj
 ·have hj:=(aC.1 k1).1;rw[hlen]at hj;rw[bM hj]at k1 k2;exact hf j cs x k1 k2
theorem lh.cB{w2:World}(h:lh w S v xs)(hk:∀g,S g->w2.heap[g]? =w.heap[g]?):lh w2 S v xs:=eH.cB (w:=w) (fun _ _ h=>h) h hk
theorem BQ(hS:Old S w)(hn:lh w S vn xs)(p:Int×Int×Int):du PG N.fR #[vn,AT p] w (eD w fun v' _=>∃r,v'= .int .i64 r∧(-1<=r)∧(0<=r↔p∈xs)):=by
 have hw:cQ w.heap.size w w:=cQ.refl;obtain⟨an,cn,rfl,hcn,hmn⟩:=hn.shape;unfold maxLen at hmn;refine gv (by simp) ?_
 refine⟨Nat×World,fun z=>⟨[(0,.o (.v (.slice an xs.length cn))),(3,.o (.p 0 0)),(7,.o (.v (.int .i64 xs.length))),(8,.o (.v (.int .i64 ((z.1:Nat):Int))))],[(0,.box T.Node [.v (.int .i64 p.1),.v (.int .i64 p.2.1),.v (.int .i64 p.2.2)])],1,[],z.2⟩,fun z=>xs.length-z.1,
  fun z=>z.1<=xs.length∧cQ w.heap.size w z.2∧(p∈xs↔p∈xs.drop z.1),?_,?_⟩
 ·intro O w' r3;exact⟨(0,w'),⟨aP _,hw.tr r3.cI,Iff.rfl⟩,Sub.gn [] r3⟩
 rintro⟨i,w1⟩ ⟨hi,hw,hE⟩;dsimp only at hi hw hE ⊢;refine dH.mk (fun hib=>?_) (fun hib=>?_)
 ·have hib:i<xs.length:=by simpa using hib
  obtain⟨q,hx⟩:∃x,xs[i]? =some x:=⟨_,aA hib⟩
  have hdr:xs.drop i=q::xs.drop (i+1):=by rw[List.drop_eq_getElem_cons hib,(aC.1 hx).2]
  obtain⟨adx,cs,hax,hP,-,hlx⟩:=hn.load (by decide) hx;have hP:cs=[.int .i64 q.1,.int .i64 q.2.1,.int .i64 q.2.2]:=hP;subst hP;refine jD hτ df (.x 1 (.x 2 (.x 3 (.ld 0 32 (.ld 4 32 (.x 5 .nil)))))) (by kernel_rfl) (by kernel_rfl) ?_;refine⟨adx,hax,by omega,[.int .i64 q.1,.int .i64 q.2.1,.int .i64 q.2.2],rfl,rdO hlx hw hS,decide (p=q),fun O w o1 o2=>Cn p q w o1 o2,?_⟩;refine dH.mk (fun hd=>?_) (fun hd=>?_)
  ·have hd:p=q:=aH hd;intro ρe we re;exact⟨_,rfl,hw.tr re.cI,_,rfl,by omega,iff_of_true (by omega) (hE.2 (by rw[hdr,hd];exact aI))⟩
  have hd:p≠q:=aG hd;rw[hdr,List.mem_cons,or_iff_right hd]at hE;refine⟨((i+1:Nat):Int),wo,?_⟩;intro ρ3 w6 r3;exact⟨(i+1,w6),⟨hib,hw.tr r3.cI,hE⟩,Sub.gn [] r3,by dsimp only;omega⟩
 have hib:i=xs.length:=aQ hi (by simpa using hib);rw[hib,List.drop_length]at hE;intro ρe we re;exact⟨_,rfl,hw.tr re.cI,_,rfl,by omega,iff_of_false (by omega) fun h=>by cases hE.1 h⟩
theorem vX(hS:Old S w)(hn:lh w S vn xs)(p:Int×Int×Int):du PG N.ew #[vn,AT p] w (eD w fun v' _=>∃d,v'= .bool d∧(d=true↔p∈xs)):=by
 have hw:cQ w.heap.size w w:=cQ.refl;obtain⟨an,cn,rfl,hcn,hmn⟩:=hn.shape;refine gW (by simp) ?_;refine bu (cE hw (fun _ w' v w2=>∃r,v= .int .i64 r∧(-1<=r)∧(0<=r↔p∈xs)) (fun O w' r=>BQ (p:=p) (oS hS r) (lh.cB hn (kS hw r hS))) ?_);rintro O wa1 v1 wb1 iv1 r he hw h_ ⟨r0,rfl,hr0,hr1⟩;intro ρe we re;exact⟨_,rfl,hw.tr re.cI,_,rfl,by rw[decide_eq_true_iff];exact hr1⟩
def vY(w:World)(S:Nat->Prop)(g:Nat)(ks:List Value):Prop:=S g∧Bo w g ks
section
variable{S:Nat->Prop}{H:Hp}{nx:Nat}{iv iv':Iv}{B:Nat}{w w' w2:World}{O:Nat->Sx.dU}{g:Nat}{ks:List Value}
theorem vY.rel(h:vY w (Cv S B iv) g ks)(r:Rel H nx iv B w O w')(hS:∀g,S g->g<B):vY w' (Cv S B iv) g ks:=⟨h.1,h.2.cB (Rel.same r hS h.1)⟩
theorem vY.bz(h:vY w (Cv S B iv) g ks)(r:Rel H nx iv B w O w')(hS:∀g,S g->g<B)(he:Ext w' w2)(hm:∀p,p∈iv->p∈iv'):vY w2 (Cv S B iv') g ks:=
 ⟨h.1.mono hm,(h.rel r hS).2.cB (he.block g (Rel.old r hS g h.1))⟩
end
set_option maxHeartbeats 2000000 in
theorem Co(hS:Old S w)(hf:dY w S vn vb vs f):du PG N.qB #[.agg #[vn,vb,vs]] w (eD w fun v' _=>v'= .int .i64 (eK f)):=by
 have hw:cQ w.heap.size w w:=cQ.refl;obtain⟨an,cn,ab,cb,aq,cq,rfl,rfl,rfl,hmn,hmb,hms⟩:=hf.shape;obtain⟨_,_,hsh,hcn,_⟩:=hf.nodes.shape;injection hsh with e1 e2 e3;subst e1 e3;refine th (by simp) ?_;refine dH.mk (fun h0=>?_) (fun h0=>?_)
 ·have h0:=aH h0;intro ρe we re;exact⟨_,rfl,hw.tr re.cI,by show Value.int .i64 _=_;rw[eK,if_pos (by omega)]⟩
 have h0:=aG h0;refine dH.mk (fun h1=>?_) (fun h1=>?_)
 ·have h1:=aH h1;intro ρe we re;exact⟨_,rfl,hw.tr re.cI,by show Value.int .i64 _=_;rw[eK,if_pos (by omega)]⟩
 have h1:=aG h1;refine dH.mk (fun h2=>?_) (fun h2=>?_)
 ·have h2:=aH h2;intro ρe we re;exact⟨_,rfl,hw.tr re.cI,by show Value.int .i64 _=_;rw[eK,if_pos (by omega)]⟩
 have h2:=aG h2
 refine⟨Nat×World×Iv,fun z=>⟨[(1,.o (.p 0 0)),(30,.o (.v (.slice an f.nodes.length cn))),(31,.o (.v (.int .i64 f.nodes.length))),(32,.o (.v (.int .i64 ((z.1:Nat):Int))))],[(0,.box T.Frame [.v (.slice an f.nodes.length cn),.v (.slice ab f.bars.length cb),.v (.slice aq f.cS.length cq)])],1,z.2.2,z.2.1⟩,fun z=>f.nodes.length-z.1,
  fun z=>z.1<=f.nodes.length∧cQ w.heap.size w z.2.1∧dJ e7 [] f.nodes=dJ e7 (f.nodes.take z.1) (f.nodes.drop z.1),?_,?_⟩
 ·intro O w' r3;exact⟨(0,w',[]),⟨aP _,hw.tr r3.cI,rfl⟩,Sub.gn [] r3⟩
 rintro⟨i,w1,iv⟩ ⟨hi,hw,hE⟩;dsimp only at hi hw hE ⊢;refine dH.mk (fun hib=>?_) (fun hib=>?_)
 ·have hib:i<f.nodes.length:=by simpa using hib
  obtain⟨q,hx⟩:∃x,f.nodes[i]? =some x:=⟨_,aA hib⟩
  obtain⟨adx,cs,hax,hP,-,hlx⟩:=hf.nodes.load (by decide) hx;have hP:cs=[.int .i64 q.1,.int .i64 q.2.1,.int .i64 q.2.2]:=hP;subst hP;refine⟨adx,hax,by omega,[.int .i64 q.1,.int .i64 q.2.1,.int .i64 q.2.2],rfl,rdO hlx hw hS,?_⟩;refine bu (cE hw (fun _ w' v w2=>∃d,v= .bool d∧(d=true↔jn q.1)) (fun O w' r=>iN _ w') ?_);rintro O wa1 v1 wb1 iv1 r he hw h_ ⟨d0,rfl,hz0⟩
  cases d0
  ·have hz0:¬jn q.1:=fun h=>by have:=hz0.2 h;cases this
   intro ρe we re;exact⟨_,rfl,hw.tr re.cI,by show Value.int .i64 _=_;rw[eK,aF (by omega),if_pos (by rw[hE,cK hx (show e7 (f.nodes.take i) q=2 by rw[e7,aF (fun h=>hz0 h.1)]) (by decide)];decide),hE,cK hx (show e7 (f.nodes.take i) q=2 by rw[e7,aF (fun h=>hz0 h.1)]) (by decide)]⟩
  replace hz0:=hz0.1 rfl;refine bu (cE hw (fun _ w' v w2=>∃d,v= .bool d∧(d=true↔jn q.2.1)) (fun O w' r=>iN _ w') ?_);rintro O wa2 v2 wb2 iv2 r he hw h_ ⟨d1,rfl,hz1⟩
  cases d1
  ·have hz1:¬jn q.2.1:=fun h=>by have:=hz1.2 h;cases this
   intro ρe we re;exact⟨_,rfl,hw.tr re.cI,by show Value.int .i64 _=_;rw[eK,aF (by omega),if_pos (by rw[hE,cK hx (show e7 (f.nodes.take i) q=2 by rw[e7,aF (fun h=>hz1 h.2.1)]) (by decide)];decide),hE,cK hx (show e7 (f.nodes.take i) q=2 by rw[e7,aF (fun h=>hz1 h.2.1)]) (by decide)]⟩
  replace hz1:=hz1.1 rfl;refine bu (cE hw (fun _ w' v w2=>∃d,v= .bool d∧(d=true↔jn q.2.2)) (fun O w' r=>iN _ w') ?_);rintro O wa3 v3 wb3 iv3 r he hw h_ ⟨d2,rfl,hz2⟩
  cases d2
  ·have hz2:¬jn q.2.2:=fun h=>by have:=hz2.2 h;cases this
   intro ρe we re;exact⟨_,rfl,hw.tr re.cI,by show Value.int .i64 _=_;rw[eK,aF (by omega),if_pos (by rw[hE,cK hx (show e7 (f.nodes.take i) q=2 by rw[e7,aF (fun h=>hz2 h.2.2)]) (by decide)];decide),hE,cK hx (show e7 (f.nodes.take i) q=2 by rw[e7,aF (fun h=>hz2 h.2.2)]) (by decide)]⟩
  replace hz2:=hz2.1 rfl;refine jD hτ df (.x 0 (.x 2 (.ld 1 104 (.x 3 (.ld 4 96 (.x 5 (.x 6 .nil))))))) (by kernel_rfl) (by kernel_rfl) ?_;refine⟨⟨by omega,by omega,by omega⟩,an,i,cn,by rw[show ((0:Int).toNat*3)=0*3 from rfl,Hn];split<;>rfl,by simp,by simp,?_⟩;refine cE hw (fun _ w' v w2=>∃d,v= .bool d∧(d=true↔q∈f.nodes.take i)) (fun O w' r=>vX (p:=q) (oS hS r) (lh.cB (hf.nodes.take (Nat.le_of_lt hib)) (kS hw r hS))) ?_;rintro O wa4 v4 wb4 iv4 r he hw h_ ⟨d3,rfl,hz3⟩
  cases d3
  ·have hz3:q∉f.nodes.take i:=fun h=>by have:=hz3.2 h;cases this
   rw[eY hx (rC.2 ⟨⟨hz0,hz1,hz2⟩,hz3⟩)]at hE;refine⟨((i+1:Nat):Int),wo,?_⟩;intro ρ3 w6 r3;exact⟨(i+1,w6,_),⟨hib,hw.tr r3.cI,hE⟩,Sub.gn [] r3,by dsimp only;omega⟩
  replace hz3:=hz3.1 rfl;intro ρe we re;exact⟨_,rfl,hw.tr re.cI,by show Value.int .i64 _=_;rw[eK,aF (by omega),if_pos (by rw[hE,cK hx (show e7 (f.nodes.take i) q=12 by rw[e7,if_pos ⟨hz0,hz1,hz2⟩,if_pos hz3]) (by decide)];decide),hE,cK hx (show e7 (f.nodes.take i) q=12 by rw[e7,if_pos ⟨hz0,hz1,hz2⟩,if_pos hz3]) (by decide)]⟩
 have hib:i=f.nodes.length:=aQ hi (by simpa using hib);rw[fM (by omega)]at hE;refine uJ (fun O wa wb r hM0 hg hsz=>?_);have hw2:=(hw.tr r.cI).tr (cQ.grown hg (fun x e=>by cases e) r.bw);have hB:w.heap.size<=wa.heap.size:=r.bw;have hM:vY wb (Cf w ((wa.heap.size,wa.heap.size+1)::iv)) wa.heap.size []:=⟨.inr ⟨hB,_,_,aI,aE _,bl _⟩,hM0⟩
 generalize (wa.heap.size,wa.heap.size+1)::iv=iv2 at*
 obtain⟨gm,hgm⟩:∃gm,wa.heap.size=gm:=⟨_,rfl⟩
 rw[hgm]at hM ⊢;have hw:=hw2
 refine⟨Nat×World×Iv,fun z=>⟨[(1,.o (.p 0 0)),(5,.o (.v (.map (some gm)))),(64,.o (.v (.slice ab f.bars.length cb))),(65,.o (.v (.int .i64 f.bars.length))),(66,.o (.v (.int .i64 ((z.1:Nat):Int))))],[(0,.box T.Frame [.v (.slice an f.nodes.length cn),.v (.slice ab f.bars.length cb),.v (.slice aq f.cS.length cq)])],1,z.2.2,z.2.1⟩,fun z=>f.bars.length-z.1,
  fun z=>z.1<=f.bars.length∧cQ w.heap.size w z.2.1∧dJ (ed f.nodes.length) [] f.bars=dJ (ed f.nodes.length) (f.bars.take z.1) (f.bars.drop z.1)∧vY z.2.1 (Cf w z.2.2) gm ((f.bars.take z.1).map fun b=>mT (fm b)),?_,?_⟩
 ·intro O w' r3;exact⟨(0,w',iv2),⟨aP _,hw.tr r3.cI,rfl,hM.rel r3 (bs w)⟩,Sub.gn [] r3⟩
 rintro⟨i,w1,iv⟩ ⟨hi,hw,hE2,hM⟩;dsimp only at hi hw hE2 hM ⊢;refine dH.mk (fun hib=>?_) (fun hib=>?_)
 ·have hib:i<f.bars.length:=by simpa using hib
  obtain⟨b,hx⟩:∃b,f.bars[i]? =some b:=⟨_,aA hib⟩
  obtain⟨adb,cs,hab,hF,-,hlb⟩:=hf.bars.load (by decide) hx;obtain⟨g0,g1,g2,g3,g4,g5,g6,g7,rfl,hF⟩:=hF;refine⟨adb,hab,by omega,[.int .i64 b.1,.int .i64 b.2.1,.bool g0,.slice g1 g2 g3,.bool g4,.slice g5 g6 g7],rfl,rdO hlb hw hS,?_⟩;refine bu (cE hw (fun _ w' v w2=>∃d,v= .bool d∧(d=true↔iU f.nodes.length b.1)) (fun O w' r=>Dx _ w' _ _ _ _ _ _ _ _ _) ?_);rintro O wa1 v1 wb1 iv1 r he hw h_ ⟨d0,rfl,hz0⟩;replace hM:=hM.bz r (bs w) he (mC h_)
  cases d0
  ·have hz0:¬iU f.nodes.length b.1:=fun h=>by have:=hz0.2 h;cases this
   intro ρe we re;exact⟨_,rfl,hw.tr re.cI,by show Value.int .i64 _=_;rw[eK,aF (by omega),aF (by rw[hE];decide),if_pos (by rw[hE2,cK hx (show ed f.nodes.length (f.bars.take i) b=6 by rw[ed,aF (fun h=>hz0 h.1)]) (by decide)];decide),hE2,cK hx (show ed f.nodes.length (f.bars.take i) b=6 by rw[ed,aF (fun h=>hz0 h.1)]) (by decide)]⟩
  replace hz0:=hz0.1 rfl;refine bu (cE hw (fun _ w' v w2=>∃d,v= .bool d∧(d=true↔iU f.nodes.length b.2.1)) (fun O w' r=>Dx _ w' _ _ _ _ _ _ _ _ _) ?_);rintro O wa2 v2 wb2 iv2 r he hw h_ ⟨d1,rfl,hz1⟩;replace hM:=hM.bz r (bs w) he (mC h_)
  cases d1
  ·have hz1:¬iU f.nodes.length b.2.1:=fun h=>by have:=hz1.2 h;cases this
   intro ρe we re;exact⟨_,rfl,hw.tr re.cI,by show Value.int .i64 _=_;rw[eK,aF (by omega),aF (by rw[hE];decide),if_pos (by rw[hE2,cK hx (show ed f.nodes.length (f.bars.take i) b=6 by rw[ed,aF (fun h=>hz1 h.2)]) (by decide)];decide),hE2,cK hx (show ed f.nodes.length (f.bars.take i) b=6 by rw[ed,aF (fun h=>hz1 h.2)]) (by decide)]⟩
  replace hz1:=hz1.1 rfl;refine dH.mk (fun hab2=>?_) (fun hab2=>?_)
  ·have hab2:b.1=b.2.1:=by simpa using hab2
   intro ρe we re;exact⟨_,rfl,hw.tr re.cI,by show Value.int .i64 _=_;rw[eK,aF (by omega),aF (by rw[hE];decide),if_pos (by rw[hE2,cK hx (show ed f.nodes.length (f.bars.take i) b=3 by rw[ed,if_pos ⟨hz0,hz1⟩,if_pos hab2]) (by decide)];decide),hE2,cK hx (show ed f.nodes.length (f.bars.take i) b=3 by rw[ed,if_pos ⟨hz0,hz1⟩,if_pos hab2]) (by decide)]⟩
  have hab2:b.1≠b.2.1:=by simpa using hab2
  refine wi wK s9 AU rfl rfl (key:=mT (fm b)) (fun _=>rfl) ⟨_,rfl⟩ (fun k hk=>by obtain⟨x,_,rfl⟩:=aS.1 hk;exact⟨_,rfl⟩) (fun O w' r=>(hM.rel r (bs w)).2) (fun O w' d r hd=>?_);replace hw:=hw.tr r.cI;replace hM:=hM.rel r (bs w);replace hd:d=true↔fm b∈(f.bars.take i).map fm:=by
   rw[hd];constructor
   ·intro h;obtain⟨x,h1,h2⟩:=aS.1 h;exact aS.2 ⟨x,h1,ox h2⟩
   ·intro h;obtain⟨x,h1,h2⟩:=aS.1 h;exact aS.2 ⟨x,h1,congrArg mT h2⟩
  cases d
  ·have hdup:fm b∉(f.bars.take i).map fm:=fun h=>by have:=hd.2 h;cases this
   refine bu (cE hw (fun _ w' v w2=>v= .int .i64 (rs b.2.2)) (fun O w' r=>(Dq (oS hS r) (hF.v.cB (kS hw r hS)) (eX.zero (S:=S)).v).mono fun _ _ ⟨v2,e1,e2,e3⟩=>⟨v2,e1,e2,by rw[e3,ow]⟩) ?_);rintro O wa3 v3 wb3 iv3 r he hw h_ rfl;replace hM:=hM.bz r (bs w) he (mC h_);obtain⟨cf,hcf⟩:∃c,rs b.2.2=c:=⟨_,rfl⟩
   rw[hcf];refine dH.mk (fun hd2=>?_) (fun hd2=>?_)
   ·have hd2:b.2.2<=0:=by have:=aH hd2;rw[<-Rat.not_lt,<-nP];omega
    intro ρe we re;exact⟨_,rfl,hw.tr re.cI,by show Value.int .i64 _=_;rw[eK,aF (by omega),aF (by rw[hE];decide),if_pos (by rw[hE2,cK hx (show ed f.nodes.length (f.bars.take i) b=2 by rw[ed,if_pos ⟨hz0,hz1⟩,aF hab2,aF hdup,if_pos hd2]) (by decide)];decide),hE2,cK hx (show ed f.nodes.length (f.bars.take i) b=2 by rw[ed,if_pos ⟨hz0,hz1⟩,aF hab2,aF hdup,if_pos hd2]) (by decide)]⟩
   ·have hd2:0<b.2.2:=by have:=aG hd2;rw[<-nP];omega
    refine pq wK s9 rfl rfl (key:=mT (fm b)) (fun _=>rfl) rfl ⟨_,rfl⟩ (fun k hk=>by obtain⟨x,_,rfl⟩:=aS.1 hk;exact⟨_,rfl⟩) (fun h=>by
     obtain⟨x,h1,h2⟩:=aS.1 h
     exact hdup (aS.2 ⟨x,h1,ox h2⟩)) (fun O w' r=>⟨(hM.rel r (bs w)).2,Rel.not r (bs w) hM.1⟩) (fun O wa wb r hM2 hg hsz=>?_)
    replace hw:=(hw.tr r.cI).tr (cQ.grown hg (fun x e=>by injection e with e;subst e;exact hM.1.elim (fun h=>h.elim) fun h=>h.1) r.bw);rw[show ((f.bars.take i).map fun b=>mT (fm b))++[mT (fm b)]=(f.bars.take (i+1)).map fun b=>mT (fm b) by rw[List.take_add_one,hx];simp]at hM2;replace hM:vY wb (Cf w iv3) gm ((f.bars.take (i+1)).map fun b=>mT (fm b)):=⟨hM.1,hM2⟩
    rw[eY hx (pR.2 ⟨⟨hz0,hz1⟩,hab2,hdup,hd2⟩)]at hE2;refine⟨((i+1:Nat):Int),wo,?_⟩;intro ρ3 w6 r3;exact⟨(i+1,w6,_),⟨hib,hw.tr r3.cI,hE2,hM.rel r3 (bs w)⟩,Sub.gn [] r3,by dsimp only;omega⟩
  ·have hd:=hd.1 rfl;intro ρe we re;exact⟨_,rfl,hw.tr re.cI,by show Value.int .i64 _=_;rw[eK,aF (by omega),aF (by rw[hE];decide),if_pos (by rw[hE2,cK hx (show ed f.nodes.length (f.bars.take i) b=5 by rw[ed,if_pos ⟨hz0,hz1⟩,aF hab2,if_pos hd]) (by decide)];decide),hE2,cK hx (show ed f.nodes.length (f.bars.take i) b=5 by rw[ed,if_pos ⟨hz0,hz1⟩,aF hab2,if_pos hd]) (by decide)]⟩
 have hib:i=f.bars.length:=aQ hi (by simpa using hib);rw[fM (by omega)]at hE2;have hE1:=hE2;refine uJ (fun O wa wb r hM0 hg hsz=>?_);have hw2:=(hw.tr r.cI).tr (cQ.grown hg (fun x e=>by cases e) r.bw);have hB:w.heap.size<=wa.heap.size:=r.bw;have hM:vY wb (Cf w ((wa.heap.size,wa.heap.size+1)::iv)) wa.heap.size []:=⟨.inr ⟨hB,_,_,aI,aE _,bl _⟩,hM0⟩
 generalize (wa.heap.size,wa.heap.size+1)::iv=iv2 at*
 obtain⟨gm,hgm⟩:∃gm,wa.heap.size=gm:=⟨_,rfl⟩
 rw[hgm]at hM ⊢;have hw:=hw2
 refine⟨Nat×World×Iv,fun z=>⟨[(1,.o (.p 0 0)),(9,.o (.v (.map (some gm)))),(115,.o (.v (.slice aq f.cS.length cq))),(116,.o (.v (.int .i64 f.cS.length))),(117,.o (.v (.int .i64 ((z.1:Nat):Int))))],[(0,.box T.Frame [.v (.slice an f.nodes.length cn),.v (.slice ab f.bars.length cb),.v (.slice aq f.cS.length cq)])],1,z.2.2,z.2.1⟩,fun z=>f.cS.length-z.1,
  fun z=>z.1<=f.cS.length∧cQ w.heap.size w z.2.1∧dJ (ji f.nodes.length) [] f.cS=dJ (ji f.nodes.length) (f.cS.take z.1) (f.cS.drop z.1)∧vY z.2.1 (Cf w z.2.2) gm ((f.cS.take z.1).map fun b=>mT (iC b)),?_,?_⟩
 ·intro O w' r3;exact⟨(0,w',iv2),⟨aP _,hw.tr r3.cI,rfl,hM.rel r3 (bs w)⟩,Sub.gn [] r3⟩
 rintro⟨i,w1,iv⟩ ⟨hi,hw,hE2,hM⟩;dsimp only at hi hw hE2 hM ⊢;refine dH.mk (fun hib=>?_) (fun hib=>?_)
 ·have hib:i<f.cS.length:=by simpa using hib
  obtain⟨b,hx⟩:∃b,f.cS[i]? =some b:=⟨_,aA hib⟩
  obtain⟨adb,cs,hab,hF,-,hlb⟩:=hf.cS.load (by decide) hx;obtain⟨g0,g1,g2,g3,g4,g5,g6,g7,rfl,hF⟩:=hF;refine⟨adb,hab,by omega,[.int .i64 b.1,.int .i64 b.2.1,.bool g0,.slice g1 g2 g3,.bool g4,.slice g5 g6 g7],rfl,rdO hlb hw hS,?_⟩;refine bu (cE hw (fun _ w' v w2=>∃d,v= .bool d∧(d=true↔iU f.nodes.length b.1)) (fun O w' r=>Dx _ w' _ _ _ _ _ _ _ _ _) ?_);rintro O wa1 v1 wb1 iv1 r he hw h_ ⟨d0,rfl,hz0⟩;replace hM:=hM.bz r (bs w) he (mC h_)
  cases d0
  ·have hz0:¬iU f.nodes.length b.1:=fun h=>by have:=hz0.2 h;cases this
   intro ρe we re;exact⟨_,rfl,hw.tr re.cI,by show Value.int .i64 _=_;rw[eK,aF (by omega),aF (by rw[hE];decide),aF (by rw[hE1];decide),hE2,cK hx (show ji f.nodes.length (f.cS.take i) b=6 by rw[ji,aF hz0]) (by decide)]⟩
  replace hz0:=hz0.1 rfl;refine dH.mk (fun hx1=>?_) (fun hx1=>?_)
  ·have hx1:=aH hx1;intro ρe we re;exact⟨_,rfl,hw.tr re.cI,by show Value.int .i64 _=_;rw[eK,aF (by omega),aF (by rw[hE];decide),aF (by rw[hE1];decide),hE2,cK hx (show ji f.nodes.length (f.cS.take i) b=2 by rw[ji,if_pos hz0,aF (fun h=>by omega)]) (by decide)]⟩
  have hx1:=aG hx1;refine dH.mk (fun hx2=>?_) (fun hx2=>?_)
  ·have hx2:=aH hx2;intro ρe we re;exact⟨_,rfl,hw.tr re.cI,by show Value.int .i64 _=_;rw[eK,aF (by omega),aF (by rw[hE];decide),aF (by rw[hE1];decide),hE2,cK hx (show ji f.nodes.length (f.cS.take i) b=2 by rw[ji,if_pos hz0,aF (fun h=>by omega)]) (by decide)]⟩
  have hx2:=aG hx2;have hax:0<=b.2.1∧b.2.1<=2:=by omega
  refine wi wK s9 AU rfl rfl (key:=mT (iC b)) (fun _=>rfl) ⟨_,rfl⟩ (fun k hk=>by obtain⟨x,_,rfl⟩:=aS.1 hk;exact⟨_,rfl⟩) (fun O w' r=>(hM.rel r (bs w)).2) (fun O w' d r hd=>?_);replace hw:=hw.tr r.cI;replace hM:=hM.rel r (bs w);replace hd:d=true↔iC b∈(f.cS.take i).map iC:=by
   rw[hd];constructor
   ·intro h;obtain⟨x,h1,h2⟩:=aS.1 h;exact aS.2 ⟨x,h1,ox h2⟩
   ·intro h;obtain⟨x,h1,h2⟩:=aS.1 h;exact aS.2 ⟨x,h1,congrArg mT h2⟩
  cases d
  ·have hdup:iC b∉(f.cS.take i).map iC:=fun h=>by have:=hd.2 h;cases this
   refine bu (cE hw (fun _ w' v w2=>v= .int .i64 (rs b.2.2)) (fun O w' r=>(Dq (oS hS r) (hF.v.cB (kS hw r hS)) (eX.zero (S:=S)).v).mono fun _ _ ⟨v2,e1,e2,e3⟩=>⟨v2,e1,e2,by rw[e3,ow]⟩) ?_);rintro O wa2 v2 wb2 iv2 r he hw h_ rfl;replace hM:=hM.bz r (bs w) he (mC h_);obtain⟨cf,hcf⟩:∃c,rs b.2.2=c:=⟨_,rfl⟩
   rw[hcf];refine dH.mk (fun hd2=>?_) (fun hd2=>?_)
   ·have hd2:b.2.2<0:=by have:=aH hd2;rw[<-kg];omega
    intro ρe we re;exact⟨_,rfl,hw.tr re.cI,by show Value.int .i64 _=_;rw[eK,aF (by omega),aF (by rw[hE];decide),aF (by rw[hE1];decide),hE2,cK hx (show ji f.nodes.length (f.cS.take i) b=2 by rw[ji,if_pos hz0,if_pos hax,aF hdup,if_pos hd2]) (by decide)]⟩
   ·have hd2:0<=b.2.2:=by have:=aG hd2;rw[<-Rat.not_lt,<-kg];omega
    refine pq wK s9 rfl rfl (key:=mT (iC b)) (fun _=>rfl) rfl ⟨_,rfl⟩ (fun k hk=>by obtain⟨x,_,rfl⟩:=aS.1 hk;exact⟨_,rfl⟩) (fun h=>by
     obtain⟨x,h1,h2⟩:=aS.1 h
     exact hdup (aS.2 ⟨x,h1,ox h2⟩)) (fun O w' r=>⟨(hM.rel r (bs w)).2,Rel.not r (bs w) hM.1⟩) (fun O wa wb r hM2 hg hsz=>?_)
    replace hw:=(hw.tr r.cI).tr (cQ.grown hg (fun x e=>by injection e with e;subst e;exact hM.1.elim (fun h=>h.elim) fun h=>h.1) r.bw);rw[show ((f.cS.take i).map fun b=>mT (iC b))++[mT (iC b)]=(f.cS.take (i+1)).map fun b=>mT (iC b) by rw[List.take_add_one,hx];simp]at hM2;replace hM:vY wb (Cf w iv2) gm ((f.cS.take (i+1)).map fun b=>mT (iC b)):=⟨hM.1,hM2⟩
    rw[eY hx (pQ.2 ⟨hz0,hax,hdup,hd2⟩)]at hE2;refine⟨((i+1:Nat):Int),wo,?_⟩;intro ρ3 w6 r3;exact⟨(i+1,w6,_),⟨hib,hw.tr r3.cI,hE2,hM.rel r3 (bs w)⟩,Sub.gn [] r3,by dsimp only;omega⟩
  ·have hd:=hd.1 rfl;intro ρe we re;exact⟨_,rfl,hw.tr re.cI,by show Value.int .i64 _=_;rw[eK,aF (by omega),aF (by rw[hE];decide),aF (by rw[hE1];decide),hE2,cK hx (show ji f.nodes.length (f.cS.take i) b=5 by rw[ji,if_pos hz0,if_pos hax,if_pos hd]) (by decide)]⟩
 have hib:i=f.cS.length:=aQ hi (by simpa using hib);rw[fM (by omega)]at hE2;intro ρe we re;exact⟨_,rfl,hw.tr re.cI,by show Value.int .i64 _=_;rw[eK,aF (by omega),aF (by rw[hE];decide),aF (by rw[hE1];decide),hE2]⟩
theorem oy{vl:Value}{l:List Ld}(hS:Old S w)(hf:dY w S vn vb vs f)(hl:dG w S vl l):du PG N.kZ #[.agg #[vn,vb,vs],vl] w (eD w fun v' _=>v'= .int .i64 (iG f l)):=by
 have hw:cQ w.heap.size w w:=cQ.refl;obtain⟨an,cn,ab,cb,aq,cq,rfl,rfl,rfl,hmn,hmb,hms⟩:=hf.shape;obtain⟨al,cl,rfl,hcl,hml⟩:=hl.shape;refine ni (by simp) ?_;refine bu (cE hw (fun _ w' v w2=>v= .int .i64 (eK f)) (fun O w' r=>Co (oS hS r) (hf.cB (kS hw r hS))) ?_);rintro O wa1 v1 wb1 iv1 r he hw h_ rfl;obtain⟨c,hc⟩:∃c,eK f=c:=⟨_,rfl⟩
 rw[hc];refine dH.mk (fun hd=>?_) (fun hd=>?_)
 ·have hd:c≠0:=by simpa using hd
  intro ρe we re;exact⟨_,rfl,hw.tr re.cI,by show Value.int .i64 _=_;rw[iG,if_pos (by rw[hc];exact hd),hc]⟩
 have hd:c=0:=by simpa using hd
 refine bu (cE hw (fun _ w' v w2=>v= .int .i64 (jc f.nodes.length l)) (fun O w' r=>qM (oS hS r) (hl.cB (kS hw r hS))) ?_);rintro O wa2 v2 wb2 iv2 r he hw h_ rfl;intro ρe we re;exact⟨_,rfl,hw.tr re.cI,by show Value.int .i64 _=_;rw[iG,aF (by rw[hc,hd];decide)]⟩
structure Calm(f:fT)(h:Nat):Prop where
 ok:uo f
 c0:0<f.cols
 b2:BK (cM f) f.cols h
 a2:Ht (dF (cM f) f.cols).1 h
 st:kD (cM f) f.cols=[]
 hh:3*h<=90000
structure aAG(f:fT)(l:List Ld)(h:Nat)(x:List Rat):Prop where
 ok:iS f.nodes.length l
 b1:BK (jU (cM f) (dC (gL f l) (-1))) (f.cols+1) h
 x:mr (cM f) (dC (gL f l) (-1)) f.cols=some x
theorem lV(f:fT)(l:List Ld):(gL f l).length=3*f.nodes.length:=by rw[gL,dc,aL,iu]
theorem jO(a b:List Rat):(eh a b).length=a.length:=List.length_mapIdx ..
theorem KR{r s n:Nat}(h1:r*r<=n)(h2:n<(r+1)*(r+1))(h3:s*s<=n)(h4:n<(s+1)*(s+1)):r=s:=by
 rcases bm r s with h|h|h
 ·have:=Nat.mul_le_mul (show r+1<=s from h) (show r+1<=s from h);omega
 ·exact h
 ·have:=Nat.mul_le_mul (show s+1<=r from h) (show s+1<=r from h);omega
theorem JN(n:Nat)(w:World)(hn:n<4000000004000000001):du PG N.sK #[.int .i64 n] w (eD w fun v' _=>∃r:Nat,v'= .int .i64 r∧r*r<=n∧n<(r+1)*(r+1)):=by
 have hw:cQ w.heap.size w w:=cQ.refl;refine vS (by simp) ?_
 refine⟨Nat×Int×World,fun z=>⟨[(0,.o (.v (.int .i64 n))),(3,.o (.v (.int .i64 ((z.1:Nat):Int)))),(4,.o (.v (.int .i64 z.2.1)))],[],0,[],z.2.2⟩,fun z=>(z.2.1-z.1).toNat,
  fun z=>(z.1:Int)<=z.2.1∧z.2.1<=2000000000∧cQ w.heap.size w z.2.2∧z.1*z.1<=n∧(n:Int)<(z.2.1+1)*(z.2.1+1),?_,?_⟩
 ·intro O w' r3;exact⟨(0,2000000000,w'),⟨by simp,by simp,hw.tr r3.cI,by simp,by dsimp only;omega⟩,Sub.gn [] r3⟩
 rintro⟨lo,hi,w1⟩ ⟨hlh,hhi,hw,hlo,hup⟩;dsimp only at hlh hhi hw hlo hup ⊢;obtain⟨hi,rfl⟩:=Int.eq_ofNat_of_zero_le (show 0<=hi by omega);replace hup:n<(hi+1)*(hi+1):=by
  have h:((hi:Int)+1)*((hi:Int)+1)=(((hi+1)*(hi+1):Nat):Int):=by push_cast;rfl
  rw[h]at hup;omega
 refine dH.mk (fun hib=>?_) (fun hib=>?_)
 ·have hib:lo<hi:=by have:=aH hib;omega
  obtain⟨m,hm⟩:∃m,(lo+hi+1) / 2=m:=⟨_,rfl⟩
  have hm1:lo<m:=by omega
  have hm2:m<=hi:=by omega
  have hmm:m*m<=2000000000*2000000000:=Nat.mul_le_mul (by omega) (by omega);refine⟨((lo+hi:Nat):Int),wo,((lo+hi+1:Nat):Int),wo,by decide,(m:Int),by rw[show ((lo+hi+1:Nat):Int).tdiv 2=(((lo+hi+1) / 2:Nat):Int)from rfl,hm,wrap64]<;>omega,((m*m:Nat):Int),by rw[wrap64]<;>push_cast<;>first|rfl|omega,?_⟩;refine dH.mk (fun hd=>?_) (fun hd=>?_)
  ·have hd:m*m<=n:=by have:=aH hd;omega
   intro ρ3 w6 r3;exact⟨(m,hi,w6),⟨by dsimp only;omega,hhi,hw.tr r3.cI,hd,by dsimp only;rw[show ((hi:Int)+1)*((hi:Int)+1)=(((hi+1)*(hi+1):Nat):Int) by push_cast;rfl];omega⟩,Sub.gn [] r3,by dsimp only;omega⟩
  ·have hd:n<m*m:=by have:=aG hd;omega
   have hu3:(lo:Int)<=((m-1:Nat):Int):=by omega
   have hu4:((m-1:Nat):Int)<=2000000000:=by omega
   have hu2:(n:Int)<(((m-1:Nat):Int)+1)*(((m-1:Nat):Int)+1):=by rw[show ((m-1:Nat):Int)+1=m by omega];exact_mod_cast hd
   refine⟨((m-1:Nat):Int),wo,?_⟩;intro ρ3 w6 r3;exact⟨(lo,((m-1:Nat):Int),w6),⟨hu3,hu4,hw.tr r3.cI,hlo,hu2⟩,Sub.gn [] r3,by dsimp only;omega⟩
 have hib:lo=hi:=by have:=aG hib;omega
 subst hib;intro ρe we re;exact⟨_,rfl,hw.tr re.cI,_,rfl,hlo,hup⟩
theorem JO(n:Int)(w:World):du PG N.jd #[.int .i64 n] w (eD w fun v' _=>∃d,v'= .bool d∧(d=true↔0<=n∧n<=1000000)):=by
 have hw:cQ w.heap.size w w:=cQ.refl;refine mP (by simp) ?_;refine dH.mk (fun h1=>?_) (fun h1=>?_)
 ·intro ρe we re;have h1:=aH h1;exact⟨_,rfl,hw.tr re.cI,_,rfl,by rw[decide_eq_true_iff];exact⟨fun h=>⟨h1,h⟩,fun h=>h.2⟩⟩
 ·intro ρe we re;have h1:=aG h1;exact⟨_,rfl,hw.tr re.cI,_,rfl,(fun h=>by cases h),fun h=>absurd h.1 h1⟩
theorem Ho(sq st:Nat)(w:World)(h0:0<sq)(h1:st<=1000000):du PG N.qF #[.int .i64 sq,.int .i64 st] w (eD w fun v' w2=>∃r:Nat,r*r<=st*st*1000*1000 / sq∧st*st*1000*1000 / sq<(r+1)*(r+1)∧cP w2 (Nf w w2) v' (Rat.divInt r 1000)):=by
 have hw:cQ w.heap.size w w:=cQ.refl;have h2:st*st<=1000000*1000000:=Nat.mul_le_mul h1 h1;have h4:st*st*1000*1000 / sq<=st*st*1000*1000:=Nat.div_le_self _ _;obtain⟨m,hm⟩:∃m,st*st*1000*1000 / sq=m:=⟨_,rfl⟩
 refine tp (by simp) ?_;refine⟨((st*st:Nat):Int),by rw[wrap64]<;>push_cast<;>first|rfl|omega,((st*st*1000:Nat):Int),wo,((st*st*1000*1000:Nat):Int),wo,by omega,(m:Int),by rw[show ((st*st*1000*1000:Nat):Int).tdiv (sq:Int)=((st*st*1000*1000 / sq:Nat):Int)from rfl,hm,wrap64]<;>omega,?_⟩;refine bu (cE hw (fun _ w' v w2=>∃r:Nat,v= .int .i64 r∧r*r<=m∧m<(r+1)*(r+1)) (fun O w' r=>JN m w' (by omega)) ?_);rintro O wa1 v1 wb1 iv1 r he hw h_ ⟨rt,rfl,hr1,hr2⟩;have hrt:rt<=2000000000:=by
  rcases aO 2000000000 rt with h|h
  ·have:=Nat.mul_le_mul h h;omega
  ·exact h
 refine bu (cE hw (fun _ w' v w2=>∃r,v= .tuple #[r,.int .i64 0]∧cP w2 (Nf w' w2) r (Rat.divInt rt 1000)) (fun O w' r=>(Dz rt 1000 w' (by omega) (by omega) (by decide) (by decide)).mono fun _ _ ⟨v2,e1,e2,e3⟩=>⟨v2,e1,e2,e3.elim (fun k=>absurd k.1 (by decide)) fun h=>h.2⟩) ?_);rintro O wa2 v2 wb2 iv2 r he hw h_ ⟨q1,rfl,k1⟩;have hd:=k1.dB (S:=fun _=>False) r.bw (mN h_);obtain⟨s2_0a,s2_0b,s2_0c,s2_0d,s2_0e,s2_0f,s2_0g,s2_0h,rfl⟩:=hd.shape;intro ρe we re;exact⟨_,rfl,hw.tr re.cI,rt,hm▸hr1,hm▸hr2,hd.out re (bs w)⟩
theorem EA(sq st:Nat)(w:World)(h0:0<sq)(h2:sq<=20000000000000)(h1:st<=1000000):du PG N.qC #[.int .i64 sq,.int .i64 st] w (eD w fun v' w2=>∃vr,∃r:Nat,v'= .tuple #[vr,.int .i64 0]∧r*r<=st*st*1000*1000 / sq∧st*st*1000*1000 / sq<(r+1)*(r+1)∧cP w2 (Nf w w2) vr (Rat.divInt r 1000)):=by
 have hw:cQ w.heap.size w w:=cQ.refl;refine tj (by simp) ?_;refine dH.mk (fun k1=>absurd (aH k1) (by omega)) (fun _=>?_);refine dH.mk (fun k1=>absurd (aH k1) (by omega)) (fun _=>?_);refine bu (cE hw (fun _ w' v w2=>v= .bool true) (fun O w' r=>(JO st w').mono fun _ _ ⟨v2,e1,e2,d,e3,e4⟩=>⟨v2,e1,e2,by rw[e3,e4.2 ⟨by omega,by omega⟩]⟩) ?_);rintro O wa1 v1 wb1 iv1 r he hw h_ rfl;refine bu (cE hw (fun _ w' v w2=>∃r:Nat,r*r<=st*st*1000*1000 / sq∧st*st*1000*1000 / sq<(r+1)*(r+1)∧cP w2 (Nf w' w2) v (Rat.divInt r 1000)) (fun O w' r=>Ho sq st w' h0 h1) ?_);rintro O wa2 v2 wb2 iv2 r he hw h_ ⟨rt,hr1,hr2,k1⟩;have hd:=k1.dB (S:=fun _=>False) r.bw (mN h_);obtain⟨s2_0a,s2_0b,s2_0c,s2_0d,s2_0e,s2_0f,s2_0g,s2_0h,rfl⟩:=hd.shape;intro ρe we re;exact⟨_,rfl,hw.tr re.cI,_,rt,rfl,hr1,hr2,hd.out re (bs w)⟩
set_option maxRecDepth 100000
def Kt(m:Nat):List Value:=[.int .i64 ((m / 3:Nat):Int),.int .i64 ((m % 3:Nat):Int),.bool false,.slice none 0 0,.bool false,.slice none 0 0]
def qN(m:Nat):List (List Value):=(List.range m).map Kt
theorem EB{k:Nat}(hk:k<3):(qN (3*i+k)).flatten++[.int .i64 (i:Int),.int .i64 (k:Int),.bool false,.slice none 0 0,.bool false,.slice none 0 0]=(qN (3*i+(k+1))).flatten:=by
 rw[qN,qN,<-Nat.add_assoc,bT,List.map_append,List.flatten_append];simp only[List.map_cons,List.map_nil,Kt,show(3*i+k) / 3=i by omega,show(3*i+k) % 3=k by omega]
 simp
theorem GG(m:Nat):(qN m).length=m:=by rw[qN,aL,List.length_range]
theorem GH(m:Nat):∀cs∈qN m,cs.length=6:=fun cs hc=>by
 obtain⟨j,_,rfl⟩:=aS.1 hc;rfl
theorem eX.zeroV:eX w S (.agg #[.bool false,.slice none 0 0,.bool false,.slice none 0 0]) 0:=eX.zero
theorem uB(w:World):du PG N.qD #[] w (eD w fun v' w2=>∃vn vb vs,v'= .agg #[vn,vb,vs]∧dY w2 (Nf w w2) vn vb vs fD):=by
 have hw:cQ w.heap.size w w:=cQ.refl;refine tk (by simp) ?_;refine bu (cE hw (fun _ w' v w2=>cP w2 (Nf w' w2) v ((1:Int):Rat)) (fun O w' r=>oz 1 w' (by decide)) ?_);rintro O wa1 v1 wb1 iv1 r he hw h_ hn;have hd:=hn.dB (S:=fun _=>False) r.bw (mN h_);obtain⟨s1_0,s1_1,s1_2,s1_3,s1_4,s1_5,s1_6,s1_7,rfl⟩:=hd.shape;conv=>whnf
 refine⟨Nat×World,fun z=>⟨[(0,.o (.p 0 0)),(2,.o (.p 4 0)),(3,.o (.v (.int .i64 ((z.1:Nat):Int))))],[(5,.vec T.wH 6 (qN (3*z.1)).flatten),(4,.box T.Frame [.s 2 0 3 3,.s 3 0 2 2,.w 5 (3*z.1)]),(3,.box T.LI [.v (.int .i64 0),.v (.int .i64 2),.v (.bool s1_0),.v (.slice s1_1 s1_2 s1_3),.v (.bool s1_4),.v (.slice s1_5 s1_6 s1_7),.v (.int .i64 1),.v (.int .i64 2),.v (.bool s1_0),.v (.slice s1_1 s1_2 s1_3),.v (.bool s1_4),.v (.slice s1_5 s1_6 s1_7)]),(2,.box T.Node [.v (.int .i64 0),.v (.int .i64 0),.v (.int .i64 0),.v (.int .i64 0),.v (.int .i64 0),.v (.int .i64 4),.v (.int .i64 3),.v (.int .i64 0),.v (.int .i64 0)]),(0,.box T.Frame [.v (.slice none 0 0),.v (.slice none 0 0),.v (.slice none 0 0)])],6,iv1,z.2⟩,fun z=>2-z.1,
  fun z=>z.1<=2∧cQ w.heap.size w z.2∧cP z.2 (Cf w iv1) (.agg #[.bool s1_0,.slice s1_1 s1_2 s1_3,.bool s1_4,.slice s1_5 s1_6 s1_7]) ((1:Int):Rat),?_,?_⟩
 ·intro O w' r;exact⟨(0,w'),⟨aP _,hw.tr r.cI,hd.rel r (bs w)⟩,Sub.zO 4 2 T.wH 6 rfl rfl (by simp[ko,SV.sc,At.sc,gM]) r fun ρ1 r1=>Sub.gn [] r1⟩
 rintro⟨i,w1⟩ ⟨hi,hw,hd⟩;dsimp only at hi hw hd ⊢;conv=>whnf
 refine dH.mk (fun hib=>?_) (fun hib=>?_)
 ·have hib:i<2:=by have:=aH hib;omega
  refine⟨Nat×World,fun z=>⟨[(0,.o (.p 0 0)),(2,.o (.p 4 0)),(3,.o (.v (.int .i64 ((i:Nat):Int)))),(4,.o (.v (.int .i64 ((z.1:Nat):Int))))],[(5,.vec T.wH 6 (qN (3*i+z.1)).flatten),(4,.box T.Frame [.s 2 0 3 3,.s 3 0 2 2,.w 5 (3*i+z.1)]),(3,.box T.LI [.v (.int .i64 0),.v (.int .i64 2),.v (.bool s1_0),.v (.slice s1_1 s1_2 s1_3),.v (.bool s1_4),.v (.slice s1_5 s1_6 s1_7),.v (.int .i64 1),.v (.int .i64 2),.v (.bool s1_0),.v (.slice s1_1 s1_2 s1_3),.v (.bool s1_4),.v (.slice s1_5 s1_6 s1_7)]),(2,.box T.Node [.v (.int .i64 0),.v (.int .i64 0),.v (.int .i64 0),.v (.int .i64 0),.v (.int .i64 0),.v (.int .i64 4),.v (.int .i64 3),.v (.int .i64 0),.v (.int .i64 0)]),(0,.box T.Frame [.v (.slice none 0 0),.v (.slice none 0 0),.v (.slice none 0 0)])],6,iv1,z.2⟩,fun z=>3-z.1,
   fun z=>z.1<=3∧cQ w.heap.size w z.2∧cP z.2 (Cf w iv1) (.agg #[.bool s1_0,.slice s1_1 s1_2 s1_3,.bool s1_4,.slice s1_5 s1_6 s1_7]) ((1:Int):Rat),?_,?_⟩
  ·intro O w' r3;exact⟨(0,w'),⟨aP _,hw.tr r3.cI,hd.rel r3 (bs w)⟩,Sub.gn [] r3⟩
  rintro⟨k,w3⟩ ⟨hk,hw,hd⟩;dsimp only at hk hw hd ⊢;refine dH.mk (fun hkb=>?_) (fun hkb=>?_)
  ·have hkb:k<3:=by have:=aH hkb;omega
   have hs:=EB (i:=i) hkb;have hfl:=pV (GH (3*i+k));have hsl:=GG (3*i+k);refine .inl ?_;refine⟨by omega,by omega,by unfold maxLen;omega,((k+1:Nat):Int),wo,?_⟩;intro ρ3 w6 r3;exact⟨(k+1,w6),⟨hkb,hw.tr r3.cI,hd.rel r3 (bs w)⟩,Sub.gn [(5,7)] r3 ⟨by dsimp only;rw[<-hs];rfl,rfl,rfl,rfl,rfl,trivial⟩,by dsimp only;omega⟩
  have hkb:k=3:=by have:=aG hkb;omega
  subst hkb;refine⟨((i+1:Nat):Int),wo,?_⟩;intro ρ3 w6 r3;exact⟨(i+1,w6),⟨hib,hw.tr r3.cI,hd.rel r3 (bs w)⟩,Sub.gn [] r3,by dsimp only;omega⟩
 have hib:i=2:=by have:=aG hib;omega
 subst hib;refine .inl ?_;refine⟨by decide,by decide,by decide,?_⟩;intro ρe we re;have hN:∀{id:Nat} {bk:jS},cY _ id=some bk->(ρe id).nil=false->Nf w we (ρe id).g:=fun h hn=>by
  obtain⟨h1,h2⟩:=re.low _ _ h hn;exact .inr ⟨h1,h2⟩
 have hR:=hd.out re (bs w);have hL:eX we (Nf w we) (.agg #[.bool s1_0,.slice s1_1 s1_2 s1_3,.bool s1_4,.slice s1_5 s1_6 s1_7]) 1:=hR.l (by decide);refine⟨_,rfl,hw.tr re.cI,_,_,_,rfl,?_,?_,?_⟩
 ·refine⟨[[.int .i64 0,.int .i64 0,.int .i64 0],[.int .i64 0,.int .i64 0,.int .i64 4],[.int .i64 3,.int .i64 0,.int .i64 0]],(re.lj (id:=2) (sz:=3) (n:=3) rfl rfl (by decide) (by repeat' first|refine List.forall_mem_cons.2 ⟨rfl,?_⟩|exact fun u hu=>absurd hu List.not_mem_nil)).cC fun g hg=>by subst hg;exact hN (id:=2) rfl (re.nn 2 _ rfl (by intros;simp) (by simp)),rfl,by simp,fun j cs x h1 h2=>?_⟩;rcases j with _|_|_|j
  ·cases h1;cases h2;rfl
  ·cases h1;cases h2;rfl
  ·cases h1;cases h2;rfl
  ·cases h2
 ·refine⟨[[.int .i64 0,.int .i64 2,.bool s1_0,.slice s1_1 s1_2 s1_3,.bool s1_4,.slice s1_5 s1_6 s1_7],[.int .i64 1,.int .i64 2,.bool s1_0,.slice s1_1 s1_2 s1_3,.bool s1_4,.slice s1_5 s1_6 s1_7]],(re.lj (id:=3) (sz:=6) (n:=2) rfl rfl (by decide) (by repeat' first|refine List.forall_mem_cons.2 ⟨rfl,?_⟩|exact fun u hu=>absurd hu List.not_mem_nil)).cC fun g hg=>by subst hg;exact hN (id:=3) rfl (re.nn 3 _ rfl (by intros;simp) (by simp)),rfl,by simp,fun j cs x h1 h2=>?_⟩;rcases j with _|_|j
  ·cases h1;cases h2;exact⟨_,_,_,_,_,_,_,_,rfl,hL⟩
  ·cases h1;cases h2;exact⟨_,_,_,_,_,_,_,_,rfl,hL⟩
  ·cases h2
 ·refine⟨qN 6++[[.int .i64 2,.int .i64 1,.bool false,.slice none 0 0,.bool false,.slice none 0 0]],?_,rfl,by decide,fun j cs x h1 h2=>?_⟩
  ·have h5:=re.jq (id:=7) (sz:=6) (m:=7) rfl (by decide) (by decide) (by decide) (by decide);rw[List.flatten_append];exact h5.cC fun g hg=>.inr hg
  ·rcases j with _|_|_|_|_|_|_|j
   ·cases h1;cases h2;exact⟨_,_,_,_,_,_,_,_,rfl,eX.zeroV⟩
   ·cases h1;cases h2;exact⟨_,_,_,_,_,_,_,_,rfl,eX.zeroV⟩
   ·cases h1;cases h2;exact⟨_,_,_,_,_,_,_,_,rfl,eX.zeroV⟩
   ·cases h1;cases h2;exact⟨_,_,_,_,_,_,_,_,rfl,eX.zeroV⟩
   ·cases h1;cases h2;exact⟨_,_,_,_,_,_,_,_,rfl,eX.zeroV⟩
   ·cases h1;cases h2;exact⟨_,_,_,_,_,_,_,_,rfl,eX.zeroV⟩
   ·cases h1;cases h2;exact⟨_,_,_,_,_,_,_,_,rfl,eX.zeroV⟩
   ·cases h2
structure ec(w:World)(S:Nat->Prop)(css:List (List Value))(qs:List Rat):Prop where
 len:css.length=qs.length
 four:∀cs∈css,cs.length=4
 at_:∀(j:Nat) cs q,css[j]? =some cs->qs[j]? =some q->iT w S cs q
section
variable{S S':Nat->Prop}{H:Hp}{nx:Nat}{iv iv':Iv}{B:Nat}{w w' w2:World}{O:Nat->Sx.dU}{css:List (List Value)}{qs:List Rat}
theorem ec.nil:ec w S [] []:=⟨rfl,fun _ h=>(by cases h),fun _ _ _ h=>by cases h⟩
theorem ec.cB(h:ec w S css qs)(hk:∀g,S g->w2.heap[g]? =w.heap[g]?):ec w2 S css qs:=⟨h.len,h.four,fun j cs q h1 h2=>by
 obtain⟨b,a,n,c,b2,a2,n2,c2,e,hr⟩:=h.at_ j cs q h1 h2
 exact⟨b,a,n,c,b2,a2,n2,c2,e,hr.cB hk⟩⟩
theorem ec.cC(h:ec w S css qs)(hk:∀g,S g->S' g):ec w S' css qs:=⟨h.len,h.four,fun j cs q h1 h2=>by
 obtain⟨b,a,n,c,b2,a2,n2,c2,e,hr⟩:=h.at_ j cs q h1 h2
 exact⟨b,a,n,c,b2,a2,n2,c2,e,hr.cC hk⟩⟩
theorem ec.rel(h:ec w (Cv S B iv) css qs)(r:Rel H nx iv B w O w')(hS:∀g,S g->g<B):ec w' (Cv S B iv) css qs:=h.cB fun _ hg=>Rel.same r hS hg
theorem ec.bz(h:ec w (Cv S B iv) css qs)(r:Rel H nx iv B w O w')(hS:∀g,S g->g<B)(he:Ext w' w2)(hm:∀p,p∈iv->p∈iv'):ec w2 (Cv S B iv') css qs:=
 ((h.rel r hS).cB fun g hg=>he.block g (Rel.old r hS g hg)).cC fun _ hg=>hg.mono hm
theorem ec.push{cs:List Value}{q:Rat}(h:ec w S css qs)(hc:iT w S cs q)(h4:cs.length=4):ec w S (css++[cs]) (qs++[q]):=by
 refine⟨by simp[h.len],fun x hx=>?_,fun j x p h1 h2=>?_⟩
 ·rcases bK.1 hx with hx|hx
  ·exact h.four x hx
  ·rw[bD.1 hx];exact h4
 ·rcases aO j css.length with hi|hi
  ·rw[aK hi]at h1;rw[aK (by rw[<-h.len];exact hi)]at h2;exact h.at_ j x p h1 h2
  ·have hi0:j=css.length:=by have:=(aC.1 h1).1;simp at this;omega
   subst hi0;rw[aN (aE _),bH]at h1;rw[h.len,aN (aE _),bH]at h2;simp at h1 h2;subst h1 h2;exact hc
theorem ec.one(h:ec w S css qs):∀u∈css.flatten,u.oneCell'=true:=fun u hu=>by
 obtain⟨cs,hc,hu⟩:=List.mem_flatten.1 hu;obtain⟨j,hj⟩:=aR hc;obtain⟨_,_,_,_,_,_,_,_,rfl,_⟩:=h.at_ j cs _ hj (aA (by rw[<-h.len];exact(aC.1 hj).1));simp at hu;rcases hu with rfl|rfl|rfl|rfl<;>rfl
theorem ec.qz(h:ec w (Cv (fun _=>False) B iv) css qs)(r:Rel H nx iv B w O w')(hid:cY H id=some (.vec T.Rat 4 css.flatten))(h0:0<css.length)(hm:css.length<=maxLen):
  di w' (fun _=>False) B [(B,w'.heap.size)] ((SV.o (.w id css.length)).den O) css.length qs:=by
 have h2:=h.rel r (gu B);obtain⟨k1,k2,k3,k4⟩:=Kr r hid rfl h0 hm ⟨h2.len,h2.at_⟩;have hden:(SV.o (.w id css.length)).den O= .slice (some ⟨(O id).g,0,none⟩) css.length (O id).cap:=by simp[SV.den,At.den,k1]
 rw[hden];have key:∀g,Cv (fun _=>False) B iv g->Cv (fun _=>False) B [(B,w'.heap.size)] g:=fun g hg=>
  .inr ⟨hg.elim (fun h=>h.elim) fun h=>h.1,B,w'.heap.size,bD.2 rfl,hg.elim (fun h=>h.elim) fun h=>h.1,Rel.old r (gu B) g hg⟩
 refine⟨k4.cC fun g hg=>⟨key g hg,fun e=>?_⟩,fun g hg=>?_⟩
 ·injection e with e;exact Rel.not r (gu B) hg id _ hid k1 e
 ·injection hg with hg;subst hg;have:=(r.low id _ hid k1).2;exact .inr ⟨k2,B,w'.heap.size,bD.2 rfl,k2,this⟩
theorem ec.list(h:ec w S css qs)(hs:jN w S 4 v css.flatten css.length):cF w S v qs:=⟨css,h.len▸hs,h.len,h.four,h.at_⟩
end
theorem Cp(hS:Old S w)(hl:BN w S v l)(hl0:0<l.length)(hl2:l.length<=1000)(hb:∀z∈l,z.natAbs<1073741824):
  du PG N.sB #[v] w (eD w fun v' w2=>di w2 (fun _=>False) w.heap.size [(w.heap.size,w2.heap.size)] v' l.length (dc l)):=by
 have hw:cQ w.heap.size w w:=cQ.refl;obtain⟨al,cl,rfl,hcl,hml⟩:=hl.shape;unfold maxLen at hml;refine vH (by simp) ?_
 refine⟨Nat×List (List Value)×World×Iv,fun z=>⟨[(0,.o (.v (.slice al l.length cl))),(3,.o (.w 0 z.2.1.length)),(4,.o (.v (.int .i64 ((z.1:Nat):Int))))],[(0,.vec T.Rat 4 z.2.1.flatten)],1,z.2.2.2,z.2.2.1⟩,fun z=>l.length-z.1,
  fun z=>z.1<=l.length∧cQ w.heap.size w z.2.2.1∧ec z.2.2.1 (Cf w z.2.2.2) z.2.1 (dc (l.take z.1)),?_,?_⟩
 ·intro O w' r;exact⟨(0,[],w',[]),⟨aP _,hw.tr r.cI,ec.nil⟩,Sub.nil 3 T.Rat 4 rfl (by simp[ko,SV.sc,At.sc,gM]) r fun ρ1 r1=>Sub.gn [] r1⟩
 rintro⟨i,css,w1,iv⟩ ⟨hi,hw,hG⟩;dsimp only at hi hw hG ⊢;have hfl:=fu hG.four;have hcl2:css.length=i:=by rw[hG.len,dc,aL,aW];omega
 refine dH.mk (fun hib=>?_) (fun hib=>?_)
 ·have hib:i<l.length:=by simpa using hib
  obtain⟨z,hz⟩:∃z,l[i]? =some z:=⟨_,aA hib⟩
  have hzb:=hb z (aD hz);have hnx:dc (l.take (i+1))=dc (l.take i)++[(z:Rat)]:=by rw[dc,List.take_add_one,hz,List.map_append];rfl
  obtain⟨adx,hax,hSx,hlx⟩:=BN.at hl hz;refine⟨adx,hax,by omega,.int .i64 z,rd1 hlx hw (hS _ hSx),?_⟩;refine bu (cE hw (fun _ w' v w2=>cP w2 (Nf w' w2) v (z:Rat)) (fun O w' r=>oz z w' (by omega)) ?_);rintro O wa1 v1 wb1 iv1 r he hw h_ hn;replace hG:=hG.bz r (bs w) he (mC h_);have hd:=hn.dB (S:=fun _=>False) r.bw (mN h_);obtain⟨s1_0,s1_1,s1_2,s1_3,s1_4,s1_5,s1_6,s1_7,rfl⟩:=hd.shape;have hG2:=hG.push (cs:=[.bool s1_0,.slice s1_1 s1_2 s1_3,.bool s1_4,.slice s1_5 s1_6 s1_7]) (q:=(z:Rat)) ⟨_,_,_,_,_,_,_,_,rfl,hd⟩ rfl;rw[<-hnx]at hG2;have hfl2:css.flatten++([.bool s1_0,.slice s1_1 s1_2 s1_3,.bool s1_4,.slice s1_5 s1_6 s1_7]:List Value)=(css++([[.bool s1_0,.slice s1_1 s1_2 s1_3,.bool s1_4,.slice s1_5 s1_6 s1_7]]:List (List Value))).flatten:=by simp
  refine .inl ?_;refine⟨by omega,by omega,by unfold maxLen;omega,((i+1:Nat):Int),wo,?_⟩;intro ρ3 w3 r3;exact⟨(i+1,css++[[.bool s1_0,.slice s1_1 s1_2 s1_3,.bool s1_4,.slice s1_5 s1_6 s1_7]],w3,_),⟨hib,hw.tr r3.cI,hG2.rel r3 (bs w)⟩,Sub.gn [(0,2)] r3 ⟨by dsimp only;rw[<-hfl2];rfl,trivial⟩ ⟨rfl,by dsimp only;rw[List.length_append,List.length_singleton];rfl,rfl,trivial⟩,by dsimp only;omega⟩
 have hib:i=l.length:=aQ hi (by simpa using hib);subst hib;rw[bF]at hG;intro ρe we re;refine⟨_,rfl,hw.tr re.cI,?_⟩;have h5:=hG.qz re (id:=0) rfl (by omega) (by unfold maxLen;omega);have h6:css.length=l.length:=hcl2;rw[<-h6];exact h5
theorem dY.dB{w' w2:World}(h:dY w2 (Nf w' w2) vn vb vs f)(hB:B<=w'.heap.size)(hm:(w'.heap.size,w2.heap.size)∈iv):dY w2 (Cv (fun _=>False) B iv) vn vb vs f:=h.cC fun _ hg=>hg.dB hB hm
abbrev EC(a b c:Int):Value:=.agg #[.int .i64 a,.int .i64 b,.int .i64 c]
theorem KV(p0 p1 p2 q0 q1 q2:Int)(w:World):(Op.equal T.xt (EC p0 p1 p2) (EC q0 q1 q2)).run PG w= .ok (decide (p0=q0∧p1=q1∧p2=q2)) w:=by
 have h:=run_underlying Tryz.underlying68;simp only[Op.equal,Op.maxDepth]
 unfold Op.equalIn;have a0:=dm (cs:= #[Value.int .i64 p0,Value.int .i64 p1,Value.int .i64 p2]) (j:=0) rfl;have a1:=dm (cs:= #[Value.int .i64 p0,Value.int .i64 p1,Value.int .i64 p2]) (j:=1) rfl;have a2:=dm (cs:= #[Value.int .i64 p0,Value.int .i64 p1,Value.int .i64 p2]) (j:=2) rfl;have b0:=dm (cs:= #[Value.int .i64 q0,Value.int .i64 q1,Value.int .i64 q2]) (j:=0) rfl;have b1:=dm (cs:= #[Value.int .i64 q0,Value.int .i64 q1,Value.int .i64 q2]) (j:=1) rfl;have b2:=dm (cs:= #[Value.int .i64 q0,Value.int .i64 q1,Value.int .i64 q2]) (j:=2) rfl;simp[h,a0,a1,a2,b0,b1,b2,eq_int 9998];by_cases h0:p0=q0
 ·by_cases h1:p1=q1
  ·by_cases h2:p2=q2<;>simp[h0,h1,h2]
  ·simp[h0,h1]
 ·simp[h0]
theorem JP(p0 p1 p2 q0 q1 q2:Int)(w:World)(o1 o2:Operand):(do eqGuard .eql T.xt o1 o2 (EC p0 p1 p2) (EC q0 q1 q2);binOp .eql T.xt (EC p0 p1 p2) (EC q0 q1 q2)).run PG w= .ok (.bool (decide (p0=q0∧p1=q1∧p2=q2))) w:=by
 have h:=KV p0 p1 p2 q0 q1 q2 w;simp[eqGuard,binOp,h]
theorem FG{H:Hp}{nx:Nat}{w':World}(r:Rel H nx iv B w O w'){n:Nat}(h:cY H id=some (.box T.int (l.map fun z=>At.v (.int .i64 z))))(hn:l.length=n)(hm:n<=maxLen):
  BN w' (fun g=>g=(O id).g) (.slice (some ⟨(O id).g,0,none⟩) n n) l:=by
 subst hn;have h5:=r.lj (sz:=1) (n:=l.length) h (by simp) hm (fun u hu=>by obtain⟨z,_,rfl⟩:=aS.1 hu;rfl);rw[List.map_map]at h5;exact h5
def LY(cs:List Value):Prop:=∃b a n c b2 a2 n2 c2,cs=[.bool b,.slice a n c,.bool b2,.slice a2 n2 c2]
def ve(cs:List Value):Prop:=∃b a n c b2 a2 n2 c2,cs=[.bool b,.slice a n c,.bool b2,.slice a2 n2 c2]∧n<=3∧n2<=3
theorem Hs(a:Addr)(m n:Nat):(a.add m).add n=a.add (m+n):=by
 unfold Addr.add;split<;>split<;>simp_all<;>omega
theorem gb.l3{b1 b2:Bool}{a1 a2:Option Addr}{n1 n2 c1 c2:Nat}{a b:Int}(h:gb w S (.agg #[.bool b1,.slice a1 n1 c1,.bool b2,.slice a2 n2 c2]) a b)(hf:ve [.bool b1,.slice a1 n1 c1,.bool b2,.slice a2 n2 c2]):
  eX w S (.agg #[.bool b1,.slice a1 n1 c1,.bool b2,.slice a2 n2 c2]) (ratio a b)∧rl (ratio a b)<=3:=by
 obtain⟨_,_,_,_,_,_,_,_,e,k1,k2⟩:=hf;simp only[List.cons.injEq,Value.slice.injEq,Value.bool.injEq,and_true]at e;obtain⟨rfl,⟨rfl,rfl,rfl⟩,rfl,rfl,rfl,rfl⟩:=e;obtain⟨b1,l1,b2,l2,e,h1,h2⟩:=h;simp only[Value.agg.injEq,Array.mk.injEq,List.cons.injEq,Value.bool.injEq,and_true]at e;obtain⟨rfl,rfl,rfl,rfl⟩:=e;have g1:=h1.short k1;have g2:=h2.short k2;have r1:=g1.ln;have r2:=g2.ln;have hr:=gY a b;refine⟨⟨_,_,_,_,a,b,rfl,?_,?_,rfl⟩,by omega⟩
 ·obtain⟨ng,ls,i1,i2,i3⟩:=g1;exact⟨ng,ls,i1,i2,by omega⟩
 ·obtain⟨ng,ls,i1,i2,i3⟩:=g2;exact⟨ng,ls,i1,i2,by omega⟩
theorem FH(hS:Old S w)(hq:jN w S 4 v css.flatten css.length)(hF:∀cs∈css,LY cs):
  du PG N.uX #[v] w (eD w fun v' _=>∃d,v'= .bool d∧(d=true->css.length<=80∧∀cs∈css,ve cs)):=by
 have hw:cQ w.heap.size w w:=cQ.refl;have h4:∀cs∈css,cs.length=4:=fun cs hc=>by obtain⟨_,_,_,_,_,_,_,_,rfl⟩:=hF cs hc;rfl
 have hK:eH 4 (fun _ _ cs x=>cs=x) w S v css:=⟨css,hq,rfl,h4,fun j cs x h1 h2=>by rw[h1]at h2;injection h2⟩
 obtain⟨a,c,rfl,hc,hm⟩:=hK.shape;unfold maxLen at hm;refine yI (by simp) ?_
 refine⟨Nat×World,fun z=>⟨[(0,.o (.v (.slice a css.length c))),(3,.o (.v (.int .i64 ((z.1:Nat):Int))))],[],0,[],z.2⟩,fun z=>css.length-z.1,
  fun z=>z.1<=css.length∧cQ w.heap.size w z.2∧∀j cs,j<z.1->css[j]? =some cs->ve cs,?_,?_⟩
 ·intro O w' r3;exact⟨(0,w'),⟨aP _,hw.tr r3.cI,fun j cs hj=>absurd hj (Nat.not_lt_zero j)⟩,Sub.gn [] r3⟩
 rintro⟨i,w1⟩ ⟨hi,hw,hE⟩;dsimp only at hi hw hE ⊢;refine dH.mk (fun hib=>?_) (fun hib=>?_)
 ·have hib:i<css.length:=by simpa using hib
  refine dH.mk (fun h80=>?_) (fun h80=>?_)
  ·have h80:css.length<=80:=by have:=aH h80;omega
   obtain⟨cs,hcs⟩:∃cs,css[i]? =some cs:=⟨_,aA hib⟩
   obtain⟨g0,g1,g2,g3,g4,g5,g6,g7,rfl⟩:=hF cs (aD hcs);obtain⟨adx,cs2,hax,he2,-,hat⟩:=hK.load (by decide) hcs;subst he2;refine⟨adx,hax,by omega,.slice g1 g2 g3,fun O w' r=>?_,?_⟩
   ·obtain⟨k1,k2⟩:=hat 1 _ rfl;rw[aJ,cJ (w:=w) (w2:=w') (by simp only[dq];exact(hw.tr r.cI).block _ (hS _ k1))];exact k2
   refine dH.mk (fun k3=>?_) (fun k3=>?_)
   ·intro ρe we re;exact⟨_,rfl,hw.tr re.cI,_,rfl,fun h=>by cases h⟩
   have k3:=aG k3;refine⟨adx,hax,by omega,.slice g5 g6 g7,fun O w' r=>?_,?_⟩
   ·obtain⟨k1,k2⟩:=hat 3 _ rfl;rw[aJ,cJ (w:=w) (w2:=w') (by simp only[dq];exact(hw.tr r.cI).block _ (hS _ k1))];exact k2
   refine dH.mk (fun k4=>?_) (fun k4=>?_)
   ·intro ρe we re;exact⟨_,rfl,hw.tr re.cI,_,rfl,fun h=>by cases h⟩
   have k4:=aG k4;have hE2:∀j cs,j<i+1->css[j]? =some cs->ve cs:=fun j cs hj hc=>by
    rcases aO j i with h|h
    ·exact hE j cs h hc
    ·have:j=i:=by omega
     subst this;rw[hcs]at hc;injection hc with hc;subst hc;exact⟨_,_,_,_,_,_,_,_,rfl,by omega,by omega⟩
   refine⟨((i+1:Nat):Int),wo,?_⟩;intro ρ3 w6 r3;exact⟨(i+1,w6),⟨hib,hw.tr r3.cI,hE2⟩,Sub.gn [] r3,by dsimp only;omega⟩
  ·have h80:=aG h80;intro ρe we re;exact⟨_,rfl,hw.tr re.cI,_,rfl,fun h=>by have:=aH h;omega⟩
 have hib:i=css.length:=aQ hi (by simpa using hib);subst hib;intro ρe we re
 exact⟨_,rfl,hw.tr re.cI,_,rfl,fun h=>⟨by have:=aH h;omega,fun cs hc=>by
  obtain⟨j,hj⟩:=aR hc
  exact hE j cs (aC.1 hj).1 hj⟩⟩
end Go.Ex
namespace Go.Ex
theorem aAE{a b x p q:Rat}(h1:a<x)(h2:x<=b):(p<=q->p<=p+(x-a) / (b-a)*(q-p)∧p+(x-a) / (b-a)*(q-p)<=q)∧(q<=p->q<=p+(x-a) / (b-a)*(q-p)∧p+(x-a) / (b-a)*(q-p)<=p):=by
 have hd:0<b-a:=by grind
 have hi:0<=(b-a)⁻¹:=Rat.le_of_lt (Rat.inv_pos.2 hd);obtain⟨t,ht⟩:∃t,(x-a) / (b-a)=t:=⟨_,rfl⟩
 have t0:0<=t:=by rw[<-ht,bc];exact Rat.mul_nonneg (by grind) hi
 have t1:t<=1:=by
  rw[<-ht,bc,<-Rat.mul_inv_cancel (b-a) (by grind)];exact Rat.mul_le_mul_of_nonneg_right (by grind) hi
 rw[ht];refine⟨fun h=>?_,fun h=>?_⟩
 ·have k1:0<=t*(q-p):=Rat.mul_nonneg t0 (by grind);have k2:t*(q-p)<=1*(q-p):=Rat.mul_le_mul_of_nonneg_right t1 (by grind);grind
 ·have k1:0<=t*(p-q):=Rat.mul_nonneg t0 (by grind);have k2:t*(p-q)<=1*(p-q):=Rat.mul_le_mul_of_nonneg_right t1 (by grind);have k3:t*(q-p)= -(t*(p-q)):=by grind
  grind
end Go.Ex
namespace Go.Ex
open Go Go.Sx Go.Proofs
variable{p:Int×Int×(Int×Int)}{xs:List (Int×Int×(Int×Int))}{css:List (List Value)}{cs:List Value}{S:Nat->Prop}{v vb vn vs:Value}{w:World}{f:fT}
theorem nR(c b:Int×Int×Rat):fm c=fm b↔(c.1=b.1∧c.2.1=b.2.1)∨(c.1=b.2.1∧c.2.1=b.1):=by
 unfold fm;rw[Prod.mk.injEq];omega
theorem BR(c b:Int×Int×Rat):iC c=iC b↔c.1=b.1∧c.2.1=b.2.1:=by
 unfold iC;rw[Prod.mk.injEq]
section
variable{α β:Type}{L:List α}{K:α->β}{x:β}
theorem kh{k:Nat}{c:α}(hc:L[k]? =some c)(h:K c≠x)(hE:x∈L.map K↔x∈(L.drop k).map K):x∈L.map K↔x∈(L.drop (k+1)).map K:=by
 rw[hE,List.drop_eq_getElem_cons (aC.1 hc).1,(aC.1 hc).2,List.map_cons,List.mem_cons,or_iff_right fun e=>h e.symm]
theorem se{k:Nat}{c:α}(hc:L[k]? =some c)(h:K c=x):x∈L.map K:=aS.2 ⟨c,aD hc,h⟩
theorem BS{k:Nat}(hk:L.length<=k)(hE:x∈L.map K↔x∈(L.drop k).map K):x∉L.map K:=fun h=>by
 have:=hE.1 h;rw[List.drop_eq_nil_of_le hk]at this
 cases this
end
theorem pW(n:Int)(an ab aq:Option Addr)(ln cn nb cb nq cq:Nat)(w:World):du PG N.sD #[.agg #[.slice an ln cn,.slice ab nb cb,.slice aq nq cq],.int .i64 n] w (eD w fun v' _=>∃d,v'= .bool d∧(d=true↔iU ln n)):=by
 have hw:cQ w.heap.size w w:=cQ.refl;refine vJ (by simp) ?_;refine dH.mk (fun h1=>?_) (fun h1=>?_)
 ·intro ρe we re;have h1:=aH h1;exact⟨_,rfl,hw.tr re.cI,_,rfl,by rw[decide_eq_true_iff];exact⟨fun h=>⟨h1,h⟩,fun h=>h.2⟩⟩
 ·intro ρe we re;have h1:=aG h1;exact⟨_,rfl,hw.tr re.cI,_,rfl,(fun h=>by cases h),fun h=>absurd h.1 h1⟩
theorem ki(n lo hi:Int)(w:World):du PG N.u5 #[.int .i64 n,.int .i64 lo,.int .i64 hi] w (eD w fun v' _=>∃d,v'= .bool d∧(d=true↔lo<=n∧n<=hi)):=by
 have hw:cQ w.heap.size w w:=cQ.refl;refine yL (by simp) ?_;refine dH.mk (fun h1=>?_) (fun h1=>?_)
 ·intro ρe we re;have h1:=aH h1;exact⟨_,rfl,hw.tr re.cI,_,rfl,by rw[decide_eq_true_iff];exact⟨fun h=>⟨h1,h⟩,fun h=>h.2⟩⟩
 ·intro ρe we re;have h1:=aG h1;exact⟨_,rfl,hw.tr re.cI,_,rfl,(fun h=>by cases h),fun h=>absurd h.1 h1⟩
theorem yg{q:Rat}(hS:Old S w)(hp:eX w S v q):du PG N.kH #[v] w (eD w fun v' _=>v'= .int .i64 (rs q)):=by
 obtain⟨a,b,h1,rfl,_,_⟩:=hp.v;exact yh hS h1
set_option maxHeartbeats 2000000 in
theorem Cq(hS:Old S w)(hf:dY w S vn vb vs f):du PG N.uY #[.agg #[vn,vb,vs]] w (eD w fun v' _=>v'= .int .i64 (eK f)):=by
 have hw:cQ w.heap.size w w:=cQ.refl;obtain⟨an,cn,ab,cb,aq,cq,rfl,rfl,rfl,hmn,hmb,hms⟩:=hf.shape;refine yJ (by simp) ?_;refine dH.mk (fun h0=>?_) (fun h0=>?_)
 ·have h0:=aH h0;intro ρe we re;exact⟨_,rfl,hw.tr re.cI,by show Value.int .i64 _=_;rw[eK,if_pos (by omega)]⟩
 have h0:=aG h0;refine dH.mk (fun h1=>?_) (fun h1=>?_)
 ·have h1:=aH h1;intro ρe we re;exact⟨_,rfl,hw.tr re.cI,by show Value.int .i64 _=_;rw[eK,if_pos (by omega)]⟩
 have h1:=aG h1;refine dH.mk (fun h2=>?_) (fun h2=>?_)
 ·have h2:=aH h2;intro ρe we re;exact⟨_,rfl,hw.tr re.cI,by show Value.int .i64 _=_;rw[eK,if_pos (by omega)]⟩
 have h2:=aG h2
 refine⟨Nat×World×Iv,fun z=>⟨[(1,.o (.p 0 0)),(3,.o (.v (.int .i64 ((z.1:Nat):Int))))],[(0,.box T.Frame [.v (.slice an f.nodes.length cn),.v (.slice ab f.bars.length cb),.v (.slice aq f.cS.length cq)])],1,z.2.2,z.2.1⟩,fun z=>f.nodes.length-z.1,
  fun z=>z.1<=f.nodes.length∧cQ w.heap.size w z.2.1∧dJ e7 [] f.nodes=dJ e7 (f.nodes.take z.1) (f.nodes.drop z.1),?_,?_⟩
 ·intro O w' r3;exact⟨(0,w',_),⟨aP _,hw.tr r3.cI,rfl⟩,Sub.gn [] r3⟩
 rintro⟨i,w1,iv⟩ ⟨hi,hw,hE⟩;dsimp only at hi hw hE ⊢;refine dH.mk (fun hib=>?_) (fun hib=>?_)
 ·have hib:i<f.nodes.length:=by simpa using hib
  obtain⟨b,hx⟩:∃b,f.nodes[i]? =some b:=⟨_,aA hib⟩
  have hLl:(f.nodes.take i).length=i:=by rw[aW];omega
  obtain⟨adb,cs,hab,hF,-,hlb⟩:=hf.nodes.load (by decide) hx;have hF:cs=[.int .i64 b.1,.int .i64 b.2.1,.int .i64 b.2.2]:=hF;subst hF;refine⟨adb,hab,by omega,[.int .i64 b.1,.int .i64 b.2.1,.int .i64 b.2.2],rfl,rdO hlb hw hS,?_⟩;refine bu (cE hw (fun _ w' v w2=>∃d,v= .bool d∧(d=true↔jn b.1)) (fun O w' r=>ki _ _ _ w') ?_);rintro O wa1 v1 wb1 iv1 r he hw h_ ⟨d0,rfl,hz0⟩
  cases d0
  ·have hz0:¬jn b.1:=fun h=>by have:=hz0.2 h;cases this
   intro ρe we re;exact⟨_,rfl,hw.tr re.cI,by show Value.int .i64 _=_;rw[eK,aF (by omega),if_pos (by rw[hE,cK hx (show e7 (f.nodes.take i) b=2 by rw[e7,aF (fun h=>hz0 h.1)]) (by decide)];decide),hE,cK hx (show e7 (f.nodes.take i) b=2 by rw[e7,aF (fun h=>hz0 h.1)]) (by decide)]⟩
  replace hz0:=hz0.1 rfl;refine bu (cE hw (fun _ w' v w2=>∃d,v= .bool d∧(d=true↔jn b.2.1)) (fun O w' r=>ki _ _ _ w') ?_);rintro O wa2 v2 wb2 iv2 r he hw h_ ⟨d1,rfl,hz1⟩
  cases d1
  ·have hz1:¬jn b.2.1:=fun h=>by have:=hz1.2 h;cases this
   intro ρe we re;exact⟨_,rfl,hw.tr re.cI,by show Value.int .i64 _=_;rw[eK,aF (by omega),if_pos (by rw[hE,cK hx (show e7 (f.nodes.take i) b=2 by rw[e7,aF (fun h=>hz1 h.2.1)]) (by decide)];decide),hE,cK hx (show e7 (f.nodes.take i) b=2 by rw[e7,aF (fun h=>hz1 h.2.1)]) (by decide)]⟩
  replace hz1:=hz1.1 rfl;refine bu (cE hw (fun _ w' v w2=>∃d,v= .bool d∧(d=true↔jn b.2.2)) (fun O w' r=>ki _ _ _ w') ?_);rintro O wa3 v3 wb3 iv3 r he hw h_ ⟨d2,rfl,hz2⟩
  cases d2
  ·have hz2:¬jn b.2.2:=fun h=>by have:=hz2.2 h;cases this
   intro ρe we re;exact⟨_,rfl,hw.tr re.cI,by show Value.int .i64 _=_;rw[eK,aF (by omega),if_pos (by rw[hE,cK hx (show e7 (f.nodes.take i) b=2 by rw[e7,aF (fun h=>hz2 h.2.2)]) (by decide)];decide),hE,cK hx (show e7 (f.nodes.take i) b=2 by rw[e7,aF (fun h=>hz2 h.2.2)]) (by decide)]⟩
  replace hz2:=hz2.1 rfl
  refine⟨Nat×World,fun z=>⟨[(1,.o (.p 0 0)),(3,.o (.v (.int .i64 ((i:Nat):Int)))),(4,.o (.p 1 0)),(5,.o (.v (.int .i64 ((z.1:Nat):Int))))],[(1,.box T.Node [.v (.int .i64 b.1),.v (.int .i64 b.2.1),.v (.int .i64 b.2.2)]),(0,.box T.Frame [.v (.slice an f.nodes.length cn),.v (.slice ab f.bars.length cb),.v (.slice aq f.cS.length cq)])],2,iv3,z.2⟩,fun z=>i-z.1,
   fun z=>z.1<=i∧cQ w.heap.size w z.2∧(b∈(f.nodes.take i).map id↔b∈((f.nodes.take i).drop z.1).map id),?_,?_⟩
  ·intro O w' r3;exact⟨(0,w'),⟨aP _,hw.tr r3.cI,Iff.rfl⟩,Sub.gn [] r3⟩
  rintro⟨k,w2⟩ ⟨hk,hw,hK⟩;dsimp only at hk hw hK ⊢;refine dH.mk (fun hkb=>?_) (fun hkb=>?_)
  ·have hkb:k<i:=by have:=aH hkb;omega
   obtain⟨c,hc⟩:∃c,f.nodes[k]? =some c:=⟨_,aA (by omega)⟩
   have hcL:(f.nodes.take i)[k]? =some c:=by rw[bM hkb];exact hc
   obtain⟨adc,cs2,hac,hF2,-,hlc⟩:=hf.nodes.load (by decide) hc;have hF2:cs2=[.int .i64 c.1,.int .i64 c.2.1,.int .i64 c.2.2]:=hF2;subst hF2;refine cD hτ df [.x 0,.x 1,.x 2,.x 3,.x 4,.x 5,.x 6] (by kernel_rfl) (by kernel_rfl) ?_;refine⟨adc,hac,by omega,[.int .i64 c.1,.int .i64 c.2.1,.int .i64 c.2.2],rfl,rdO hlc hw hS,decide (c=b),fun O w o1 o2=>Cn c b w o1 o2,?_⟩;refine dH.mk (fun hd=>?_) (fun hd=>?_)
   ·have hd:c=b:=aH hd;have hin:b∈f.nodes.take i:=by have:=se (K:=id) hcL hd;rwa [List.map_id]at this
    intro ρe we re;exact⟨_,rfl,hw.tr re.cI,by show Value.int .i64 _=_;rw[eK,aF (by omega),if_pos (by rw[hE,cK hx (show e7 (f.nodes.take i) b=12 by rw[e7,if_pos ⟨hz0,hz1,hz2⟩,if_pos hin]) (by decide)];decide),hE,cK hx (show e7 (f.nodes.take i) b=12 by rw[e7,if_pos ⟨hz0,hz1,hz2⟩,if_pos hin]) (by decide)]⟩
   have hd:c≠b:=aG hd;have hK2:=kh (K:=id) hcL hd hK;refine⟨((k+1:Nat):Int),wo,?_⟩;intro ρ3 w6 r3;exact⟨(k+1,w6),⟨hkb,hw.tr r3.cI,hK2⟩,Sub.gn [] r3,by dsimp only;omega⟩
  have hkb:k=i:=by have:=aG hkb;omega
  have hdup:=BS (by rw[hLl];omega) hK;rw[List.map_id]at hdup;rw[eY hx (rC.2 ⟨⟨hz0,hz1,hz2⟩,hdup⟩)]at hE;refine⟨((i+1:Nat):Int),wo,?_⟩;intro ρ3 w6 r3;exact⟨(i+1,w6,_),⟨hib,hw.tr r3.cI,hE⟩,Sub.gn [] r3,by dsimp only;omega⟩
 have hib:i=f.nodes.length:=aQ hi (by simpa using hib);rw[fM (by omega)]at hE
 refine⟨Nat×World×Iv,fun z=>⟨[(1,.o (.p 0 0)),(6,.o (.v (.int .i64 ((z.1:Nat):Int))))],[(0,.box T.Frame [.v (.slice an f.nodes.length cn),.v (.slice ab f.bars.length cb),.v (.slice aq f.cS.length cq)])],1,z.2.2,z.2.1⟩,fun z=>f.bars.length-z.1,
  fun z=>z.1<=f.bars.length∧cQ w.heap.size w z.2.1∧dJ (ed f.nodes.length) [] f.bars=dJ (ed f.nodes.length) (f.bars.take z.1) (f.bars.drop z.1),?_,?_⟩
 ·intro O w' r3;exact⟨(0,w',_),⟨aP _,hw.tr r3.cI,rfl⟩,Sub.gn [] r3⟩
 rintro⟨i,w1,iv⟩ ⟨hi,hw,hE2⟩;dsimp only at hi hw hE2 ⊢;refine dH.mk (fun hib=>?_) (fun hib=>?_)
 ·have hib:i<f.bars.length:=by simpa using hib
  obtain⟨b,hx⟩:∃b,f.bars[i]? =some b:=⟨_,aA hib⟩
  have hLl:(f.bars.take i).length=i:=by rw[aW];omega
  obtain⟨adb,cs,hab,hF,-,hlb⟩:=hf.bars.load (by decide) hx;obtain⟨g0,g1,g2,g3,g4,g5,g6,g7,rfl,hF⟩:=hF;refine⟨adb,hab,by omega,[.int .i64 b.1,.int .i64 b.2.1,.bool g0,.slice g1 g2 g3,.bool g4,.slice g5 g6 g7],rfl,rdO hlb hw hS,?_⟩;refine bu (cE hw (fun _ w' v w2=>∃d,v= .bool d∧(d=true↔iU f.nodes.length b.1)) (fun O w' r=>pW _ _ _ _ _ _ _ _ _ _ w') ?_);rintro O wa1 v1 wb1 iv1 r he hw h_ ⟨d0,rfl,hz0⟩
  cases d0
  ·have hz0:¬iU f.nodes.length b.1:=fun h=>by have:=hz0.2 h;cases this
   intro ρe we re;exact⟨_,rfl,hw.tr re.cI,by show Value.int .i64 _=_;rw[eK,aF (by omega),aF (by rw[hE];decide),if_pos (by rw[hE2,cK hx (show ed f.nodes.length (f.bars.take i) b=6 by rw[ed,aF (fun h=>hz0 h.1)]) (by decide)];decide),hE2,cK hx (show ed f.nodes.length (f.bars.take i) b=6 by rw[ed,aF (fun h=>hz0 h.1)]) (by decide)]⟩
  replace hz0:=hz0.1 rfl;refine bu (cE hw (fun _ w' v w2=>∃d,v= .bool d∧(d=true↔iU f.nodes.length b.2.1)) (fun O w' r=>pW _ _ _ _ _ _ _ _ _ _ w') ?_);rintro O wa2 v2 wb2 iv2 r he hw h_ ⟨d1,rfl,hz1⟩
  cases d1
  ·have hz1:¬iU f.nodes.length b.2.1:=fun h=>by have:=hz1.2 h;cases this
   intro ρe we re;exact⟨_,rfl,hw.tr re.cI,by show Value.int .i64 _=_;rw[eK,aF (by omega),aF (by rw[hE];decide),if_pos (by rw[hE2,cK hx (show ed f.nodes.length (f.bars.take i) b=6 by rw[ed,aF (fun h=>hz1 h.2)]) (by decide)];decide),hE2,cK hx (show ed f.nodes.length (f.bars.take i) b=6 by rw[ed,aF (fun h=>hz1 h.2)]) (by decide)]⟩
  replace hz1:=hz1.1 rfl;refine dH.mk (fun hab2=>?_) (fun hab2=>?_)
  ·have hab2:b.1=b.2.1:=by simpa using hab2
   intro ρe we re;exact⟨_,rfl,hw.tr re.cI,by show Value.int .i64 _=_;rw[eK,aF (by omega),aF (by rw[hE];decide),if_pos (by rw[hE2,cK hx (show ed f.nodes.length (f.bars.take i) b=3 by rw[ed,if_pos ⟨hz0,hz1⟩,if_pos hab2]) (by decide)];decide),hE2,cK hx (show ed f.nodes.length (f.bars.take i) b=3 by rw[ed,if_pos ⟨hz0,hz1⟩,if_pos hab2]) (by decide)]⟩
  have hab2:b.1≠b.2.1:=by simpa using hab2
  refine⟨Nat×World,fun z=>⟨[(1,.o (.p 0 0)),(6,.o (.v (.int .i64 ((i:Nat):Int)))),(7,.o (.p 1 0)),(8,.o (.v (.int .i64 ((z.1:Nat):Int))))],[(1,.box T.LI [.v (.int .i64 b.1),.v (.int .i64 b.2.1),.v (.bool g0),.v (.slice g1 g2 g3),.v (.bool g4),.v (.slice g5 g6 g7)]),(0,.box T.Frame [.v (.slice an f.nodes.length cn),.v (.slice ab f.bars.length cb),.v (.slice aq f.cS.length cq)])],2,iv2,z.2⟩,fun z=>i-z.1,
   fun z=>z.1<=i∧cQ w.heap.size w z.2∧(fm b∈(f.bars.take i).map fm↔fm b∈((f.bars.take i).drop z.1).map fm),?_,?_⟩
  ·intro O w' r3;exact⟨(0,w'),⟨aP _,hw.tr r3.cI,Iff.rfl⟩,Sub.gn [] r3⟩
  rintro⟨k,w2⟩ ⟨hk,hw,hK⟩;dsimp only at hk hw hK ⊢;refine dH.mk (fun hkb=>?_) (fun hkb=>?_)
  ·have hkb:k<i:=by have:=aH hkb;omega
   obtain⟨c,hc⟩:∃c,f.bars[k]? =some c:=⟨_,aA (by omega)⟩
   have hcL:(f.bars.take i)[k]? =some c:=by rw[bM hkb];exact hc
   obtain⟨adc,cs2,hac,hF2,-,hlc⟩:=hf.bars.load (by decide) hc;obtain⟨q0,q1,q2,q3,q4,q5,q6,q7,rfl,-⟩:=hF2;refine⟨adc,hac,by omega,[.int .i64 c.1,.int .i64 c.2.1,.bool q0,.slice q1 q2 q3,.bool q4,.slice q5 q6 q7],rfl,rdO hlc hw hS,?_⟩;refine dH.mk (fun e1=>?_) (fun e1=>?_)
   ·have e1:(c.1=b.1):=by simpa using e1
    refine dH.mk (fun e2=>?_) (fun e2=>?_)
    ·have e2:(c.2.1=b.2.1):=by simpa using e2
     have hin:=se (K:=fm) hcL (show fm c=fm b by rw[nR];omega);intro ρe we re;exact⟨_,rfl,hw.tr re.cI,by show Value.int .i64 _=_;rw[eK,aF (by omega),aF (by rw[hE];decide),if_pos (by rw[hE2,cK hx (show ed f.nodes.length (f.bars.take i) b=5 by rw[ed,if_pos ⟨hz0,hz1⟩,aF hab2,if_pos hin]) (by decide)];decide),hE2,cK hx (show ed f.nodes.length (f.bars.take i) b=5 by rw[ed,if_pos ⟨hz0,hz1⟩,aF hab2,if_pos hin]) (by decide)]⟩
    ·have e2:¬(c.2.1=b.2.1):=by simpa using e2
     refine dH.mk (fun e3=>?_) (fun e3=>?_)
     ·have e3:(c.1=b.2.1):=by simpa using e3
      refine dH.mk (fun e4=>?_) (fun e4=>?_)
      ·have e4:(c.2.1=b.1):=by simpa using e4
       have hin:=se (K:=fm) hcL (show fm c=fm b by rw[nR];omega);intro ρe we re;exact⟨_,rfl,hw.tr re.cI,by show Value.int .i64 _=_;rw[eK,aF (by omega),aF (by rw[hE];decide),if_pos (by rw[hE2,cK hx (show ed f.nodes.length (f.bars.take i) b=5 by rw[ed,if_pos ⟨hz0,hz1⟩,aF hab2,if_pos hin]) (by decide)];decide),hE2,cK hx (show ed f.nodes.length (f.bars.take i) b=5 by rw[ed,if_pos ⟨hz0,hz1⟩,aF hab2,if_pos hin]) (by decide)]⟩
      ·have e4:¬(c.2.1=b.1):=by simpa using e4
       have hK2:=kh (K:=fm) hcL (show fm c≠fm b by rw[Ne,nR];omega) hK;refine⟨((k+1:Nat):Int),wo,?_⟩;intro ρ3 w6 r3;exact⟨(k+1,w6),⟨hkb,hw.tr r3.cI,hK2⟩,Sub.gn [] r3,by dsimp only;omega⟩
     ·have e3:¬(c.1=b.2.1):=by simpa using e3
      have hK2:=kh (K:=fm) hcL (show fm c≠fm b by rw[Ne,nR];omega) hK;refine⟨((k+1:Nat):Int),wo,?_⟩;intro ρ3 w6 r3;exact⟨(k+1,w6),⟨hkb,hw.tr r3.cI,hK2⟩,Sub.gn [] r3,by dsimp only;omega⟩
   ·have e1:¬(c.1=b.1):=by simpa using e1
    refine dH.mk (fun e3=>?_) (fun e3=>?_)
    ·have e3:(c.1=b.2.1):=by simpa using e3
     refine dH.mk (fun e4=>?_) (fun e4=>?_)
     ·have e4:(c.2.1=b.1):=by simpa using e4
      have hin:=se (K:=fm) hcL (show fm c=fm b by rw[nR];omega);intro ρe we re;exact⟨_,rfl,hw.tr re.cI,by show Value.int .i64 _=_;rw[eK,aF (by omega),aF (by rw[hE];decide),if_pos (by rw[hE2,cK hx (show ed f.nodes.length (f.bars.take i) b=5 by rw[ed,if_pos ⟨hz0,hz1⟩,aF hab2,if_pos hin]) (by decide)];decide),hE2,cK hx (show ed f.nodes.length (f.bars.take i) b=5 by rw[ed,if_pos ⟨hz0,hz1⟩,aF hab2,if_pos hin]) (by decide)]⟩
     ·have e4:¬(c.2.1=b.1):=by simpa using e4
      have hK2:=kh (K:=fm) hcL (show fm c≠fm b by rw[Ne,nR];omega) hK;refine⟨((k+1:Nat):Int),wo,?_⟩;intro ρ3 w6 r3;exact⟨(k+1,w6),⟨hkb,hw.tr r3.cI,hK2⟩,Sub.gn [] r3,by dsimp only;omega⟩
    ·have e3:¬(c.1=b.2.1):=by simpa using e3
     have hK2:=kh (K:=fm) hcL (show fm c≠fm b by rw[Ne,nR];omega) hK;refine⟨((k+1:Nat):Int),wo,?_⟩;intro ρ3 w6 r3;exact⟨(k+1,w6),⟨hkb,hw.tr r3.cI,hK2⟩,Sub.gn [] r3,by dsimp only;omega⟩
  have hkb:k=i:=by have:=aG hkb;omega
  have hdup:=BS (by rw[hLl];omega) hK;refine bu (cE hw (fun _ w' v w2=>v= .int .i64 (rs b.2.2)) (fun O w' r=>(yg (oS hS r) (hF.cB (kS hw r hS)))) ?_);rintro O wa3 v3 wb3 iv3 r he hw h_ rfl;obtain⟨cf,hcf⟩:∃c,rs b.2.2=c:=⟨_,rfl⟩
  rw[hcf];refine dH.mk (fun hd2=>?_) (fun hd2=>?_)
  ·have hd2:b.2.2<=0:=by have:=aH hd2;rw[<-Rat.not_lt,<-nP];omega
   intro ρe we re;exact⟨_,rfl,hw.tr re.cI,by show Value.int .i64 _=_;rw[eK,aF (by omega),aF (by rw[hE];decide),if_pos (by rw[hE2,cK hx (show ed f.nodes.length (f.bars.take i) b=2 by rw[ed,if_pos ⟨hz0,hz1⟩,aF hab2,aF hdup,if_pos hd2]) (by decide)];decide),hE2,cK hx (show ed f.nodes.length (f.bars.take i) b=2 by rw[ed,if_pos ⟨hz0,hz1⟩,aF hab2,aF hdup,if_pos hd2]) (by decide)]⟩
  have hd2:0<b.2.2:=by have:=aG hd2;rw[<-nP];omega
  rw[eY hx (pR.2 ⟨⟨hz0,hz1⟩,hab2,hdup,hd2⟩)]at hE2;refine⟨((i+1:Nat):Int),wo,?_⟩;intro ρ3 w6 r3;exact⟨(i+1,w6,_),⟨hib,hw.tr r3.cI,hE2⟩,Sub.gn [] r3,by dsimp only;omega⟩
 have hib:i=f.bars.length:=aQ hi (by simpa using hib);rw[fM (by omega)]at hE2
 refine⟨Nat×World×Iv,fun z=>⟨[(1,.o (.p 0 0)),(10,.o (.v (.int .i64 ((z.1:Nat):Int))))],[(0,.box T.Frame [.v (.slice an f.nodes.length cn),.v (.slice ab f.bars.length cb),.v (.slice aq f.cS.length cq)])],1,z.2.2,z.2.1⟩,fun z=>f.cS.length-z.1,
  fun z=>z.1<=f.cS.length∧cQ w.heap.size w z.2.1∧dJ (ji f.nodes.length) [] f.cS=dJ (ji f.nodes.length) (f.cS.take z.1) (f.cS.drop z.1),?_,?_⟩
 ·intro O w' r3;exact⟨(0,w',_),⟨aP _,hw.tr r3.cI,rfl⟩,Sub.gn [] r3⟩
 rintro⟨i,w1,iv⟩ ⟨hi,hw,hE3⟩;dsimp only at hi hw hE3 ⊢;refine dH.mk (fun hib=>?_) (fun hib=>?_)
 ·have hib:i<f.cS.length:=by simpa using hib
  obtain⟨b,hx⟩:∃b,f.cS[i]? =some b:=⟨_,aA hib⟩
  have hLl:(f.cS.take i).length=i:=by rw[aW];omega
  obtain⟨adb,cs,hab,hF,-,hlb⟩:=hf.cS.load (by decide) hx;obtain⟨g0,g1,g2,g3,g4,g5,g6,g7,rfl,hF⟩:=hF;refine⟨adb,hab,by omega,[.int .i64 b.1,.int .i64 b.2.1,.bool g0,.slice g1 g2 g3,.bool g4,.slice g5 g6 g7],rfl,rdO hlb hw hS,?_⟩;refine bu (cE hw (fun _ w' v w2=>∃d,v= .bool d∧(d=true↔iU f.nodes.length b.1)) (fun O w' r=>pW _ _ _ _ _ _ _ _ _ _ w') ?_);rintro O wa1 v1 wb1 iv1 r he hw h_ ⟨d0,rfl,hz0⟩
  cases d0
  ·have hz0:¬iU f.nodes.length b.1:=fun h=>by have:=hz0.2 h;cases this
   intro ρe we re;exact⟨_,rfl,hw.tr re.cI,by show Value.int .i64 _=_;rw[eK,aF (by omega),aF (by rw[hE];decide),aF (by rw[hE2];decide),hE3,cK hx (show ji f.nodes.length (f.cS.take i) b=6 by rw[ji,aF hz0]) (by decide)]⟩
  replace hz0:=hz0.1 rfl;refine bu (cE hw (fun _ w' v w2=>∃d,v= .bool d∧(d=true↔0<=b.2.1∧b.2.1<=2)) (fun O w' r=>ki _ _ _ w') ?_);rintro O wa2 v2 wb2 iv2 r he hw h_ ⟨d1,rfl,hax⟩
  cases d1
  ·have hax:¬(0<=b.2.1∧b.2.1<=2):=fun h=>by have:=hax.2 h;cases this
   intro ρe we re;exact⟨_,rfl,hw.tr re.cI,by show Value.int .i64 _=_;rw[eK,aF (by omega),aF (by rw[hE];decide),aF (by rw[hE2];decide),hE3,cK hx (show ji f.nodes.length (f.cS.take i) b=2 by rw[ji,if_pos hz0,aF hax]) (by decide)]⟩
  replace hax:=hax.1 rfl
  refine⟨Nat×World,fun z=>⟨[(1,.o (.p 0 0)),(10,.o (.v (.int .i64 ((i:Nat):Int)))),(11,.o (.p 1 0)),(12,.o (.v (.int .i64 ((z.1:Nat):Int))))],[(1,.box T.wH [.v (.int .i64 b.1),.v (.int .i64 b.2.1),.v (.bool g0),.v (.slice g1 g2 g3),.v (.bool g4),.v (.slice g5 g6 g7)]),(0,.box T.Frame [.v (.slice an f.nodes.length cn),.v (.slice ab f.bars.length cb),.v (.slice aq f.cS.length cq)])],2,iv2,z.2⟩,fun z=>i-z.1,
   fun z=>z.1<=i∧cQ w.heap.size w z.2∧(iC b∈(f.cS.take i).map iC↔iC b∈((f.cS.take i).drop z.1).map iC),?_,?_⟩
  ·intro O w' r3;exact⟨(0,w'),⟨aP _,hw.tr r3.cI,Iff.rfl⟩,Sub.gn [] r3⟩
  rintro⟨k,w2⟩ ⟨hk,hw,hK⟩;dsimp only at hk hw hK ⊢;refine dH.mk (fun hkb=>?_) (fun hkb=>?_)
  ·have hkb:k<i:=by have:=aH hkb;omega
   obtain⟨c,hc⟩:∃c,f.cS[k]? =some c:=⟨_,aA (by omega)⟩
   have hcL:(f.cS.take i)[k]? =some c:=by rw[bM hkb];exact hc
   obtain⟨adc,cs2,hac,hF2,-,hlc⟩:=hf.cS.load (by decide) hc;obtain⟨q0,q1,q2,q3,q4,q5,q6,q7,rfl,-⟩:=hF2;refine cD hτ df [.x 0,.x 1,.x 2,.x 3,.x 4,.x 5,.x 6,.x 7,.x 8,.x 9,.x 10,.x 11,.x 12,.x 13,.x 14,.x 15,.x 16,.x 17,.x 18,.x 19] (by kernel_rfl) (by kernel_rfl) ?_;refine⟨adc,hac,by omega,.int .i64 c.1,fun O w' r=>?_,?_⟩
   ·obtain⟨k1,k2⟩:=hlc 0 _ rfl;rw[cJ (w:=w) (w2:=w') (by simp only[dq];exact(hw.tr r.cI).block _ (hS _ k1))];simp only[aJ,Hs]at k2 ⊢;exact k2
   refine dH.mk (fun e1=>?_) (fun e1=>?_)
   ·have e1:(c.1=b.1):=by simpa using e1
    refine⟨adc,hac,by omega,.int .i64 c.2.1,fun O w' r=>?_,?_⟩
    ·obtain⟨k1,k2⟩:=hlc 1 _ rfl;rw[cJ (w:=w) (w2:=w') (by simp only[dq];exact(hw.tr r.cI).block _ (hS _ k1))];simp only[aJ,Hs]at k2 ⊢;exact k2
    refine dH.mk (fun e2=>?_) (fun e2=>?_)
    ·have e2:(c.2.1=b.2.1):=by simpa using e2
     have hin:=se (K:=iC) hcL (show iC c=iC b by rw[BR];omega);intro ρe we re;exact⟨_,rfl,hw.tr re.cI,by show Value.int .i64 _=_;rw[eK,aF (by omega),aF (by rw[hE];decide),aF (by rw[hE2];decide),hE3,cK hx (show ji f.nodes.length (f.cS.take i) b=5 by rw[ji,if_pos hz0,if_pos hax,if_pos hin]) (by decide)]⟩
    ·have e2:¬(c.2.1=b.2.1):=by simpa using e2
     have hK2:=kh (K:=iC) hcL (show iC c≠iC b by rw[Ne,BR];omega) hK;refine⟨((k+1:Nat):Int),wo,?_⟩;intro ρ3 w6 r3;exact⟨(k+1,w6),⟨hkb,hw.tr r3.cI,hK2⟩,Sub.gn [] r3,by dsimp only;omega⟩
   ·have e1:¬(c.1=b.1):=by simpa using e1
    have hK2:=kh (K:=iC) hcL (show iC c≠iC b by rw[Ne,BR];omega) hK;refine⟨((k+1:Nat):Int),wo,?_⟩;intro ρ3 w6 r3;exact⟨(k+1,w6),⟨hkb,hw.tr r3.cI,hK2⟩,Sub.gn [] r3,by dsimp only;omega⟩
  have hkb:k=i:=by have:=aG hkb;omega
  have hdup:=BS (by rw[hLl];omega) hK;refine bu (cE hw (fun _ w' v w2=>v= .int .i64 (rs b.2.2)) (fun O w' r=>(yg (oS hS r) (hF.cB (kS hw r hS)))) ?_);rintro O wa3 v3 wb3 iv3 r he hw h_ rfl;obtain⟨cf,hcf⟩:∃c,rs b.2.2=c:=⟨_,rfl⟩
  rw[hcf];refine dH.mk (fun hd2=>?_) (fun hd2=>?_)
  ·have hd2:b.2.2<0:=by have:=aH hd2;rw[<-kg];omega
   intro ρe we re;exact⟨_,rfl,hw.tr re.cI,by show Value.int .i64 _=_;rw[eK,aF (by omega),aF (by rw[hE];decide),aF (by rw[hE2];decide),hE3,cK hx (show ji f.nodes.length (f.cS.take i) b=2 by rw[ji,if_pos hz0,if_pos hax,aF hdup,if_pos hd2]) (by decide)]⟩
  have hd2:0<=b.2.2:=by have:=aG hd2;rw[<-Rat.not_lt,<-kg];omega
  rw[eY hx (pQ.2 ⟨hz0,hax,hdup,hd2⟩)]at hE3;refine⟨((i+1:Nat):Int),wo,?_⟩;intro ρ3 w6 r3;exact⟨(i+1,w6,_),⟨hib,hw.tr r3.cI,hE3⟩,Sub.gn [] r3,by dsimp only;omega⟩
 have hib:i=f.cS.length:=aQ hi (by simpa using hib);rw[fM (by omega)]at hE3;intro ρe we re;exact⟨_,rfl,hw.tr re.cI,by show Value.int .i64 _=_;rw[eK,aF (by omega),aF (by rw[hE];decide),aF (by rw[hE2];decide),hE3]⟩
def rq(p:Int×Int):Rat:=ratio p.1 p.2
structure ED where
 nodes:List (Int×Int×Int)
 bars:List (Int×Int×(Int×Int))
 cS:List (Int×Int×(Int×Int))
def EF(p:Int×Int×(Int×Int)):Int×Int×Rat:=(p.1,p.2.1,rq p.2.2)
def ED.val(f:ED):fT:=⟨f.nodes,f.bars.map EF,f.cS.map EF⟩
def sf(w:World)(S:Nat->Prop)(cs:List Value)(p:Int×Int×(Int×Int)):Prop:=∃b a n c b2 a2 n2 c2,cs=[.int .i64 p.1,.int .i64 p.2.1,.bool b,.slice a n c,.bool b2,.slice a2 n2 c2]∧gb w S (.agg #[.bool b,.slice a n c,.bool b2,.slice a2 n2 c2]) p.2.2.1 p.2.2.2
structure pA(w:World)(S:Nat->Prop)(vn vb vs:Value)(f:ED):Prop where
 nodes:lh w S vn f.nodes
 bars:eH 6 sf w S vb f.bars
 cS:eH 6 sf w S vs f.cS
theorem sf.cB{w2:World}(h:sf w S cs p)(hk:∀g,S g->w2.heap[g]? =w.heap[g]?):sf w2 S cs p:=by
 obtain⟨b,a,n,c,b2,a2,n2,c2,h1,h2⟩:=h;exact⟨b,a,n,c,b2,a2,n2,c2,h1,h2.cB hk⟩
theorem pA.cB{w2:World}{f:ED}(h:pA w S vn vb vs f)(hk:∀g,S g->w2.heap[g]? =w.heap[g]?):pA w2 S vn vb vs f:=
 ⟨eH.cB (w:=w) (fun _ _ h=>h) h.nodes hk,eH.cB (fun _ _ h=>h.cB hk) h.bars hk,eH.cB (fun _ _ h=>h.cB hk) h.cS hk⟩
theorem sf.Lj(h:sf w S cs p)(hf:ve (cs.drop 2)):BO w S cs (EF p)∧rl (EF p).2.2<=3:=by
 obtain⟨b,a,n,c,b2,a2,n2,c2,rfl,h2⟩:=h;obtain⟨h3,h4⟩:=h2.l3 hf;exact⟨⟨b,a,n,c,b2,a2,n2,c2,rfl,h3⟩,h4⟩
theorem eH.cells{α:Type}{k:Nat}{P:World->(Nat->Prop)->List Value->α->Prop}{xs:List α}(h:eH k P w S v xs):
  ∃css:List (List Value),css.length=xs.length∧eH k (fun w S cs (y:List Value×α)=>cs=y.1∧P w S cs y.2) w S v (css.zip xs)∧(∀(j:Nat) cs x,css[j]? =some cs->xs[j]? =some x->P w S cs x)∧
   ∀{β:Type} (Q:World->(Nat->Prop)->List Value->β->Prop) (ys:List β),ys.length=xs.length->(∀(j:Nat) cs y,css[j]? =some cs->ys[j]? =some y->Q w S cs y)->eH k Q w S v ys:=by
 obtain⟨css,h1,h2,h3,h4⟩:=h;have hz:(css.zip xs).length=xs.length:=by rw[List.length_zip,h2,Nat.min_self]
 refine⟨css,h2,⟨css,by rw[hz];exact h1,by rw[hz,h2],h3,fun j cs y k1 k2=>?_⟩,h4,fun Q ys hl hQ=>⟨css,by rw[hl];exact h1,by rw[hl,h2],h3,hQ⟩⟩;rw[List.getElem?_zip_eq_some]at k2;rw[k1]at k2;exact⟨by injection k2.1,h4 j cs _ k1 k2.2⟩
theorem Je.of(h4:∀(j:Nat) cs x,css[j]? =some cs->xs[j]? =some x->sf w S cs x)
  (hQ:∀{β:Type} (Q:World->(Nat->Prop)->List Value->β->Prop) (ys:List β),ys.length=xs.length->(∀(j:Nat) cs y,css[j]? =some cs->ys[j]? =some y->Q w S cs y)->eH 6 Q w S v ys)
  (hl:css.length=xs.length) (hf:∀j cs,j<xs.length->css[j]? =some cs->ve (cs.drop 2)):Hm w S v (xs.map EF)∧∀b∈xs.map EF,rl b.2.2<=3:=by
 refine⟨hQ BO _ (aL ..) fun j cs y k1 k2=>?_,fun b hb=>?_⟩
 ·rw[aM]at k2;obtain⟨p,hp,rfl⟩:=Option.map_eq_some_iff.1 k2;exact((h4 j cs p k1 hp).Lj (hf j cs (aC.1 hp).1 k1)).1
 ·obtain⟨p,hp,rfl⟩:=aS.1 hb;obtain⟨j,hj⟩:=aR hp;have hjl:=(aC.1 hj).1;have hc:css[j]? =some css[j]:=aA (by omega);exact((h4 j _ p hc hj).Lj (hf j _ hjl hc)).2
set_option maxHeartbeats 1000000 in
theorem Hu{f:ED}(hS:Old S w)(hf:pA w S vn vb vs f):du PG N.oU #[.agg #[vn,vb,vs]] w (eD w fun v' _=>∃d,v'= .bool d∧
  (d=true->dY w S vn vb vs f.val∧(∀b∈f.val.bars,rl b.2.2<=3)∧(∀b∈f.val.cS,rl b.2.2<=3)∧(eK f.val≠0∨f.val.nodes.length<=4∧f.val.bars.length<=6))):=by
 have hw:cQ w.heap.size w w:=cQ.refl;obtain⟨an,cn,rfl,hcn,hmn⟩:=hf.nodes.shape;obtain⟨bcs,hbl,hbz,hb4,hbQ⟩:=hf.bars.cells;obtain⟨qcs,hql,hqz,hq4,hqQ⟩:=hf.cS.cells;obtain⟨ab,cb,rfl,hcb,hmb⟩:=hf.bars.shape;obtain⟨aq,cq,rfl,hcq,hms⟩:=hf.cS.shape;refine yG (by simp) ?_;refine dH.mk (fun h0=>?_) (fun h0=>?_)
 ·intro ρe we re;exact⟨_,rfl,hw.tr re.cI,_,rfl,fun h=>by cases h⟩
 have h0:=aG h0;refine dH.mk (fun h1=>?_) (fun h1=>?_)
 ·intro ρe we re;exact⟨_,rfl,hw.tr re.cI,_,rfl,fun h=>by cases h⟩
 have h1:=aG h1;refine dH.mk (fun h2=>?_) (fun h2=>?_)
 ·intro ρe we re;exact⟨_,rfl,hw.tr re.cI,_,rfl,fun h=>by cases h⟩
 have h2:=aG h2
 refine⟨Nat×World×Iv,fun z=>⟨[(1,.o (.p 0 0)),(3,.o (.v (.int .i64 ((z.1:Nat):Int))))],[(0,.box T.Frame [.v (.slice an f.nodes.length cn),.v (.slice ab f.bars.length cb),.v (.slice aq f.cS.length cq)])],1,z.2.2,z.2.1⟩,fun z=>f.bars.length-z.1,
  fun z=>z.1<=f.bars.length∧cQ w.heap.size w z.2.1∧∀(j:Nat) (cs:List Value),j<z.1->bcs[j]? =some cs->ve (cs.drop 2),?_,?_⟩
 ·intro O w' r3;exact⟨(0,w',_),⟨aP _,hw.tr r3.cI,fun j cs hj=>absurd hj (Nat.not_lt_zero j)⟩,Sub.gn [] r3⟩
 rintro⟨i,w1,iv⟩ ⟨hi,hw,hB⟩;dsimp only at hi hw hB ⊢;refine dH.mk (fun hib=>?_) (fun hib=>?_)
 ·have hib:i<f.bars.length:=by simpa using hib
  obtain⟨cs,hcs⟩:∃cs,bcs[i]? =some cs:=⟨_,aA (by omega)⟩
  obtain⟨p,hp⟩:∃p,f.bars[i]? =some p:=⟨_,aA hib⟩
  obtain⟨g0,g1,g2,g3,g4,g5,g6,g7,rfl,-⟩:=hb4 i cs p hcs hp;obtain⟨adx,cs2,hax,⟨he2,-⟩,-,hat⟩:=hbz.load (by decide) (show (bcs.zip f.bars)[i]? =some (_,p) by rw[List.getElem?_zip_eq_some];exact⟨hcs,hp⟩);have he2:cs2=[.int .i64 p.1,.int .i64 p.2.1,.bool g0,.slice g1 g2 g3,.bool g4,.slice g5 g6 g7]:=he2;subst he2;refine⟨adx,hax,by omega,[.bool g0,.slice g1 g2 g3,.bool g4,.slice g5 g6 g7],rfl,fun O w' r j u hu=>?_,?_⟩
  ·have hj4:=(aC.1 hu).1;obtain⟨k1,k2⟩:=hat (2+j) u (by rcases j with _|_|_|_|j<;>first|exact hu|(have:j+4<4:=hj4;omega));rw[cJ (w:=w) (w2:=w') (by simp only[dq];exact(hw.tr r.cI).block _ (hS _ k1))];simp only[aJ,Hs]at k2 ⊢
   first|exact k2|(rw [<-k2];congr 2;omega)
  refine bu (cE hw (fun _ w' v w2=>∃d,v= .bool d∧(d=true->ve [.bool g0,.slice g1 g2 g3,.bool g4,.slice g5 g6 g7])) (fun O w' r=>(FH (S:=fun g=>g=(O 1).g) (css:=[[.bool g0,.slice g1 g2 g3,.bool g4,.slice g5 g6 g7]]) (fun g hg=>by subst hg;exact Rel.lt r (id:=1) rfl) (r.lj (id:=1) (sz:=4) (n:=1) rfl rfl (by decide) (by repeat' first|refine List.forall_mem_cons.2 ⟨rfl,?_⟩|exact fun u hu=>absurd hu List.not_mem_nil)) (fun cs hc=>by rw[bD.1 hc];exact⟨_,_,_,_,_,_,_,_,rfl⟩)).mono fun _ _ ⟨v2,e1,e2,d,e3,e4⟩=>⟨v2,e1,e2,d,e3,fun h=>(e4 h).2 _ aI⟩) ?_);rintro O wa1 v1 wb1 iv1 r he hw h_ ⟨d2,rfl,hz2⟩
  cases d2
  ·intro ρe we re;exact⟨_,rfl,hw.tr re.cI,_,rfl,fun h=>by cases h⟩
  have hE2:∀j cs,j<i+1->bcs[j]? =some cs->ve (cs.drop 2):=fun j cs hj hc=>by
   rcases aO j i with h|h
   ·exact hB j cs h hc
   ·have:j=i:=by omega
    subst this;rw[hcs]at hc;injection hc with hc;subst hc;exact hz2 rfl
  refine⟨((i+1:Nat):Int),wo,?_⟩;intro ρ3 w6 r3;exact⟨(i+1,w6,_),⟨hib,hw.tr r3.cI,hE2⟩,Sub.gn [] r3,by dsimp only;omega⟩
 have hib:i=f.bars.length:=aQ hi (by simpa using hib);subst hib
 refine⟨Nat×World×Iv,fun z=>⟨[(1,.o (.p 0 0)),(4,.o (.v (.int .i64 ((z.1:Nat):Int))))],[(0,.box T.Frame [.v (.slice an f.nodes.length cn),.v (.slice ab f.bars.length cb),.v (.slice aq f.cS.length cq)])],1,z.2.2,z.2.1⟩,fun z=>f.cS.length-z.1,
  fun z=>z.1<=f.cS.length∧cQ w.heap.size w z.2.1∧∀(j:Nat) (cs:List Value),j<z.1->qcs[j]? =some cs->ve (cs.drop 2),?_,?_⟩
 ·intro O w' r3;exact⟨(0,w',_),⟨aP _,hw.tr r3.cI,fun j cs hj=>absurd hj (Nat.not_lt_zero j)⟩,Sub.gn [] r3⟩
 rintro⟨i,w1,iv⟩ ⟨hi,hw,hQ⟩;dsimp only at hi hw hQ ⊢;refine dH.mk (fun hib=>?_) (fun hib=>?_)
 ·have hib:i<f.cS.length:=by simpa using hib
  obtain⟨cs,hcs⟩:∃cs,qcs[i]? =some cs:=⟨_,aA (by omega)⟩
  obtain⟨p,hp⟩:∃p,f.cS[i]? =some p:=⟨_,aA hib⟩
  obtain⟨g0,g1,g2,g3,g4,g5,g6,g7,rfl,-⟩:=hq4 i cs p hcs hp;obtain⟨adx,cs2,hax,⟨he2,-⟩,-,hat⟩:=hqz.load (by decide) (show (qcs.zip f.cS)[i]? =some (_,p) by rw[List.getElem?_zip_eq_some];exact⟨hcs,hp⟩);have he2:cs2=[.int .i64 p.1,.int .i64 p.2.1,.bool g0,.slice g1 g2 g3,.bool g4,.slice g5 g6 g7]:=he2;subst he2;refine⟨adx,hax,by omega,[.bool g0,.slice g1 g2 g3,.bool g4,.slice g5 g6 g7],rfl,fun O w' r j u hu=>?_,?_⟩
  ·have hj4:=(aC.1 hu).1;obtain⟨k1,k2⟩:=hat (2+j) u (by rcases j with _|_|_|_|j<;>first|exact hu|(have:j+4<4:=hj4;omega));rw[cJ (w:=w) (w2:=w') (by simp only[dq];exact(hw.tr r.cI).block _ (hS _ k1))];simp only[aJ,Hs]at k2 ⊢
   first|exact k2|(rw [<-k2];congr 2;omega)
  refine bu (cE hw (fun _ w' v w2=>∃d,v= .bool d∧(d=true->ve [.bool g0,.slice g1 g2 g3,.bool g4,.slice g5 g6 g7])) (fun O w' r=>(FH (S:=fun g=>g=(O 1).g) (css:=[[.bool g0,.slice g1 g2 g3,.bool g4,.slice g5 g6 g7]]) (fun g hg=>by subst hg;exact Rel.lt r (id:=1) rfl) (r.lj (id:=1) (sz:=4) (n:=1) rfl rfl (by decide) (by repeat' first|refine List.forall_mem_cons.2 ⟨rfl,?_⟩|exact fun u hu=>absurd hu List.not_mem_nil)) (fun cs hc=>by rw[bD.1 hc];exact⟨_,_,_,_,_,_,_,_,rfl⟩)).mono fun _ _ ⟨v2,e1,e2,d,e3,e4⟩=>⟨v2,e1,e2,d,e3,fun h=>(e4 h).2 _ aI⟩) ?_);rintro O wa1 v1 wb1 iv1 r he hw h_ ⟨d2,rfl,hz2⟩
  cases d2
  ·intro ρe we re;exact⟨_,rfl,hw.tr re.cI,_,rfl,fun h=>by cases h⟩
  have hE2:∀j cs,j<i+1->qcs[j]? =some cs->ve (cs.drop 2):=fun j cs hj hc=>by
   rcases aO j i with h|h
   ·exact hQ j cs h hc
   ·have:j=i:=by omega
    subst this;rw[hcs]at hc;injection hc with hc;subst hc;exact hz2 rfl
  refine⟨((i+1:Nat):Int),wo,?_⟩;intro ρ3 w6 r3;exact⟨(i+1,w6,_),⟨hib,hw.tr r3.cI,hE2⟩,Sub.gn [] r3,by dsimp only;omega⟩
 have hib:i=f.cS.length:=aQ hi (by simpa using hib);subst hib;obtain⟨kb,kb2⟩:=Je.of hb4 hbQ hbl hB;obtain⟨kq,kq2⟩:=Je.of hq4 hqQ hql hQ;have hR:dY w S (.slice an f.nodes.length cn) (.slice ab f.bars.length cb) (.slice aq f.cS.length cq) f.val:=⟨hf.nodes,kb,kq⟩
 refine bu (cE hw (fun _ w' v w2=>v= .int .i64 (eK f.val)) (fun O w' r=>Cq (oS hS r) (hR.cB (kS hw r hS))) ?_);rintro O wa1 v1 wb1 iv1 r he hw h_ rfl;obtain⟨e,he⟩:∃e,eK f.val=e:=⟨_,rfl⟩
 rw[he];refine dH.mk (fun hd=>?_) (fun hd=>?_)
 ·have hd:e≠0:=by simpa using hd
  intro ρe we re;exact⟨_,rfl,hw.tr re.cI,_,rfl,fun _=>⟨hR,kb2,kq2,.inl hd⟩⟩
 have hd:e=0:=by simpa using hd
 refine dH.mk (fun h4=>?_) (fun h4=>?_)
 ·have h4:=aH h4;intro ρe we re;exact⟨_,rfl,hw.tr re.cI,_,rfl,fun h=>⟨hR,kb2,kq2,.inr ⟨by show f.nodes.length<=4;omega,by show(f.bars.map EF).length<=6;rw[aL];have:=aH h;omega⟩⟩⟩
 intro ρe we re;exact⟨_,rfl,hw.tr re.cI,_,rfl,fun h=>by cases h⟩
section
variable{xs:List Rat}{l:List (Rat×Rat)}{i:Nat}{x:Rat}{r:Rat×Rat}
end
theorem Cr(hf:dY w S vn vb vs f)(h60:f.bars.length<=60∧f.cS.length<=60):du PG N.oX #[.agg #[vn,vb,vs]] w (eD w fun v' _=>v'= .int .i64 f.cols):=by
 have hw:cQ w.heap.size w w:=cQ.refl;obtain⟨an,cn,ab,cb,aq,cq,rfl,rfl,rfl,hmn,hmb,hms⟩:=hf.shape;refine sQ (by simp) ?_;refine⟨((f.bars.length+f.cS.length:Nat):Int),wo,?_⟩;intro ρe we re;exact⟨_,rfl,hw.tr re.cI,rfl⟩
section
variable{S:Nat->Prop}{w w1 w':World}{H:Hp}{nx:Nat}{iv:Iv}{O:Nat->Sx.dU}
theorem GI{f:ED}(hS:Old S w)(hw:cQ w.heap.size w w1)(r:Rel H nx iv w.heap.size w1 O w')(hf:pA w S vn vb vs f):du PG N.oU #[.agg #[vn,vb,vs]] w' (eD w' fun v' _=>∃d,v'= .bool d∧
  (d=true->dY w S vn vb vs f.val∧(∀b∈f.val.bars,rl b.2.2<=3)∧(∀b∈f.val.cS,rl b.2.2<=3)∧(eK f.val≠0∨f.val.nodes.length<=4∧f.val.bars.length<=6))):=
 have hk:∀g,S g->w'.heap[g]? =w.heap[g]? :=fun g hg=>(hw.tr r.cI).block g (hS g hg)
 (Hu (S:=S) (oS hS r) (hf.cB hk)).mono fun _ _ ⟨v2,e1,e2,d,e3,e4⟩=>⟨v2,e1,e2,d,e3,fun h=>⟨(e4 h).1.cB fun g hg=>(hk g hg).symm,(e4 h).2⟩⟩
end
end Go.Ex
namespace Go.Ex
end Go.Ex
namespace Go.Ex
open Go Go.Sx Go.Proofs
variable{cs:List Value}
theorem GJ{n:Nat}(h:n<9223372036854775807):ln n<=2:=by have:=mU (n:=(n:Int)) (by omega) (by omega);rwa [Int.natAbs_natCast]at this
structure jk{α:Type}(k:Nat)(P:World->(Nat->Prop)->List Value->α->Prop)(w:World)(S:Nat->Prop)(css:List (List Value))(qs:List α):Prop where
 len:css.length=qs.length
 wid:∀cs∈css,cs.length=k
 at_:∀(j:Nat) cs q,css[j]? =some cs->qs[j]? =some q->P w S cs q
section
variable{α:Type}{k:Nat}{P:World->(Nat->Prop)->List Value->α->Prop}{w w2:World}{S S':Nat->Prop}{css:List (List Value)}{qs:List α}
theorem jk.nil:jk k P w S [] []:=⟨rfl,fun _ h=>(by cases h),fun _ _ _ h=>by cases h⟩
theorem jk.map{P':World->(Nat->Prop)->List Value->α->Prop}(h:jk k P w S css qs)(hP:∀cs q,P w S cs q->P' w2 S' cs q):jk k P' w2 S' css qs:=⟨h.len,h.wid,fun j cs q h1 h2=>hP cs q (h.at_ j cs q h1 h2)⟩
theorem jk.push{q:α}(h:jk k P w S css qs)(hc:P w S cs q)(h4:cs.length=k):jk k P w S (css++[cs]) (qs++[q]):=by
 refine⟨by simp[h.len],fun x hx=>?_,fun j x p h1 h2=>?_⟩
 ·rcases bK.1 hx with hx|hx
  ·exact h.wid x hx
  ·rw[bD.1 hx];exact h4
 ·rcases aO j css.length with hi|hi
  ·rw[aK hi]at h1;rw[aK (by rw[<-h.len];exact hi)]at h2;exact h.at_ j x p h1 h2
  ·have hi0:j=css.length:=by have:=(aC.1 h1).1;simp at this;omega
   subst hi0;rw[aN (aE _),bH]at h1;rw[h.len,aN (aE _),bH]at h2;simp at h1 h2;subst h1 h2;exact hc
theorem jk.one(h:jk k P w S css qs)(h1:∀cs q,P w S cs q->∀u∈cs,u.oneCell'=true):∀u∈css.flatten,u.oneCell'=true:=fun u hu=>by
 obtain⟨cs,hc,hu⟩:=List.mem_flatten.1 hu;obtain⟨j,hj⟩:=aR hc;exact h1 cs _ (h.at_ j cs _ hj (aA (by rw[<-h.len];exact(aC.1 hj).1))) u hu
theorem jk.list{v:Value}(h:jk k P w S css qs)(hs:jN w S k v css.flatten css.length):eH k P w S v qs:=⟨css,h.len▸hs,h.len,h.wid,h.at_⟩
end
theorem FI{n:Int}(h:n.natAbs<9223372036854775807):rl (n:Rat)<=2:=by
 have h2:ln n.natAbs<=2:=GJ h;unfold rl;rw[Rat.num_intCast,Rat.den_intCast];have h3:ln 1=1:=by decide
 omega
section
variable{S S':Nat->Prop}{H:Hp}{nx:Nat}{iv iv':Iv}{B:Nat}{w w' w2:World}{O:Nat->Sx.dU}{v:Value}{l:List (Rat×Rat)}
end
end Go.Ex
namespace Go.Ex
abbrev I3:=Int×Int×Int
def tL(s:Nat->I3)(fa:Int)(x:Ld):Nat->I3:=fun n=>if(n:Int)=x.1 then((s n).1+fa*x.2.1,(s n).2.1+fa*x.2.2.1,(s n).2.2+fa*x.2.2.2)else s n
def qe(s:Nat->I3)(fa:Int)(l:List Ld):Nat->Nat->I3
 |0=>s
 |k+1=>tL (qe s fa l k) fa (l.getD k (0,0,0,0))
def fI(cs:List (List Ld))(fs:List Int):Nat->Nat->I3
 |0=>fun _=>(0,0,0)
 |c+1=>qe (fI cs fs c) (fs.getD c 0) (cs.getD c []) (cs.getD c []).length
def D4(p:I3):Prop:=jn p.1∧jn p.2.1∧jn p.2.2
instance (p : I3) : Decidable (D4 p) := by unfold D4; infer_instance
def GY(n:Int):Int:=if -100<=n∧n<=100 then 0 else 2
def CG(s:Nat->I3)(n:Nat):Int:=if D4 (s n)then 0 else 8
def kr(cs:List (List Ld))(fs:List Int):Int:=
 if 16<cs.length then 8 else if fs.length≠cs.length then 11 else if dJ (fun _=>GY) [] fs≠0 then 2 else
  if dJ (fun _=>jc 20) [] cs≠0 then dJ (fun _=>jc 20) [] cs else dJ (fun _=>CG (fI cs fs cs.length)) [] (List.range 20)
def ek(s:Nat->I3):Nat->List Ld
 |0=>[]
 |n+1=>if s n=(0,0,0)then ek s n else ek s n++[((n:Int),s n)]
theorem qf(s:Nat->I3):∀n,(ek s n).length<=n
 |0=>aE _
 |n+1=>by
  have:=qf s n;rw[ek];split
  ·omega
  ·rw[List.length_append,List.length_singleton];omega
def Kh(s:Nat->I3)(t:Int):Prop:=∀n,(-t<=(s n).1∧(s n).1<=t)∧(-t<=(s n).2.1∧(s n).2.1<=t)∧(-t<=(s n).2.2∧(s n).2.2<=t)
theorem tM{a b:Int}(h1: -100<=a)(h2:a<=100)(h3: -1000000<=b)(h4:b<=1000000): -100000000<=a*b∧a*b<=100000000:=by
 have e:(a*b).natAbs<=100*1000000:=by rw[Int.natAbs_mul];exact Nat.mul_le_mul (by omega) (by omega)
 omega
theorem Kh.add{s:Nat->I3}{t fa:Int}{x:Ld}(h:Kh s t)(hf: -100<=fa∧fa<=100)(hx:jn x.2.1∧jn x.2.2.1∧jn x.2.2.2):Kh (tL s fa x) (t+100000000):=fun n=>by
 obtain⟨⟨a1,a2⟩,⟨a3,a4⟩,a5,a6⟩:=hx;have h1:=tM hf.1 hf.2 a1 a2;have h2:=tM hf.1 hf.2 a3 a4;have h3:=tM hf.1 hf.2 a5 a6;have:=h n;unfold tL;split
 ·dsimp only;omega
 ·omega
def zf(s:Nat->I3)(j:Nat):Int:=if j % 4=1 then(s (j / 4)).1 else if j % 4=2 then(s (j / 4)).2.1 else if j % 4=3 then(s (j / 4)).2.2 else 0
def pf(z:Nat->Int)(j:Nat)(v:Int)(i:Nat):Int:=if i=j then v else z i
theorem CH(s:Nat->I3)(n:Nat):zf s (4*n)=0∧zf s (4*n+1)=(s n).1∧zf s (4*n+2)=(s n).2.1∧zf s (4*n+3)=(s n).2.2:=by
 unfold zf;refine⟨?_,?_,?_,?_⟩
 ·rw[aF (by omega),aF (by omega),aF (by omega)]
 ·rw[if_pos (by omega),show(4*n+1) / 4=n by omega]
 ·rw[aF (by omega),if_pos (by omega),show(4*n+2) / 4=n by omega]
 ·rw[aF (by omega),aF (by omega),if_pos (by omega),show(4*n+3) / 4=n by omega]
theorem KA(s:Nat->I3)(fa:Int)(x:Ld){n:Nat}(hn:x.1=n)(j:Nat):
  pf (pf (pf (zf s) (4*n+1) ((s n).1+fa*x.2.1)) (4*n+2) ((s n).2.1+fa*x.2.2.1)) (4*n+3) ((s n).2.2+fa*x.2.2.2) j=zf (tL s fa x) j:=by
 unfold pf;by_cases h3:j=4*n+3
 ·subst h3;rw[if_pos rfl,(CH _ n).2.2.2,tL,if_pos hn.symm]
 rw[aF h3];by_cases h2:j=4*n+2
 ·subst h2;rw[if_pos rfl,(CH _ n).2.2.1,tL,if_pos hn.symm]
 rw[aF h2];by_cases h1:j=4*n+1
 ·subst h1;rw[if_pos rfl,(CH _ n).2.1,tL,if_pos hn.symm]
 rw[aF h1];unfold zf;by_cases hj:j / 4=n
 ·rw[aF (by omega),aF (by omega),aF (by omega),aF (by omega),aF (by omega),aF (by omega)]
 ·have:tL s fa x (j / 4)=s (j / 4):=by rw[tL,aF (by omega)]
  rw[this]
theorem HA(z:Nat->Int){j:Nat}(v:Int){m:Nat}(hj:j<m):((List.range m).map z).set j v=(List.range m).map (pf z j v):=by
 refine bO fun i=>?_;rw[List.getElem?_set,aM];by_cases h:j=i
 ·subst h;rw[if_pos rfl,if_pos (by simpa using hj),aM,bS hj];simp[pf]
 ·rw[aF h,aM];rcases aO i m with h2|h2
  ·rw[bS h2];simp only[pf,Option.map_some,aF (fun e:i=j=>h e.symm)]
  ·rw[List.getElem?_eq_none (by simpa using h2)];rfl
end Go.Ex
