/- A part of the proof: texts X145 to L44. Each tells its conditions in its theorems. -/
import Derived.Test.YtkdcaknoaeicdaaGreatP7
import Derived.Test.YtkdcaknoaeicdaaGreatP11
namespace Go.Ex
open Go Go.Sx Go.Proofs
variable{cs:Array Value}{iv:Iv}{xs:List (Int×Int×Int)}{css:List (List Value)}{l:List Int}{B i id n:Nat}{S:Nat->Prop}{O:Nat->Sx.dS}{a:Option Addr}{v vb vn vs:Value}{w:World}{f:ei}
theorem ec{j:Nat}(h:cs[j]? =some v)(w:World):(part T.int cs j).run PG w= .ok v w:=by
 have:=(hτ T.int _ rfl).isAgg w;simp only[part,Sem.run_bind,this,Result.andThen]
 simp[h]
theorem eq_int(d:Nat)(a b:Int)(w:World):(Op.equalIn (d+1) T.int (.int .i64 a) (.int .i64 b)).run PG w= .ok (a==b) w:=by
 unfold Op.equalIn;simp[run_underlying ((hτ T.int _ rfl).i1 rfl)]
theorem I7(p0 p1 p2 q0 q1 q2:Int)(w:World):(Op.equal T.Node (.agg #[.int .i64 p0,.int .i64 p1,.int .i64 p2]) (.agg #[.int .i64 q0,.int .i64 q1,.int .i64 q2])).run PG w= .ok (decide (p0=q0∧p1=q1∧p2=q2)) w:=by
 have h:=run_underlying Tryz.underlying169;simp only[Op.equal,Op.maxDepth]
 unfold Op.equalIn;have a0:=ec (cs:= #[Value.int .i64 p0,Value.int .i64 p1,Value.int .i64 p2]) (j:=0) rfl;have a1:=ec (cs:= #[Value.int .i64 p0,Value.int .i64 p1,Value.int .i64 p2]) (j:=1) rfl;have a2:=ec (cs:= #[Value.int .i64 p0,Value.int .i64 p1,Value.int .i64 p2]) (j:=2) rfl;have b0:=ec (cs:= #[Value.int .i64 q0,Value.int .i64 q1,Value.int .i64 q2]) (j:=0) rfl;have b1:=ec (cs:= #[Value.int .i64 q0,Value.int .i64 q1,Value.int .i64 q2]) (j:=1) rfl;have b2:=ec (cs:= #[Value.int .i64 q0,Value.int .i64 q1,Value.int .i64 q2]) (j:=2) rfl;simp[h,a0,a1,a2,b0,b1,b2,eq_int 9998];by_cases h0:p0=q0
 ·by_cases h1:p1=q1
  ·by_cases h2:p2=q2<;>simp[h0,h1,h2]
  ·simp[h0,h1]
 ·simp[h0]
theorem I8(p0 p1 q0 q1:Int)(w:World):(Op.equal T.Aa (.agg #[.int .i64 p0,.int .i64 p1]) (.agg #[.int .i64 q0,.int .i64 q1])).run PG w= .ok (decide (p0=q0∧p1=q1)) w:=by
 have h:=run_underlying Tryz.underlying187;simp only[Op.equal,Op.maxDepth]
 unfold Op.equalIn;have a0:=ec (cs:= #[Value.int .i64 p0,Value.int .i64 p1]) (j:=0) rfl;have a1:=ec (cs:= #[Value.int .i64 p0,Value.int .i64 p1]) (j:=1) rfl;have b0:=ec (cs:= #[Value.int .i64 q0,Value.int .i64 q1]) (j:=0) rfl;have b1:=ec (cs:= #[Value.int .i64 q0,Value.int .i64 q1]) (j:=1) rfl;simp[h,a0,a1,b0,b1,eq_int 9998];by_cases h0:p0=q0
 ·by_cases h1:p1=q1<;>simp[h0,h1]
 ·simp[h0]
abbrev AA(p:Int×Int×Int):Value:=.agg #[.int .i64 p.1,.int .i64 p.2.1,.int .i64 p.2.2]
theorem C9(p q:Int×Int×Int)(w:World)(o1 o2:Operand):(do eqGuard .eql T.Node o1 o2 (AA p) (AA q);binOp .eql T.Node (AA p) (AA q)).run PG w= .ok (.bool (decide (p=q))) w:=by
 have h:=I7 p.1 p.2.1 p.2.2 q.1 q.2.1 q.2.2 w;simp[eqGuard,binOp,h];obtain⟨a,b,c⟩:=p;obtain⟨a2,b2,c2⟩:=q;by_cases h0:a=a2
 ·by_cases h1:b=b2
  ·by_cases h2:c=c2<;>simp[h0,h1,h2]
  ·simp[h0,h1]
 ·simp[h0]
def mI(k:Int×Int):Value:=.agg #[.int .i64 k.1,.int .i64 k.2]
theorem oc{a b:Int×Int}(h:mI a=mI b):a=b:=by
 unfold mI at h;injection h with h;have h1:=congrArg (fun x=>x[0]?) h;have h2:=congrArg (fun x=>x[1]?) h;simp at h1 h2;exact Prod.ext h1 h2
theorem Ff(d:Nat)(a:Int)(em:Bool)(w:World):(Instr.checkKey em (d+1) T.int (.int .i64 a)).run PG w= .ok () w:=by
 unfold Instr.checkKey;simp[run_underlying ((hτ T.int _ rfl).i1 rfl)]
theorem Dj(p0 p1:Int)(em:Bool)(w:World):(Instr.checkKey em 10000 T.Aa (.agg #[.int .i64 p0,.int .i64 p1])).run PG w= .ok () w:=by
 have h:=run_underlying Tryz.underlying187;have a0:=ec (cs:= #[Value.int .i64 p0,Value.int .i64 p1]) (j:=0) rfl;have a1:=ec (cs:= #[Value.int .i64 p0,Value.int .i64 p1]) (j:=1) rfl;unfold Instr.checkKey;simp[h,a0,a1,Ff 9998]
theorem wA:GL PG T.Aa (fun v=>∃k,v=mI k) where
 desc:=⟨_,Tryz.underlying187⟩
 check:=fun w em v ⟨k,e⟩=>by subst e;exact Dj k.1 k.2 em w
 eq:=fun w a b ⟨p,e1⟩ ⟨q,e2⟩=>by
  subst e1 e2;refine⟨_,I8 p.1 p.2 q.1 q.2 w,?_⟩;rw[decide_eq_true_iff];exact⟨fun h=>by rw[show p=q from Prod.ext h.1 h.2],fun h=>by have:=oc h;subst this;exact⟨rfl,rfl⟩⟩
theorem sT:PG.underlying T.uw=some (.map T.Aa T.bool):=Tryz.underlying185
theorem AB(w:World):(zeroValue T.bool).run PG w= .ok (.bool false) w:=by kernel_rfl
theorem HV(ad:Option Addr)(k:Nat):ad.map (·.add (0*k))=ad:=by
 rw[Nat.zero_mul]
 cases ad with
 |none=>rfl
 |some a=>simp only[Option.map_some,Option.some.injEq];unfold Addr.add;split<;>simp_all
theorem eI.take{α:Type}{k:Nat}{P:World->(Nat->Prop)->List Value->α->Prop}{c:Nat}{xs:List α}(h:eI k P w S (.slice a n c) xs)(hi:i<=xs.length):
  eI k P w S (.slice a i c) (xs.take i):=by
 obtain⟨css,⟨h0,h1,h2,a',c',e,h3,h4⟩,hl,hlk,hf⟩:=h;injection e with e1 e2 e3;subst e1 e2 e3;have hlen:(css.take i).length=i:=by rw[aW,hl];omega
 have hli:(xs.take i).length=i:=by rw[aW];omega
 have hsplit:css.flatten=(css.take i).flatten++(css.drop i).flatten:=by rw[<-List.flatten_append,List.take_append_drop]
 refine⟨css.take i,⟨by omega,?_,fun u hu=>h2 u (by rw[hsplit];exact List.mem_append_left _ hu),a,c,by rw[hli],by omega,fun j u hj=>h4 j u ?_⟩,by rw[hlen,hli],fun cs hc=>hlk cs (List.mem_of_mem_take hc),fun j cs x k1 k2=>?_⟩
 ·rw[tk fun cs hc=>hlk cs (List.mem_of_mem_take hc),hlen,hli]
 ·rw[hsplit,aK (aC.1 hj).1];exact hj
 ·have hj:=(aC.1 k1).1;rw[hlen]at hj;rw[bK hj]at k1 k2;exact hf j cs x k1 k2
theorem l0.cB{w2:World}(h:l0 w S v xs)(hk:∀g,S g->w2.heap[g]? =w.heap[g]?):l0 w2 S v xs:=eI.cB (w:=w) (fun _ _ h=>h) h hk
theorem BE(hS:Old S w)(hn:l0 w S vn xs)(p:Int×Int×Int):di PG N.fI #[vn,AA p] w (dw w fun v' _=>∃r,v'= .int .i64 r∧(-1<=r)∧(0<=r↔p∈xs)):=by
 have hw:cR w.heap.size w w:=cR.refl;obtain⟨an,cn,rfl,hcn,hmn⟩:=hn.shape;unfold maxLen at hmn;refine gf (by simp) ?_
 refine⟨Nat×World,fun z=>⟨[(0,.o (.v (.slice an xs.length cn))),(3,.o (.p 0 0)),(7,.o (.v (.int .i64 xs.length))),(8,.o (.v (.int .i64 ((z.1:Nat):Int))))],[(0,.box T.Node [.v (.int .i64 p.1),.v (.int .i64 p.2.1),.v (.int .i64 p.2.2)])],1,[],z.2⟩,fun z=>xs.length-z.1,
  fun z=>z.1<=xs.length∧cR w.heap.size w z.2∧(p∈xs↔p∈xs.drop z.1),?_,?_⟩
 ·intro O w' r3;exact⟨(0,w'),⟨aP _,hw.tr r3.cI,Iff.rfl⟩,Sub.gn [] r3⟩
 rintro⟨i,w1⟩ ⟨hi,hw,hE⟩;dsimp only at hi hw hE ⊢;refine dF.mk (fun hib=>?_) (fun hib=>?_)
 ·have hib:i<xs.length:=by simpa using hib
  obtain⟨q,hx⟩:∃x,xs[i]? =some x:=⟨_,aA hib⟩
  have hdr:xs.drop i=q::xs.drop (i+1):=by rw[List.drop_eq_getElem_cons hib,(aC.1 hx).2]
  obtain⟨adx,cs,hax,hP,-,hlx⟩:=hn.load (by decide) hx;have hP:cs=[.int .i64 q.1,.int .i64 q.2.1,.int .i64 q.2.2]:=hP;subst hP;refine im hτ dc (.x 1 (.x 2 (.x 3 (.ld 0 32 (.ld 4 32 (.x 5 .nil)))))) (by kernel_rfl) (by kernel_rfl) ?_;refine⟨adx,hax,by omega,[.int .i64 q.1,.int .i64 q.2.1,.int .i64 q.2.2],rfl,rdO hlx hw hS,decide (p=q),fun O w o1 o2=>C9 p q w o1 o2,?_⟩;refine dF.mk (fun hd=>?_) (fun hd=>?_)
  ·have hd:p=q:=aG hd;intro ρe we re;exact⟨_,rfl,hw.tr re.cI,_,rfl,by omega,iff_of_true (by omega) (hE.2 (by rw[hdr,hd];exact aH))⟩
  have hd:p≠q:=aF hd;rw[hdr,List.mem_cons,or_iff_right hd]at hE;refine⟨((i+1:Nat):Int),wo,?_⟩;intro ρ3 w6 r3;exact⟨(i+1,w6),⟨hib,hw.tr r3.cI,hE⟩,Sub.gn [] r3,by dsimp only;omega⟩
 have hib:i=xs.length:=aQ hi (by simpa using hib);rw[hib,List.drop_length]at hE;intro ρe we re;exact⟨_,rfl,hw.tr re.cI,_,rfl,by omega,iff_of_false (by omega) fun h=>by cases hE.1 h⟩
theorem vP(hS:Old S w)(hn:l0 w S vn xs)(p:Int×Int×Int):di PG N.eh #[vn,AA p] w (dw w fun v' _=>∃d,v'= .bool d∧(d=true↔p∈xs)):=by
 have hw:cR w.heap.size w w:=cR.refl;obtain⟨an,cn,rfl,hcn,hmn⟩:=hn.shape;refine gN (by simp) ?_;refine bw (cE hw (fun _ w' v w2=>∃r,v= .int .i64 r∧(-1<=r)∧(0<=r↔p∈xs)) (fun O w' r=>BE (p:=p) (oS hS r) (l0.cB hn (kS hw r hS))) ?_);rintro O wa1 v1 wb1 iv1 r he hw h_ ⟨r0,rfl,hr0,hr1⟩;intro ρe we re;exact⟨_,rfl,hw.tr re.cI,_,rfl,by rw[decide_eq_true_iff];exact hr1⟩
def vQ(w:World)(S:Nat->Prop)(g:Nat)(ks:List Value):Prop:=S g∧Be w g ks
section
variable{S:Nat->Prop}{H:Hp}{nx:Nat}{iv iv':Iv}{B:Nat}{w w' w2:World}{O:Nat->Sx.dS}{g:Nat}{ks:List Value}
theorem vQ.rel(h:vQ w (Cv S B iv) g ks)(r:Rel H nx iv B w O w')(hS:∀g,S g->g<B):vQ w' (Cv S B iv) g ks:=⟨h.1,h.2.cB (Rel.same r hS h.1)⟩
theorem vQ.bz(h:vQ w (Cv S B iv) g ks)(r:Rel H nx iv B w O w')(hS:∀g,S g->g<B)(he:Ext w' w2)(hm:∀p,p∈iv->p∈iv'):vQ w2 (Cv S B iv') g ks:=
 ⟨h.1.mono hm,(h.rel r hS).2.cB (he.block g (Rel.old r hS g h.1))⟩
end
set_option maxHeartbeats 2000000 in
theorem yO(hS:Old S w)(hf:dU w S vn vb vs f):di PG N.pe #[.agg #[vn,vb,vs]] w (dw w fun v' _=>v'= .int .i64 (dx f)):=by
 have hw:cR w.heap.size w w:=cR.refl;obtain⟨an,cn,ab,cb,aq,cq,rfl,rfl,rfl,hmn,hmb,hms⟩:=hf.shape;obtain⟨_,_,hsh,hcn,_⟩:=hf.nodes.shape;injection hsh with e1 e2 e3;subst e1 e3;refine tU (by simp) ?_;refine dF.mk (fun h0=>?_) (fun h0=>?_)
 ·have h0:=aG h0;intro ρe we re;exact⟨_,rfl,hw.tr re.cI,by show Value.int .i64 _=_;rw[dx,if_pos (by omega)]⟩
 have h0:=aF h0;refine dF.mk (fun h1=>?_) (fun h1=>?_)
 ·have h1:=aG h1;intro ρe we re;exact⟨_,rfl,hw.tr re.cI,by show Value.int .i64 _=_;rw[dx,if_pos (by omega)]⟩
 have h1:=aF h1;refine dF.mk (fun h2=>?_) (fun h2=>?_)
 ·have h2:=aG h2;intro ρe we re;exact⟨_,rfl,hw.tr re.cI,by show Value.int .i64 _=_;rw[dx,if_pos (by omega)]⟩
 have h2:=aF h2
 refine⟨Nat×World×Iv,fun z=>⟨[(1,.o (.p 0 0)),(30,.o (.v (.slice an f.nodes.length cn))),(31,.o (.v (.int .i64 f.nodes.length))),(32,.o (.v (.int .i64 ((z.1:Nat):Int))))],[(0,.box T.Frame [.v (.slice an f.nodes.length cn),.v (.slice ab f.bars.length cb),.v (.slice aq f.cS.length cq)])],1,z.2.2,z.2.1⟩,fun z=>f.nodes.length-z.1,
  fun z=>z.1<=f.nodes.length∧cR w.heap.size w z.2.1∧eN eS [] f.nodes=eN eS (f.nodes.take z.1) (f.nodes.drop z.1),?_,?_⟩
 ·intro O w' r3;exact⟨(0,w',[]),⟨aP _,hw.tr r3.cI,rfl⟩,Sub.gn [] r3⟩
 rintro⟨i,w1,iv⟩ ⟨hi,hw,hE⟩;dsimp only at hi hw hE ⊢;refine dF.mk (fun hib=>?_) (fun hib=>?_)
 ·have hib:i<f.nodes.length:=by simpa using hib
  obtain⟨q,hx⟩:∃x,f.nodes[i]? =some x:=⟨_,aA hib⟩
  obtain⟨adx,cs,hax,hP,-,hlx⟩:=hf.nodes.load (by decide) hx;have hP:cs=[.int .i64 q.1,.int .i64 q.2.1,.int .i64 q.2.2]:=hP;subst hP;refine⟨adx,hax,by omega,[.int .i64 q.1,.int .i64 q.2.1,.int .i64 q.2.2],rfl,rdO hlx hw hS,?_⟩;refine bw (cE hw (fun _ w' v w2=>∃d,v= .bool d∧(d=true↔l8 q.1)) (fun O w' r=>kG _ w') ?_);rintro O wa1 v1 wb1 iv1 r he hw h_ ⟨d0,rfl,hz0⟩
  cases d0
  ·have hz0:¬l8 q.1:=fun h=>by have:=hz0.2 h;cases this
   intro ρe we re;exact⟨_,rfl,hw.tr re.cI,by show Value.int .i64 _=_;rw[dx,aI (by omega),if_pos (by rw[hE,cL hx (show eS (f.nodes.take i) q=2 by rw[eS,aI (fun h=>hz0 h.1)]) (by decide)];decide),hE,cL hx (show eS (f.nodes.take i) q=2 by rw[eS,aI (fun h=>hz0 h.1)]) (by decide)]⟩
  replace hz0:=hz0.1 rfl;refine bw (cE hw (fun _ w' v w2=>∃d,v= .bool d∧(d=true↔l8 q.2.1)) (fun O w' r=>kG _ w') ?_);rintro O wa2 v2 wb2 iv2 r he hw h_ ⟨d1,rfl,hz1⟩
  cases d1
  ·have hz1:¬l8 q.2.1:=fun h=>by have:=hz1.2 h;cases this
   intro ρe we re;exact⟨_,rfl,hw.tr re.cI,by show Value.int .i64 _=_;rw[dx,aI (by omega),if_pos (by rw[hE,cL hx (show eS (f.nodes.take i) q=2 by rw[eS,aI (fun h=>hz1 h.2.1)]) (by decide)];decide),hE,cL hx (show eS (f.nodes.take i) q=2 by rw[eS,aI (fun h=>hz1 h.2.1)]) (by decide)]⟩
  replace hz1:=hz1.1 rfl;refine bw (cE hw (fun _ w' v w2=>∃d,v= .bool d∧(d=true↔l8 q.2.2)) (fun O w' r=>kG _ w') ?_);rintro O wa3 v3 wb3 iv3 r he hw h_ ⟨d2,rfl,hz2⟩
  cases d2
  ·have hz2:¬l8 q.2.2:=fun h=>by have:=hz2.2 h;cases this
   intro ρe we re;exact⟨_,rfl,hw.tr re.cI,by show Value.int .i64 _=_;rw[dx,aI (by omega),if_pos (by rw[hE,cL hx (show eS (f.nodes.take i) q=2 by rw[eS,aI (fun h=>hz2 h.2.2)]) (by decide)];decide),hE,cL hx (show eS (f.nodes.take i) q=2 by rw[eS,aI (fun h=>hz2 h.2.2)]) (by decide)]⟩
  replace hz2:=hz2.1 rfl;refine im hτ dc (.x 0 (.x 2 (.ld 1 104 (.x 3 (.ld 4 96 (.x 5 (.x 6 .nil))))))) (by kernel_rfl) (by kernel_rfl) ?_;refine⟨⟨by omega,by omega,by omega⟩,an,i,cn,by rw[show ((0:Int).toNat*3)=0*3 from rfl,HV];split<;>rfl,by simp,by simp,?_⟩;refine cE hw (fun _ w' v w2=>∃d,v= .bool d∧(d=true↔q∈f.nodes.take i)) (fun O w' r=>vP (p:=q) (oS hS r) (l0.cB (hf.nodes.take (Nat.le_of_lt hib)) (kS hw r hS))) ?_;rintro O wa4 v4 wb4 iv4 r he hw h_ ⟨d3,rfl,hz3⟩
  cases d3
  ·have hz3:q∉f.nodes.take i:=fun h=>by have:=hz3.2 h;cases this
   rw[fk hx (ql.2 ⟨⟨hz0,hz1,hz2⟩,hz3⟩)]at hE;refine⟨((i+1:Nat):Int),wo,?_⟩;intro ρ3 w6 r3;exact⟨(i+1,w6,_),⟨hib,hw.tr r3.cI,hE⟩,Sub.gn [] r3,by dsimp only;omega⟩
  replace hz3:=hz3.1 rfl;intro ρe we re;exact⟨_,rfl,hw.tr re.cI,by show Value.int .i64 _=_;rw[dx,aI (by omega),if_pos (by rw[hE,cL hx (show eS (f.nodes.take i) q=12 by rw[eS,if_pos ⟨hz0,hz1,hz2⟩,if_pos hz3]) (by decide)];decide),hE,cL hx (show eS (f.nodes.take i) q=12 by rw[eS,if_pos ⟨hz0,hz1,hz2⟩,if_pos hz3]) (by decide)]⟩
 have hib:i=f.nodes.length:=aQ hi (by simpa using hib);rw[gw (by omega)]at hE;refine uC (fun O wa wb r hM0 hg hsz=>?_);have hw2:=(hw.tr r.cI).tr (cR.grown hg (fun x e=>by cases e) r.bu);have hB:w.heap.size<=wa.heap.size:=r.bu;have hM:vQ wb (Cf w ((wa.heap.size,wa.heap.size+1)::iv)) wa.heap.size []:=⟨.inr ⟨hB,_,_,aH,aE _,bo _⟩,hM0⟩
 generalize (wa.heap.size,wa.heap.size+1)::iv=iv2 at*
 obtain⟨gm,hgm⟩:∃gm,wa.heap.size=gm:=⟨_,rfl⟩
 rw[hgm]at hM ⊢;have hw:=hw2
 refine⟨Nat×World×Iv,fun z=>⟨[(1,.o (.p 0 0)),(5,.o (.v (.map (some gm)))),(64,.o (.v (.slice ab f.bars.length cb))),(65,.o (.v (.int .i64 f.bars.length))),(66,.o (.v (.int .i64 ((z.1:Nat):Int))))],[(0,.box T.Frame [.v (.slice an f.nodes.length cn),.v (.slice ab f.bars.length cb),.v (.slice aq f.cS.length cq)])],1,z.2.2,z.2.1⟩,fun z=>f.bars.length-z.1,
  fun z=>z.1<=f.bars.length∧cR w.heap.size w z.2.1∧eN (eX f.nodes.length) [] f.bars=eN (eX f.nodes.length) (f.bars.take z.1) (f.bars.drop z.1)∧vQ z.2.1 (Cf w z.2.2) gm ((f.bars.take z.1).map fun b=>mI (fY b)),?_,?_⟩
 ·intro O w' r3;exact⟨(0,w',iv2),⟨aP _,hw.tr r3.cI,rfl,hM.rel r3 (bs w)⟩,Sub.gn [] r3⟩
 rintro⟨i,w1,iv⟩ ⟨hi,hw,hE2,hM⟩;dsimp only at hi hw hE2 hM ⊢;refine dF.mk (fun hib=>?_) (fun hib=>?_)
 ·have hib:i<f.bars.length:=by simpa using hib
  obtain⟨b,hx⟩:∃b,f.bars[i]? =some b:=⟨_,aA hib⟩
  obtain⟨adb,cs,hab,hF,-,hlb⟩:=hf.bars.load (by decide) hx;obtain⟨g0,g1,g2,g3,g4,g5,g6,g7,rfl,hF⟩:=hF;refine⟨adb,hab,by omega,[.int .i64 b.1,.int .i64 b.2.1,.bool g0,.slice g1 g2 g3,.bool g4,.slice g5 g6 g7],rfl,rdO hlb hw hS,?_⟩;refine bw (cE hw (fun _ w' v w2=>∃d,v= .bool d∧(d=true↔iH f.nodes.length b.1)) (fun O w' r=>Di _ w' _ _ _ _ _ _ _ _ _) ?_);rintro O wa1 v1 wb1 iv1 r he hw h_ ⟨d0,rfl,hz0⟩;replace hM:=hM.bz r (bs w) he (mC h_)
  cases d0
  ·have hz0:¬iH f.nodes.length b.1:=fun h=>by have:=hz0.2 h;cases this
   intro ρe we re;exact⟨_,rfl,hw.tr re.cI,by show Value.int .i64 _=_;rw[dx,aI (by omega),aI (by rw[hE];decide),if_pos (by rw[hE2,cL hx (show eX f.nodes.length (f.bars.take i) b=6 by rw[eX,aI (fun h=>hz0 h.1)]) (by decide)];decide),hE2,cL hx (show eX f.nodes.length (f.bars.take i) b=6 by rw[eX,aI (fun h=>hz0 h.1)]) (by decide)]⟩
  replace hz0:=hz0.1 rfl;refine bw (cE hw (fun _ w' v w2=>∃d,v= .bool d∧(d=true↔iH f.nodes.length b.2.1)) (fun O w' r=>Di _ w' _ _ _ _ _ _ _ _ _) ?_);rintro O wa2 v2 wb2 iv2 r he hw h_ ⟨d1,rfl,hz1⟩;replace hM:=hM.bz r (bs w) he (mC h_)
  cases d1
  ·have hz1:¬iH f.nodes.length b.2.1:=fun h=>by have:=hz1.2 h;cases this
   intro ρe we re;exact⟨_,rfl,hw.tr re.cI,by show Value.int .i64 _=_;rw[dx,aI (by omega),aI (by rw[hE];decide),if_pos (by rw[hE2,cL hx (show eX f.nodes.length (f.bars.take i) b=6 by rw[eX,aI (fun h=>hz1 h.2)]) (by decide)];decide),hE2,cL hx (show eX f.nodes.length (f.bars.take i) b=6 by rw[eX,aI (fun h=>hz1 h.2)]) (by decide)]⟩
  replace hz1:=hz1.1 rfl;refine dF.mk (fun hab2=>?_) (fun hab2=>?_)
  ·have hab2:b.1=b.2.1:=by simpa using hab2
   intro ρe we re;exact⟨_,rfl,hw.tr re.cI,by show Value.int .i64 _=_;rw[dx,aI (by omega),aI (by rw[hE];decide),if_pos (by rw[hE2,cL hx (show eX f.nodes.length (f.bars.take i) b=3 by rw[eX,if_pos ⟨hz0,hz1⟩,if_pos hab2]) (by decide)];decide),hE2,cL hx (show eX f.nodes.length (f.bars.take i) b=3 by rw[eX,if_pos ⟨hz0,hz1⟩,if_pos hab2]) (by decide)]⟩
  have hab2:b.1≠b.2.1:=by simpa using hab2
  refine wS wA sT AB rfl rfl (key:=mI (fY b)) (fun _=>rfl) ⟨_,rfl⟩ (fun k hk=>by obtain⟨x,_,rfl⟩:=aR.1 hk;exact⟨_,rfl⟩) (fun O w' r=>(hM.rel r (bs w)).2) (fun O w' d r hd=>?_);replace hw:=hw.tr r.cI;replace hM:=hM.rel r (bs w);replace hd:d=true↔fY b∈(f.bars.take i).map fY:=by
   rw[hd];constructor
   ·intro h;obtain⟨x,h1,h2⟩:=aR.1 h;exact aR.2 ⟨x,h1,oc h2⟩
   ·intro h;obtain⟨x,h1,h2⟩:=aR.1 h;exact aR.2 ⟨x,h1,congrArg mI h2⟩
  cases d
  ·have hdup:fY b∉(f.bars.take i).map fY:=fun h=>by have:=hd.2 h;cases this
   refine bw (cE hw (fun _ w' v w2=>v= .int .i64 (rs b.2.2)) (fun O w' r=>(D8 (oS hS r) (hF.v.cB (kS hw r hS)) (eR.zero (S:=S)).v).mono fun _ _ ⟨v2,e1,e2,e3⟩=>⟨v2,e1,e2,by rw[e3,oa]⟩) ?_);rintro O wa3 v3 wb3 iv3 r he hw h_ rfl;replace hM:=hM.bz r (bs w) he (mC h_);obtain⟨cf,hcf⟩:∃c,rs b.2.2=c:=⟨_,rfl⟩
   rw[hcf];refine dF.mk (fun hd2=>?_) (fun hd2=>?_)
   ·have hd2:b.2.2<=0:=by have:=aG hd2;rw[<-Rat.not_lt,<-nB];omega
    intro ρe we re;exact⟨_,rfl,hw.tr re.cI,by show Value.int .i64 _=_;rw[dx,aI (by omega),aI (by rw[hE];decide),if_pos (by rw[hE2,cL hx (show eX f.nodes.length (f.bars.take i) b=2 by rw[eX,if_pos ⟨hz0,hz1⟩,aI hab2,aI hdup,if_pos hd2]) (by decide)];decide),hE2,cL hx (show eX f.nodes.length (f.bars.take i) b=2 by rw[eX,if_pos ⟨hz0,hz1⟩,aI hab2,aI hdup,if_pos hd2]) (by decide)]⟩
   ·have hd2:0<b.2.2:=by have:=aF hd2;rw[<-nB];omega
    refine pW wA sT rfl rfl (key:=mI (fY b)) (fun _=>rfl) rfl ⟨_,rfl⟩ (fun k hk=>by obtain⟨x,_,rfl⟩:=aR.1 hk;exact⟨_,rfl⟩) (fun h=>by
     obtain⟨x,h1,h2⟩:=aR.1 h
     exact hdup (aR.2 ⟨x,h1,oc h2⟩)) (fun O w' r=>⟨(hM.rel r (bs w)).2,Rel.not r (bs w) hM.1⟩) (fun O wa wb r hM2 hg hsz=>?_)
    replace hw:=(hw.tr r.cI).tr (cR.grown hg (fun x e=>by injection e with e;subst e;exact hM.1.elim (fun h=>h.elim) fun h=>h.1) r.bu);rw[show ((f.bars.take i).map fun b=>mI (fY b))++[mI (fY b)]=(f.bars.take (i+1)).map fun b=>mI (fY b) by rw[List.take_add_one,hx];simp]at hM2;replace hM:vQ wb (Cf w iv3) gm ((f.bars.take (i+1)).map fun b=>mI (fY b)):=⟨hM.1,hM2⟩
    rw[fk hx (pG.2 ⟨⟨hz0,hz1⟩,hab2,hdup,hd2⟩)]at hE2;refine⟨((i+1:Nat):Int),wo,?_⟩;intro ρ3 w6 r3;exact⟨(i+1,w6,_),⟨hib,hw.tr r3.cI,hE2,hM.rel r3 (bs w)⟩,Sub.gn [] r3,by dsimp only;omega⟩
  ·have hd:=hd.1 rfl;intro ρe we re;exact⟨_,rfl,hw.tr re.cI,by show Value.int .i64 _=_;rw[dx,aI (by omega),aI (by rw[hE];decide),if_pos (by rw[hE2,cL hx (show eX f.nodes.length (f.bars.take i) b=5 by rw[eX,if_pos ⟨hz0,hz1⟩,aI hab2,if_pos hd]) (by decide)];decide),hE2,cL hx (show eX f.nodes.length (f.bars.take i) b=5 by rw[eX,if_pos ⟨hz0,hz1⟩,aI hab2,if_pos hd]) (by decide)]⟩
 have hib:i=f.bars.length:=aQ hi (by simpa using hib);rw[gw (by omega)]at hE2;have hE1:=hE2;refine uC (fun O wa wb r hM0 hg hsz=>?_);have hw2:=(hw.tr r.cI).tr (cR.grown hg (fun x e=>by cases e) r.bu);have hB:w.heap.size<=wa.heap.size:=r.bu;have hM:vQ wb (Cf w ((wa.heap.size,wa.heap.size+1)::iv)) wa.heap.size []:=⟨.inr ⟨hB,_,_,aH,aE _,bo _⟩,hM0⟩
 generalize (wa.heap.size,wa.heap.size+1)::iv=iv2 at*
 obtain⟨gm,hgm⟩:∃gm,wa.heap.size=gm:=⟨_,rfl⟩
 rw[hgm]at hM ⊢;have hw:=hw2
 refine⟨Nat×World×Iv,fun z=>⟨[(1,.o (.p 0 0)),(9,.o (.v (.map (some gm)))),(115,.o (.v (.slice aq f.cS.length cq))),(116,.o (.v (.int .i64 f.cS.length))),(117,.o (.v (.int .i64 ((z.1:Nat):Int))))],[(0,.box T.Frame [.v (.slice an f.nodes.length cn),.v (.slice ab f.bars.length cb),.v (.slice aq f.cS.length cq)])],1,z.2.2,z.2.1⟩,fun z=>f.cS.length-z.1,
  fun z=>z.1<=f.cS.length∧cR w.heap.size w z.2.1∧eN (j8 f.nodes.length) [] f.cS=eN (j8 f.nodes.length) (f.cS.take z.1) (f.cS.drop z.1)∧vQ z.2.1 (Cf w z.2.2) gm ((f.cS.take z.1).map fun b=>mI (gp b)),?_,?_⟩
 ·intro O w' r3;exact⟨(0,w',iv2),⟨aP _,hw.tr r3.cI,rfl,hM.rel r3 (bs w)⟩,Sub.gn [] r3⟩
 rintro⟨i,w1,iv⟩ ⟨hi,hw,hE2,hM⟩;dsimp only at hi hw hE2 hM ⊢;refine dF.mk (fun hib=>?_) (fun hib=>?_)
 ·have hib:i<f.cS.length:=by simpa using hib
  obtain⟨b,hx⟩:∃b,f.cS[i]? =some b:=⟨_,aA hib⟩
  obtain⟨adb,cs,hab,hF,-,hlb⟩:=hf.cS.load (by decide) hx;obtain⟨g0,g1,g2,g3,g4,g5,g6,g7,rfl,hF⟩:=hF;refine⟨adb,hab,by omega,[.int .i64 b.1,.int .i64 b.2.1,.bool g0,.slice g1 g2 g3,.bool g4,.slice g5 g6 g7],rfl,rdO hlb hw hS,?_⟩;refine bw (cE hw (fun _ w' v w2=>∃d,v= .bool d∧(d=true↔iH f.nodes.length b.1)) (fun O w' r=>Di _ w' _ _ _ _ _ _ _ _ _) ?_);rintro O wa1 v1 wb1 iv1 r he hw h_ ⟨d0,rfl,hz0⟩;replace hM:=hM.bz r (bs w) he (mC h_)
  cases d0
  ·have hz0:¬iH f.nodes.length b.1:=fun h=>by have:=hz0.2 h;cases this
   intro ρe we re;exact⟨_,rfl,hw.tr re.cI,by show Value.int .i64 _=_;rw[dx,aI (by omega),aI (by rw[hE];decide),aI (by rw[hE1];decide),hE2,cL hx (show j8 f.nodes.length (f.cS.take i) b=6 by rw[j8,aI hz0]) (by decide)]⟩
  replace hz0:=hz0.1 rfl;refine dF.mk (fun hx1=>?_) (fun hx1=>?_)
  ·have hx1:=aG hx1;intro ρe we re;exact⟨_,rfl,hw.tr re.cI,by show Value.int .i64 _=_;rw[dx,aI (by omega),aI (by rw[hE];decide),aI (by rw[hE1];decide),hE2,cL hx (show j8 f.nodes.length (f.cS.take i) b=2 by rw[j8,if_pos hz0,aI (fun h=>by omega)]) (by decide)]⟩
  have hx1:=aF hx1;refine dF.mk (fun hx2=>?_) (fun hx2=>?_)
  ·have hx2:=aG hx2;intro ρe we re;exact⟨_,rfl,hw.tr re.cI,by show Value.int .i64 _=_;rw[dx,aI (by omega),aI (by rw[hE];decide),aI (by rw[hE1];decide),hE2,cL hx (show j8 f.nodes.length (f.cS.take i) b=2 by rw[j8,if_pos hz0,aI (fun h=>by omega)]) (by decide)]⟩
  have hx2:=aF hx2;have hax:0<=b.2.1∧b.2.1<=2:=by omega
  refine wS wA sT AB rfl rfl (key:=mI (gp b)) (fun _=>rfl) ⟨_,rfl⟩ (fun k hk=>by obtain⟨x,_,rfl⟩:=aR.1 hk;exact⟨_,rfl⟩) (fun O w' r=>(hM.rel r (bs w)).2) (fun O w' d r hd=>?_);replace hw:=hw.tr r.cI;replace hM:=hM.rel r (bs w);replace hd:d=true↔gp b∈(f.cS.take i).map gp:=by
   rw[hd];constructor
   ·intro h;obtain⟨x,h1,h2⟩:=aR.1 h;exact aR.2 ⟨x,h1,oc h2⟩
   ·intro h;obtain⟨x,h1,h2⟩:=aR.1 h;exact aR.2 ⟨x,h1,congrArg mI h2⟩
  cases d
  ·have hdup:gp b∉(f.cS.take i).map gp:=fun h=>by have:=hd.2 h;cases this
   refine bw (cE hw (fun _ w' v w2=>v= .int .i64 (rs b.2.2)) (fun O w' r=>(D8 (oS hS r) (hF.v.cB (kS hw r hS)) (eR.zero (S:=S)).v).mono fun _ _ ⟨v2,e1,e2,e3⟩=>⟨v2,e1,e2,by rw[e3,oa]⟩) ?_);rintro O wa2 v2 wb2 iv2 r he hw h_ rfl;replace hM:=hM.bz r (bs w) he (mC h_);obtain⟨cf,hcf⟩:∃c,rs b.2.2=c:=⟨_,rfl⟩
   rw[hcf];refine dF.mk (fun hd2=>?_) (fun hd2=>?_)
   ·have hd2:b.2.2<0:=by have:=aG hd2;rw[<-k7];omega
    intro ρe we re;exact⟨_,rfl,hw.tr re.cI,by show Value.int .i64 _=_;rw[dx,aI (by omega),aI (by rw[hE];decide),aI (by rw[hE1];decide),hE2,cL hx (show j8 f.nodes.length (f.cS.take i) b=2 by rw[j8,if_pos hz0,if_pos hax,aI hdup,if_pos hd2]) (by decide)]⟩
   ·have hd2:0<=b.2.2:=by have:=aF hd2;rw[<-Rat.not_lt,<-k7];omega
    refine pW wA sT rfl rfl (key:=mI (gp b)) (fun _=>rfl) rfl ⟨_,rfl⟩ (fun k hk=>by obtain⟨x,_,rfl⟩:=aR.1 hk;exact⟨_,rfl⟩) (fun h=>by
     obtain⟨x,h1,h2⟩:=aR.1 h
     exact hdup (aR.2 ⟨x,h1,oc h2⟩)) (fun O w' r=>⟨(hM.rel r (bs w)).2,Rel.not r (bs w) hM.1⟩) (fun O wa wb r hM2 hg hsz=>?_)
    replace hw:=(hw.tr r.cI).tr (cR.grown hg (fun x e=>by injection e with e;subst e;exact hM.1.elim (fun h=>h.elim) fun h=>h.1) r.bu);rw[show ((f.cS.take i).map fun b=>mI (gp b))++[mI (gp b)]=(f.cS.take (i+1)).map fun b=>mI (gp b) by rw[List.take_add_one,hx];simp]at hM2;replace hM:vQ wb (Cf w iv2) gm ((f.cS.take (i+1)).map fun b=>mI (gp b)):=⟨hM.1,hM2⟩
    rw[fk hx (pF.2 ⟨hz0,hax,hdup,hd2⟩)]at hE2;refine⟨((i+1:Nat):Int),wo,?_⟩;intro ρ3 w6 r3;exact⟨(i+1,w6,_),⟨hib,hw.tr r3.cI,hE2,hM.rel r3 (bs w)⟩,Sub.gn [] r3,by dsimp only;omega⟩
  ·have hd:=hd.1 rfl;intro ρe we re;exact⟨_,rfl,hw.tr re.cI,by show Value.int .i64 _=_;rw[dx,aI (by omega),aI (by rw[hE];decide),aI (by rw[hE1];decide),hE2,cL hx (show j8 f.nodes.length (f.cS.take i) b=5 by rw[j8,if_pos hz0,if_pos hax,if_pos hd]) (by decide)]⟩
 have hib:i=f.cS.length:=aQ hi (by simpa using hib);rw[gw (by omega)]at hE2;intro ρe we re;exact⟨_,rfl,hw.tr re.cI,by show Value.int .i64 _=_;rw[dx,aI (by omega),aI (by rw[hE];decide),aI (by rw[hE1];decide),hE2]⟩
theorem od{vl:Value}{l:List Ld}(hS:Old S w)(hf:dU w S vn vb vs f)(hl:iJ w S vl l):di PG N.kT #[.agg #[vn,vb,vs],vl] w (dw w fun v' _=>v'= .int .i64 (iP f l)):=by
 have hw:cR w.heap.size w w:=cR.refl;obtain⟨an,cn,ab,cb,aq,cq,rfl,rfl,rfl,hmn,hmb,hms⟩:=hf.shape;obtain⟨al,cl,rfl,hcl,hml⟩:=hl.shape;refine nP (by simp) ?_;refine bw (cE hw (fun _ w' v w2=>v= .int .i64 (dx f)) (fun O w' r=>yO (oS hS r) (hf.cB (kS hw r hS))) ?_);rintro O wa1 v1 wb1 iv1 r he hw h_ rfl;obtain⟨c,hc⟩:∃c,dx f=c:=⟨_,rfl⟩
 rw[hc];refine dF.mk (fun hd=>?_) (fun hd=>?_)
 ·have hd:c≠0:=by simpa using hd
  intro ρe we re;exact⟨_,rfl,hw.tr re.cI,by show Value.int .i64 _=_;rw[iP,if_pos (by rw[hc];exact hd),hc]⟩
 have hd:c=0:=by simpa using hd
 refine bw (cE hw (fun _ w' v w2=>v= .int .i64 (sS f.nodes.length l)) (fun O w' r=>zA (oS hS r) (hl.cB (kS hw r hS))) ?_);rintro O wa2 v2 wb2 iv2 r he hw h_ rfl;intro ρe we re;exact⟨_,rfl,hw.tr re.cI,by show Value.int .i64 _=_;rw[iP,aI (by rw[hc,hd];decide)]⟩
structure Calm(f:ei)(h:Nat):Prop where
 ok:ud f
 c0:0<f.cols
 b2:Ax (cK f) f.cols h
 a2:Ht (dB (cK f) f.cols).1 h
 st:jt (cK f) f.cols=[]
 hh:3*h<=90000
structure aAF(f:ei)(l:List Ld)(h:Nat)(x:List Rat):Prop where
 ok:yN f.nodes.length l
 b1:Ax (jK (cK f) (cU (e9 f l) (-1))) (f.cols+1) h
 x:me (cK f) (cU (e9 f l) (-1)) f.cols=some x
theorem ir(f:ei)(l:List Ld):(e9 f l).length=3*f.nodes.length:=by rw[e9,dL,aL,jQ]
theorem iB(a b:List Rat):(da a b).length=a.length:=List.length_mapIdx ..
theorem Jf{r s:Nat}(h1:r*r<=n)(h2:n<(r+1)*(r+1))(h3:s*s<=n)(h4:n<(s+1)*(s+1)):r=s:=by
 rcases bl r s with h|h|h
 ·have:=Nat.mul_le_mul (show r+1<=s from h) (show r+1<=s from h);omega
 ·exact h
 ·have:=Nat.mul_le_mul (show s+1<=r from h) (show s+1<=r from h);omega
theorem I9(n:Nat)(w:World)(hn:n<4000000004000000001):di PG N.rp #[.int .i64 n] w (dw w fun v' _=>∃r:Nat,v'= .int .i64 r∧r*r<=n∧n<(r+1)*(r+1)):=by
 have hw:cR w.heap.size w w:=cR.refl;refine vK (by simp) ?_
 refine⟨Nat×Int×World,fun z=>⟨[(0,.o (.v (.int .i64 n))),(3,.o (.v (.int .i64 ((z.1:Nat):Int)))),(4,.o (.v (.int .i64 z.2.1)))],[],0,[],z.2.2⟩,fun z=>(z.2.1-z.1).toNat,
  fun z=>(z.1:Int)<=z.2.1∧z.2.1<=2000000000∧cR w.heap.size w z.2.2∧z.1*z.1<=n∧(n:Int)<(z.2.1+1)*(z.2.1+1),?_,?_⟩
 ·intro O w' r3;exact⟨(0,2000000000,w'),⟨by simp,by simp,hw.tr r3.cI,by simp,by dsimp only;omega⟩,Sub.gn [] r3⟩
 rintro⟨lo,hi,w1⟩ ⟨hlh,hhi,hw,hlo,hup⟩;dsimp only at hlh hhi hw hlo hup ⊢;obtain⟨hi,rfl⟩:=Int.eq_ofNat_of_zero_le (show 0<=hi by omega);replace hup:n<(hi+1)*(hi+1):=by
  have h:((hi:Int)+1)*((hi:Int)+1)=(((hi+1)*(hi+1):Nat):Int):=by push_cast;rfl
  rw[h]at hup;omega
 refine dF.mk (fun hib=>?_) (fun hib=>?_)
 ·have hib:lo<hi:=by have:=aG hib;omega
  obtain⟨m,hm⟩:∃m,(lo+hi+1) / 2=m:=⟨_,rfl⟩
  have hm1:lo<m:=by omega
  have hm2:m<=hi:=by omega
  have hmm:m*m<=2000000000*2000000000:=Nat.mul_le_mul (by omega) (by omega);refine⟨((lo+hi:Nat):Int),wo,((lo+hi+1:Nat):Int),wo,by decide,(m:Int),by rw[show ((lo+hi+1:Nat):Int).tdiv 2=(((lo+hi+1) / 2:Nat):Int)from rfl,hm,wrap64]<;>omega,((m*m:Nat):Int),by rw[wrap64]<;>push_cast<;>first|rfl|omega,?_⟩;refine dF.mk (fun hd=>?_) (fun hd=>?_)
  ·have hd:m*m<=n:=by have:=aG hd;omega
   intro ρ3 w6 r3;exact⟨(m,hi,w6),⟨by dsimp only;omega,hhi,hw.tr r3.cI,hd,by dsimp only;rw[show ((hi:Int)+1)*((hi:Int)+1)=(((hi+1)*(hi+1):Nat):Int) by push_cast;rfl];omega⟩,Sub.gn [] r3,by dsimp only;omega⟩
  ·have hd:n<m*m:=by have:=aF hd;omega
   have hu3:(lo:Int)<=((m-1:Nat):Int):=by omega
   have hu4:((m-1:Nat):Int)<=2000000000:=by omega
   have hu2:(n:Int)<(((m-1:Nat):Int)+1)*(((m-1:Nat):Int)+1):=by rw[show ((m-1:Nat):Int)+1=m by omega];exact_mod_cast hd
   refine⟨((m-1:Nat):Int),wo,?_⟩;intro ρ3 w6 r3;exact⟨(lo,((m-1:Nat):Int),w6),⟨hu3,hu4,hw.tr r3.cI,hlo,hu2⟩,Sub.gn [] r3,by dsimp only;omega⟩
 have hib:lo=hi:=by have:=aF hib;omega
 subst hib;intro ρe we re;exact⟨_,rfl,hw.tr re.cI,_,rfl,hlo,hup⟩
theorem Ia(n:Int)(w:World):di PG N.j2 #[.int .i64 n] w (dw w fun v' _=>∃d,v'= .bool d∧(d=true↔0<=n∧n<=1000000)):=by
 have hw:cR w.heap.size w w:=cR.refl;refine mE (by simp) ?_;refine dF.mk (fun h1=>?_) (fun h1=>?_)
 ·intro ρe we re;have h1:=aG h1;exact⟨_,rfl,hw.tr re.cI,_,rfl,by rw[decide_eq_true_iff];exact⟨fun h=>⟨h1,h⟩,fun h=>h.2⟩⟩
 ·intro ρe we re;have h1:=aF h1;exact⟨_,rfl,hw.tr re.cI,_,rfl,(fun h=>by cases h),fun h=>absurd h.1 h1⟩
theorem HW(sq st:Nat)(w:World)(h0:0<sq)(h1:st<=1000000):di PG N.pj #[.int .i64 sq,.int .i64 st] w (dw w fun v' w2=>∃r:Nat,r*r<=st*st*1000*1000 / sq∧st*st*1000*1000 / sq<(r+1)*(r+1)∧cM w2 (Nf w w2) v' (Rat.divInt r 1000)):=by
 have hw:cR w.heap.size w w:=cR.refl;have h2:st*st<=1000000*1000000:=Nat.mul_le_mul h1 h1;have h4:st*st*1000*1000 / sq<=st*st*1000*1000:=Nat.div_le_self _ _;obtain⟨m,hm⟩:∃m,st*st*1000*1000 / sq=m:=⟨_,rfl⟩
 refine tZ (by simp) ?_;refine⟨((st*st:Nat):Int),by rw[wrap64]<;>push_cast<;>first|rfl|omega,((st*st*1000:Nat):Int),wo,((st*st*1000*1000:Nat):Int),wo,by omega,(m:Int),by rw[show ((st*st*1000*1000:Nat):Int).tdiv (sq:Int)=((st*st*1000*1000 / sq:Nat):Int)from rfl,hm,wrap64]<;>omega,?_⟩;refine bw (cE hw (fun _ w' v w2=>∃r:Nat,v= .int .i64 r∧r*r<=m∧m<(r+1)*(r+1)) (fun O w' r=>I9 m w' (by omega)) ?_);rintro O wa1 v1 wb1 iv1 r he hw h_ ⟨rt,rfl,hr1,hr2⟩;have hrt:rt<=2000000000:=by
  rcases aO 2000000000 rt with h|h
  ·have:=Nat.mul_le_mul h h;omega
  ·exact h
 refine bw (cE hw (fun _ w' v w2=>∃r,v= .tuple #[r,.int .i64 0]∧cM w2 (Nf w' w2) r (Rat.divInt rt 1000)) (fun O w' r=>(Dk rt 1000 w' (by omega) (by omega) (by decide) (by decide)).mono fun _ _ ⟨v2,e1,e2,e3⟩=>⟨v2,e1,e2,e3.elim (fun k=>absurd k.1 (by decide)) fun h=>h.2⟩) ?_);rintro O wa2 v2 wb2 iv2 r he hw h_ ⟨q1,rfl,k1⟩;have hd:=k1.cd (S:=fun _=>False) r.bu (mN h_);obtain⟨s2_0a,s2_0b,s2_0c,s2_0d,s2_0e,s2_0f,s2_0g,s2_0h,rfl⟩:=hd.shape;intro ρe we re;exact⟨_,rfl,hw.tr re.cI,rt,hm▸hr1,hm▸hr2,hd.out re (bs w)⟩
theorem Dl(sq st:Nat)(w:World)(h0:0<sq)(h2:sq<=20000000000000)(h1:st<=1000000):di PG N.pf #[.int .i64 sq,.int .i64 st] w (dw w fun v' w2=>∃vr,∃r:Nat,v'= .tuple #[vr,.int .i64 0]∧r*r<=st*st*1000*1000 / sq∧st*st*1000*1000 / sq<(r+1)*(r+1)∧cM w2 (Nf w w2) vr (Rat.divInt r 1000)):=by
 have hw:cR w.heap.size w w:=cR.refl;refine tV (by simp) ?_;refine dF.mk (fun k1=>absurd (aG k1) (by omega)) (fun _=>?_);refine dF.mk (fun k1=>absurd (aG k1) (by omega)) (fun _=>?_);refine bw (cE hw (fun _ w' v w2=>v= .bool true) (fun O w' r=>(Ia st w').mono fun _ _ ⟨v2,e1,e2,d,e3,e4⟩=>⟨v2,e1,e2,by rw[e3,e4.2 ⟨by omega,by omega⟩]⟩) ?_);rintro O wa1 v1 wb1 iv1 r he hw h_ rfl;refine bw (cE hw (fun _ w' v w2=>∃r:Nat,r*r<=st*st*1000*1000 / sq∧st*st*1000*1000 / sq<(r+1)*(r+1)∧cM w2 (Nf w' w2) v (Rat.divInt r 1000)) (fun O w' r=>HW sq st w' h0 h1) ?_);rintro O wa2 v2 wb2 iv2 r he hw h_ ⟨rt,hr1,hr2,k1⟩;have hd:=k1.cd (S:=fun _=>False) r.bu (mN h_);obtain⟨s2_0a,s2_0b,s2_0c,s2_0d,s2_0e,s2_0f,s2_0g,s2_0h,rfl⟩:=hd.shape;intro ρe we re;exact⟨_,rfl,hw.tr re.cI,_,rt,rfl,hr1,hr2,hd.out re (bs w)⟩
set_option maxRecDepth 100000
def KO(m:Nat):List Value:=[.int .i64 ((m / 3:Nat):Int),.int .i64 ((m % 3:Nat):Int),.bool false,.slice none 0 0,.bool false,.slice none 0 0]
def pz(m:Nat):List (List Value):=(List.range m).map KO
theorem Dm{k:Nat}(hk:k<3):(pz (3*i+k)).flatten++[.int .i64 (i:Int),.int .i64 (k:Int),.bool false,.slice none 0 0,.bool false,.slice none 0 0]=(pz (3*i+(k+1))).flatten:=by
 rw[pz,pz,<-Nat.add_assoc,bR,List.map_append,List.flatten_append];simp only[List.map_cons,List.map_nil,KO,show(3*i+k) / 3=i by omega,show(3*i+k) % 3=k by omega]
 simp
theorem Fg(m:Nat):(pz m).length=m:=by rw[pz,aL,List.length_range]
theorem Fh(m:Nat):∀cs∈pz m,cs.length=6:=fun cs hc=>by
 obtain⟨j,_,rfl⟩:=aR.1 hc;rfl
theorem eR.zeroV:eR w S (.agg #[.bool false,.slice none 0 0,.bool false,.slice none 0 0]) 0:=eR.zero
theorem tq(w:World):di PG N.pg #[] w (dw w fun v' w2=>∃vn vb vs,v'= .agg #[vn,vb,vs]∧dU w2 (Nf w w2) vn vb vs eo):=by
 have hw:cR w.heap.size w w:=cR.refl;refine tW (by simp) ?_;refine bw (cE hw (fun _ w' v w2=>cM w2 (Nf w' w2) v ((1:Int):Rat)) (fun O w' r=>sU 1 w' (by decide)) ?_);rintro O wa1 v1 wb1 iv1 r he hw h_ hn;have hd:=hn.cd (S:=fun _=>False) r.bu (mN h_);obtain⟨s1_0,s1_1,s1_2,s1_3,s1_4,s1_5,s1_6,s1_7,rfl⟩:=hd.shape;conv=>whnf
 refine⟨Nat×World,fun z=>⟨[(0,.o (.p 0 0)),(2,.o (.p 4 0)),(3,.o (.v (.int .i64 ((z.1:Nat):Int))))],[(5,.vec T.vq 6 (pz (3*z.1)).flatten),(4,.box T.Frame [.s 2 0 3 3,.s 3 0 2 2,.w 5 (3*z.1)]),(3,.box T.K4 [.v (.int .i64 0),.v (.int .i64 2),.v (.bool s1_0),.v (.slice s1_1 s1_2 s1_3),.v (.bool s1_4),.v (.slice s1_5 s1_6 s1_7),.v (.int .i64 1),.v (.int .i64 2),.v (.bool s1_0),.v (.slice s1_1 s1_2 s1_3),.v (.bool s1_4),.v (.slice s1_5 s1_6 s1_7)]),(2,.box T.Node [.v (.int .i64 0),.v (.int .i64 0),.v (.int .i64 0),.v (.int .i64 0),.v (.int .i64 0),.v (.int .i64 4),.v (.int .i64 3),.v (.int .i64 0),.v (.int .i64 0)]),(0,.box T.Frame [.v (.slice none 0 0),.v (.slice none 0 0),.v (.slice none 0 0)])],6,iv1,z.2⟩,fun z=>2-z.1,
  fun z=>z.1<=2∧cR w.heap.size w z.2∧cM z.2 (Cf w iv1) (.agg #[.bool s1_0,.slice s1_1 s1_2 s1_3,.bool s1_4,.slice s1_5 s1_6 s1_7]) ((1:Int):Rat),?_,?_⟩
 ·intro O w' r;exact⟨(0,w'),⟨aP _,hw.tr r.cI,hd.rel r (bs w)⟩,Sub.yw 4 2 T.vq 6 rfl rfl (by simp[kl,SV.sc,At.sc,gP]) r fun ρ1 r1=>Sub.gn [] r1⟩
 rintro⟨i,w1⟩ ⟨hi,hw,hd⟩;dsimp only at hi hw hd ⊢;conv=>whnf
 refine dF.mk (fun hib=>?_) (fun hib=>?_)
 ·have hib:i<2:=by have:=aG hib;omega
  refine⟨Nat×World,fun z=>⟨[(0,.o (.p 0 0)),(2,.o (.p 4 0)),(3,.o (.v (.int .i64 ((i:Nat):Int)))),(4,.o (.v (.int .i64 ((z.1:Nat):Int))))],[(5,.vec T.vq 6 (pz (3*i+z.1)).flatten),(4,.box T.Frame [.s 2 0 3 3,.s 3 0 2 2,.w 5 (3*i+z.1)]),(3,.box T.K4 [.v (.int .i64 0),.v (.int .i64 2),.v (.bool s1_0),.v (.slice s1_1 s1_2 s1_3),.v (.bool s1_4),.v (.slice s1_5 s1_6 s1_7),.v (.int .i64 1),.v (.int .i64 2),.v (.bool s1_0),.v (.slice s1_1 s1_2 s1_3),.v (.bool s1_4),.v (.slice s1_5 s1_6 s1_7)]),(2,.box T.Node [.v (.int .i64 0),.v (.int .i64 0),.v (.int .i64 0),.v (.int .i64 0),.v (.int .i64 0),.v (.int .i64 4),.v (.int .i64 3),.v (.int .i64 0),.v (.int .i64 0)]),(0,.box T.Frame [.v (.slice none 0 0),.v (.slice none 0 0),.v (.slice none 0 0)])],6,iv1,z.2⟩,fun z=>3-z.1,
   fun z=>z.1<=3∧cR w.heap.size w z.2∧cM z.2 (Cf w iv1) (.agg #[.bool s1_0,.slice s1_1 s1_2 s1_3,.bool s1_4,.slice s1_5 s1_6 s1_7]) ((1:Int):Rat),?_,?_⟩
  ·intro O w' r3;exact⟨(0,w'),⟨aP _,hw.tr r3.cI,hd.rel r3 (bs w)⟩,Sub.gn [] r3⟩
  rintro⟨k,w3⟩ ⟨hk,hw,hd⟩;dsimp only at hk hw hd ⊢;refine dF.mk (fun hkb=>?_) (fun hkb=>?_)
  ·have hkb:k<3:=by have:=aG hkb;omega
   have hs:=Dm (i:=i) hkb;have hfl:=tk (Fh (3*i+k));have hsl:=Fg (3*i+k);refine .inl ?_;refine⟨by omega,by omega,by unfold maxLen;omega,((k+1:Nat):Int),wo,?_⟩;intro ρ3 w6 r3;exact⟨(k+1,w6),⟨hkb,hw.tr r3.cI,hd.rel r3 (bs w)⟩,Sub.gn [(5,7)] r3 ⟨by dsimp only;rw[<-hs];rfl,rfl,rfl,rfl,rfl,trivial⟩,by dsimp only;omega⟩
  have hkb:k=3:=by have:=aF hkb;omega
  subst hkb;refine⟨((i+1:Nat):Int),wo,?_⟩;intro ρ3 w6 r3;exact⟨(i+1,w6),⟨hib,hw.tr r3.cI,hd.rel r3 (bs w)⟩,Sub.gn [] r3,by dsimp only;omega⟩
 have hib:i=2:=by have:=aF hib;omega
 subst hib;refine .inl ?_;refine⟨by decide,by decide,by decide,?_⟩;intro ρe we re;have hN:∀{id:Nat} {bk:jI},cX _ id=some bk->(ρe id).nil=false->Nf w we (ρe id).g:=fun h hn=>by
  obtain⟨h1,h2⟩:=re.low _ _ h hn;exact .inr ⟨h1,h2⟩
 have hR:=hd.out re (bs w);have hL:eR we (Nf w we) (.agg #[.bool s1_0,.slice s1_1 s1_2 s1_3,.bool s1_4,.slice s1_5 s1_6 s1_7]) 1:=hR.l (by decide);refine⟨_,rfl,hw.tr re.cI,_,_,_,rfl,?_,?_,?_⟩
 ·refine⟨[[.int .i64 0,.int .i64 0,.int .i64 0],[.int .i64 0,.int .i64 0,.int .i64 4],[.int .i64 3,.int .i64 0,.int .i64 0]],(re.oe (id:=2) (sz:=3) (n:=3) rfl rfl (by decide) (by repeat' first|refine List.forall_mem_cons.2 ⟨rfl,?_⟩|exact fun u hu=>absurd hu List.not_mem_nil)).cC fun g hg=>by subst hg;exact hN (id:=2) rfl (re.nn 2 _ rfl (by intros;simp) (by simp)),rfl,by simp,fun j cs x h1 h2=>?_⟩;rcases j with _|_|_|j
  ·cases h1;cases h2;rfl
  ·cases h1;cases h2;rfl
  ·cases h1;cases h2;rfl
  ·cases h2
 ·refine⟨[[.int .i64 0,.int .i64 2,.bool s1_0,.slice s1_1 s1_2 s1_3,.bool s1_4,.slice s1_5 s1_6 s1_7],[.int .i64 1,.int .i64 2,.bool s1_0,.slice s1_1 s1_2 s1_3,.bool s1_4,.slice s1_5 s1_6 s1_7]],(re.oe (id:=3) (sz:=6) (n:=2) rfl rfl (by decide) (by repeat' first|refine List.forall_mem_cons.2 ⟨rfl,?_⟩|exact fun u hu=>absurd hu List.not_mem_nil)).cC fun g hg=>by subst hg;exact hN (id:=3) rfl (re.nn 3 _ rfl (by intros;simp) (by simp)),rfl,by simp,fun j cs x h1 h2=>?_⟩;rcases j with _|_|j
  ·cases h1;cases h2;exact⟨_,_,_,_,_,_,_,_,rfl,hL⟩
  ·cases h1;cases h2;exact⟨_,_,_,_,_,_,_,_,rfl,hL⟩
  ·cases h2
 ·refine⟨pz 6++[[.int .i64 2,.int .i64 1,.bool false,.slice none 0 0,.bool false,.slice none 0 0]],?_,rfl,by decide,fun j cs x h1 h2=>?_⟩
  ·have h5:=re.k6 (id:=7) (sz:=6) (m:=7) rfl (by decide) (by decide) (by decide) (by decide);rw[List.flatten_append];exact h5.cC fun g hg=>.inr hg
  ·rcases j with _|_|_|_|_|_|_|j
   ·cases h1;cases h2;exact⟨_,_,_,_,_,_,_,_,rfl,eR.zeroV⟩
   ·cases h1;cases h2;exact⟨_,_,_,_,_,_,_,_,rfl,eR.zeroV⟩
   ·cases h1;cases h2;exact⟨_,_,_,_,_,_,_,_,rfl,eR.zeroV⟩
   ·cases h1;cases h2;exact⟨_,_,_,_,_,_,_,_,rfl,eR.zeroV⟩
   ·cases h1;cases h2;exact⟨_,_,_,_,_,_,_,_,rfl,eR.zeroV⟩
   ·cases h1;cases h2;exact⟨_,_,_,_,_,_,_,_,rfl,eR.zeroV⟩
   ·cases h1;cases h2;exact⟨_,_,_,_,_,_,_,_,rfl,eR.zeroV⟩
   ·cases h2
structure eP(w:World)(S:Nat->Prop)(css:List (List Value))(qs:List Rat):Prop where
 len:css.length=qs.length
 four:∀cs∈css,cs.length=4
 at_:∀(j:Nat) cs q,css[j]? =some cs->qs[j]? =some q->jD w S cs q
section
variable{S S':Nat->Prop}{H:Hp}{nx:Nat}{iv iv':Iv}{B:Nat}{w w' w2:World}{O:Nat->Sx.dS}{css:List (List Value)}{qs:List Rat}
theorem eP.nil:eP w S [] []:=⟨rfl,fun _ h=>(by cases h),fun _ _ _ h=>by cases h⟩
theorem eP.cB(h:eP w S css qs)(hk:∀g,S g->w2.heap[g]? =w.heap[g]?):eP w2 S css qs:=⟨h.len,h.four,fun j cs q h1 h2=>by
 obtain⟨b,a,n,c,b2,a2,n2,c2,e,hr⟩:=h.at_ j cs q h1 h2
 exact⟨b,a,n,c,b2,a2,n2,c2,e,hr.cB hk⟩⟩
theorem eP.cC(h:eP w S css qs)(hk:∀g,S g->S' g):eP w S' css qs:=⟨h.len,h.four,fun j cs q h1 h2=>by
 obtain⟨b,a,n,c,b2,a2,n2,c2,e,hr⟩:=h.at_ j cs q h1 h2
 exact⟨b,a,n,c,b2,a2,n2,c2,e,hr.cC hk⟩⟩
theorem eP.rel(h:eP w (Cv S B iv) css qs)(r:Rel H nx iv B w O w')(hS:∀g,S g->g<B):eP w' (Cv S B iv) css qs:=h.cB fun _ hg=>Rel.same r hS hg
theorem eP.bz(h:eP w (Cv S B iv) css qs)(r:Rel H nx iv B w O w')(hS:∀g,S g->g<B)(he:Ext w' w2)(hm:∀p,p∈iv->p∈iv'):eP w2 (Cv S B iv') css qs:=
 ((h.rel r hS).cB fun g hg=>he.block g (Rel.old r hS g hg)).cC fun _ hg=>hg.mono hm
theorem eP.push{cs:List Value}{q:Rat}(h:eP w S css qs)(hc:jD w S cs q)(h4:cs.length=4):eP w S (css++[cs]) (qs++[q]):=by
 refine⟨by simp[h.len],fun x hx=>?_,fun j x p h1 h2=>?_⟩
 ·rcases bN.1 hx with hx|hx
  ·exact h.four x hx
  ·rw[bD.1 hx];exact h4
 ·rcases aO j css.length with hi|hi
  ·rw[aK hi]at h1;rw[aK (by rw[<-h.len];exact hi)]at h2;exact h.at_ j x p h1 h2
  ·have hi0:j=css.length:=by have:=(aC.1 h1).1;simp at this;omega
   subst hi0;rw[aN (aE _),bI]at h1;rw[h.len,aN (aE _),bI]at h2;simp at h1 h2;subst h1 h2;exact hc
theorem eP.one(h:eP w S css qs):∀u∈css.flatten,u.oneCell'=true:=fun u hu=>by
 obtain⟨cs,hc,hu⟩:=List.mem_flatten.1 hu;obtain⟨j,hj⟩:=aT hc;obtain⟨_,_,_,_,_,_,_,_,rfl,_⟩:=h.at_ j cs _ hj (aA (by rw[<-h.len];exact(aC.1 hj).1));simp at hu;rcases hu with rfl|rfl|rfl|rfl<;>rfl
theorem eP.qh(h:eP w (Cv (fun _=>False) B iv) css qs)(r:Rel H nx iv B w O w')(hid:cX H id=some (.vec T.Rat 4 css.flatten))(h0:0<css.length)(hm:css.length<=maxLen):
  dh w' (fun _=>False) B [(B,w'.heap.size)] ((SV.o (.w id css.length)).den O) css.length qs:=by
 have h2:=h.rel r (gb B);obtain⟨k1,k2,k3,k4⟩:=KM r hid rfl h0 hm ⟨h2.len,h2.at_⟩;have hden:(SV.o (.w id css.length)).den O= .slice (some ⟨(O id).g,0,none⟩) css.length (O id).cap:=by simp[SV.den,At.den,k1]
 rw[hden];have key:∀g,Cv (fun _=>False) B iv g->Cv (fun _=>False) B [(B,w'.heap.size)] g:=fun g hg=>
  .inr ⟨hg.elim (fun h=>h.elim) fun h=>h.1,B,w'.heap.size,bD.2 rfl,hg.elim (fun h=>h.elim) fun h=>h.1,Rel.old r (gb B) g hg⟩
 refine⟨k4.cC fun g hg=>⟨key g hg,fun e=>?_⟩,fun g hg=>?_⟩
 ·injection e with e;exact Rel.not r (gb B) hg id _ hid k1 e
 ·injection hg with hg;subst hg;have:=(r.low id _ hid k1).2;exact .inr ⟨k2,B,w'.heap.size,bD.2 rfl,k2,this⟩
theorem eP.list(h:eP w S css qs)(hs:jH w S 4 v css.flatten css.length):cD w S v qs:=⟨css,h.len▸hs,h.len,h.four,h.at_⟩
end
theorem Ca(hS:Old S w)(hl:Cp w S v l)(hl0:0<l.length)(hl2:l.length<=1000)(hb:∀z∈l,z.natAbs<1073741824):
  di PG N.rZ #[v] w (dw w fun v' w2=>dh w2 (fun _=>False) w.heap.size [(w.heap.size,w2.heap.size)] v' l.length (dL l)):=by
 have hw:cR w.heap.size w w:=cR.refl;obtain⟨al,cl,rfl,hcl,hml⟩:=hl.shape;unfold maxLen at hml;refine uz (by simp) ?_
 refine⟨Nat×List (List Value)×World×Iv,fun z=>⟨[(0,.o (.v (.slice al l.length cl))),(3,.o (.w 0 z.2.1.length)),(4,.o (.v (.int .i64 ((z.1:Nat):Int))))],[(0,.vec T.Rat 4 z.2.1.flatten)],1,z.2.2.2,z.2.2.1⟩,fun z=>l.length-z.1,
  fun z=>z.1<=l.length∧cR w.heap.size w z.2.2.1∧eP z.2.2.1 (Cf w z.2.2.2) z.2.1 (dL (l.take z.1)),?_,?_⟩
 ·intro O w' r;exact⟨(0,[],w',[]),⟨aP _,hw.tr r.cI,eP.nil⟩,Sub.nil 3 T.Rat 4 rfl (by simp[kl,SV.sc,At.sc,gP]) r fun ρ1 r1=>Sub.gn [] r1⟩
 rintro⟨i,css,w1,iv⟩ ⟨hi,hw,hG⟩;dsimp only at hi hw hG ⊢;have hfl:=fg hG.four;have hcl2:css.length=i:=by rw[hG.len,dL,aL,aW];omega
 refine dF.mk (fun hib=>?_) (fun hib=>?_)
 ·have hib:i<l.length:=by simpa using hib
  obtain⟨z,hz⟩:∃z,l[i]? =some z:=⟨_,aA hib⟩
  have hzb:=hb z (aD hz);have hnx:dL (l.take (i+1))=dL (l.take i)++[(z:Rat)]:=by rw[dL,List.take_add_one,hz,List.map_append];rfl
  obtain⟨adx,hax,hSx,hlx⟩:=Cp.at hl hz;refine⟨adx,hax,by omega,.int .i64 z,rd1 hlx hw (hS _ hSx),?_⟩;refine bw (cE hw (fun _ w' v w2=>cM w2 (Nf w' w2) v (z:Rat)) (fun O w' r=>sU z w' (by omega)) ?_);rintro O wa1 v1 wb1 iv1 r he hw h_ hn;replace hG:=hG.bz r (bs w) he (mC h_);have hd:=hn.cd (S:=fun _=>False) r.bu (mN h_);obtain⟨s1_0,s1_1,s1_2,s1_3,s1_4,s1_5,s1_6,s1_7,rfl⟩:=hd.shape;have hG2:=hG.push (cs:=[.bool s1_0,.slice s1_1 s1_2 s1_3,.bool s1_4,.slice s1_5 s1_6 s1_7]) (q:=(z:Rat)) ⟨_,_,_,_,_,_,_,_,rfl,hd⟩ rfl;rw[<-hnx]at hG2;have hfl2:css.flatten++([.bool s1_0,.slice s1_1 s1_2 s1_3,.bool s1_4,.slice s1_5 s1_6 s1_7]:List Value)=(css++([[.bool s1_0,.slice s1_1 s1_2 s1_3,.bool s1_4,.slice s1_5 s1_6 s1_7]]:List (List Value))).flatten:=by simp
  refine .inl ?_;refine⟨by omega,by omega,by unfold maxLen;omega,((i+1:Nat):Int),wo,?_⟩;intro ρ3 w3 r3;exact⟨(i+1,css++[[.bool s1_0,.slice s1_1 s1_2 s1_3,.bool s1_4,.slice s1_5 s1_6 s1_7]],w3,_),⟨hib,hw.tr r3.cI,hG2.rel r3 (bs w)⟩,Sub.gn [(0,2)] r3 ⟨by dsimp only;rw[<-hfl2];rfl,trivial⟩ ⟨rfl,by dsimp only;rw[List.length_append,List.length_singleton];rfl,rfl,trivial⟩,by dsimp only;omega⟩
 have hib:i=l.length:=aQ hi (by simpa using hib);subst hib;rw[bC]at hG;intro ρe we re;refine⟨_,rfl,hw.tr re.cI,?_⟩;have h5:=hG.qh re (id:=0) rfl (by omega) (by unfold maxLen;omega);have h6:css.length=l.length:=hcl2;rw[<-h6];exact h5
theorem dU.cd{w' w2:World}(h:dU w2 (Nf w' w2) vn vb vs f)(hB:B<=w'.heap.size)(hm:(w'.heap.size,w2.heap.size)∈iv):dU w2 (Cv (fun _=>False) B iv) vn vb vs f:=h.cC fun _ hg=>hg.cd hB hm
abbrev Dn(a b c:Int):Value:=.agg #[.int .i64 a,.int .i64 b,.int .i64 c]
theorem Jh(p0 p1 p2 q0 q1 q2:Int)(w:World):(Op.equal T.xa (Dn p0 p1 p2) (Dn q0 q1 q2)).run PG w= .ok (decide (p0=q0∧p1=q1∧p2=q2)) w:=by
 have h:=run_underlying Tryz.underlying68;simp only[Op.equal,Op.maxDepth]
 unfold Op.equalIn;have a0:=ec (cs:= #[Value.int .i64 p0,Value.int .i64 p1,Value.int .i64 p2]) (j:=0) rfl;have a1:=ec (cs:= #[Value.int .i64 p0,Value.int .i64 p1,Value.int .i64 p2]) (j:=1) rfl;have a2:=ec (cs:= #[Value.int .i64 p0,Value.int .i64 p1,Value.int .i64 p2]) (j:=2) rfl;have b0:=ec (cs:= #[Value.int .i64 q0,Value.int .i64 q1,Value.int .i64 q2]) (j:=0) rfl;have b1:=ec (cs:= #[Value.int .i64 q0,Value.int .i64 q1,Value.int .i64 q2]) (j:=1) rfl;have b2:=ec (cs:= #[Value.int .i64 q0,Value.int .i64 q1,Value.int .i64 q2]) (j:=2) rfl;simp[h,a0,a1,a2,b0,b1,b2,eq_int 9998];by_cases h0:p0=q0
 ·by_cases h1:p1=q1
  ·by_cases h2:p2=q2<;>simp[h0,h1,h2]
  ·simp[h0,h1]
 ·simp[h0]
theorem Ic(p0 p1 p2 q0 q1 q2:Int)(w:World)(o1 o2:Operand):(do eqGuard .eql T.xa o1 o2 (Dn p0 p1 p2) (Dn q0 q1 q2);binOp .eql T.xa (Dn p0 p1 p2) (Dn q0 q1 q2)).run PG w= .ok (.bool (decide (p0=q0∧p1=q1∧p2=q2))) w:=by
 have h:=Jh p0 p1 p2 q0 q1 q2 w;simp[eqGuard,binOp,h]
theorem JD{H:Hp}{nx:Nat}{w':World}(r:Rel H nx iv B w O w')(h:cX H id=some (.box T.int (l.map fun z=>At.v (.int .i64 z))))(hn:l.length=n)(hm:n<=maxLen):
  Cp w' (fun g=>g=(O id).g) (.slice (some ⟨(O id).g,0,none⟩) n n) l:=by
 subst hn;have h5:=r.oe (sz:=1) (n:=l.length) h (by simp) hm (fun u hu=>by obtain⟨z,_,rfl⟩:=aR.1 hu;rfl);rw[List.map_map]at h5;exact h5
def Kk(cs:List Value):Prop:=∃b a n c b2 a2 n2 c2,cs=[.bool b,.slice a n c,.bool b2,.slice a2 n2 c2]
def vR(cs:List Value):Prop:=∃b a n c b2 a2 n2 c2,cs=[.bool b,.slice a n c,.bool b2,.slice a2 n2 c2]∧n<=3∧n2<=3
theorem BF(a:Addr)(m n:Nat):(a.add m).add n=a.add (m+n):=by
 unfold Addr.add;split<;>split<;>simp_all<;>omega
theorem gW.l3{b1 b2:Bool}{a1 a2:Option Addr}{n1 n2 c1 c2:Nat}{a b:Int}(h:gW w S (.agg #[.bool b1,.slice a1 n1 c1,.bool b2,.slice a2 n2 c2]) a b)(hf:vR [.bool b1,.slice a1 n1 c1,.bool b2,.slice a2 n2 c2]):
  eR w S (.agg #[.bool b1,.slice a1 n1 c1,.bool b2,.slice a2 n2 c2]) (ratio a b)∧rl (ratio a b)<=3:=by
 obtain⟨_,_,_,_,_,_,_,_,e,k1,k2⟩:=hf;simp only[List.cons.injEq,Value.slice.injEq,Value.bool.injEq,and_true]at e;obtain⟨rfl,⟨rfl,rfl,rfl⟩,rfl,rfl,rfl,rfl⟩:=e;obtain⟨b1,l1,b2,l2,e,h1,h2⟩:=h;simp only[Value.agg.injEq,Array.mk.injEq,List.cons.injEq,Value.bool.injEq,and_true]at e;obtain⟨rfl,rfl,rfl,rfl⟩:=e;have g1:=h1.short k1;have g2:=h2.short k2;have r1:=g1.ln;have r2:=g2.ln;have hr:=gQ a b;refine⟨⟨_,_,_,_,a,b,rfl,?_,?_,rfl⟩,by omega⟩
 ·obtain⟨ng,ls,i1,i2,i3⟩:=g1;exact⟨ng,ls,i1,i2,by omega⟩
 ·obtain⟨ng,ls,i1,i2,i3⟩:=g2;exact⟨ng,ls,i1,i2,by omega⟩
theorem En(hS:Old S w)(hq:jH w S 4 v css.flatten css.length)(hF:∀cs∈css,Kk cs):
  di PG N.uQ #[v] w (dw w fun v' _=>∃d,v'= .bool d∧(d=true->css.length<=80∧∀cs∈css,vR cs)):=by
 have hw:cR w.heap.size w w:=cR.refl;have h4:∀cs∈css,cs.length=4:=fun cs hc=>by obtain⟨_,_,_,_,_,_,_,_,rfl⟩:=hF cs hc;rfl
 have hK:eI 4 (fun _ _ cs x=>cs=x) w S v css:=⟨css,hq,rfl,h4,fun j cs x h1 h2=>by rw[h1]at h2;injection h2⟩
 obtain⟨a,c,rfl,hc,hm⟩:=hK.shape;unfold maxLen at hm;refine xo (by simp) ?_
 refine⟨Nat×World,fun z=>⟨[(0,.o (.v (.slice a css.length c))),(3,.o (.v (.int .i64 ((z.1:Nat):Int))))],[],0,[],z.2⟩,fun z=>css.length-z.1,
  fun z=>z.1<=css.length∧cR w.heap.size w z.2∧∀j cs,j<z.1->css[j]? =some cs->vR cs,?_,?_⟩
 ·intro O w' r3;exact⟨(0,w'),⟨aP _,hw.tr r3.cI,fun j cs hj=>absurd hj (Nat.not_lt_zero j)⟩,Sub.gn [] r3⟩
 rintro⟨i,w1⟩ ⟨hi,hw,hE⟩;dsimp only at hi hw hE ⊢;refine dF.mk (fun hib=>?_) (fun hib=>?_)
 ·have hib:i<css.length:=by simpa using hib
  refine dF.mk (fun h80=>?_) (fun h80=>?_)
  ·have h80:css.length<=80:=by have:=aG h80;omega
   obtain⟨cs,hcs⟩:∃cs,css[i]? =some cs:=⟨_,aA hib⟩
   obtain⟨g0,g1,g2,g3,g4,g5,g6,g7,rfl⟩:=hF cs (aD hcs);obtain⟨adx,cs2,hax,he2,-,hat⟩:=hK.load (by decide) hcs;subst he2;refine⟨adx,hax,by omega,.slice g1 g2 g3,fun O w' r=>?_,?_⟩
   ·obtain⟨k1,k2⟩:=hat 1 _ rfl;rw[aJ,cJ (w:=w) (w2:=w') (by simp only[eA];exact(hw.tr r.cI).block _ (hS _ k1))];exact k2
   refine dF.mk (fun k3=>?_) (fun k3=>?_)
   ·intro ρe we re;exact⟨_,rfl,hw.tr re.cI,_,rfl,fun h=>by cases h⟩
   have k3:=aF k3;refine⟨adx,hax,by omega,.slice g5 g6 g7,fun O w' r=>?_,?_⟩
   ·obtain⟨k1,k2⟩:=hat 3 _ rfl;rw[aJ,cJ (w:=w) (w2:=w') (by simp only[eA];exact(hw.tr r.cI).block _ (hS _ k1))];exact k2
   refine dF.mk (fun k4=>?_) (fun k4=>?_)
   ·intro ρe we re;exact⟨_,rfl,hw.tr re.cI,_,rfl,fun h=>by cases h⟩
   have k4:=aF k4;have hE2:∀j cs,j<i+1->css[j]? =some cs->vR cs:=fun j cs hj hc=>by
    rcases aO j i with h|h
    ·exact hE j cs h hc
    ·have:j=i:=by omega
     subst this;rw[hcs]at hc;injection hc with hc;subst hc;exact⟨_,_,_,_,_,_,_,_,rfl,by omega,by omega⟩
   refine⟨((i+1:Nat):Int),wo,?_⟩;intro ρ3 w6 r3;exact⟨(i+1,w6),⟨hib,hw.tr r3.cI,hE2⟩,Sub.gn [] r3,by dsimp only;omega⟩
  ·have h80:=aF h80;intro ρe we re;exact⟨_,rfl,hw.tr re.cI,_,rfl,fun h=>by have:=aG h;omega⟩
 have hib:i=css.length:=aQ hi (by simpa using hib);subst hib;intro ρe we re
 exact⟨_,rfl,hw.tr re.cI,_,rfl,fun h=>⟨by have:=aG h;omega,fun cs hc=>by
  obtain⟨j,hj⟩:=aT hc
  exact hE j cs (aC.1 hj).1 hj⟩⟩
end Go.Ex
namespace Go.Ex
theorem aAD{a b x p q:Rat}(h1:a<x)(h2:x<=b):(p<=q->p<=p+(x-a) / (b-a)*(q-p)∧p+(x-a) / (b-a)*(q-p)<=q)∧(q<=p->q<=p+(x-a) / (b-a)*(q-p)∧p+(x-a) / (b-a)*(q-p)<=p):=by
 have hd:0<b-a:=by grind
 have hi:0<=(b-a)⁻¹:=Rat.le_of_lt (Rat.inv_pos.2 hd);obtain⟨t,ht⟩:∃t,(x-a) / (b-a)=t:=⟨_,rfl⟩
 have t0:0<=t:=by rw[<-ht,bW];exact Rat.mul_nonneg (by grind) hi
 have t1:t<=1:=by
  rw[<-ht,bW,<-Rat.mul_inv_cancel (b-a) (by grind)];exact Rat.mul_le_mul_of_nonneg_right (by grind) hi
 rw[ht];refine⟨fun h=>?_,fun h=>?_⟩
 ·have k1:0<=t*(q-p):=Rat.mul_nonneg t0 (by grind);have k2:t*(q-p)<=1*(q-p):=Rat.mul_le_mul_of_nonneg_right t1 (by grind);grind
 ·have k1:0<=t*(p-q):=Rat.mul_nonneg t0 (by grind);have k2:t*(p-q)<=1*(p-q):=Rat.mul_le_mul_of_nonneg_right t1 (by grind);have k3:t*(q-p)= -(t*(p-q)):=by grind
  grind
end Go.Ex
namespace Go.Ex
open Go Go.Sx Go.Proofs
variable{p:Int×Int×(Int×Int)}{xs:List (Int×Int×(Int×Int))}{css:List (List Value)}{cs:List Value}{S:Nat->Prop}{ax:Option Addr}{v vb vn vs:Value}{w:World}{f:ei}
theorem nD(c b:Int×Int×Rat):fY c=fY b↔(c.1=b.1∧c.2.1=b.2.1)∨(c.1=b.2.1∧c.2.1=b.1):=by
 unfold fY;rw[Prod.mk.injEq];omega
theorem BG(c b:Int×Int×Rat):gp c=gp b↔c.1=b.1∧c.2.1=b.2.1:=by
 unfold gp;rw[Prod.mk.injEq]
section
variable{α β:Type}{L:List α}{K:α->β}{x:β}
theorem k8{k:Nat}{c:α}(hc:L[k]? =some c)(h:K c≠x)(hE:x∈L.map K↔x∈(L.drop k).map K):x∈L.map K↔x∈(L.drop (k+1)).map K:=by
 rw[hE,List.drop_eq_getElem_cons (aC.1 hc).1,(aC.1 hc).2,List.map_cons,List.mem_cons,or_iff_right fun e=>h e.symm]
theorem sW{k:Nat}{c:α}(hc:L[k]? =some c)(h:K c=x):x∈L.map K:=aR.2 ⟨c,aD hc,h⟩
theorem BH{k:Nat}(hk:L.length<=k)(hE:x∈L.map K↔x∈(L.drop k).map K):x∉L.map K:=fun h=>by
 have:=hE.1 h;rw[List.drop_eq_nil_of_le hk]at this
 cases this
end
theorem pI(n:Int)(an ab aq:Option Addr)(ln cn nb cb nq cq:Nat)(w:World):di PG N.r9 #[.agg #[.slice an ln cn,.slice ab nb cb,.slice aq nq cq],.int .i64 n] w (dw w fun v' _=>∃d,v'= .bool d∧(d=true↔iH ln n)):=by
 have hw:cR w.heap.size w w:=cR.refl;refine vB (by simp) ?_;refine dF.mk (fun h1=>?_) (fun h1=>?_)
 ·intro ρe we re;have h1:=aG h1;exact⟨_,rfl,hw.tr re.cI,_,rfl,by rw[decide_eq_true_iff];exact⟨fun h=>⟨h1,h⟩,fun h=>h.2⟩⟩
 ·intro ρe we re;have h1:=aF h1;exact⟨_,rfl,hw.tr re.cI,_,rfl,(fun h=>by cases h),fun h=>absurd h.1 h1⟩
theorem k9(n lo hi:Int)(w:World):di PG N.uS #[.int .i64 n,.int .i64 lo,.int .i64 hi] w (dw w fun v' _=>∃d,v'= .bool d∧(d=true↔lo<=n∧n<=hi)):=by
 have hw:cR w.heap.size w w:=cR.refl;refine xq (by simp) ?_;refine dF.mk (fun h1=>?_) (fun h1=>?_)
 ·intro ρe we re;have h1:=aG h1;exact⟨_,rfl,hw.tr re.cI,_,rfl,by rw[decide_eq_true_iff];exact⟨fun h=>⟨h1,h⟩,fun h=>h.2⟩⟩
 ·intro ρe we re;have h1:=aF h1;exact⟨_,rfl,hw.tr re.cI,_,rfl,(fun h=>by cases h),fun h=>absurd h.1 h1⟩
theorem yQ{q:Rat}(hS:Old S w)(hp:eR w S v q):di PG N.jx #[v] w (dw w fun v' _=>v'= .int .i64 (rs q)):=by
 obtain⟨a,b,h1,rfl,_,_⟩:=hp.v;exact yR hS h1
set_option maxHeartbeats 2000000 in
theorem Cb(hS:Old S w)(hf:dU w S vn vb vs f):di PG N.uR #[.agg #[vn,vb,vs]] w (dw w fun v' _=>v'= .int .i64 (dx f)):=by
 have hw:cR w.heap.size w w:=cR.refl;obtain⟨an,cn,ab,cb,aq,cq,rfl,rfl,rfl,hmn,hmb,hms⟩:=hf.shape;refine xp (by simp) ?_;refine dF.mk (fun h0=>?_) (fun h0=>?_)
 ·have h0:=aG h0;intro ρe we re;exact⟨_,rfl,hw.tr re.cI,by show Value.int .i64 _=_;rw[dx,if_pos (by omega)]⟩
 have h0:=aF h0;refine dF.mk (fun h1=>?_) (fun h1=>?_)
 ·have h1:=aG h1;intro ρe we re;exact⟨_,rfl,hw.tr re.cI,by show Value.int .i64 _=_;rw[dx,if_pos (by omega)]⟩
 have h1:=aF h1;refine dF.mk (fun h2=>?_) (fun h2=>?_)
 ·have h2:=aG h2;intro ρe we re;exact⟨_,rfl,hw.tr re.cI,by show Value.int .i64 _=_;rw[dx,if_pos (by omega)]⟩
 have h2:=aF h2
 refine⟨Nat×World×Iv,fun z=>⟨[(1,.o (.p 0 0)),(3,.o (.v (.int .i64 ((z.1:Nat):Int))))],[(0,.box T.Frame [.v (.slice an f.nodes.length cn),.v (.slice ab f.bars.length cb),.v (.slice aq f.cS.length cq)])],1,z.2.2,z.2.1⟩,fun z=>f.nodes.length-z.1,
  fun z=>z.1<=f.nodes.length∧cR w.heap.size w z.2.1∧eN eS [] f.nodes=eN eS (f.nodes.take z.1) (f.nodes.drop z.1),?_,?_⟩
 ·intro O w' r3;exact⟨(0,w',_),⟨aP _,hw.tr r3.cI,rfl⟩,Sub.gn [] r3⟩
 rintro⟨i,w1,iv⟩ ⟨hi,hw,hE⟩;dsimp only at hi hw hE ⊢;refine dF.mk (fun hib=>?_) (fun hib=>?_)
 ·have hib:i<f.nodes.length:=by simpa using hib
  obtain⟨b,hx⟩:∃b,f.nodes[i]? =some b:=⟨_,aA hib⟩
  have hLl:(f.nodes.take i).length=i:=by rw[aW];omega
  obtain⟨adb,cs,hab,hF,-,hlb⟩:=hf.nodes.load (by decide) hx;have hF:cs=[.int .i64 b.1,.int .i64 b.2.1,.int .i64 b.2.2]:=hF;subst hF;refine⟨adb,hab,by omega,[.int .i64 b.1,.int .i64 b.2.1,.int .i64 b.2.2],rfl,rdO hlb hw hS,?_⟩;refine bw (cE hw (fun _ w' v w2=>∃d,v= .bool d∧(d=true↔l8 b.1)) (fun O w' r=>k9 _ _ _ w') ?_);rintro O wa1 v1 wb1 iv1 r he hw h_ ⟨d0,rfl,hz0⟩
  cases d0
  ·have hz0:¬l8 b.1:=fun h=>by have:=hz0.2 h;cases this
   intro ρe we re;exact⟨_,rfl,hw.tr re.cI,by show Value.int .i64 _=_;rw[dx,aI (by omega),if_pos (by rw[hE,cL hx (show eS (f.nodes.take i) b=2 by rw[eS,aI (fun h=>hz0 h.1)]) (by decide)];decide),hE,cL hx (show eS (f.nodes.take i) b=2 by rw[eS,aI (fun h=>hz0 h.1)]) (by decide)]⟩
  replace hz0:=hz0.1 rfl;refine bw (cE hw (fun _ w' v w2=>∃d,v= .bool d∧(d=true↔l8 b.2.1)) (fun O w' r=>k9 _ _ _ w') ?_);rintro O wa2 v2 wb2 iv2 r he hw h_ ⟨d1,rfl,hz1⟩
  cases d1
  ·have hz1:¬l8 b.2.1:=fun h=>by have:=hz1.2 h;cases this
   intro ρe we re;exact⟨_,rfl,hw.tr re.cI,by show Value.int .i64 _=_;rw[dx,aI (by omega),if_pos (by rw[hE,cL hx (show eS (f.nodes.take i) b=2 by rw[eS,aI (fun h=>hz1 h.2.1)]) (by decide)];decide),hE,cL hx (show eS (f.nodes.take i) b=2 by rw[eS,aI (fun h=>hz1 h.2.1)]) (by decide)]⟩
  replace hz1:=hz1.1 rfl;refine bw (cE hw (fun _ w' v w2=>∃d,v= .bool d∧(d=true↔l8 b.2.2)) (fun O w' r=>k9 _ _ _ w') ?_);rintro O wa3 v3 wb3 iv3 r he hw h_ ⟨d2,rfl,hz2⟩
  cases d2
  ·have hz2:¬l8 b.2.2:=fun h=>by have:=hz2.2 h;cases this
   intro ρe we re;exact⟨_,rfl,hw.tr re.cI,by show Value.int .i64 _=_;rw[dx,aI (by omega),if_pos (by rw[hE,cL hx (show eS (f.nodes.take i) b=2 by rw[eS,aI (fun h=>hz2 h.2.2)]) (by decide)];decide),hE,cL hx (show eS (f.nodes.take i) b=2 by rw[eS,aI (fun h=>hz2 h.2.2)]) (by decide)]⟩
  replace hz2:=hz2.1 rfl
  refine⟨Nat×World,fun z=>⟨[(1,.o (.p 0 0)),(3,.o (.v (.int .i64 ((i:Nat):Int)))),(4,.o (.p 1 0)),(5,.o (.v (.int .i64 ((z.1:Nat):Int))))],[(1,.box T.Node [.v (.int .i64 b.1),.v (.int .i64 b.2.1),.v (.int .i64 b.2.2)]),(0,.box T.Frame [.v (.slice an f.nodes.length cn),.v (.slice ab f.bars.length cb),.v (.slice aq f.cS.length cq)])],2,iv3,z.2⟩,fun z=>i-z.1,
   fun z=>z.1<=i∧cR w.heap.size w z.2∧(b∈(f.nodes.take i).map id↔b∈((f.nodes.take i).drop z.1).map id),?_,?_⟩
  ·intro O w' r3;exact⟨(0,w'),⟨aP _,hw.tr r3.cI,Iff.rfl⟩,Sub.gn [] r3⟩
  rintro⟨k,w2⟩ ⟨hk,hw,hK⟩;dsimp only at hk hw hK ⊢;refine dF.mk (fun hkb=>?_) (fun hkb=>?_)
  ·have hkb:k<i:=by have:=aG hkb;omega
   obtain⟨c,hc⟩:∃c,f.nodes[k]? =some c:=⟨_,aA (by omega)⟩
   have hcL:(f.nodes.take i)[k]? =some c:=by rw[bK hkb];exact hc
   obtain⟨adc,cs2,hac,hF2,-,hlc⟩:=hf.nodes.load (by decide) hc;have hF2:cs2=[.int .i64 c.1,.int .i64 c.2.1,.int .i64 c.2.2]:=hF2;subst hF2;refine cF hτ dc [.x 0,.x 1,.x 2,.x 3,.x 4,.x 5,.x 6] (by kernel_rfl) (by kernel_rfl) ?_;refine⟨adc,hac,by omega,[.int .i64 c.1,.int .i64 c.2.1,.int .i64 c.2.2],rfl,rdO hlc hw hS,decide (c=b),fun O w o1 o2=>C9 c b w o1 o2,?_⟩;refine dF.mk (fun hd=>?_) (fun hd=>?_)
   ·have hd:c=b:=aG hd;have hin:b∈f.nodes.take i:=by have:=sW (K:=id) hcL hd;rwa [List.map_id]at this
    intro ρe we re;exact⟨_,rfl,hw.tr re.cI,by show Value.int .i64 _=_;rw[dx,aI (by omega),if_pos (by rw[hE,cL hx (show eS (f.nodes.take i) b=12 by rw[eS,if_pos ⟨hz0,hz1,hz2⟩,if_pos hin]) (by decide)];decide),hE,cL hx (show eS (f.nodes.take i) b=12 by rw[eS,if_pos ⟨hz0,hz1,hz2⟩,if_pos hin]) (by decide)]⟩
   have hd:c≠b:=aF hd;have hK2:=k8 (K:=id) hcL hd hK;refine⟨((k+1:Nat):Int),wo,?_⟩;intro ρ3 w6 r3;exact⟨(k+1,w6),⟨hkb,hw.tr r3.cI,hK2⟩,Sub.gn [] r3,by dsimp only;omega⟩
  have hkb:k=i:=by have:=aF hkb;omega
  have hdup:=BH (by rw[hLl];omega) hK;rw[List.map_id]at hdup;rw[fk hx (ql.2 ⟨⟨hz0,hz1,hz2⟩,hdup⟩)]at hE;refine⟨((i+1:Nat):Int),wo,?_⟩;intro ρ3 w6 r3;exact⟨(i+1,w6,_),⟨hib,hw.tr r3.cI,hE⟩,Sub.gn [] r3,by dsimp only;omega⟩
 have hib:i=f.nodes.length:=aQ hi (by simpa using hib);rw[gw (by omega)]at hE
 refine⟨Nat×World×Iv,fun z=>⟨[(1,.o (.p 0 0)),(6,.o (.v (.int .i64 ((z.1:Nat):Int))))],[(0,.box T.Frame [.v (.slice an f.nodes.length cn),.v (.slice ab f.bars.length cb),.v (.slice aq f.cS.length cq)])],1,z.2.2,z.2.1⟩,fun z=>f.bars.length-z.1,
  fun z=>z.1<=f.bars.length∧cR w.heap.size w z.2.1∧eN (eX f.nodes.length) [] f.bars=eN (eX f.nodes.length) (f.bars.take z.1) (f.bars.drop z.1),?_,?_⟩
 ·intro O w' r3;exact⟨(0,w',_),⟨aP _,hw.tr r3.cI,rfl⟩,Sub.gn [] r3⟩
 rintro⟨i,w1,iv⟩ ⟨hi,hw,hE2⟩;dsimp only at hi hw hE2 ⊢;refine dF.mk (fun hib=>?_) (fun hib=>?_)
 ·have hib:i<f.bars.length:=by simpa using hib
  obtain⟨b,hx⟩:∃b,f.bars[i]? =some b:=⟨_,aA hib⟩
  have hLl:(f.bars.take i).length=i:=by rw[aW];omega
  obtain⟨adb,cs,hab,hF,-,hlb⟩:=hf.bars.load (by decide) hx;obtain⟨g0,g1,g2,g3,g4,g5,g6,g7,rfl,hF⟩:=hF;refine⟨adb,hab,by omega,[.int .i64 b.1,.int .i64 b.2.1,.bool g0,.slice g1 g2 g3,.bool g4,.slice g5 g6 g7],rfl,rdO hlb hw hS,?_⟩;refine bw (cE hw (fun _ w' v w2=>∃d,v= .bool d∧(d=true↔iH f.nodes.length b.1)) (fun O w' r=>pI _ _ _ _ _ _ _ _ _ _ w') ?_);rintro O wa1 v1 wb1 iv1 r he hw h_ ⟨d0,rfl,hz0⟩
  cases d0
  ·have hz0:¬iH f.nodes.length b.1:=fun h=>by have:=hz0.2 h;cases this
   intro ρe we re;exact⟨_,rfl,hw.tr re.cI,by show Value.int .i64 _=_;rw[dx,aI (by omega),aI (by rw[hE];decide),if_pos (by rw[hE2,cL hx (show eX f.nodes.length (f.bars.take i) b=6 by rw[eX,aI (fun h=>hz0 h.1)]) (by decide)];decide),hE2,cL hx (show eX f.nodes.length (f.bars.take i) b=6 by rw[eX,aI (fun h=>hz0 h.1)]) (by decide)]⟩
  replace hz0:=hz0.1 rfl;refine bw (cE hw (fun _ w' v w2=>∃d,v= .bool d∧(d=true↔iH f.nodes.length b.2.1)) (fun O w' r=>pI _ _ _ _ _ _ _ _ _ _ w') ?_);rintro O wa2 v2 wb2 iv2 r he hw h_ ⟨d1,rfl,hz1⟩
  cases d1
  ·have hz1:¬iH f.nodes.length b.2.1:=fun h=>by have:=hz1.2 h;cases this
   intro ρe we re;exact⟨_,rfl,hw.tr re.cI,by show Value.int .i64 _=_;rw[dx,aI (by omega),aI (by rw[hE];decide),if_pos (by rw[hE2,cL hx (show eX f.nodes.length (f.bars.take i) b=6 by rw[eX,aI (fun h=>hz1 h.2)]) (by decide)];decide),hE2,cL hx (show eX f.nodes.length (f.bars.take i) b=6 by rw[eX,aI (fun h=>hz1 h.2)]) (by decide)]⟩
  replace hz1:=hz1.1 rfl;refine dF.mk (fun hab2=>?_) (fun hab2=>?_)
  ·have hab2:b.1=b.2.1:=by simpa using hab2
   intro ρe we re;exact⟨_,rfl,hw.tr re.cI,by show Value.int .i64 _=_;rw[dx,aI (by omega),aI (by rw[hE];decide),if_pos (by rw[hE2,cL hx (show eX f.nodes.length (f.bars.take i) b=3 by rw[eX,if_pos ⟨hz0,hz1⟩,if_pos hab2]) (by decide)];decide),hE2,cL hx (show eX f.nodes.length (f.bars.take i) b=3 by rw[eX,if_pos ⟨hz0,hz1⟩,if_pos hab2]) (by decide)]⟩
  have hab2:b.1≠b.2.1:=by simpa using hab2
  refine⟨Nat×World,fun z=>⟨[(1,.o (.p 0 0)),(6,.o (.v (.int .i64 ((i:Nat):Int)))),(7,.o (.p 1 0)),(8,.o (.v (.int .i64 ((z.1:Nat):Int))))],[(1,.box T.K4 [.v (.int .i64 b.1),.v (.int .i64 b.2.1),.v (.bool g0),.v (.slice g1 g2 g3),.v (.bool g4),.v (.slice g5 g6 g7)]),(0,.box T.Frame [.v (.slice an f.nodes.length cn),.v (.slice ab f.bars.length cb),.v (.slice aq f.cS.length cq)])],2,iv2,z.2⟩,fun z=>i-z.1,
   fun z=>z.1<=i∧cR w.heap.size w z.2∧(fY b∈(f.bars.take i).map fY↔fY b∈((f.bars.take i).drop z.1).map fY),?_,?_⟩
  ·intro O w' r3;exact⟨(0,w'),⟨aP _,hw.tr r3.cI,Iff.rfl⟩,Sub.gn [] r3⟩
  rintro⟨k,w2⟩ ⟨hk,hw,hK⟩;dsimp only at hk hw hK ⊢;refine dF.mk (fun hkb=>?_) (fun hkb=>?_)
  ·have hkb:k<i:=by have:=aG hkb;omega
   obtain⟨c,hc⟩:∃c,f.bars[k]? =some c:=⟨_,aA (by omega)⟩
   have hcL:(f.bars.take i)[k]? =some c:=by rw[bK hkb];exact hc
   obtain⟨adc,cs2,hac,hF2,-,hlc⟩:=hf.bars.load (by decide) hc;obtain⟨q0,q1,q2,q3,q4,q5,q6,q7,rfl,-⟩:=hF2;refine⟨adc,hac,by omega,[.int .i64 c.1,.int .i64 c.2.1,.bool q0,.slice q1 q2 q3,.bool q4,.slice q5 q6 q7],rfl,rdO hlc hw hS,?_⟩;refine dF.mk (fun e1=>?_) (fun e1=>?_)
   ·have e1:(c.1=b.1):=by simpa using e1
    refine dF.mk (fun e2=>?_) (fun e2=>?_)
    ·have e2:(c.2.1=b.2.1):=by simpa using e2
     have hin:=sW (K:=fY) hcL (show fY c=fY b by rw[nD];omega);intro ρe we re;exact⟨_,rfl,hw.tr re.cI,by show Value.int .i64 _=_;rw[dx,aI (by omega),aI (by rw[hE];decide),if_pos (by rw[hE2,cL hx (show eX f.nodes.length (f.bars.take i) b=5 by rw[eX,if_pos ⟨hz0,hz1⟩,aI hab2,if_pos hin]) (by decide)];decide),hE2,cL hx (show eX f.nodes.length (f.bars.take i) b=5 by rw[eX,if_pos ⟨hz0,hz1⟩,aI hab2,if_pos hin]) (by decide)]⟩
    ·have e2:¬(c.2.1=b.2.1):=by simpa using e2
     refine dF.mk (fun e3=>?_) (fun e3=>?_)
     ·have e3:(c.1=b.2.1):=by simpa using e3
      refine dF.mk (fun e4=>?_) (fun e4=>?_)
      ·have e4:(c.2.1=b.1):=by simpa using e4
       have hin:=sW (K:=fY) hcL (show fY c=fY b by rw[nD];omega);intro ρe we re;exact⟨_,rfl,hw.tr re.cI,by show Value.int .i64 _=_;rw[dx,aI (by omega),aI (by rw[hE];decide),if_pos (by rw[hE2,cL hx (show eX f.nodes.length (f.bars.take i) b=5 by rw[eX,if_pos ⟨hz0,hz1⟩,aI hab2,if_pos hin]) (by decide)];decide),hE2,cL hx (show eX f.nodes.length (f.bars.take i) b=5 by rw[eX,if_pos ⟨hz0,hz1⟩,aI hab2,if_pos hin]) (by decide)]⟩
      ·have e4:¬(c.2.1=b.1):=by simpa using e4
       have hK2:=k8 (K:=fY) hcL (show fY c≠fY b by rw[Ne,nD];omega) hK;refine⟨((k+1:Nat):Int),wo,?_⟩;intro ρ3 w6 r3;exact⟨(k+1,w6),⟨hkb,hw.tr r3.cI,hK2⟩,Sub.gn [] r3,by dsimp only;omega⟩
     ·have e3:¬(c.1=b.2.1):=by simpa using e3
      have hK2:=k8 (K:=fY) hcL (show fY c≠fY b by rw[Ne,nD];omega) hK;refine⟨((k+1:Nat):Int),wo,?_⟩;intro ρ3 w6 r3;exact⟨(k+1,w6),⟨hkb,hw.tr r3.cI,hK2⟩,Sub.gn [] r3,by dsimp only;omega⟩
   ·have e1:¬(c.1=b.1):=by simpa using e1
    refine dF.mk (fun e3=>?_) (fun e3=>?_)
    ·have e3:(c.1=b.2.1):=by simpa using e3
     refine dF.mk (fun e4=>?_) (fun e4=>?_)
     ·have e4:(c.2.1=b.1):=by simpa using e4
      have hin:=sW (K:=fY) hcL (show fY c=fY b by rw[nD];omega);intro ρe we re;exact⟨_,rfl,hw.tr re.cI,by show Value.int .i64 _=_;rw[dx,aI (by omega),aI (by rw[hE];decide),if_pos (by rw[hE2,cL hx (show eX f.nodes.length (f.bars.take i) b=5 by rw[eX,if_pos ⟨hz0,hz1⟩,aI hab2,if_pos hin]) (by decide)];decide),hE2,cL hx (show eX f.nodes.length (f.bars.take i) b=5 by rw[eX,if_pos ⟨hz0,hz1⟩,aI hab2,if_pos hin]) (by decide)]⟩
     ·have e4:¬(c.2.1=b.1):=by simpa using e4
      have hK2:=k8 (K:=fY) hcL (show fY c≠fY b by rw[Ne,nD];omega) hK;refine⟨((k+1:Nat):Int),wo,?_⟩;intro ρ3 w6 r3;exact⟨(k+1,w6),⟨hkb,hw.tr r3.cI,hK2⟩,Sub.gn [] r3,by dsimp only;omega⟩
    ·have e3:¬(c.1=b.2.1):=by simpa using e3
     have hK2:=k8 (K:=fY) hcL (show fY c≠fY b by rw[Ne,nD];omega) hK;refine⟨((k+1:Nat):Int),wo,?_⟩;intro ρ3 w6 r3;exact⟨(k+1,w6),⟨hkb,hw.tr r3.cI,hK2⟩,Sub.gn [] r3,by dsimp only;omega⟩
  have hkb:k=i:=by have:=aF hkb;omega
  have hdup:=BH (by rw[hLl];omega) hK;refine bw (cE hw (fun _ w' v w2=>v= .int .i64 (rs b.2.2)) (fun O w' r=>(yQ (oS hS r) (hF.cB (kS hw r hS)))) ?_);rintro O wa3 v3 wb3 iv3 r he hw h_ rfl;obtain⟨cf,hcf⟩:∃c,rs b.2.2=c:=⟨_,rfl⟩
  rw[hcf];refine dF.mk (fun hd2=>?_) (fun hd2=>?_)
  ·have hd2:b.2.2<=0:=by have:=aG hd2;rw[<-Rat.not_lt,<-nB];omega
   intro ρe we re;exact⟨_,rfl,hw.tr re.cI,by show Value.int .i64 _=_;rw[dx,aI (by omega),aI (by rw[hE];decide),if_pos (by rw[hE2,cL hx (show eX f.nodes.length (f.bars.take i) b=2 by rw[eX,if_pos ⟨hz0,hz1⟩,aI hab2,aI hdup,if_pos hd2]) (by decide)];decide),hE2,cL hx (show eX f.nodes.length (f.bars.take i) b=2 by rw[eX,if_pos ⟨hz0,hz1⟩,aI hab2,aI hdup,if_pos hd2]) (by decide)]⟩
  have hd2:0<b.2.2:=by have:=aF hd2;rw[<-nB];omega
  rw[fk hx (pG.2 ⟨⟨hz0,hz1⟩,hab2,hdup,hd2⟩)]at hE2;refine⟨((i+1:Nat):Int),wo,?_⟩;intro ρ3 w6 r3;exact⟨(i+1,w6,_),⟨hib,hw.tr r3.cI,hE2⟩,Sub.gn [] r3,by dsimp only;omega⟩
 have hib:i=f.bars.length:=aQ hi (by simpa using hib);rw[gw (by omega)]at hE2
 refine⟨Nat×World×Iv,fun z=>⟨[(1,.o (.p 0 0)),(10,.o (.v (.int .i64 ((z.1:Nat):Int))))],[(0,.box T.Frame [.v (.slice an f.nodes.length cn),.v (.slice ab f.bars.length cb),.v (.slice aq f.cS.length cq)])],1,z.2.2,z.2.1⟩,fun z=>f.cS.length-z.1,
  fun z=>z.1<=f.cS.length∧cR w.heap.size w z.2.1∧eN (j8 f.nodes.length) [] f.cS=eN (j8 f.nodes.length) (f.cS.take z.1) (f.cS.drop z.1),?_,?_⟩
 ·intro O w' r3;exact⟨(0,w',_),⟨aP _,hw.tr r3.cI,rfl⟩,Sub.gn [] r3⟩
 rintro⟨i,w1,iv⟩ ⟨hi,hw,hE3⟩;dsimp only at hi hw hE3 ⊢;refine dF.mk (fun hib=>?_) (fun hib=>?_)
 ·have hib:i<f.cS.length:=by simpa using hib
  obtain⟨b,hx⟩:∃b,f.cS[i]? =some b:=⟨_,aA hib⟩
  have hLl:(f.cS.take i).length=i:=by rw[aW];omega
  obtain⟨adb,cs,hab,hF,-,hlb⟩:=hf.cS.load (by decide) hx;obtain⟨g0,g1,g2,g3,g4,g5,g6,g7,rfl,hF⟩:=hF;refine⟨adb,hab,by omega,[.int .i64 b.1,.int .i64 b.2.1,.bool g0,.slice g1 g2 g3,.bool g4,.slice g5 g6 g7],rfl,rdO hlb hw hS,?_⟩;refine bw (cE hw (fun _ w' v w2=>∃d,v= .bool d∧(d=true↔iH f.nodes.length b.1)) (fun O w' r=>pI _ _ _ _ _ _ _ _ _ _ w') ?_);rintro O wa1 v1 wb1 iv1 r he hw h_ ⟨d0,rfl,hz0⟩
  cases d0
  ·have hz0:¬iH f.nodes.length b.1:=fun h=>by have:=hz0.2 h;cases this
   intro ρe we re;exact⟨_,rfl,hw.tr re.cI,by show Value.int .i64 _=_;rw[dx,aI (by omega),aI (by rw[hE];decide),aI (by rw[hE2];decide),hE3,cL hx (show j8 f.nodes.length (f.cS.take i) b=6 by rw[j8,aI hz0]) (by decide)]⟩
  replace hz0:=hz0.1 rfl;refine bw (cE hw (fun _ w' v w2=>∃d,v= .bool d∧(d=true↔0<=b.2.1∧b.2.1<=2)) (fun O w' r=>k9 _ _ _ w') ?_);rintro O wa2 v2 wb2 iv2 r he hw h_ ⟨d1,rfl,hax⟩
  cases d1
  ·have hax:¬(0<=b.2.1∧b.2.1<=2):=fun h=>by have:=hax.2 h;cases this
   intro ρe we re;exact⟨_,rfl,hw.tr re.cI,by show Value.int .i64 _=_;rw[dx,aI (by omega),aI (by rw[hE];decide),aI (by rw[hE2];decide),hE3,cL hx (show j8 f.nodes.length (f.cS.take i) b=2 by rw[j8,if_pos hz0,aI hax]) (by decide)]⟩
  replace hax:=hax.1 rfl
  refine⟨Nat×World,fun z=>⟨[(1,.o (.p 0 0)),(10,.o (.v (.int .i64 ((i:Nat):Int)))),(11,.o (.p 1 0)),(12,.o (.v (.int .i64 ((z.1:Nat):Int))))],[(1,.box T.vq [.v (.int .i64 b.1),.v (.int .i64 b.2.1),.v (.bool g0),.v (.slice g1 g2 g3),.v (.bool g4),.v (.slice g5 g6 g7)]),(0,.box T.Frame [.v (.slice an f.nodes.length cn),.v (.slice ab f.bars.length cb),.v (.slice aq f.cS.length cq)])],2,iv2,z.2⟩,fun z=>i-z.1,
   fun z=>z.1<=i∧cR w.heap.size w z.2∧(gp b∈(f.cS.take i).map gp↔gp b∈((f.cS.take i).drop z.1).map gp),?_,?_⟩
  ·intro O w' r3;exact⟨(0,w'),⟨aP _,hw.tr r3.cI,Iff.rfl⟩,Sub.gn [] r3⟩
  rintro⟨k,w2⟩ ⟨hk,hw,hK⟩;dsimp only at hk hw hK ⊢;refine dF.mk (fun hkb=>?_) (fun hkb=>?_)
  ·have hkb:k<i:=by have:=aG hkb;omega
   obtain⟨c,hc⟩:∃c,f.cS[k]? =some c:=⟨_,aA (by omega)⟩
   have hcL:(f.cS.take i)[k]? =some c:=by rw[bK hkb];exact hc
   obtain⟨adc,cs2,hac,hF2,-,hlc⟩:=hf.cS.load (by decide) hc;obtain⟨q0,q1,q2,q3,q4,q5,q6,q7,rfl,-⟩:=hF2;refine cF hτ dc [.x 0,.x 1,.x 2,.x 3,.x 4,.x 5,.x 6,.x 7,.x 8,.x 9,.x 10,.x 11,.x 12,.x 13,.x 14,.x 15,.x 16,.x 17,.x 18,.x 19] (by kernel_rfl) (by kernel_rfl) ?_;refine⟨adc,hac,by omega,.int .i64 c.1,fun O w' r=>?_,?_⟩
   ·obtain⟨k1,k2⟩:=hlc 0 _ rfl;rw[cJ (w:=w) (w2:=w') (by simp only[eA];exact(hw.tr r.cI).block _ (hS _ k1))];simp only[aJ,BF]at k2 ⊢;exact k2
   refine dF.mk (fun e1=>?_) (fun e1=>?_)
   ·have e1:(c.1=b.1):=by simpa using e1
    refine⟨adc,hac,by omega,.int .i64 c.2.1,fun O w' r=>?_,?_⟩
    ·obtain⟨k1,k2⟩:=hlc 1 _ rfl;rw[cJ (w:=w) (w2:=w') (by simp only[eA];exact(hw.tr r.cI).block _ (hS _ k1))];simp only[aJ,BF]at k2 ⊢;exact k2
    refine dF.mk (fun e2=>?_) (fun e2=>?_)
    ·have e2:(c.2.1=b.2.1):=by simpa using e2
     have hin:=sW (K:=gp) hcL (show gp c=gp b by rw[BG];omega);intro ρe we re;exact⟨_,rfl,hw.tr re.cI,by show Value.int .i64 _=_;rw[dx,aI (by omega),aI (by rw[hE];decide),aI (by rw[hE2];decide),hE3,cL hx (show j8 f.nodes.length (f.cS.take i) b=5 by rw[j8,if_pos hz0,if_pos hax,if_pos hin]) (by decide)]⟩
    ·have e2:¬(c.2.1=b.2.1):=by simpa using e2
     have hK2:=k8 (K:=gp) hcL (show gp c≠gp b by rw[Ne,BG];omega) hK;refine⟨((k+1:Nat):Int),wo,?_⟩;intro ρ3 w6 r3;exact⟨(k+1,w6),⟨hkb,hw.tr r3.cI,hK2⟩,Sub.gn [] r3,by dsimp only;omega⟩
   ·have e1:¬(c.1=b.1):=by simpa using e1
    have hK2:=k8 (K:=gp) hcL (show gp c≠gp b by rw[Ne,BG];omega) hK;refine⟨((k+1:Nat):Int),wo,?_⟩;intro ρ3 w6 r3;exact⟨(k+1,w6),⟨hkb,hw.tr r3.cI,hK2⟩,Sub.gn [] r3,by dsimp only;omega⟩
  have hkb:k=i:=by have:=aF hkb;omega
  have hdup:=BH (by rw[hLl];omega) hK;refine bw (cE hw (fun _ w' v w2=>v= .int .i64 (rs b.2.2)) (fun O w' r=>(yQ (oS hS r) (hF.cB (kS hw r hS)))) ?_);rintro O wa3 v3 wb3 iv3 r he hw h_ rfl;obtain⟨cf,hcf⟩:∃c,rs b.2.2=c:=⟨_,rfl⟩
  rw[hcf];refine dF.mk (fun hd2=>?_) (fun hd2=>?_)
  ·have hd2:b.2.2<0:=by have:=aG hd2;rw[<-k7];omega
   intro ρe we re;exact⟨_,rfl,hw.tr re.cI,by show Value.int .i64 _=_;rw[dx,aI (by omega),aI (by rw[hE];decide),aI (by rw[hE2];decide),hE3,cL hx (show j8 f.nodes.length (f.cS.take i) b=2 by rw[j8,if_pos hz0,if_pos hax,aI hdup,if_pos hd2]) (by decide)]⟩
  have hd2:0<=b.2.2:=by have:=aF hd2;rw[<-Rat.not_lt,<-k7];omega
  rw[fk hx (pF.2 ⟨hz0,hax,hdup,hd2⟩)]at hE3;refine⟨((i+1:Nat):Int),wo,?_⟩;intro ρ3 w6 r3;exact⟨(i+1,w6,_),⟨hib,hw.tr r3.cI,hE3⟩,Sub.gn [] r3,by dsimp only;omega⟩
 have hib:i=f.cS.length:=aQ hi (by simpa using hib);rw[gw (by omega)]at hE3;intro ρe we re;exact⟨_,rfl,hw.tr re.cI,by show Value.int .i64 _=_;rw[dx,aI (by omega),aI (by rw[hE];decide),aI (by rw[hE2];decide),hE3]⟩
def rq(p:Int×Int):Rat:=ratio p.1 p.2
structure Dp where
 nodes:List (Int×Int×Int)
 bars:List (Int×Int×(Int×Int))
 cS:List (Int×Int×(Int×Int))
def Dq(p:Int×Int×(Int×Int)):Int×Int×Rat:=(p.1,p.2.1,rq p.2.2)
def Dp.val(f:Dp):ei:=⟨f.nodes,f.bars.map Dq,f.cS.map Dq⟩
def sX(w:World)(S:Nat->Prop)(cs:List Value)(p:Int×Int×(Int×Int)):Prop:=∃b a n c b2 a2 n2 c2,cs=[.int .i64 p.1,.int .i64 p.2.1,.bool b,.slice a n c,.bool b2,.slice a2 n2 c2]∧gW w S (.agg #[.bool b,.slice a n c,.bool b2,.slice a2 n2 c2]) p.2.2.1 p.2.2.2
structure og(w:World)(S:Nat->Prop)(vn vb vs:Value)(f:Dp):Prop where
 nodes:l0 w S vn f.nodes
 bars:eI 6 sX w S vb f.bars
 cS:eI 6 sX w S vs f.cS
theorem sX.cB{w2:World}(h:sX w S cs p)(hk:∀g,S g->w2.heap[g]? =w.heap[g]?):sX w2 S cs p:=by
 obtain⟨b,a,n,c,b2,a2,n2,c2,h1,h2⟩:=h;exact⟨b,a,n,c,b2,a2,n2,c2,h1,h2.cB hk⟩
theorem og.cB{w2:World}{f:Dp}(h:og w S vn vb vs f)(hk:∀g,S g->w2.heap[g]? =w.heap[g]?):og w2 S vn vb vs f:=
 ⟨eI.cB (w:=w) (fun _ _ h=>h) h.nodes hk,eI.cB (fun _ _ h=>h.cB hk) h.bars hk,eI.cB (fun _ _ h=>h.cB hk) h.cS hk⟩
theorem sX.Ku(h:sX w S cs p)(hf:vR (cs.drop 2)):BA w S cs (Dq p)∧rl (Dq p).2.2<=3:=by
 obtain⟨b,a,n,c,b2,a2,n2,c2,rfl,h2⟩:=h;obtain⟨h3,h4⟩:=h2.l3 hf;exact⟨⟨b,a,n,c,b2,a2,n2,c2,rfl,h3⟩,h4⟩
theorem eI.cells{α:Type}{k:Nat}{P:World->(Nat->Prop)->List Value->α->Prop}{xs:List α}(h:eI k P w S v xs):
  ∃css:List (List Value),css.length=xs.length∧eI k (fun w S cs (y:List Value×α)=>cs=y.1∧P w S cs y.2) w S v (css.zip xs)∧(∀(j:Nat) cs x,css[j]? =some cs->xs[j]? =some x->P w S cs x)∧
   ∀{β:Type} (Q:World->(Nat->Prop)->List Value->β->Prop) (ys:List β),ys.length=xs.length->(∀(j:Nat) cs y,css[j]? =some cs->ys[j]? =some y->Q w S cs y)->eI k Q w S v ys:=by
 obtain⟨css,h1,h2,h3,h4⟩:=h;have hz:(css.zip xs).length=xs.length:=by rw[List.length_zip,h2,Nat.min_self]
 refine⟨css,h2,⟨css,by rw[hz];exact h1,by rw[hz,h2],h3,fun j cs y k1 k2=>?_⟩,h4,fun Q ys hl hQ=>⟨css,by rw[hl];exact h1,by rw[hl,h2],h3,hQ⟩⟩;rw[List.getElem?_zip_eq_some]at k2;rw[k1]at k2;exact⟨by injection k2.1,h4 j cs _ k1 k2.2⟩
theorem JE.of(h4:∀(j:Nat) cs x,css[j]? =some cs->xs[j]? =some x->sX w S cs x)
  (hQ:∀{β:Type} (Q:World->(Nat->Prop)->List Value->β->Prop) (ys:List β),ys.length=xs.length->(∀(j:Nat) cs y,css[j]? =some cs->ys[j]? =some y->Q w S cs y)->eI 6 Q w S v ys)
  (hl:css.length=xs.length) (hf:∀j cs,j<xs.length->css[j]? =some cs->vR (cs.drop 2)):HU w S v (xs.map Dq)∧∀b∈xs.map Dq,rl b.2.2<=3:=by
 refine⟨hQ BA _ (aL ..) fun j cs y k1 k2=>?_,fun b hb=>?_⟩
 ·rw[aM]at k2;obtain⟨p,hp,rfl⟩:=Option.map_eq_some_iff.1 k2;exact((h4 j cs p k1 hp).Ku (hf j cs (aC.1 hp).1 k1)).1
 ·obtain⟨p,hp,rfl⟩:=aR.1 hb;obtain⟨j,hj⟩:=aT hp;have hjl:=(aC.1 hj).1;have hc:css[j]? =some css[j]:=aA (by omega);exact((h4 j _ p hc hj).Ku (hf j _ hjl hc)).2
set_option maxHeartbeats 1000000 in
theorem HZ{f:Dp}(hS:Old S w)(hf:og w S vn vb vs f):di PG N.oF #[.agg #[vn,vb,vs]] w (dw w fun v' _=>∃d,v'= .bool d∧
  (d=true->dU w S vn vb vs f.val∧(∀b∈f.val.bars,rl b.2.2<=3)∧(∀b∈f.val.cS,rl b.2.2<=3)∧(dx f.val≠0∨f.val.nodes.length<=4∧f.val.bars.length<=6))):=by
 have hw:cR w.heap.size w w:=cR.refl;obtain⟨an,cn,rfl,hcn,hmn⟩:=hf.nodes.shape;obtain⟨bcs,hbl,hbz,hb4,hbQ⟩:=hf.bars.cells;obtain⟨qcs,hql,hqz,hq4,hqQ⟩:=hf.cS.cells;obtain⟨ab,cb,rfl,hcb,hmb⟩:=hf.bars.shape;obtain⟨aq,cq,rfl,hcq,hms⟩:=hf.cS.shape;refine xm (by simp) ?_;refine dF.mk (fun h0=>?_) (fun h0=>?_)
 ·intro ρe we re;exact⟨_,rfl,hw.tr re.cI,_,rfl,fun h=>by cases h⟩
 have h0:=aF h0;refine dF.mk (fun h1=>?_) (fun h1=>?_)
 ·intro ρe we re;exact⟨_,rfl,hw.tr re.cI,_,rfl,fun h=>by cases h⟩
 have h1:=aF h1;refine dF.mk (fun h2=>?_) (fun h2=>?_)
 ·intro ρe we re;exact⟨_,rfl,hw.tr re.cI,_,rfl,fun h=>by cases h⟩
 have h2:=aF h2
 refine⟨Nat×World×Iv,fun z=>⟨[(1,.o (.p 0 0)),(3,.o (.v (.int .i64 ((z.1:Nat):Int))))],[(0,.box T.Frame [.v (.slice an f.nodes.length cn),.v (.slice ab f.bars.length cb),.v (.slice aq f.cS.length cq)])],1,z.2.2,z.2.1⟩,fun z=>f.bars.length-z.1,
  fun z=>z.1<=f.bars.length∧cR w.heap.size w z.2.1∧∀(j:Nat) (cs:List Value),j<z.1->bcs[j]? =some cs->vR (cs.drop 2),?_,?_⟩
 ·intro O w' r3;exact⟨(0,w',_),⟨aP _,hw.tr r3.cI,fun j cs hj=>absurd hj (Nat.not_lt_zero j)⟩,Sub.gn [] r3⟩
 rintro⟨i,w1,iv⟩ ⟨hi,hw,hB⟩;dsimp only at hi hw hB ⊢;refine dF.mk (fun hib=>?_) (fun hib=>?_)
 ·have hib:i<f.bars.length:=by simpa using hib
  obtain⟨cs,hcs⟩:∃cs,bcs[i]? =some cs:=⟨_,aA (by omega)⟩
  obtain⟨p,hp⟩:∃p,f.bars[i]? =some p:=⟨_,aA hib⟩
  obtain⟨g0,g1,g2,g3,g4,g5,g6,g7,rfl,-⟩:=hb4 i cs p hcs hp;obtain⟨adx,cs2,hax,⟨he2,-⟩,-,hat⟩:=hbz.load (by decide) (show (bcs.zip f.bars)[i]? =some (_,p) by rw[List.getElem?_zip_eq_some];exact⟨hcs,hp⟩);have he2:cs2=[.int .i64 p.1,.int .i64 p.2.1,.bool g0,.slice g1 g2 g3,.bool g4,.slice g5 g6 g7]:=he2;subst he2;refine⟨adx,hax,by omega,[.bool g0,.slice g1 g2 g3,.bool g4,.slice g5 g6 g7],rfl,fun O w' r j u hu=>?_,?_⟩
  ·have hj4:=(aC.1 hu).1;obtain⟨k1,k2⟩:=hat (2+j) u (by rcases j with _|_|_|_|j<;>first|exact hu|(have:j+4<4:=hj4;omega));rw[cJ (w:=w) (w2:=w') (by simp only[eA];exact(hw.tr r.cI).block _ (hS _ k1))];simp only[aJ,BF]at k2 ⊢
   first|exact k2|(rw [<-k2];congr 2;omega)
  refine bw (cE hw (fun _ w' v w2=>∃d,v= .bool d∧(d=true->vR [.bool g0,.slice g1 g2 g3,.bool g4,.slice g5 g6 g7])) (fun O w' r=>(En (S:=fun g=>g=(O 1).g) (css:=[[.bool g0,.slice g1 g2 g3,.bool g4,.slice g5 g6 g7]]) (fun g hg=>by subst hg;exact Rel.lt r (id:=1) rfl) (r.oe (id:=1) (sz:=4) (n:=1) rfl rfl (by decide) (by repeat' first|refine List.forall_mem_cons.2 ⟨rfl,?_⟩|exact fun u hu=>absurd hu List.not_mem_nil)) (fun cs hc=>by rw[bD.1 hc];exact⟨_,_,_,_,_,_,_,_,rfl⟩)).mono fun _ _ ⟨v2,e1,e2,d,e3,e4⟩=>⟨v2,e1,e2,d,e3,fun h=>(e4 h).2 _ aH⟩) ?_);rintro O wa1 v1 wb1 iv1 r he hw h_ ⟨d2,rfl,hz2⟩
  cases d2
  ·intro ρe we re;exact⟨_,rfl,hw.tr re.cI,_,rfl,fun h=>by cases h⟩
  have hE2:∀j cs,j<i+1->bcs[j]? =some cs->vR (cs.drop 2):=fun j cs hj hc=>by
   rcases aO j i with h|h
   ·exact hB j cs h hc
   ·have:j=i:=by omega
    subst this;rw[hcs]at hc;injection hc with hc;subst hc;exact hz2 rfl
  refine⟨((i+1:Nat):Int),wo,?_⟩;intro ρ3 w6 r3;exact⟨(i+1,w6,_),⟨hib,hw.tr r3.cI,hE2⟩,Sub.gn [] r3,by dsimp only;omega⟩
 have hib:i=f.bars.length:=aQ hi (by simpa using hib);subst hib
 refine⟨Nat×World×Iv,fun z=>⟨[(1,.o (.p 0 0)),(4,.o (.v (.int .i64 ((z.1:Nat):Int))))],[(0,.box T.Frame [.v (.slice an f.nodes.length cn),.v (.slice ab f.bars.length cb),.v (.slice aq f.cS.length cq)])],1,z.2.2,z.2.1⟩,fun z=>f.cS.length-z.1,
  fun z=>z.1<=f.cS.length∧cR w.heap.size w z.2.1∧∀(j:Nat) (cs:List Value),j<z.1->qcs[j]? =some cs->vR (cs.drop 2),?_,?_⟩
 ·intro O w' r3;exact⟨(0,w',_),⟨aP _,hw.tr r3.cI,fun j cs hj=>absurd hj (Nat.not_lt_zero j)⟩,Sub.gn [] r3⟩
 rintro⟨i,w1,iv⟩ ⟨hi,hw,hQ⟩;dsimp only at hi hw hQ ⊢;refine dF.mk (fun hib=>?_) (fun hib=>?_)
 ·have hib:i<f.cS.length:=by simpa using hib
  obtain⟨cs,hcs⟩:∃cs,qcs[i]? =some cs:=⟨_,aA (by omega)⟩
  obtain⟨p,hp⟩:∃p,f.cS[i]? =some p:=⟨_,aA hib⟩
  obtain⟨g0,g1,g2,g3,g4,g5,g6,g7,rfl,-⟩:=hq4 i cs p hcs hp;obtain⟨adx,cs2,hax,⟨he2,-⟩,-,hat⟩:=hqz.load (by decide) (show (qcs.zip f.cS)[i]? =some (_,p) by rw[List.getElem?_zip_eq_some];exact⟨hcs,hp⟩);have he2:cs2=[.int .i64 p.1,.int .i64 p.2.1,.bool g0,.slice g1 g2 g3,.bool g4,.slice g5 g6 g7]:=he2;subst he2;refine⟨adx,hax,by omega,[.bool g0,.slice g1 g2 g3,.bool g4,.slice g5 g6 g7],rfl,fun O w' r j u hu=>?_,?_⟩
  ·have hj4:=(aC.1 hu).1;obtain⟨k1,k2⟩:=hat (2+j) u (by rcases j with _|_|_|_|j<;>first|exact hu|(have:j+4<4:=hj4;omega));rw[cJ (w:=w) (w2:=w') (by simp only[eA];exact(hw.tr r.cI).block _ (hS _ k1))];simp only[aJ,BF]at k2 ⊢
   first|exact k2|(rw [<-k2];congr 2;omega)
  refine bw (cE hw (fun _ w' v w2=>∃d,v= .bool d∧(d=true->vR [.bool g0,.slice g1 g2 g3,.bool g4,.slice g5 g6 g7])) (fun O w' r=>(En (S:=fun g=>g=(O 1).g) (css:=[[.bool g0,.slice g1 g2 g3,.bool g4,.slice g5 g6 g7]]) (fun g hg=>by subst hg;exact Rel.lt r (id:=1) rfl) (r.oe (id:=1) (sz:=4) (n:=1) rfl rfl (by decide) (by repeat' first|refine List.forall_mem_cons.2 ⟨rfl,?_⟩|exact fun u hu=>absurd hu List.not_mem_nil)) (fun cs hc=>by rw[bD.1 hc];exact⟨_,_,_,_,_,_,_,_,rfl⟩)).mono fun _ _ ⟨v2,e1,e2,d,e3,e4⟩=>⟨v2,e1,e2,d,e3,fun h=>(e4 h).2 _ aH⟩) ?_);rintro O wa1 v1 wb1 iv1 r he hw h_ ⟨d2,rfl,hz2⟩
  cases d2
  ·intro ρe we re;exact⟨_,rfl,hw.tr re.cI,_,rfl,fun h=>by cases h⟩
  have hE2:∀j cs,j<i+1->qcs[j]? =some cs->vR (cs.drop 2):=fun j cs hj hc=>by
   rcases aO j i with h|h
   ·exact hQ j cs h hc
   ·have:j=i:=by omega
    subst this;rw[hcs]at hc;injection hc with hc;subst hc;exact hz2 rfl
  refine⟨((i+1:Nat):Int),wo,?_⟩;intro ρ3 w6 r3;exact⟨(i+1,w6,_),⟨hib,hw.tr r3.cI,hE2⟩,Sub.gn [] r3,by dsimp only;omega⟩
 have hib:i=f.cS.length:=aQ hi (by simpa using hib);subst hib;obtain⟨kb,kb2⟩:=JE.of hb4 hbQ hbl hB;obtain⟨kq,kq2⟩:=JE.of hq4 hqQ hql hQ;have hR:dU w S (.slice an f.nodes.length cn) (.slice ab f.bars.length cb) (.slice aq f.cS.length cq) f.val:=⟨hf.nodes,kb,kq⟩
 refine bw (cE hw (fun _ w' v w2=>v= .int .i64 (dx f.val)) (fun O w' r=>Cb (oS hS r) (hR.cB (kS hw r hS))) ?_);rintro O wa1 v1 wb1 iv1 r he hw h_ rfl;obtain⟨e,he⟩:∃e,dx f.val=e:=⟨_,rfl⟩
 rw[he];refine dF.mk (fun hd=>?_) (fun hd=>?_)
 ·have hd:e≠0:=by simpa using hd
  intro ρe we re;exact⟨_,rfl,hw.tr re.cI,_,rfl,fun _=>⟨hR,kb2,kq2,.inl hd⟩⟩
 have hd:e=0:=by simpa using hd
 refine dF.mk (fun h4=>?_) (fun h4=>?_)
 ·have h4:=aG h4;intro ρe we re;exact⟨_,rfl,hw.tr re.cI,_,rfl,fun h=>⟨hR,kb2,kq2,.inr ⟨by show f.nodes.length<=4;omega,by show(f.bars.map Dq).length<=6;rw[aL];have:=aG h;omega⟩⟩⟩
 intro ρe we re;exact⟨_,rfl,hw.tr re.cI,_,rfl,fun h=>by cases h⟩
section
variable{xs:List Rat}{l:List (Rat×Rat)}{i:Nat}{x:Rat}{r:Rat×Rat}
end
theorem BI{n cx:Nat}(hf:dU w S vn vb vs f)(h60:f.bars.length<=60∧f.cS.length<=60):di PG N.lC #[.agg #[vn,vb,vs],.slice ax n cx] w (dw w fun v' _=>v'= .int .i64 (if n≠f.cols then 11 else 0)):=by
 have hw:cR w.heap.size w w:=cR.refl;obtain⟨an,cn,ab,cb,aq,cq,rfl,rfl,rfl,hmn,hmb,hms⟩:=hf.shape;unfold maxLen at hmb hms;refine oV (by simp) ?_;refine⟨((f.bars.length+f.cS.length:Nat):Int),wo,?_⟩;refine dF.mk (fun hd=>?_) (fun hd=>?_)
 ·have hd:n≠f.cols:=by intro h;rw[h]at hd;simp[ei.cols]at hd
  intro ρe we re;exact⟨_,rfl,hw.tr re.cI,by show Value.int .i64 _=_;rw[if_pos hd]⟩
 have hd:=(show (n:Int)=((f.bars.length+f.cS.length:Nat):Int)from(by simpa using hd))
 replace hd:n=f.cols:=by unfold ei.cols;omega
 intro ρe we re;exact⟨_,rfl,hw.tr re.cI,by show Value.int .i64 _=_;rw[aI (by simpa using hd)]⟩
section
variable{S:Nat->Prop}{w w1 w':World}{H:Hp}{nx:Nat}{iv:Iv}{O:Nat->Sx.dS}
theorem Fi{f:Dp}(hS:Old S w)(hw:cR w.heap.size w w1)(r:Rel H nx iv w.heap.size w1 O w')(hf:og w S vn vb vs f):di PG N.oF #[.agg #[vn,vb,vs]] w' (dw w' fun v' _=>∃d,v'= .bool d∧
  (d=true->dU w S vn vb vs f.val∧(∀b∈f.val.bars,rl b.2.2<=3)∧(∀b∈f.val.cS,rl b.2.2<=3)∧(dx f.val≠0∨f.val.nodes.length<=4∧f.val.bars.length<=6))):=
 have hk:∀g,S g->w'.heap[g]? =w.heap[g]? :=fun g hg=>(hw.tr r.cI).block g (hS g hg)
 (HZ (S:=S) (oS hS r) (hf.cB hk)).mono fun _ _ ⟨v2,e1,e2,d,e3,e4⟩=>⟨v2,e1,e2,d,e3,fun h=>⟨(e4 h).1.cB fun g hg=>(hk g hg).symm,(e4 h).2⟩⟩
end
end Go.Ex
namespace Go.Ex
end Go.Ex
namespace Go.Ex
open Go Go.Sx Go.Proofs
structure aAG{α:Type}(k:Nat)(P:World->(Nat->Prop)->List Value->α->Prop)(w:World)(S:Nat->Prop)(css:List (List Value))(qs:List α):Prop where
 len:css.length=qs.length
 wid:∀cs∈css,cs.length=k
 at_:∀(j:Nat) cs q,css[j]? =some cs->qs[j]? =some q->P w S cs q
section
variable{α:Type}{k:Nat}{P:World->(Nat->Prop)->List Value->α->Prop}{w w2:World}{S S':Nat->Prop}{css:List (List Value)}{qs:List α}
end
section
variable{S S':Nat->Prop}{H:Hp}{nx:Nat}{iv iv':Iv}{B:Nat}{w w' w2:World}{O:Nat->Sx.dS}{v:Value}{l:List (Rat×Rat)}
end
end Go.Ex
namespace Go.Ex
abbrev I3:=Int×Int×Int
def IJ(p:I3):Prop:=l8 p.1∧l8 p.2.1∧l8 p.2.2
instance (p : I3) : Decidable (IJ p) := by unfold IJ; infer_instance
end Go.Ex
namespace Go.Ex
open Go Go.Sx Go.Proofs
abbrev KP(x:Ld):Value:=.agg #[.int .i64 x.1,.int .i64 x.2.1,.int .i64 x.2.2.1,.int .i64 x.2.2.2]
theorem Fj(x:Ld)(w:World):di PG N.ra #[KP x] w (dw w fun v' _=>∃d,v'= .bool d∧(d=true↔IJ x.2)):=by
 have hw:cR w.heap.size w w:=cR.refl;obtain⟨x0,x1,x2,x3⟩:=x;refine vC (by simp) ?_;refine bw (cE hw (fun _ w' v w2=>∃d,v= .bool d∧(d=true↔ -1000000<=x1∧x1<=1000000)) (fun O w' r=>k9 _ _ _ w') ?_);rintro O wa1 v1 wb1 iv1 r he hw h_ ⟨d0,rfl,hz0⟩
 cases d0
 ·have hz0:¬l8 x1:=fun h=>by have:=hz0.2 h;cases this
  intro ρe we re;exact⟨_,rfl,hw.tr re.cI,_,rfl,(fun h=>by cases h),fun h=>absurd h.1 hz0⟩
 replace hz0:l8 x1:=hz0.1 rfl;refine bw (cE hw (fun _ w' v w2=>∃d,v= .bool d∧(d=true↔ -1000000<=x2∧x2<=1000000)) (fun O w' r=>k9 _ _ _ w') ?_);rintro O wa2 v2 wb2 iv2 r he hw h_ ⟨d1,rfl,hz1⟩
 cases d1
 ·have hz1:¬l8 x2:=fun h=>by have:=hz1.2 h;cases this
  intro ρe we re;exact⟨_,rfl,hw.tr re.cI,_,rfl,(fun h=>by cases h),fun h=>absurd h.2.1 hz1⟩
 replace hz1:l8 x2:=hz1.1 rfl;refine bw (cE hw (fun _ w' v w2=>∃d,v= .bool d∧(d=true↔ -1000000<=x3∧x3<=1000000)) (fun O w' r=>k9 _ _ _ w') ?_);rintro O wa3 v3 wb3 iv3 r he hw h_ ⟨d2,rfl,hz2⟩
 cases d2
 ·have hz2:¬l8 x3:=fun h=>by have:=hz2.2 h;cases this
  intro ρe we re;exact⟨_,rfl,hw.tr re.cI,_,rfl,(fun h=>by cases h),fun h=>absurd h.2.2 hz2⟩
 replace hz2:l8 x3:=hz2.1 rfl;intro ρe we re;exact⟨_,rfl,hw.tr re.cI,_,rfl,fun _=>⟨hz0,hz1,hz2⟩,fun _=>rfl⟩
section
variable{S S':Nat->Prop}{H:Hp}{nx:Nat}{iv iv':Iv}{B:Nat}{w w' w2:World}{O:Nat->Sx.dS}{v:Value}{l:List Ld}
end
end Go.Ex
namespace Go.Ex
variable{M:List (List Rat)}{l x φ:List Rat}{K:Nat}{D:Rat}
theorem rR{a b:Rat}(ha:a≠0)(hb:b≠0):a*b≠0:=fun e=>by
 rcases Rat.mul_eq_zero.1 e with h|h
 ·exact ha h
 ·exact hb h
def Den(K:Nat)(D:Rat)(l:List Rat):Prop:=D≠0∧Ib K D∧∀t,Ib K (D*l.getD t 0)
def DS(K:Nat)(D:Rat)(M:List (List Rat)):Prop:=D≠0∧Ib K D∧∀k t,Ib K (D*cY M k t)
theorem Den.rl(h:Den K D l):∀q∈l,rl q<=ln K:=fun q hq=>by
 obtain⟨j,hj⟩:=aT hq;have:=vg h.1 h.2.1 (h.2.2 j)
 rwa [List.getD,hj]at this
theorem DS.rl(h:DS K D M):∀r∈M,∀q∈r,rl q<=ln K:=fun r hr q hq=>by
 obtain⟨k,hk⟩:=aT hr;obtain⟨j,hj⟩:=aT hq;have:=vg h.1 h.2.1 (h.2.2 k j)
 rwa [cY,show M.getD k []=r by rw[List.getD,hk];rfl,List.getD,hj]at this
theorem iL{t:Nat}(h:l.length<=t):l.getD t 0=0:=by rw[List.getD,List.getElem?_eq_none h];rfl
theorem IN{n k t:Nat}(hM:fZ n M)(h:n<=t):cY M k t=0:=by
 rw[cY];rcases aO k M.length with hk|hk
 ·exact iL (by rw[hM.getD hk];exact h)
 ·rw[show M.getD k []=[] by rw[List.getD,List.getElem?_eq_none hk];rfl];rfl
theorem Gi{k t:Nat}(h:M.length<=k):cY M k t=0:=by
 rw[cY,show M.getD k []=[] by rw[List.getD,List.getElem?_eq_none h];rfl];rfl
section
variable{M:List (List Rat)}{n B:Nat}{b:List Rat}
theorem E2(hM:fZ n M)(hW:A4 M n B)(hB:1<=B){c:Nat}(hc:c<=n):∃D:Rat,D≠0∧Ib (fB B M.length) D∧∀i t,i<(cH M c).2.length->t<n->Ib (fB B M.length) (D*cY (cH M c).1 i t):=by
 obtain⟨σ,Z,h⟩:=nt hM hW c hc;have hle:=h.red.2.1;rw[h.len]at hle;have hm:=pB hB hle;exact⟨_,h.xM.nz,h.xM.den.mono hm,fun i t hi ht=>(h.xM.Kd hi ht).mono hm⟩
theorem IP(hM:fZ n M)(hW:A4 M n B)(hB:1<=B):∃D,DS (fB B M.length) D (cN M n):=by
 obtain⟨D,h0,hD,hE⟩:=E2 hM hW hB (aE n);obtain⟨r1,r2,r3,r4,r5⟩:=dN hM n (aE _);have hpc:=gL M n;refine⟨D,h0,hD,fun k t=>?_⟩;rcases aO k (cN M n).length with hk|hk
 ·rcases aO t n with ht|ht
  ·have hf:=kM.1 (ns (by rw[<-kQ];exact hk));rw[cY,xN M n hk];generalize (iF (cH M n).2 n).getD k 0=c at hf;by_cases hp:t∈(cH M n).2
   ·obtain⟨j,hj,rfl⟩:=qN hp;rw[mZ (F:=fN (cH M n).1 (cH M n).2 n c) (f:=fun i=> -(cY (cH M n).1 i c)) (fun i=>gE _ _ n c i) (jU _ _ n c) hpc.2.1 r4 _ (aE _) hj,show D* -(cY (cH M n).1 j c)= -(D*cY (cH M n).1 j c) by grind];exact(hE j c hj hf.1).neg
   ·rw[np hp hf.1];split
    ·rw[Rat.mul_one];exact hD
    ·rw[aw];exact Ib.zero _
  ·rw[IN (mg M n) ht,aw];exact Ib.zero _
 ·rw[Gi hk,aw];exact Ib.zero _
theorem rS(hM:fZ n M)(hW:A4 (dP M b) (n+1) B)(hB:1<=B)(h:eU M b n=some x):∃D,Den (fB B M.length) D x:=by
 obtain⟨D,h0,hD,hE⟩:=E2 (gi (b:=b) hM) hW hB (Nat.le_succ n);rw[eC]at hD hE;obtain⟨r1,r2,r3,r4,r5⟩:=dN (gi (b:=b) hM) n (Nat.le_succ _);have hpc:=gL (dP M b) n;unfold eU at h;dsimp only at h;split at h
 ·injection h with h;subst h;refine⟨D,h0,hD,fun t=>?_⟩;by_cases hp:t∈(cH (dP M b) n).2
  ·obtain⟨j,hj,rfl⟩:=qN hp;rw[mZ (F:=gC (cH (dP M b) n).1 (cH (dP M b) n).2 n) (f:=fun i=>cY (cH (dP M b) n).1 i n) (fun i=>gF _ _ n i) (jV _ _ n) hpc.2.1 r4 _ (aE _) hj];exact hE j n hj (by omega)
  ·rw[rI hp,aw];exact Ib.zero _
 ·cases h
end
def ku(φ:List Rat):Nat->Rat
 |0=>1
 |t+1=>ku φ t*((φ.getD t 0).den:Rat)
theorem CA(φ:List Rat):∀k,ku φ k≠0
 |0=>by show(1:Rat)≠0;decide
 |k+1=>rR (CA φ k) (by have:=(φ.getD k 0).den_nz;exact_mod_cast this)
theorem xQ{φ:List Rat}{B:Nat}(h:∀t,(φ.getD t 0).den<=B):∀k,Ib (B^k) (ku φ k)
 |0=>Ib.one (aE _)
 |k+1=>by
  rw[Nat.pow_succ];exact(xQ h k).mul ⟨((φ.getD k 0).den:Int),rfl,by rw[Int.natAbs_natCast];exact h k⟩
theorem E3(q:Rat):(q.den:Rat)*q=(q.num:Rat):=by
 have h:=Rat.num_divInt_den q;have h0:((q.den:Int):Rat)≠0:=by have:=q.den_nz;exact_mod_cast this
 rw[Rat.divInt_eq_div]at h;have h1:(q.num:Rat) / ((q.den:Int):Rat)*((q.den:Int):Rat)=(q.num:Rat):=Rat.div_mul_cancel h0;rw[h,bZ]at h1;exact h1
theorem z4{φ:List Rat}{B:Nat}(h:∀t,(φ.getD t 0).den<=B)(hn:∀t,(φ.getD t 0).num.natAbs<=B)(hB:1<=B):∀k t,t<k->Ib (B^k) (ku φ k*φ.getD t 0)
 |0,t,ht=>by omega
 |k+1,t,ht=>by
  rw[ku,Nat.pow_succ];rcases aO t k with h1|h1
  ·rw[show ∀a b c:Rat,a*b*c=(a*c)*b from fun a b c=>by grind];exact(z4 h hn hB k t h1).mul ⟨((φ.getD k 0).den:Int),rfl,by rw[Int.natAbs_natCast];exact h k⟩
  ·rw[show t=k by omega,Rat.mul_assoc,E3];exact(xQ h k).mul (Ib.int (hn k))
theorem lW{l:Nat}:1<=wt l:=wY l
theorem E4{q:Rat}{l:Nat}(h:rl q<=l):q.num.natAbs<wt l∧q.den<wt l:=⟨fb.1 (ai (fP q) h),fb.1 (ai (J2 q) h)⟩
theorem Gj(l k:Nat):wt l^k=wt (l*k):=by rw[sw,sw,<-Nat.pow_mul,b9]
theorem Gk{n:Nat}(hl:φ.length<=n)(h:∀q∈φ,rl q<=3):Den (wt (3*n)) (ku φ n) φ:=by
 have h3:∀t,rl (φ.getD t 0)<=3:=fun t=>by
  rw[List.getD]
  cases ht:φ[t]? with
  |none=>show rl 0<=3;decide
  |some q=>exact h q (aD ht)
 have h1:∀t,(φ.getD t 0).den<=wt 3:=fun t=>Nat.le_of_lt (E4 (h3 t)).2;have h2:∀t,(φ.getD t 0).num.natAbs<=wt 3:=fun t=>Nat.le_of_lt (E4 (h3 t)).1;refine⟨CA φ n,by rw[<-Gj];exact xQ h1 n,fun t=>?_⟩;rcases aO t n with ht|ht
 ·rw[<-Gj];exact z4 h1 h2 lW n t ht
 ·rw[iL (by omega),aw];exact Ib.zero _
end Go.Ex
