/- A part of the proof: texts X161 to X162. Each tells its conditions in its theorems. -/
import Derived.Test.YtkdcaknoaeicdaaGreatP15
/- The limits of all bars. Printed by program. No condition but sizes. -/
namespace Go.Ex
open Go Go.Sx Go.Proofs

def sqD(p q:Int×Int×Int):Int:=(q.1-p.1)*(q.1-p.1)+(q.2.1-p.2.1)*(q.2.1-p.2.1)+(q.2.2-p.2.2)*(q.2.2-p.2.2)
/-- a bar's squared length -/
def sqF(f:Frm)(b:Int×Int×Rat):Int:=sqD (f.node b.1) (f.node b.2.1)
theorem sq_bd{x:Int}(h1: -2000000≤x)(h2:x≤2000000):0≤x*x∧x*x≤4000000000000∧(x≠0→1≤x*x):=by
 have e:x*x=((x.natAbs*x.natAbs:Nat):Int):=by rw[Int.natCast_mul,Int.natAbs_mul_self']
 have h3:x.natAbs≤2000000:=by omega
 have h4:x.natAbs*x.natAbs≤2000000*2000000:=Nat.mul_le_mul h3 h3
 refine⟨by rw[e];omega,by rw[e];omega,fun h=>?_⟩
 have h5:1*1≤x.natAbs*x.natAbs:=Nat.mul_le_mul (by omega) (by omega)
 rw[e];omega
theorem errF_bar{f:Frm}(h:errF f=0){b:Int×Int×Rat}(hb:b∈f.bars):b.1≠b.2.1∧0<b.2.2:=by
 obtain⟨_,_,hb',_⟩:=errF_zero h
 obtain⟨k,hk⟩:=List.getElem?_of_mem hb
 have:=barE_zero.1 (firstE_zero hb' k b hk)
 exact⟨this.2.1,this.2.2.2⟩
theorem errF_nodes{f:Frm}(h:errF f=0){i j:Nat}{p:Int×Int×Int}(hi:f.nodes[i]? =some p)(hj:f.nodes[j]? =some p):i=j:=by
 have key:∀i j,i<j→f.nodes[i]? =some p→f.nodes[j]? =some p→False:=fun i j hij hi hj=>by
  obtain⟨_,hn,_⟩:=errF_zero h
  have:=(nodeE_zero.1 (firstE_zero hn j p hj)).2
  exact this (List.mem_of_getElem? (show (f.nodes.take j)[i]? =some p by rw[List.getElem?_take_of_lt hij];exact hi))
 rcases Nat.lt_trichotomy i j with h1|h1|h1
 ·exact(key i j h1 hi hj).elim
 ·exact h1
 ·exact(key j i h1 hj hi).elim
theorem sqF_bd{f:Frm}(h:errF f=0){b:Int×Int×Rat}(hb:b∈f.bars):1≤sqF f b∧sqF f b≤12000000000000:=by
 have hok:=errF_ok h
 obtain⟨⟨a1,a2⟩,a3,a4⟩:=hok.bar b hb
 obtain⟨ka,pa,ea,hka,hpa,hna,⟨_,_⟩,⟨_,_⟩,⟨_,_⟩⟩:=hok.node a1 a2
 obtain⟨kb,pb,eb,hkb,hpb,hnb,⟨_,_⟩,⟨_,_⟩,⟨_,_⟩⟩:=hok.node a3 a4
 rw[sqF,hna,hnb,sqD]
 obtain⟨x1,x2,x3⟩:=sq_bd (x:=pb.1-pa.1) (by omega) (by omega)
 obtain⟨y1,y2,y3⟩:=sq_bd (x:=pb.2.1-pa.2.1) (by omega) (by omega)
 obtain⟨z1,z2,z3⟩:=sq_bd (x:=pb.2.2-pa.2.2) (by omega) (by omega)
 refine⟨?_,by omega⟩
 have hne:pa≠pb:=fun e=>by
  subst e
  have:=errF_nodes h hpa hpb
  exact(errF_bar h hb).1 (by rw[ea,eb,this])
 by_cases e1:pb.1-pa.1=0
 ·by_cases e2:pb.2.1-pa.2.1=0
  ·by_cases e3:pb.2.2-pa.2.2=0
   ·exact absurd (Prod.ext (by omega) (Prod.ext (by omega) (by omega))) hne
   ·have:=z3 e3;omega
  ·have:=y3 e2;omega
 ·have:=x3 e1;omega
def stE(s:Int):Int:=if 0≤s∧s≤1000000 then 0 else 2
def vaE(q:Rat×Rat):Int:=if q.2<0∨1<q.2 then 2 else 0
def errLim(n:Nat)(st:List Int)(t:List (Rat×Rat)):Int:=
 if st.length≠n then 11 else if firstE (fun _=>stE) [] st≠0 then 2 else if errT t≠0 then errT t else firstE (fun _=>vaE) [] t
def rngOf(f:Frm)(st:List Int)(t:List (Rat×Rat))(i:Nat)(b:Int×Int×Rat):Rat×Rat:=
 (-(limF (sqF f b).toNat (st.getD i 0).toNat*valF ((sqF f b:Int):Rat) t),limF (sqF f b).toNat (st.getD i 0).toNat)
def rngTo(f:Frm)(st:List Int)(t:List (Rat×Rat))(k:Nat):List (Rat×Rat):=(List.range k).map fun i=>rngOf f st t i (f.bars.getD i (0,0,0))
theorem rngTo_succ{f:Frm}{st:List Int}{t:List (Rat×Rat)}{k:Nat}{b:Int×Int×Rat}(hb:f.bars[k]? =some b):rngTo f st t (k+1)=rngTo f st t k++[rngOf f st t k b]:=by
 rw[rngTo,List.range_succ,List.map_append,List.map_singleton,show f.bars.getD k (0,0,0)=b by rw[List.getD,hb];rfl]
 rfl
theorem rngTo_len(f:Frm)(st:List Int)(t:List (Rat×Rat))(k:Nat):(rngTo f st t k).length=k:=by rw[rngTo,List.length_map,List.length_range]
/-- a range's cells, in normal form -/
def RngC(w:World)(S:Nat→Prop)(cs:List Value)(q:Rat×Rat):Prop:=
 ∃b0 a0 n0 c0 b1 a1 n1 c1 b2 a2 n2 c2 b3 a3 n3 c3,cs=[.bool b0,.slice a0 n0 c0,.bool b1,.slice a1 n1 c1,.bool b2,.slice a2 n2 c2,.bool b3,.slice a3 n3 c3]∧
  RatC w S (.agg #[.bool b0,.slice a0 n0 c0,.bool b1,.slice a1 n1 c1]) q.1∧RatC w S (.agg #[.bool b2,.slice a2 n2 c2,.bool b3,.slice a3 n3 c3]) q.2
theorem RngC.keep{w w2:World}{S:Nat→Prop}{cs:List Value}{q:Rat×Rat}(h:RngC w S cs q)(hk:∀g,S g→w2.heap[g]? =w.heap[g]?):RngC w2 S cs q:=by
 obtain⟨b0,a0,n0,c0,b1,a1,n1,c1,b2,a2,n2,c2,b3,a3,n3,c3,h1,h2,h3⟩:=h
 exact⟨b0,a0,n0,c0,b1,a1,n1,c1,b2,a2,n2,c2,b3,a3,n3,c3,h1,h2.keep hk,h3.keep hk⟩
theorem RngC.weak{w:World}{S S':Nat→Prop}{cs:List Value}{q:Rat×Rat}(h:RngC w S cs q)(hk:∀g,S g→S' g):RngC w S' cs q:=by
 obtain⟨b0,a0,n0,c0,b1,a1,n1,c1,b2,a2,n2,c2,b3,a3,n3,c3,h1,h2,h3⟩:=h
 exact⟨b0,a0,n0,c0,b1,a1,n1,c1,b2,a2,n2,c2,b3,a3,n3,c3,h1,h2.weak hk,h3.weak hk⟩
theorem RngC.one{w:World}{S:Nat→Prop}{cs:List Value}{q:Rat×Rat}(h:RngC w S cs q):∀u∈cs,u.oneCell'=true:=fun u hu=>by
 obtain⟨_,_,_,_,_,_,_,_,_,_,_,_,_,_,_,_,rfl,_⟩:=h
 simp at hu
 rcases hu with rfl|rfl|rfl|rfl|rfl|rfl|rfl|rfl<;>rfl
abbrev RngsC:=ListK 8 RngC
/-- a list of structs of one's own, which grows -/
structure GrowK{α:Type}(k:Nat)(P:World→(Nat→Prop)→List Value→α→Prop)(w:World)(S:Nat→Prop)(css:List (List Value))(qs:List α):Prop where
 len:css.length=qs.length
 wid:∀cs∈css,cs.length=k
 at_:∀(j:Nat) cs q,css[j]? =some cs→qs[j]? =some q→P w S cs q
section
variable{α:Type}{k:Nat}{P:World→(Nat→Prop)→List Value→α→Prop}{w w2:World}{S S':Nat→Prop}{css:List (List Value)}{qs:List α}
theorem GrowK.nil:GrowK k P w S [] []:=⟨rfl,fun _ h=>(by cases h),fun _ _ _ h=>by cases h⟩
theorem GrowK.map{P':World→(Nat→Prop)→List Value→α→Prop}(h:GrowK k P w S css qs)(hP:∀cs q,P w S cs q→P' w2 S' cs q):GrowK k P' w2 S' css qs:=⟨h.len,h.wid,fun j cs q h1 h2=>hP cs q (h.at_ j cs q h1 h2)⟩
theorem GrowK.push{cs:List Value}{q:α}(h:GrowK k P w S css qs)(hc:P w S cs q)(h4:cs.length=k):GrowK k P w S (css++[cs]) (qs++[q]):=by
 refine⟨by simp[h.len],fun x hx=>?_,fun j x p h1 h2=>?_⟩
 ·rcases List.mem_append.1 hx with hx|hx
  ·exact h.wid x hx
  ·rw[List.mem_singleton.1 hx];exact h4
 ·rcases Nat.lt_or_ge j css.length with hi|hi
  ·rw[List.getElem?_append_left hi]at h1
   rw[List.getElem?_append_left (by rw[←h.len];exact hi)]at h2
   exact h.at_ j x p h1 h2
  ·have hi0:j=css.length:=by have:=(List.getElem?_eq_some_iff.1 h1).1;simp at this;omega
   subst hi0
   rw[List.getElem?_append_right (Nat.le_refl _),Nat.sub_self]at h1
   rw[h.len,List.getElem?_append_right (Nat.le_refl _),Nat.sub_self]at h2
   simp at h1 h2
   subst h1 h2
   exact hc
theorem GrowK.one(h:GrowK k P w S css qs)(h1:∀cs q,P w S cs q→∀u∈cs,u.oneCell'=true):∀u∈css.flatten,u.oneCell'=true:=fun u hu=>by
 obtain⟨cs,hc,hu⟩:=List.mem_flatten.1 hu
 obtain⟨j,hj⟩:=List.getElem?_of_mem hc
 exact h1 cs _ (h.at_ j cs _ hj (List.getElem?_eq_getElem (by rw[←h.len];exact(List.getElem?_eq_some_iff.1 hj).1))) u hu
theorem GrowK.list{v:Value}(h:GrowK k P w S css qs)(hs:SeqR w S k v css.flatten css.length):ListK k P w S v qs:=⟨css,h.len▸hs,h.len,h.wid,h.at_⟩
end
theorem GrowR.rel{S:Nat→Prop}{H:Hp}{nx:Nat}{iv:Iv}{B:Nat}{w w':World}{ρ:Nat→Sx.Val}{css:List (List Value)}{qs:List (Rat×Rat)}(h:GrowK 8 RngC w (Cv S B iv) css qs)(r:Rel H nx iv B w ρ w')(hS:∀g,S g→g<B):GrowK 8 RngC w' (Cv S B iv) css qs:=
 h.map fun _ _ h=>h.keep fun _ hg=>Rel.same r hS hg
theorem GrowR.past{S:Nat→Prop}{H:Hp}{nx:Nat}{iv iv':Iv}{B:Nat}{w w' w2:World}{ρ:Nat→Sx.Val}{css:List (List Value)}{qs:List (Rat×Rat)}(h:GrowK 8 RngC w (Cv S B iv) css qs)(r:Rel H nx iv B w ρ w')(hS:∀g,S g→g<B)(he:Ext w' w2)(hm:∀p,p∈iv→p∈iv'):GrowK 8 RngC w2 (Cv S B iv') css qs:=
 (GrowR.rel h r hS).map fun _ _ h=>(h.keep fun g hg=>he.block g (Rel.old r hS g hg)).weak fun _ hg=>hg.mono hm
theorem rl_limF{sq sx:Nat}(h0:0<sq)(h1:sx≤1000000):rl (limF sq sx)≤1:=by
 have h2:=limN_le h0 h1
 have h3:=rl_divInt (a:=(limN sq sx:Int)) (b:=1000) (by decide)
 have h4:ln (limN sq sx:Int).natAbs≤1:=by rw[Int.natAbs_natCast];exact ln_one31 (by omega)
 have h5:ln (1000:Int).natAbs≤1:=by decide
 rw[limF]
 omega
theorem rl_int2{n:Int}(h:n.natAbs<9223372036854775807):rl (n:Rat)≤2:=by
 have h2:ln n.natAbs≤2:=ln_small2 h
 unfold rl
 rw[Rat.num_intCast,Rat.den_intCast]
 have h3:ln 1=1:=by decide
 omega
set_option maxHeartbeats 2000000 in
theorem sLimits_c{S:Nat→Prop}{w:World}{vn vb vs u:Value}{at_:Option Addr}{ct:Nat}{f:Frm}{st:List Int}{t:List (Rat×Rat)}{e0:Int}(hS:Old S w)(hf:FrameR w S vn vb vs f)(hs:ZsR w S u st)(hmt:t.length≤maxLen)(ht:t.length≤100→StepsL w S (.slice at_ t.length ct) t)(he0:e0=if errF f≠0 then errF f else errLim f.bars.length st t):
  Con PG N.statics_Limits #[.agg #[vn,vb,vs],u,.slice at_ t.length ct] w (Ret w fun v' w2=>(e0≠0∧v'= .tuple #[.slice none 0 0,.int .i64 e0])∨(e0=0∧∃vr,v'= .tuple #[vr,.int .i64 0]∧RngsC w2 (Nw (fun _=>False) w w2) vr (rngTo f st t f.bars.length))):=by
 have hw:Bel w.heap.size w w:=Bel.refl
 obtain⟨an,cn,ab,cb,aq,cq,rfl,rfl,rfl,hmn,hmb,hms⟩:=hf.shape
 obtain⟨as_,cs,rfl,-,hmst⟩:=hs.shape
 unfold maxLen at hmb hmst
 refine in_statics_Limits (by simp) ?_
 conv=>whnf
 refine callE_S (cE hw (Φ:=fun _ w' v w2=>v= .int .i64 (errF f)) (fun ρ w' r=>sCheck_c (fun g hg=>by have:=hS g hg;have:=r.baseLe;omega) (hf.keep fun g hg=>(hw.tr r.bel).block g (hS g hg))) ?_)
 rintro ρ wa1 v1 wb1 iv1 r he hw h_ rfl
 clear r
 obtain⟨e,he⟩:∃e,errF f=e:=⟨_,rfl⟩
 rw[he]
 conv=>whnf
 refine BrS.mk (fun hd=>?_) (fun hd=>?_)
 ·have hd:e≠0:=by simpa using hd
  conv=>whnf
  intro ρe we re
  exact⟨_,rfl,hw.tr re.bel,.inl ⟨by rw[he0,if_pos (by rw[he];exact hd),he];exact hd,by rw[he0,if_pos (by rw[he];exact hd),he];rfl⟩⟩
 have hd:e=0:=by simpa using hd
 subst hd
 have herr:=he
 clear he
 have hok:=errF_ok herr
 have EE:e0=errLim f.bars.length st t:=by rw[he0,if_neg (by rw[herr];decide)]
 obtain⟨hn20,hb60,hs60⟩:=And.intro hok.n (And.intro hok.b hok.s)
 conv=>whnf
 refine BrS.mk (fun hd=>?_) (fun hd=>?_)
 ·have hd:st.length≠f.bars.length:=by intro h;rw[h]at hd;simp at hd
  have he2:errLim f.bars.length st t=11:=by rw[errLim,if_pos hd]
  conv=>whnf
  intro ρe we re
  exact⟨_,rfl,hw.tr re.bel,.inl ⟨by rw[EE,he2];decide,by rw[EE,he2];rfl⟩⟩
 have hd:=(show (st.length:Int)=(f.bars.length:Int)from(by simpa using hd))
 have hlen:st.length=f.bars.length:=by omega
 conv=>whnf
 refine⟨Nat×World×Iv,fun z=>⟨[(1,.o (.v (.slice as_ st.length cs))),(2,.o (.v (.slice at_ t.length ct))),(3,.o (.p 0 0)),(31,.o (.v (.slice as_ st.length cs))),(32,.o (.v (.int .i64 st.length))),(33,.o (.v (.int .i64 ((z.1:Nat):Int))))],[(0,.box T.Frame [.v (.slice an f.nodes.length cn),.v (.slice ab f.bars.length cb),.v (.slice aq f.sups.length cq)])],1,z.2.2,z.2.1⟩,fun z=>st.length-z.1,
  fun z=>z.1≤st.length∧Bel w.heap.size w z.2.1∧firstE (fun _=>stE) [] st=firstE (fun _=>stE) (st.take z.1) (st.drop z.1),?_,?_⟩
 ·intro ρ w' r3
  exact⟨(0,w',_),⟨Nat.zero_le _,hw.tr r3.bel,rfl⟩,Sub.gen [] r3 ⟨rfl,trivial⟩ ⟨rfl,rfl,rfl,rfl,rfl,rfl,trivial⟩ (by simp[ScH,Blk.scopd,At.sc]) (by simp[ScE,SV.sc,At.sc,initE]) (by rfl) (fun lo hi h=>h)⟩
 clear hw
 rintro⟨i,w1,iv⟩ ⟨hi,hw,hE⟩
 dsimp only at hi hw hE ⊢
 conv=>whnf
 refine BrS.mk (fun hib=>?_) (fun hib=>?_)
 ·have hib:i<st.length:=by simpa using hib
  obtain⟨x,hx⟩:∃x,st[i]? =some x:=⟨_,List.getElem?_eq_getElem hib⟩
  obtain⟨adx,hax,hSx,hlx⟩:=ZsR.at hs hx
  conv=>whnf
  refine⟨adx,hax,⟨by omega,by omega⟩,?_⟩
  conv=>whnf
  refine⟨.int .i64 x,fun ρ w' r=>?_,?_⟩
  ·rw[Int.toNat_natCast,cell_of_heap (w:=w) (w2:=w') (by rw[addB];exact(hw.tr r.bel).block _ (hS _ hSx))]
   exact hlx
  conv=>whnf
  refine callE_S (cE hw (Φ:=fun _ w' v w2=>∃d,v= .bool d∧(d=true↔0≤x∧x≤1000000)) (fun ρ w' r=>sGood_c x w') ?_)
  rintro ρ wa2 v2 wb2 iv2 r he hw h_ ⟨d1,rfl,hz1⟩
  clear r he
  cases d1
  ·have hz1:¬(0≤x∧x≤1000000):=fun h=>by have:=hz1.2 h;cases this
   have h2:firstE (fun _=>stE) [] st=2:=by rw[hE];exact firstE_ret hx (show stE x=2 by rw[stE,if_neg hz1]) (by decide)
   have he2:errLim f.bars.length st t=2:=by rw[errLim,if_neg (by simpa using hlen),if_pos (by rw[h2];decide)]
   conv=>whnf
   intro ρe we re
   exact⟨_,rfl,hw.tr re.bel,.inl ⟨by rw[EE,he2];decide,by rw[EE,he2];rfl⟩⟩
  have hz1:=hz1.1 rfl
  rw[firstE_step hx (show stE x=0 by rw[stE,if_pos hz1])]at hE
  conv=>whnf
  refine⟨((i+1:Nat):Int),by rw[wrap64]<;>omega,?_⟩
  conv=>whnf
  intro ρ3 w6 r3
  exact⟨(i+1,w6,_),⟨hib,hw.tr r3.bel,hE⟩,Sub.gen [] r3 ⟨rfl,trivial⟩ ⟨rfl,rfl,rfl,rfl,rfl,rfl,trivial⟩ (by simp[ScH,Blk.scopd,At.sc]) (by simp[ScE,SV.sc,At.sc,initE]) (by rfl) (fun lo hi h=>h),by dsimp only;omega⟩
 have hib:i=st.length:=Nat.le_antisymm hi (by simpa using hib)
 rw[firstE_end (by omega)]at hE
 have hst0:=hE
 clear hib hi hE
 conv=>whnf
 refine callE_S (cE hw (Φ:=fun _ w' v w2=>v= .int .i64 (errT t)) (fun ρ w' r=>sCheckTable_c (S:=S) (fun g hg=>by have:=hS g hg;have:=r.baseLe;omega) hmt (fun hle=>StepsL.keep (ht hle) fun g hg=>(hw.tr r.bel).block g (hS g hg))) ?_)
 rintro ρ wa2 v2 wb2 iv2 r he hw h_ rfl
 clear r he
 obtain⟨e,he⟩:∃e,errT t=e:=⟨_,rfl⟩
 rw[he]
 conv=>whnf
 refine BrS.mk (fun hd=>?_) (fun hd=>?_)
 ·have hd:e≠0:=by simpa using hd
  have he2:errLim f.bars.length st t=e:=by rw[errLim,if_neg (by simpa using hlen),if_neg (by rw[hst0];decide),if_pos (by rw[he];exact hd),he]
  conv=>whnf
  intro ρe we re
  exact⟨_,rfl,hw.tr re.bel,.inl ⟨by rw[EE,he2];exact hd,by rw[EE,he2];rfl⟩⟩
 have hd:e=0:=by simpa using hd
 subst hd
 obtain⟨e1,e2⟩:=errT_zero he
 have ht2:=ht e2
 conv=>whnf
 refine⟨Nat×World×Iv,fun z=>⟨[(1,.o (.v (.slice as_ st.length cs))),(2,.o (.v (.slice at_ t.length ct))),(3,.o (.p 0 0)),(46,.o (.v (.slice at_ t.length ct))),(47,.o (.v (.int .i64 t.length))),(48,.o (.v (.int .i64 ((z.1:Nat):Int))))],[(0,.box T.Frame [.v (.slice an f.nodes.length cn),.v (.slice ab f.bars.length cb),.v (.slice aq f.sups.length cq)])],1,z.2.2,z.2.1⟩,fun z=>t.length-z.1,
  fun z=>z.1≤t.length∧Bel w.heap.size w z.2.1∧firstE (fun _=>vaE) [] t=firstE (fun _=>vaE) (t.take z.1) (t.drop z.1),?_,?_⟩
 ·intro ρ w' r3
  exact⟨(0,w',_),⟨Nat.zero_le _,hw.tr r3.bel,rfl⟩,Sub.gen [] r3 ⟨rfl,trivial⟩ ⟨rfl,rfl,rfl,rfl,rfl,rfl,trivial⟩ (by simp[ScH,Blk.scopd,At.sc]) (by simp[ScE,SV.sc,At.sc,initE]) (by rfl) (fun lo hi h=>h)⟩
 clear hw
 rintro⟨i,w1,iv⟩ ⟨hi,hw,hE⟩
 dsimp only at hi hw hE ⊢
 conv=>whnf
 refine BrS.mk (fun hib=>?_) (fun hib=>?_)
 ·have hib:i<t.length:=by simpa using hib
  obtain⟨q,hq⟩:∃q,t[i]? =some q:=⟨_,List.getElem?_eq_getElem hib⟩
  have hl:=ht2
  obtain⟨adq,csq,haq,hFq,-,hlq⟩:=hl.load (by decide) hq
  obtain⟨b0q,a0q,n0q,c0q,b1q,a1q,n1q,c1q,b2q,a2q,n2q,c2q,b3q,a3q,n3q,c3q,rfl,hAq,hVq⟩:=hFq
  conv=>whnf
  refine⟨adq,haq,⟨by omega,by omega⟩,?_⟩
  conv=>whnf
  refine⟨[.bool b0q,.slice a0q n0q c0q,.bool b1q,.slice a1q n1q c1q,.bool b2q,.slice a2q n2q c2q,.bool b3q,.slice a3q n3q c3q],rfl,fun ρ w' r j u hu=>?_,?_⟩
  ·have hj4:=(List.getElem?_eq_some_iff.1 hu).1
   obtain⟨k1,k2⟩:=hlq (0+j) u (by rcases j with _|_|_|_|_|_|_|_|j<;>first|exact hu|(have:j+8<8:=hj4;omega))
   rw[cell_of_heap (w:=w) (w2:=w') (by simp only[addB];exact(hw.tr r.bel).block _ (hS _ k1))]
   simp only[Int.toNat_natCast,Int.toNat_zero,Nat.zero_mul,addA]at k2 ⊢
   first|exact k2|(rw [←k2];congr 2;omega)
  conv=>whnf
  refine drawn_of_pi hτ hmix [.x 0,.x 1,.x 2,.x 3,.x 4,.x 5,.x 6,.x 7,.x 8,.x 9,.x 10,.x 11] (by kernel_rfl) (by kernel_rfl) ?_
  conv=>whnf
  refine cE hw (Φ:=fun _ w' v w2=>v= .int .i64 (rs q.2)) (fun ρ w' r=>(vCmp_c (fun g hg=>by have:=hS g hg;have:=r.baseLe;omega) (hVq.1.v.keep fun g hg=>(hw.tr r.bel).block g (hS g hg)) (RatL.zero (S:=S)).v).mono fun _ _ ⟨v2,e1,e2,e3⟩=>⟨v2,e1,e2,by rw[e3,rs_sub_zero]⟩) ?_
  rintro ρ wa3 v3 wb3 iv3 r he hw h_ rfl
  clear r he
  obtain⟨c1,hc1⟩:∃c,rs q.2=c:=⟨_,rfl⟩
  rw[hc1]
  conv=>whnf
  refine BrS.mk (fun k1=>?_) (fun k1=>?_)
  ·have k1:q.2<0:=by have:=of_decide_eq_true k1;rw[←rs_neg_iff];omega
   have h2:firstE (fun _=>vaE) [] t=2:=by rw[hE];exact firstE_ret hq (show vaE q=2 by rw[vaE,if_pos (.inl k1)]) (by decide)
   have he2:errLim f.bars.length st t=2:=by rw[errLim,if_neg (by simpa using hlen),if_neg (by rw[hst0];decide),if_neg (by rw[he];decide),h2]
   conv=>whnf
   intro ρe we re
   exact⟨_,rfl,hw.tr re.bel,.inl ⟨by rw[EE,he2];decide,by rw[EE,he2];rfl⟩⟩
  have k1:¬q.2<0:=by have:=of_decide_eq_false k1;rw[←rs_neg_iff];omega
  conv=>whnf
  refine cE hw (Φ:=fun _ w' v w2=>RatC w2 (Nw (fun _=>False) w' w2) v (((1:Int):Rat))) (fun ρ w' r=>sWhole_c 1 w' (by decide) (by decide)) ?_
  rintro ρ wa4 v4 wb4 iv4 r he hw h_ hn
  have h1:=hn.got (S:=fun _=>False) r.baseLe (mN h_)
  clear r he
  obtain⟨s4_0,s4_1,s4_2,s4_3,s4_4,s4_5,s4_6,s4_7,rfl⟩:=h1.shape
  conv=>whnf
  refine cE hw (Φ:=fun _ w' v w2=>v= .int .i64 (rs (q.2-1))) (fun ρ w' r=>vCmp_c (S:=fun g=>S g∨Cv (fun _=>False) w.heap.size iv4 g) (fun g hg=>hg.elim (fun hg=>by have:=hS g hg;have:=r.baseLe;omega) (Rel.old r (oldF w) g)) (RatV.weak (hVq.1.v.keep fun g hg=>(hw.tr r.bel).block g (hS g hg)) fun g hg=>.inl hg) (((h1.rel r (oldF w)).v (by decide)).weak fun g hg=>.inr hg)) ?_
  rintro ρ wa5 v5 wb5 iv5 r he hw h_ rfl
  clear h1
  clear r he
  obtain⟨c2,hc2⟩:∃c,rs (q.2-1)=c:=⟨_,rfl⟩
  rw[hc2]
  conv=>whnf
  refine BrS.mk (fun k2=>?_) (fun k2=>?_)
  ·have k2:1<q.2:=by have:=of_decide_eq_true k2;rw[←rs_sub_pos];omega
   have h2:firstE (fun _=>vaE) [] t=2:=by rw[hE];exact firstE_ret hq (show vaE q=2 by rw[vaE,if_pos (.inr k2)]) (by decide)
   have he2:errLim f.bars.length st t=2:=by rw[errLim,if_neg (by simpa using hlen),if_neg (by rw[hst0];decide),if_neg (by rw[he];decide),h2]
   conv=>whnf
   intro ρe we re
   exact⟨_,rfl,hw.tr re.bel,.inl ⟨by rw[EE,he2];decide,by rw[EE,he2];rfl⟩⟩
  have k2:¬1<q.2:=by have:=of_decide_eq_false k2;rw[←rs_sub_pos];omega
  rw[firstE_step hq (show vaE q=0 by rw[vaE,if_neg (by simp[k1,k2])])]at hE
  conv=>whnf
  refine⟨((i+1:Nat):Int),by rw[wrap64]<;>omega,?_⟩
  conv=>whnf
  intro ρ3 w6 r3
  exact⟨(i+1,w6,_),⟨hib,hw.tr r3.bel,hE⟩,Sub.gen [] r3 ⟨rfl,trivial⟩ ⟨rfl,rfl,rfl,rfl,rfl,rfl,trivial⟩ (by simp[ScH,Blk.scopd,At.sc]) (by simp[ScE,SV.sc,At.sc,initE]) (by rfl) (fun lo hi h=>h),by dsimp only;omega⟩
 have hib:i=t.length:=Nat.le_antisymm hi (by simpa using hib)
 rw[firstE_end (by omega)]at hE
 have heL:errLim f.bars.length st t=0:=by rw[errLim,if_neg (by simpa using hlen),if_neg (by rw[hst0];decide),if_neg (by rw[he];decide),hE]
 clear hib hi hE
 conv=>whnf
 refine⟨Nat×List (List Value)×World×Iv,fun z=>⟨[(1,.o (.v (.slice as_ st.length cs))),(2,.o (.v (.slice at_ t.length ct))),(3,.o (.p 0 0)),(14,.o (.w 1 z.2.1.length)),(66,.o (.v (.slice ab f.bars.length cb))),(67,.o (.v (.int .i64 f.bars.length))),(68,.o (.v (.int .i64 ((z.1:Nat):Int))))],[(1,.vec T.Range 8 z.2.1.flatten),(0,.box T.Frame [.v (.slice an f.nodes.length cn),.v (.slice ab f.bars.length cb),.v (.slice aq f.sups.length cq)])],2,z.2.2.2,z.2.2.1⟩,fun z=>f.bars.length-z.1,
  fun z=>z.1≤f.bars.length∧Bel w.heap.size w z.2.2.1∧GrowK 8 RngC z.2.2.1 (Cv (fun _=>False) w.heap.size z.2.2.2) z.2.1 (rngTo f st t z.1),?_,?_⟩
 ·intro ρ w' r
  exact⟨(0,[],w',_),⟨Nat.zero_le _,hw.tr r.bel,GrowK.nil⟩,Sub.nil 14 T.Range 8 rfl (by simp[ScE,SV.sc,At.sc,initE]) r fun ρ1 r1=>Sub.gen [] r1 ⟨rfl,rfl,trivial⟩ ⟨rfl,rfl,rfl,rfl,rfl,rfl,rfl,trivial⟩ (by simp[ScH,Blk.scopd,At.sc]) (by simp[ScE,SV.sc,At.sc,initE]) (by rfl) (fun lo hi h=>h)⟩
 clear hw
 rintro⟨i,css,w1,iv⟩ ⟨hi,hw,hG⟩
 dsimp only at hi hw hG ⊢
 have hfl:=flatk_len hG.wid
 have hcl:css.length=i:=by rw[hG.len,rngTo_len]
 conv=>whnf
 refine BrS.mk (fun hib=>?_) (fun hib=>?_)
 ·have hib:i<f.bars.length:=by simpa using hib
  obtain⟨b,hb⟩:∃b,f.bars[i]? =some b:=⟨_,List.getElem?_eq_getElem hib⟩
  obtain⟨hA,hB⟩:=hok.bar b (List.mem_of_getElem? hb)
  obtain⟨hq1,hq2⟩:=sqF_bd herr (List.mem_of_getElem? hb)
  obtain⟨sq,hsq⟩:=Int.eq_ofNat_of_zero_le (show 0≤sqF f b by omega)
  obtain⟨x,hx⟩:∃x,st[i]? =some x:=⟨_,List.getElem?_eq_getElem (by omega)⟩
  obtain⟨hx1,hx2⟩:0≤x∧x≤1000000:=by
   have h:=firstE_zero hst0 i x hx
   unfold stE at h
   split at h<;>rename_i h2
   ·exact h2
   ·cases h
  obtain⟨sx,rfl⟩:=Int.eq_ofNat_of_zero_le hx1
  obtain⟨adx,hax,hSx,hlx⟩:=ZsR.at hs hx
  have hnx:rngTo f st t (i+1)=rngTo f st t i++[(-(limF sq sx*valF ((sq:Int):Rat) t),limF sq sx)]:=by
   rw[rngTo_succ hb,rngOf,hsq,Int.toNat_natCast,show st.getD i 0=(sx:Int) by rw[List.getD,hx];rfl,Int.toNat_natCast]
  have hrl1:rl (limF sq sx)≤1:=rl_limF (by omega) (by omega)
  have hrl2:rl ((sq:Int):Rat)≤2:=rl_int2 (by omega)
  have hrl3:=valF_rl (x:=((sq:Int):Rat)) (by omega) (StepsL.small ht2) e1
  have hrl4:=rl_mul (limF sq sx) (valF ((sq:Int):Rat) t)
  obtain⟨adb,csb,hab,hFb,-,hlb⟩:=hf.bars.load (by decide) hb
  obtain⟨g0,g1,g2,g3,g4,g5,g6,g7,rfl,hFb⟩:=hFb
  obtain⟨ka,pa,ea,hka,hpa,hna,⟨_,_⟩,⟨_,_⟩,⟨_,_⟩⟩:=hok.node hA.1 hA.2
  obtain⟨kb,pb,eb,hkb,hpb,hnb,⟨_,_⟩,⟨_,_⟩,⟨_,_⟩⟩:=hok.node hB.1 hB.2
  obtain⟨y0,hy0⟩:∃y,pb.1-pa.1=y:=⟨_,rfl⟩
  obtain⟨y1,hy1⟩:∃y,pb.2.1-pa.2.1=y:=⟨_,rfl⟩
  obtain⟨y2,hy2⟩:∃y,pb.2.2-pa.2.2=y:=⟨_,rfl⟩
  obtain⟨p0,p1,-⟩:=sq_bd (x:=y0) (by omega) (by omega)
  obtain⟨p2,p3,-⟩:=sq_bd (x:=y1) (by omega) (by omega)
  obtain⟨p4,p5,-⟩:=sq_bd (x:=y2) (by omega) (by omega)
  have hsum:y0*y0+y1*y1+y2*y2=sq:=by rw[←hsq,sqF,hna,hnb,sqD,hy0,hy1,hy2]
  conv=>whnf
  refine⟨adb,hab,⟨by omega,by omega⟩,?_⟩
  conv=>whnf
  refine⟨[.int .i64 b.1,.int .i64 b.2.1,.bool g0,.slice g1 g2 g3,.bool g4,.slice g5 g6 g7],rfl,fun ρ w' r j u hu=>?_,?_⟩
  ·obtain⟨k1,k2⟩:=hlb j u hu
   rw[Int.toNat_natCast,cell_of_heap (w:=w) (w2:=w') (by rw[addB,addB];exact(hw.tr r.bel).block _ (hS _ k1))]
   exact k2
  conv=>whnf
  refine callE_S (cE hw (Φ:=fun _ w' v w2=>v= .agg #[.int .i64 y0,.int .i64 y1,.int .i64 y2]) (fun ρ w' r=>(sDifference_c (vb:=.slice ab f.bars.length cb) (vs:=.slice aq f.sups.length cq) (fun g hg=>by have:=hS g hg;have:=r.baseLe;omega) (NodesR.keep hf.nodes fun g hg=>(hw.tr r.bel).block g (hS g hg)) hok hA hB).mono fun _ _ ⟨v2,e1,e2,e3⟩=>⟨v2,e1,e2,by rw[e3,hna,hnb,hy0,hy1,hy2]⟩) ?_)
  rintro ρ wa51 v51 wb51 iv51 r he hw h_ rfl
  replace hG:=GrowR.past hG r (oldF w) he (mC h_)
  clear r he
  conv=>whnf
  refine⟨⟨by omega,by omega⟩,?_⟩
  conv=>whnf
  refine⟨⟨by omega,by omega⟩,?_⟩
  conv=>whnf
  refine⟨y0*y0,by rw[wrap64]<;>omega,?_⟩
  conv=>whnf
  refine⟨⟨by omega,by omega⟩,?_⟩
  conv=>whnf
  refine⟨⟨by omega,by omega⟩,?_⟩
  conv=>whnf
  refine⟨y1*y1,by rw[wrap64]<;>omega,?_⟩
  conv=>whnf
  refine⟨y0*y0+y1*y1,by rw[wrap64]<;>omega,?_⟩
  conv=>whnf
  refine⟨⟨by omega,by omega⟩,?_⟩
  conv=>whnf
  refine⟨⟨by omega,by omega⟩,?_⟩
  conv=>whnf
  refine⟨y2*y2,by rw[wrap64]<;>omega,?_⟩
  conv=>whnf
  refine⟨(sq:Int),by rw[wrap64]<;>omega,?_⟩
  conv=>whnf
  refine⟨adx,hax,⟨by omega,by omega⟩,?_⟩
  conv=>whnf
  refine⟨.int .i64 (sx:Int),fun ρ w' r=>?_,?_⟩
  ·rw[Int.toNat_natCast,cell_of_heap (w:=w) (w2:=w') (by rw[addB];exact(hw.tr r.bel).block _ (hS _ hSx))]
   exact hlx
  conv=>whnf
  refine callE_S (cE hw (Φ:=fun _ w' v w2=>RatC w2 (Nw (fun _=>False) w' w2) v (limF sq sx)) (fun ρ w' r=>(sLimit_c sq sx w' (by omega) (by omega)).mono fun _ _ ⟨v2,e1,e2,rt,e4,e5,e6⟩=>⟨v2,e1,e2,by rw[limF,limN,isq_one e4 e5];exact e6⟩) ?_)
  rintro ρ wa52 v52 wb52 iv52 r he hw h_ hn
  replace hG:=GrowR.past hG r (oldF w) he (mC h_)
  have hhigh:=hn.got (S:=fun _=>False) r.baseLe (mN h_)
  clear r he
  obtain⟨s52_0,s52_1,s52_2,s52_3,s52_4,s52_5,s52_6,s52_7,rfl⟩:=hhigh.shape
  conv=>whnf
  refine drawn_of_pi hτ hmix [.x 0,.x 1,.x 2,.x 3,.x 8,.x 4,.x 5,.x 6,.x 7,.x 9,.x 10,.x 11,.x 12] (by kernel_rfl) (by kernel_rfl) ?_
  conv=>whnf
  refine cE hw (Φ:=fun _ w' v w2=>RatC w2 (Nw (fun _=>False) w' w2) v (((sq:Int):Rat))) (fun ρ w' r=>sWhole_c sq w' (by omega) (by omega)) ?_
  rintro ρ wa53 v53 wb53 iv53 r he hw h_ hn
  replace hG:=GrowR.past hG r (oldF w) he (mC h_)
  replace hhigh:=hhigh.past r (oldF w) he (mC h_)
  have hw1:=hn.got (S:=fun _=>False) r.baseLe (mN h_)
  clear r he
  obtain⟨s53_0,s53_1,s53_2,s53_3,s53_4,s53_5,s53_6,s53_7,rfl⟩:=hw1.shape
  conv=>whnf
  refine cE hw (Φ:=fun _ w' v w2=>RatC w2 (Nw (fun _=>False) w' w2) v (valF ((sq:Int):Rat) t)) (fun ρ w' r=>sValue_c (S:=fun g=>S g∨Cv (fun _=>False) w.heap.size iv53 g) (fun g hg=>hg.elim (fun hg=>by have:=hS g hg;have:=r.baseLe;omega) (Rel.old r (oldF w) g)) (StepsL.weak (StepsL.keep ht2 fun g hg=>(hw.tr r.bel).block g (hS g hg)) fun g hg=>.inl hg) (((hw1.rel r (oldF w)).l (by omega)).weak fun g hg=>.inr hg) (by omega) e1) ?_
  rintro ρ wa54 v54 wb54 iv54 r he hw h_ hn
  replace hG:=GrowR.past hG r (oldF w) he (mC h_)
  replace hhigh:=hhigh.past r (oldF w) he (mC h_)
  clear hw1
  have hv1:=hn.got (S:=fun _=>False) r.baseLe (mN h_)
  clear r he
  obtain⟨s54_0,s54_1,s54_2,s54_3,s54_4,s54_5,s54_6,s54_7,rfl⟩:=hv1.shape
  conv=>whnf
  refine cE hw (Φ:=fun _ w' v w2=>RatC w2 (Nw (fun _=>False) w' w2) v (limF sq sx*valF ((sq:Int):Rat) t)) (fun ρ w' r=>vMul_c (Rel.old r (oldF w)) ((hhigh.rel r (oldF w)).v (by omega)) ((hv1.rel r (oldF w)).v (by omega))) ?_
  rintro ρ wa55 v55 wb55 iv55 r he hw h_ hn
  replace hG:=GrowR.past hG r (oldF w) he (mC h_)
  replace hhigh:=hhigh.past r (oldF w) he (mC h_)
  clear hv1
  have hm1:=hn.got (S:=fun _=>False) r.baseLe (mN h_)
  clear r he
  obtain⟨s55_0,s55_1,s55_2,s55_3,s55_4,s55_5,s55_6,s55_7,rfl⟩:=hm1.shape
  conv=>whnf
  refine cE hw (Φ:=fun _ w' v w2=>RatC w2 (Nw (fun _=>False) w' w2) v (-(limF sq sx*valF ((sq:Int):Rat) t))) (fun ρ w' r=>sNeg_c (Rel.old r (oldF w)) ((hm1.rel r (oldF w)).l (by omega))) ?_
  rintro ρ wa56 v56 wb56 iv56 r he hw h_ hn
  replace hG:=GrowR.past hG r (oldF w) he (mC h_)
  replace hhigh:=hhigh.past r (oldF w) he (mC h_)
  clear hm1
  have hlow:=hn.got (S:=fun _=>False) r.baseLe (mN h_)
  clear r he
  obtain⟨s56_0,s56_1,s56_2,s56_3,s56_4,s56_5,s56_6,s56_7,rfl⟩:=hlow.shape
  conv=>whnf
  have hG2:=hG.push (cs:=[.bool s56_0,.slice s56_1 s56_2 s56_3,.bool s56_4,.slice s56_5 s56_6 s56_7,.bool s52_0,.slice s52_1 s52_2 s52_3,.bool s52_4,.slice s52_5 s52_6 s52_7]) (q:=(-(limF sq sx*valF ((sq:Int):Rat) t),limF sq sx)) ⟨_,_,_,_,_,_,_,_,_,_,_,_,_,_,_,_,rfl,hlow,hhigh⟩ rfl
  rw[←hnx]at hG2
  have hfl2:css.flatten++([.bool s56_0,.slice s56_1 s56_2 s56_3,.bool s56_4,.slice s56_5 s56_6 s56_7,.bool s52_0,.slice s52_1 s52_2 s52_3,.bool s52_4,.slice s52_5 s52_6 s52_7]:List Value)=(css++([[.bool s56_0,.slice s56_1 s56_2 s56_3,.bool s56_4,.slice s56_5 s56_6 s56_7,.bool s52_0,.slice s52_1 s52_2 s52_3,.bool s52_4,.slice s52_5 s52_6 s52_7]]:List (List Value))).flatten:=by simp
  refine .inl ?_
  conv=>whnf
  refine⟨by omega,by omega,by unfold maxLen;omega,?_⟩
  conv=>whnf
  refine⟨((i+1:Nat):Int),by rw[wrap64]<;>omega,?_⟩
  conv=>whnf
  intro ρ3 w3 r3
  exact⟨(i+1,css++[[.bool s56_0,.slice s56_1 s56_2 s56_3,.bool s56_4,.slice s56_5 s56_6 s56_7,.bool s52_0,.slice s52_1 s52_2 s52_3,.bool s52_4,.slice s52_5 s52_6 s52_7]],w3,_),⟨hib,hw.tr r3.bel,GrowR.rel hG2 r3 (oldF w)⟩,Sub.gen [(1,6)] r3 ⟨by dsimp only;rw[←hfl2];rfl,rfl,trivial⟩ ⟨rfl,rfl,rfl,by dsimp only;rw[List.length_append,List.length_singleton];rfl,rfl,rfl,rfl,trivial⟩ (by simp[ScH,Blk.scopd,At.sc]) (by simp[ScE,SV.sc,At.sc,initE]) (by rfl) (fun lo hi h=>h),by dsimp only;omega⟩
 have hib:i=f.bars.length:=Nat.le_antisymm hi (by simpa using hib)
 subst hib
 conv=>whnf
 intro ρe we re
 have h5:=re.vecSeq (id:=1) (sz:=8) (m:=css.length) rfl hfl (by unfold maxLen;omega) (by decide) (hG.one fun cs q h=>h.one)
 exact⟨_,rfl,hw.tr re.bel,.inr ⟨by rw[EE,heL],_,rfl,GrowK.list ((GrowR.rel hG re (oldF w)).map fun cs q h=>h.weak fun g hg=>Cv.nw hg re) (h5.weak fun g hg=>.inr hg)⟩⟩
end Go.Ex

/- The reference's limits of all bars. Printed by program. No condition but sizes. -/
namespace Go.Ex
open Go Go.Sx Go.Proofs

set_option maxHeartbeats 1000000 in
theorem rDifference_c{S:Nat→Prop}{w:World}{vn vb vs:Value}{f:Frm}{i:Nat}{b:Int×Int×Rat}(hS:Old S w)(hf:FrameR w S vn vb vs f)(hok:FrmOk f)(hb:f.bars[i]? =some b):
  Con PG N.ref05_Difference #[.agg #[vn,vb,vs],.int .i64 i] w (Ret w fun v' _=>v'= .agg #[.int .i64 ((f.node b.2.1).1-(f.node b.1).1),.int .i64 ((f.node b.2.1).2.1-(f.node b.1).2.1),.int .i64 ((f.node b.2.1).2.2-(f.node b.1).2.2)]):=by
 have hw:Bel w.heap.size w w:=Bel.refl
 obtain⟨an,cn,ab,cb,aq,cq,rfl,rfl,rfl,hmn,hmb,hms⟩:=hf.shape
 obtain⟨hn20,hb60,hs60⟩:=And.intro hok.n (And.intro hok.b hok.s)
 have hib:=(List.getElem?_eq_some_iff.1 hb).1
 obtain⟨hA,hB⟩:=hok.bar b (List.mem_of_getElem? hb)
 obtain⟨ka,pa,ea,hka,hpa,hna,⟨_,_⟩,⟨_,_⟩,⟨_,_⟩⟩:=hok.node hA.1 hA.2
 obtain⟨kb,pb,eb,hkb,hpb,hnb,⟨_,_⟩,⟨_,_⟩,⟨_,_⟩⟩:=hok.node hB.1 hB.2
 obtain⟨adx,csx,hax,hFx,-,hlx⟩:=hf.bars.load (by decide) hb
 obtain⟨g0,g1,g2,g3,g4,g5,g6,g7,rfl,-⟩:=hFx
 obtain⟨ada,csa,haa,hPa,-,hla⟩:=hf.nodes.load (by decide) hpa
 obtain⟨adb,csb,hab,hPb,-,hlb⟩:=hf.nodes.load (by decide) hpb
 have hPa:csa=[.int .i64 pa.1,.int .i64 pa.2.1,.int .i64 pa.2.2]:=hPa
 have hPb:csb=[.int .i64 pb.1,.int .i64 pb.2.1,.int .i64 pb.2.2]:=hPb
 subst hPa hPb
 rw[hna,hnb]
 rw[ea,eb]at hlx
 refine in_ref05_Difference (by simp) ?_
 conv=>whnf
 refine drawn_of_tg hτ hmix (.x 0 (.x 2 (.x 4 (.x 10 (.x 12 (.x 14 (.ld 1 12583680 (.ld 3 12583904 (.x 5 (.x 6 (.ld 7 12583680 (.x 8 (.ld 9 12582912 (.ld 11 9175040 (.ld 13 9404416 (.x 15 (.x 16 (.ld 17 9175040 (.x 18 (.ld 19 8388608 (.two 20 (.x 21 (.x 22 (.x 23 .nil))) 21 (.x 20 (.x 22 (.x 23 .nil)))))))))))))))))))))))) (by kernel_rfl) (by kernel_rfl) ?_
 conv=>whnf
 refine⟨adx,hax,⟨by omega,by omega⟩,?_⟩
 conv=>whnf
 refine⟨.int .i64 (ka:Int),fun ρ w' r=>?_,?_⟩
 ·obtain⟨k1,k2⟩:=hlx 0 _ rfl
  rw[cell_of_heap (w:=w) (w2:=w') (by simp only[addB];exact(hw.tr r.bel).block _ (hS _ k1))]
  simp only[Int.toNat_natCast,addA]at k2 ⊢
  exact k2
 conv=>whnf
 refine⟨ada,haa,⟨by omega,by omega⟩,?_⟩
 conv=>whnf
 refine⟨[.int .i64 pa.1,.int .i64 pa.2.1,.int .i64 pa.2.2],rfl,fun ρ w' r j u hu=>?_,?_⟩
 ·obtain⟨k1,k2⟩:=hla j u hu
  rw[Int.toNat_natCast,cell_of_heap (w:=w) (w2:=w') (by rw[addB,addB];exact(hw.tr r.bel).block _ (hS _ k1))]
  exact k2
 conv=>whnf
 refine⟨adx,hax,⟨by omega,by omega⟩,?_⟩
 conv=>whnf
 refine⟨.int .i64 (kb:Int),fun ρ w' r=>?_,?_⟩
 ·obtain⟨k1,k2⟩:=hlx 1 _ rfl
  rw[cell_of_heap (w:=w) (w2:=w') (by simp only[addB];exact(hw.tr r.bel).block _ (hS _ k1))]
  simp only[Int.toNat_natCast,addA]at k2 ⊢
  exact k2
 conv=>whnf
 refine⟨adb,hab,⟨by omega,by omega⟩,?_⟩
 conv=>whnf
 refine⟨[.int .i64 pb.1,.int .i64 pb.2.1,.int .i64 pb.2.2],rfl,fun ρ w' r j u hu=>?_,?_⟩
 ·obtain⟨k1,k2⟩:=hlb j u hu
  rw[Int.toNat_natCast,cell_of_heap (w:=w) (w2:=w') (by rw[addB,addB];exact(hw.tr r.bel).block _ (hS _ k1))]
  exact k2
 conv=>whnf
 refine⟨?_,?_⟩
 ·conv=>whnf
  refine⟨[.int .i64 pb.1,.int .i64 pb.2.1,.int .i64 pb.2.2],rfl,fun ρ w' r j u hu=>?_,?_⟩
  ·obtain⟨k1,k2⟩:=hlb j u hu
   rw[Int.toNat_natCast,cell_of_heap (w:=w) (w2:=w') (by rw[addB,addB];exact(hw.tr r.bel).block _ (hS _ k1))]
   exact k2
  conv=>whnf
  refine⟨rfl,?_⟩
  conv=>whnf
  refine⟨.int .i64 (kb:Int),fun ρ w' r=>?_,?_⟩
  ·obtain⟨k1,k2⟩:=hlx 1 _ rfl
   rw[cell_of_heap (w:=w) (w2:=w') (by simp only[addB];exact(hw.tr r.bel).block _ (hS _ k1))]
   simp only[Int.toNat_natCast,addA]at k2 ⊢
   exact k2
  conv=>whnf
  refine⟨rfl,?_⟩
  conv=>whnf
  refine⟨rfl,?_⟩
  conv=>whnf
  refine⟨rfl,?_⟩
  conv=>whnf
  refine⟨[.int .i64 pa.1,.int .i64 pa.2.1,.int .i64 pa.2.2],rfl,fun ρ w' r j u hu=>?_,?_⟩
  ·obtain⟨k1,k2⟩:=hla j u hu
   rw[Int.toNat_natCast,cell_of_heap (w:=w) (w2:=w') (by rw[addB,addB];exact(hw.tr r.bel).block _ (hS _ k1))]
   exact k2
  conv=>whnf
  refine⟨rfl,?_⟩
  conv=>whnf
  refine⟨.int .i64 (ka:Int),fun ρ w' r=>?_,?_⟩
  ·obtain⟨k1,k2⟩:=hlx 0 _ rfl
   rw[cell_of_heap (w:=w) (w2:=w') (by simp only[addB];exact(hw.tr r.bel).block _ (hS _ k1))]
   simp only[Int.toNat_natCast,addA]at k2 ⊢
   exact k2
  conv=>whnf
  refine⟨rfl,?_⟩
  conv=>whnf
  refine⟨rfl,?_⟩
  conv=>whnf
  refine⟨rfl,?_⟩
  conv=>whnf
  refine⟨[.int .i64 pb.1,.int .i64 pb.2.1,.int .i64 pb.2.2],rfl,fun ρ w' r j u hu=>?_,?_⟩
  ·obtain⟨k1,k2⟩:=hlb j u hu
   rw[Int.toNat_natCast,cell_of_heap (w:=w) (w2:=w') (by rw[addB,addB];exact(hw.tr r.bel).block _ (hS _ k1))]
   exact k2
  conv=>whnf
  refine⟨rfl,?_⟩
  conv=>whnf
  refine⟨.int .i64 (kb:Int),fun ρ w' r=>?_,?_⟩
  ·obtain⟨k1,k2⟩:=hlx 1 _ rfl
   rw[cell_of_heap (w:=w) (w2:=w') (by simp only[addB];exact(hw.tr r.bel).block _ (hS _ k1))]
   simp only[Int.toNat_natCast,addA]at k2 ⊢
   exact k2
  conv=>whnf
  refine⟨rfl,?_⟩
  conv=>whnf
  refine⟨rfl,?_⟩
  conv=>whnf
  refine⟨rfl,?_⟩
  conv=>whnf
  refine⟨[.int .i64 pa.1,.int .i64 pa.2.1,.int .i64 pa.2.2],rfl,fun ρ w' r j u hu=>?_,?_⟩
  ·obtain⟨k1,k2⟩:=hla j u hu
   rw[Int.toNat_natCast,cell_of_heap (w:=w) (w2:=w') (by rw[addB,addB];exact(hw.tr r.bel).block _ (hS _ k1))]
   exact k2
  conv=>whnf
  refine⟨rfl,?_⟩
  conv=>whnf
  refine⟨.int .i64 (ka:Int),fun ρ w' r=>?_,?_⟩
  ·obtain⟨k1,k2⟩:=hlx 0 _ rfl
   rw[cell_of_heap (w:=w) (w2:=w') (by simp only[addB];exact(hw.tr r.bel).block _ (hS _ k1))]
   simp only[Int.toNat_natCast,addA]at k2 ⊢
   exact k2
  conv=>whnf
  refine⟨rfl,?_⟩
  conv=>whnf
  refine⟨rfl,?_⟩
  conv=>whnf
  refine⟨rfl,?_⟩
  conv=>whnf
  refine⟨[.int .i64 pb.1,.int .i64 pb.2.1,.int .i64 pb.2.2],rfl,fun ρ w' r j u hu=>?_,?_⟩
  ·obtain⟨k1,k2⟩:=hlb j u hu
   rw[Int.toNat_natCast,cell_of_heap (w:=w) (w2:=w') (by rw[addB,addB];exact(hw.tr r.bel).block _ (hS _ k1))]
   exact k2
  conv=>whnf
  refine⟨rfl,?_⟩
  conv=>whnf
  refine⟨.int .i64 (kb:Int),fun ρ w' r=>?_,?_⟩
  ·obtain⟨k1,k2⟩:=hlx 1 _ rfl
   rw[cell_of_heap (w:=w) (w2:=w') (by simp only[addB];exact(hw.tr r.bel).block _ (hS _ k1))]
   simp only[Int.toNat_natCast,addA]at k2 ⊢
   exact k2
  conv=>whnf
  refine⟨rfl,?_⟩
  conv=>whnf
  refine⟨rfl,?_⟩
  conv=>whnf
  refine⟨rfl,?_⟩
  conv=>whnf
  refine⟨pb.1-pa.1,by rw[wrap64]<;>omega,?_⟩
  conv=>whnf
  refine⟨pb.2.1-pa.2.1,by rw[wrap64]<;>omega,?_⟩
  conv=>whnf
  refine⟨pb.2.2-pa.2.2,by rw[wrap64]<;>omega,?_⟩
  conv=>whnf
  intro ρe we re
  exact⟨_,rfl,hw.tr re.bel,rfl⟩
 ·conv=>whnf
  refine⟨[.int .i64 pb.1,.int .i64 pb.2.1,.int .i64 pb.2.2],rfl,fun ρ w' r j u hu=>?_,?_⟩
  ·obtain⟨k1,k2⟩:=hlb j u hu
   rw[Int.toNat_natCast,cell_of_heap (w:=w) (w2:=w') (by rw[addB,addB];exact(hw.tr r.bel).block _ (hS _ k1))]
   exact k2
  conv=>whnf
  refine⟨rfl,?_⟩
  conv=>whnf
  refine⟨.int .i64 (kb:Int),fun ρ w' r=>?_,?_⟩
  ·obtain⟨k1,k2⟩:=hlx 1 _ rfl
   rw[cell_of_heap (w:=w) (w2:=w') (by simp only[addB];exact(hw.tr r.bel).block _ (hS _ k1))]
   simp only[Int.toNat_natCast,addA]at k2 ⊢
   exact k2
  conv=>whnf
  refine⟨rfl,?_⟩
  conv=>whnf
  refine⟨rfl,?_⟩
  conv=>whnf
  refine⟨rfl,?_⟩
  conv=>whnf
  refine⟨[.int .i64 pa.1,.int .i64 pa.2.1,.int .i64 pa.2.2],rfl,fun ρ w' r j u hu=>?_,?_⟩
  ·obtain⟨k1,k2⟩:=hla j u hu
   rw[Int.toNat_natCast,cell_of_heap (w:=w) (w2:=w') (by rw[addB,addB];exact(hw.tr r.bel).block _ (hS _ k1))]
   exact k2
  conv=>whnf
  refine⟨rfl,?_⟩
  conv=>whnf
  refine⟨.int .i64 (ka:Int),fun ρ w' r=>?_,?_⟩
  ·obtain⟨k1,k2⟩:=hlx 0 _ rfl
   rw[cell_of_heap (w:=w) (w2:=w') (by simp only[addB];exact(hw.tr r.bel).block _ (hS _ k1))]
   simp only[Int.toNat_natCast,addA]at k2 ⊢
   exact k2
  conv=>whnf
  refine⟨rfl,?_⟩
  conv=>whnf
  refine⟨rfl,?_⟩
  conv=>whnf
  refine⟨rfl,?_⟩
  conv=>whnf
  refine⟨[.int .i64 pb.1,.int .i64 pb.2.1,.int .i64 pb.2.2],rfl,fun ρ w' r j u hu=>?_,?_⟩
  ·obtain⟨k1,k2⟩:=hlb j u hu
   rw[Int.toNat_natCast,cell_of_heap (w:=w) (w2:=w') (by rw[addB,addB];exact(hw.tr r.bel).block _ (hS _ k1))]
   exact k2
  conv=>whnf
  refine⟨rfl,?_⟩
  conv=>whnf
  refine⟨.int .i64 (kb:Int),fun ρ w' r=>?_,?_⟩
  ·obtain⟨k1,k2⟩:=hlx 1 _ rfl
   rw[cell_of_heap (w:=w) (w2:=w') (by simp only[addB];exact(hw.tr r.bel).block _ (hS _ k1))]
   simp only[Int.toNat_natCast,addA]at k2 ⊢
   exact k2
  conv=>whnf
  refine⟨rfl,?_⟩
  conv=>whnf
  refine⟨rfl,?_⟩
  conv=>whnf
  refine⟨rfl,?_⟩
  conv=>whnf
  refine⟨[.int .i64 pa.1,.int .i64 pa.2.1,.int .i64 pa.2.2],rfl,fun ρ w' r j u hu=>?_,?_⟩
  ·obtain⟨k1,k2⟩:=hla j u hu
   rw[Int.toNat_natCast,cell_of_heap (w:=w) (w2:=w') (by rw[addB,addB];exact(hw.tr r.bel).block _ (hS _ k1))]
   exact k2
  conv=>whnf
  refine⟨rfl,?_⟩
  conv=>whnf
  refine⟨.int .i64 (ka:Int),fun ρ w' r=>?_,?_⟩
  ·obtain⟨k1,k2⟩:=hlx 0 _ rfl
   rw[cell_of_heap (w:=w) (w2:=w') (by simp only[addB];exact(hw.tr r.bel).block _ (hS _ k1))]
   simp only[Int.toNat_natCast,addA]at k2 ⊢
   exact k2
  conv=>whnf
  refine⟨rfl,?_⟩
  conv=>whnf
  refine⟨rfl,?_⟩
  conv=>whnf
  refine⟨rfl,?_⟩
  conv=>whnf
  refine⟨[.int .i64 pb.1,.int .i64 pb.2.1,.int .i64 pb.2.2],rfl,fun ρ w' r j u hu=>?_,?_⟩
  ·obtain⟨k1,k2⟩:=hlb j u hu
   rw[Int.toNat_natCast,cell_of_heap (w:=w) (w2:=w') (by rw[addB,addB];exact(hw.tr r.bel).block _ (hS _ k1))]
   exact k2
  conv=>whnf
  refine⟨rfl,?_⟩
  conv=>whnf
  refine⟨.int .i64 (kb:Int),fun ρ w' r=>?_,?_⟩
  ·obtain⟨k1,k2⟩:=hlx 1 _ rfl
   rw[cell_of_heap (w:=w) (w2:=w') (by simp only[addB];exact(hw.tr r.bel).block _ (hS _ k1))]
   simp only[Int.toNat_natCast,addA]at k2 ⊢
   exact k2
  conv=>whnf
  refine⟨rfl,?_⟩
  conv=>whnf
  refine⟨rfl,?_⟩
  conv=>whnf
  refine⟨rfl,?_⟩
  conv=>whnf
  refine⟨pb.1-pa.1,by rw[wrap64]<;>omega,?_⟩
  conv=>whnf
  refine⟨pb.2.1-pa.2.1,by rw[wrap64]<;>omega,?_⟩
  conv=>whnf
  refine⟨pb.2.2-pa.2.2,by rw[wrap64]<;>omega,?_⟩
  conv=>whnf
  intro ρe we re
  exact⟨_,rfl,hw.tr re.bel,rfl⟩
theorem rSquare_c{S:Nat→Prop}{w:World}{vn vb vs:Value}{f:Frm}{i:Nat}{b:Int×Int×Rat}(hS:Old S w)(hf:FrameR w S vn vb vs f)(herr:errF f=0)(hb:f.bars[i]? =some b):
  Con PG N.ref05_Square #[.agg #[vn,vb,vs],.int .i64 i] w (Ret w fun v' _=>v'= .int .i64 (sqF f b)):=by
 have hw:Bel w.heap.size w w:=Bel.refl
 have hok:=errF_ok herr
 obtain⟨an,cn,ab,cb,aq,cq,rfl,rfl,rfl,hmn,hmb,hms⟩:=hf.shape
 obtain⟨hA,hB⟩:=hok.bar b (List.mem_of_getElem? hb)
 obtain⟨ka,pa,ea,hka,hpa,hna,⟨_,_⟩,⟨_,_⟩,⟨_,_⟩⟩:=hok.node hA.1 hA.2
 obtain⟨kb,pb,eb,hkb,hpb,hnb,⟨_,_⟩,⟨_,_⟩,⟨_,_⟩⟩:=hok.node hB.1 hB.2
 obtain⟨y0,hy0⟩:∃y,pb.1-pa.1=y:=⟨_,rfl⟩
 obtain⟨y1,hy1⟩:∃y,pb.2.1-pa.2.1=y:=⟨_,rfl⟩
 obtain⟨y2,hy2⟩:∃y,pb.2.2-pa.2.2=y:=⟨_,rfl⟩
 obtain⟨p0,p1,-⟩:=sq_bd (x:=y0) (by omega) (by omega)
 obtain⟨p2,p3,-⟩:=sq_bd (x:=y1) (by omega) (by omega)
 obtain⟨p4,p5,-⟩:=sq_bd (x:=y2) (by omega) (by omega)
 obtain⟨sq,hsq⟩:∃s,sqF f b=s:=⟨_,rfl⟩
 have hsum:y0*y0+y1*y1+y2*y2=sq:=by rw[←hsq,sqF,hna,hnb,sqD,hy0,hy1,hy2]
 rw[hsq]
 refine in_ref05_Square (by simp) ?_
 conv=>whnf
 refine callE_S (cE hw (Φ:=fun _ w' v w2=>v= .agg #[.int .i64 y0,.int .i64 y1,.int .i64 y2]) (fun ρ w' r=>(rDifference_c (fun g hg=>by have:=hS g hg;have:=r.baseLe;omega) (hf.keep fun g hg=>(hw.tr r.bel).block g (hS g hg)) hok hb).mono fun _ _ ⟨v2,e1,e2,e3⟩=>⟨v2,e1,e2,by rw[e3,hna,hnb,hy0,hy1,hy2]⟩) ?_)
 rintro ρ wa1 v1 wb1 iv1 r he hw h_ rfl
 clear r
 conv=>whnf
 refine⟨⟨by omega,by omega⟩,?_⟩
 conv=>whnf
 refine⟨⟨by omega,by omega⟩,?_⟩
 conv=>whnf
 refine⟨y0*y0,by rw[wrap64]<;>omega,?_⟩
 conv=>whnf
 refine⟨⟨by omega,by omega⟩,?_⟩
 conv=>whnf
 refine⟨⟨by omega,by omega⟩,?_⟩
 conv=>whnf
 refine⟨y1*y1,by rw[wrap64]<;>omega,?_⟩
 conv=>whnf
 refine⟨y0*y0+y1*y1,by rw[wrap64]<;>omega,?_⟩
 conv=>whnf
 refine⟨⟨by omega,by omega⟩,?_⟩
 conv=>whnf
 refine⟨⟨by omega,by omega⟩,?_⟩
 conv=>whnf
 refine⟨y2*y2,by rw[wrap64]<;>omega,?_⟩
 conv=>whnf
 refine⟨sq,by rw[wrap64]<;>omega,?_⟩
 conv=>whnf
 intro ρe we re
 exact⟨_,rfl,hw.tr re.bel,rfl⟩
set_option maxHeartbeats 2000000 in
theorem rLimits_c{S:Nat→Prop}{w:World}{vn vb vs u:Value}{at_:Option Addr}{ct:Nat}{f:Frm}{st:List Int}{t:List (Rat×Rat)}{e0:Int}(hS:Old S w)(hf:FrameR w S vn vb vs f)(herr:errF f=0)(hs:ZsR w S u st)(hmt:t.length≤maxLen)(ht:t.length≤100→StepsL w S (.slice at_ t.length ct) t)(EE:e0=errLim f.bars.length st t):
  Con PG N.ref05_Limits #[.agg #[vn,vb,vs],u,.slice at_ t.length ct] w (Ret w fun v' w2=>(e0≠0∧v'= .tuple #[.slice none 0 0,.int .i64 e0])∨(e0=0∧∃vr,v'= .tuple #[vr,.int .i64 0]∧RngsC w2 (Nw (fun _=>False) w w2) vr (rngTo f st t f.bars.length))):=by
 have hw:Bel w.heap.size w w:=Bel.refl
 obtain⟨an,cn,ab,cb,aq,cq,rfl,rfl,rfl,hmn,hmb,hms⟩:=hf.shape
 obtain⟨as_,cs,rfl,-,hmst⟩:=hs.shape
 unfold maxLen at hmb hmst
 obtain⟨hn20,hb60,hs60⟩:=And.intro (errF_ok herr).n (And.intro (errF_ok herr).b (errF_ok herr).s)
 have hok:=errF_ok herr
 refine in_ref05_Limits (by simp) ?_
 conv=>whnf
 refine BrS.mk (fun hd=>?_) (fun hd=>?_)
 ·have hd:st.length≠f.bars.length:=by intro h;rw[h]at hd;simp at hd
  have he2:errLim f.bars.length st t=11:=by rw[errLim,if_pos hd]
  conv=>whnf
  intro ρe we re
  exact⟨_,rfl,hw.tr re.bel,.inl ⟨by rw[EE,he2];decide,by rw[EE,he2];rfl⟩⟩
 have hd:=(show (st.length:Int)=(f.bars.length:Int)from(by simpa using hd))
 have hlen:st.length=f.bars.length:=by omega
 conv=>whnf
 refine⟨Nat×World×Iv,fun z=>⟨[(1,.o (.v (.slice as_ st.length cs))),(2,.o (.v (.slice at_ t.length ct))),(3,.o (.p 0 0)),(8,.o (.v (.int .i64 ((z.1:Nat):Int))))],[(0,.box T.Frame [.v (.slice an f.nodes.length cn),.v (.slice ab f.bars.length cb),.v (.slice aq f.sups.length cq)])],1,z.2.2,z.2.1⟩,fun z=>st.length-z.1,
  fun z=>z.1≤st.length∧Bel w.heap.size w z.2.1∧firstE (fun _=>stE) [] st=firstE (fun _=>stE) (st.take z.1) (st.drop z.1),?_,?_⟩
 ·intro ρ w' r3
  exact⟨(0,w',_),⟨Nat.zero_le _,hw.tr r3.bel,rfl⟩,Sub.gen [] r3 ⟨rfl,trivial⟩ ⟨rfl,rfl,rfl,rfl,trivial⟩ (by simp[ScH,Blk.scopd,At.sc]) (by simp[ScE,SV.sc,At.sc,initE]) (by rfl) (fun lo hi h=>h)⟩
 clear hw
 rintro⟨i,w1,iv⟩ ⟨hi,hw,hE⟩
 dsimp only at hi hw hE ⊢
 conv=>whnf
 refine BrS.mk (fun hib=>?_) (fun hib=>?_)
 ·have hib:i<st.length:=by simpa using hib
  obtain⟨x,hx⟩:∃x,st[i]? =some x:=⟨_,List.getElem?_eq_getElem hib⟩
  obtain⟨adx,hax,hSx,hlx⟩:=ZsR.at hs hx
  conv=>whnf
  refine⟨adx,hax,⟨by omega,by omega⟩,?_⟩
  conv=>whnf
  refine⟨.int .i64 x,fun ρ w' r=>?_,?_⟩
  ·rw[Int.toNat_natCast,cell_of_heap (w:=w) (w2:=w') (by rw[addB];exact(hw.tr r.bel).block _ (hS _ hSx))]
   exact hlx
  conv=>whnf
  refine callE_S (cE hw (Φ:=fun _ w' v w2=>∃d,v= .bool d∧(d=true↔0≤x∧x≤1000000)) (fun ρ w' r=>within_c _ _ _ w') ?_)
  rintro ρ wa1 v1 wb1 iv1 r he hw h_ ⟨d1,rfl,hz1⟩
  clear r
  cases d1
  ·have hz1:¬(0≤x∧x≤1000000):=fun h=>by have:=hz1.2 h;cases this
   have h2:firstE (fun _=>stE) [] st=2:=by rw[hE];exact firstE_ret hx (show stE x=2 by rw[stE,if_neg hz1]) (by decide)
   have he2:errLim f.bars.length st t=2:=by rw[errLim,if_neg (by simpa using hlen),if_pos (by rw[h2];decide)]
   conv=>whnf
   intro ρe we re
   exact⟨_,rfl,hw.tr re.bel,.inl ⟨by rw[EE,he2];decide,by rw[EE,he2];rfl⟩⟩
  have hz1:=hz1.1 rfl
  rw[firstE_step hx (show stE x=0 by rw[stE,if_pos hz1])]at hE
  conv=>whnf
  refine⟨((i+1:Nat):Int),by rw[wrap64]<;>omega,?_⟩
  conv=>whnf
  intro ρ3 w6 r3
  exact⟨(i+1,w6,_),⟨hib,hw.tr r3.bel,hE⟩,Sub.gen [] r3 ⟨rfl,trivial⟩ ⟨rfl,rfl,rfl,rfl,trivial⟩ (by simp[ScH,Blk.scopd,At.sc]) (by simp[ScE,SV.sc,At.sc,initE]) (by rfl) (fun lo hi h=>h),by dsimp only;omega⟩
 have hib:i=st.length:=Nat.le_antisymm hi (by simpa using hib)
 rw[firstE_end (by omega)]at hE
 have hst0:=hE
 clear hib hi hE
 conv=>whnf
 refine callE_S (cE hw (Φ:=fun _ w' v w2=>v= .int .i64 (errT t)) (fun ρ w' r=>rCheckTable_c (S:=S) (fun g hg=>by have:=hS g hg;have:=r.baseLe;omega) hmt (fun hle=>StepsL.keep (ht hle) fun g hg=>(hw.tr r.bel).block g (hS g hg))) ?_)
 rintro ρ wa1 v1 wb1 iv1 r he hw h_ rfl
 clear r
 obtain⟨e,he⟩:∃e,errT t=e:=⟨_,rfl⟩
 rw[he]
 conv=>whnf
 refine BrS.mk (fun hd=>?_) (fun hd=>?_)
 ·have hd:e≠0:=by simpa using hd
  have he2:errLim f.bars.length st t=e:=by rw[errLim,if_neg (by simpa using hlen),if_neg (by rw[hst0];decide),if_pos (by rw[he];exact hd),he]
  conv=>whnf
  intro ρe we re
  exact⟨_,rfl,hw.tr re.bel,.inl ⟨by rw[EE,he2];exact hd,by rw[EE,he2];rfl⟩⟩
 have hd:e=0:=by simpa using hd
 subst hd
 obtain⟨e1,e2⟩:=errT_zero he
 have ht2:=ht e2
 conv=>whnf
 refine⟨Nat×World×Iv,fun z=>⟨[(1,.o (.v (.slice as_ st.length cs))),(2,.o (.v (.slice at_ t.length ct))),(3,.o (.p 0 0)),(10,.o (.v (.int .i64 ((z.1:Nat):Int))))],[(0,.box T.Frame [.v (.slice an f.nodes.length cn),.v (.slice ab f.bars.length cb),.v (.slice aq f.sups.length cq)])],1,z.2.2,z.2.1⟩,fun z=>t.length-z.1,
  fun z=>z.1≤t.length∧Bel w.heap.size w z.2.1∧firstE (fun _=>vaE) [] t=firstE (fun _=>vaE) (t.take z.1) (t.drop z.1),?_,?_⟩
 ·intro ρ w' r3
  exact⟨(0,w',_),⟨Nat.zero_le _,hw.tr r3.bel,rfl⟩,Sub.gen [] r3 ⟨rfl,trivial⟩ ⟨rfl,rfl,rfl,rfl,trivial⟩ (by simp[ScH,Blk.scopd,At.sc]) (by simp[ScE,SV.sc,At.sc,initE]) (by rfl) (fun lo hi h=>h)⟩
 clear hw
 rintro⟨i,w1,iv⟩ ⟨hi,hw,hE⟩
 dsimp only at hi hw hE ⊢
 conv=>whnf
 refine BrS.mk (fun hib=>?_) (fun hib=>?_)
 ·have hib:i<t.length:=by simpa using hib
  obtain⟨q,hq⟩:∃q,t[i]? =some q:=⟨_,List.getElem?_eq_getElem hib⟩
  have hl:=ht2
  obtain⟨adq,csq,haq,hFq,-,hlq⟩:=hl.load (by decide) hq
  obtain⟨b0q,a0q,n0q,c0q,b1q,a1q,n1q,c1q,b2q,a2q,n2q,c2q,b3q,a3q,n3q,c3q,rfl,hAq,hVq⟩:=hFq
  conv=>whnf
  refine drawn_of_pi hτ hmix [.x 0,.x 1,.x 2,.x 3,.x 4,.x 5,.x 6,.x 7,.x 8,.x 9,.x 10,.x 11,.x 12,.x 13,.x 14,.x 15,.x 16] (by kernel_rfl) (by kernel_rfl) ?_
  conv=>whnf
  refine⟨adq,haq,⟨by omega,by omega⟩,?_⟩
  conv=>whnf
  refine⟨[.bool b2q,.slice a2q n2q c2q,.bool b3q,.slice a3q n3q c3q],rfl,fun ρ w' r j u hu=>?_,?_⟩
  ·have hj4:=(List.getElem?_eq_some_iff.1 hu).1
   obtain⟨k1,k2⟩:=hlq (4+j) u (by rcases j with _|_|_|_|j<;>first|exact hu|(have:j+4<4:=hj4;omega))
   rw[cell_of_heap (w:=w) (w2:=w') (by simp only[addB];exact(hw.tr r.bel).block _ (hS _ k1))]
   simp only[Int.toNat_natCast,Int.toNat_zero,Nat.zero_mul,addA]at k2 ⊢
   first|exact k2|(rw [←k2];congr 2;omega)
  conv=>whnf
  refine cE hw (Φ:=fun _ w' v w2=>v= .int .i64 (rs q.2)) (fun ρ w' r=>rSignOfF_c (fun g hg=>by have:=hS g hg;have:=r.baseLe;omega) (hVq.1.keep fun g hg=>(hw.tr r.bel).block g (hS g hg))) ?_
  rintro ρ wa2 v2 wb2 iv2 r he hw h_ rfl
  clear r he
  obtain⟨c1,hc1⟩:∃c,rs q.2=c:=⟨_,rfl⟩
  rw[hc1]
  conv=>whnf
  refine BrS.mk (fun k1=>?_) (fun k1=>?_)
  ·have k1:q.2<0:=by have:=of_decide_eq_true k1;rw[←rs_neg_iff];omega
   have h2:firstE (fun _=>vaE) [] t=2:=by rw[hE];exact firstE_ret hq (show vaE q=2 by rw[vaE,if_pos (.inl k1)]) (by decide)
   have he2:errLim f.bars.length st t=2:=by rw[errLim,if_neg (by simpa using hlen),if_neg (by rw[hst0];decide),if_neg (by rw[he];decide),h2]
   conv=>whnf
   intro ρe we re
   exact⟨_,rfl,hw.tr re.bel,.inl ⟨by rw[EE,he2];decide,by rw[EE,he2];rfl⟩⟩
  have k1:¬q.2<0:=by have:=of_decide_eq_false k1;rw[←rs_neg_iff];omega
  conv=>whnf
  refine⟨adq,haq,⟨by omega,by omega⟩,?_⟩
  conv=>whnf
  refine⟨[.bool b2q,.slice a2q n2q c2q,.bool b3q,.slice a3q n3q c3q],rfl,fun ρ w' r j u hu=>?_,?_⟩
  ·have hj4:=(List.getElem?_eq_some_iff.1 hu).1
   obtain⟨k1,k2⟩:=hlq (4+j) u (by rcases j with _|_|_|_|j<;>first|exact hu|(have:j+4<4:=hj4;omega))
   rw[cell_of_heap (w:=w) (w2:=w') (by simp only[addB];exact(hw.tr r.bel).block _ (hS _ k1))]
   simp only[Int.toNat_natCast,Int.toNat_zero,Nat.zero_mul,addA]at k2 ⊢
   first|exact k2|(rw [←k2];congr 2;omega)
  conv=>whnf
  refine cE hw (Φ:=fun _ w' v w2=>RatC w2 (Nw (fun _=>False) w' w2) v (((1:Int):Rat))) (fun ρ w' r=>rWhole_c 1 w' (by decide)) ?_
  rintro ρ wa3 v3 wb3 iv3 r he hw h_ hn
  have h1:=hn.got (S:=fun _=>False) r.baseLe (mN h_)
  clear r he
  obtain⟨s3_0,s3_1,s3_2,s3_3,s3_4,s3_5,s3_6,s3_7,rfl⟩:=h1.shape
  conv=>whnf
  refine cE hw (Φ:=fun _ w' v w2=>v= .int .i64 (rs (q.2-1))) (fun ρ w' r=>rCmp_c (S:=fun g=>S g∨Cv (fun _=>False) w.heap.size iv3 g) (fun g hg=>hg.elim (fun hg=>by have:=hS g hg;have:=r.baseLe;omega) (Rel.old r (oldF w) g)) (RatL.weak (hVq.1.keep fun g hg=>(hw.tr r.bel).block g (hS g hg)) fun g hg=>.inl hg) (((h1.rel r (oldF w)).l (by decide)).weak fun g hg=>.inr hg)) ?_
  rintro ρ wa4 v4 wb4 iv4 r he hw h_ rfl
  clear h1
  clear r he
  obtain⟨c2,hc2⟩:∃c,rs (q.2-1)=c:=⟨_,rfl⟩
  rw[hc2]
  conv=>whnf
  refine BrS.mk (fun k2=>?_) (fun k2=>?_)
  ·have k2:1<q.2:=by have:=of_decide_eq_true k2;rw[←rs_sub_pos];omega
   have h2:firstE (fun _=>vaE) [] t=2:=by rw[hE];exact firstE_ret hq (show vaE q=2 by rw[vaE,if_pos (.inr k2)]) (by decide)
   have he2:errLim f.bars.length st t=2:=by rw[errLim,if_neg (by simpa using hlen),if_neg (by rw[hst0];decide),if_neg (by rw[he];decide),h2]
   conv=>whnf
   intro ρe we re
   exact⟨_,rfl,hw.tr re.bel,.inl ⟨by rw[EE,he2];decide,by rw[EE,he2];rfl⟩⟩
  have k2:¬1<q.2:=by have:=of_decide_eq_false k2;rw[←rs_sub_pos];omega
  rw[firstE_step hq (show vaE q=0 by rw[vaE,if_neg (by simp[k1,k2])])]at hE
  conv=>whnf
  refine⟨((i+1:Nat):Int),by rw[wrap64]<;>omega,?_⟩
  conv=>whnf
  intro ρ3 w6 r3
  exact⟨(i+1,w6,_),⟨hib,hw.tr r3.bel,hE⟩,Sub.gen [] r3 ⟨rfl,trivial⟩ ⟨rfl,rfl,rfl,rfl,trivial⟩ (by simp[ScH,Blk.scopd,At.sc]) (by simp[ScE,SV.sc,At.sc,initE]) (by rfl) (fun lo hi h=>h),by dsimp only;omega⟩
 have hib:i=t.length:=Nat.le_antisymm hi (by simpa using hib)
 rw[firstE_end (by omega)]at hE
 have heL:errLim f.bars.length st t=0:=by rw[errLim,if_neg (by simpa using hlen),if_neg (by rw[hst0];decide),if_neg (by rw[he];decide),hE]
 clear hib hi hE
 conv=>whnf
 refine⟨Nat×List (List Value)×World×Iv,fun z=>⟨[(1,.o (.v (.slice as_ st.length cs))),(2,.o (.v (.slice at_ t.length ct))),(3,.o (.p 0 0)),(11,.o (.w 1 z.2.1.length)),(12,.o (.v (.int .i64 ((z.1:Nat):Int))))],[(1,.vec T.Range 8 z.2.1.flatten),(0,.box T.Frame [.v (.slice an f.nodes.length cn),.v (.slice ab f.bars.length cb),.v (.slice aq f.sups.length cq)])],2,z.2.2.2,z.2.2.1⟩,fun z=>f.bars.length-z.1,
  fun z=>z.1≤f.bars.length∧Bel w.heap.size w z.2.2.1∧GrowK 8 RngC z.2.2.1 (Cv (fun _=>False) w.heap.size z.2.2.2) z.2.1 (rngTo f st t z.1),?_,?_⟩
 ·intro ρ w' r
  exact⟨(0,[],w',_),⟨Nat.zero_le _,hw.tr r.bel,GrowK.nil⟩,Sub.nil 11 T.Range 8 rfl (by simp[ScE,SV.sc,At.sc,initE]) r fun ρ1 r1=>Sub.gen [] r1 ⟨rfl,rfl,trivial⟩ ⟨rfl,rfl,rfl,rfl,rfl,trivial⟩ (by simp[ScH,Blk.scopd,At.sc]) (by simp[ScE,SV.sc,At.sc,initE]) (by rfl) (fun lo hi h=>h)⟩
 clear hw
 rintro⟨i,css,w1,iv⟩ ⟨hi,hw,hG⟩
 dsimp only at hi hw hG ⊢
 have hfl:=flatk_len hG.wid
 have hcl:css.length=i:=by rw[hG.len,rngTo_len]
 conv=>whnf
 refine BrS.mk (fun hib=>?_) (fun hib=>?_)
 ·have hib:i<f.bars.length:=by simpa using hib
  obtain⟨b,hb⟩:∃b,f.bars[i]? =some b:=⟨_,List.getElem?_eq_getElem hib⟩
  obtain⟨hA,hB⟩:=hok.bar b (List.mem_of_getElem? hb)
  obtain⟨hq1,hq2⟩:=sqF_bd herr (List.mem_of_getElem? hb)
  obtain⟨sq,hsq⟩:=Int.eq_ofNat_of_zero_le (show 0≤sqF f b by omega)
  obtain⟨x,hx⟩:∃x,st[i]? =some x:=⟨_,List.getElem?_eq_getElem (by omega)⟩
  obtain⟨hx1,hx2⟩:0≤x∧x≤1000000:=by
   have h:=firstE_zero hst0 i x hx
   unfold stE at h
   split at h<;>rename_i h2
   ·exact h2
   ·cases h
  obtain⟨sx,rfl⟩:=Int.eq_ofNat_of_zero_le hx1
  obtain⟨adx,hax,hSx,hlx⟩:=ZsR.at hs hx
  have hnx:rngTo f st t (i+1)=rngTo f st t i++[(-(limF sq sx*valF ((sq:Int):Rat) t),limF sq sx)]:=by
   rw[rngTo_succ hb,rngOf,hsq,Int.toNat_natCast,show st.getD i 0=(sx:Int) by rw[List.getD,hx];rfl,Int.toNat_natCast]
  have hrl1:rl (limF sq sx)≤1:=rl_limF (by omega) (by omega)
  have hrl2:rl ((sq:Int):Rat)≤2:=rl_int2 (by omega)
  have hrl3:=valF_rl (x:=((sq:Int):Rat)) (by omega) (StepsL.small ht2) e1
  have hrl4:=rl_mul (limF sq sx) (valF ((sq:Int):Rat) t)
  conv=>whnf
  refine drawn_of_pi hτ hmix [.x 0,.x 1,.x 3,.x 4,.x 5,.x 6,.p 11,.x 2,.x 7,.x 8,.x 9,.x 10,.x 11,.x 12,.x 13] (by kernel_rfl) (by kernel_rfl) ?_
  conv=>whnf
  refine⟨adx,hax,⟨by omega,by omega⟩,?_⟩
  conv=>whnf
  refine⟨.int .i64 (sx:Int),fun ρ w' r=>?_,?_⟩
  ·rw[Int.toNat_natCast,cell_of_heap (w:=w) (w2:=w') (by rw[addB];exact(hw.tr r.bel).block _ (hS _ hSx))]
   exact hlx
  conv=>whnf
  refine cE hw (Φ:=fun _ w' v w2=>v= .int .i64 (sq:Int)) (fun ρ w' r=>(rSquare_c (fun g hg=>by have:=hS g hg;have:=r.baseLe;omega) (hf.keep fun g hg=>(hw.tr r.bel).block g (hS g hg)) herr hb).mono fun _ _ ⟨v2,e1,e2,e3⟩=>⟨v2,e1,e2,by rw[e3,hsq]⟩) ?_
  rintro ρ wa51 v51 wb51 iv51 r he hw h_ rfl
  replace hG:=GrowR.past hG r (oldF w) he (mC h_)
  clear r he
  conv=>whnf
  refine cE hw (Φ:=fun _ w' v w2=>∃r,v= .tuple #[r,.int .i64 0]∧RatC w2 (Nw (fun _=>False) w' w2) r (limF sq sx)) (fun ρ w' r=>(rLimitAll_c sq sx w').mono fun _ _ ⟨v2,e1,e2,e3⟩=>⟨v2,e1,e2,e3.elim (fun h=>absurd ⟨⟨by omega,by omega⟩,by omega,by omega⟩ h.1) fun h=>h.2⟩) ?_
  rintro ρ wa52 v52 wb52 iv52 r he hw h_ ⟨q1,rfl,hn⟩
  replace hG:=GrowR.past hG r (oldF w) he (mC h_)
  have hhigh:=hn.got (S:=fun _=>False) r.baseLe (mN h_)
  clear r he
  clear hn
  obtain⟨s52_0,s52_1,s52_2,s52_3,s52_4,s52_5,s52_6,s52_7,rfl⟩:=hhigh.shape
  conv=>whnf
  refine drawn_of_pi hτ hmix [.x 0,.x 1,.x 2,.x 3,.x 4,.x 10,.x 5,.x 6,.x 7,.x 8,.x 9,.x 11,.x 12,.x 13,.x 14] (by kernel_rfl) (by kernel_rfl) ?_
  conv=>whnf
  refine cE hw (Φ:=fun _ w' v w2=>v= .int .i64 (sq:Int)) (fun ρ w' r=>(rSquare_c (fun g hg=>by have:=hS g hg;have:=r.baseLe;omega) (hf.keep fun g hg=>(hw.tr r.bel).block g (hS g hg)) herr hb).mono fun _ _ ⟨v2,e1,e2,e3⟩=>⟨v2,e1,e2,by rw[e3,hsq]⟩) ?_
  rintro ρ wa53 v53 wb53 iv53 r he hw h_ rfl
  replace hG:=GrowR.past hG r (oldF w) he (mC h_)
  replace hhigh:=hhigh.past r (oldF w) he (mC h_)
  clear r he
  conv=>whnf
  refine cE hw (Φ:=fun _ w' v w2=>RatC w2 (Nw (fun _=>False) w' w2) v (((sq:Int):Rat))) (fun ρ w' r=>rWholeAll_c sq w' (by omega) (by omega)) ?_
  rintro ρ wa54 v54 wb54 iv54 r he hw h_ hn
  replace hG:=GrowR.past hG r (oldF w) he (mC h_)
  replace hhigh:=hhigh.past r (oldF w) he (mC h_)
  have hw1:=hn.got (S:=fun _=>False) r.baseLe (mN h_)
  clear r he
  obtain⟨s54_0,s54_1,s54_2,s54_3,s54_4,s54_5,s54_6,s54_7,rfl⟩:=hw1.shape
  conv=>whnf
  refine cE hw (Φ:=fun _ w' v w2=>RatC w2 (Nw (fun _=>False) w' w2) v (valF ((sq:Int):Rat) t)) (fun ρ w' r=>rInterpolate_c (S:=fun g=>S g∨Cv (fun _=>False) w.heap.size iv54 g) (fun g hg=>hg.elim (fun hg=>by have:=hS g hg;have:=r.baseLe;omega) (Rel.old r (oldF w) g)) (StepsL.weak (StepsL.keep ht2 fun g hg=>(hw.tr r.bel).block g (hS g hg)) fun g hg=>.inl hg) (((hw1.rel r (oldF w)).l (by omega)).weak fun g hg=>.inr hg) (by omega) e1) ?_
  rintro ρ wa55 v55 wb55 iv55 r he hw h_ hn
  replace hG:=GrowR.past hG r (oldF w) he (mC h_)
  replace hhigh:=hhigh.past r (oldF w) he (mC h_)
  clear hw1
  have hv1:=hn.got (S:=fun _=>False) r.baseLe (mN h_)
  clear r he
  obtain⟨s55_0,s55_1,s55_2,s55_3,s55_4,s55_5,s55_6,s55_7,rfl⟩:=hv1.shape
  conv=>whnf
  refine cE hw (Φ:=fun _ w' v w2=>RatC w2 (Nw (fun _=>False) w' w2) v (limF sq sx*valF ((sq:Int):Rat) t)) (fun ρ w' r=>rMul_c (Rel.old r (oldF w)) ((hhigh.rel r (oldF w)).l (by omega)) ((hv1.rel r (oldF w)).l (by omega))) ?_
  rintro ρ wa56 v56 wb56 iv56 r he hw h_ hn
  replace hG:=GrowR.past hG r (oldF w) he (mC h_)
  replace hhigh:=hhigh.past r (oldF w) he (mC h_)
  clear hv1
  have hm1:=hn.got (S:=fun _=>False) r.baseLe (mN h_)
  clear r he
  obtain⟨s56_0,s56_1,s56_2,s56_3,s56_4,s56_5,s56_6,s56_7,rfl⟩:=hm1.shape
  conv=>whnf
  refine cE hw (Φ:=fun _ w' v w2=>RatC w2 (Nw (fun _=>False) w' w2) v (-(limF sq sx*valF ((sq:Int):Rat) t))) (fun ρ w' r=>rNeg_c (Rel.old r (oldF w)) ((hm1.rel r (oldF w)).l (by omega))) ?_
  rintro ρ wa57 v57 wb57 iv57 r he hw h_ hn
  replace hG:=GrowR.past hG r (oldF w) he (mC h_)
  replace hhigh:=hhigh.past r (oldF w) he (mC h_)
  clear hm1
  have hlow:=hn.got (S:=fun _=>False) r.baseLe (mN h_)
  clear r he
  obtain⟨s57_0,s57_1,s57_2,s57_3,s57_4,s57_5,s57_6,s57_7,rfl⟩:=hlow.shape
  conv=>whnf
  have hG2:=hG.push (cs:=[.bool s57_0,.slice s57_1 s57_2 s57_3,.bool s57_4,.slice s57_5 s57_6 s57_7,.bool s52_0,.slice s52_1 s52_2 s52_3,.bool s52_4,.slice s52_5 s52_6 s52_7]) (q:=(-(limF sq sx*valF ((sq:Int):Rat) t),limF sq sx)) ⟨_,_,_,_,_,_,_,_,_,_,_,_,_,_,_,_,rfl,hlow,hhigh⟩ rfl
  rw[←hnx]at hG2
  have hfl2:css.flatten++([.bool s57_0,.slice s57_1 s57_2 s57_3,.bool s57_4,.slice s57_5 s57_6 s57_7,.bool s52_0,.slice s52_1 s52_2 s52_3,.bool s52_4,.slice s52_5 s52_6 s52_7]:List Value)=(css++([[.bool s57_0,.slice s57_1 s57_2 s57_3,.bool s57_4,.slice s57_5 s57_6 s57_7,.bool s52_0,.slice s52_1 s52_2 s52_3,.bool s52_4,.slice s52_5 s52_6 s52_7]]:List (List Value))).flatten:=by simp
  refine .inl ?_
  conv=>whnf
  refine⟨by omega,by omega,by unfold maxLen;omega,?_⟩
  conv=>whnf
  refine⟨((i+1:Nat):Int),by rw[wrap64]<;>omega,?_⟩
  conv=>whnf
  intro ρ3 w3 r3
  exact⟨(i+1,css++[[.bool s57_0,.slice s57_1 s57_2 s57_3,.bool s57_4,.slice s57_5 s57_6 s57_7,.bool s52_0,.slice s52_1 s52_2 s52_3,.bool s52_4,.slice s52_5 s52_6 s52_7]],w3,_),⟨hib,hw.tr r3.bel,GrowR.rel hG2 r3 (oldF w)⟩,Sub.gen [(1,4)] r3 ⟨by dsimp only;rw[←hfl2];rfl,rfl,trivial⟩ ⟨rfl,rfl,rfl,by dsimp only;rw[List.length_append,List.length_singleton];rfl,rfl,trivial⟩ (by simp[ScH,Blk.scopd,At.sc]) (by simp[ScE,SV.sc,At.sc,initE]) (by rfl) (fun lo hi h=>h),by dsimp only;omega⟩
 have hib:i=f.bars.length:=Nat.le_antisymm hi (by simpa using hib)
 subst hib
 conv=>whnf
 intro ρe we re
 have h5:=re.vecSeq (id:=1) (sz:=8) (m:=css.length) rfl hfl (by unfold maxLen;omega) (by decide) (hG.one fun cs q h=>h.one)
 exact⟨_,rfl,hw.tr re.bel,.inr ⟨by rw[EE,heL],_,rfl,GrowK.list ((GrowR.rel hG re (oldF w)).map fun cs q h=>h.weak fun g hg=>Cv.nw hg re) (h5.weak fun g hg=>.inr hg)⟩⟩
end Go.Ex
