/- A part of the proof: texts X42 to X45. Each tells its conditions in its theorems. -/
import Derived.Test.YtneljlhlncjkhaaGreatDoorP3
import Derived.Test.YtneljlhlncjkhaaGreatDoorP7
import Derived.Test.YtneljlhlncjkhaaGreatDoorP8
/- Solving a system in memory. No condition but sizes. -/
namespace Go.Ex
open Go Go.Sx Go.Proofs

abbrev valsM(M:List (List (Int×Int))):List (List Rat):=M.map fun r=>r.map ratioP
def unitL(R i:Nat):List Rat:=(List.replicate R 0).set i 1
/-- beside the matrix the right side and the unit matrix -/
def allF(M:List (List Rat))(b:List Rat):List (List Rat):=M.mapIdx fun i r=>r++b.getD i 0::unitL M.length i
def xvecTo(A:List (List Rat))(pv:List Nat)(cols i:Nat):List Rat:=(List.range i).foldl (fun x i=>x.set (pv.getD i 0) (at2 A i cols)) (List.replicate cols 0)
theorem xvecTo_succ(A:List (List Rat))(pv:List Nat)(cols i:Nat):xvecTo A pv cols (i+1)=(xvecTo A pv cols i).set (pv.getD i 0) (at2 A i cols):=by
 rw[xvecTo,List.range_succ,List.foldl_append];rfl
theorem allF_length(M:List (List Rat))(b:List Rat):(allF M b).length=M.length:=by simp[allF]
theorem allF_at{M:List (List Rat)}{b:List Rat}{i:Nat}{r:List Rat}(h:M[i]? =some r):(allF M b)[i]? =some (r++b.getD i 0::unitL M.length i):=by simp[allF,h]
theorem RowX.lim{S:Nat→Prop}{H:Hp}{nx n:Nat}{iv:Iv}{B:Nat}{w w' w2:World}{ρ:Nat→Sx.Val}{v:Value}{qs:List Rat}{rv:List Value}(hx:RowX w2 (fun _=>False) w'.heap.size [(w'.heap.size,w2.heap.size)] v n qs)(r:Rel H nx iv B w ρ w')(hrv:∀u∈rv,∀g,u.ownBlock=some g→Cv S B iv g)(hS:∀g,S g→g<B):
  RowW w2 (fun g=>(Cv (fun _=>False) B ((w'.heap.size,w2.heap.size)::iv) g∧¬ ∃u∈rv,u.ownBlock=some g)∧v.ownBlock≠some g) v n qs∧∀g,v.ownBlock=some g→Cv (fun _=>False) B ((w'.heap.size,w2.heap.size)::iv) g∧w'.heap.size≤g:=by
 have key:∀g,Cv (fun _=>False) w'.heap.size [(w'.heap.size,w2.heap.size)] g→w'.heap.size≤g∧g<w2.heap.size:=fun g hg=>by
  rcases hg with hg|⟨h1,lo,hi,h2,h3,h4⟩
  ·exact hg.elim
  ·simp at h2
   obtain⟨rfl,rfl⟩:=h2
   exact⟨h3,h4⟩
 have hB:=r.baseLe
 have hin:∀g,w'.heap.size≤g∧g<w2.heap.size→Cv (fun _=>False) B ((w'.heap.size,w2.heap.size)::iv) g:=fun g hg=>.inr ⟨by omega,_,_,List.mem_cons_self,hg.1,hg.2⟩
 refine⟨hx.row.weak fun g hg=>⟨⟨hin g (key g hg.1),fun⟨u,hu,e⟩=>?_⟩,hg.2⟩,fun g hg=>⟨hin g (key g (hx.new g hg)),(key g (hx.new g hg)).1⟩⟩
 have:=Rel.old r hS g (hrv u hu g e)
 have:=(key g hg.1).1
 omega

/-- a row that is being written, beside rows that are done -/
structure UnitW(w:World)(B:Nat)(iv:Iv)(rv:List Value)(v:Value)(n:Nat)(qs:List Rat):Prop where
 row:RowW w (fun g=>(Cv (fun _=>False) B iv g∧¬ ∃u∈rv,u.ownBlock=some g)∧v.ownBlock≠some g) v n qs
 blk:∀g,v.ownBlock=some g→Cv (fun _=>False) B iv g
section
variable{H:Hp}{nx n:Nat}{iv iv':Iv}{B:Nat}{w w' w2:World}{ρ:Nat→Sx.Val}{v:Value}{qs:List Rat}{rv:List Value}
theorem UnitW.keep(h:UnitW w B iv rv v n qs)(hk:∀g,Cv (fun _=>False) B iv g→w2.heap[g]? =w.heap[g]?):UnitW w2 B iv rv v n qs:=
 ⟨h.row.keep fun g hg=>hk g (hg.elim (fun h=>h.1.1) (h.blk g)),h.blk⟩
theorem UnitW.rel(h:UnitW w B iv rv v n qs)(r:Rel H nx iv B w ρ w'):UnitW w' B iv rv v n qs:=h.keep fun _ hg=>Rel.same r (oldF' B) hg
theorem UnitW.past(h:UnitW w B iv rv v n qs)(r:Rel H nx iv B w ρ w')(he:Ext w' w2)(hm:∀p,p∈iv→p∈iv'):UnitW w2 B iv' rv v n qs:=
 have h2:=(h.rel r).keep fun g hg=>he.block g (Rel.old r (oldF' B) g hg)
 ⟨h2.row.weak fun _ hg=>⟨⟨hg.1.1.mono hm,hg.1.2⟩,hg.2⟩,fun g hg=>(h2.blk g hg).mono hm⟩
/-- what a call has made lies outside rows that were there -/
theorem FracR.lim{q:Rat}{u:Value}(h:FracR w2 (Nw (fun _=>False) w' w2) u q)(r:Rel H nx iv B w ρ w')(hrv:∀u∈rv,∀g,u.ownBlock=some g→Cv (fun _=>False) B iv g):
  FracR w2 (fun g=>Cv (fun _=>False) B ((w'.heap.size,w2.heap.size)::iv) g∧¬ ∃u∈rv,u.ownBlock=some g) u q:=
 h.weak fun g hg=>by
  rcases hg with hg|hg
  ·exact hg.elim
  ·refine⟨.inr ⟨by have:=r.baseLe;omega,_,_,List.mem_cons_self,hg.1,hg.2⟩,fun⟨u,hu,e⟩=>?_⟩
   have:=Rel.old r (oldF' B) g (hrv u hu g e)
   omega
end
theorem concat3_c{C S:Nat→Prop}{w:World}{va u x:Value}{g2:Nat}{b b2:Bool}{a a2:Option Addr}{m c m2 c2:Nat}{rs xs:List Rat}{q:Rat}(hC:Old C w)(hS:Old S w)
  (ha:SeqR w C 1 va [u,.slice (some ⟨g2,0,none⟩) 1 1,x] 3) (hb:SeqR w C 4 (.slice (some ⟨g2,0,none⟩) 1 1) [.bool b,.slice a m c,.bool b2,.slice a2 m2 c2] 1) (hr:RowR w C S u rs) (hx:RowR w C S x xs)
  (hq:FracR w S (.agg #[.bool b,.slice a m c,.bool b2,.slice a2 m2 c2]) q) (hl:rs.length+1+xs.length≤1000000):
  Con PG N.slices_Concat_of_exact_row_exact_fraction_of #[va] w (Ret w fun v w2=>RowW w2 S v (rs.length+1+xs.length) (rs++q::xs)∧∀g,v.ownBlock=some g→w.heap.size≤g∧g<w2.heap.size):=by
 obtain⟨c1,s1,f1⟩:=hr
 obtain⟨c2',s2,f2⟩:=hx
 refine(concatR_c (parts:=[(u,c1.flatten,rs.length),(.slice (some ⟨g2,0,none⟩) 1 1,[.bool b,.slice a m c,.bool b2,.slice a2 m2 c2],1),(x,c2'.flatten,xs.length)]) hC ha ?_ (by simp[nsum];omega)).mono fun e w2 ⟨v,e1,e2,e3⟩=>⟨v,e1,e2,?_,fun g hg=>?_⟩
 ·intro p hp
  simp only[List.mem_cons,List.not_mem_nil,or_false]at hp
  rcases hp with rfl|rfl|rfl
  ·exact s1
  ·exact hb
  ·exact s2
 ·have hn:nsum [(u,c1.flatten,rs.length),(Value.slice (some ⟨g2,0,none⟩) 1 1,[Value.bool b,.slice a m c,.bool b2,.slice a2 m2 c2],1),(x,c2'.flatten,xs.length)]=rs.length+1+xs.length:=by simp[nsum];omega
  rw[hn]at e3
  have hfl:List.flatMap (fun x=>x.2.1) [(u,c1.flatten,rs.length),(Value.slice (some ⟨g2,0,none⟩) 1 1,[Value.bool b,.slice a m c,.bool b2,.slice a2 m2 c2],1),(x,c2'.flatten,xs.length)]=(c1++[Value.bool b,.slice a m c,.bool b2,.slice a2 m2 c2]::c2').flatten:=by simp
  rw[hfl]at e3
  refine⟨_,⟨e3.1,e3.2.imp id fun⟨g,cap,cur,k1,_,k3⟩=>⟨g,cap,cur,k1,Nat.zero_le _,k3⟩⟩,by simp[f1.1,f2.1];omega,?_⟩
  have hk:∀g,S g→w2.heap[g]? =w.heap[g]? :=fun g hg=>e2.block g (hS g hg)
  refine⟨by simp[f1.1,f2.1],fun j cs p h1 h2=>?_⟩
  rcases Nat.lt_trichotomy j c1.length with hj|hj|hj
  ·rw[List.getElem?_append_left hj]at h1
   rw[List.getElem?_append_left (by rw[←f1.1];exact hj)]at h2
   exact(f1.2 j cs p h1 h2).keep hk
  ·subst hj
   rw[List.getElem?_append_right (Nat.le_refl _),Nat.sub_self]at h1
   rw[f1.1,List.getElem?_append_right (Nat.le_refl _),Nat.sub_self]at h2
   simp at h1 h2
   subst h1 h2
   exact(hq.keep hk).four
  ·rw[List.getElem?_append_right (by omega)]at h1
   rw[List.getElem?_append_right (by rw[←f1.1];omega),←f1.1]at h2
   obtain⟨k,hk2⟩:∃k,j-c1.length=k+1:=⟨j-c1.length-1,by omega⟩
   rw[hk2]at h1 h2
   simp at h1 h2
   exact(f2.2 k cs p h1 h2).keep hk
 ·have:=ownsRow.low e3 g hg
  exact this

theorem solve_c{S:Nat→Prop}{w:World}{v u:Value}{M:List (List (Int×Int))}{b:List (Int×Int)}{h0:Nat}(hS:Old S w)(h:RatMR w S v M)(hu:RatsR w S u b)(hf:∀r∈M,Few r)(hfb:Few b)(hrow:∀r∈M,r.length=colsM M)(hbl:b.length=M.length)
  (hn:colsM M≤1000) (hR:M.length≤1000) (hht:Ht (allF (valsM M) (b.map ratioP)) h0) (h2:2≤h0) (hbd:4^M.length*h0≤500000000):
  Con PG N.exact_solve #[v,u] w (Ret w fun v' w2=>∃A pv,(A,pv)=reduceF (allF (valsM M) (b.map ratioP)) (colsM M)∧
   ((∃j vp,pv.length≤j∧j<M.length∧at2 A j (colsM M)≠0∧(∀k,pv.length≤k→k<j→at2 A k (colsM M)=0)∧v'= .agg #[vp,.slice none 0 0,.slice none 0 0]∧(∃a n c,vp= .slice (some a) n c)∧
     RowR w2 (Nw (fun _=>False) w w2) (Nw (fun _=>False) w w2) vp (((A.getD j []).drop (colsM M+1)).map (· *(1 / at2 A j (colsM M)))))∨
    (∃vx vk,(∀k,pv.length≤k→k<M.length→at2 A k (colsM M)=0)∧v'= .agg #[.slice none 0 0,vx,vk]∧RowR w2 (Nw (fun _=>False) w w2) (Nw (fun _=>False) w w2) vx (xvecTo A pv (colsM M) pv.length)∧
     MatR w2 (Nw (fun _=>False) w w2) vk (kernelTo A pv (colsM M) (colsM M))))):=by
 replace h:=RatMR.arg h []
 replace hu:=RatsR.arg hu []
 obtain⟨am,cm,rfl,hcm,-⟩:=SlicesR.shape h
 obtain⟨ab,cb,rfl,hcb,-⟩:=ListR.shape hu
 obtain⟨cols,hcols⟩:∃c,c=colsM M:=⟨_,rfl⟩
 rw[←hcols]at hrow hn ⊢
 refine in_exact_solve (by simp) ?_
 conv=>whnf
 refine callE_S (callE_con (Φ:=fun _ _ v _=>v= .int .i64 cols) (fun ρ w' r=>by rw[hcols];exact columns_c (Rel.old r hS) (RatMR.rel h r hS)) ?_)
 rintro ρ wa v1 wb r he hw rfl
 replace h:=RatMR.past (iv':=(wa.heap.size,wb.heap.size)::[]) h r hS he fun x hx=>List.mem_cons_of_mem _ hx
 replace hu:=RatsR.past (iv':=(wa.heap.size,wb.heap.size)::[]) hu r hS he fun x hx=>List.mem_cons_of_mem _ hx
 clear r he
 generalize (wa.heap.size,wb.heap.size)::[]=iv at*
 conv=>whnf
 refine⟨M.length,M.length,rfl,rfl,Nat.le_refl _,by omega,by omega,?_⟩
 conv=>whnf
 refine callE_S (callE_con (Φ:=fun _ w' v w2=>MatX w2 (fun _=>False) w'.heap.size [(w'.heap.size,w2.heap.size)] v cols (valsM M)) (fun ρ w' r=>matrix_c (Rel.old r hS) (RatMR.rel h r hS) hf hrow (by omega) (by omega)) ?_)
 rintro ρ wc v1 wd r he hb hX
 have hXm:=(hX.got (S:=fun _=>False) (iv:=(wc.heap.size,wd.heap.size)::iv) r.baseLe List.mem_cons_self).read
 replace h:=RatMR.past (iv':=(wc.heap.size,wd.heap.size)::iv) h r hS he fun x hx=>List.mem_cons_of_mem _ hx
 replace hu:=RatsR.past (iv':=(wc.heap.size,wd.heap.size)::iv) hu r hS he fun x hx=>List.mem_cons_of_mem _ hx
 replace hw:=hw.tr hb
 clear r he hb hX
 generalize (wc.heap.size,wd.heap.size)::iv=ivM at*
 obtain⟨at_,ct,rfl,hct,-⟩:=SlicesR.shape hXm
 rw[List.length_map]at hct hXm ⊢
 conv=>whnf
 refine⟨List Value×Iv×World,fun z=>⟨[(0,.o (.v (.slice am M.length cm))),(1,.o (.v (.slice ab b.length cb))),(4,.o (.p 0 0)),(5,.o (.v (.int .i64 cols))),(6,.o (.s 1 0 M.length M.length)),(23,.o (.v (.slice at_ M.length ct))),(24,.o (.v (.int .i64 M.length))),(25,.o (.v (.int .i64 z.1.length)))],
   [(1,.arr T.row (z.1++List.replicate (M.length-z.1.length) (.slice none 0 0))),(0,.box T.solved [.v (.slice none 0 0),.v (.slice none 0 0),.v (.slice none 0 0)])],2,z.2.1,z.2.2⟩,fun z=>M.length-z.1.length,
  fun z=>z.1.length≤M.length∧Bel w.heap.size w z.2.2∧(∀p,p∈ivM→p∈z.2.1)∧RatMR z.2.2 (Cv S w.heap.size ivM) (.slice am M.length cm) M∧RatsR z.2.2 (Cv S w.heap.size ivM) (.slice ab b.length cb) b∧
   MatR z.2.2 (Cv (fun _=>False) w.heap.size ivM) (.slice at_ M.length ct) (valsM M)∧
   RowsX z.2.2 (fun _=>False) w.heap.size z.2.1 z.1 (cols+1+M.length) ((allF (valsM M) (b.map ratioP)).take z.1.length)∧(∀u∈z.1,u.oneCell'=true)∧(∀u∈z.1,∀g,u.ownBlock=some g→¬Cv (fun _=>False) w.heap.size ivM g),?_,?_⟩
 ·intro ρ w' r
  exact⟨([],ivM,w'),⟨by simp,hw.tr r.bel,fun p hp=>hp,RatMR.rel h r hS,RatsR.rel hu r hS,MatR.rel hXm r (oldF w),by simpa using RowsX.nil _ _ _ _ _,by simp,by simp⟩,
   Sub.gen [] r ⟨rfl,rfl,trivial⟩ ⟨rfl,rfl,rfl,rfl,rfl,rfl,rfl,rfl,trivial⟩ (by simp[ScH,Blk.scopd,At.sc]) (by simp[ScE,SV.sc,At.sc]) (by rfl) (fun lo hi h=>h)⟩
 clear h hu hXm hw
 rintro⟨rv,iv1,w1⟩ ⟨hrl,hw,hsub,h,hu,hXm,hRows,h1c,hrvM⟩
 dsimp only at hrl hw hsub h hu hXm hRows h1c hrvM ⊢
 have hlA:(allF (valsM M) (b.map ratioP)).length=M.length:=by rw[allF_length,List.length_map]
 conv=>whnf
 refine BrS.mk (fun hi=>?_) (fun hi=>?_)
 ·have hi:rv.length<M.length:=by simpa using hi
  obtain⟨mr,hmr⟩:∃x,M[rv.length]? =some x:=⟨_,List.getElem?_eq_getElem hi⟩
  obtain⟨bx,hbx⟩:∃x,b[rv.length]? =some x:=⟨_,List.getElem?_eq_getElem (by omega)⟩
  have hmrl:=hrow mr (List.mem_of_getElem? hmr)
  obtain⟨ad,ur,rfl,hRr,kt1,kt2⟩:=SlicesR.load hXm (j:=rv.length) (x:=mr.map ratioP) (by rw[List.getElem?_map,hmr];rfl)
  obtain⟨au,cu,hue⟩:=SlicesR.rowOf hRr
  rw[List.length_map,hmrl]at hue
  subst hue
  have hsame:∀{H nx iv ρ wx w'},(∀p,p∈ivM→p∈iv)→Rel H nx iv w.heap.size wx ρ w'→∀{X:Nat→Prop},(∀g,X g→g<w.heap.size)→∀g,Cv X w.heap.size ivM g→w'.heap[g]? =wx.heap[g]? :=by
   intro H nx iv ρ wx w' hm r X hX g hg
   exact Rel.same r hX (hg.mono hm)
  conv=>whnf
  refine⟨ad,rfl,⟨by omega,by omega⟩,?_⟩
  conv=>whnf
  refine⟨.slice au cols cu,fun ρ w' r=>?_,?_⟩
  ·rw[Int.toNat_natCast,cell_of_heap (w:=w1) (w2:=w') (by rw[addB];exact hsame hsub r (oldF w) _ kt1)]
   exact kt2
  conv=>whnf
  refine callE_S (callE_con (Φ:=fun _ w' v w2=>RowX w2 (fun _=>False) w'.heap.size [(w'.heap.size,w2.heap.size)] v M.length (List.replicate M.length 0)) (fun ρ w' r=>zeros_c M.length w' (by omega)) ?_)
  rintro ρ wa vx wb r he hb hx
  have hU0:=hx.lim (rv:=rv) r (fun u hu g hg=>cvF (hRows.new u hu g hg)) (oldF w)
  have hU:UnitW wb w.heap.size ((wa.heap.size,wb.heap.size)::iv1) rv vx M.length (List.replicate M.length 0):=⟨hU0.1,fun g hg=>(hU0.2 g hg).1⟩
  have hold1:∀g,Cv (fun _=>False) w.heap.size ivM g→g<wa.heap.size:=fun g hg=>Rel.old r (oldF w) g (hg.mono hsub)
  have hgxr:∀g,vx.ownBlock=some g→∀u∈rv,u.ownBlock≠some g:=fun g hg u hu e=>by have:=Rel.old r (oldF w) g (hRows.new u hu g e);have:=(hU0.2 g hg).2;omega
  have hvxM:∀g,vx.ownBlock=some g→¬Cv (fun _=>False) w.heap.size ivM g:=fun g hg h=>by have:=hold1 g h;have:=(hU0.2 g hg).2;omega
  replace h:=RatMR.keep h fun g hg=>by rw[he.block g (Rel.old r hS g (hg.mono hsub)),hsame hsub r hS g hg]
  replace hu:=RatsR.keep hu fun g hg=>by rw[he.block g (Rel.old r hS g (hg.mono hsub)),hsame hsub r hS g hg]
  replace hXm:=MatR.keep hXm fun g hg=>by rw[he.block g (Rel.old r (oldF w) g (hg.mono hsub)),hsame hsub r (oldF w) g hg]
  replace hRr:=hRr.keep fun g hg=>by rw[he.block g (Rel.old r (oldF w) g ((hg.elim id id).mono hsub)),hsame hsub r (oldF w) g (hg.elim id id)]
  have hvx1:∀g,vx.ownBlock=some g→¬Cv (fun _=>False) w.heap.size iv1 g:=fun g hg h=>by have:=Rel.old r (oldF w) g h;have:=(hU0.2 g hg).2;omega
  replace hRows:=hRows.keep fun g hg=>by rw[he.block g (Rel.old r (oldF w) g hg),Rel.same r (oldF w) hg]
  have hsub1:∀p,p∈iv1→p∈(wa.heap.size,wb.heap.size)::iv1:=fun p hp=>List.mem_cons_of_mem _ hp
  replace hw:=hw.tr hb
  replace hsub:∀p,p∈ivM→p∈(wa.heap.size,wb.heap.size)::iv1:=fun p hp=>List.mem_cons_of_mem _ (hsub p hp)
  clear r he hb hx hU0 hold1
  generalize (wa.heap.size,wb.heap.size)::iv1=iv2 at*
  obtain⟨ax,cx,rfl,-⟩:=hU.row.form
  conv=>whnf
  refine callE_S (callE_con (Φ:=fun _ w' v w2=>FracR w2 (Nw (fun _=>False) w' w2) v ((1:Int):Rat)) (fun ρ w' r=>whole_c 1 w' (by decide) (by decide)) ?_)
  rintro ρ wa v1 wb r he hb hO
  have hON:=(hO.lim (rv:=rv) r fun u hu g hg=>(hRows.new u hu g hg).mono hsub1)
  have hONx:FracR wb (fun g=>(Cv (fun _=>False) w.heap.size ((wa.heap.size,wb.heap.size)::iv2) g∧¬ ∃u∈rv,u.ownBlock=some g)∧(Value.slice ax M.length cx).ownBlock≠some g) v1 ((1:Int):Rat):=by
   have h1:=hO.apart (S':=fun _=>False) (iv:=iv2) (v:=Value.slice ax M.length cx) (fun g hg=>⟨Rel.old r (oldF w) g (hU.blk g hg),fun h=>h⟩) r.baseLe fun g hg=>hg
   obtain⟨nv,dv,h3,h4,h5⟩:=hON
   obtain⟨nv',dv',h3',h4',h5'⟩:=hO
   rw[h3]at h3'
   injection h3' with h3'
   simp at h3'
   obtain⟨rfl,rfl⟩:=h3'
   have hap:∀g,Nw (fun _=>False) wa wb g→((Cv (fun _=>False) w.heap.size ((wa.heap.size,wb.heap.size)::iv2) g∧¬ ∃u∈rv,u.ownBlock=some g)∧(Value.slice ax M.length cx).ownBlock≠some g):=fun g hg=>by
    rcases hg with hg|hg
    ·exact hg.elim
    ·refine⟨⟨.inr ⟨by have:=r.baseLe;omega,_,_,List.mem_cons_self,hg.1,hg.2⟩,fun⟨u,hu,e⟩=>?_⟩,fun e=>?_⟩
     ·have:=Rel.old r (oldF w) g ((hRows.new u hu g e).mono hsub1);omega
     ·have:=Rel.old r (oldF w) g (hU.blk g e);omega
   exact⟨nv,dv,h3,h4'.weak hap,h5'.weak hap⟩
  replace h:=RatMR.keep h fun g hg=>by rw[he.block g (Rel.old r hS g (hg.mono hsub)),hsame hsub r hS g hg]
  replace hu:=RatsR.keep hu fun g hg=>by rw[he.block g (Rel.old r hS g (hg.mono hsub)),hsame hsub r hS g hg]
  replace hXm:=MatR.keep hXm fun g hg=>by rw[he.block g (Rel.old r (oldF w) g (hg.mono hsub)),hsame hsub r (oldF w) g hg]
  replace hRr:=hRr.keep fun g hg=>by rw[he.block g (Rel.old r (oldF w) g ((hg.elim id id).mono hsub)),hsame hsub r (oldF w) g (hg.elim id id)]
  replace hRows:=hRows.keep fun g hg=>by rw[he.block g (Rel.old r (oldF w) g (hg.mono hsub1)),Rel.same r (oldF w) (hg.mono hsub1)]
  replace hsub1:∀p,p∈iv1→p∈(wa.heap.size,wb.heap.size)::iv2:=fun p hp=>List.mem_cons_of_mem _ (hsub1 p hp)
  replace hU:=hU.past (iv':=(wa.heap.size,wb.heap.size)::iv2) r he fun x hx=>List.mem_cons_of_mem _ hx
  replace hw:=hw.tr hb
  replace hsub:∀p,p∈ivM→p∈(wa.heap.size,wb.heap.size)::iv2:=fun p hp=>List.mem_cons_of_mem _ (hsub p hp)
  clear r he hb hO hON
  generalize (wa.heap.size,wb.heap.size)::iv2=iv3 at*
  obtain⟨b1,a1,n1,c1,b2,a2,n2,c2,rfl⟩:=hONx.shape
  have hone:(((1:Int):Rat))=1:=rfl
  rw[hone]at hONx
  conv=>whnf
  have hgx:∃g,ax=some ⟨g,0,none⟩:=by
   obtain⟨css,ho,_⟩:=hU.row
   rcases ho.2 with⟨_,h0⟩|⟨g,cap,cur,e,_⟩
   ·omega
   ·injection e with e;exact⟨g,e⟩
  obtain⟨gx,rfl⟩:=hgx
  refine⟨⟨gx,0,none⟩,rfl,⟨by omega,by omega⟩,?_⟩
  conv=>whnf
  intro ρ w' r
  have hUr:=hU.rel r
  obtain⟨g',hgx,k1,k2,k3,k4⟩:=hUr.row.store hi (FracR.keep hONx fun g hg=>Rel.same r (oldF w) hg.1.1) (fun g hg hx=>hx.2 hg) (fun x hx=>Rel.old r (oldF w) x hx.1.1)
  injection hgx with hgx
  injection hgx with hgx
  subst hgx
  have hgxc:=hU.blk gx rfl
  have hnot:=fun id b hb hn=>Rel.not r (oldF w) hgxc id b hb hn
  have holdw:∀{X:Nat→Prop},(∀g,X g→g<w.heap.size)→∀g,Cv X w.heap.size iv3 g→g<w'.heap.size:=by
   intro X hX g hg
   exact Rel.old r hX g hg
  replace h:=RatMR.keep h fun g hg=>hsame hsub r hS g hg
  replace hu:=RatsR.keep hu fun g hg=>hsame hsub r hS g hg
  replace hXm:=MatR.keep hXm fun g hg=>hsame hsub r (oldF w) g hg
  replace hRr:=hRr.keep fun g hg=>hsame hsub r (oldF w) g (hg.elim id id)
  replace hRows:=hRows.keep fun g hg=>Rel.same r (oldF w) (hg.mono hsub1)
  replace hw:=hw.tr r.bel
  have hgxB:w.heap.size≤gx:=by
   rcases hgxc with h|⟨h,_⟩
   ·exact h.elim
   ·exact h
  have hgxrv:∀u∈rv,u.ownBlock≠some gx:=hgxr gx rfl
  clear r hUr hU hONx
  refine⟨k1,k3,fun id b hb hn=>by rw[k2];exact hnot id b hb hn,fun w2 hw2=>?_⟩
  obtain⟨hU1,hgr,-⟩:=k4 w2 hw2
  have hU:UnitW w2 w.heap.size iv3 rv (.slice (some ⟨gx,0,none⟩) M.length cx) M.length (unitL M.length rv.length):=⟨hU1,fun g hg=>by injection hg with hg;subst hg;exact hgxc⟩
  have hsm:∀g,g<w'.heap.size→g≠gx→w2.heap[g]? =w'.heap[g]? :=fun g hg hne=>hgr.block g hg fun e=>by injection e with e;exact hne e
  replace h:=RatMR.keep h fun g hg=>hsm g (holdw hS g (hg.mono hsub)) fun e=>by
   subst e
   rcases hg with hg|⟨q1,lo,hi',q2,q3⟩
   ·have:=hS g hg;omega
   ·exact hvxM g rfl (.inr ⟨q1,lo,hi',q2,q3⟩)
  replace hu:=RatsR.keep hu fun g hg=>hsm g (holdw hS g (hg.mono hsub)) fun e=>by
   subst e
   rcases hg with hg|⟨q1,lo,hi',q2,q3⟩
   ·have:=hS g hg;omega
   ·exact hvxM g rfl (.inr ⟨q1,lo,hi',q2,q3⟩)
  replace hXm:=MatR.keep hXm fun g hg=>hsm g (holdw (oldF w) g (hg.mono hsub)) fun e=>by subst e;exact hvxM g rfl hg
  replace hRr:=hRr.keep fun g hg=>hsm g (holdw (oldF w) g ((hg.elim id id).mono hsub)) fun e=>by subst e;exact hvxM g rfl (hg.elim id id)
  replace hRows:=hRows.keep fun g hg=>hsm g (holdw (oldF w) g (hg.mono hsub1)) fun e=>by subst e;exact hvx1 g rfl hg
  replace hw:Bel w.heap.size w w2:=hw.tr (Bel.grown hgr (fun g hg=>by injection hg with hg;subst hg;exact hgxB) (by have:=hw.size;omega))
  clear k1 k2 k3 k4 hU1 hgr hsm hnot hw2 holdw
  obtain⟨adb,csb,rfl,hRb,-,hlb⟩:=ListR.load hu hbx
  obtain⟨b3,a3,n3,c3,b4,a4,n4,c4,rfl,hRb⟩:=hRb
  obtain⟨fb1,fb2⟩:=hfb bx (List.mem_of_getElem? hbx)
  conv=>whnf
  refine⟨adb,rfl,⟨by omega,by omega⟩,?_⟩
  conv=>whnf
  refine⟨[.bool b3,.slice a3 n3 c3,.bool b4,.slice a4 n4 c4],rfl,fun ρ w' r j x hx=>?_,?_⟩
  ·obtain⟨q1,q2⟩:=hlb j x hx
   rw[Int.toNat_natCast,cell_of_heap (w:=w2) (w2:=w') (by rw[addB,addB];exact hsame hsub r hS _ q1)]
   exact q2
  conv=>whnf
  refine callE_S (callE_con (Φ:=fun _ w' v w2=>FracR w2 (Nw (fun _=>False) w' w2) v (ratioP bx)) (fun ρ w' r=>value_c (Rel.old r hS) (RatR.keep (RatR.weak hRb fun g hg=>hg.mono hsub) fun g hg=>Rel.same r hS hg) (by omega) (by omega)) ?_)
  rintro ρ wa v1 wb4 r he hb hO
  have hQ:=(hO.lim (rv:=rv) r fun u hu g hg=>(hRows.new u hu g hg).mono hsub1)
  replace h:=RatMR.keep h fun g hg=>by rw[he.block g (Rel.old r hS g (hg.mono hsub)),hsame hsub r hS g hg]
  replace hu:=RatsR.keep hu fun g hg=>by rw[he.block g (Rel.old r hS g (hg.mono hsub)),hsame hsub r hS g hg]
  replace hXm:=MatR.keep hXm fun g hg=>by rw[he.block g (Rel.old r (oldF w) g (hg.mono hsub)),hsame hsub r (oldF w) g hg]
  replace hRr:=hRr.keep fun g hg=>by rw[he.block g (Rel.old r (oldF w) g ((hg.elim id id).mono hsub)),hsame hsub r (oldF w) g (hg.elim id id)]
  replace hRows:=hRows.keep fun g hg=>by rw[he.block g (Rel.old r (oldF w) g (hg.mono hsub1)),Rel.same r (oldF w) (hg.mono hsub1)]
  replace hU:=hU.past (iv':=(wa.heap.size,wb4.heap.size)::iv3) r he fun x hx=>List.mem_cons_of_mem _ hx
  replace hw:=hw.tr hb
  replace hsub:∀p,p∈ivM→p∈(wa.heap.size,wb4.heap.size)::iv3:=fun p hp=>List.mem_cons_of_mem _ (hsub p hp)
  replace hsub1:∀p,p∈iv1→p∈(wa.heap.size,wb4.heap.size)::iv3:=fun p hp=>List.mem_cons_of_mem _ (hsub1 p hp)
  clear r he hb hO hRb hlb hgxc
  generalize (wa.heap.size,wb4.heap.size)::iv3=iv4 at*
  obtain⟨b5,a5,n5,c5,b6,a6,n6,c6,rfl⟩:=hQ.shape
  conv=>whnf
  have hlr:(mr.map ratioP).length=cols:=by rw[List.length_map,hmrl]
  have hlu:(unitL M.length rv.length).length=M.length:=by simp[unitL]
  refine callE_S (callE_con (Φ:=fun _ w' v w2=>RowW w2 (fun g=>Cv (fun _=>False) w.heap.size iv4 g∧¬ ∃u∈rv,u.ownBlock=some g) v (cols+1+M.length) (mr.map ratioP++ratioP bx::unitL M.length rv.length)∧∀g,v.ownBlock=some g→w'.heap.size≤g∧g<w2.heap.size) (fun ρ w' r=>?_) ?_)
  ·have hb3:=r.boxSeq (id:=3) (sz:=1) (n:=3) rfl rfl (by decide) (by intro u hu;simp at hu;rcases hu with rfl|rfl|rfl<;>rfl)
   have hb2:=r.boxSeq (id:=2) (sz:=4) (n:=1) rfl rfl (by decide) (by intro u hu;simp at hu;rcases hu with rfl|rfl|rfl|rfl<;>rfl)
   have hlow3:=r.low 3 _ rfl (r.nn 3 _ rfl (by intros;simp) (by simp))
   have hlow2:=r.low 2 _ rfl (r.nn 2 _ rfl (by intros;simp) (by simp))
   have hUr:=hU.rel r
   have:=concat3_c (C:=fun g=>Cv (fun _=>False) w.heap.size iv4 g∨g=(ρ 2).g∨g=(ρ 3).g) (S:=fun g=>Cv (fun _=>False) w.heap.size iv4 g∧¬ ∃u∈rv,u.ownBlock=some g)
    (w:=w') (rs:=mr.map ratioP) (xs:=unitL M.length rv.length) (q:=ratioP bx) (u:=.slice au cols cu) (x:=.slice (some ⟨gx,0,none⟩) M.length cx)
    (fun g hg=>by rcases hg with hg|rfl|rfl;exact Rel.old r (oldF w) g hg;exact hlow2.2;exact hlow3.2) (fun g hg=>Rel.old r (oldF w) g hg.1)
    (hb3.weak fun g hg=>.inr (.inr hg)) (hb2.weak fun g hg=>.inr (.inl hg))
    ((hRr.keep fun g hg=>hsame hsub r (oldF w) g (hg.elim id id)).weak (fun g hg=>.inl (hg.mono hsub)) fun g hg=>⟨hg.mono hsub,fun⟨u,hu,e⟩=>hrvM u hu g e hg⟩)
    (hUr.row.read.weak (fun g hg=>.inl (hUr.blk g hg)) fun g hg=>hg.1) (FracR.keep hQ fun g hg=>Rel.same r (oldF w) hg.1) (by rw[hlr,hlu];omega)
   rw[hlr,hlu]at this
   exact this
  rintro ρ wa vn wb r he hb ⟨hrow1,hrow2⟩
  have hB:=r.baseLe
  have hnew:RowsX wb (fun _=>False) w.heap.size ((wa.heap.size,wb.heap.size)::iv4) (rv++[vn]) (cols+1+M.length) ((allF (valsM M) (b.map ratioP)).take (rv.length+1)):=by
   have h4:RowsX wb (fun _=>False) w.heap.size iv4 rv (cols+1+M.length) ((allF (valsM M) (b.map ratioP)).take rv.length):=
    ⟨hRows.len,fun i v qs h1 h2=>((hRows.row i v qs h1 h2).keep fun g hg=>by
      have hg:Cv (fun _=>False) w.heap.size iv1 g:=hg.elim (fun h=>h.1) fun hg=>hRows.new v (List.mem_of_getElem? h1) g hg
      rw[he.block g (Rel.old r (oldF w) g (hg.mono hsub1)),Rel.same r (oldF w) (hg.mono hsub1)]).weak fun g hg=>⟨hg.1.mono hsub1,hg.2⟩,hRows.dis,fun v hv g hg=>(hRows.new v hv g hg).mono hsub1⟩
   have h5:RowsX wb4 (fun _=>False) w.heap.size iv4 rv (cols+1+M.length) ((allF (valsM M) (b.map ratioP)).take rv.length):=
    ⟨hRows.len,fun i v qs h1 h2=>(hRows.row i v qs h1 h2).weak fun g hg=>⟨hg.1.mono hsub1,hg.2⟩,hRows.dis,fun v hv g hg=>(hRows.new v hv g hg).mono hsub1⟩
   have h6:=h5.snoc r (oldF w) he (hrow1.weak fun g hg=>⟨hg.1.mono fun p hp=>List.mem_cons_of_mem _ hp,fun e=>by have:=Rel.old r (oldF w) g hg.1;have:=(hrow2 g e).1;omega,hg.2⟩) hrow2
   have h7:(allF (valsM M) (b.map ratioP)).take (rv.length+1)=(allF (valsM M) (b.map ratioP)).take rv.length++[mr.map ratioP++ratioP bx::unitL M.length rv.length]:=by
    rw[List.take_add_one,allF_at (r:=mr.map ratioP) (by rw[List.getElem?_map,hmr];rfl)]
    have:(b.map ratioP).getD rv.length 0=ratioP bx:=by rw[List.getD,List.getElem?_map,hbx];rfl
    rw[this,List.length_map]
    rfl
   rw[h7]
   exact h6
  have hvnM:∀g,vn.ownBlock=some g→¬Cv (fun _=>False) w.heap.size ivM g:=fun g hg hm=>by
   have:=Rel.old r (oldF w) g (hm.mono hsub);have:=(hrow2 g hg).1;omega
  replace h:=RatMR.keep h fun g hg=>by rw[he.block g (Rel.old r hS g (hg.mono hsub)),hsame hsub r hS g hg]
  replace hu:=RatsR.keep hu fun g hg=>by rw[he.block g (Rel.old r hS g (hg.mono hsub)),hsame hsub r hS g hg]
  replace hXm:=MatR.keep hXm fun g hg=>by rw[he.block g (Rel.old r (oldF w) g (hg.mono hsub)),hsame hsub r (oldF w) g hg]
  replace hw:=hw.tr hb
  replace hsub:∀p,p∈ivM→p∈(wa.heap.size,wb.heap.size)::iv4:=fun p hp=>List.mem_cons_of_mem _ (hsub p hp)
  obtain⟨an,cn,rfl,-⟩:=hrow1.form
  clear r he hb hRr hRows hU hQ hrow1 hrow2 hB hvx1 hgxr hgxrv hvxM
  generalize (wa.heap.size,wb.heap.size)::iv4=iv5 at*
  conv=>whnf
  refine⟨⟨by omega,by omega⟩,?_⟩
  conv=>whnf
  refine⟨by simp;omega,(rv++[.slice an (cols+1+M.length) cn])++List.replicate (M.length-(rv.length+1)) (.slice none 0 0),?_,?_⟩
  ·have h5:M.length-rv.length=(M.length-(rv.length+1))+1:=by omega
   simp[h5,List.replicate_succ]
  conv=>whnf
  refine⟨((rv.length+1:Nat):Int),by rw[wrap64]<;>omega,?_⟩
  conv=>whnf
  intro ρ3 w3 r3
  have hl3:(rv++[Value.slice an (cols+1+M.length) cn]).length=rv.length+1:=by simp
  refine⟨(rv++[.slice an (cols+1+M.length) cn],iv5,w3),⟨by dsimp only;rw[hl3];exact hi,hw.tr r3.bel,hsub,RatMR.keep h fun g hg=>Rel.same r3 hS (hg.mono hsub),RatsR.keep hu fun g hg=>Rel.same r3 hS (hg.mono hsub),MatR.keep hXm fun g hg=>Rel.same r3 (oldF w) (hg.mono hsub),?_,?_,?_⟩,
   Sub.gen [] r3 ⟨by dsimp only;rw[hl3];rfl,rfl,trivial⟩ ⟨rfl,rfl,rfl,rfl,rfl,rfl,rfl,by dsimp only;rw[hl3];rfl,trivial⟩ (by simp[ScH,Blk.scopd,At.sc]) (by simp[ScE,SV.sc,At.sc]) (by rfl) (fun lo hi h=>h),by dsimp only;rw[hl3];omega⟩
  ·dsimp only
   rw[hl3]
   exact hnew.rel r3 (oldF w)
  ·intro u hu
   rcases List.mem_append.1 hu with hu|hu
   ·exact h1c u hu
   ·simp at hu;subst hu;rfl
  ·intro u hu g hg
   rcases List.mem_append.1 hu with hu|hu
   ·exact hrvM u hu g hg
   ·simp at hu;subst hu;exact hvnM g hg
 ·have hi:rv.length=M.length:=by
   have:¬rv.length<M.length:=by simpa using hi
   omega
  rw[hi,show M.length-M.length=0 by omega,List.replicate_zero,List.append_nil]
  rw[hi,←hlA,List.take_length]at hRows
  clear h hu hXm hrvM hsub hf hfb hbl hcm hcb hct
  conv=>whnf
  obtain⟨hAl,hpl,hpc,hAh⟩:=reduceF_inv (cols:=cols) hht h2
  rw[hlA]at hRows hAl hpl
  refine⟨fun ρ w' r=>?_⟩
  have hnil1:=r.nn 1 _ rfl (by intros;simp) (by simp)
  have hm:=hRows.mat r (oldF w) (id:=1) rfl hnil1 (by unfold maxLen;omega) h1c
  rw[hi]at hm
  refine(reduce_c (fun g hg=>Rel.old r (oldF w) g hg.1) hm (fun g hg=>hg.2) (by omega) (by omega) (show cols≤cols+1+M.length by omega) hht h2 (by rw[hlA];exact hbd)).mono fun e w2 he=>?_
  obtain⟨vp,rv',rfl,hK,hM2,hMb,hP⟩:=he
  obtain⟨A,pv,hApv⟩:∃A pv,(A,pv)=reduceF (allF (valsM M) (b.map ratioP)) cols:=⟨_,_,rfl⟩
  rw[←hApv]at hAl hpl hpc hAh hM2 hP
  dsimp only at hAl hpl hpc hAh hM2 hP
  have hrvl':rv'.length=M.length:=by rw[hM2.len,hAl]
  have hblk:w2.heap[(ρ 1).g]? =some (.cells rv'.toArray T.row (0,0)):=by
   rcases hM2.out.2 with⟨h1,_⟩|⟨g,cap,cur,e,_,hg,_,_,hsz,htk⟩
   ·cases h1
   ·injection e with e1 e2 e3
    injection e1 with e1
    injection e1 with e1
    subst e1 e3
    rw[hg,←htk,hrvl',Nat.mul_one,List.take_of_length_le (by simp;omega)]
  have hIn:∀g,Mb (.slice (some ⟨(ρ 1).g,0,none⟩) M.length M.length) rv g→g=(ρ 1).g∨Cv (fun _=>False) w.heap.size iv1 g:=fun g hg=>by
   rcases hg with hg|⟨x,hx,hg⟩
   ·injection hg with hg;exact .inl hg.symm
   ·exact .inr (hRows.new x hx g hg)
  refine⟨vp,[(1,.arr T.row rv'),(0,.box T.solved [.v (.slice none 0 0),.v (.slice none 0 0),.v (.slice none 0 0)])],(w'.heap.size,w2.heap.size)::iv1,rfl,
   r.arrWritten (id:=1) rfl rfl (fun j hj=>by simp[getH_cons,Ne.symm hj]) hK (fun g hg=>(hIn g hg).imp id fun hc=>fun j c hj hn=>Rel.not r (oldF w) hc j c hj hn) hblk,?_⟩
  have hB:=r.baseLe
  have hT:∀g,Nw (fun g=>Cv (fun _=>False) w.heap.size iv1 g∧¬Mb (.slice (some ⟨(ρ 1).g,0,none⟩) M.length M.length) rv g) w' w2 g→Cv (fun _=>False) w.heap.size ((w'.heap.size,w2.heap.size)::iv1) g:=fun g hg=>by
   rcases hg with hg|hg
   ·exact hg.1.mono fun p hp=>List.mem_cons_of_mem _ hp
   ·exact .inr ⟨by omega,_,_,List.mem_cons_self,hg.1,hg.2⟩
  have hRd:∀(j:Nat) x qs,rv'[j]? =some x→A[j]? =some qs→RowR w2 (Cv (fun _=>False) w.heap.size ((w'.heap.size,w2.heap.size)::iv1)) (Cv (fun _=>False) w.heap.size ((w'.heap.size,w2.heap.size)::iv1)) x qs∧qs.length=cols+1+M.length:=fun j x qs h1 h2=>by
   have h3:RowW w2 _ x (cols+1+M.length) qs:=hM2.row j x qs h1 h2
   refine⟨h3.read.weak (fun g hg=>?_) hT,h3.len⟩
   have hxm:=List.mem_of_getElem? h1
   rcases hIn g ((hMb g).1 (.inr ⟨x,hxm,hg⟩))with e|hc
   ·subst e;exact absurd rfl (hM2.offm x hxm _ hg)
   ·exact hc.mono fun p hp=>List.mem_cons_of_mem _ hp
  have hPd:IntsR w2 (Cv (fun _=>False) w.heap.size ((w'.heap.size,w2.heap.size)::iv1)) vp pv:=SeqR.weak hP fun g hg=>by
   rcases hg with hg|hg
   ·exact hg.elim
   ·exact .inr ⟨by omega,_,_,List.mem_cons_self,hg.1,hg.2⟩
  replace hw:Bel w.heap.size w w2:=(hw.tr r.bel).tr ⟨hK.os,hK.tape,hK.output,hK.size,fun k hk=>hK.block k (by have:=r.baseLe;omega) fun hx=>by
   rcases hIn k hx with e|hc
   ·have:=(r.low 1 _ rfl hnil1).1;omega
   ·rcases hc with hc|⟨hc,_⟩
    ·exact hc
    ·omega⟩
  clear hm hK hM2 hMb hP hblk hIn hT hRows h1c hrl hB hnil1 r
  generalize (w'.heap.size,w2.heap.size)::iv1=iv2 at*
  obtain⟨apv,cpv,rfl,hcpv⟩:∃a c,vp= .slice a pv.length c∧pv.length≤c:=by
   obtain⟨-,-,-,a,c,e,h1,-⟩:=hPd
   exact⟨a,c,e,h1⟩
  have hAht:Ht A 500000000:=hAh.mono (Nat.le_trans (Nat.mul_le_mul_right _ (Nat.pow_le_pow_right (by decide) hpl)) hbd)
  clear hAh hht hbd
  conv=>whnf
  refine⟨⟨by omega,by omega,by omega⟩,(if M.length=pv.length then 0 else pv.length),M.length-pv.length,M.length-pv.length,?_,by omega,by omega,?_⟩
  ·split<;>split<;>omega
  have hoff:pv.length<M.length→(if M.length=pv.length then 0 else pv.length)=pv.length:=fun h=>by rw[if_neg (by omega)]
  generalize (if M.length=pv.length then 0 else pv.length)=off at*
  conv=>whnf
  refine⟨Nat×Iv×World,fun z=>⟨[(4,.o (.p 0 0)),(5,.o (.v (.int .i64 cols))),(6,.o (.s 1 0 M.length M.length)),(10,.o (.v (.slice apv pv.length cpv))),(57,.o (.s 1 off (M.length-pv.length) (M.length-pv.length))),(58,.o (.v (.int .i64 ((M.length-pv.length:Nat):Int)))),(59,.o (.v (.int .i64 z.1)))],
    [(1,.arr T.row rv'),(0,.box T.solved [.v (.slice none 0 0),.v (.slice none 0 0),.v (.slice none 0 0)])],2,z.2.1,z.2.2⟩,fun z=>M.length-pv.length-z.1,
   fun z=>z.1≤M.length-pv.length∧Bel w.heap.size w z.2.2∧(∀p,p∈iv2→p∈z.2.1)∧IntsR z.2.2 (Cv (fun _=>False) w.heap.size iv2) (.slice apv pv.length cpv) pv∧
    (∀(j:Nat) x qs,rv'[j]? =some x→A[j]? =some qs→RowR z.2.2 (Cv (fun _=>False) w.heap.size iv2) (Cv (fun _=>False) w.heap.size iv2) x qs∧qs.length=cols+1+M.length)∧(∀k,pv.length≤k→k<pv.length+z.1→at2 A k cols=0),?_,?_⟩
  ·intro ρ w' r
   exact⟨(0,iv2,w'),⟨by simp,hw.tr r.bel,fun p hp=>hp,IntsR.rel hPd r (oldF w),fun j x qs h1 h2=>⟨(hRd j x qs h1 h2).1.rel r (oldF w) (oldF w),(hRd j x qs h1 h2).2⟩,fun k h1 h2=>by dsimp only at h2;omega⟩,
    Sub.gen [] r ⟨rfl,rfl,trivial⟩ ⟨rfl,rfl,rfl,rfl,rfl,rfl,rfl,trivial⟩ (by simp[ScH,Blk.scopd,At.sc]) (by simp[ScE,SV.sc,At.sc]) (by rfl) (fun lo hi h=>h)⟩
  clear hw hRd hPd
  rintro⟨j,iv3,w3⟩ ⟨hj,hw,hsub,hPd,hRd,hz⟩
  dsimp only at hj hw hsub hPd hRd hz ⊢
  have hsame:∀{H nx iv ρ wx w'},(∀p,p∈iv2→p∈iv)→Rel H nx iv w.heap.size wx ρ w'→∀g,Cv (fun _=>False) w.heap.size iv2 g→w'.heap[g]? =wx.heap[g]? :=by
   intro H nx iv ρ wx w' hm r g hg
   exact Rel.same r (oldF w) (hg.mono hm)
  conv=>whnf
  refine BrS.mk (fun hjb=>?_) (fun hjb=>?_)
  ·have hjb:j<M.length-pv.length:=by
    have:=of_decide_eq_true hjb;omega
   have hoff:=hoff (by omega)
   subst hoff
   obtain⟨xr,hxr⟩:∃x,rv'[pv.length+j]? =some x:=⟨_,List.getElem?_eq_getElem (by omega)⟩
   obtain⟨qs,hqs⟩:∃x,A[pv.length+j]? =some x:=⟨_,List.getElem?_eq_getElem (by omega)⟩
   obtain⟨hRr,hql⟩:=hRd _ xr qs hxr hqs
   obtain⟨axr,cxr,hxe,hxc,-⟩:=hRr.shape
   rw[hql]at hxe hxc
   subst hxe
   obtain⟨q,hq⟩:∃q,qs[cols]? =some q:=⟨_,List.getElem?_eq_getElem (by omega)⟩
   have hat:at2 A (pv.length+j) cols=q:=by
    have:A.getD (pv.length+j) []=qs:=by rw[List.getD,hqs];rfl
    rw[at2,this,List.getD,hq];rfl
   obtain⟨adq,cs,rfl,hF,hl⟩:=hRr.load hq
   obtain⟨b3,a3,n3,c3,b4,a4,n4,c4,rfl,hF⟩:=hF
   conv=>whnf
   refine⟨⟨by omega,by omega⟩,?_⟩
   conv=>whnf
   refine⟨.slice (some adq) (cols+1+M.length) cxr,by simpa using hxr,?_⟩
   conv=>whnf
   refine⟨adq,rfl,⟨by omega,by omega⟩,?_⟩
   conv=>whnf
   refine⟨[.bool b3,.slice a3 n3 c3,.bool b4,.slice a4 n4 c4],rfl,fun ρ w' r i x hx=>?_,?_⟩
   ·obtain⟨k1,k2⟩:=hl i x hx
    rw[Int.toNat_natCast,cell_of_heap (w:=w3) (w2:=w') (by rw[addB,addB];exact hsame hsub r _ k1)]
    exact k2
   conv=>whnf
   refine callE_S (callE_con (Φ:=fun _ _ v _=>v= .int .i64 (rs q)) (fun ρ w' r=>fsign_c (fun g hg=>Rel.old r (oldF w) g (hg.mono hsub)) (FracR.keep hF fun g hg=>hsame hsub r g hg)) ?_)
   rintro ρ wa v1 wb r he hb rfl
   have hstep:∀g,Cv (fun _=>False) w.heap.size iv2 g→wb.heap[g]? =w3.heap[g]? :=fun g hg=>by rw[he.block g (Rel.old r (oldF w) g (hg.mono hsub)),hsame hsub r g hg]
   replace hPd:=IntsR.keep hPd hstep
   replace hRd:∀(j:Nat) x qs,rv'[j]? =some x→A[j]? =some qs→RowR wb (Cv (fun _=>False) w.heap.size iv2) (Cv (fun _=>False) w.heap.size iv2) x qs∧qs.length=cols+1+M.length:=fun j x qs h1 h2=>⟨(hRd j x qs h1 h2).1.keep fun g hg=>hstep g (hg.elim id id),(hRd j x qs h1 h2).2⟩
   replace hF:=FracR.keep hF hstep
   replace hRr:=hRr.keep fun g hg=>hstep g (hg.elim id id)
   replace hl:∀k u,[Value.bool b3,.slice a3 n3 c3,.bool b4,.slice a4 n4 c4][k]? =some u→Cv (fun _=>False) w.heap.size iv2 adq.block∧wb.cell? ((adq.add (cols*4)).add k)=some u:=fun k u hu=>⟨(hl k u hu).1,by
    rw[cell_of_heap (w:=w3) (w2:=wb) (by rw[addB,addB];exact hstep _ (hl k u hu).1)]
    exact(hl k u hu).2⟩
   replace hw:=hw.tr hb
   replace hsub:∀p,p∈iv2→p∈(wa.heap.size,wb.heap.size)::iv3:=fun p hp=>List.mem_cons_of_mem _ (hsub p hp)
   clear r he hb hstep
   generalize (wa.heap.size,wb.heap.size)::iv3=iv4 at*
   conv=>whnf
   refine BrS.mk (fun h0=>?_) (fun h0=>?_)
   ·have h0:q≠0:=fun e=>by rw[e]at h0;exact absurd h0 (by decide)
    have hqsd:A.getD (pv.length+j) []=qs:=by rw[List.getD,hqs];rfl
    have hqA:=hAht.at hqs
    have hrlq:=hqA q (List.mem_of_getElem? hq)
    have hpart:=hRr.from (k:=cols+1) (by omega)
    have hdl:(qs.drop (cols+1)).length=M.length:=by rw[List.length_drop,hql];omega
    rw[show cols+1+M.length-(cols+1)=M.length by omega]at hpart
    conv=>whnf
    refine⟨((cols+1:Nat):Int),by rw[wrap64]<;>omega,?_⟩
    conv=>whnf
    refine⟨⟨by omega,by omega,by omega⟩,(if (cxr:Int)=((cols+1:Nat):Int)then some adq else(some adq).map (·.add ((cols+1)*4))),M.length,cxr-(cols+1),rfl,by omega,by omega,?_⟩
    generalize (if (cxr:Int)=((cols+1:Nat):Int)then some adq else(some adq).map (·.add ((cols+1)*4)))=adp at*
    conv=>whnf
    refine callE_S (callE_con (Φ:=fun _ w' v w2=>RowW w2 (Cv (fun _=>False) w.heap.size iv2) v M.length (qs.drop (cols+1))∧∀g,v.ownBlock=some g→w'.heap.size≤g∧g<w2.heap.size) (fun ρ w' r=>?_) ?_)
    ·have:=cloneR_c (w:=w') (fun g hg=>Rel.old r (oldF w) g (hg.mono hsub)) (fun g hg=>Rel.old r (oldF w) g (hg.mono hsub)) (hpart.keep fun g hg=>hsame hsub r g (hg.elim id id)) (by rw[hdl];omega) (by rw[hdl];omega)
     rw[hdl]at this
     exact this
    rintro ρ wa v1 wb' r he hb ⟨hP,hpb⟩
    have hpT:∀g,v1.ownBlock=some g→¬Cv (fun _=>False) w.heap.size iv2 g:=fun g hg h=>by have:=Rel.old r (oldF w) g (h.mono hsub);have:=(hpb g hg).1;omega
    have hpO:∀g,v1.ownBlock=some g→Cv (fun _=>False) w.heap.size ((wa.heap.size,wb'.heap.size)::iv4) g:=fun g hg=>.inr ⟨by have:=(hpb g hg).1;have:=r.baseLe;omega,_,_,List.mem_cons_self,(hpb g hg).1,(hpb g hg).2⟩
    have hstep:∀g,Cv (fun _=>False) w.heap.size iv2 g→wb'.heap[g]? =wb.heap[g]? :=fun g hg=>by rw[he.block g (Rel.old r (oldF w) g (hg.mono hsub)),hsame hsub r g hg]
    replace hF:=FracR.keep hF hstep
    replace hl:∀k u,[Value.bool b3,.slice a3 n3 c3,.bool b4,.slice a4 n4 c4][k]? =some u→Cv (fun _=>False) w.heap.size iv2 adq.block∧wb'.cell? ((adq.add (cols*4)).add k)=some u:=fun k u hu=>⟨(hl k u hu).1,by
     rw[cell_of_heap (w:=wb) (w2:=wb') (by rw[addB,addB];exact hstep _ (hl k u hu).1)]
     exact(hl k u hu).2⟩
    replace hw:=hw.tr hb
    replace hsub:∀p,p∈iv2→p∈(wa.heap.size,wb'.heap.size)::iv4:=fun p hp=>List.mem_cons_of_mem _ (hsub p hp)
    clear r he hb hstep hpart hRr hPd hRd hpb
    generalize (wa.heap.size,wb'.heap.size)::iv4=iv5 at*
    obtain⟨ap',cp',rfl,-⟩:=hP.form
    conv=>whnf
    refine drawn_of_pi hτ hmix [.x 0,.x 2,.x 3,.x 4,.x 5,.x 1,.x 6,.x 7] (by kernel_rfl) (by kernel_rfl) ?_
    conv=>whnf
    refine⟨adq,rfl,⟨by omega,by omega⟩,?_⟩
    conv=>whnf
    refine⟨[.bool b3,.slice a3 n3 c3,.bool b4,.slice a4 n4 c4],rfl,fun ρ w' r i x hx=>?_,?_⟩
    ·obtain⟨k1,k2⟩:=hl i x hx
     rw[Int.toNat_natCast,cell_of_heap (w:=wb') (w2:=w') (by rw[addB,addB];exact hsame hsub r _ k1)]
     exact k2
    conv=>whnf
    refine callE_con (Φ:=fun _ w' v w2=>FracR w2 (Nw (fun _=>False) w' w2) v (((1:Int):Rat))) (fun ρ w' r=>whole_c 1 w' (by decide) (by decide)) ?_
    rintro ρ wa v1 wc r he hbl hO
    have hON:=hO.got (S:=fun _=>False) r.baseLe (iv:=(wa.heap.size,wc.heap.size)::iv5) List.mem_cons_self
    have hstep:∀g,Cv (fun _=>False) w.heap.size iv5 g→wc.heap[g]? =wb'.heap[g]? :=fun g hg=>by rw[he.block g (Rel.old r (oldF w) g hg),Rel.same r (oldF w) hg]
    replace hF:=FracR.keep hF fun g hg=>hstep g (hg.mono hsub)
    replace hP:=hP.keep fun g hg=>hstep g (hg.elim (fun h=>h.mono hsub) (hpO g))
    replace hw:=hw.tr hbl
    replace hsub:∀p,p∈iv2→p∈(wa.heap.size,wc.heap.size)::iv5:=fun p hp=>List.mem_cons_of_mem _ (hsub p hp)
    replace hpO:∀g,(Value.slice ap' M.length cp').ownBlock=some g→Cv (fun _=>False) w.heap.size ((wa.heap.size,wc.heap.size)::iv5) g:=fun g hg=>(hpO g hg).cons
    clear r he hbl hO hl hstep
    generalize (wa.heap.size,wc.heap.size)::iv5=iv6 at*
    obtain⟨b5,a5,n5,c5,b6,a6,n6,c6,rfl⟩:=hON.shape
    have hone:(((1:Int):Rat))=1:=rfl
    rw[hone]at hON
    conv=>whnf
    refine callE_con (Φ:=fun _ w' v w2=>FracR w2 (Nw (fun _=>False) w' w2) v (1 / q)) (fun ρ w' r=>fby_c (Rel.old r (oldF w)) (hON.rel r (oldF w)) (FracR.weak (FracR.keep hF fun g hg=>hsame hsub r g hg) fun g hg=>hg.mono hsub) (by decide) (by omega) h0) ?_
    rintro ρ wa v1 wd r he hbl hO
    have hQN:=hO.got (S:=fun _=>False) r.baseLe (iv:=(wa.heap.size,wd.heap.size)::iv6) List.mem_cons_self
    have hQp:∀g,Nw (fun _=>False) wa wd g→(Value.slice ap' M.length cp').ownBlock≠some g:=fun g hg e=>by
     rcases hg with hg|hg
     ·exact hg.elim
     ·have:=Rel.old r (oldF w) g (hpO g e);omega
    have hQ2:FracR wd (fun g=>Cv (fun _=>False) w.heap.size ((wa.heap.size,wd.heap.size)::iv6) g∧(Value.slice ap' M.length cp').ownBlock≠some g) v1 (1 / q):=hO.weak fun g hg=>⟨hg.got r.baseLe List.mem_cons_self,hQp g hg⟩
    have hstep:∀g,Cv (fun _=>False) w.heap.size iv6 g→wd.heap[g]? =wc.heap[g]? :=fun g hg=>by rw[he.block g (Rel.old r (oldF w) g hg),Rel.same r (oldF w) hg]
    replace hP:=hP.keep fun g hg=>hstep g (hg.elim (fun h=>h.mono hsub) (hpO g))
    replace hw:=hw.tr hbl
    replace hsub:∀p,p∈iv2→p∈(wa.heap.size,wd.heap.size)::iv6:=fun p hp=>List.mem_cons_of_mem _ (hsub p hp)
    replace hpO:∀g,(Value.slice ap' M.length cp').ownBlock=some g→Cv (fun _=>False) w.heap.size ((wa.heap.size,wd.heap.size)::iv6) g:=fun g hg=>(hpO g hg).cons
    clear r he hbl hO hF hON hstep hQp
    generalize (wa.heap.size,wd.heap.size)::iv6=iv7 at*
    obtain⟨b7,a7,n7,c7,b8,a8,n8,c8,rfl⟩:=hQN.shape
    have hinv:=rl_inv h0
    conv=>whnf
    refine⟨fun ρ w' r=>?_⟩
    have hPr:=(hP.keep (w2:=w') fun g hg=>Rel.same r (oldF w) (hg.elim (fun h=>h.mono hsub) (hpO g))).weak (S':=fun g=>Cv (fun _=>False) w.heap.size iv7 g∧(Value.slice ap' M.length cp').ownBlock≠some g) fun g hg=>⟨hg.mono hsub,fun e=>hpT g e hg⟩
    obtain⟨css,hr1,hr2,hr3⟩:=hPr
    refine(scale_c (fun g hg=>Rel.old r (oldF w) g hg.1) hr1 hr3 hr2 (FracR.keep hQ2 fun g hg=>Rel.same r (oldF w) hg.1) (fun x hx hx2=>hx2.2 hx) (fun x hx=>by have:=hqA x (List.mem_of_mem_drop hx);omega) (by omega)).mono fun e w4 he=>?_
    obtain⟨rfl,hgr,css',hr4,hr5,hr6⟩:=he
    have hP2:RowW w4 (Nw (fun g=>Cv (fun _=>False) w.heap.size iv7 g∧(Value.slice ap' M.length cp').ownBlock≠some g) w' w4) (.slice ap' M.length cp') M.length ((qs.drop (cols+1)).map (· *(1 / q))):=⟨css',hr4,hr5,hr6⟩
    refine⟨.tuple #[],_,(w'.heap.size,w4.heap.size)::iv7,rfl,r.rowedNew (fun x hx=>Rel.not r (oldF w) (hpO x hx)) hgr,?_⟩
    have hP3:RowR w4 (Cv (fun _=>False) w.heap.size ((w'.heap.size,w4.heap.size)::iv7)) (Cv (fun _=>False) w.heap.size ((w'.heap.size,w4.heap.size)::iv7)) (.slice ap' M.length cp') ((qs.drop (cols+1)).map (· *(1 / q))):=
     hP2.read.weak (fun g hg=>(hpO g hg).cons) fun g hg=>by
      rcases hg with hg|hg
      ·exact hg.1.cons
      ·exact .inr ⟨by have:=r.baseLe;omega,_,_,List.mem_cons_self,hg.1,hg.2⟩
    have hw4:Bel w.heap.size w w4:=(hw.tr r.bel).tr (Bel.grown hgr (fun g hg=>by
     rcases hpO g hg with h|⟨h,_⟩
     ·exact h.elim
     ·exact h) r.baseLe)
    have hsome:∃a,ap'=some a:=by
     rcases hr4.2 with⟨_,h9⟩|⟨g,cap,cur,e,_⟩
     ·omega
     ·injection e with e;exact⟨_,e⟩
    obtain⟨ag,rfl⟩:=hsome
    clear hP hQN hQ2 hr1 hr3 hr4 hr6 hgr hP2 r hw hpT hpO hsub
    generalize (w'.heap.size,w4.heap.size)::iv7=iv8 at*
    conv=>whnf
    intro ρe we re
    refine⟨_,rfl,hw4.tr re.bel,A,pv,hApv,.inl ⟨pv.length+j,_,by omega,by omega,by rw[hat];exact h0,fun k h1 h2=>hz k h1 h2,rfl,⟨ag,_,_,rfl⟩,?_⟩⟩
    rw[hqsd,hat]
    exact(hP3.rel re (oldF w) (oldF w)).weak (fun g hg=>Cv.nw hg re) fun g hg=>Cv.nw hg re
   ·have h0:q=0:=by
     have h1:(rs q==0)=true:=by simpa using h0
     exact Rat.num_eq_zero.1 (Int.sign_eq_zero_iff_zero.1 (eq_of_beq h1))
    conv=>whnf
    refine⟨((j+1:Nat):Int),by rw[wrap64]<;>omega,?_⟩
    conv=>whnf
    intro ρ3 w5 r3
    refine⟨(j+1,iv4,w5),⟨hjb,hw.tr r3.bel,hsub,IntsR.keep hPd fun g hg=>hsame hsub r3 g hg,fun j x qs h1 h2=>⟨(hRd j x qs h1 h2).1.keep fun g hg=>hsame hsub r3 g (hg.elim id id),(hRd j x qs h1 h2).2⟩,fun k h1 h2=>?_⟩,
     Sub.gen [] r3 ⟨rfl,rfl,trivial⟩ ⟨rfl,rfl,rfl,rfl,rfl,rfl,rfl,trivial⟩ (by simp[ScH,Blk.scopd,At.sc]) (by simp[ScE,SV.sc,At.sc]) (by rfl) (fun lo hi h=>h),by dsimp only;omega⟩
    by_cases hk:k=pv.length+j
    ·rw[hk,hat,h0]
    ·exact hz k h1 (by dsimp only at h2;omega)
  ·have hjb:j=M.length-pv.length:=by
    have:=of_decide_eq_false hjb;omega
   have hz2:∀k,pv.length≤k→k<M.length→at2 A k cols=0:=fun k h1 h2=>hz k h1 (by omega)
   clear hz hoff
   conv=>whnf
   refine callE_S (callE_con (Φ:=fun _ w' v w2=>RowX w2 (fun _=>False) w'.heap.size [(w'.heap.size,w2.heap.size)] v cols (List.replicate cols 0)) (fun ρ w' r=>zeros_c cols w' (by omega)) ?_)
   rintro ρ wa vx wb r he hb hx
   have hX:=hx.got (S:=fun _=>False) (iv:=(wa.heap.size,wb.heap.size)::iv3) r.baseLe List.mem_cons_self
   have hxo:∀g,vx.ownBlock=some g→¬Cv (fun _=>False) w.heap.size iv2 g:=fun g hg h=>by
    have h3:=Rel.old r (oldF w) g (h.mono hsub)
    rcases hx.new g hg with h4|⟨h4,_⟩
    ·exact h4
    ·omega
   have hstep:∀g,Cv (fun _=>False) w.heap.size iv2 g→wb.heap[g]? =w3.heap[g]? :=fun g hg=>by rw[he.block g (Rel.old r (oldF w) g (hg.mono hsub)),hsame hsub r g hg]
   replace hPd:=IntsR.keep hPd hstep
   replace hRd:∀(j:Nat) x qs,rv'[j]? =some x→A[j]? =some qs→RowR wb (Cv (fun _=>False) w.heap.size iv2) (Cv (fun _=>False) w.heap.size iv2) x qs∧qs.length=cols+1+M.length:=fun j x qs h1 h2=>⟨(hRd j x qs h1 h2).1.keep fun g hg=>hstep g (hg.elim id id),(hRd j x qs h1 h2).2⟩
   have hxB:∀g,vx.ownBlock=some g→w.heap.size≤g:=fun g hg=>by
    rcases hX.new g hg with h4|⟨h4,_⟩
    ·exact h4.elim
    ·exact h4
   replace hw:=hw.tr hb
   replace hsub:∀p,p∈iv2→p∈(wa.heap.size,wb.heap.size)::iv3:=fun p hp=>List.mem_cons_of_mem _ (hsub p hp)
   clear r he hb hx hstep
   generalize (wa.heap.size,wb.heap.size)::iv3=iv4 at*
   obtain⟨ax,cx,rfl,-⟩:=hX.row.form
   conv=>whnf
   refine⟨Nat×Iv×World,fun z=>⟨[(4,.o (.p 0 0)),(5,.o (.v (.int .i64 cols))),(6,.o (.s 1 0 M.length M.length)),(10,.o (.v (.slice apv pv.length cpv))),(14,.o (.v (.slice ax cols cx))),(87,.o (.v (.slice apv pv.length cpv))),(88,.o (.v (.int .i64 pv.length))),(89,.o (.v (.int .i64 z.1)))],
     [(1,.arr T.row rv'),(0,.box T.solved [.v (.slice none 0 0),.v (.slice none 0 0),.v (.slice none 0 0)])],2,z.2.1,z.2.2⟩,fun z=>pv.length-z.1,
    fun z=>z.1≤pv.length∧Bel w.heap.size w z.2.2∧(∀p,p∈iv2→p∈z.2.1)∧IntsR z.2.2 (Cv (fun _=>False) w.heap.size iv2) (.slice apv pv.length cpv) pv∧
     (∀(j:Nat) x qs,rv'[j]? =some x→A[j]? =some qs→RowR z.2.2 (Cv (fun _=>False) w.heap.size iv2) (Cv (fun _=>False) w.heap.size iv2) x qs∧qs.length=cols+1+M.length)∧
     RowX z.2.2 (fun _=>False) w.heap.size z.2.1 (.slice ax cols cx) cols (xvecTo A pv cols z.1),?_,?_⟩
   ·intro ρ w' r
    exact⟨(0,iv4,w'),⟨by simp,hw.tr r.bel,hsub,IntsR.keep hPd fun g hg=>hsame hsub r g hg,fun j x qs h1 h2=>⟨(hRd j x qs h1 h2).1.keep fun g hg=>hsame hsub r g (hg.elim id id),(hRd j x qs h1 h2).2⟩,hX.rel r (oldF w)⟩,
     Sub.gen [] r ⟨rfl,rfl,trivial⟩ ⟨rfl,rfl,rfl,rfl,rfl,rfl,rfl,rfl,trivial⟩ (by simp[ScH,Blk.scopd,At.sc]) (by simp[ScE,SV.sc,At.sc]) (by rfl) (fun lo hi h=>h)⟩
   clear hw hsub hPd hRd hX
   rintro⟨i,iv5,w5⟩ ⟨hi5,hw,hsub,hPd,hRd,hX⟩
   dsimp only at hi5 hw hsub hPd hRd hX ⊢
   conv=>whnf
   refine BrS.mk (fun hib=>?_) (fun hib=>?_)
   ·have hib:i<pv.length:=by simpa using hib
    obtain⟨p,hpi⟩:∃p,pv[i]? =some p:=⟨_,List.getElem?_eq_getElem hib⟩
    have hpd:pv.getD i 0=p:=by rw[List.getD,hpi];rfl
    have hpcol:=hpc p (List.mem_of_getElem? hpi)
    obtain⟨_,_,_,_,_,hpe,_,hpcell⟩:=id hPd
    injection hpe with hpe1 hpe2 hpe3
    subst hpe1 hpe3
    obtain⟨adp,rfl,kp1,kp2⟩:=hpcell i (.int .i64 (p:Int)) (by rw[List.getElem?_map,hpi];rfl)
    obtain⟨xr,hxr⟩:∃x,rv'[i]? =some x:=⟨_,List.getElem?_eq_getElem (by omega)⟩
    obtain⟨qs,hqs⟩:∃x,A[i]? =some x:=⟨_,List.getElem?_eq_getElem (by omega)⟩
    obtain⟨hRr,hql⟩:=hRd _ xr qs hxr hqs
    obtain⟨axr,cxr,hxe,hxc,-⟩:=hRr.shape
    rw[hql]at hxe hxc
    subst hxe
    obtain⟨q,hq⟩:∃q,qs[cols]? =some q:=⟨_,List.getElem?_eq_getElem (by omega)⟩
    have hat:at2 A i cols=q:=by
     have:A.getD i []=qs:=by rw[List.getD,hqs];rfl
     rw[at2,this,List.getD,hq];rfl
    obtain⟨adq,cs,rfl,hF,hl⟩:=hRr.load hq
    obtain⟨b3,a3,n3,c3,b4,a4,n4,c4,rfl,hF⟩:=hF
    conv=>whnf
    refine⟨adp,rfl,⟨by omega,by omega⟩,?_⟩
    conv=>whnf
    refine⟨.int .i64 (p:Int),fun ρ w' r=>?_,?_⟩
    ·rw[Int.toNat_natCast,Nat.mul_one,cell_of_heap (w:=w5) (w2:=w') (by rw[addB];exact hsame hsub r _ kp1)]
     exact kp2
    conv=>whnf
    refine⟨⟨by omega,by omega⟩,?_⟩
    conv=>whnf
    refine⟨.slice (some adq) (cols+1+M.length) cxr,by simpa using hxr,?_⟩
    conv=>whnf
    refine⟨adq,rfl,⟨by omega,by omega⟩,?_⟩
    conv=>whnf
    refine⟨[.bool b3,.slice a3 n3 c3,.bool b4,.slice a4 n4 c4],rfl,fun ρ w' r i x hx=>?_,?_⟩
    ·obtain⟨k1,k2⟩:=hl i x hx
     rw[Int.toNat_natCast,cell_of_heap (w:=w5) (w2:=w') (by rw[addB,addB];exact hsame hsub r _ k1)]
     exact k2
    conv=>whnf
    have hgx:∃g,ax=some ⟨g,0,none⟩:=by
     obtain⟨css,ho,_⟩:=hX.row
     rcases ho.2 with⟨_,h0⟩|⟨g,cap,cur,e,_⟩
     ·omega
     ·injection e with e;exact⟨g,e⟩
    obtain⟨gx,rfl⟩:=hgx
    refine⟨⟨gx,0,none⟩,rfl,⟨by omega,by omega⟩,?_⟩
    conv=>whnf
    intro ρ w' r
    obtain⟨_,hgx,h1,h2,h3,h4,h5⟩:=(hX.rel r (oldF w)).store hpcol (FracR.weak (FracR.keep hF fun g hg=>hsame hsub r g hg) fun g hg=>⟨hg.mono hsub,fun e=>hxo g e hg⟩) r (oldF w)
    injection hgx with hgx
    injection hgx with hgx
    subst hgx
    have hstep:∀g,Cv (fun _=>False) w.heap.size iv2 g→w'.heap[g]? =w5.heap[g]? :=fun g hg=>hsame hsub r g hg
    replace hPd:=IntsR.keep hPd hstep
    replace hRd:∀(j:Nat) x qs,rv'[j]? =some x→A[j]? =some qs→RowR w' (Cv (fun _=>False) w.heap.size iv2) (Cv (fun _=>False) w.heap.size iv2) x qs∧qs.length=cols+1+M.length:=fun j x qs h1 h2=>⟨(hRd j x qs h1 h2).1.keep fun g hg=>hstep g (hg.elim id id),(hRd j x qs h1 h2).2⟩
    have hold:∀g,Cv (fun _=>False) w.heap.size iv5 g→g<w'.heap.size:=Rel.old r (oldF w)
    replace hw:=hw.tr r.bel
    clear r hX hRr hF hl hstep kp1 kp2 hpcell
    refine⟨h1,h2,h3,fun w2 hw2=>?_⟩
    obtain⟨hX,hgr,-⟩:=h5 w2 hw2
    replace hw:Bel w.heap.size w w2:=hw.tr (Bel.grown hgr (fun g hg=>by injection hg with hg;subst hg;exact hxB gx rfl) (by have:=hw.size;omega))
    have hstep:∀g,Cv (fun _=>False) w.heap.size iv2 g→w2.heap[g]? =w'.heap[g]? :=fun g hg=>hgr.block g (hold g (hg.mono hsub)) fun e=>by injection e with e;subst e;exact hxo _ rfl hg
    replace hPd:=IntsR.keep hPd hstep
    replace hRd:∀(j:Nat) x qs,rv'[j]? =some x→A[j]? =some qs→RowR w2 (Cv (fun _=>False) w.heap.size iv2) (Cv (fun _=>False) w.heap.size iv2) x qs∧qs.length=cols+1+M.length:=fun j x qs h1 h2=>⟨(hRd j x qs h1 h2).1.keep fun g hg=>hstep g (hg.elim id id),(hRd j x qs h1 h2).2⟩
    clear h1 h2 h3 h4 h5 hw2 hgr hold hstep
    rw[←hat,←hpd,←xvecTo_succ]at hX
    conv=>whnf
    refine⟨((i+1:Nat):Int),by rw[wrap64]<;>omega,?_⟩
    conv=>whnf
    intro ρ3 w6 r3
    exact⟨(i+1,iv5,w6),⟨hib,hw.tr r3.bel,hsub,IntsR.keep hPd fun g hg=>hsame hsub r3 g hg,fun j x qs h1 h2=>⟨(hRd j x qs h1 h2).1.keep fun g hg=>hsame hsub r3 g (hg.elim id id),(hRd j x qs h1 h2).2⟩,hX.rel r3 (oldF w)⟩,
     Sub.gen [] r3 ⟨rfl,rfl,trivial⟩ ⟨rfl,rfl,rfl,rfl,rfl,rfl,rfl,rfl,trivial⟩ (by simp[ScH,Blk.scopd,At.sc]) (by simp[ScE,SV.sc,At.sc]) (by rfl) (fun lo hi h=>h),by dsimp only;omega⟩
   ·have hib:i=pv.length:=by
     have:¬i<pv.length:=by simpa using hib
     omega
    subst hib
    have hxR:=hX.read
    clear hX
    conv=>whnf
    refine callE_free (Φ:=fun ρ w' v w2=>MatR w2 (Nw (fun g=>Cv (fun _=>False) w.heap.size iv2 g∨g=(ρ 1).g) w' w2) v (kernelTo A pv cols cols)) (H':=[(0,.box T.solved [.v (.slice none 0 0),.v (.slice none 0 0),.v (.slice none 0 0)])]) 1 rfl (by simp) ⟨rfl,trivial⟩ rfl (fun ρ w' r=>r.nn 1 _ rfl (by intros;simp) (by simp)) (fun ρ w' r=>?_) ?_
    ·have hlow:=r.low 1 _ rfl (r.nn 1 _ rfl (by intros;simp) (by simp))
     have ha:=r.arrSeq (id:=1) (sz:=1) (n:=M.length) rfl (by rw[hrvl',Nat.mul_one]) (by unfold maxLen;omega) (fun u hu=>by
      obtain⟨i,hi⟩:=List.getElem?_of_mem hu
      obtain⟨a,cc,e,_⟩:=((hRd i u _ hi (List.getElem?_eq_getElem (by rw[hAl,←hrvl'];exact(List.getElem?_eq_some_iff.1 hi).1))).1).shape
      rw[e]
      rfl)
     refine kernel_c (n:=cols+1+M.length) (fun g hg=>?_) (⟨rv',?_,by rw[hrvl',hAl],fun i x qs h1 h2=>?_⟩:MatR w' _ _ A) (IntsR.weak (IntsR.keep hPd fun g hg=>hsame hsub r g hg) fun g hg=>.inl hg) (fun rr hrr=>?_) (by omega) (by omega) (by omega) (by omega) hpc
     ·rcases hg with hg|rfl
      ·exact Rel.old r (oldF w) g (hg.mono hsub)
      ·exact hlow.2
     ·rw[hAl]
      exact ha.weak fun g hg=>.inr hg
     ·exact((hRd i x qs h1 h2).1.keep fun g hg=>hsame hsub r g (hg.elim id id)).weak (fun g hg=>.inl hg) fun g hg=>.inl hg
     ·obtain⟨i,hi⟩:=List.getElem?_of_mem hrr
      have hil:=(List.getElem?_eq_some_iff.1 hi).1
      exact(hRd i rv'[i] rr (List.getElem?_eq_getElem (by omega)) hi).2
    rintro ρ wa vk wb r he hb hkR
    have hlow:=r.low 1 _ rfl (r.nn 1 _ rfl (by intros;simp) (by simp))
    have hk2:MatR wb (Cv (fun _=>False) w.heap.size (((ρ 1).g,(ρ 1).g+1)::(wa.heap.size,wb.heap.size)::iv5)) vk (kernelTo A pv cols cols):=MatR.weak hkR fun g hg=>by
     rcases hg with(hg|rfl)|hg
     ·exact(hg.mono hsub).cons.cons
     ·exact .inr ⟨hlow.1,_,_,List.mem_cons_self,by omega,by omega⟩
     ·exact .inr ⟨by have:=r.baseLe;omega,_,_,List.mem_cons_of_mem _ List.mem_cons_self,hg.1,hg.2⟩
    have hx2:RowR wb (Cv (fun _=>False) w.heap.size (((ρ 1).g,(ρ 1).g+1)::(wa.heap.size,wb.heap.size)::iv5)) (Cv (fun _=>False) w.heap.size (((ρ 1).g,(ρ 1).g+1)::(wa.heap.size,wb.heap.size)::iv5)) (.slice ax cols cx) (xvecTo A pv cols pv.length):=
     (hxR.keep fun g hg=>by rw[he.block g (Rel.old r (oldF w) g (hg.elim id id)),Rel.same r (oldF w) (hg.elim id id)]).weak (fun g hg=>hg.cons.cons) fun g hg=>hg.cons.cons
    replace hw:=hw.tr hb
    clear r he hb hkR hxR hRd hPd hlow
    generalize ((ρ 1).g,(ρ 1).g+1)::(wa.heap.size,wb.heap.size)::iv5=iv6 at*
    obtain⟨ak,ck,rfl,-⟩:=SlicesR.shape hk2
    conv=>whnf
    intro ρe we re
    exact⟨_,rfl,hw.tr re.bel,A,pv,hApv,.inr ⟨_,_,hz2,rfl,(hx2.rel re (oldF w) (oldF w)).weak (fun g hg=>Cv.nw hg re) (fun g hg=>Cv.nw hg re),MatR.out hk2 re (oldF w)⟩⟩
end Go.Ex

/- Giving rows and matrices back in normal form. No condition but sizes. -/
namespace Go.Ex
open Go Go.Sx Go.Proofs

/-- the four cells of a fraction of the api in normal form -/
def Rat4C(w:World)(S:Nat→Prop)(cs:List Value)(q:Rat):Prop:=∃b a n c b2 a2 n2 c2,cs=[.bool b,.slice a n c,.bool b2,.slice a2 n2 c2]∧RatC w S (.agg #[.bool b,.slice a n c,.bool b2,.slice a2 n2 c2]) q
abbrev RatsC:=ListR Rat4C
abbrev RatMC:=SlicesR RatsC
section
variable{S S':Nat→Prop}{H:Hp}{nx:Nat}{iv iv':Iv}{B:Nat}{w w' w2:World}{ρ:Nat→Sx.Val}{v:Value}{qs:List Rat}{cs:List Value}{q:Rat}
theorem Rat4C.keep(h:Rat4C w S cs q)(hk:∀g,S g→w2.heap[g]? =w.heap[g]?):Rat4C w2 S cs q:=by
 obtain⟨b,a,n,c,b2,a2,n2,c2,h1,h2⟩:=h;exact⟨b,a,n,c,b2,a2,n2,c2,h1,h2.keep hk⟩
theorem Rat4C.weak(h:Rat4C w S cs q)(hk:∀g,S g→S' g):Rat4C w S' cs q:=by
 obtain⟨b,a,n,c,b2,a2,n2,c2,h1,h2⟩:=h;exact⟨b,a,n,c,b2,a2,n2,c2,h1,h2.weak hk⟩
theorem RatsC.keep(h:RatsC w S v qs)(hk:∀g,S g→w2.heap[g]? =w.heap[g]?):RatsC w2 S v qs:=by
 obtain⟨css,h1,h2,h3,h4⟩:=h;exact⟨css,h1.keep hk,h2,h3,fun j cs x k1 k2=>(h4 j cs x k1 k2).keep hk⟩
theorem RatsC.weak(h:RatsC w S v qs)(hk:∀g,S g→S' g):RatsC w S' v qs:=by
 obtain⟨css,h1,h2,h3,h4⟩:=h;exact⟨css,h1.weak hk,h2,h3,fun j cs x k1 k2=>(h4 j cs x k1 k2).weak hk⟩
theorem RatMC.keep{M:List (List Rat)}(h:RatMC w S v M)(hk:∀g,S g→w2.heap[g]? =w.heap[g]?):RatMC w2 S v M:=by
 obtain⟨rv,h1,h2,h3⟩:=h;exact⟨rv,h1.keep hk,h2,fun i u x k1 k2=>RatsC.keep (h3 i u x k1 k2) hk⟩
theorem RatMC.weak{M:List (List Rat)}(h:RatMC w S v M)(hk:∀g,S g→S' g):RatMC w S' v M:=by
 obtain⟨rv,h1,h2,h3⟩:=h;exact⟨rv,h1.weak hk,h2,fun i u x k1 k2=>RatsC.weak (h3 i u x k1 k2) hk⟩
end
section
variable{S S':Nat→Prop}{H:Hp}{nx:Nat}{iv iv':Iv}{B:Nat}{w w' w2:World}{ρ:Nat→Sx.Val}{v:Value}{qs:List Rat}
theorem RatsC.rel(h:RatsC w (Cv S B iv) v qs)(r:Rel H nx iv B w ρ w')(hS:∀g,S g→g<B):RatsC w' (Cv S B iv) v qs:=RatsC.keep h fun _ hg=>Rel.same r hS hg
theorem RatsC.past(h:RatsC w (Cv S B iv) v qs)(r:Rel H nx iv B w ρ w')(hS:∀g,S g→g<B)(he:Ext w' w2)(hm:∀p,p∈iv→p∈iv'):RatsC w2 (Cv S B iv') v qs:=
 RatsC.weak (RatsC.keep (RatsC.rel h r hS) fun g hg=>he.block g (Rel.old r hS g hg)) fun _ hg=>hg.mono hm
theorem RatsC.got(h:RatsC w2 (Nw (fun _=>False) w' w2) v qs)(hB:B≤w'.heap.size)(hm:(w'.heap.size,w2.heap.size)∈iv):RatsC w2 (Cv S B iv) v qs:=RatsC.weak h fun _ hg=>hg.got hB hm
theorem RatsC.out{w0 w1:World}(h:RatsC w1 (Cv S w0.heap.size iv) v qs)(r:Rel H nx iv w0.heap.size w1 ρ w')(hS:Old S w0):RatsC w' (Nw S w0 w') v qs:=
 RatsC.weak (RatsC.rel h r hS) fun _ hg=>Cv.nw hg r
end
section
variable{S S':Nat→Prop}{H:Hp}{nx:Nat}{iv iv':Iv}{B:Nat}{w w' w2:World}{ρ:Nat→Sx.Val}{v:Value}{M:List (List Rat)}
theorem RatMC.rel(h:RatMC w (Cv S B iv) v M)(r:Rel H nx iv B w ρ w')(hS:∀g,S g→g<B):RatMC w' (Cv S B iv) v M:=RatMC.keep h fun _ hg=>Rel.same r hS hg
theorem RatMC.past(h:RatMC w (Cv S B iv) v M)(r:Rel H nx iv B w ρ w')(hS:∀g,S g→g<B)(he:Ext w' w2)(hm:∀p,p∈iv→p∈iv'):RatMC w2 (Cv S B iv') v M:=
 RatMC.weak (RatMC.keep (RatMC.rel h r hS) fun g hg=>he.block g (Rel.old r hS g hg)) fun _ hg=>hg.mono hm
theorem RatMC.got(h:RatMC w2 (Nw (fun _=>False) w' w2) v M)(hB:B≤w'.heap.size)(hm:(w'.heap.size,w2.heap.size)∈iv):RatMC w2 (Cv S B iv) v M:=RatMC.weak h fun _ hg=>hg.got hB hm
theorem RatMC.out{w0 w1:World}(h:RatMC w1 (Cv S w0.heap.size iv) v M)(r:Rel H nx iv w0.heap.size w1 ρ w')(hS:Old S w0):RatMC w' (Nw S w0 w') v M:=
 RatMC.weak (RatMC.rel h r hS) fun _ hg=>Cv.nw hg r
end
theorem rowGive_c{S:Nat→Prop}{w:World}{v:Value}{qs:List Rat}(hS:Old S w)(h:RowR w S S v qs)(hl:qs.length≤1000000)(hq:∀q∈qs,rl q≤10000000000):
  Con PG N.exact_row_give #[v] w (Ret w fun v' w2=>RatsC w2 (Nw (fun _=>False) w w2) v' qs):=by
 obtain⟨a,c,rfl,hc,-⟩:=h.shape
 refine in_exact_row_give (by simp) ?_
 conv=>whnf
 refine⟨List (List Value)×Iv×World,fun z=>⟨[(3,.o (.w 0 z.1.length)),(6,.o (.v (.slice a qs.length c))),(7,.o (.v (.int .i64 qs.length))),(8,.o (.v (.int .i64 z.1.length)))],[(0,.vec T.Rat 4 z.1.flatten)],1,z.2.1,z.2.2⟩,fun z=>qs.length-z.1.length,
  fun z=>z.1.length≤qs.length∧Bel w.heap.size w z.2.2∧(∀cs∈z.1,cs.length=4)∧(∀cs∈z.1,∀u∈cs,u.oneCell'=true)∧∀(j:Nat) cs q,z.1[j]? =some cs→qs[j]? =some q→Rat4C z.2.2 (Cv (fun _=>False) w.heap.size z.2.1) cs q,?_,?_⟩
 ·intro ρ w' r
  exact⟨([],[],w'),⟨by simp,r.bel,by simp,by simp,by simp⟩,Sub.nil 3 T.Rat 4 rfl (by simp[ScE,SV.sc,At.sc,initE]) r fun ρ1 r1=>
   Sub.gen [] r1 ⟨rfl,trivial⟩ ⟨rfl,rfl,rfl,rfl,trivial⟩ (by simp[ScH,Blk.scopd]) (by simp[ScE,SV.sc,At.sc]) (by rfl) (by simp)⟩
 rintro⟨css,iv,w1⟩ ⟨hi,hw,h4,h1,hat⟩
 dsimp only at hi hw h4 h1 hat ⊢
 have hfl:=flat_len h4
 have hR:RowR w1 S S (.slice a qs.length c) qs:=h.keep fun g hg=>hw.block g (hg.elim (hS g) (hS g))
 conv=>whnf
 refine BrS.mk (fun hb=>?_) (fun hb=>?_)
 ·have hb:css.length<qs.length:=by simpa using hb
  obtain⟨q,hqi⟩:∃q,qs[css.length]? =some q:=⟨_,List.getElem?_eq_getElem hb⟩
  obtain⟨ad,cs,rfl,hF,hl2⟩:=hR.load hqi
  obtain⟨b3,a3,n3,c3,b4,a4,n4,c4,rfl,hF⟩:=hF
  have hrl:=hq q (List.mem_of_getElem? hqi)
  conv=>whnf
  refine⟨ad,rfl,⟨by omega,by omega⟩,?_⟩
  conv=>whnf
  refine⟨[.bool b3,.slice a3 n3 c3,.bool b4,.slice a4 n4 c4],rfl,fun ρ w' r i x hx=>?_,?_⟩
  ·obtain⟨k1,k2⟩:=hl2 i x hx
   rw[Int.toNat_natCast,cell_of_heap (w:=w1) (w2:=w') (by rw[addB,addB];exact Rel.same (S:=S) r hS (.inl k1))]
   exact k2
  conv=>whnf
  refine callE_S (callE_con (Φ:=fun _ w' v w2=>RatC w2 (Nw (fun _=>False) w' w2) v q) (fun ρ w' r=>fgive_c (fun g hg=>by have:=hS g hg;have:=r.baseLe;omega) (FracR.keep hF fun g hg=>Rel.same (S:=S) r hS (.inl hg)) (by omega)) ?_)
  rintro ρ wa v1 wb r he hb2 hO
  have hON:=hO.got (S:=fun _=>False) r.baseLe (iv:=(wa.heap.size,wb.heap.size)::iv) List.mem_cons_self
  replace hat:∀(j:Nat) cs q,css[j]? =some cs→qs[j]? =some q→Rat4C wb (Cv (fun _=>False) w.heap.size ((wa.heap.size,wb.heap.size)::iv)) cs q:=fun j cs q k1 k2=>
   ((hat j cs q k1 k2).keep fun g hg=>by exact(he.block g (Rel.old r (oldF w) g hg)).trans (Rel.same r (oldF w) hg)).weak fun g hg=>hg.cons
  replace hw:=hw.tr hb2
  clear r he hb2 hO hR hF hl2
  generalize (wa.heap.size,wb.heap.size)::iv=iv2 at*
  obtain⟨b5,a5,n5,c5,b6,a6,n6,c6,rfl⟩:=hON.shape
  conv=>whnf
  refine .inl ?_
  conv=>whnf
  refine⟨hfl,by omega,by unfold maxLen;omega,?_⟩
  conv=>whnf
  refine⟨((css.length+1:Nat):Int),by rw[wrap64]<;>omega,?_⟩
  conv=>whnf
  intro ρ3 w3 r3
  have hl3:(css++[[Value.bool b5,.slice a5 n5 c5,.bool b6,.slice a6 n6 c6]]).length=css.length+1:=by simp
  have hf3:(css++[[Value.bool b5,.slice a5 n5 c5,.bool b6,.slice a6 n6 c6]]).flatten=css.flatten++[Value.bool b5,.slice a5 n5 c5,.bool b6,.slice a6 n6 c6]:=by simp
  refine⟨(css++[[.bool b5,.slice a5 n5 c5,.bool b6,.slice a6 n6 c6]],iv2,w3),⟨by dsimp only;rw[hl3];exact hb,hw.tr r3.bel,fun cs hc=>?_,fun cs hc u hu=>?_,fun j cs p k1 k2=>?_⟩,
   Sub.gen [(0,3)] r3 ⟨by dsimp only;rw[hf3];rfl,trivial⟩ ⟨by dsimp only;rw[hl3];rfl,rfl,rfl,by dsimp only;rw[hl3];rfl,trivial⟩ (by simp[ScH,Blk.scopd]) (by simp[ScE,SV.sc,At.sc]) (by rfl) (fun lo hi h=>h),by dsimp only;rw[hl3];omega⟩
  ·rcases List.mem_append.1 hc with hc|hc
   ·exact h4 cs hc
   ·simp at hc;subst hc;rfl
  ·rcases List.mem_append.1 hc with hc|hc
   ·exact h1 cs hc u hu
   ·simp at hc;subst hc;simp at hu;rcases hu with rfl|rfl|rfl|rfl<;>rfl
  ·rcases Nat.lt_or_ge j css.length with hj|hj
   ·rw[List.getElem?_append_left hj]at k1
    exact(hat j cs p k1 k2).keep fun g hg=>Rel.same r3 (oldF w) hg
   ·have hj0:j=css.length:=by have:=(List.getElem?_eq_some_iff.1 k1).1;rw[hl3]at this;omega
    subst hj0
    rw[List.getElem?_append_right (Nat.le_refl _),Nat.sub_self]at k1
    simp at k1
    rw[hqi]at k2
    injection k2 with k2
    subst k1 k2
    exact⟨b5,a5,n5,c5,b6,a6,n6,c6,rfl,hON.rel r3 (oldF w)⟩
 ·have hb:css.length=qs.length:=by
   have:¬css.length<qs.length:=by simpa using hb
   omega
  conv=>whnf
  intro ρe we re
  refine⟨_,rfl,hw.tr re.bel,css,?_,hb,h4,fun j cs q k1 k2=>((hat j cs q k1 k2).keep fun g hg=>Rel.same re (oldF w) hg).weak fun g hg=>Cv.nw hg re⟩
  have:=re.vecSeq (id:=0) (sz:=4) (m:=css.length) rfl hfl (by unfold maxLen;omega) (by decide) (fun u hu=>by
   obtain⟨cs,hc,hu⟩:=List.mem_flatten.1 hu
   exact h1 cs hc u hu)
  rw[←hb]
  exact this.weak fun g hg=>.inr hg

theorem lists_c{S:Nat→Prop}{w:World}{v:Value}{M:List (List Rat)}{n:Nat}(hS:Old S w)(h:MatR w S v M)(hl:M.length≤1000000)(hn:n≤1000000)(hrow:∀r∈M,r.length=n)(hq:∀r∈M,∀q∈r,rl q≤10000000000):
  Con PG N.exact_lists #[v] w (Ret w fun v' w2=>RatMC w2 (Nw (fun _=>False) w w2) v' M):=by
 obtain⟨a,c,rfl,hc,-⟩:=SlicesR.shape h
 refine in_exact_lists (by simp) ?_
 conv=>whnf
 refine⟨List Value×Iv×World,fun z=>⟨[(3,.o (.w 0 z.1.length)),(6,.o (.v (.slice a M.length c))),(7,.o (.v (.int .i64 M.length))),(8,.o (.v (.int .i64 z.1.length)))],[(0,.vec T.LRat 1 z.1)],1,z.2.1,z.2.2⟩,fun z=>M.length-z.1.length,
  fun z=>z.1.length≤M.length∧Bel w.heap.size w z.2.2∧(∀u∈z.1,u.oneCell'=true)∧∀(j:Nat) u qs,z.1[j]? =some u→M[j]? =some qs→RatsC z.2.2 (Cv (fun _=>False) w.heap.size z.2.1) u qs,?_,?_⟩
 ·intro ρ w' r
  exact⟨([],[],w'),⟨by simp,r.bel,by simp,by simp⟩,Sub.nil 3 T.LRat 1 rfl (by simp[ScE,SV.sc,At.sc,initE]) r fun ρ1 r1=>
   Sub.gen [] r1 ⟨rfl,trivial⟩ ⟨rfl,rfl,rfl,rfl,trivial⟩ (by simp[ScH,Blk.scopd]) (by simp[ScE,SV.sc,At.sc]) (by rfl) (by simp)⟩
 rintro⟨rv,iv,w1⟩ ⟨hi,hw,h1,hat⟩
 dsimp only at hi hw h1 hat ⊢
 have hR:MatR w1 S (.slice a M.length c) M:=MatR.keep h fun g hg=>hw.block g (hS g hg)
 conv=>whnf
 refine BrS.mk (fun hb=>?_) (fun hb=>?_)
 ·have hb:rv.length<M.length:=by simpa using hb
  obtain⟨qs,hqi⟩:∃q,M[rv.length]? =some q:=⟨_,List.getElem?_eq_getElem hb⟩
  obtain⟨ad,u,rfl,hRr,k1,k2⟩:=SlicesR.load hR hqi
  obtain⟨au,cu,rfl⟩:=SlicesR.rowOf hRr
  have hql:=hrow qs (List.mem_of_getElem? hqi)
  conv=>whnf
  refine⟨ad,rfl,⟨by omega,by omega⟩,?_⟩
  conv=>whnf
  refine⟨.slice au qs.length cu,fun ρ w' r=>?_,?_⟩
  ·rw[Int.toNat_natCast,cell_of_heap (w:=w1) (w2:=w') (by rw[addB];exact Rel.same (S:=S) r hS (.inl k1))]
   exact k2
  conv=>whnf
  refine callE_S (callE_con (Φ:=fun _ w' v w2=>RatsC w2 (Nw (fun _=>False) w' w2) v qs) (fun ρ w' r=>rowGive_c (fun g hg=>by have:=hS g hg;have:=r.baseLe;omega) (hRr.keep fun g hg=>Rel.same (S:=S) r hS (.inl (hg.elim id id))) (by omega) (hq qs (List.mem_of_getElem? hqi))) ?_)
  rintro ρ wa v1 wb r he hb2 hO
  have hON:=RatsC.got (S:=fun _=>False) hO r.baseLe (iv:=(wa.heap.size,wb.heap.size)::iv) List.mem_cons_self
  replace hat:∀(j:Nat) u qs,rv[j]? =some u→M[j]? =some qs→RatsC wb (Cv (fun _=>False) w.heap.size ((wa.heap.size,wb.heap.size)::iv)) u qs:=fun j u qs k1 k2=>
   RatsC.weak (RatsC.keep (hat j u qs k1 k2) fun g hg=>(he.block g (Rel.old r (oldF w) g hg)).trans (Rel.same r (oldF w) hg)) fun g hg=>hg.cons
  replace hw:=hw.tr hb2
  clear r he hb2 hO hR hRr k1 k2
  generalize (wa.heap.size,wb.heap.size)::iv=iv2 at*
  obtain⟨a5,c5,rfl,-,-⟩:=ListR.shape hON
  conv=>whnf
  refine .inl ?_
  conv=>whnf
  refine⟨by simp,by omega,by unfold maxLen;omega,?_⟩
  conv=>whnf
  refine⟨((rv.length+1:Nat):Int),by rw[wrap64]<;>omega,?_⟩
  conv=>whnf
  intro ρ3 w3 r3
  have hl3:(rv++[Value.slice a5 qs.length c5]).length=rv.length+1:=by simp
  refine⟨(rv++[.slice a5 qs.length c5],iv2,w3),⟨by dsimp only;rw[hl3];exact hb,hw.tr r3.bel,fun u hu=>?_,fun j u p k1 k2=>?_⟩,
   Sub.gen [(0,2)] r3 ⟨rfl,trivial⟩ ⟨by dsimp only;rw[hl3];rfl,rfl,rfl,by dsimp only;rw[hl3];rfl,trivial⟩ (by simp[ScH,Blk.scopd]) (by simp[ScE,SV.sc,At.sc]) (by rfl) (fun lo hi h=>h),by dsimp only;rw[hl3];omega⟩
  ·rcases List.mem_append.1 hu with hu|hu
   ·exact h1 u hu
   ·simp at hu;subst hu;rfl
  ·rcases Nat.lt_or_ge j rv.length with hj|hj
   ·rw[List.getElem?_append_left hj]at k1
    exact RatsC.keep (hat j u p k1 k2) fun g hg=>Rel.same r3 (oldF w) hg
   ·have hj0:j=rv.length:=by have:=(List.getElem?_eq_some_iff.1 k1).1;rw[hl3]at this;omega
    subst hj0
    rw[List.getElem?_append_right (Nat.le_refl _),Nat.sub_self]at k1
    simp at k1
    rw[hqi]at k2
    injection k2 with k2
    subst k1 k2
    exact RatsC.rel hON r3 (oldF w)
 ·have hb:rv.length=M.length:=by
   have:¬rv.length<M.length:=by simpa using hb
   omega
  conv=>whnf
  intro ρe we re
  refine⟨_,rfl,hw.tr re.bel,rv,?_,hb,fun j u qs k1 k2=>RatsC.weak (RatsC.keep (hat j u qs k1 k2) fun g hg=>Rel.same re (oldF w) hg) fun g hg=>Cv.nw hg re⟩
  have:=re.vecSeq (id:=0) (sz:=1) (m:=rv.length) rfl (by simp) (by unfold maxLen;omega) (by decide) h1
  rw[←hb]
  exact this.weak fun g hg=>.inr hg
end Go.Ex

/- Solve of package exact. No condition but sizes. -/
namespace Go.Ex
open Go Go.Sx Go.Proofs

theorem run_neq_nilslice(w:World)(t e:TypeId)(a:Option Addr)(n c n' c':Nat)(h:PG.underlying t=some (.slice e)):
  (binOp .neq t (.slice a n c) (.slice none n' c')).run PG w= .ok (.bool a.isSome) w:=by
 have:∀d,(Op.equalIn (d+1) t (.slice a n c) (.slice none n' c')).run PG w= .ok a.isNone w:=fun d=>by cases a<;>simp[Op.equalIn,run_underlying h]
 simp only[binOp]
 cases a<;>simp[Op.equal,Op.maxDepth,this 9999]
theorem allB{P:Rat→Prop}{l:List Rat}{i:Nat}{q:Rat}(h:∀x∈l,P x)(hq:P q):∀x∈l.set i q,P x:=fun x hx=>by
 rcases List.mem_or_eq_of_mem_set hx with h1|h1
 ·exact h x h1
 ·rw[h1];exact hq
theorem at2_ht{A:List (List Rat)}{h:Nat}(H:Ht A h)(h2:2≤h)(i c:Nat):rl (at2 A i c)+1≤h:=by
 unfold at2
 cases hA:A[i]? with
 |none=>
  have:A.getD i []=[]:=by rw[List.getD,hA];rfl
  rw[this]
  show rl 0+1≤h
  exact Nat.le_trans (by decide) h2
 |some r=>
  have:A.getD i []=r:=by rw[List.getD,hA];rfl
  rw[this]
  exact rl_getD (H.at hA) h2 c
theorem xvecTo_ht{A:List (List Rat)}{h:Nat}(H:Ht A h)(h2:2≤h)(pv:List Nat)(cols i:Nat):∀x∈xvecTo A pv cols i,rl x+1≤h:=by
 induction i with
 |zero=>intro x hx;simp[xvecTo]at hx;rw[hx.2];exact Nat.le_trans (by decide) h2
 |succ i ih=>rw[xvecTo_succ];exact allB ih (at2_ht H h2 _ _)
theorem xvecTo_length(A:List (List Rat))(pv:List Nat)(cols i:Nat):(xvecTo A pv cols i).length=cols:=by
 induction i with
 |zero=>simp[xvecTo]
 |succ i ih=>rw[xvecTo_succ,List.length_set,ih]
theorem kvecTo_ht{A:List (List Rat)}{h:Nat}(H:Ht A h)(h2:2≤h)(pv:List Nat)(cols c i:Nat):∀x∈kvecTo A pv cols c i,rl x+1≤h:=by
 induction i with
 |zero=>
  unfold kvecTo
  refine allB (fun x hx=>?_) (Nat.le_trans (by decide) h2)
  rw[List.eq_of_mem_replicate hx]
  exact Nat.le_trans (by decide) h2
 |succ i ih=>rw[kvecTo_succ];exact allB ih (by rw[rl_neg];exact at2_ht H h2 _ _)
theorem kernelTo_ht{A:List (List Rat)}{h:Nat}(H:Ht A h)(h2:2≤h)(pv:List Nat)(cols c:Nat):∀r∈kernelTo A pv cols c,r.length=cols∧∀x∈r,rl x+1≤h:=fun r hr=>by
 unfold kernelTo at hr
 obtain⟨c',_,rfl⟩:=List.mem_map.1 hr
 exact⟨kvecTo_length _ _ _ _ _,kvecTo_ht H h2 _ _ _ _⟩
theorem kernelTo_le(A:List (List Rat))(pv:List Nat)(cols c:Nat):(kernelTo A pv cols c).length≤c:=by
 unfold kernelTo
 rw[List.length_map]
 exact Nat.le_trans (List.length_filter_le _ _) (by simp)
def errS(M:List (List (Int×Int)))(b:List (Int×Int)):Nat:=if errM M≠0 then errM M else if b.length≠M.length then 11 else 0
/-- what Solve hands back for a system without an error -/
def Solved(M:List (List (Int×Int)))(b:List (Int×Int))(w w2:World)(s:Value):Prop:=∃A pv,(A,pv)=reduceF (allF (valsM M) (b.map ratioP)) (colsM M)∧
 ((∃j vp,pv.length≤j∧j<M.length∧at2 A j (colsM M)≠0∧(∀k,pv.length≤k→k<j→at2 A k (colsM M)=0)∧s= .agg #[.int .i64 1,.slice none 0 0,.slice none 0 0,vp]∧
   RatsC w2 (Nw (fun _=>False) w w2) vp (((A.getD j []).drop (colsM M+1)).map (· *(1 / at2 A j (colsM M)))))∨
  (∃vx vk,(∀k,pv.length≤k→k<M.length→at2 A k (colsM M)=0)∧s= .agg #[.int .i64 0,vx,vk,.slice none 0 0]∧RatsC w2 (Nw (fun _=>False) w w2) vx (xvecTo A pv (colsM M) pv.length)∧
   RatMC w2 (Nw (fun _=>False) w w2) vk (kernelTo A pv (colsM M) (colsM M))))
theorem pubSolve_c{S:Nat→Prop}{w:World}{v u:Value}{M:List (List (Int×Int))}{b:List (Int×Int)}{h0:Nat}(hS:Old S w)(h:RatMR w S v M)(hu:RatsR w S u b)(hf:errS M b=0→(∀r∈M,Few r)∧Few b∧Ht (allF (valsM M) (b.map ratioP)) h0∧2≤h0∧4^M.length*h0≤500000000):
  Con PG N.exact_Solve #[v,u] w (Ret w fun v' w2=>(errS M b≠0∧v'= .tuple #[.agg #[.int .i64 0,.slice none 0 0,.slice none 0 0,.slice none 0 0],.int .i64 (errS M b)])∨
   (errS M b=0∧∃s,v'= .tuple #[s,.int .i64 0]∧Solved M b w w2 s)):=by
 replace h:=RatMR.arg h []
 replace hu:=RatsR.arg hu []
 obtain⟨am,cm,rfl,hcm,-⟩:=SlicesR.shape h
 obtain⟨ab,cb,rfl,hcb,-⟩:=ListR.shape hu
 refine in_exact_Solve (by simp) ?_
 conv=>whnf
 refine callE_S (callE_con (Φ:=fun _ _ v _=>v= .int .i64 ((errS M b:Nat):Int)) (fun ρ w' r=>checkSystem_c (Rel.old r hS) (RatMR.rel h r hS) (RatsR.rel hu r hS)) ?_)
 rintro ρ wa v1 wb r he hw rfl
 replace h:=RatMR.past (iv':=(wa.heap.size,wb.heap.size)::[]) h r hS he fun x hx=>List.mem_cons_of_mem _ hx
 replace hu:=RatsR.past (iv':=(wa.heap.size,wb.heap.size)::[]) hu r hS he fun x hx=>List.mem_cons_of_mem _ hx
 clear r he
 generalize (wa.heap.size,wb.heap.size)::[]=iv at*
 conv=>whnf
 refine BrS.mk (fun h0'=>?_) (fun h0'=>?_)
 ·have h0':errS M b≠0:=fun e=>by rw[e]at h0';simp at h0'
  conv=>whnf
  intro ρe we re
  exact⟨_,rfl,hw.tr re.bel,.inl ⟨h0',rfl⟩⟩
 have h0':errS M b=0:=by
  have h4:((errS M b:Int)==0)=true:=by simpa using h0'
  have:=eq_of_beq h4
  omega
 obtain⟨hf1,hf2,hht,h2,hbd⟩:=hf h0'
 have hE:errM M=0∧b.length=M.length:=by
  unfold errS at h0'
  split at h0'
  ·rename_i h3;exact absurd h0' h3
  ·split at h0'
   ·cases h0'
   ·rename_i h3 h4;exact⟨by omega,by omega⟩
 have hE2:(∀r∈M,r.length=colsM M)∧M.length≤60∧colsM M≤60:=by
  have h3:=hE.1
  unfold errM at h3
  split at h3
  ·rename_i h4
   split at h3
   ·cases h3
   ·exact⟨h4,by omega,by omega⟩
  ·cases h3
 obtain⟨hrow,hRl,hcl⟩:=hE2
 conv=>whnf
 refine callE_S (callE_con (Φ:=fun _ w' v' w2=>∃A pv,(A,pv)=reduceF (allF (valsM M) (b.map ratioP)) (colsM M)∧
   ((∃j vp,pv.length≤j∧j<M.length∧at2 A j (colsM M)≠0∧(∀k,pv.length≤k→k<j→at2 A k (colsM M)=0)∧v'= .agg #[vp,.slice none 0 0,.slice none 0 0]∧(∃a n c,vp= .slice (some a) n c)∧
     RowR w2 (Nw (fun _=>False) w' w2) (Nw (fun _=>False) w' w2) vp (((A.getD j []).drop (colsM M+1)).map (· *(1 / at2 A j (colsM M)))))∨
    (∃vx vk,(∀k,pv.length≤k→k<M.length→at2 A k (colsM M)=0)∧v'= .agg #[.slice none 0 0,vx,vk]∧RowR w2 (Nw (fun _=>False) w' w2) (Nw (fun _=>False) w' w2) vx (xvecTo A pv (colsM M) pv.length)∧
     MatR w2 (Nw (fun _=>False) w' w2) vk (kernelTo A pv (colsM M) (colsM M))))) (fun ρ w' r=>solve_c (Rel.old r hS) (RatMR.rel h r hS) (RatsR.rel hu r hS) hf1 hf2 hrow hE.2 (by omega) (by omega) hht h2 hbd) ?_)
 rintro ρ wc v1 wd r he hb ⟨A,pv,hA,hcase⟩
 have hinv:=reduceF_inv (cols:=colsM M) hht h2
 rw[←hA]at hinv
 obtain⟨hAl,hpl,hpc,hAh⟩:=hinv
 dsimp only at hAl hpl hpc hAh
 rw[allF_length,List.length_map]at hAl hpl
 have hAht:Ht A 500000000:=hAh.mono (Nat.le_trans (Nat.mul_le_mul_right _ (Nat.pow_le_pow_right (by decide) hpl)) hbd)
 replace hw:=hw.tr hb
 rcases hcase with⟨j,vp,hj1,hj2,hj3,hj4,rfl,⟨ap,np,cp,rfl⟩,hP⟩|⟨vx,vk,hz,rfl,hX,hK⟩
 ·have hPN:RowR wd (Cv (fun _=>False) w.heap.size ((wc.heap.size,wd.heap.size)::iv)) (Cv (fun _=>False) w.heap.size ((wc.heap.size,wd.heap.size)::iv)) (.slice (some ap) np cp) _:=hP.weak (fun g hg=>hg.got r.baseLe List.mem_cons_self) fun g hg=>hg.got r.baseLe List.mem_cons_self
  clear r he hb hP h hu
  generalize (wc.heap.size,wd.heap.size)::iv=iv2 at*
  obtain⟨_,_,hpe,-,hpm⟩:=hPN.shape
  have hrj:∀x∈((A.getD j []).drop (colsM M+1)).map (· *(1 / at2 A j (colsM M))),rl x≤10000000000:=fun x hx=>by
   obtain⟨y,hy,rfl⟩:=List.mem_map.1 hx
   have h1:rl y+1≤500000000:=by
    cases hAj:A[j]? with
    |none=>
     have:A.getD j []=[]:=by rw[List.getD,hAj];rfl
     rw[this]at hy
     simp at hy
    |some r=>
     have:A.getD j []=r:=by rw[List.getD,hAj];rfl
     rw[this]at hy
     exact hAht.at hAj y (List.mem_of_mem_drop hy)
   have h2':=rl_mul y (1 / at2 A j (colsM M))
   have h3:=rl_inv hj3
   have h4:=at2_ht hAht (by decide) j (colsM M)
   omega
  have hlj:(((A.getD j []).drop (colsM M+1)).map (· *(1 / at2 A j (colsM M)))).length≤1000000:=by
   have hL0:Len (colsM M+1+M.length) (allF (valsM M) (b.map ratioP)):=fun r hr=>by
    obtain⟨i,hi⟩:=List.getElem?_of_mem hr
    simp only[allF,List.getElem?_mapIdx,Option.map_eq_some_iff,List.getElem?_map]at hi
    obtain⟨r1,⟨r0,hr0,rfl⟩,rfl⟩:=hi
    have:=hrow r0 (List.mem_of_getElem? hr0)
    simp[unitL]
    omega
   have hL:=reduceF_len (cols:=colsM M) hL0
   rw[←hA]at hL
   rw[List.length_map,List.length_drop,hL.getD (show j<A.length by omega)]
   omega
  conv=>whnf
  refine⟨true,fun ρ w1 o1 o2=>by simp[eqGuard,SV.den,At.den,run_neq_nilslice w1 T.row T.fraction (some ap) np cp 0 0 und_row],?_⟩
  conv=>whnf
  refine callE_S (callE_con (Φ:=fun _ w' v w2=>RatsC w2 (Nw (fun _=>False) w' w2) v (((A.getD j []).drop (colsM M+1)).map (· *(1 / at2 A j (colsM M))))) (fun ρ w' r=>rowGive_c (Rel.old r (oldF w)) (hPN.rel r (oldF w) (oldF w)) hlj hrj) ?_)
  rintro ρ wa v1 wb r he hb hO
  have hON:=RatsC.got (S:=fun _=>False) hO r.baseLe (iv:=(wa.heap.size,wb.heap.size)::iv2) List.mem_cons_self
  replace hw:=hw.tr hb
  clear r he hb hO hPN
  generalize (wa.heap.size,wb.heap.size)::iv2=iv3 at*
  obtain⟨a5,c5,rfl,-,-⟩:=ListR.shape hON
  conv=>whnf
  intro ρe we re
  exact⟨_,rfl,hw.tr re.bel,.inr ⟨h0',_,rfl,A,pv,hA,.inl ⟨j,_,hj1,hj2,hj3,hj4,rfl,RatsC.out hON re (oldF w)⟩⟩⟩
 ·have hXN:RowR wd (Cv (fun _=>False) w.heap.size ((wc.heap.size,wd.heap.size)::iv)) (Cv (fun _=>False) w.heap.size ((wc.heap.size,wd.heap.size)::iv)) vx _:=hX.weak (fun g hg=>hg.got r.baseLe List.mem_cons_self) fun g hg=>hg.got r.baseLe List.mem_cons_self
  have hKN:=MatR.got (S:=fun _=>False) hK r.baseLe (iv:=(wc.heap.size,wd.heap.size)::iv) List.mem_cons_self
  clear r he hb hX hK h hu
  generalize (wc.heap.size,wd.heap.size)::iv=iv2 at*
  obtain⟨ax,cx,rfl,-,-⟩:=hXN.shape
  obtain⟨ak,ck,rfl,-,-⟩:=SlicesR.shape hKN
  have hxl:=xvecTo_length A pv (colsM M) pv.length
  have hxh:=xvecTo_ht hAht (by decide) pv (colsM M) pv.length
  have hkh:=kernelTo_ht hAht (by decide) pv (colsM M) (colsM M)
  have hkl:=kernelTo_le A pv (colsM M) (colsM M)
  conv=>whnf
  refine⟨false,fun ρ w1 o1 o2=>by simp[eqGuard,SV.den,At.den,run_neq_nilslice w1 T.row T.fraction none 0 0 0 0 und_row],?_⟩
  conv=>whnf
  refine drawn_of_pi hτ hmix [.x 0,.x 1,.x 3,.x 4,.x 2,.x 5,.x 6,.x 7,.x 8] (by kernel_rfl) (by kernel_rfl) ?_
  conv=>whnf
  refine callE_con (Φ:=fun _ w' v w2=>RatsC w2 (Nw (fun _=>False) w' w2) v (xvecTo A pv (colsM M) pv.length)) (fun ρ w' r=>rowGive_c (Rel.old r (oldF w)) (hXN.rel r (oldF w) (oldF w)) (by rw[hxl];omega) (fun q hq=>by have:=hxh q hq;omega)) ?_
  rintro ρ wa v1 wb r he hb hO
  have hON:=RatsC.got (S:=fun _=>False) hO r.baseLe (iv:=(wa.heap.size,wb.heap.size)::iv2) List.mem_cons_self
  replace hKN:=MatR.past (iv':=(wa.heap.size,wb.heap.size)::iv2) hKN r (oldF w) he fun x hx=>List.mem_cons_of_mem _ hx
  replace hw:=hw.tr hb
  clear r he hb hO hXN
  generalize (wa.heap.size,wb.heap.size)::iv2=iv3 at*
  obtain⟨a5,c5,rfl,-,-⟩:=ListR.shape hON
  conv=>whnf
  refine callE_con (Φ:=fun _ w' v w2=>RatMC w2 (Nw (fun _=>False) w' w2) v (kernelTo A pv (colsM M) (colsM M))) (fun ρ w' r=>lists_c (Rel.old r (oldF w)) (MatR.rel hKN r (oldF w)) (by omega) (show colsM M≤1000000 by omega) (fun r hr=>(hkh r hr).1) (fun r hr q hq=>by have:=(hkh r hr).2 q hq;omega)) ?_
  rintro ρ wa v1 wb r he hb hO
  have hPN:=RatMC.got (S:=fun _=>False) hO r.baseLe (iv:=(wa.heap.size,wb.heap.size)::iv3) List.mem_cons_self
  replace hON:=RatsC.past (iv':=(wa.heap.size,wb.heap.size)::iv3) hON r (oldF w) he fun x hx=>List.mem_cons_of_mem _ hx
  replace hw:=hw.tr hb
  clear r he hb hO hKN
  generalize (wa.heap.size,wb.heap.size)::iv3=iv4 at*
  obtain⟨a6,c6,rfl,-,-⟩:=SlicesR.shape hPN
  conv=>whnf
  intro ρe we re
  exact⟨_,rfl,hw.tr re.bel,.inr ⟨h0',_,rfl,A,pv,hA,.inr ⟨_,_,hz,rfl,RatsC.out hON re (oldF w),RatMC.out hPN re (oldF w)⟩⟩⟩
end Go.Ex

/- Columns of 16 bits: carrying, spreading, packing. No condition. -/
namespace Go.Ex

/-- the value of columns -/
def colval:List Int→Int
 |[]=>0
 |c::r=>c+65536*colval r
def up(k:Nat):Int:=65536^k
theorem up_succ(k:Nat):up (k+1)=65536*up k:=by rw[up,Int.pow_succ,Int.mul_comm];rfl
theorem up_pos(k:Nat):0<up k:=Int.pow_pos (by decide)
theorem colval_append(a b:List Int):colval (a++b)=colval a+up a.length*colval b:=by
 induction a with
 |nil=>simp[colval,up]
 |cons c r ih=>rw[List.cons_append,colval,ih,colval,List.length_cons,up_succ,Int.mul_add,←Int.mul_assoc];omega
theorem colval_neg(a:List Int):colval (a.map (- ·))= -colval a:=by
 induction a with
 |nil=>rfl
 |cons c r ih=>rw[List.map_cons,colval,ih,colval];omega
/-- digits: from 0 to 65535 -/
def Dg(l:List Nat):Prop:=∀d∈l,d<65536
def dval(l:List Nat):Int:=colval (l.map fun d:Nat=>(d:Int))
theorem dval_bound{l:List Nat}(h:Dg l):0≤dval l∧dval l<up l.length:=by
 induction l with
 |nil=>exact⟨Int.le_refl _,by decide⟩
 |cons d r ih=>
  have h1:=ih fun x hx=>h x (List.mem_cons_of_mem _ hx)
  have h2:=h d List.mem_cons_self
  have e:dval (d::r)=(d:Int)+65536*dval r:=rfl
  rw[e,List.length_cons,up_succ]
  omega
/-- what is too much or too little is carried on -/
def carryTo:List Int→Int→List Nat×Int
 |[],k=>([],k)
 |c::r,k=>(((c+k) % 65536).toNat::(carryTo r ((c+k) / 65536)).1,(carryTo r ((c+k) / 65536)).2)
theorem carryTo_spec:∀(cs:List Int) (k:Int),colval cs+k=dval (carryTo cs k).1+up cs.length*(carryTo cs k).2∧Dg (carryTo cs k).1∧(carryTo cs k).1.length=cs.length
 |[],k=>⟨by simp[colval,carryTo,dval,up],by simp[carryTo,Dg],rfl⟩
 |c::r,k=>by
  obtain⟨h1,h2,h3⟩:=carryTo_spec r ((c+k) / 65536)
  have h4:0≤(c+k) % 65536:=Int.emod_nonneg _ (by decide)
  have h5:(c+k) % 65536<65536:=Int.emod_lt_of_pos _ (by decide)
  have h6:=Int.mul_ediv_add_emod (c+k) 65536
  refine⟨?_,fun d hd=>?_,by simp[carryTo,h3]⟩
  ·have e:dval (carryTo (c::r) k).1=(((c+k) % 65536).toNat:Int)+65536*dval (carryTo r ((c+k) / 65536)).1:=rfl
   have e2:(carryTo (c::r) k).2=(carryTo r ((c+k) / 65536)).2:=rfl
   rw[e,e2,colval,List.length_cons,up_succ,Int.mul_assoc]
   omega
  ·have e:(carryTo (c::r) k).1=((c+k) % 65536).toNat::(carryTo r ((c+k) / 65536)).1:=rfl
   rw[e]at hd
   rcases List.mem_cons.1 hd with rfl|hd
   ·omega
   ·exact h2 d hd
theorem carryTo_snoc(cs:List Int)(c k:Int):carryTo (cs++[c]) k=((carryTo cs k).1++[((c+(carryTo cs k).2) % 65536).toNat],(c+(carryTo cs k).2) / 65536):=by
 induction cs generalizing k with
 |nil=>rfl
 |cons d r ih=>simp only[List.cons_append,carryTo,ih]
theorem carryTo_small:∀(cs:List Int) (k:Int),(∀c∈cs,-1152921504606846976≤c∧c≤1152921504606846976)→ -1152921504606846976≤k→k≤1152921504606846976→ -1152921504606846976≤(carryTo cs k).2∧(carryTo cs k).2≤1152921504606846976
 |[],k,_,h1,h2=>⟨h1,h2⟩
 |c::r,k,h,h1,h2=>by
  have hc:=h c List.mem_cons_self
  exact carryTo_small r _ (fun x hx=>h x (List.mem_cons_of_mem _ hx)) (by omega) (by omega)
/-- a number that is not negative, in columns -/
def spreadN(n:Nat):List Nat:=if h:n=0 then []else n % 65536::spreadN (n / 65536)
termination_by n
decreasing_by omega
theorem spreadN_zero:spreadN 0=[]:=by rw[spreadN];rfl
theorem spreadN_pos{n:Nat}(h:0<n):spreadN n=n % 65536::spreadN (n / 65536):=by
 rw[spreadN,dif_neg (by omega)]
theorem spreadN_spec(n:Nat):dval (spreadN n)=n∧Dg (spreadN n):=by
 induction n using Nat.strongRecOn with
 |_ n ih=>
  rcases Nat.eq_zero_or_pos n with h|h
  ·subst h;rw[spreadN_zero];exact⟨rfl,by simp[Dg]⟩
  ·rw[spreadN_pos h]
   obtain⟨h1,h2⟩:=ih (n / 65536) (by omega)
   refine⟨?_,fun d hd=>?_⟩
   ·have e:dval (n % 65536::spreadN (n / 65536))=((n % 65536:Nat):Int)+65536*dval (spreadN (n / 65536)):=rfl
    rw[e,h1]
    omega
   ·rcases List.mem_cons.1 hd with rfl|hd
    ·omega
    ·exact h2 d hd
theorem spreadN_len{n:Nat}:∀{k:Nat},n<65536^k→(spreadN n).length≤k
 |0,h=>by
  have:n=0:=by simp at h;exact h
  subst this
  rw[spreadN_zero];simp
 |k+1,h=>by
  rcases Nat.eq_zero_or_pos n with h0|h0
  ·subst h0;rw[spreadN_zero];simp
  ·rw[spreadN_pos h0,List.length_cons]
   have:=spreadN_len (n:=n / 65536) (k:=k) (by rw[Nat.pow_succ]at h;exact Nat.div_lt_of_lt_mul (by rw[Nat.mul_comm];exact h))
   omega
/-- limbs out of columns -/
def packN:List Nat→List Nat
 |[]=>[]
 |[a]=>[a]
 |a::b::r=>(a+65536*b)::packN r
theorem packN_spec:∀(l:List Nat),Dg l→(val (packN l):Int)=dval l∧Lm (packN l)∧(packN l).length=(l.length+1) / 2
 |[],_=>⟨rfl,by simp[packN,Lm],rfl⟩
 |[a],h=>by
  have:=h a (by simp)
  exact⟨by simp[packN,val,dval,colval],fun x hx=>by simp[packN]at hx;omega,by simp[packN]⟩
 |a::b::r,h=>by
  obtain⟨h1,h2,h3⟩:=packN_spec r fun x hx=>h x (List.mem_cons_of_mem _ (List.mem_cons_of_mem _ hx))
  have ha:=h a (by simp)
  have hb:=h b (by simp)
  refine⟨?_,fun x hx=>?_,?_⟩
  ·have e:dval (a::b::r)=(a:Int)+65536*((b:Int)+65536*dval r):=rfl
   rw[e,←h1,packN,val]
   simp only[Int.natCast_add,Int.natCast_mul]
   omega
  ·rw[packN]at hx
   rcases List.mem_cons.1 hx with rfl|hx
   ·omega
   ·exact h2 x hx
  ·rw[packN,List.length_cons,h3]
   simp only[List.length_cons]
   omega
/-- so many limbs out of columns -/
def pk(ds:List Nat)(k:Nat):List Nat:=(List.range k).map fun i=>ds.getD (2*i) 0+65536*ds.getD (2*i+1) 0
theorem pk_succ(ds:List Nat)(k:Nat):pk ds (k+1)=pk ds k++[ds.getD (2*k) 0+65536*ds.getD (2*k+1) 0]:=by simp[pk,List.range_succ]
theorem pk_length(ds:List Nat)(k:Nat):(pk ds k).length=k:=by simp[pk]
theorem pk_all:∀(ds:List Nat),pk ds ((ds.length+1) / 2)=packN ds
 |[]=>rfl
 |[a]=>by simp[pk,packN,List.range_succ]
 |a::b::r=>by
  have ih:=pk_all r
  have e:((a::b::r).length+1) / 2=(r.length+1) / 2+1:=by simp only[List.length_cons];omega
  rw[e,packN,←ih,pk,List.range_succ_eq_map,List.map_cons,List.map_map,pk]
  congr 1
theorem pk_lm{ds:List Nat}(h:Dg ds)(k:Nat):Lm (pk ds k):=fun x hx=>by
 obtain⟨i,_,rfl⟩:=List.mem_map.1 hx
 have key:∀j,ds.getD j 0<65536:=fun j=>by
  rw[List.getD]
  cases hj:ds[j]? with
  |none=>simp
  |some d=>simp;exact h d (List.mem_of_getElem? hj)
 have h1:=key (2*i)
 have h2:=key (2*i+1)
 omega
end Go.Ex

/- The reference's columns: spread, carried, packed. No condition but sizes. -/
namespace Go.Ex
open Go Go.Sx Go.Proofs

/-- columns are read -/
def ColsR(w:World)(S:Nat→Prop)(v:Value)(cs:List Int):Prop:=SeqR w S 1 v (cs.map (Value.int .i64)) cs.length
theorem ColsR.keep{S:Nat→Prop}{w w2:World}{v:Value}{cs:List Int}(h:ColsR w S v cs)(hk:∀g,S g→w2.heap[g]? =w.heap[g]?):ColsR w2 S v cs:=SeqR.keep h hk
theorem ColsR.weak{S S':Nat→Prop}{w:World}{v:Value}{cs:List Int}(h:ColsR w S v cs)(hk:∀g,S g→S' g):ColsR w S' v cs:=SeqR.weak h hk
theorem ColsR.load{S:Nat→Prop}{w:World}{a:Option Addr}{n c j:Nat}{cs:List Int}{x:Int}(h:ColsR w S (.slice a n c) cs)(hx:cs[j]? =some x):∃ad,a=some ad∧S ad.block∧w.cell? (ad.add (j*1))=some (.int .i64 x):=by
 obtain⟨_,_,_,a',c',e,_,h4⟩:=h
 injection e with e1 e2 e3
 subst e1
 obtain⟨ad,k1,k2,k3⟩:=h4 j (.int .i64 x) (by rw[List.getElem?_map,hx];rfl)
 exact⟨ad,k1,k2,by rw[Nat.mul_one];exact k3⟩
theorem ColsR.shape{S:Nat→Prop}{w:World}{v:Value}{cs:List Int}(h:ColsR w S v cs):∃a c,v= .slice a cs.length c∧cs.length≤c:=by
 obtain⟨_,_,_,a',c',e,h3,_⟩:=h
 exact⟨a',c',e,h3⟩
/-- digits as columns -/
def dcols(ds:List Nat):List Int:=ds.map fun d:Nat=>(d:Int)
theorem dcols_length(ds:List Nat):(dcols ds).length=ds.length:=by simp[dcols]
end Go.Ex
namespace Go.Sx
open Go Go.Ex Go.Proofs
/-- a growing list of one's own, as a row that is held raw -/
theorem Rel.vecRow{H:Hp}{nx:Nat}{iv:Iv}{B:Nat}{w w':World}{ρ:Nat→Sx.Val}(r:Rel H nx iv B w ρ w'){id t m sz:Nat}{cs:List Value}(h:getH H id=some (.vec t sz cs))(hm:cs.length=m*sz)(hs:0<sz):
  w'.ownsRow B t sz ((At.w id m).den ρ) m cs:=by
 rcases r.vec id t sz _ h with⟨hn,rfl⟩|⟨hn,spare,hb,hc,hcap⟩
 ·have hm0:m=0:=by
   rcases Nat.eq_zero_or_pos m with h|h
   ·exact h
   ·have:=Nat.mul_pos h hs;simp at hm;omega
  subst hm0
  have:(At.w id 0).den ρ= .slice none 0 0:=by simp[At.den,hn]
  rw[this]
  exact World.ownsRow_nil _ _ _ _
 ·have hv:(At.w id m).den ρ= .slice (some ⟨(ρ id).g,0,none⟩) m (ρ id).cap:=by simp[At.den,hn]
  have h1:(cs++spare).length=cs.length+spare.length:=List.length_append
  rw[hv]
  refine⟨hm,.inr ⟨(ρ id).g,(ρ id).cap,_,rfl,(r.low id _ h hn).1,hb,?_,hcap,by simpa using hc,?_⟩⟩
  ·have h2:m*sz≤(ρ id).cap*sz:=by omega
   exact Nat.le_of_mul_le_mul_right h2 hs
  ·rw[←hm];simp
end Go.Sx
namespace Go.Ex
open Go Go.Sx Go.Proofs

theorem spread_c(n:Nat)(w:World)(hn:n≤9223372036854775807):Con PG N.ref01_spread #[.int .i64 n] w (Ret w fun v w2=>ColsR w2 (Nw (fun _=>False) w w2) v (dcols (spreadN n))):=by
 refine in_ref01_spread (by simp) ?_
 conv=>whnf
 refine⟨Nat×List Nat×World,fun z=>⟨[(0,.o (.v (.int .i64 z.1))),(3,.o (.w 0 z.2.1.length))],[(0,.vec T.int 1 ((dcols z.2.1).map (Value.int .i64)))],1,[],z.2.2⟩,fun z=>z.1,
  fun z=>Bel w.heap.size w z.2.2∧z.1≤n∧z.2.1.length≤n-z.1∧z.2.1++spreadN z.1=spreadN n,?_,?_⟩
 ·intro ρ w' r
  exact⟨(n,[],w'),⟨r.bel,Nat.le_refl _,by simp,by simp⟩,Sub.nil 3 T.int 1 rfl (by simp[ScE,SV.sc,At.sc,initE]) r fun ρ1 r1=>
   Sub.gen [] r1 ⟨rfl,trivial⟩ ⟨rfl,rfl,trivial⟩ (by simp[ScH,Blk.scopd]) (by simp[ScE,SV.sc,At.sc]) (by rfl) (by simp)⟩
 rintro⟨k,ds,w1⟩ ⟨hw,hk,hl,hs⟩
 dsimp only at hw hk hl hs ⊢
 have hdl:=dcols_length ds
 conv=>whnf
 refine BrS.mk (fun h=>?_) (fun h=>?_)
 ·have h:0<k:=by
   have:(k:Int)>0:=of_decide_eq_true h
   omega
  conv=>whnf
  refine⟨by decide,((k % 65536:Nat):Int),rem64n k 65536,?_⟩
  conv=>whnf
  refine .inl ?_
  conv=>whnf
  refine⟨by simp[hdl],?_,by have h1:=congrArg List.length hs;rw[List.length_append]at h1;have h2:=spreadN_len (n:=n) (k:=4) (by omega);unfold maxLen;omega,?_⟩
  ·have h1:=congrArg List.length hs
   rw[List.length_append]at h1
   have h2:=spreadN_len (n:=n) (k:=4) (by omega)
   omega
  conv=>whnf
  refine⟨by decide,((k / 65536:Nat):Int),quoI64n (by omega),?_⟩
  conv=>whnf
  intro ρ3 w3 r3
  have hl5:(ds++[k % 65536]).length=ds.length+1:=by simp
  have hm5:(dcols (ds++[k % 65536])).map (Value.int .i64)=(dcols ds).map (Value.int .i64)++[.int .i64 ((k % 65536:Nat):Int)]:=by simp[dcols]
  refine⟨(k / 65536,ds++[k % 65536],w3),⟨hw.tr r3.bel,by dsimp only;omega,by dsimp only;rw[hl5];omega,?_⟩,
   Sub.gen [(0,2)] r3 ⟨by rw[hm5];rfl,trivial⟩ ⟨rfl,by dsimp only;rw[hl5];rfl,trivial⟩ (by simp[ScH,Blk.scopd]) (by simp[ScE,SV.sc,At.sc]) (by rfl) (fun lo hi h=>h),by dsimp only;omega⟩
  dsimp only
  rw[←hs,spreadN_pos h]
  simp
 ·have h:k=0:=by
   have:¬(k:Int)>0:=of_decide_eq_false h
   omega
  subst h
  rw[spreadN_zero,List.append_nil]at hs
  subst hs
  conv=>whnf
  intro ρe we re
  refine⟨_,rfl,hw.tr re.bel,?_⟩
  have:=re.vecSeq (id:=0) (sz:=1) (m:=(spreadN n).length) rfl (by simp[hdl]) (by have h2:=spreadN_len (n:=n) (k:=4) (by omega);unfold maxLen;omega) (by decide) (by intro u hu;simp at hu;obtain⟨_,_,rfl⟩:=hu;rfl)
  unfold ColsR
  rw[hdl]
  exact this.weak fun g hg=>.inr hg
end Go.Ex
