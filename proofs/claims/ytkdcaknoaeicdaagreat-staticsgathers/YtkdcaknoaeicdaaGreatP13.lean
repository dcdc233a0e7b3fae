/- A part of the proof: texts X148 to X164. Each tells its conditions in its theorems. -/
import Derived.Test.YtkdcaknoaeicdaaGreatP8
import Derived.Test.YtkdcaknoaeicdaaGreatP12
/- The bracket: what it is and what it bears. No condition. -/
namespace Go.Ex
open Go Go.Sx Go.Proofs
def ldsB:List Ld:=[(2,0,0,-12)]
theorem redB_of{M:List (List Rat)}{cols h:Nat}(h1:∀i,i<M.length+1→∀r∈(redTo M cols i).1,∀q∈r,rl q+1≤h)(h2:∀i,i<M.length→∀k,k<cols+1→∀q∈clrTo (redTo M cols i).1 (redTo M cols i).2.1 (M.getD i []) k,rl q+1≤h):RedB M cols h:=
 ⟨fun i hi=>h1 i (by omega),fun i hi k hk=>h2 i hi k (by omega)⟩
def frcB:List Rat:=[-3,3,9,0,0,-9,0,12,0]
def dspB:List Rat:=[0,0,0,0,0,0,-1,0,-3 / 2]
theorem br_err:errFL bracketF ldsB=0:=by decide +kernel
set_option maxRecDepth 100000
theorem br_calm:Calm bracketF 2:=by
 refine⟨errF_ok (errFL_zero br_err).1,by decide,redB_of (by decide +kernel) (by decide +kernel),?_,by decide +kernel,by decide⟩
 unfold Ht
 decide +kernel
theorem br_borne:Borne bracketF ldsB 2 frcB:=⟨errL_ok (errFL_zero br_err).2,redB_of (by decide +kernel) (by decide +kernel),by decide +kernel⟩
theorem br_rank:(reduceS (tabF bracketF) bracketF.cols).1.length=9:=by decide +kernel
theorem br_b3:RedB (wideF (transF (tabF bracketF) bracketF.cols) (scaleF (eachF frcB (flexF bracketF)) (-1))) 10 2:=redB_of (by decide +kernel) (by decide +kernel)
theorem br_u:solveS (transF (tabF bracketF) bracketF.cols) (scaleF (eachF frcB (flexF bracketF)) (-1)) 9=some dspB:=by decide +kernel
end Go.Ex

/- The chapter's bracket as it is made; integers as fractions. Printed by program. No condition. -/
namespace Go.Ex
open Go Go.Sx Go.Proofs

def supC(m:Nat):List Value:=[.int .i64 ((m / 3:Nat):Int),.int .i64 ((m % 3:Nat):Int),.bool false,.slice none 0 0,.bool false,.slice none 0 0]
def supsV(m:Nat):List (List Value):=(List.range m).map supC
theorem supsV_succ{i k:Nat}(hk:k<3):(supsV (3*i+k)).flatten++[.int .i64 (i:Int),.int .i64 (k:Int),.bool false,.slice none 0 0,.bool false,.slice none 0 0]=(supsV (3*i+(k+1))).flatten:=by
 rw[supsV,supsV,←Nat.add_assoc,List.range_succ,List.map_append,List.flatten_append]
 simp only[List.map_cons,List.map_nil,supC,show(3*i+k) / 3=i by omega,show(3*i+k) % 3=k by omega]
 simp
theorem supsV_len(m:Nat):(supsV m).length=m:=by rw[supsV,List.length_map,List.length_range]
theorem supsV_six(m:Nat):∀cs∈supsV m,cs.length=6:=fun cs hc=>by
 obtain⟨j,_,rfl⟩:=List.mem_map.1 hc
 rfl
theorem RatL.zeroV{S:Nat→Prop}{w:World}:RatL w S (.agg #[.bool false,.slice none 0 0,.bool false,.slice none 0 0]) 0:=RatL.zero
theorem bracket_c(w:World):Con PG N.law05_Bracket #[] w (Ret w fun v' w2=>∃vn vb vs,v'= .agg #[vn,vb,vs]∧FrameR w2 (Nw (fun _=>False) w w2) vn vb vs bracketF):=by
 have hw:Bel w.heap.size w w:=Bel.refl
 refine in_law05_Bracket (by simp) ?_
 conv=>whnf
 refine callE_S (cE hw (Φ:=fun _ w' v w2=>RatC w2 (Nw (fun _=>False) w' w2) v ((1:Int):Rat)) (fun ρ w' r=>rWhole_c 1 w' (by decide)) ?_)
 rintro ρ wa1 v1 wb1 iv1 r he hw h_ hn
 have hd:=hn.got (S:=fun _=>False) r.baseLe (mN h_)
 clear r
 obtain⟨s1_0,s1_1,s1_2,s1_3,s1_4,s1_5,s1_6,s1_7,rfl⟩:=hd.shape
 conv=>whnf
 refine⟨Nat×World,fun z=>⟨[(0,.o (.p 0 0)),(2,.o (.p 4 0)),(3,.o (.v (.int .i64 ((z.1:Nat):Int))))],[(5,.vec T.Support 6 (supsV (3*z.1)).flatten),(4,.box T.Frame [.s 2 0 3 3,.s 3 0 2 2,.w 5 (3*z.1)]),(3,.box T.Bar [.v (.int .i64 0),.v (.int .i64 2),.v (.bool s1_0),.v (.slice s1_1 s1_2 s1_3),.v (.bool s1_4),.v (.slice s1_5 s1_6 s1_7),.v (.int .i64 1),.v (.int .i64 2),.v (.bool s1_0),.v (.slice s1_1 s1_2 s1_3),.v (.bool s1_4),.v (.slice s1_5 s1_6 s1_7)]),(2,.box T.Node [.v (.int .i64 0),.v (.int .i64 0),.v (.int .i64 0),.v (.int .i64 0),.v (.int .i64 0),.v (.int .i64 4),.v (.int .i64 3),.v (.int .i64 0),.v (.int .i64 0)]),(0,.box T.Frame [.v (.slice none 0 0),.v (.slice none 0 0),.v (.slice none 0 0)])],6,iv1,z.2⟩,fun z=>2-z.1,
  fun z=>z.1≤2∧Bel w.heap.size w z.2∧RatC z.2 (Cv (fun _=>False) w.heap.size iv1) (.agg #[.bool s1_0,.slice s1_1 s1_2 s1_3,.bool s1_4,.slice s1_5 s1_6 s1_7]) ((1:Int):Rat),?_,?_⟩
 ·intro ρ w' r
  exact⟨(0,w'),⟨Nat.zero_le _,hw.tr r.bel,hd.rel r (oldF w)⟩,Sub.nilB 4 2 T.Support 6 rfl rfl (by simp[ScE,SV.sc,At.sc,initE]) r fun ρ1 r1=>Sub.gen [] r1 ⟨rfl,rfl,rfl,rfl,rfl,trivial⟩ ⟨rfl,rfl,rfl,trivial⟩ (by simp[ScH,Blk.scopd,At.sc]) (by simp[ScE,SV.sc,At.sc,initE]) (by rfl) (fun lo hi h=>h)⟩
 clear hw hd
 rintro⟨i,w1⟩ ⟨hi,hw,hd⟩
 dsimp only at hi hw hd ⊢
 conv=>whnf
 refine BrS.mk (fun hib=>?_) (fun hib=>?_)
 ·have hib:i<2:=by have:=of_decide_eq_true hib;omega
  conv=>whnf
  refine⟨Nat×World,fun z=>⟨[(0,.o (.p 0 0)),(2,.o (.p 4 0)),(3,.o (.v (.int .i64 ((i:Nat):Int)))),(4,.o (.v (.int .i64 ((z.1:Nat):Int))))],[(5,.vec T.Support 6 (supsV (3*i+z.1)).flatten),(4,.box T.Frame [.s 2 0 3 3,.s 3 0 2 2,.w 5 (3*i+z.1)]),(3,.box T.Bar [.v (.int .i64 0),.v (.int .i64 2),.v (.bool s1_0),.v (.slice s1_1 s1_2 s1_3),.v (.bool s1_4),.v (.slice s1_5 s1_6 s1_7),.v (.int .i64 1),.v (.int .i64 2),.v (.bool s1_0),.v (.slice s1_1 s1_2 s1_3),.v (.bool s1_4),.v (.slice s1_5 s1_6 s1_7)]),(2,.box T.Node [.v (.int .i64 0),.v (.int .i64 0),.v (.int .i64 0),.v (.int .i64 0),.v (.int .i64 0),.v (.int .i64 4),.v (.int .i64 3),.v (.int .i64 0),.v (.int .i64 0)]),(0,.box T.Frame [.v (.slice none 0 0),.v (.slice none 0 0),.v (.slice none 0 0)])],6,iv1,z.2⟩,fun z=>3-z.1,
   fun z=>z.1≤3∧Bel w.heap.size w z.2∧RatC z.2 (Cv (fun _=>False) w.heap.size iv1) (.agg #[.bool s1_0,.slice s1_1 s1_2 s1_3,.bool s1_4,.slice s1_5 s1_6 s1_7]) ((1:Int):Rat),?_,?_⟩
  ·intro ρ w' r3
   exact⟨(0,w'),⟨Nat.zero_le _,hw.tr r3.bel,hd.rel r3 (oldF w)⟩,Sub.gen [] r3 ⟨rfl,rfl,rfl,rfl,rfl,trivial⟩ ⟨rfl,rfl,rfl,rfl,trivial⟩ (by simp[ScH,Blk.scopd,At.sc]) (by simp[ScE,SV.sc,At.sc,initE]) (by rfl) (fun lo hi h=>h)⟩
  clear hw hd
  rintro⟨k,w3⟩ ⟨hk,hw,hd⟩
  dsimp only at hk hw hd ⊢
  conv=>whnf
  refine BrS.mk (fun hkb=>?_) (fun hkb=>?_)
  ·have hkb:k<3:=by have:=of_decide_eq_true hkb;omega
   have hs:=supsV_succ (i:=i) hkb
   have hfl:=flatk_len (supsV_six (3*i+k))
   have hsl:=supsV_len (3*i+k)
   conv=>whnf
   refine .inl ?_
   conv=>whnf
   refine⟨by omega,by omega,by unfold maxLen;omega,?_⟩
   conv=>whnf
   refine⟨((k+1:Nat):Int),by rw[wrap64]<;>omega,?_⟩
   conv=>whnf
   intro ρ3 w6 r3
   exact⟨(k+1,w6),⟨hkb,hw.tr r3.bel,hd.rel r3 (oldF w)⟩,Sub.gen [(5,7)] r3 ⟨by dsimp only;rw[←hs];rfl,rfl,rfl,rfl,rfl,trivial⟩ ⟨rfl,rfl,rfl,rfl,trivial⟩ (by simp[ScH,Blk.scopd,At.sc]) (by simp[ScE,SV.sc,At.sc,initE]) (by rfl) (fun lo hi h=>h),by dsimp only;omega⟩
  have hkb:k=3:=by have:=of_decide_eq_false hkb;omega
  subst hkb
  conv=>whnf
  refine⟨((i+1:Nat):Int),by rw[wrap64]<;>omega,?_⟩
  conv=>whnf
  intro ρ3 w6 r3
  exact⟨(i+1,w6),⟨hib,hw.tr r3.bel,hd.rel r3 (oldF w)⟩,Sub.gen [] r3 ⟨rfl,rfl,rfl,rfl,rfl,trivial⟩ ⟨rfl,rfl,rfl,trivial⟩ (by simp[ScH,Blk.scopd,At.sc]) (by simp[ScE,SV.sc,At.sc,initE]) (by rfl) (fun lo hi h=>h),by dsimp only;omega⟩
 have hib:i=2:=by have:=of_decide_eq_false hib;omega
 subst hib
 conv=>whnf
 refine .inl ?_
 conv=>whnf
 refine⟨by decide,by decide,by decide,?_⟩
 conv=>whnf
 intro ρe we re
 have hN:∀{id:Nat} {bk:Blk},getH _ id=some bk→(ρe id).nil=false→Nw (fun _=>False) w we (ρe id).g:=fun h hn=>by
  obtain⟨h1,h2⟩:=re.low _ _ h hn
  exact .inr ⟨h1,h2⟩
 have hR:=hd.out re (oldF w)
 have hL:RatL we (Nw (fun _=>False) w we) (.agg #[.bool s1_0,.slice s1_1 s1_2 s1_3,.bool s1_4,.slice s1_5 s1_6 s1_7]) 1:=hR.l (by decide)
 refine⟨_,rfl,hw.tr re.bel,_,_,_,rfl,?_,?_,?_⟩
 ·refine⟨[[.int .i64 0,.int .i64 0,.int .i64 0],[.int .i64 0,.int .i64 0,.int .i64 4],[.int .i64 3,.int .i64 0,.int .i64 0]],(re.boxSeq (id:=2) (sz:=3) (n:=3) rfl rfl (by decide) (by repeat' first|refine List.forall_mem_cons.2 ⟨rfl,?_⟩|exact fun u hu=>absurd hu List.not_mem_nil)).weak fun g hg=>by subst hg;exact hN (id:=2) rfl (re.nn 2 _ rfl (by intros;simp) (by simp)),rfl,by simp,fun j cs x h1 h2=>?_⟩
  rcases j with _|_|_|j
  ·cases h1;cases h2;rfl
  ·cases h1;cases h2;rfl
  ·cases h1;cases h2;rfl
  ·cases h2
 ·refine⟨[[.int .i64 0,.int .i64 2,.bool s1_0,.slice s1_1 s1_2 s1_3,.bool s1_4,.slice s1_5 s1_6 s1_7],[.int .i64 1,.int .i64 2,.bool s1_0,.slice s1_1 s1_2 s1_3,.bool s1_4,.slice s1_5 s1_6 s1_7]],(re.boxSeq (id:=3) (sz:=6) (n:=2) rfl rfl (by decide) (by repeat' first|refine List.forall_mem_cons.2 ⟨rfl,?_⟩|exact fun u hu=>absurd hu List.not_mem_nil)).weak fun g hg=>by subst hg;exact hN (id:=3) rfl (re.nn 3 _ rfl (by intros;simp) (by simp)),rfl,by simp,fun j cs x h1 h2=>?_⟩
  rcases j with _|_|j
  ·cases h1;cases h2;exact⟨_,_,_,_,_,_,_,_,rfl,hL⟩
  ·cases h1;cases h2;exact⟨_,_,_,_,_,_,_,_,rfl,hL⟩
  ·cases h2
 ·refine⟨supsV 6++[[.int .i64 2,.int .i64 1,.bool false,.slice none 0 0,.bool false,.slice none 0 0]],?_,rfl,by decide,fun j cs x h1 h2=>?_⟩
  ·have h5:=re.vecSeq (id:=7) (sz:=6) (m:=7) rfl (by decide) (by decide) (by decide) (by decide)
   rw[List.flatten_append]
   exact h5.weak fun g hg=>.inr hg
  ·rcases j with _|_|_|_|_|_|_|j
   ·cases h1;cases h2;exact⟨_,_,_,_,_,_,_,_,rfl,RatL.zeroV⟩
   ·cases h1;cases h2;exact⟨_,_,_,_,_,_,_,_,rfl,RatL.zeroV⟩
   ·cases h1;cases h2;exact⟨_,_,_,_,_,_,_,_,rfl,RatL.zeroV⟩
   ·cases h1;cases h2;exact⟨_,_,_,_,_,_,_,_,rfl,RatL.zeroV⟩
   ·cases h1;cases h2;exact⟨_,_,_,_,_,_,_,_,rfl,RatL.zeroV⟩
   ·cases h1;cases h2;exact⟨_,_,_,_,_,_,_,_,rfl,RatL.zeroV⟩
   ·cases h1;cases h2;exact⟨_,_,_,_,_,_,_,_,rfl,RatL.zeroV⟩
   ·cases h2
end Go.Ex

/- Integers as fractions. Printed by program. No condition but sizes. -/
namespace Go.Ex
open Go Go.Sx Go.Proofs

/-- a list of fractions of one's own, which grows -/
structure GrowC(w:World)(S:Nat→Prop)(css:List (List Value))(qs:List Rat):Prop where
 len:css.length=qs.length
 four:∀cs∈css,cs.length=4
 at_:∀(j:Nat) cs q,css[j]? =some cs→qs[j]? =some q→Rat4C w S cs q
section
variable{S S':Nat→Prop}{H:Hp}{nx:Nat}{iv iv':Iv}{B:Nat}{w w' w2:World}{ρ:Nat→Sx.Val}{css:List (List Value)}{qs:List Rat}
theorem GrowC.nil:GrowC w S [] []:=⟨rfl,fun _ h=>(by cases h),fun _ _ _ h=>by cases h⟩
theorem GrowC.keep(h:GrowC w S css qs)(hk:∀g,S g→w2.heap[g]? =w.heap[g]?):GrowC w2 S css qs:=⟨h.len,h.four,fun j cs q h1 h2=>by
 obtain⟨b,a,n,c,b2,a2,n2,c2,e,hr⟩:=h.at_ j cs q h1 h2
 exact⟨b,a,n,c,b2,a2,n2,c2,e,hr.keep hk⟩⟩
theorem GrowC.weak(h:GrowC w S css qs)(hk:∀g,S g→S' g):GrowC w S' css qs:=⟨h.len,h.four,fun j cs q h1 h2=>by
 obtain⟨b,a,n,c,b2,a2,n2,c2,e,hr⟩:=h.at_ j cs q h1 h2
 exact⟨b,a,n,c,b2,a2,n2,c2,e,hr.weak hk⟩⟩
theorem GrowC.rel(h:GrowC w (Cv S B iv) css qs)(r:Rel H nx iv B w ρ w')(hS:∀g,S g→g<B):GrowC w' (Cv S B iv) css qs:=h.keep fun _ hg=>Rel.same r hS hg
theorem GrowC.past(h:GrowC w (Cv S B iv) css qs)(r:Rel H nx iv B w ρ w')(hS:∀g,S g→g<B)(he:Ext w' w2)(hm:∀p,p∈iv→p∈iv'):GrowC w2 (Cv S B iv') css qs:=
 ((h.rel r hS).keep fun g hg=>he.block g (Rel.old r hS g hg)).weak fun _ hg=>hg.mono hm
theorem GrowC.push{cs:List Value}{q:Rat}(h:GrowC w S css qs)(hc:Rat4C w S cs q)(h4:cs.length=4):GrowC w S (css++[cs]) (qs++[q]):=by
 refine⟨by simp[h.len],fun x hx=>?_,fun j x p h1 h2=>?_⟩
 ·rcases List.mem_append.1 hx with hx|hx
  ·exact h.four x hx
  ·rw[List.mem_singleton.1 hx];exact h4
 ·rcases Nat.lt_or_ge j css.length with hi|hi
  ·rw[List.getElem?_append_left hi]at h1
   rw[List.getElem?_append_left (by rw[←h.len];exact hi)]at h2
   exact h.at_ j x p h1 h2
  ·have hi0:j=css.length:=by have:=(List.getElem?_eq_some_iff.1 h1).1;simp at this;omega
   subst hi0
   rw[List.getElem?_append_right (Nat.le_refl _),Nat.sub_self]at h1
   rw[h.len,List.getElem?_append_right (Nat.le_refl _),Nat.sub_self]at h2
   simp at h1 h2
   subst h1 h2
   exact hc
theorem GrowC.give{id:Nat}(h:GrowC w (Cv (fun _=>False) B iv) css qs)(r:Rel H nx iv B w ρ w')(hid:getH H id=some (.vec T.Rat 4 css.flatten))(h0:0<css.length)(hm:css.length≤maxLen):
  RowXc w' (fun _=>False) B [(B,w'.heap.size)] ((SV.o (.w id css.length)).den ρ) css.length qs:=by
 have h2:=h.rel r (oldF' B)
 obtain⟨k1,k2,k3,k4⟩:=vecW r hid rfl h0 hm ⟨h2.len,h2.at_⟩
 have hden:(SV.o (.w id css.length)).den ρ= .slice (some ⟨(ρ id).g,0,none⟩) css.length (ρ id).cap:=by simp[SV.den,At.den,k1]
 rw[hden]
 have key:∀g,Cv (fun _=>False) B iv g→Cv (fun _=>False) B [(B,w'.heap.size)] g:=fun g hg=>
  .inr ⟨hg.elim (fun h=>h.elim) fun h=>h.1,B,w'.heap.size,List.mem_singleton.2 rfl,hg.elim (fun h=>h.elim) fun h=>h.1,Rel.old r (oldF' B) g hg⟩
 refine⟨k4.weak fun g hg=>⟨key g hg,fun e=>?_⟩,fun g hg=>?_⟩
 ·injection e with e
  exact Rel.not r (oldF' B) hg id _ hid k1 e
 ·injection hg with hg
  subst hg
  have:=(r.low id _ hid k1).2
  exact .inr ⟨k2,B,w'.heap.size,List.mem_singleton.2 rfl,k2,this⟩
end
theorem wholes_c{S:Nat→Prop}{w:World}{v:Value}{l:List Int}(hS:Old S w)(hl:ZsR w S v l)(hl0:0<l.length)(hl2:l.length≤1000)(hb:∀z∈l,z.natAbs<1073741824):
  Con PG N.law05_wholes #[v] w (Ret w fun v' w2=>RowXc w2 (fun _=>False) w.heap.size [(w.heap.size,w2.heap.size)] v' l.length (wholesF l)):=by
 have hw:Bel w.heap.size w w:=Bel.refl
 obtain⟨al,cl,rfl,hcl,hml⟩:=hl.shape
 unfold maxLen at hml
 refine in_law05_wholes (by simp) ?_
 conv=>whnf
 refine⟨Nat×List (List Value)×World×Iv,fun z=>⟨[(0,.o (.v (.slice al l.length cl))),(3,.o (.w 0 z.2.1.length)),(4,.o (.v (.int .i64 ((z.1:Nat):Int))))],[(0,.vec T.Rat 4 z.2.1.flatten)],1,z.2.2.2,z.2.2.1⟩,fun z=>l.length-z.1,
  fun z=>z.1≤l.length∧Bel w.heap.size w z.2.2.1∧GrowC z.2.2.1 (Cv (fun _=>False) w.heap.size z.2.2.2) z.2.1 (wholesF (l.take z.1)),?_,?_⟩
 ·intro ρ w' r
  exact⟨(0,[],w',[]),⟨Nat.zero_le _,hw.tr r.bel,GrowC.nil⟩,Sub.nil 3 T.Rat 4 rfl (by simp[ScE,SV.sc,At.sc,initE]) r fun ρ1 r1=>Sub.gen [] r1 ⟨rfl,trivial⟩ ⟨rfl,rfl,rfl,trivial⟩ (by simp[ScH,Blk.scopd,At.sc]) (by simp[ScE,SV.sc,At.sc,initE]) (by rfl) (fun lo hi h=>h)⟩
 clear hw
 rintro⟨i,css,w1,iv⟩ ⟨hi,hw,hG⟩
 dsimp only at hi hw hG ⊢
 have hfl:=flat_len hG.four
 have hcl2:css.length=i:=by rw[hG.len,wholesF,List.length_map,List.length_take];omega
 conv=>whnf
 refine BrS.mk (fun hib=>?_) (fun hib=>?_)
 ·have hib:i<l.length:=by simpa using hib
  obtain⟨z,hz⟩:∃z,l[i]? =some z:=⟨_,List.getElem?_eq_getElem hib⟩
  have hzb:=hb z (List.mem_of_getElem? hz)
  have hnx:wholesF (l.take (i+1))=wholesF (l.take i)++[(z:Rat)]:=by rw[wholesF,List.take_add_one,hz,List.map_append];rfl
  obtain⟨adx,hax,hSx,hlx⟩:=ZsR.at hl hz
  conv=>whnf
  refine⟨adx,hax,⟨by omega,by omega⟩,?_⟩
  conv=>whnf
  refine⟨.int .i64 z,fun ρ w' r=>?_,?_⟩
  ·rw[Int.toNat_natCast,cell_of_heap (w:=w) (w2:=w') (by rw[addB];exact(hw.tr r.bel).block _ (hS _ hSx))]
   exact hlx
  conv=>whnf
  refine callE_S (cE hw (Φ:=fun _ w' v w2=>RatC w2 (Nw (fun _=>False) w' w2) v (z:Rat)) (fun ρ w' r=>rWhole_c z w' (by omega)) ?_)
  rintro ρ wa1 v1 wb1 iv1 r he hw h_ hn
  replace hG:=hG.past r (oldF w) he (mC h_)
  have hd:=hn.got (S:=fun _=>False) r.baseLe (mN h_)
  clear r
  obtain⟨s1_0,s1_1,s1_2,s1_3,s1_4,s1_5,s1_6,s1_7,rfl⟩:=hd.shape
  conv=>whnf
  have hG2:=hG.push (cs:=[.bool s1_0,.slice s1_1 s1_2 s1_3,.bool s1_4,.slice s1_5 s1_6 s1_7]) (q:=(z:Rat)) ⟨_,_,_,_,_,_,_,_,rfl,hd⟩ rfl
  rw[←hnx]at hG2
  have hfl2:css.flatten++([.bool s1_0,.slice s1_1 s1_2 s1_3,.bool s1_4,.slice s1_5 s1_6 s1_7]:List Value)=(css++([[.bool s1_0,.slice s1_1 s1_2 s1_3,.bool s1_4,.slice s1_5 s1_6 s1_7]]:List (List Value))).flatten:=by simp
  refine .inl ?_
  conv=>whnf
  refine⟨by omega,by omega,by unfold maxLen;omega,?_⟩
  conv=>whnf
  refine⟨((i+1:Nat):Int),by rw[wrap64]<;>omega,?_⟩
  conv=>whnf
  intro ρ3 w3 r3
  exact⟨(i+1,css++[[.bool s1_0,.slice s1_1 s1_2 s1_3,.bool s1_4,.slice s1_5 s1_6 s1_7]],w3,_),⟨hib,hw.tr r3.bel,hG2.rel r3 (oldF w)⟩,Sub.gen [(0,2)] r3 ⟨by dsimp only;rw[←hfl2];rfl,trivial⟩ ⟨rfl,by dsimp only;rw[List.length_append,List.length_singleton];rfl,rfl,trivial⟩ (by simp[ScH,Blk.scopd,At.sc]) (by simp[ScE,SV.sc,At.sc,initE]) (by rfl) (fun lo hi h=>h),by dsimp only;omega⟩
 have hib:i=l.length:=Nat.le_antisymm hi (by simpa using hib)
 subst hib
 rw[List.take_length]at hG
 conv=>whnf
 intro ρe we re
 refine⟨_,rfl,hw.tr re.bel,?_⟩
 have h5:=hG.give re (id:=0) rfl (by omega) (by unfold maxLen;omega)
 have h6:css.length=l.length:=hcl2
 rw[←h6]
 exact h5
end Go.Ex

/- The laws of statics are awake. Printed by program. No condition. -/
namespace Go.Ex
open Go Go.Sx Go.Proofs

theorem FrameR.got{w' w2:World}{vn vb vs:Value}{f:Frm}{B:Nat}{iv:Iv}(h:FrameR w2 (Nw (fun _=>False) w' w2) vn vb vs f)(hB:B≤w'.heap.size)(hm:(w'.heap.size,w2.heap.size)∈iv):FrameR w2 (Cv (fun _=>False) B iv) vn vb vs f:=h.weak fun _ hg=>hg.got hB hm
abbrev cntV(a b c:Int):Value:=.agg #[.int .i64 a,.int .i64 b,.int .i64 c]
theorem cnt_eq(p0 p1 p2 q0 q1 q2:Int)(w:World):(Op.equal T.Counting (cntV p0 p1 p2) (cntV q0 q1 q2)).run PG w= .ok (decide (p0=q0∧p1=q1∧p2=q2)) w:=by
 have h:=run_underlying Tryz.underlying68
 simp only[Op.equal,Op.maxDepth]
 unfold Op.equalIn
 have a0:=part_int (cs:= #[Value.int .i64 p0,Value.int .i64 p1,Value.int .i64 p2]) (j:=0) rfl
 have a1:=part_int (cs:= #[Value.int .i64 p0,Value.int .i64 p1,Value.int .i64 p2]) (j:=1) rfl
 have a2:=part_int (cs:= #[Value.int .i64 p0,Value.int .i64 p1,Value.int .i64 p2]) (j:=2) rfl
 have b0:=part_int (cs:= #[Value.int .i64 q0,Value.int .i64 q1,Value.int .i64 q2]) (j:=0) rfl
 have b1:=part_int (cs:= #[Value.int .i64 q0,Value.int .i64 q1,Value.int .i64 q2]) (j:=1) rfl
 have b2:=part_int (cs:= #[Value.int .i64 q0,Value.int .i64 q1,Value.int .i64 q2]) (j:=2) rfl
 simp[h,a0,a1,a2,b0,b1,b2,eq_int 9998]
 by_cases h0:p0=q0
 ·by_cases h1:p1=q1
  ·by_cases h2:p2=q2<;>simp[h0,h1,h2]
  ·simp[h0,h1]
 ·simp[h0]
theorem cnt_eql(p0 p1 p2 q0 q1 q2:Int)(w:World)(o1 o2:Operand):(do eqGuard .eql T.Counting o1 o2 (cntV p0 p1 p2) (cntV q0 q1 q2);binOp .eql T.Counting (cntV p0 p1 p2) (cntV q0 q1 q2)).run PG w= .ok (.bool (decide (p0=q0∧p1=q1∧p2=q2))) w:=by
 have h:=cnt_eq p0 p1 p2 q0 q1 q2 w
 simp[eqGuard,binOp,h]
def dspW:List Int:=[0,0,0,0,0,0,-1,0,0]
def frcW:List Int:=[-3,3,9,0,0,-9,0,12,0]
theorem dsp_set:(wholesF dspW).set 8 (Rat.divInt (-3) 2)=dspB:=by decide +kernel
theorem frc_eq:wholesF frcW=frcB:=by decide +kernel
theorem frc_small:∀q∈frcB,rl q≤100000:=by decide +kernel
theorem eachB_small:∀q∈eachF frcB (flexF bracketF),rl q≤100000:=by decide +kernel
theorem limB:Rat.divInt 2000 1000=((2:Int):Rat):=by decide +kernel
theorem boxZs{H:Hp}{nx:Nat}{iv:Iv}{B:Nat}{w w':World}{ρ:Nat→Sx.Val}(r:Rel H nx iv B w ρ w'){id n:Nat}{l:List Int}(h:getH H id=some (.box T.int (l.map fun z=>At.v (.int .i64 z))))(hn:l.length=n)(hm:n≤maxLen):
  ZsR w' (fun g=>g=(ρ id).g) (.slice (some ⟨(ρ id).g,0,none⟩) n n) l:=by
 subst hn
 have h5:=r.boxSeq (sz:=1) (n:=l.length) h (by simp) hm (fun u hu=>by obtain⟨z,_,rfl⟩:=List.mem_map.1 hu;rfl)
 rw[List.map_map]at h5
 exact h5
set_option maxHeartbeats 1000000 in
theorem awake5_c(w:World):Con PG N.law05_awake #[] w (Ret w fun v' _=>v'= .bool true):=by
 have hw:Bel w.heap.size w w:=Bel.refl
 refine in_law05_awake (by simp) ?_
 conv=>whnf
 refine callE_S (cE hw (Φ:=fun _ w' v w2=>∃vn vb vs,v= .agg #[vn,vb,vs]∧FrameR w2 (Nw (fun _=>False) w' w2) vn vb vs bracketF) (fun ρ w' r=>bracket_c w') ?_)
 rintro ρ wa1 v1 wb1 iv1 r he hw h_ ⟨vn1,vb1,vs1,rfl,hn⟩
 have hf:=hn.got r.baseLe (mN h_)
 clear r
 clear hn
 obtain⟨an1,cn1,ab1,cb1,aq1,cq1,rfl,rfl,rfl,-,-,-⟩:=hf.shape
 conv=>whnf
 refine callE_S (cE hw (Φ:=fun _ w' v w2=>∃vx,v= .tuple #[vx,.int .i64 0]∧RatsC w2 (Nw (fun _=>False) w' w2) vx frcB) (fun ρ w' r=>sForces1_c (S:=(fun g=>Cv (fun _=>False) w.heap.size iv1 g∨g=(ρ 0).g)) (l:=ldsB) (h:=2) (fun g hg=>hg.elim (Rel.old r (oldF w) g) fun e=>by subst e;exact Rel.lt r (id:=0) rfl) (FrameR.weak (FrameR.rel hf r (oldF w)) fun g hg=>.inl hg) (show LoadsR w' (fun g=>Cv (fun _=>False) w.heap.size iv1 g∨g=(ρ 0).g) (.slice (some ⟨(ρ 0).g,0,none⟩) 1 1) ldsB from⟨[[.int .i64 2,.int .i64 0,.int .i64 0,.int .i64 (-12)]],(r.boxSeq (id:=0) (sz:=4) (n:=1) rfl rfl (by decide) (by repeat' first|refine List.forall_mem_cons.2 ⟨rfl,?_⟩|exact fun u hu=>absurd hu List.not_mem_nil)).weak fun g hg=>.inr hg,rfl,by simp,fun j cs x h1 h2=>by cases j with|zero=>(cases h1;cases h2;rfl)|succ j=>cases h2⟩) br_calm br_borne br_err) ?_)
 rintro ρ wa2 v2 wb2 iv2 r he hw h_ ⟨vx1,rfl,hn⟩
 clear hf
 have hx:=RatsC.got (S:=fun _=>False) hn r.baseLe (mN h_)
 clear r
 clear hn
 obtain⟨ax1,cx1,rfl,-,-⟩:=ListR.shape hx
 conv=>whnf
 refine callE_S (cE hw (Φ:=fun _ w' v w2=>∃vn vb vs,v= .agg #[vn,vb,vs]∧FrameR w2 (Nw (fun _=>False) w' w2) vn vb vs bracketF) (fun ρ w' r=>bracket_c w') ?_)
 rintro ρ wa3 v3 wb3 iv3 r he hw h_ ⟨vn2,vb2,vs2,rfl,hn⟩
 replace hx:=RatsC.past hx r (oldF w) he (mC h_)
 have hf:=hn.got r.baseLe (mN h_)
 clear r
 clear hn
 obtain⟨an2,cn2,ab2,cb2,aq2,cq2,rfl,rfl,rfl,-,-,-⟩:=hf.shape
 conv=>whnf
 refine callE_S (cE hw (Φ:=fun _ w' v w2=>∃vu vx,v= .tuple #[vu,vx,.int .i64 0]∧RatsC w2 (Nw (fun _=>False) w' w2) vu dspB∧∃a n c,vx= .slice a n c) (fun ρ w' r=>(sDisplace0_c (S:=(fun g=>Cv (fun _=>False) w.heap.size iv3 g∨g=(ρ 0).g)) (l:=ldsB) (h:=2) (fun g hg=>hg.elim (Rel.old r (oldF w) g) fun e=>by subst e;exact Rel.lt r (id:=0) rfl) (FrameR.weak (FrameR.rel hf r (oldF w)) fun g hg=>.inl hg) (show LoadsR w' (fun g=>Cv (fun _=>False) w.heap.size iv3 g∨g=(ρ 0).g) (.slice (some ⟨(ρ 0).g,0,none⟩) 1 1) ldsB from⟨[[.int .i64 2,.int .i64 0,.int .i64 0,.int .i64 (-12)]],(r.boxSeq (id:=0) (sz:=4) (n:=1) rfl rfl (by decide) (by repeat' first|refine List.forall_mem_cons.2 ⟨rfl,?_⟩|exact fun u hu=>absurd hu List.not_mem_nil)).weak fun g hg=>.inr hg,rfl,by simp,fun j cs x h1 h2=>by cases j with|zero=>(cases h1;cases h2;rfl)|succ j=>cases h2⟩) br_calm br_borne br_err br_rank rfl frc_small eachB_small br_b3 br_u).mono fun _ _ ⟨v2,e1,e2,vu,vx,e3,e4,e5⟩=>⟨v2,e1,e2,vu,vx,e3,e4,by obtain⟨a,c,h,_⟩:=ListR.shape e5;exact⟨a,_,c,h⟩⟩) ?_)
 rintro ρ wa4 v4 wb4 iv4 r he hw h_ ⟨vu1,_,rfl,hn,ay1,ny1,cy1,rfl⟩
 replace hx:=RatsC.past hx r (oldF w) he (mC h_)
 clear hf
 have hu:=RatsC.got (S:=fun _=>False) hn r.baseLe (mN h_)
 clear r
 clear hn
 obtain⟨au1,cu1,rfl,-,-⟩:=ListR.shape hu
 conv=>whnf
 refine callE_S (cE hw (Φ:=fun _ w' v w2=>∃vn vb vs,v= .agg #[vn,vb,vs]∧FrameR w2 (Nw (fun _=>False) w' w2) vn vb vs bracketF) (fun ρ w' r=>bracket_c w') ?_)
 rintro ρ wa5 v5 wb5 iv5 r he hw h_ ⟨vn3,vb3,vs3,rfl,hn⟩
 replace hx:=RatsC.past hx r (oldF w) he (mC h_)
 replace hu:=RatsC.past hu r (oldF w) he (mC h_)
 have hf:=hn.got r.baseLe (mN h_)
 clear r
 clear hn
 obtain⟨an3,cn3,ab3,cb3,aq3,cq3,rfl,rfl,rfl,-,-,-⟩:=hf.shape
 conv=>whnf
 refine callE_S (cE hw (Φ:=fun _ w' v w2=>v= .tuple #[cntV 9 0 0,.int .i64 0]) (fun ρ w' r=>(sCount0_c (S:=Cv (fun _=>False) w.heap.size iv5) (h:=2) (Rel.old r (oldF w)) (FrameR.rel hf r (oldF w)) br_calm (errFL_zero br_err).1 (by rw[br_rank];decide)).mono fun _ _ ⟨v2,e1,e2,e3⟩=>⟨v2,e1,e2,by rw[e3,br_rank];rfl⟩) ?_)
 rintro ρ wa6 v6 wb6 iv6 r he hw h_ rfl
 replace hx:=RatsC.past hx r (oldF w) he (mC h_)
 replace hu:=RatsC.past hu r (oldF w) he (mC h_)
 clear hf
 clear r
 conv=>whnf
 refine callE_S (cE hw (Φ:=fun _ w' v w2=>∃vr,v= .tuple #[vr,.int .i64 0]∧RatC w2 (Nw (fun _=>False) w' w2) vr ((2:Int):Rat)) (fun ρ w' r=>(sLimitOk_c 25 10 w' (by decide) (by decide) (by decide)).mono fun _ _ ⟨v2,e1,e2,vr,rt,e3,e4,e5,e6⟩=>⟨v2,e1,e2,vr,e3,by
  have:rt=2000:=sq_one e4 e5 (by decide) (by decide)
  rw[this]at e6
  exact limB▸e6⟩) ?_)
 rintro ρ wa7 v7 wb7 iv7 r he hw h_ ⟨vr1,rfl,hn⟩
 replace hx:=RatsC.past hx r (oldF w) he (mC h_)
 replace hu:=RatsC.past hu r (oldF w) he (mC h_)
 have hl:=hn.got (S:=fun _=>False) r.baseLe (mN h_)
 clear r
 obtain⟨s7_0a,s7_0b,s7_0c,s7_0d,s7_0e,s7_0f,s7_0g,s7_0h,rfl⟩:=hl.shape
 clear hn
 conv=>whnf
 refine callE_S (cE hw (Φ:=fun _ w' v w2=>∃q,v= .tuple #[q,.int .i64 0]∧RatC w2 (Nw (fun _=>False) w' w2) q (Rat.divInt (-3) 2)) (fun ρ w' r=>(rRatio_c (-3) 2 w' (by decide) (by decide) (by decide) (by decide)).mono fun _ _ ⟨v2,e1,e2,e3⟩=>⟨v2,e1,e2,e3.elim (fun k=>absurd k.1 (by decide)) fun h=>h.2⟩) ?_)
 rintro ρ wa8 v8 wb8 iv8 r he hw h_ ⟨q1,rfl,hn⟩
 replace hx:=RatsC.past hx r (oldF w) he (mC h_)
 replace hu:=RatsC.past hu r (oldF w) he (mC h_)
 replace hl:=hl.past r (oldF w) he (mC h_)
 have hh:=hn.got (S:=fun _=>False) r.baseLe (mN h_)
 clear r
 obtain⟨s8_0a,s8_0b,s8_0c,s8_0d,s8_0e,s8_0f,s8_0g,s8_0h,rfl⟩:=hh.shape
 clear hn
 conv=>whnf
 refine callE_S (callE_con (Φ:=fun _ w' v w2=>RowXc w2 (fun _=>False) w'.heap.size [(w'.heap.size,w2.heap.size)] v 9 (wholesF dspW)) (fun ρ w' r=>wholes_c (S:=fun g=>g=(ρ 4).g) (fun g hg=>by subst hg;exact Rel.lt r (id:=4) rfl) (boxZs r (id:=4) (n:=9) (l:=dspW) rfl rfl (by decide)) (by decide) (by decide) (by decide)) ?_)
 rintro ρ wa9 v9 wb9 r he hb hn
 replace hw:=hw.tr hb
 replace hx:=RatsC.weak (S':=Bs (fun _=>False) w.heap.size ((wa9.heap.size,wb9.heap.size)::iv8) v9) (RatsC.keep (RatsC.rel hx r (oldF w)) fun g hg=>he.block g (Rel.old r (oldF w) g hg)) fun g hg=>Bs.of r (oldF w) (fun x hx=>List.mem_cons_of_mem _ hx) hn hg
 replace hu:=RatsC.weak (S':=Bs (fun _=>False) w.heap.size ((wa9.heap.size,wb9.heap.size)::iv8) v9) (RatsC.keep (RatsC.rel hu r (oldF w)) fun g hg=>he.block g (Rel.old r (oldF w) g hg)) fun g hg=>Bs.of r (oldF w) (fun x hx=>List.mem_cons_of_mem _ hx) hn hg
 replace hl:=RatC.weak (S':=Bs (fun _=>False) w.heap.size ((wa9.heap.size,wb9.heap.size)::iv8) v9) (RatC.keep (hl.rel r (oldF w)) fun g hg=>he.block g (Rel.old r (oldF w) g hg)) fun g hg=>Bs.of r (oldF w) (fun x hx=>List.mem_cons_of_mem _ hx) hn hg
 replace hh:=RatC.weak (S':=Bs (fun _=>False) w.heap.size ((wa9.heap.size,wb9.heap.size)::iv8) v9) (RatC.keep (hh.rel r (oldF w)) fun g hg=>he.block g (Rel.old r (oldF w) g hg)) fun g hg=>Bs.of r (oldF w) (fun x hx=>List.mem_cons_of_mem _ hx) hn hg
 have hX:=hn.got (S:=fun _=>False) r.baseLe (iv:=(wa9.heap.size,wb9.heap.size)::iv8) List.mem_cons_self
 clear r he hb hn
 generalize (wa9.heap.size,wb9.heap.size)::iv8=iv9 at*
 obtain⟨ax,cx,rfl,hcx⟩:=hX.row.form
 obtain⟨gx,rfl⟩:=hX.at (by decide)
 conv=>whnf
 refine⟨⟨gx,0,none⟩,rfl,⟨by omega,by omega⟩,?_⟩
 conv=>whnf
 intro ρ w' r
 obtain⟨g,hg,h1,h2,h3,h4,h5⟩:=(hX.rel r (oldF w)).store (j:=8) (by decide) (hh.keep (Bs.same r (oldF w))) r (oldF w)
 injection hg with hg
 injection hg with hg
 subst hg
 refine⟨h1,h2,h3,fun w5 hw5=>?_⟩
 obtain⟨k1,k2,k3⟩:=h5 w5 hw5
 rw[dsp_set]at k1
 have hw2:Bel w.heap.size w w5:=(hw.tr r.bel).tr (Bel.grown k2 (fun g e=>by injection e with e;subst e;exact h4.elim (fun h=>h.elim) fun h=>h.1) r.baseLe)
 have hx2:=RatsC.weak (S':=Cv (fun _=>False) w.heap.size iv9) (RatsC.keep hx (Bs.kept r (oldF w) k2 fun g e=>e)) fun g hg=>hg.1
 have hu2:=RatsC.weak (S':=Cv (fun _=>False) w.heap.size iv9) (RatsC.keep hu (Bs.kept r (oldF w) k2 fun g e=>e)) fun g hg=>hg.1
 have hl2:=RatC.weak (S':=Cv (fun _=>False) w.heap.size iv9) (RatC.keep hl (Bs.kept r (oldF w) k2 fun g e=>e)) fun g hg=>hg.1
 have hd2:=k1.c
 clear hX hx hu hl hh hw h1 h2 h3 h4 h5 hw5 k1 k2 k3 r
 have hw:=hw2
 have hx:=hx2
 have hu:=hu2
 have hl:=hl2
 have hd:=hd2
 clear hw2 hx2 hu2 hl2 hd2
 conv=>whnf
 refine drawn_of_pi hτ hmix [.x 0,.x 1,.x 2,.x 3,.x 4,.x 5,.x 6,.x 7,.x 8,.x 9,.x 10,.x 11,.x 12,.x 13,.x 14,.x 15,.x 16,.x 17,.x 18,.x 19,.x 20,.x 21,.x 22,.x 23,.x 24,.x 25,.x 26,.x 27,.x 28,.x 29,.x 30,.x 31,.x 32,.x 33,.x 34,.x 35] (by kernel_rfl) (by kernel_rfl) ?_
 conv=>whnf
 refine cE hw (Φ:=fun _ w' v w2=>RowXc w2 (fun _=>False) w'.heap.size [(w'.heap.size,w2.heap.size)] v 9 (wholesF frcW)) (fun ρ w' r=>wholes_c (S:=fun g=>g=(ρ 5).g) (fun g hg=>by subst hg;exact Rel.lt r (id:=5) rfl) (boxZs r (id:=5) (n:=9) (l:=frcW) rfl rfl (by decide)) (by decide) (by decide) (by decide)) ?_
 rintro ρ wa10 v10 wb10 iv10 r he hw h_ hn
 replace hx:=RatsC.past hx r (oldF w) he (mC h_)
 replace hu:=RatsC.past hu r (oldF w) he (mC h_)
 replace hl:=hl.past r (oldF w) he (mC h_)
 replace hd:=RatsC.past hd r (oldF w) he (mC h_)
 have hX:=hn.got (S:=fun _=>False) r.baseLe (mN h_)
 clear r he hn
 have hv:=hX.c
 rw[frc_eq]at hv
 clear hX
 obtain⟨av,cv,rfl,-,-⟩:=ListR.shape hv
 conv=>whnf
 refine cE hw (Φ:=fun _ w' v w2=>v= .bool true) (fun ρ w' r=>(sameList_c (S:=Cv (fun _=>False) w.heap.size iv10) (Rel.old r (oldF w)) (RatsC.rel hx r (oldF w)) (RatsC.rel hv r (oldF w))).mono fun _ _ ⟨v2,e1,e2,e3⟩=>⟨v2,e1,e2,by rw[e3];exact congrArg _ (decide_eq_true rfl)⟩) ?_
 rintro ρ wa11 v11 wb11 iv11 r he hw h_ rfl
 clear hx
 replace hu:=RatsC.past hu r (oldF w) he (mC h_)
 replace hl:=hl.past r (oldF w) he (mC h_)
 replace hd:=RatsC.past hd r (oldF w) he (mC h_)
 clear hv
 clear r he
 conv=>whnf
 refine cE hw (Φ:=fun _ w' v w2=>v= .bool true) (fun ρ w' r=>(sameList_c (S:=Cv (fun _=>False) w.heap.size iv11) (Rel.old r (oldF w)) (RatsC.rel hu r (oldF w)) (RatsC.rel hd r (oldF w))).mono fun _ _ ⟨v2,e1,e2,e3⟩=>⟨v2,e1,e2,by rw[e3];exact congrArg _ (decide_eq_true rfl)⟩) ?_
 rintro ρ wa12 v12 wb12 iv12 r he hw h_ rfl
 clear hu
 replace hl:=hl.past r (oldF w) he (mC h_)
 clear hd
 clear r he
 conv=>whnf
 refine⟨true,fun ρ w o1 o2=>cnt_eql 9 0 0 9 0 0 w o1 o2,?_⟩
 conv=>whnf
 refine cE hw (Φ:=fun _ w' v w2=>RatC w2 (Nw (fun _=>False) w' w2) v ((2:Int):Rat)) (fun ρ w' r=>rWhole_c 2 w' (by decide)) ?_
 rintro ρ wa13 v13 wb13 iv13 r he hw h_ hn
 replace hl:=hl.past r (oldF w) he (mC h_)
 have ht:=hn.got (S:=fun _=>False) r.baseLe (mN h_)
 clear r he hn
 obtain⟨s13_0,s13_1,s13_2,s13_3,s13_4,s13_5,s13_6,s13_7,rfl⟩:=ht.shape
 conv=>whnf
 refine cE hw (Φ:=fun _ w' v w2=>v= .bool true) (fun ρ w' r=>(same_c (S:=Cv (fun _=>False) w.heap.size iv13) (Rel.old r (oldF w)) (hl.rel r (oldF w)) (ht.rel r (oldF w))).mono fun _ _ ⟨v2,e1,e2,e3⟩=>⟨v2,e1,e2,by rw[e3];exact congrArg _ (decide_eq_true rfl)⟩) ?_
 rintro ρ wa14 v14 wb14 iv14 r he hw h_ rfl
 clear hl
 clear ht
 clear r he
 conv=>whnf
 intro ρe we re
 exact⟨_,rfl,hw.tr re.bel,rfl⟩
end Go.Ex

/- Lists of fractions with few limbs. Printed by program. No condition but sizes. -/
namespace Go.Ex
open Go Go.Sx Go.Proofs

theorem addA(a:Addr)(m n:Nat):(a.add m).add n=a.add (m+n):=by
 unfold Addr.add
 split<;>split<;>simp_all<;>omega
end Go.Ex

/- Tables of steps: their errors, their value at a place, and that it lies between two values. No condition. -/
namespace Go.Ex
theorem between{a b x p q:Rat}(h1:a<x)(h2:x≤b):(p≤q→p≤p+(x-a) / (b-a)*(q-p)∧p+(x-a) / (b-a)*(q-p)≤q)∧(q≤p→q≤p+(x-a) / (b-a)*(q-p)∧p+(x-a) / (b-a)*(q-p)≤p):=by
 have hd:0<b-a:=by grind
 have hi:0≤(b-a)⁻¹:=Rat.le_of_lt (Rat.inv_pos.2 hd)
 obtain⟨t,ht⟩:∃t,(x-a) / (b-a)=t:=⟨_,rfl⟩
 have t0:0≤t:=by rw[←ht,Rat.div_def];exact Rat.mul_nonneg (by grind) hi
 have t1:t≤1:=by
  rw[←ht,Rat.div_def,←Rat.mul_inv_cancel (b-a) (by grind)]
  exact Rat.mul_le_mul_of_nonneg_right (by grind) hi
 rw[ht]
 refine⟨fun h=>?_,fun h=>?_⟩
 ·have k1:0≤t*(q-p):=Rat.mul_nonneg t0 (by grind)
  have k2:t*(q-p)≤1*(q-p):=Rat.mul_le_mul_of_nonneg_right t1 (by grind)
  grind
 ·have k1:0≤t*(p-q):=Rat.mul_nonneg t0 (by grind)
  have k2:t*(p-q)≤1*(p-q):=Rat.mul_le_mul_of_nonneg_right t1 (by grind)
  have k3:t*(q-p)= -(t*(p-q)):=by grind
  grind
end Go.Ex

/- A table's check and value. Printed by program. No condition but sizes. -/
namespace Go.Ex
open Go Go.Sx Go.Proofs

end Go.Ex

/- The reference's check and value of a table. Printed by program. No condition but sizes. -/
namespace Go.Ex
open Go Go.Sx Go.Proofs

end Go.Ex

/- StaticsTables of the laws of chapter 5. Printed by program. No condition. -/
namespace Go.Ex
open Go Go.Sx Go.Proofs

end Go.Ex

/- The reference's check of a frame and of loads. Printed by program. No condition but sizes. -/
namespace Go.Ex
open Go Go.Sx Go.Proofs

section
variable{α β:Type}{L:List α}{K:α→β}{x:β}
end
theorem within_c(n lo hi:Int)(w:World):Con PG N.base_Within #[.int .i64 n,.int .i64 lo,.int .i64 hi] w (Ret w fun v' _=>∃d,v'= .bool d∧(d=true↔lo≤n∧n≤hi)):=by
 have hw:Bel w.heap.size w w:=Bel.refl
 refine in_base_Within (by simp) ?_
 conv=>whnf
 refine BrS.mk (fun h1=>?_) (fun h1=>?_)
 ·conv=>whnf
  intro ρe we re
  have h1:=of_decide_eq_true h1
  exact⟨_,rfl,hw.tr re.bel,_,rfl,by rw[decide_eq_true_iff];exact⟨fun h=>⟨h1,h⟩,fun h=>h.2⟩⟩
 ·conv=>whnf
  intro ρe we re
  have h1:=of_decide_eq_false h1
  exact⟨_,rfl,hw.tr re.bel,_,rfl,(fun h=>by cases h),fun h=>absurd h.1 h1⟩
end Go.Ex

/- The laws' guards: small frames, short limits. Printed by program. No condition but sizes. -/
namespace Go.Ex
open Go Go.Sx Go.Proofs

def rq(p:Int×Int):Rat:=ratio p.1 p.2
/-- a frame as it is handed in: its flexibilities are raw -/
structure FrmW where
 nodes:List (Int×Int×Int)
 bars:List (Int×Int×(Int×Int))
 sups:List (Int×Int×(Int×Int))
def twoV(p:Int×Int×(Int×Int)):Int×Int×Rat:=(p.1,p.2.1,rq p.2.2)
def FrmW.val(f:FrmW):Frm:=⟨f.nodes,f.bars.map twoV,f.sups.map twoV⟩
def TwoW(w:World)(S:Nat→Prop)(cs:List Value)(p:Int×Int×(Int×Int)):Prop:=∃b a n c b2 a2 n2 c2,cs=[.int .i64 p.1,.int .i64 p.2.1,.bool b,.slice a n c,.bool b2,.slice a2 n2 c2]∧RatR w S (.agg #[.bool b,.slice a n c,.bool b2,.slice a2 n2 c2]) p.2.2.1 p.2.2.2
structure FrameW(w:World)(S:Nat→Prop)(vn vb vs:Value)(f:FrmW):Prop where
 nodes:NodesR w S vn f.nodes
 bars:ListK 6 TwoW w S vb f.bars
 sups:ListK 6 TwoW w S vs f.sups
end Go.Ex

/- Limits of bars and forces beyond them. Printed by program. No condition but sizes. -/
namespace Go.Ex
open Go Go.Sx Go.Proofs

section
variable{xs:List Rat}{l:List (Rat×Rat)}{i:Nat}{x:Rat}{r:Rat×Rat}
end
end Go.Ex

/- StaticsStrong of the laws of chapter 5. Printed by program. No condition. -/
namespace Go.Ex
open Go Go.Sx Go.Proofs

section
variable{S:Nat→Prop}{w w1 w':World}{H:Hp}{nx:Nat}{iv:Iv}{ρ:Nat→Sx.Val}
end
end Go.Ex

/- Limits of force densities: square roots, and a search by bits. No condition. -/
namespace Go.Ex
end Go.Ex

/- The limit of a force density. Printed by program. No condition but sizes. -/
namespace Go.Ex
open Go Go.Sx Go.Proofs

end Go.Ex

/- The limits of all bars. Printed by program. No condition but sizes. -/
namespace Go.Ex
open Go Go.Sx Go.Proofs

/-- a list of structs of one's own, which grows -/
structure GrowK{α:Type}(k:Nat)(P:World→(Nat→Prop)→List Value→α→Prop)(w:World)(S:Nat→Prop)(css:List (List Value))(qs:List α):Prop where
 len:css.length=qs.length
 wid:∀cs∈css,cs.length=k
 at_:∀(j:Nat) cs q,css[j]? =some cs→qs[j]? =some q→P w S cs q
section
variable{α:Type}{k:Nat}{P:World→(Nat→Prop)→List Value→α→Prop}{w w2:World}{S S':Nat→Prop}{css:List (List Value)}{qs:List α}
theorem GrowK.nil:GrowK k P w S [] []:=⟨rfl,fun _ h=>(by cases h),fun _ _ _ h=>by cases h⟩
theorem GrowK.map{P':World→(Nat→Prop)→List Value→α→Prop}(h:GrowK k P w S css qs)(hP:∀cs q,P w S cs q→P' w2 S' cs q):GrowK k P' w2 S' css qs:=⟨h.len,h.wid,fun j cs q h1 h2=>hP cs q (h.at_ j cs q h1 h2)⟩
theorem GrowK.push{cs:List Value}{q:α}(h:GrowK k P w S css qs)(hc:P w S cs q)(h4:cs.length=k):GrowK k P w S (css++[cs]) (qs++[q]):=by
 refine⟨by simp[h.len],fun x hx=>?_,fun j x p h1 h2=>?_⟩
 ·rcases List.mem_append.1 hx with hx|hx
  ·exact h.wid x hx
  ·rw[List.mem_singleton.1 hx];exact h4
 ·rcases Nat.lt_or_ge j css.length with hi|hi
  ·rw[List.getElem?_append_left hi]at h1
   rw[List.getElem?_append_left (by rw[←h.len];exact hi)]at h2
   exact h.at_ j x p h1 h2
  ·have hi0:j=css.length:=by have:=(List.getElem?_eq_some_iff.1 h1).1;simp at this;omega
   subst hi0
   rw[List.getElem?_append_right (Nat.le_refl _),Nat.sub_self]at h1
   rw[h.len,List.getElem?_append_right (Nat.le_refl _),Nat.sub_self]at h2
   simp at h1 h2
   subst h1 h2
   exact hc
theorem GrowK.one(h:GrowK k P w S css qs)(h1:∀cs q,P w S cs q→∀u∈cs,u.oneCell'=true):∀u∈css.flatten,u.oneCell'=true:=fun u hu=>by
 obtain⟨cs,hc,hu⟩:=List.mem_flatten.1 hu
 obtain⟨j,hj⟩:=List.getElem?_of_mem hc
 exact h1 cs _ (h.at_ j cs _ hj (List.getElem?_eq_getElem (by rw[←h.len];exact(List.getElem?_eq_some_iff.1 hj).1))) u hu
theorem GrowK.list{v:Value}(h:GrowK k P w S css qs)(hs:SeqR w S k v css.flatten css.length):ListK k P w S v qs:=⟨css,h.len▸hs,h.len,h.wid,h.at_⟩
end
end Go.Ex

/- The reference's limits of all bars. Printed by program. No condition but sizes. -/
namespace Go.Ex
open Go Go.Sx Go.Proofs

end Go.Ex

/- StaticsLimits of the laws of chapter 5. Printed by program. No condition. -/
namespace Go.Ex
open Go Go.Sx Go.Proofs

section
variable{S S':Nat→Prop}{H:Hp}{nx:Nat}{iv iv':Iv}{B:Nat}{w w' w2:World}{ρ:Nat→Sx.Val}{v:Value}{l:List (Rat×Rat)}
end
end Go.Ex

/- Loads gathered from cases. Plain. -/
namespace Go.Ex
abbrev I3:=Int×Int×Int
/-- a load, times a factor, is added at its node -/
def addL(s:Nat→I3)(fa:Int)(x:Ld):Nat→I3:=fun n=>if(n:Int)=x.1 then((s n).1+fa*x.2.1,(s n).2.1+fa*x.2.2.1,(s n).2.2+fa*x.2.2.2)else s n
def inTo(s:Nat→I3)(fa:Int)(l:List Ld):Nat→Nat→I3
 |0=>s
 |k+1=>addL (inTo s fa l k) fa (l.getD k (0,0,0,0))
def outTo(cs:List (List Ld))(fs:List Int):Nat→Nat→I3
 |0=>fun _=>(0,0,0)
 |c+1=>inTo (outTo cs fs c) (fs.getD c 0) (cs.getD c []) (cs.getD c []).length
def inB3(p:I3):Prop:=inB p.1∧inB p.2.1∧inB p.2.2
instance (p : I3) : Decidable (inB3 p) := by unfold inB3; infer_instance
def faE(n:Int):Int:=if -100≤n∧n≤100 then 0 else 2
def suE(s:Nat→I3)(n:Nat):Int:=if inB3 (s n)then 0 else 8
def errG(cs:List (List Ld))(fs:List Int):Int:=
 if 16<cs.length then 8 else if fs.length≠cs.length then 11 else if firstE (fun _=>faE) [] fs≠0 then 2 else
  if firstE (fun _=>errL 20) [] cs≠0 then firstE (fun _=>errL 20) [] cs else firstE (fun _=>suE (outTo cs fs cs.length)) [] (List.range 20)
def gathTo(s:Nat→I3):Nat→List Ld
 |0=>[]
 |n+1=>if s n=(0,0,0)then gathTo s n else gathTo s n++[((n:Int),s n)]
theorem gathTo_len(s:Nat→I3):∀n,(gathTo s n).length≤n
 |0=>Nat.le_refl _
 |n+1=>by
  have:=gathTo_len s n
  rw[gathTo]
  split
  ·omega
  ·rw[List.length_append,List.length_singleton];omega
/-- sums are small -/
def Sbd(s:Nat→I3)(t:Int):Prop:=∀n,(-t≤(s n).1∧(s n).1≤t)∧(-t≤(s n).2.1∧(s n).2.1≤t)∧(-t≤(s n).2.2∧(s n).2.2≤t)
theorem mul_bd{a b:Int}(h1: -100≤a)(h2:a≤100)(h3: -1000000≤b)(h4:b≤1000000): -100000000≤a*b∧a*b≤100000000:=by
 have e:(a*b).natAbs≤100*1000000:=by rw[Int.natAbs_mul];exact Nat.mul_le_mul (by omega) (by omega)
 omega
theorem Sbd.add{s:Nat→I3}{t fa:Int}{x:Ld}(h:Sbd s t)(hf: -100≤fa∧fa≤100)(hx:inB x.2.1∧inB x.2.2.1∧inB x.2.2.2):Sbd (addL s fa x) (t+100000000):=fun n=>by
 obtain⟨⟨a1,a2⟩,⟨a3,a4⟩,a5,a6⟩:=hx
 have h1:=mul_bd hf.1 hf.2 a1 a2
 have h2:=mul_bd hf.1 hf.2 a3 a4
 have h3:=mul_bd hf.1 hf.2 a5 a6
 have:=h n
 unfold addL
 split
 ·dsimp only;omega
 ·omega
/-- the cells of the sums -/
def zf(s:Nat→I3)(j:Nat):Int:=if j % 4=1 then(s (j / 4)).1 else if j % 4=2 then(s (j / 4)).2.1 else if j % 4=3 then(s (j / 4)).2.2 else 0
def updZ(z:Nat→Int)(j:Nat)(v:Int)(i:Nat):Int:=if i=j then v else z i
theorem zf_at(s:Nat→I3)(n:Nat):zf s (4*n)=0∧zf s (4*n+1)=(s n).1∧zf s (4*n+2)=(s n).2.1∧zf s (4*n+3)=(s n).2.2:=by
 unfold zf
 refine⟨?_,?_,?_,?_⟩
 ·rw[if_neg (by omega),if_neg (by omega),if_neg (by omega)]
 ·rw[if_pos (by omega),show(4*n+1) / 4=n by omega]
 ·rw[if_neg (by omega),if_pos (by omega),show(4*n+2) / 4=n by omega]
 ·rw[if_neg (by omega),if_neg (by omega),if_pos (by omega),show(4*n+3) / 4=n by omega]
theorem zf_add(s:Nat→I3)(fa:Int)(x:Ld){n:Nat}(hn:x.1=n)(j:Nat):
  updZ (updZ (updZ (zf s) (4*n+1) ((s n).1+fa*x.2.1)) (4*n+2) ((s n).2.1+fa*x.2.2.1)) (4*n+3) ((s n).2.2+fa*x.2.2.2) j=zf (addL s fa x) j:=by
 unfold updZ
 by_cases h3:j=4*n+3
 ·subst h3
  rw[if_pos rfl,(zf_at _ n).2.2.2,addL,if_pos hn.symm]
 rw[if_neg h3]
 by_cases h2:j=4*n+2
 ·subst h2
  rw[if_pos rfl,(zf_at _ n).2.2.1,addL,if_pos hn.symm]
 rw[if_neg h2]
 by_cases h1:j=4*n+1
 ·subst h1
  rw[if_pos rfl,(zf_at _ n).2.1,addL,if_pos hn.symm]
 rw[if_neg h1]
 unfold zf
 by_cases hj:j / 4=n
 ·rw[if_neg (by omega),if_neg (by omega),if_neg (by omega),if_neg (by omega),if_neg (by omega),if_neg (by omega)]
 ·have:addL s fa x (j / 4)=s (j / 4):=by rw[addL,if_neg (by omega)]
  rw[this]
theorem updZ_set(z:Nat→Int){j:Nat}(v:Int){m:Nat}(hj:j<m):((List.range m).map z).set j v=(List.range m).map (updZ z j v):=by
 refine List.ext_getElem? fun i=>?_
 rw[List.getElem?_set,List.getElem?_map]
 by_cases h:j=i
 ·subst h
  rw[if_pos rfl,if_pos (by simpa using hj),List.getElem?_map,List.getElem?_range hj]
  simp[updZ]
 ·rw[if_neg h,List.getElem?_map]
  rcases Nat.lt_or_ge i m with h2|h2
  ·rw[List.getElem?_range h2]
   simp only[updZ,Option.map_some,if_neg (fun e:i=j=>h e.symm)]
  ·rw[List.getElem?_eq_none (by simpa using h2)]
   rfl
end Go.Ex

/- Loads gathered from cases. Printed by program. No condition but sizes. -/
namespace Go.Ex
open Go Go.Sx Go.Proofs

end Go.Ex
namespace Go.Sx
open Go Go.Ex Go.Proofs
/-- a box of values of one's own, as an array -/
theorem Sub.boxA{B nx:Nat}{l:Env}{H:Hp}{iv:Iv}{w w':World}{ρ:Nat→Sx.Val}{t:LoopI}(id:Nat){bt:Nat}{vs:List Value}(hid:getH H id=some (.box bt (vs.map At.v)))(r:Rel H nx iv B w ρ w')
  (h:Rel ((id,.arr bt vs)::H) nx iv B w ρ w'→Sx.Sub B l nx ρ w' t):Sx.Sub B l nx ρ w' t:=by
 have hnn:=r.nn id _ hid (by intros;simp) (by simp)
 have hcell:=r.box id bt _ hid
 have hden:(vs.map At.v).map (At.den ρ)=vs:=by
  rw[List.map_map]
  exact List.map_id _
 rw[hden]at hcell
 exact h (r.store (b':=.arr bt vs) (H':=(id,.arr bt vs)::H) (w2:=w') hid (by simp) hnn (fun j=>by
  rw[getH_cons]
  by_cases hj:id=j
  ·subst hj;simp
  ·rw[if_neg hj,if_neg (fun h=>hj h.symm)]) rfl rfl rfl rfl (fun _ _=>rfl) ⟨hnn,hcell⟩ trivial)
end Go.Sx
namespace Go.Ex
open Go Go.Sx Go.Proofs
/-- an element of an array value, of several cells -/
theorem opS_index4{P:Program}{B nx:Nat}{l:Env}{H:Hp}{iv:Iv}{w:World}{dst:Option Tmp}{t ty len e sz:Nat}{x i:Operand}{pos:String}{after:Array Edge}{guard:Option (Nat×Bool)}{K:SV→Hp→Nat→Iv→World→Prop}{vx:SV}{cs:Array Value}{k:IntKind}{m:Int}{u:Value}
  (hu:P.underlying t=some (.array len e)) (hs:∀w,(sizeOf e).run P w= .ok sz w) (hp:∀w:World,(part e cs (m.toNat*sz)).run P w= .ok u w) (hx:ev l x=some vx) (hxd:∀ρ,vx.den ρ= .agg cs) (hi:ev l i=some (.o (.v (.int k m)))) (hm:0≤m∧m<len)
  (hK:∀ρ w',Rel H nx iv B w ρ w'→K (.o (.v u)) H nx iv w'):OpS P B ⟨dst,.index t x i,ty,pos,after,guard⟩ l H nx iv w K:=by
 refine⟨fun ρ w' ev' r hev=>⟨u,w',iv,.inl ?_,r.here,hK ρ w' r⟩⟩
 have e1:ev' x= .agg cs:=by rw[hev x _ hx,hxd]
 have e2:ev' i= .int k m:=hev i _ hi
 simp[execOp,e1,e2,Instr.index,asIntOf,run_underlying hu,hm.1,hm.2,hs,hp]
def zc(z:Nat→Int):List Value:=(List.range 80).map fun j=>.int .i64 (z j)
theorem zc_len(z:Nat→Int):(zc z).length=80:=by rw[zc,List.length_map,List.length_range]
theorem zc_at(z:Nat→Int){j:Nat}(h:j<80):(zc z)[j]? =some (.int .i64 (z j)):=by rw[zc,List.getElem?_map,List.getElem?_range h];rfl
theorem zc_set(z:Nat→Int){j:Nat}(v:Int)(h:j<80):(zc z).take j++[.int .i64 v]++(zc z).drop (j+1)=zc (updZ z j v):=by
 rw[set_take_drop (by rw[zc_len];exact h)]
 have:=congrArg (List.map (Value.int .i64)) (updZ_set z v h)
 rw[List.map_set,List.map_map,List.map_map]at this
 exact this
theorem zc_ext{z z2:Nat→Int}(h:∀j,z j=z2 j):zc z=zc z2:=by rw[show z=z2 from funext h]
theorem load_part(z:Nat→Int){n:Nat}(hn:n<20)(w:World):(part T.Load (zc z).toArray ((n:Int).toNat*4)).run PG w= .ok (.agg #[.int .i64 (z (4*n)),.int .i64 (z (4*n+1)),.int .i64 (z (4*n+2)),.int .i64 (z (4*n+3))]) w:=by
 have h1:=(hτ T.Load _ rfl).isAgg w
 have h2:=(hτ T.Load _ rfl).sizeOf w
 simp only[part,Sem.run_bind,h1,Result.andThen,if_true]
 simp only[Sem.run_bind,h2,Result.andThen,Int.toNat_natCast]
 have h3:(zc z).extract (n*4) (n*4+4)=[.int .i64 (z (4*n)),.int .i64 (z (4*n+1)),.int .i64 (z (4*n+2)),.int .i64 (z (4*n+3))]:=by
  refine List.ext_getElem? fun i=>?_
  rw[List.extract_eq_take_drop,List.getElem?_take]
  split<;>rename_i hi
  ·rw[List.getElem?_drop,zc_at z (by omega),Nat.mul_comm]
   rcases(show i=0∨i=1∨i=2∨i=3 by omega)with rfl|rfl|rfl|rfl<;>rfl
  ·rw[List.getElem?_eq_none (by simp;omega)]
 rw[List.extract_toArray,h3]
 rfl
theorem load_eq(p0 p1 p2 p3 q0 q1 q2 q3:Int)(w:World):(Op.equal T.Load (.agg #[.int .i64 p0,.int .i64 p1,.int .i64 p2,.int .i64 p3]) (.agg #[.int .i64 q0,.int .i64 q1,.int .i64 q2,.int .i64 q3])).run PG w= .ok (decide (p0=q0∧p1=q1∧p2=q2∧p3=q3)) w:=by
 have h:=run_underlying Tryz.underlying147
 simp only[Op.equal,Op.maxDepth]
 unfold Op.equalIn
 have a0:=part_int (cs:= #[Value.int .i64 p0,Value.int .i64 p1,Value.int .i64 p2,Value.int .i64 p3]) (j:=0) rfl
 have a1:=part_int (cs:= #[Value.int .i64 p0,Value.int .i64 p1,Value.int .i64 p2,Value.int .i64 p3]) (j:=1) rfl
 have a2:=part_int (cs:= #[Value.int .i64 p0,Value.int .i64 p1,Value.int .i64 p2,Value.int .i64 p3]) (j:=2) rfl
 have a3:=part_int (cs:= #[Value.int .i64 p0,Value.int .i64 p1,Value.int .i64 p2,Value.int .i64 p3]) (j:=3) rfl
 have b0:=part_int (cs:= #[Value.int .i64 q0,Value.int .i64 q1,Value.int .i64 q2,Value.int .i64 q3]) (j:=0) rfl
 have b1:=part_int (cs:= #[Value.int .i64 q0,Value.int .i64 q1,Value.int .i64 q2,Value.int .i64 q3]) (j:=1) rfl
 have b2:=part_int (cs:= #[Value.int .i64 q0,Value.int .i64 q1,Value.int .i64 q2,Value.int .i64 q3]) (j:=2) rfl
 have b3:=part_int (cs:= #[Value.int .i64 q0,Value.int .i64 q1,Value.int .i64 q2,Value.int .i64 q3]) (j:=3) rfl
 simp[h,a0,a1,a2,a3,b0,b1,b2,b3,eq_int 9998]
 by_cases h0:p0=q0
 ·by_cases h1:p1=q1
  ·by_cases h2:p2=q2
   ·by_cases h3:p3=q3<;>simp[h0,h1,h2,h3]
   ·simp[h0,h1,h2]
  ·simp[h0,h1]
 ·simp[h0]
abbrev loadV(x:Ld):Value:=.agg #[.int .i64 x.1,.int .i64 x.2.1,.int .i64 x.2.2.1,.int .i64 x.2.2.2]
theorem ld_eq_iff(x y:Ld):(x.1=y.1∧x.2.1=y.2.1∧x.2.2.1=y.2.2.1∧x.2.2.2=y.2.2.2)↔x=y:=by
 obtain⟨a,b,c,d⟩:=x
 obtain⟨a2,b2,c2,d2⟩:=y
 simp
theorem load_neq(x y:Ld)(w:World)(o1 o2:Operand):(do eqGuard .neq T.Load o1 o2 (loadV x) (loadV y);binOp .neq T.Load (loadV x) (loadV y)).run PG w= .ok (.bool (!decide (x=y))) w:=by
 have h:=load_eq x.1 x.2.1 x.2.2.1 x.2.2.2 y.1 y.2.1 y.2.2.1 y.2.2.2 w
 rw[show decide (x.1=y.1∧x.2.1=y.2.1∧x.2.2.1=y.2.2.1∧x.2.2.2=y.2.2.2)=decide (x=y)from decide_eq_decide.2 (ld_eq_iff x y)]at h
 simp[eqGuard,binOp,h]
theorem arr_desc:PG.underlying 194=some (.array 20 T.Load):=Tryz.underlying194
abbrev CasesR:=SlicesR (LoadsR)
theorem den_vals(xs:List Value)(ρ:Nat→Sx.Val):SV.den ρ (.a (xs.map At.v))= .agg xs.toArray:=by
 rw[SV.den,List.map_map]
 congr 2
 exact List.map_id _
theorem LoadP.one{w:World}{S:Nat→Prop}{cs:List Value}{x:Ld}(h:LoadP w S cs x):∀u∈cs,u.oneCell'=true:=fun u hu=>by
 have h:cs=[.int .i64 x.1,.int .i64 x.2.1,.int .i64 x.2.2.1,.int .i64 x.2.2.2]:=h
 subst h
 simp at hu
 rcases hu with rfl|rfl|rfl|rfl<;>rfl
theorem sInSize100_c(n:Int)(w:World):Con PG N.statics_inSize #[.int .i64 n,.int .i64 100] w (Ret w fun v' _=>∃d,v'= .bool d∧(d=true↔ -100≤n∧n≤100)):=by
 have hw:Bel w.heap.size w w:=Bel.refl
 refine in_statics_inSize (by simp) ?_
 conv=>whnf
 refine⟨-100,by decide,?_⟩
 conv=>whnf
 refine BrS.mk (fun h1=>?_) (fun h1=>?_)
 ·conv=>whnf
  intro ρe we re
  have h1:=of_decide_eq_true h1
  exact⟨_,rfl,hw.tr re.bel,_,rfl,by rw[decide_eq_true_iff];exact⟨fun h=>⟨h1,h⟩,fun h=>h.2⟩⟩
 ·conv=>whnf
  intro ρe we re
  have h1:=of_decide_eq_false h1
  exact⟨_,rfl,hw.tr re.bel,_,rfl,(fun h=>by cases h),fun h=>absurd h.1 h1⟩
set_option maxHeartbeats 2000000 in
theorem sGather_c{S:Nat→Prop}{w:World}{v u:Value}{cs:List (List Ld)}{fs:List Int}{e0:Int}(hS:Old S w)(hC:CasesR w S v cs)(hF:ZsR w S u fs)(he0:e0=errG cs fs):
  Con PG N.statics_Gather #[v,u] w (Ret w fun v' w2=>(e0≠0∧v'= .tuple #[.slice none 0 0,.int .i64 e0])∨(e0=0∧∃vr,v'= .tuple #[vr,.int .i64 0]∧LoadsR w2 (Nw (fun _=>False) w w2) vr (gathTo (outTo cs fs cs.length) 20))):=by
 have hw:Bel w.heap.size w w:=Bel.refl
 obtain⟨ac,cc,rfl,-,hmc⟩:=SlicesR.shape hC
 obtain⟨af,cf,rfl,-,hmf⟩:=hF.shape
 unfold maxLen at hmc hmf
 refine in_statics_Gather (by simp) ?_
 conv=>whnf
 refine BrS.mk (fun h1=>?_) (fun h1=>?_)
 ·have h1:=of_decide_eq_true h1
  have hge:errG cs fs=8:=by rw[errG,if_pos (by omega)]
  conv=>whnf
  intro ρe we re
  exact⟨_,rfl,hw.tr re.bel,.inl ⟨by rw[he0,hge];decide,by rw[he0,hge];rfl⟩⟩
 have h1:=of_decide_eq_false h1
 have h16:¬16<cs.length:=by omega
 conv=>whnf
 refine BrS.mk (fun h2=>?_) (fun h2=>?_)
 ·have h2:fs.length≠cs.length:=by intro h;rw[h]at h2;simp at h2
  have hge:errG cs fs=11:=by rw[errG,if_neg h16,if_pos h2]
  conv=>whnf
  intro ρe we re
  exact⟨_,rfl,hw.tr re.bel,.inl ⟨by rw[he0,hge];decide,by rw[he0,hge];rfl⟩⟩
 have h2:=(show (fs.length:Int)=(cs.length:Int)from(by simpa using h2))
 have hlen:fs.length=cs.length:=by omega
 have hlen2:¬fs.length≠cs.length:=fun h=>h hlen
 conv=>whnf
 refine⟨Nat×World×Iv,fun z=>⟨[(0,.o (.v (.slice ac cs.length cc))),(1,.o (.v (.slice af fs.length cf))),(28,.o (.v (.slice af fs.length cf))),(29,.o (.v (.int .i64 fs.length))),(30,.o (.v (.int .i64 ((z.1:Nat):Int))))],[],0,z.2.2,z.2.1⟩,fun z=>fs.length-z.1,
  fun z=>z.1≤fs.length∧Bel w.heap.size w z.2.1∧firstE (fun _=>faE) [] fs=firstE (fun _=>faE) (fs.take z.1) (fs.drop z.1),?_,?_⟩
 ·intro ρ w' r3
  exact⟨(0,w',_),⟨Nat.zero_le _,hw.tr r3.bel,rfl⟩,Sub.gen [] r3 trivial ⟨rfl,rfl,rfl,rfl,rfl,trivial⟩ (by simp[ScH,Blk.scopd,At.sc]) (by simp[ScE,SV.sc,At.sc,initE]) (by rfl) (fun lo hi h=>h)⟩
 clear hw
 rintro⟨i,w1,iv⟩ ⟨hi,hw,hE⟩
 dsimp only at hi hw hE ⊢
 conv=>whnf
 refine BrS.mk (fun hib=>?_) (fun hib=>?_)
 ·have hib:i<fs.length:=by simpa using hib
  obtain⟨x,hx⟩:∃x,fs[i]? =some x:=⟨_,List.getElem?_eq_getElem hib⟩
  obtain⟨adx,hax,hSx,hlx⟩:=ZsR.at hF hx
  conv=>whnf
  refine⟨adx,hax,⟨by omega,by omega⟩,?_⟩
  conv=>whnf
  refine⟨.int .i64 x,fun ρ w' r=>?_,?_⟩
  ·rw[Int.toNat_natCast,cell_of_heap (w:=w) (w2:=w') (by rw[addB];exact(hw.tr r.bel).block _ (hS _ hSx))]
   exact hlx
  conv=>whnf
  refine callE_S (cE hw (Φ:=fun _ w' v w2=>∃d,v= .bool d∧(d=true↔ -100≤x∧x≤100)) (fun ρ w' r=>sInSize100_c x w') ?_)
  rintro ρ wa1 v1 wb1 iv1 r he hw h_ ⟨d1,rfl,hz1⟩
  clear r
  cases d1
  ·have hz1:¬(-100≤x∧x≤100):=fun h=>by have:=hz1.2 h;cases this
   have hf2:firstE (fun _=>faE) [] fs≠0:=by rw[hE,firstE_ret hx (show faE x=2 by rw[faE,if_neg hz1]) (by decide)];decide
   have hge:errG cs fs=2:=by rw[errG,if_neg h16,if_neg hlen2,if_pos hf2]
   conv=>whnf
   intro ρe we re
   exact⟨_,rfl,hw.tr re.bel,.inl ⟨by rw[he0,hge];decide,by rw[he0,hge];rfl⟩⟩
  have hz1:=hz1.1 rfl
  rw[firstE_step hx (show faE x=0 by rw[faE,if_pos hz1])]at hE
  conv=>whnf
  refine⟨((i+1:Nat):Int),by rw[wrap64]<;>omega,?_⟩
  conv=>whnf
  intro ρ3 w6 r3
  exact⟨(i+1,w6,_),⟨hib,hw.tr r3.bel,hE⟩,Sub.gen [] r3 trivial ⟨rfl,rfl,rfl,rfl,rfl,trivial⟩ (by simp[ScH,Blk.scopd,At.sc]) (by simp[ScE,SV.sc,At.sc,initE]) (by rfl) (fun lo hi h=>h),by dsimp only;omega⟩
 have hib:i=fs.length:=Nat.le_antisymm hi (by simpa using hib)
 rw[firstE_end (by omega)]at hE
 have hfac:∀(k:Nat) x,fs[k]? =some x→ -100≤x∧x≤100:=fun k x hk=>by
  have h:=firstE_zero hE k x hk
  unfold faE at h
  split at h<;>rename_i h2
  ·exact h2
  ·cases h
 have hf0:¬firstE (fun _=>faE) [] fs≠0:=fun h=>h hE
 clear hib hi hE
 conv=>whnf
 refine⟨Nat×World×Iv,fun z=>⟨[(0,.o (.v (.slice ac cs.length cc))),(1,.o (.v (.slice af fs.length cf))),(38,.o (.v (.slice ac cs.length cc))),(39,.o (.v (.int .i64 cs.length))),(40,.o (.v (.int .i64 ((z.1:Nat):Int))))],[],0,z.2.2,z.2.1⟩,fun z=>cs.length-z.1,
  fun z=>z.1≤cs.length∧Bel w.heap.size w z.2.1∧firstE (fun _=>errL 20) [] cs=firstE (fun _=>errL 20) (cs.take z.1) (cs.drop z.1),?_,?_⟩
 ·intro ρ w' r3
  exact⟨(0,w',_),⟨Nat.zero_le _,hw.tr r3.bel,rfl⟩,Sub.gen [] r3 trivial ⟨rfl,rfl,rfl,rfl,rfl,trivial⟩ (by simp[ScH,Blk.scopd,At.sc]) (by simp[ScE,SV.sc,At.sc,initE]) (by rfl) (fun lo hi h=>h)⟩
 clear hw
 rintro⟨i,w1,iv⟩ ⟨hi,hw,hE⟩
 dsimp only at hi hw hE ⊢
 conv=>whnf
 refine BrS.mk (fun hib=>?_) (fun hib=>?_)
 ·have hib:i<cs.length:=by simpa using hib
  obtain⟨x,hx⟩:∃x,cs[i]? =some x:=⟨_,List.getElem?_eq_getElem hib⟩
  obtain⟨adm,um,ham,hRm,km1,km2⟩:=SlicesR.load hC hx
  obtain⟨al,cl,rfl,-,hml⟩:=hRm.shape
  conv=>whnf
  refine⟨adm,ham,⟨by omega,by omega⟩,?_⟩
  conv=>whnf
  refine⟨.slice al x.length cl,fun ρ w' r=>?_,?_⟩
  ·rw[Int.toNat_natCast,cell_of_heap (w:=w) (w2:=w') (by rw[addB];exact(hw.tr r.bel).block _ (hS _ km1))]
   exact km2
  conv=>whnf
  refine callE_S (cE hw (Φ:=fun _ w' v w2=>v= .int .i64 (errL 20 x)) (fun ρ w' r=>sCheckLoads_c (fun g hg=>by have:=hS g hg;have:=r.baseLe;omega) (LoadsR.keep hRm fun g hg=>(hw.tr r.bel).block g (hS g hg))) ?_)
  rintro ρ wa1 v1 wb1 iv1 r he hw h_ rfl
  clear r
  obtain⟨e,he⟩:∃e,errL 20 x=e:=⟨_,rfl⟩
  rw[he]
  conv=>whnf
  refine BrS.mk (fun hd=>?_) (fun hd=>?_)
  ·have hd:e≠0:=by simpa using hd
   have hc2:firstE (fun _=>errL 20) [] cs=e:=by rw[hE];exact firstE_ret hx he hd
   have hge:errG cs fs=e:=by rw[errG,if_neg h16,if_neg hlen2,if_neg hf0,if_pos (by rw[hc2];exact hd),hc2]
   conv=>whnf
   intro ρe we re
   exact⟨_,rfl,hw.tr re.bel,.inl ⟨by rw[he0,hge];exact hd,by rw[he0,hge];rfl⟩⟩
  have hd:e=0:=by simpa using hd
  subst hd
  rw[firstE_step (e:=fun _=>errL 20) hx he]at hE
  conv=>whnf
  refine⟨((i+1:Nat):Int),by rw[wrap64]<;>omega,?_⟩
  conv=>whnf
  intro ρ3 w6 r3
  exact⟨(i+1,w6,_),⟨hib,hw.tr r3.bel,hE⟩,Sub.gen [] r3 trivial ⟨rfl,rfl,rfl,rfl,rfl,trivial⟩ (by simp[ScH,Blk.scopd,At.sc]) (by simp[ScE,SV.sc,At.sc,initE]) (by rfl) (fun lo hi h=>h),by dsimp only;omega⟩
 have hib:i=cs.length:=Nat.le_antisymm hi (by simpa using hib)
 rw[firstE_end (by omega)]at hE
 have hcas:∀(k:Nat) l,cs[k]? =some l→LdsOk 20 l:=fun k l hk=>errL_ok (firstE_zero hE k l hk)
 have hc0:¬firstE (fun _=>errL 20) [] cs≠0:=fun h=>h hE
 clear hib hi hE
 conv=>whnf
 refine⟨Nat×World,fun z=>⟨[(0,.o (.v (.slice ac cs.length cc))),(1,.o (.v (.slice af fs.length cf))),(11,.o (.p 0 0)),(50,.o (.v (.slice ac cs.length cc))),(51,.o (.v (.int .i64 cs.length))),(52,.o (.v (.int .i64 ((z.1:Nat):Int))))],[(0,.arr 194 (zc (zf (outTo cs fs z.1))))],1,iv,z.2⟩,fun z=>cs.length-z.1,
  fun z=>z.1≤cs.length∧Bel w.heap.size w z.2∧Sbd (outTo cs fs z.1) (20000000000*z.1),?_,?_⟩
 ·intro ρ w' r3
  exact⟨(0,w'),⟨Nat.zero_le _,hw.tr r3.bel,fun n=>by simp[outTo]⟩,Sub.boxA 0 (vs:=zc fun _=>0) rfl r3 fun r4=>Sub.gen [] r4 ⟨by dsimp only;rw[show zf (outTo cs fs 0)=fun _=>0 from funext fun j=>by unfold zf outTo;simp];rfl,trivial⟩ ⟨rfl,rfl,rfl,rfl,rfl,rfl,trivial⟩ (by simp[ScH,Blk.scopd,At.sc]) (by simp[ScE,SV.sc,At.sc,initE]) (by rfl) (fun lo hi h=>h)⟩
 clear hw
 rintro⟨c,w1⟩ ⟨hi,hw,hB⟩
 dsimp only at hi hw hB ⊢
 conv=>whnf
 refine BrS.mk (fun hib=>?_) (fun hib=>?_)
 ·have hib:c<cs.length:=by simpa using hib
  obtain⟨l,hl⟩:∃x,cs[c]? =some x:=⟨_,List.getElem?_eq_getElem hib⟩
  obtain⟨fa,hfa⟩:∃x,fs[c]? =some x:=⟨_,List.getElem?_eq_getElem (by omega)⟩
  have hfb:=hfac c fa hfa
  have hok:=hcas c l hl
  have hl200:=hok.len
  obtain⟨adf,haf,hSf,hlf⟩:=ZsR.at hF hfa
  have hnx:outTo cs fs (c+1)=inTo (outTo cs fs c) fa l l.length:=by rw[outTo,show cs.getD c []=l by rw[List.getD,hl];rfl,show fs.getD c 0=fa by rw[List.getD,hfa];rfl]
  obtain⟨adm,um,ham,hRm,km1,km2⟩:=SlicesR.load hC hl
  obtain⟨al,cl,rfl,-,hml⟩:=hRm.shape
  conv=>whnf
  refine⟨adm,ham,⟨by omega,by omega⟩,?_⟩
  conv=>whnf
  refine⟨.slice al l.length cl,fun ρ w' r=>?_,?_⟩
  ·rw[Int.toNat_natCast,cell_of_heap (w:=w) (w2:=w') (by rw[addB];exact(hw.tr r.bel).block _ (hS _ km1))]
   exact km2
  conv=>whnf
  refine⟨Nat×World,fun z=>⟨[(0,.o (.v (.slice ac cs.length cc))),(1,.o (.v (.slice af fs.length cf))),(11,.o (.p 0 0)),(12,.o (.v (.int .i64 ((c:Nat):Int)))),(50,.o (.v (.slice ac cs.length cc))),(51,.o (.v (.int .i64 cs.length))),(52,.o (.v (.int .i64 ((c:Nat):Int)))),(57,.o (.v (.slice al l.length cl))),(58,.o (.v (.int .i64 l.length))),(59,.o (.v (.int .i64 ((z.1:Nat):Int))))],[(0,.arr 194 (zc (zf (inTo (outTo cs fs c) fa l z.1))))],1,iv,z.2⟩,fun z=>l.length-z.1,
   fun z=>z.1≤l.length∧Bel w.heap.size w z.2∧Sbd (inTo (outTo cs fs c) fa l z.1) (20000000000*c+100000000*z.1),?_,?_⟩
  ·intro ρ w' r3
   exact⟨(0,w'),⟨Nat.zero_le _,hw.tr r3.bel,by simpa [inTo]using hB⟩,Sub.gen [] r3 ⟨rfl,trivial⟩ ⟨rfl,rfl,rfl,rfl,rfl,rfl,rfl,rfl,rfl,rfl,trivial⟩ (by simp[ScH,Blk.scopd,At.sc]) (by simp[ScE,SV.sc,At.sc,initE]) (by rfl) (fun lo hi h=>h)⟩
  clear hw hB
  rintro⟨k,w3⟩ ⟨hk,hw,hB⟩
  dsimp only at hk hw hB ⊢
  conv=>whnf
  refine BrS.mk (fun hkb=>?_) (fun hkb=>?_)
  ·have hkb:k<l.length:=by simpa using hkb
   obtain⟨x,hx⟩:∃x,l[k]? =some x:=⟨_,List.getElem?_eq_getElem hkb⟩
   obtain⟨hn0,hxb⟩:=hok.ld x (List.mem_of_getElem? hx)
   obtain⟨n,hn⟩:=Int.eq_ofNat_of_zero_le hn0.1
   have hn20:n<20:=by omega
   obtain⟨adx,csx,hax,hP,-,hlx⟩:=hRm.load (by decide) hx
   have hP:csx=[.int .i64 x.1,.int .i64 x.2.1,.int .i64 x.2.2.1,.int .i64 x.2.2.2]:=hP
   subst hP
   rw[hn]at hlx
   have hnk:inTo (outTo cs fs c) fa l (k+1)=addL (inTo (outTo cs fs c) fa l k) fa x:=by rw[inTo,show l.getD k (0,0,0,0)=x by rw[List.getD,hx];rfl]
   have hB2:=hB.add (x:=x) hfb hxb
   obtain⟨s,hs⟩:∃s,inTo (outTo cs fs c) fa l k=s:=⟨_,rfl⟩
   rw[hs]at hB hB2 hnk ⊢
   have hbn:=hB n
   obtain⟨z0,z1,z2,z3⟩:=zf_at s n
   obtain⟨⟨q1,q2⟩,⟨q3,q4⟩,q5,q6⟩:=hxb
   have m1:=mul_bd hfb.1 hfb.2 q1 q2
   have m2:=mul_bd hfb.1 hfb.2 q3 q4
   have m3:=mul_bd hfb.1 hfb.2 q5 q6
   conv=>whnf
   refine⟨adx,hax,⟨by omega,by omega⟩,?_⟩
   conv=>whnf
   refine⟨[.int .i64 (n:Int),.int .i64 x.2.1,.int .i64 x.2.2.1,.int .i64 x.2.2.2],rfl,fun ρ w' r j u hu=>?_,?_⟩
   ·obtain⟨k1,k2⟩:=hlx j u hu
    rw[Int.toNat_natCast,cell_of_heap (w:=w) (w2:=w') (by rw[addB,addB];exact(hw.tr r.bel).block _ (hS _ k1))]
    exact k2
   conv=>whnf
   refine⟨⟨by omega,by omega⟩,?_⟩
   conv=>whnf
   refine drawn_of_pi hτ hmix [.x 0,.x 1,.x 2,.x 3,.x 4,.x 5,.x 6,.x 7,.x 8,.x 9,.x 10,.x 11,.x 12,.x 13,.x 14] (by kernel_rfl) (by kernel_rfl) ?_
   conv=>whnf
   refine⟨.int .i64 (s n).1,by rw[show ∀m,0+(n:Int).toNat*4+m=4*n+m from fun m=>by omega,zc_at _ (by omega)];rw[z1],?_⟩
   conv=>whnf
   refine⟨adf,haf,⟨by omega,by omega⟩,?_⟩
   conv=>whnf
   refine⟨.int .i64 fa,fun ρ w' r=>?_,?_⟩
   ·rw[Int.toNat_natCast,cell_of_heap (w:=w) (w2:=w') (by rw[addB];exact(hw.tr r.bel).block _ (hS _ hSf))]
    exact hlf
   conv=>whnf
   refine⟨fa*x.2.1,by rw[wrap64]<;>omega,?_⟩
   conv=>whnf
   refine⟨(s n).1+fa*x.2.1,by rw[wrap64]<;>omega,?_⟩
   conv=>whnf
   refine⟨by rw[zc_len];omega,zc (updZ (zf s) (4*n+1) ((s n).1+fa*x.2.1)),?_,?_⟩
   ·rw[show ∀m,0+(n:Int).toNat*4+m=4*n+m from fun m=>by omega]
    exact zc_set _ _ (by omega)
   conv=>whnf
   refine drawn_of_pi hτ hmix [.x 0,.x 1,.x 2,.x 3,.x 4,.x 5,.x 6,.x 7,.x 8,.x 9,.x 10,.x 11,.x 12,.x 13,.x 14] (by kernel_rfl) (by kernel_rfl) ?_
   conv=>whnf
   refine⟨.int .i64 (s n).2.1,by rw[show ∀m,0+(n:Int).toNat*4+m=4*n+m from fun m=>by omega,zc_at _ (by omega)];simp[updZ,z2],?_⟩
   conv=>whnf
   refine⟨adf,haf,⟨by omega,by omega⟩,?_⟩
   conv=>whnf
   refine⟨.int .i64 fa,fun ρ w' r=>?_,?_⟩
   ·rw[Int.toNat_natCast,cell_of_heap (w:=w) (w2:=w') (by rw[addB];exact(hw.tr r.bel).block _ (hS _ hSf))]
    exact hlf
   conv=>whnf
   refine⟨fa*x.2.2.1,by rw[wrap64]<;>omega,?_⟩
   conv=>whnf
   refine⟨(s n).2.1+fa*x.2.2.1,by rw[wrap64]<;>omega,?_⟩
   conv=>whnf
   refine⟨by rw[zc_len];omega,zc (updZ ((updZ (zf s) (4*n+1) ((s n).1+fa*x.2.1))) (4*n+2) ((s n).2.1+fa*x.2.2.1)),?_,?_⟩
   ·rw[show ∀m,0+(n:Int).toNat*4+m=4*n+m from fun m=>by omega]
    exact zc_set _ _ (by omega)
   conv=>whnf
   refine drawn_of_pi hτ hmix [.x 0,.x 1,.x 2,.x 3,.x 4,.x 5,.x 6,.x 7,.x 8,.x 9,.x 10,.x 11,.x 12,.x 13,.x 14] (by kernel_rfl) (by kernel_rfl) ?_
   conv=>whnf
   refine⟨.int .i64 (s n).2.2,by rw[show ∀m,0+(n:Int).toNat*4+m=4*n+m from fun m=>by omega,zc_at _ (by omega)];simp[updZ,z3],?_⟩
   conv=>whnf
   refine⟨adf,haf,⟨by omega,by omega⟩,?_⟩
   conv=>whnf
   refine⟨.int .i64 fa,fun ρ w' r=>?_,?_⟩
   ·rw[Int.toNat_natCast,cell_of_heap (w:=w) (w2:=w') (by rw[addB];exact(hw.tr r.bel).block _ (hS _ hSf))]
    exact hlf
   conv=>whnf
   refine⟨fa*x.2.2.2,by rw[wrap64]<;>omega,?_⟩
   conv=>whnf
   refine⟨(s n).2.2+fa*x.2.2.2,by rw[wrap64]<;>omega,?_⟩
   conv=>whnf
   refine⟨by rw[zc_len];omega,zc (updZ ((updZ ((updZ (zf s) (4*n+1) ((s n).1+fa*x.2.1))) (4*n+2) ((s n).2.1+fa*x.2.2.1))) (4*n+3) ((s n).2.2+fa*x.2.2.2)),?_,?_⟩
   ·rw[show ∀m,0+(n:Int).toNat*4+m=4*n+m from fun m=>by omega]
    exact zc_set _ _ (by omega)
   conv=>whnf
   rw[zc_ext (zf_add s fa x hn)]
   conv=>whnf
   refine⟨((k+1:Nat):Int),by rw[wrap64]<;>omega,?_⟩
   conv=>whnf
   intro ρ3 w6 r3
   exact⟨(k+1,w6),⟨hkb,hw.tr r3.bel,by dsimp only;rw[hnk];exact fun n=>by have:=hB2 n;omega⟩,Sub.gen [] r3 ⟨by dsimp only;rw[hnk];rfl,trivial⟩ ⟨rfl,rfl,rfl,rfl,rfl,rfl,rfl,rfl,rfl,rfl,trivial⟩ (by simp[ScH,Blk.scopd,At.sc]) (by simp[ScE,SV.sc,At.sc,initE]) (by rfl) (fun lo hi h=>h),by dsimp only;omega⟩
  have hkb:k=l.length:=Nat.le_antisymm hk (by simpa using hkb)
  subst hkb
  rw[←hnx]at hB ⊢
  conv=>whnf
  refine⟨((c+1:Nat):Int),by rw[wrap64]<;>omega,?_⟩
  conv=>whnf
  intro ρ3 w6 r3
  exact⟨(c+1,w6),⟨hib,hw.tr r3.bel,fun n=>by have:=hB n;dsimp only;omega⟩,Sub.gen [] r3 ⟨rfl,trivial⟩ ⟨rfl,rfl,rfl,rfl,rfl,rfl,trivial⟩ (by simp[ScH,Blk.scopd,At.sc]) (by simp[ScE,SV.sc,At.sc,initE]) (by rfl) (fun lo hi h=>h),by dsimp only;omega⟩
 have hib:c=cs.length:=Nat.le_antisymm hi (by simpa using hib)
 subst hib
 obtain⟨s,hs⟩:∃s,outTo cs fs cs.length=s:=⟨_,rfl⟩
 rw[hs]at hB ⊢
 conv=>whnf
 refine⟨zc (zf s),by rw[List.drop_zero,List.take_of_length_le (by rw[zc_len];exact Nat.le_refl _)],zc_len _,?_⟩
 conv=>whnf
 refine⟨Nat×List (List Value)×World×Iv,fun z=>⟨[(17,.o (.w 1 z.2.1.length)),(110,.a ((zc (zf s)).map At.v)),(111,.o (.v (.int .i64 ((z.1:Nat):Int))))],[(1,.vec T.Load 4 z.2.1.flatten)],2,z.2.2.2,z.2.2.1⟩,fun z=>20-z.1,
  fun z=>z.1≤20∧Bel w.heap.size w z.2.2.1∧GrowK 4 LoadP z.2.2.1 S z.2.1 (gathTo s z.1)∧firstE (fun _=>suE s) [] (List.range 20)=firstE (fun _=>suE s) ((List.range 20).take z.1) ((List.range 20).drop z.1),?_,?_⟩
 ·intro ρ w' r
  exact⟨(0,[],w',_),⟨Nat.zero_le _,hw.tr r.bel,GrowK.nil,rfl⟩,Sub.nil 17 T.Load 4 rfl (by simp[ScE,SV.sc,At.sc,initE]) r fun ρ1 r1=>Sub.gen [] r1 ⟨rfl,trivial⟩ ⟨rfl,rfl,rfl,trivial⟩ (by simp[ScH,Blk.scopd,At.sc]) (by simp[ScE,SV.sc,At.sc,initE]) (by rfl) (fun lo hi h=>h)⟩
 clear hw hB
 rintro⟨n,css,w4,iv⟩ ⟨hi,hw,hG,hE⟩
 dsimp only at hi hw hG hE ⊢
 have hfl:=flatk_len hG.wid
 have hcl:css.length≤n:=by rw[hG.len];exact gathTo_len s n
 conv=>whnf
 refine BrS.mk (fun hib=>?_) (fun hib=>?_)
 ·have hib:n<20:=by have:=of_decide_eq_true hib;omega
  have hr:(List.range 20)[n]? =some n:=List.getElem?_range hib
  obtain⟨z0,z1,z2,z3⟩:=zf_at s n
  obtain⟨a0,ha0⟩:∃a,(s n).1=a:=⟨_,rfl⟩
  obtain⟨a1,ha1⟩:∃a,(s n).2.1=a:=⟨_,rfl⟩
  obtain⟨a2,ha2⟩:∃a,(s n).2.2=a:=⟨_,rfl⟩
  have hsn:s n=(a0,a1,a2):=by rw[←ha0,←ha1,←ha2]
  have hpt:=load_part (zf s) hib
  rw[z0,z1,z2,z3,ha0,ha1,ha2]at hpt
  refine opS_index4 (sz:=4) arr_desc (fun w=>(hτ T.Load _ rfl).sizeOf w) hpt rfl (den_vals (zc (zf s))) rfl ⟨by omega,by omega⟩ (fun ρ w4 r=>?_)
  replace hw:=hw.tr r.bel
  clear r
  conv=>whnf
  refine callE_S (cE hw (Φ:=fun _ w' v w2=>∃d,v= .bool d∧(d=true↔inB a0)) (fun ρ w' r=>sInSize_c _ w') ?_)
  rintro ρ wa1 v1 wb1 iv1 r he hw h_ ⟨d0,rfl,hz0⟩
  clear r he
  cases d0
  ·have hz0:¬inB a0:=fun h=>by have:=hz0.2 h;cases this
   have hs2:firstE (fun _=>suE s) [] (List.range 20)=8:=by rw[hE];exact firstE_ret hr (show suE s n=8 by rw[suE,hsn,if_neg (fun h=>hz0 h.1)]) (by decide)
   have hge:errG cs fs=8:=by rw[errG,if_neg h16,if_neg hlen2,if_neg hf0,if_neg hc0,hs,hs2]
   conv=>whnf
   intro ρe we re
   exact⟨_,rfl,hw.tr re.bel,.inl ⟨by rw[he0,hge];decide,by rw[he0,hge];rfl⟩⟩
  replace hz0:=hz0.1 rfl
  conv=>whnf
  refine callE_S (cE hw (Φ:=fun _ w' v w2=>∃d,v= .bool d∧(d=true↔inB a1)) (fun ρ w' r=>sInSize_c _ w') ?_)
  rintro ρ wa2 v2 wb2 iv2 r he hw h_ ⟨d1,rfl,hz1⟩
  clear r he
  cases d1
  ·have hz1:¬inB a1:=fun h=>by have:=hz1.2 h;cases this
   have hs2:firstE (fun _=>suE s) [] (List.range 20)=8:=by rw[hE];exact firstE_ret hr (show suE s n=8 by rw[suE,hsn,if_neg (fun h=>hz1 h.2.1)]) (by decide)
   have hge:errG cs fs=8:=by rw[errG,if_neg h16,if_neg hlen2,if_neg hf0,if_neg hc0,hs,hs2]
   conv=>whnf
   intro ρe we re
   exact⟨_,rfl,hw.tr re.bel,.inl ⟨by rw[he0,hge];decide,by rw[he0,hge];rfl⟩⟩
  replace hz1:=hz1.1 rfl
  conv=>whnf
  refine callE_S (cE hw (Φ:=fun _ w' v w2=>∃d,v= .bool d∧(d=true↔inB a2)) (fun ρ w' r=>sInSize_c _ w') ?_)
  rintro ρ wa3 v3 wb3 iv3 r he hw h_ ⟨d2,rfl,hz2⟩
  clear r he
  cases d2
  ·have hz2:¬inB a2:=fun h=>by have:=hz2.2 h;cases this
   have hs2:firstE (fun _=>suE s) [] (List.range 20)=8:=by rw[hE];exact firstE_ret hr (show suE s n=8 by rw[suE,hsn,if_neg (fun h=>hz2 h.2.2)]) (by decide)
   have hge:errG cs fs=8:=by rw[errG,if_neg h16,if_neg hlen2,if_neg hf0,if_neg hc0,hs,hs2]
   conv=>whnf
   intro ρe we re
   exact⟨_,rfl,hw.tr re.bel,.inl ⟨by rw[he0,hge];decide,by rw[he0,hge];rfl⟩⟩
  replace hz2:=hz2.1 rfl
  conv=>whnf
  rw[firstE_step hr (show suE s n=0 by rw[suE,hsn,if_pos ⟨hz0,hz1,hz2⟩])]at hE
  refine⟨!decide (((0:Int),a0,a1,a2)=(0,0,0,0)),fun ρ w o1 o2=>load_neq (0,a0,a1,a2) (0,0,0,0) w o1 o2,?_⟩
  conv=>whnf
  refine BrS.mk (fun hd=>?_) (fun hd=>?_)
  ·have hd:¬(s n=(0,0,0)):=by
    intro h
    rw[hsn]at h
    injection h with h1 h2
    injection h2 with h2 h3
    subst h1 h2 h3
    simp at hd
   have hnx:gathTo s (n+1)=gathTo s n++[((n:Int),a0,a1,a2)]:=by rw[gathTo,if_neg hd,hsn]
   have hG2:=hG.push (cs:=[.int .i64 (n:Int),.int .i64 a0,.int .i64 a1,.int .i64 a2]) (q:=((n:Int),a0,a1,a2)) rfl rfl
   rw[←hnx]at hG2
   have hfl2:css.flatten++([.int .i64 (n:Int),.int .i64 a0,.int .i64 a1,.int .i64 a2]:List Value)=(css++([[.int .i64 (n:Int),.int .i64 a0,.int .i64 a1,.int .i64 a2]]:List (List Value))).flatten:=by simp
   conv=>whnf
   refine .inl ?_
   conv=>whnf
   refine⟨by omega,by omega,by unfold maxLen;omega,?_⟩
   conv=>whnf
   refine⟨((n+1:Nat):Int),by rw[wrap64]<;>omega,?_⟩
   conv=>whnf
   intro ρ3 w6 r3
   exact⟨(n+1,css++([[.int .i64 (n:Int),.int .i64 a0,.int .i64 a1,.int .i64 a2]]:List (List Value)),w6,_),⟨hib,hw.tr r3.bel,GrowK.map (P:=LoadP) (P':=LoadP) (w2:=w6) (S':=S) hG2 fun _ _ h=>h,hE⟩,Sub.gen [(1,4)] r3 ⟨by dsimp only;rw[←hfl2];rfl,trivial⟩ ⟨by dsimp only;rw[List.length_append,List.length_singleton];rfl,rfl,rfl,trivial⟩ (by simp[ScH,Blk.scopd,At.sc]) (by simp[ScE,SV.sc,At.sc,initE]) (by rfl) (fun lo hi h=>h),by dsimp only;omega⟩
  have hd:s n=(0,0,0):=by
   rw[hsn]
   have h:((0:Int),a0,a1,a2)=(0,0,0,0):=by simpa using hd
   injection h with _ h
  have hnx:gathTo s (n+1)=gathTo s n:=by rw[gathTo,if_pos hd]
  rw[←hnx]at hG
  conv=>whnf
  refine⟨((n+1:Nat):Int),by rw[wrap64]<;>omega,?_⟩
  conv=>whnf
  intro ρ3 w6 r3
  exact⟨(n+1,css,w6,_),⟨hib,hw.tr r3.bel,GrowK.map (P:=LoadP) (P':=LoadP) (w2:=w6) (S':=S) hG fun _ _ h=>h,hE⟩,Sub.gen [] r3 ⟨rfl,trivial⟩ ⟨rfl,rfl,rfl,trivial⟩ (by simp[ScH,Blk.scopd,At.sc]) (by simp[ScE,SV.sc,At.sc,initE]) (by rfl) (fun lo hi h=>h),by dsimp only;omega⟩
 have hib:n=20:=by have:=of_decide_eq_false hib;omega
 subst hib
 rw[firstE_end (by simp)]at hE
 have hge:errG cs fs=0:=by rw[errG,if_neg h16,if_neg hlen2,if_neg hf0,if_neg hc0,hs,hE]
 conv=>whnf
 intro ρe we re
 have h5:=re.vecSeq (id:=1) (sz:=4) (m:=css.length) rfl hfl (by unfold maxLen;omega) (by decide) (hG.one fun cs q h=>LoadP.one h)
 exact⟨_,rfl,hw.tr re.bel,.inr ⟨by rw[he0,hge],_,rfl,GrowK.list (hG.map fun cs q h=>h) (h5.weak fun g hg=>.inr hg)⟩⟩
end Go.Ex
