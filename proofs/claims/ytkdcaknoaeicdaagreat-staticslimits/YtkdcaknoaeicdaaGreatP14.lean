/- A part of the proof: texts X148 to X153. Each tells its conditions in its theorems. -/
import Derived.Test.YtkdcaknoaeicdaaGreatP9
import Derived.Test.YtkdcaknoaeicdaaGreatP13
/- The bracket: what it is and what it bears. No condition. -/
namespace Go.Ex
open Go Go.Sx Go.Proofs
def ldsB:List Ld:=[(2,0,0,-12)]
theorem redB_of{M:List (List Rat)}{cols h:Nat}(h1:∀i,i<M.length+1→∀r∈(redTo M cols i).1,∀q∈r,rl q+1≤h)(h2:∀i,i<M.length→∀k,k<cols+1→∀q∈clrTo (redTo M cols i).1 (redTo M cols i).2.1 (M.getD i []) k,rl q+1≤h):RedB M cols h:=
 ⟨fun i hi=>h1 i (by omega),fun i hi k hk=>h2 i hi k (by omega)⟩
def frcB:List Rat:=[-3,3,9,0,0,-9,0,12,0]
def dspB:List Rat:=[0,0,0,0,0,0,-1,0,-3 / 2]
theorem br_err:errFL bracketF ldsB=0:=by decide +kernel
set_option maxRecDepth 100000
theorem br_calm:Calm bracketF 2:=by
 refine⟨errF_ok (errFL_zero br_err).1,by decide,redB_of (by decide +kernel) (by decide +kernel),?_,by decide +kernel,by decide⟩
 unfold Ht
 decide +kernel
theorem br_borne:Borne bracketF ldsB 2 frcB:=⟨errL_ok (errFL_zero br_err).2,redB_of (by decide +kernel) (by decide +kernel),by decide +kernel⟩
theorem br_rank:(reduceS (tabF bracketF) bracketF.cols).1.length=9:=by decide +kernel
theorem br_b3:RedB (wideF (transF (tabF bracketF) bracketF.cols) (scaleF (eachF frcB (flexF bracketF)) (-1))) 10 2:=redB_of (by decide +kernel) (by decide +kernel)
theorem br_u:solveS (transF (tabF bracketF) bracketF.cols) (scaleF (eachF frcB (flexF bracketF)) (-1)) 9=some dspB:=by decide +kernel
end Go.Ex

/- The chapter's bracket as it is made; integers as fractions. Printed by program. No condition. -/
namespace Go.Ex
open Go Go.Sx Go.Proofs

def supC(m:Nat):List Value:=[.int .i64 ((m / 3:Nat):Int),.int .i64 ((m % 3:Nat):Int),.bool false,.slice none 0 0,.bool false,.slice none 0 0]
def supsV(m:Nat):List (List Value):=(List.range m).map supC
theorem supsV_succ{i k:Nat}(hk:k<3):(supsV (3*i+k)).flatten++[.int .i64 (i:Int),.int .i64 (k:Int),.bool false,.slice none 0 0,.bool false,.slice none 0 0]=(supsV (3*i+(k+1))).flatten:=by
 rw[supsV,supsV,←Nat.add_assoc,List.range_succ,List.map_append,List.flatten_append]
 simp only[List.map_cons,List.map_nil,supC,show(3*i+k) / 3=i by omega,show(3*i+k) % 3=k by omega]
 simp
theorem supsV_len(m:Nat):(supsV m).length=m:=by rw[supsV,List.length_map,List.length_range]
theorem supsV_six(m:Nat):∀cs∈supsV m,cs.length=6:=fun cs hc=>by
 obtain⟨j,_,rfl⟩:=List.mem_map.1 hc
 rfl
theorem RatL.zeroV{S:Nat→Prop}{w:World}:RatL w S (.agg #[.bool false,.slice none 0 0,.bool false,.slice none 0 0]) 0:=RatL.zero
theorem bracket_c(w:World):Con PG N.law05_Bracket #[] w (Ret w fun v' w2=>∃vn vb vs,v'= .agg #[vn,vb,vs]∧FrameR w2 (Nw (fun _=>False) w w2) vn vb vs bracketF):=by
 have hw:Bel w.heap.size w w:=Bel.refl
 refine in_law05_Bracket (by simp) ?_
 conv=>whnf
 refine callE_S (cE hw (Φ:=fun _ w' v w2=>RatC w2 (Nw (fun _=>False) w' w2) v ((1:Int):Rat)) (fun ρ w' r=>rWhole_c 1 w' (by decide)) ?_)
 rintro ρ wa1 v1 wb1 iv1 r he hw h_ hn
 have hd:=hn.got (S:=fun _=>False) r.baseLe (mN h_)
 clear r
 obtain⟨s1_0,s1_1,s1_2,s1_3,s1_4,s1_5,s1_6,s1_7,rfl⟩:=hd.shape
 conv=>whnf
 refine⟨Nat×World,fun z=>⟨[(0,.o (.p 0 0)),(2,.o (.p 4 0)),(3,.o (.v (.int .i64 ((z.1:Nat):Int))))],[(5,.vec T.Support 6 (supsV (3*z.1)).flatten),(4,.box T.Frame [.s 2 0 3 3,.s 3 0 2 2,.w 5 (3*z.1)]),(3,.box T.Bar [.v (.int .i64 0),.v (.int .i64 2),.v (.bool s1_0),.v (.slice s1_1 s1_2 s1_3),.v (.bool s1_4),.v (.slice s1_5 s1_6 s1_7),.v (.int .i64 1),.v (.int .i64 2),.v (.bool s1_0),.v (.slice s1_1 s1_2 s1_3),.v (.bool s1_4),.v (.slice s1_5 s1_6 s1_7)]),(2,.box T.Node [.v (.int .i64 0),.v (.int .i64 0),.v (.int .i64 0),.v (.int .i64 0),.v (.int .i64 0),.v (.int .i64 4),.v (.int .i64 3),.v (.int .i64 0),.v (.int .i64 0)]),(0,.box T.Frame [.v (.slice none 0 0),.v (.slice none 0 0),.v (.slice none 0 0)])],6,iv1,z.2⟩,fun z=>2-z.1,
  fun z=>z.1≤2∧Bel w.heap.size w z.2∧RatC z.2 (Cv (fun _=>False) w.heap.size iv1) (.agg #[.bool s1_0,.slice s1_1 s1_2 s1_3,.bool s1_4,.slice s1_5 s1_6 s1_7]) ((1:Int):Rat),?_,?_⟩
 ·intro ρ w' r
  exact⟨(0,w'),⟨Nat.zero_le _,hw.tr r.bel,hd.rel r (oldF w)⟩,Sub.nilB 4 2 T.Support 6 rfl rfl (by simp[ScE,SV.sc,At.sc,initE]) r fun ρ1 r1=>Sub.gen [] r1 ⟨rfl,rfl,rfl,rfl,rfl,trivial⟩ ⟨rfl,rfl,rfl,trivial⟩ (by simp[ScH,Blk.scopd,At.sc]) (by simp[ScE,SV.sc,At.sc,initE]) (by rfl) (fun lo hi h=>h)⟩
 clear hw hd
 rintro⟨i,w1⟩ ⟨hi,hw,hd⟩
 dsimp only at hi hw hd ⊢
 conv=>whnf
 refine BrS.mk (fun hib=>?_) (fun hib=>?_)
 ·have hib:i<2:=by have:=of_decide_eq_true hib;omega
  conv=>whnf
  refine⟨Nat×World,fun z=>⟨[(0,.o (.p 0 0)),(2,.o (.p 4 0)),(3,.o (.v (.int .i64 ((i:Nat):Int)))),(4,.o (.v (.int .i64 ((z.1:Nat):Int))))],[(5,.vec T.Support 6 (supsV (3*i+z.1)).flatten),(4,.box T.Frame [.s 2 0 3 3,.s 3 0 2 2,.w 5 (3*i+z.1)]),(3,.box T.Bar [.v (.int .i64 0),.v (.int .i64 2),.v (.bool s1_0),.v (.slice s1_1 s1_2 s1_3),.v (.bool s1_4),.v (.slice s1_5 s1_6 s1_7),.v (.int .i64 1),.v (.int .i64 2),.v (.bool s1_0),.v (.slice s1_1 s1_2 s1_3),.v (.bool s1_4),.v (.slice s1_5 s1_6 s1_7)]),(2,.box T.Node [.v (.int .i64 0),.v (.int .i64 0),.v (.int .i64 0),.v (.int .i64 0),.v (.int .i64 0),.v (.int .i64 4),.v (.int .i64 3),.v (.int .i64 0),.v (.int .i64 0)]),(0,.box T.Frame [.v (.slice none 0 0),.v (.slice none 0 0),.v (.slice none 0 0)])],6,iv1,z.2⟩,fun z=>3-z.1,
   fun z=>z.1≤3∧Bel w.heap.size w z.2∧RatC z.2 (Cv (fun _=>False) w.heap.size iv1) (.agg #[.bool s1_0,.slice s1_1 s1_2 s1_3,.bool s1_4,.slice s1_5 s1_6 s1_7]) ((1:Int):Rat),?_,?_⟩
  ·intro ρ w' r3
   exact⟨(0,w'),⟨Nat.zero_le _,hw.tr r3.bel,hd.rel r3 (oldF w)⟩,Sub.gen [] r3 ⟨rfl,rfl,rfl,rfl,rfl,trivial⟩ ⟨rfl,rfl,rfl,rfl,trivial⟩ (by simp[ScH,Blk.scopd,At.sc]) (by simp[ScE,SV.sc,At.sc,initE]) (by rfl) (fun lo hi h=>h)⟩
  clear hw hd
  rintro⟨k,w3⟩ ⟨hk,hw,hd⟩
  dsimp only at hk hw hd ⊢
  conv=>whnf
  refine BrS.mk (fun hkb=>?_) (fun hkb=>?_)
  ·have hkb:k<3:=by have:=of_decide_eq_true hkb;omega
   have hs:=supsV_succ (i:=i) hkb
   have hfl:=flatk_len (supsV_six (3*i+k))
   have hsl:=supsV_len (3*i+k)
   conv=>whnf
   refine .inl ?_
   conv=>whnf
   refine⟨by omega,by omega,by unfold maxLen;omega,?_⟩
   conv=>whnf
   refine⟨((k+1:Nat):Int),by rw[wrap64]<;>omega,?_⟩
   conv=>whnf
   intro ρ3 w6 r3
   exact⟨(k+1,w6),⟨hkb,hw.tr r3.bel,hd.rel r3 (oldF w)⟩,Sub.gen [(5,7)] r3 ⟨by dsimp only;rw[←hs];rfl,rfl,rfl,rfl,rfl,trivial⟩ ⟨rfl,rfl,rfl,rfl,trivial⟩ (by simp[ScH,Blk.scopd,At.sc]) (by simp[ScE,SV.sc,At.sc,initE]) (by rfl) (fun lo hi h=>h),by dsimp only;omega⟩
  have hkb:k=3:=by have:=of_decide_eq_false hkb;omega
  subst hkb
  conv=>whnf
  refine⟨((i+1:Nat):Int),by rw[wrap64]<;>omega,?_⟩
  conv=>whnf
  intro ρ3 w6 r3
  exact⟨(i+1,w6),⟨hib,hw.tr r3.bel,hd.rel r3 (oldF w)⟩,Sub.gen [] r3 ⟨rfl,rfl,rfl,rfl,rfl,trivial⟩ ⟨rfl,rfl,rfl,trivial⟩ (by simp[ScH,Blk.scopd,At.sc]) (by simp[ScE,SV.sc,At.sc,initE]) (by rfl) (fun lo hi h=>h),by dsimp only;omega⟩
 have hib:i=2:=by have:=of_decide_eq_false hib;omega
 subst hib
 conv=>whnf
 refine .inl ?_
 conv=>whnf
 refine⟨by decide,by decide,by decide,?_⟩
 conv=>whnf
 intro ρe we re
 have hN:∀{id:Nat} {bk:Blk},getH _ id=some bk→(ρe id).nil=false→Nw (fun _=>False) w we (ρe id).g:=fun h hn=>by
  obtain⟨h1,h2⟩:=re.low _ _ h hn
  exact .inr ⟨h1,h2⟩
 have hR:=hd.out re (oldF w)
 have hL:RatL we (Nw (fun _=>False) w we) (.agg #[.bool s1_0,.slice s1_1 s1_2 s1_3,.bool s1_4,.slice s1_5 s1_6 s1_7]) 1:=hR.l (by decide)
 refine⟨_,rfl,hw.tr re.bel,_,_,_,rfl,?_,?_,?_⟩
 ·refine⟨[[.int .i64 0,.int .i64 0,.int .i64 0],[.int .i64 0,.int .i64 0,.int .i64 4],[.int .i64 3,.int .i64 0,.int .i64 0]],(re.boxSeq (id:=2) (sz:=3) (n:=3) rfl rfl (by decide) (by repeat' first|refine List.forall_mem_cons.2 ⟨rfl,?_⟩|exact fun u hu=>absurd hu List.not_mem_nil)).weak fun g hg=>by subst hg;exact hN (id:=2) rfl (re.nn 2 _ rfl (by intros;simp) (by simp)),rfl,by simp,fun j cs x h1 h2=>?_⟩
  rcases j with _|_|_|j
  ·cases h1;cases h2;rfl
  ·cases h1;cases h2;rfl
  ·cases h1;cases h2;rfl
  ·cases h2
 ·refine⟨[[.int .i64 0,.int .i64 2,.bool s1_0,.slice s1_1 s1_2 s1_3,.bool s1_4,.slice s1_5 s1_6 s1_7],[.int .i64 1,.int .i64 2,.bool s1_0,.slice s1_1 s1_2 s1_3,.bool s1_4,.slice s1_5 s1_6 s1_7]],(re.boxSeq (id:=3) (sz:=6) (n:=2) rfl rfl (by decide) (by repeat' first|refine List.forall_mem_cons.2 ⟨rfl,?_⟩|exact fun u hu=>absurd hu List.not_mem_nil)).weak fun g hg=>by subst hg;exact hN (id:=3) rfl (re.nn 3 _ rfl (by intros;simp) (by simp)),rfl,by simp,fun j cs x h1 h2=>?_⟩
  rcases j with _|_|j
  ·cases h1;cases h2;exact⟨_,_,_,_,_,_,_,_,rfl,hL⟩
  ·cases h1;cases h2;exact⟨_,_,_,_,_,_,_,_,rfl,hL⟩
  ·cases h2
 ·refine⟨supsV 6++[[.int .i64 2,.int .i64 1,.bool false,.slice none 0 0,.bool false,.slice none 0 0]],?_,rfl,by decide,fun j cs x h1 h2=>?_⟩
  ·have h5:=re.vecSeq (id:=7) (sz:=6) (m:=7) rfl (by decide) (by decide) (by decide) (by decide)
   rw[List.flatten_append]
   exact h5.weak fun g hg=>.inr hg
  ·rcases j with _|_|_|_|_|_|_|j
   ·cases h1;cases h2;exact⟨_,_,_,_,_,_,_,_,rfl,RatL.zeroV⟩
   ·cases h1;cases h2;exact⟨_,_,_,_,_,_,_,_,rfl,RatL.zeroV⟩
   ·cases h1;cases h2;exact⟨_,_,_,_,_,_,_,_,rfl,RatL.zeroV⟩
   ·cases h1;cases h2;exact⟨_,_,_,_,_,_,_,_,rfl,RatL.zeroV⟩
   ·cases h1;cases h2;exact⟨_,_,_,_,_,_,_,_,rfl,RatL.zeroV⟩
   ·cases h1;cases h2;exact⟨_,_,_,_,_,_,_,_,rfl,RatL.zeroV⟩
   ·cases h1;cases h2;exact⟨_,_,_,_,_,_,_,_,rfl,RatL.zeroV⟩
   ·cases h2
end Go.Ex

/- Integers as fractions. Printed by program. No condition but sizes. -/
namespace Go.Ex
open Go Go.Sx Go.Proofs

/-- a list of fractions of one's own, which grows -/
structure GrowC(w:World)(S:Nat→Prop)(css:List (List Value))(qs:List Rat):Prop where
 len:css.length=qs.length
 four:∀cs∈css,cs.length=4
 at_:∀(j:Nat) cs q,css[j]? =some cs→qs[j]? =some q→Rat4C w S cs q
section
variable{S S':Nat→Prop}{H:Hp}{nx:Nat}{iv iv':Iv}{B:Nat}{w w' w2:World}{ρ:Nat→Sx.Val}{css:List (List Value)}{qs:List Rat}
theorem GrowC.nil:GrowC w S [] []:=⟨rfl,fun _ h=>(by cases h),fun _ _ _ h=>by cases h⟩
theorem GrowC.keep(h:GrowC w S css qs)(hk:∀g,S g→w2.heap[g]? =w.heap[g]?):GrowC w2 S css qs:=⟨h.len,h.four,fun j cs q h1 h2=>by
 obtain⟨b,a,n,c,b2,a2,n2,c2,e,hr⟩:=h.at_ j cs q h1 h2
 exact⟨b,a,n,c,b2,a2,n2,c2,e,hr.keep hk⟩⟩
theorem GrowC.weak(h:GrowC w S css qs)(hk:∀g,S g→S' g):GrowC w S' css qs:=⟨h.len,h.four,fun j cs q h1 h2=>by
 obtain⟨b,a,n,c,b2,a2,n2,c2,e,hr⟩:=h.at_ j cs q h1 h2
 exact⟨b,a,n,c,b2,a2,n2,c2,e,hr.weak hk⟩⟩
theorem GrowC.rel(h:GrowC w (Cv S B iv) css qs)(r:Rel H nx iv B w ρ w')(hS:∀g,S g→g<B):GrowC w' (Cv S B iv) css qs:=h.keep fun _ hg=>Rel.same r hS hg
theorem GrowC.past(h:GrowC w (Cv S B iv) css qs)(r:Rel H nx iv B w ρ w')(hS:∀g,S g→g<B)(he:Ext w' w2)(hm:∀p,p∈iv→p∈iv'):GrowC w2 (Cv S B iv') css qs:=
 ((h.rel r hS).keep fun g hg=>he.block g (Rel.old r hS g hg)).weak fun _ hg=>hg.mono hm
theorem GrowC.push{cs:List Value}{q:Rat}(h:GrowC w S css qs)(hc:Rat4C w S cs q)(h4:cs.length=4):GrowC w S (css++[cs]) (qs++[q]):=by
 refine⟨by simp[h.len],fun x hx=>?_,fun j x p h1 h2=>?_⟩
 ·rcases List.mem_append.1 hx with hx|hx
  ·exact h.four x hx
  ·rw[List.mem_singleton.1 hx];exact h4
 ·rcases Nat.lt_or_ge j css.length with hi|hi
  ·rw[List.getElem?_append_left hi]at h1
   rw[List.getElem?_append_left (by rw[←h.len];exact hi)]at h2
   exact h.at_ j x p h1 h2
  ·have hi0:j=css.length:=by have:=(List.getElem?_eq_some_iff.1 h1).1;simp at this;omega
   subst hi0
   rw[List.getElem?_append_right (Nat.le_refl _),Nat.sub_self]at h1
   rw[h.len,List.getElem?_append_right (Nat.le_refl _),Nat.sub_self]at h2
   simp at h1 h2
   subst h1 h2
   exact hc
theorem GrowC.give{id:Nat}(h:GrowC w (Cv (fun _=>False) B iv) css qs)(r:Rel H nx iv B w ρ w')(hid:getH H id=some (.vec T.Rat 4 css.flatten))(h0:0<css.length)(hm:css.length≤maxLen):
  RowXc w' (fun _=>False) B [(B,w'.heap.size)] ((SV.o (.w id css.length)).den ρ) css.length qs:=by
 have h2:=h.rel r (oldF' B)
 obtain⟨k1,k2,k3,k4⟩:=vecW r hid rfl h0 hm ⟨h2.len,h2.at_⟩
 have hden:(SV.o (.w id css.length)).den ρ= .slice (some ⟨(ρ id).g,0,none⟩) css.length (ρ id).cap:=by simp[SV.den,At.den,k1]
 rw[hden]
 have key:∀g,Cv (fun _=>False) B iv g→Cv (fun _=>False) B [(B,w'.heap.size)] g:=fun g hg=>
  .inr ⟨hg.elim (fun h=>h.elim) fun h=>h.1,B,w'.heap.size,List.mem_singleton.2 rfl,hg.elim (fun h=>h.elim) fun h=>h.1,Rel.old r (oldF' B) g hg⟩
 refine⟨k4.weak fun g hg=>⟨key g hg,fun e=>?_⟩,fun g hg=>?_⟩
 ·injection e with e
  exact Rel.not r (oldF' B) hg id _ hid k1 e
 ·injection hg with hg
  subst hg
  have:=(r.low id _ hid k1).2
  exact .inr ⟨k2,B,w'.heap.size,List.mem_singleton.2 rfl,k2,this⟩
end
theorem wholes_c{S:Nat→Prop}{w:World}{v:Value}{l:List Int}(hS:Old S w)(hl:ZsR w S v l)(hl0:0<l.length)(hl2:l.length≤1000)(hb:∀z∈l,z.natAbs<1073741824):
  Con PG N.law05_wholes #[v] w (Ret w fun v' w2=>RowXc w2 (fun _=>False) w.heap.size [(w.heap.size,w2.heap.size)] v' l.length (wholesF l)):=by
 have hw:Bel w.heap.size w w:=Bel.refl
 obtain⟨al,cl,rfl,hcl,hml⟩:=hl.shape
 unfold maxLen at hml
 refine in_law05_wholes (by simp) ?_
 conv=>whnf
 refine⟨Nat×List (List Value)×World×Iv,fun z=>⟨[(0,.o (.v (.slice al l.length cl))),(3,.o (.w 0 z.2.1.length)),(4,.o (.v (.int .i64 ((z.1:Nat):Int))))],[(0,.vec T.Rat 4 z.2.1.flatten)],1,z.2.2.2,z.2.2.1⟩,fun z=>l.length-z.1,
  fun z=>z.1≤l.length∧Bel w.heap.size w z.2.2.1∧GrowC z.2.2.1 (Cv (fun _=>False) w.heap.size z.2.2.2) z.2.1 (wholesF (l.take z.1)),?_,?_⟩
 ·intro ρ w' r
  exact⟨(0,[],w',[]),⟨Nat.zero_le _,hw.tr r.bel,GrowC.nil⟩,Sub.nil 3 T.Rat 4 rfl (by simp[ScE,SV.sc,At.sc,initE]) r fun ρ1 r1=>Sub.gen [] r1 ⟨rfl,trivial⟩ ⟨rfl,rfl,rfl,trivial⟩ (by simp[ScH,Blk.scopd,At.sc]) (by simp[ScE,SV.sc,At.sc,initE]) (by rfl) (fun lo hi h=>h)⟩
 clear hw
 rintro⟨i,css,w1,iv⟩ ⟨hi,hw,hG⟩
 dsimp only at hi hw hG ⊢
 have hfl:=flat_len hG.four
 have hcl2:css.length=i:=by rw[hG.len,wholesF,List.length_map,List.length_take];omega
 conv=>whnf
 refine BrS.mk (fun hib=>?_) (fun hib=>?_)
 ·have hib:i<l.length:=by simpa using hib
  obtain⟨z,hz⟩:∃z,l[i]? =some z:=⟨_,List.getElem?_eq_getElem hib⟩
  have hzb:=hb z (List.mem_of_getElem? hz)
  have hnx:wholesF (l.take (i+1))=wholesF (l.take i)++[(z:Rat)]:=by rw[wholesF,List.take_add_one,hz,List.map_append];rfl
  obtain⟨adx,hax,hSx,hlx⟩:=ZsR.at hl hz
  conv=>whnf
  refine⟨adx,hax,⟨by omega,by omega⟩,?_⟩
  conv=>whnf
  refine⟨.int .i64 z,fun ρ w' r=>?_,?_⟩
  ·rw[Int.toNat_natCast,cell_of_heap (w:=w) (w2:=w') (by rw[addB];exact(hw.tr r.bel).block _ (hS _ hSx))]
   exact hlx
  conv=>whnf
  refine callE_S (cE hw (Φ:=fun _ w' v w2=>RatC w2 (Nw (fun _=>False) w' w2) v (z:Rat)) (fun ρ w' r=>rWhole_c z w' (by omega)) ?_)
  rintro ρ wa1 v1 wb1 iv1 r he hw h_ hn
  replace hG:=hG.past r (oldF w) he (mC h_)
  have hd:=hn.got (S:=fun _=>False) r.baseLe (mN h_)
  clear r
  obtain⟨s1_0,s1_1,s1_2,s1_3,s1_4,s1_5,s1_6,s1_7,rfl⟩:=hd.shape
  conv=>whnf
  have hG2:=hG.push (cs:=[.bool s1_0,.slice s1_1 s1_2 s1_3,.bool s1_4,.slice s1_5 s1_6 s1_7]) (q:=(z:Rat)) ⟨_,_,_,_,_,_,_,_,rfl,hd⟩ rfl
  rw[←hnx]at hG2
  have hfl2:css.flatten++([.bool s1_0,.slice s1_1 s1_2 s1_3,.bool s1_4,.slice s1_5 s1_6 s1_7]:List Value)=(css++([[.bool s1_0,.slice s1_1 s1_2 s1_3,.bool s1_4,.slice s1_5 s1_6 s1_7]]:List (List Value))).flatten:=by simp
  refine .inl ?_
  conv=>whnf
  refine⟨by omega,by omega,by unfold maxLen;omega,?_⟩
  conv=>whnf
  refine⟨((i+1:Nat):Int),by rw[wrap64]<;>omega,?_⟩
  conv=>whnf
  intro ρ3 w3 r3
  exact⟨(i+1,css++[[.bool s1_0,.slice s1_1 s1_2 s1_3,.bool s1_4,.slice s1_5 s1_6 s1_7]],w3,_),⟨hib,hw.tr r3.bel,hG2.rel r3 (oldF w)⟩,Sub.gen [(0,2)] r3 ⟨by dsimp only;rw[←hfl2];rfl,trivial⟩ ⟨rfl,by dsimp only;rw[List.length_append,List.length_singleton];rfl,rfl,trivial⟩ (by simp[ScH,Blk.scopd,At.sc]) (by simp[ScE,SV.sc,At.sc,initE]) (by rfl) (fun lo hi h=>h),by dsimp only;omega⟩
 have hib:i=l.length:=Nat.le_antisymm hi (by simpa using hib)
 subst hib
 rw[List.take_length]at hG
 conv=>whnf
 intro ρe we re
 refine⟨_,rfl,hw.tr re.bel,?_⟩
 have h5:=hG.give re (id:=0) rfl (by omega) (by unfold maxLen;omega)
 have h6:css.length=l.length:=hcl2
 rw[←h6]
 exact h5
end Go.Ex

/- The laws of statics are awake. Printed by program. No condition. -/
namespace Go.Ex
open Go Go.Sx Go.Proofs

theorem FrameR.got{w' w2:World}{vn vb vs:Value}{f:Frm}{B:Nat}{iv:Iv}(h:FrameR w2 (Nw (fun _=>False) w' w2) vn vb vs f)(hB:B≤w'.heap.size)(hm:(w'.heap.size,w2.heap.size)∈iv):FrameR w2 (Cv (fun _=>False) B iv) vn vb vs f:=h.weak fun _ hg=>hg.got hB hm
abbrev cntV(a b c:Int):Value:=.agg #[.int .i64 a,.int .i64 b,.int .i64 c]
theorem cnt_eq(p0 p1 p2 q0 q1 q2:Int)(w:World):(Op.equal T.Counting (cntV p0 p1 p2) (cntV q0 q1 q2)).run PG w= .ok (decide (p0=q0∧p1=q1∧p2=q2)) w:=by
 have h:=run_underlying Tryz.underlying68
 simp only[Op.equal,Op.maxDepth]
 unfold Op.equalIn
 have a0:=part_int (cs:= #[Value.int .i64 p0,Value.int .i64 p1,Value.int .i64 p2]) (j:=0) rfl
 have a1:=part_int (cs:= #[Value.int .i64 p0,Value.int .i64 p1,Value.int .i64 p2]) (j:=1) rfl
 have a2:=part_int (cs:= #[Value.int .i64 p0,Value.int .i64 p1,Value.int .i64 p2]) (j:=2) rfl
 have b0:=part_int (cs:= #[Value.int .i64 q0,Value.int .i64 q1,Value.int .i64 q2]) (j:=0) rfl
 have b1:=part_int (cs:= #[Value.int .i64 q0,Value.int .i64 q1,Value.int .i64 q2]) (j:=1) rfl
 have b2:=part_int (cs:= #[Value.int .i64 q0,Value.int .i64 q1,Value.int .i64 q2]) (j:=2) rfl
 simp[h,a0,a1,a2,b0,b1,b2,eq_int 9998]
 by_cases h0:p0=q0
 ·by_cases h1:p1=q1
  ·by_cases h2:p2=q2<;>simp[h0,h1,h2]
  ·simp[h0,h1]
 ·simp[h0]
theorem cnt_eql(p0 p1 p2 q0 q1 q2:Int)(w:World)(o1 o2:Operand):(do eqGuard .eql T.Counting o1 o2 (cntV p0 p1 p2) (cntV q0 q1 q2);binOp .eql T.Counting (cntV p0 p1 p2) (cntV q0 q1 q2)).run PG w= .ok (.bool (decide (p0=q0∧p1=q1∧p2=q2))) w:=by
 have h:=cnt_eq p0 p1 p2 q0 q1 q2 w
 simp[eqGuard,binOp,h]
def dspW:List Int:=[0,0,0,0,0,0,-1,0,0]
def frcW:List Int:=[-3,3,9,0,0,-9,0,12,0]
theorem dsp_set:(wholesF dspW).set 8 (Rat.divInt (-3) 2)=dspB:=by decide +kernel
theorem frc_eq:wholesF frcW=frcB:=by decide +kernel
theorem frc_small:∀q∈frcB,rl q≤100000:=by decide +kernel
theorem eachB_small:∀q∈eachF frcB (flexF bracketF),rl q≤100000:=by decide +kernel
theorem limB:Rat.divInt 2000 1000=((2:Int):Rat):=by decide +kernel
theorem boxZs{H:Hp}{nx:Nat}{iv:Iv}{B:Nat}{w w':World}{ρ:Nat→Sx.Val}(r:Rel H nx iv B w ρ w'){id n:Nat}{l:List Int}(h:getH H id=some (.box T.int (l.map fun z=>At.v (.int .i64 z))))(hn:l.length=n)(hm:n≤maxLen):
  ZsR w' (fun g=>g=(ρ id).g) (.slice (some ⟨(ρ id).g,0,none⟩) n n) l:=by
 subst hn
 have h5:=r.boxSeq (sz:=1) (n:=l.length) h (by simp) hm (fun u hu=>by obtain⟨z,_,rfl⟩:=List.mem_map.1 hu;rfl)
 rw[List.map_map]at h5
 exact h5
set_option maxHeartbeats 1000000 in
theorem awake5_c(w:World):Con PG N.law05_awake #[] w (Ret w fun v' _=>v'= .bool true):=by
 have hw:Bel w.heap.size w w:=Bel.refl
 refine in_law05_awake (by simp) ?_
 conv=>whnf
 refine callE_S (cE hw (Φ:=fun _ w' v w2=>∃vn vb vs,v= .agg #[vn,vb,vs]∧FrameR w2 (Nw (fun _=>False) w' w2) vn vb vs bracketF) (fun ρ w' r=>bracket_c w') ?_)
 rintro ρ wa1 v1 wb1 iv1 r he hw h_ ⟨vn1,vb1,vs1,rfl,hn⟩
 have hf:=hn.got r.baseLe (mN h_)
 clear r
 clear hn
 obtain⟨an1,cn1,ab1,cb1,aq1,cq1,rfl,rfl,rfl,-,-,-⟩:=hf.shape
 conv=>whnf
 refine callE_S (cE hw (Φ:=fun _ w' v w2=>∃vx,v= .tuple #[vx,.int .i64 0]∧RatsC w2 (Nw (fun _=>False) w' w2) vx frcB) (fun ρ w' r=>sForces1_c (S:=(fun g=>Cv (fun _=>False) w.heap.size iv1 g∨g=(ρ 0).g)) (l:=ldsB) (h:=2) (fun g hg=>hg.elim (Rel.old r (oldF w) g) fun e=>by subst e;exact Rel.lt r (id:=0) rfl) (FrameR.weak (FrameR.rel hf r (oldF w)) fun g hg=>.inl hg) (show LoadsR w' (fun g=>Cv (fun _=>False) w.heap.size iv1 g∨g=(ρ 0).g) (.slice (some ⟨(ρ 0).g,0,none⟩) 1 1) ldsB from⟨[[.int .i64 2,.int .i64 0,.int .i64 0,.int .i64 (-12)]],(r.boxSeq (id:=0) (sz:=4) (n:=1) rfl rfl (by decide) (by repeat' first|refine List.forall_mem_cons.2 ⟨rfl,?_⟩|exact fun u hu=>absurd hu List.not_mem_nil)).weak fun g hg=>.inr hg,rfl,by simp,fun j cs x h1 h2=>by cases j with|zero=>(cases h1;cases h2;rfl)|succ j=>cases h2⟩) br_calm br_borne br_err) ?_)
 rintro ρ wa2 v2 wb2 iv2 r he hw h_ ⟨vx1,rfl,hn⟩
 clear hf
 have hx:=RatsC.got (S:=fun _=>False) hn r.baseLe (mN h_)
 clear r
 clear hn
 obtain⟨ax1,cx1,rfl,-,-⟩:=ListR.shape hx
 conv=>whnf
 refine callE_S (cE hw (Φ:=fun _ w' v w2=>∃vn vb vs,v= .agg #[vn,vb,vs]∧FrameR w2 (Nw (fun _=>False) w' w2) vn vb vs bracketF) (fun ρ w' r=>bracket_c w') ?_)
 rintro ρ wa3 v3 wb3 iv3 r he hw h_ ⟨vn2,vb2,vs2,rfl,hn⟩
 replace hx:=RatsC.past hx r (oldF w) he (mC h_)
 have hf:=hn.got r.baseLe (mN h_)
 clear r
 clear hn
 obtain⟨an2,cn2,ab2,cb2,aq2,cq2,rfl,rfl,rfl,-,-,-⟩:=hf.shape
 conv=>whnf
 refine callE_S (cE hw (Φ:=fun _ w' v w2=>∃vu vx,v= .tuple #[vu,vx,.int .i64 0]∧RatsC w2 (Nw (fun _=>False) w' w2) vu dspB∧∃a n c,vx= .slice a n c) (fun ρ w' r=>(sDisplace0_c (S:=(fun g=>Cv (fun _=>False) w.heap.size iv3 g∨g=(ρ 0).g)) (l:=ldsB) (h:=2) (fun g hg=>hg.elim (Rel.old r (oldF w) g) fun e=>by subst e;exact Rel.lt r (id:=0) rfl) (FrameR.weak (FrameR.rel hf r (oldF w)) fun g hg=>.inl hg) (show LoadsR w' (fun g=>Cv (fun _=>False) w.heap.size iv3 g∨g=(ρ 0).g) (.slice (some ⟨(ρ 0).g,0,none⟩) 1 1) ldsB from⟨[[.int .i64 2,.int .i64 0,.int .i64 0,.int .i64 (-12)]],(r.boxSeq (id:=0) (sz:=4) (n:=1) rfl rfl (by decide) (by repeat' first|refine List.forall_mem_cons.2 ⟨rfl,?_⟩|exact fun u hu=>absurd hu List.not_mem_nil)).weak fun g hg=>.inr hg,rfl,by simp,fun j cs x h1 h2=>by cases j with|zero=>(cases h1;cases h2;rfl)|succ j=>cases h2⟩) br_calm br_borne br_err br_rank rfl frc_small eachB_small br_b3 br_u).mono fun _ _ ⟨v2,e1,e2,vu,vx,e3,e4,e5⟩=>⟨v2,e1,e2,vu,vx,e3,e4,by obtain⟨a,c,h,_⟩:=ListR.shape e5;exact⟨a,_,c,h⟩⟩) ?_)
 rintro ρ wa4 v4 wb4 iv4 r he hw h_ ⟨vu1,_,rfl,hn,ay1,ny1,cy1,rfl⟩
 replace hx:=RatsC.past hx r (oldF w) he (mC h_)
 clear hf
 have hu:=RatsC.got (S:=fun _=>False) hn r.baseLe (mN h_)
 clear r
 clear hn
 obtain⟨au1,cu1,rfl,-,-⟩:=ListR.shape hu
 conv=>whnf
 refine callE_S (cE hw (Φ:=fun _ w' v w2=>∃vn vb vs,v= .agg #[vn,vb,vs]∧FrameR w2 (Nw (fun _=>False) w' w2) vn vb vs bracketF) (fun ρ w' r=>bracket_c w') ?_)
 rintro ρ wa5 v5 wb5 iv5 r he hw h_ ⟨vn3,vb3,vs3,rfl,hn⟩
 replace hx:=RatsC.past hx r (oldF w) he (mC h_)
 replace hu:=RatsC.past hu r (oldF w) he (mC h_)
 have hf:=hn.got r.baseLe (mN h_)
 clear r
 clear hn
 obtain⟨an3,cn3,ab3,cb3,aq3,cq3,rfl,rfl,rfl,-,-,-⟩:=hf.shape
 conv=>whnf
 refine callE_S (cE hw (Φ:=fun _ w' v w2=>v= .tuple #[cntV 9 0 0,.int .i64 0]) (fun ρ w' r=>(sCount0_c (S:=Cv (fun _=>False) w.heap.size iv5) (h:=2) (Rel.old r (oldF w)) (FrameR.rel hf r (oldF w)) br_calm (errFL_zero br_err).1 (by rw[br_rank];decide)).mono fun _ _ ⟨v2,e1,e2,e3⟩=>⟨v2,e1,e2,by rw[e3,br_rank];rfl⟩) ?_)
 rintro ρ wa6 v6 wb6 iv6 r he hw h_ rfl
 replace hx:=RatsC.past hx r (oldF w) he (mC h_)
 replace hu:=RatsC.past hu r (oldF w) he (mC h_)
 clear hf
 clear r
 conv=>whnf
 refine callE_S (cE hw (Φ:=fun _ w' v w2=>∃vr,v= .tuple #[vr,.int .i64 0]∧RatC w2 (Nw (fun _=>False) w' w2) vr ((2:Int):Rat)) (fun ρ w' r=>(sLimitOk_c 25 10 w' (by decide) (by decide) (by decide)).mono fun _ _ ⟨v2,e1,e2,vr,rt,e3,e4,e5,e6⟩=>⟨v2,e1,e2,vr,e3,by
  have:rt=2000:=sq_one e4 e5 (by decide) (by decide)
  rw[this]at e6
  exact limB▸e6⟩) ?_)
 rintro ρ wa7 v7 wb7 iv7 r he hw h_ ⟨vr1,rfl,hn⟩
 replace hx:=RatsC.past hx r (oldF w) he (mC h_)
 replace hu:=RatsC.past hu r (oldF w) he (mC h_)
 have hl:=hn.got (S:=fun _=>False) r.baseLe (mN h_)
 clear r
 obtain⟨s7_0a,s7_0b,s7_0c,s7_0d,s7_0e,s7_0f,s7_0g,s7_0h,rfl⟩:=hl.shape
 clear hn
 conv=>whnf
 refine callE_S (cE hw (Φ:=fun _ w' v w2=>∃q,v= .tuple #[q,.int .i64 0]∧RatC w2 (Nw (fun _=>False) w' w2) q (Rat.divInt (-3) 2)) (fun ρ w' r=>(rRatio_c (-3) 2 w' (by decide) (by decide) (by decide) (by decide)).mono fun _ _ ⟨v2,e1,e2,e3⟩=>⟨v2,e1,e2,e3.elim (fun k=>absurd k.1 (by decide)) fun h=>h.2⟩) ?_)
 rintro ρ wa8 v8 wb8 iv8 r he hw h_ ⟨q1,rfl,hn⟩
 replace hx:=RatsC.past hx r (oldF w) he (mC h_)
 replace hu:=RatsC.past hu r (oldF w) he (mC h_)
 replace hl:=hl.past r (oldF w) he (mC h_)
 have hh:=hn.got (S:=fun _=>False) r.baseLe (mN h_)
 clear r
 obtain⟨s8_0a,s8_0b,s8_0c,s8_0d,s8_0e,s8_0f,s8_0g,s8_0h,rfl⟩:=hh.shape
 clear hn
 conv=>whnf
 refine callE_S (callE_con (Φ:=fun _ w' v w2=>RowXc w2 (fun _=>False) w'.heap.size [(w'.heap.size,w2.heap.size)] v 9 (wholesF dspW)) (fun ρ w' r=>wholes_c (S:=fun g=>g=(ρ 4).g) (fun g hg=>by subst hg;exact Rel.lt r (id:=4) rfl) (boxZs r (id:=4) (n:=9) (l:=dspW) rfl rfl (by decide)) (by decide) (by decide) (by decide)) ?_)
 rintro ρ wa9 v9 wb9 r he hb hn
 replace hw:=hw.tr hb
 replace hx:=RatsC.weak (S':=Bs (fun _=>False) w.heap.size ((wa9.heap.size,wb9.heap.size)::iv8) v9) (RatsC.keep (RatsC.rel hx r (oldF w)) fun g hg=>he.block g (Rel.old r (oldF w) g hg)) fun g hg=>Bs.of r (oldF w) (fun x hx=>List.mem_cons_of_mem _ hx) hn hg
 replace hu:=RatsC.weak (S':=Bs (fun _=>False) w.heap.size ((wa9.heap.size,wb9.heap.size)::iv8) v9) (RatsC.keep (RatsC.rel hu r (oldF w)) fun g hg=>he.block g (Rel.old r (oldF w) g hg)) fun g hg=>Bs.of r (oldF w) (fun x hx=>List.mem_cons_of_mem _ hx) hn hg
 replace hl:=RatC.weak (S':=Bs (fun _=>False) w.heap.size ((wa9.heap.size,wb9.heap.size)::iv8) v9) (RatC.keep (hl.rel r (oldF w)) fun g hg=>he.block g (Rel.old r (oldF w) g hg)) fun g hg=>Bs.of r (oldF w) (fun x hx=>List.mem_cons_of_mem _ hx) hn hg
 replace hh:=RatC.weak (S':=Bs (fun _=>False) w.heap.size ((wa9.heap.size,wb9.heap.size)::iv8) v9) (RatC.keep (hh.rel r (oldF w)) fun g hg=>he.block g (Rel.old r (oldF w) g hg)) fun g hg=>Bs.of r (oldF w) (fun x hx=>List.mem_cons_of_mem _ hx) hn hg
 have hX:=hn.got (S:=fun _=>False) r.baseLe (iv:=(wa9.heap.size,wb9.heap.size)::iv8) List.mem_cons_self
 clear r he hb hn
 generalize (wa9.heap.size,wb9.heap.size)::iv8=iv9 at*
 obtain⟨ax,cx,rfl,hcx⟩:=hX.row.form
 obtain⟨gx,rfl⟩:=hX.at (by decide)
 conv=>whnf
 refine⟨⟨gx,0,none⟩,rfl,⟨by omega,by omega⟩,?_⟩
 conv=>whnf
 intro ρ w' r
 obtain⟨g,hg,h1,h2,h3,h4,h5⟩:=(hX.rel r (oldF w)).store (j:=8) (by decide) (hh.keep (Bs.same r (oldF w))) r (oldF w)
 injection hg with hg
 injection hg with hg
 subst hg
 refine⟨h1,h2,h3,fun w5 hw5=>?_⟩
 obtain⟨k1,k2,k3⟩:=h5 w5 hw5
 rw[dsp_set]at k1
 have hw2:Bel w.heap.size w w5:=(hw.tr r.bel).tr (Bel.grown k2 (fun g e=>by injection e with e;subst e;exact h4.elim (fun h=>h.elim) fun h=>h.1) r.baseLe)
 have hx2:=RatsC.weak (S':=Cv (fun _=>False) w.heap.size iv9) (RatsC.keep hx (Bs.kept r (oldF w) k2 fun g e=>e)) fun g hg=>hg.1
 have hu2:=RatsC.weak (S':=Cv (fun _=>False) w.heap.size iv9) (RatsC.keep hu (Bs.kept r (oldF w) k2 fun g e=>e)) fun g hg=>hg.1
 have hl2:=RatC.weak (S':=Cv (fun _=>False) w.heap.size iv9) (RatC.keep hl (Bs.kept r (oldF w) k2 fun g e=>e)) fun g hg=>hg.1
 have hd2:=k1.c
 clear hX hx hu hl hh hw h1 h2 h3 h4 h5 hw5 k1 k2 k3 r
 have hw:=hw2
 have hx:=hx2
 have hu:=hu2
 have hl:=hl2
 have hd:=hd2
 clear hw2 hx2 hu2 hl2 hd2
 conv=>whnf
 refine drawn_of_pi hτ hmix [.x 0,.x 1,.x 2,.x 3,.x 4,.x 5,.x 6,.x 7,.x 8,.x 9,.x 10,.x 11,.x 12,.x 13,.x 14,.x 15,.x 16,.x 17,.x 18,.x 19,.x 20,.x 21,.x 22,.x 23,.x 24,.x 25,.x 26,.x 27,.x 28,.x 29,.x 30,.x 31,.x 32,.x 33,.x 34,.x 35] (by kernel_rfl) (by kernel_rfl) ?_
 conv=>whnf
 refine cE hw (Φ:=fun _ w' v w2=>RowXc w2 (fun _=>False) w'.heap.size [(w'.heap.size,w2.heap.size)] v 9 (wholesF frcW)) (fun ρ w' r=>wholes_c (S:=fun g=>g=(ρ 5).g) (fun g hg=>by subst hg;exact Rel.lt r (id:=5) rfl) (boxZs r (id:=5) (n:=9) (l:=frcW) rfl rfl (by decide)) (by decide) (by decide) (by decide)) ?_
 rintro ρ wa10 v10 wb10 iv10 r he hw h_ hn
 replace hx:=RatsC.past hx r (oldF w) he (mC h_)
 replace hu:=RatsC.past hu r (oldF w) he (mC h_)
 replace hl:=hl.past r (oldF w) he (mC h_)
 replace hd:=RatsC.past hd r (oldF w) he (mC h_)
 have hX:=hn.got (S:=fun _=>False) r.baseLe (mN h_)
 clear r he hn
 have hv:=hX.c
 rw[frc_eq]at hv
 clear hX
 obtain⟨av,cv,rfl,-,-⟩:=ListR.shape hv
 conv=>whnf
 refine cE hw (Φ:=fun _ w' v w2=>v= .bool true) (fun ρ w' r=>(sameList_c (S:=Cv (fun _=>False) w.heap.size iv10) (Rel.old r (oldF w)) (RatsC.rel hx r (oldF w)) (RatsC.rel hv r (oldF w))).mono fun _ _ ⟨v2,e1,e2,e3⟩=>⟨v2,e1,e2,by rw[e3];exact congrArg _ (decide_eq_true rfl)⟩) ?_
 rintro ρ wa11 v11 wb11 iv11 r he hw h_ rfl
 clear hx
 replace hu:=RatsC.past hu r (oldF w) he (mC h_)
 replace hl:=hl.past r (oldF w) he (mC h_)
 replace hd:=RatsC.past hd r (oldF w) he (mC h_)
 clear hv
 clear r he
 conv=>whnf
 refine cE hw (Φ:=fun _ w' v w2=>v= .bool true) (fun ρ w' r=>(sameList_c (S:=Cv (fun _=>False) w.heap.size iv11) (Rel.old r (oldF w)) (RatsC.rel hu r (oldF w)) (RatsC.rel hd r (oldF w))).mono fun _ _ ⟨v2,e1,e2,e3⟩=>⟨v2,e1,e2,by rw[e3];exact congrArg _ (decide_eq_true rfl)⟩) ?_
 rintro ρ wa12 v12 wb12 iv12 r he hw h_ rfl
 clear hu
 replace hl:=hl.past r (oldF w) he (mC h_)
 clear hd
 clear r he
 conv=>whnf
 refine⟨true,fun ρ w o1 o2=>cnt_eql 9 0 0 9 0 0 w o1 o2,?_⟩
 conv=>whnf
 refine cE hw (Φ:=fun _ w' v w2=>RatC w2 (Nw (fun _=>False) w' w2) v ((2:Int):Rat)) (fun ρ w' r=>rWhole_c 2 w' (by decide)) ?_
 rintro ρ wa13 v13 wb13 iv13 r he hw h_ hn
 replace hl:=hl.past r (oldF w) he (mC h_)
 have ht:=hn.got (S:=fun _=>False) r.baseLe (mN h_)
 clear r he hn
 obtain⟨s13_0,s13_1,s13_2,s13_3,s13_4,s13_5,s13_6,s13_7,rfl⟩:=ht.shape
 conv=>whnf
 refine cE hw (Φ:=fun _ w' v w2=>v= .bool true) (fun ρ w' r=>(same_c (S:=Cv (fun _=>False) w.heap.size iv13) (Rel.old r (oldF w)) (hl.rel r (oldF w)) (ht.rel r (oldF w))).mono fun _ _ ⟨v2,e1,e2,e3⟩=>⟨v2,e1,e2,by rw[e3];exact congrArg _ (decide_eq_true rfl)⟩) ?_
 rintro ρ wa14 v14 wb14 iv14 r he hw h_ rfl
 clear hl
 clear ht
 clear r he
 conv=>whnf
 intro ρe we re
 exact⟨_,rfl,hw.tr re.bel,rfl⟩
end Go.Ex

/- Lists of fractions with few limbs. Printed by program. No condition but sizes. -/
namespace Go.Ex
open Go Go.Sx Go.Proofs

/-- cells of a fraction; few limbs -/
def Four(cs:List Value):Prop:=∃b a n c b2 a2 n2 c2,cs=[.bool b,.slice a n c,.bool b2,.slice a2 n2 c2]
def Few3(cs:List Value):Prop:=∃b a n c b2 a2 n2 c2,cs=[.bool b,.slice a n c,.bool b2,.slice a2 n2 c2]∧n≤3∧n2≤3
theorem addA(a:Addr)(m n:Nat):(a.add m).add n=a.add (m+n):=by
 unfold Addr.add
 split<;>split<;>simp_all<;>omega
theorem RatR.l3{S:Nat→Prop}{w:World}{b1 b2:Bool}{a1 a2:Option Addr}{n1 n2 c1 c2:Nat}{a b:Int}(h:RatR w S (.agg #[.bool b1,.slice a1 n1 c1,.bool b2,.slice a2 n2 c2]) a b)(hf:Few3 [.bool b1,.slice a1 n1 c1,.bool b2,.slice a2 n2 c2]):
  RatL w S (.agg #[.bool b1,.slice a1 n1 c1,.bool b2,.slice a2 n2 c2]) (ratio a b)∧rl (ratio a b)≤3:=by
 obtain⟨_,_,_,_,_,_,_,_,e,k1,k2⟩:=hf
 simp only[List.cons.injEq,Value.slice.injEq,Value.bool.injEq,and_true]at e
 obtain⟨rfl,⟨rfl,rfl,rfl⟩,rfl,rfl,rfl,rfl⟩:=e
 obtain⟨b1,l1,b2,l2,e,h1,h2⟩:=h
 simp only[Value.agg.injEq,Array.mk.injEq,List.cons.injEq,Value.bool.injEq,and_true]at e
 obtain⟨rfl,rfl,rfl,rfl⟩:=e
 have g1:=h1.short k1
 have g2:=h2.short k2
 have r1:=g1.ln
 have r2:=g2.ln
 have hr:=rl_ratio a b
 refine⟨⟨_,_,_,_,a,b,rfl,?_,?_,rfl⟩,by omega⟩
 ·obtain⟨ng,ls,i1,i2,i3⟩:=g1;exact⟨ng,ls,i1,i2,by omega⟩
 ·obtain⟨ng,ls,i1,i2,i3⟩:=g2;exact⟨ng,ls,i1,i2,by omega⟩
theorem brief_c{S:Nat→Prop}{w:World}{v:Value}{css:List (List Value)}(hS:Old S w)(hq:SeqR w S 4 v css.flatten css.length)(hF:∀cs∈css,Four cs):
  Con PG N.law05_brief #[v] w (Ret w fun v' _=>∃d,v'= .bool d∧(d=true→css.length≤80∧∀cs∈css,Few3 cs)):=by
 have hw:Bel w.heap.size w w:=Bel.refl
 have h4:∀cs∈css,cs.length=4:=fun cs hc=>by obtain⟨_,_,_,_,_,_,_,_,rfl⟩:=hF cs hc;rfl
 have hK:ListK 4 (fun _ _ cs x=>cs=x) w S v css:=⟨css,hq,rfl,h4,fun j cs x h1 h2=>by rw[h1]at h2;injection h2⟩
 obtain⟨a,c,rfl,hc,hm⟩:=hK.shape
 unfold maxLen at hm
 refine in_law05_brief (by simp) ?_
 conv=>whnf
 refine⟨Nat×World,fun z=>⟨[(0,.o (.v (.slice a css.length c))),(3,.o (.v (.int .i64 ((z.1:Nat):Int))))],[],0,[],z.2⟩,fun z=>css.length-z.1,
  fun z=>z.1≤css.length∧Bel w.heap.size w z.2∧∀j cs,j<z.1→css[j]? =some cs→Few3 cs,?_,?_⟩
 ·intro ρ w' r3
  exact⟨(0,w'),⟨Nat.zero_le _,hw.tr r3.bel,fun j cs hj=>absurd hj (Nat.not_lt_zero j)⟩,Sub.gen [] r3 trivial ⟨rfl,rfl,trivial⟩ (by simp[ScH,Blk.scopd,At.sc]) (by simp[ScE,SV.sc,At.sc,initE]) (by rfl) (fun lo hi h=>h)⟩
 clear hw
 rintro⟨i,w1⟩ ⟨hi,hw,hE⟩
 dsimp only at hi hw hE ⊢
 conv=>whnf
 refine BrS.mk (fun hib=>?_) (fun hib=>?_)
 ·have hib:i<css.length:=by simpa using hib
  conv=>whnf
  refine BrS.mk (fun h80=>?_) (fun h80=>?_)
  ·have h80:css.length≤80:=by have:=of_decide_eq_true h80;omega
   obtain⟨cs,hcs⟩:∃cs,css[i]? =some cs:=⟨_,List.getElem?_eq_getElem hib⟩
   obtain⟨g0,g1,g2,g3,g4,g5,g6,g7,rfl⟩:=hF cs (List.mem_of_getElem? hcs)
   obtain⟨adx,cs2,hax,he2,-,hat⟩:=hK.load (by decide) hcs
   subst he2
   conv=>whnf
   refine⟨adx,hax,⟨by omega,by omega⟩,?_⟩
   conv=>whnf
   refine⟨.slice g1 g2 g3,fun ρ w' r=>?_,?_⟩
   ·obtain⟨k1,k2⟩:=hat 1 _ rfl
    rw[Int.toNat_natCast,cell_of_heap (w:=w) (w2:=w') (by simp only[addB];exact(hw.tr r.bel).block _ (hS _ k1))]
    exact k2
   conv=>whnf
   refine BrS.mk (fun k3=>?_) (fun k3=>?_)
   ·conv=>whnf
    intro ρe we re
    exact⟨_,rfl,hw.tr re.bel,_,rfl,fun h=>by cases h⟩
   have k3:=of_decide_eq_false k3
   conv=>whnf
   refine⟨adx,hax,⟨by omega,by omega⟩,?_⟩
   conv=>whnf
   refine⟨.slice g5 g6 g7,fun ρ w' r=>?_,?_⟩
   ·obtain⟨k1,k2⟩:=hat 3 _ rfl
    rw[Int.toNat_natCast,cell_of_heap (w:=w) (w2:=w') (by simp only[addB];exact(hw.tr r.bel).block _ (hS _ k1))]
    exact k2
   conv=>whnf
   refine BrS.mk (fun k4=>?_) (fun k4=>?_)
   ·conv=>whnf
    intro ρe we re
    exact⟨_,rfl,hw.tr re.bel,_,rfl,fun h=>by cases h⟩
   have k4:=of_decide_eq_false k4
   have hE2:∀j cs,j<i+1→css[j]? =some cs→Few3 cs:=fun j cs hj hc=>by
    rcases Nat.lt_or_ge j i with h|h
    ·exact hE j cs h hc
    ·have:j=i:=by omega
     subst this
     rw[hcs]at hc
     injection hc with hc
     subst hc
     exact⟨_,_,_,_,_,_,_,_,rfl,by omega,by omega⟩
   conv=>whnf
   refine⟨((i+1:Nat):Int),by rw[wrap64]<;>omega,?_⟩
   conv=>whnf
   intro ρ3 w6 r3
   exact⟨(i+1,w6),⟨hib,hw.tr r3.bel,hE2⟩,Sub.gen [] r3 trivial ⟨rfl,rfl,trivial⟩ (by simp[ScH,Blk.scopd,At.sc]) (by simp[ScE,SV.sc,At.sc,initE]) (by rfl) (fun lo hi h=>h),by dsimp only;omega⟩
  ·have h80:=of_decide_eq_false h80
   conv=>whnf
   intro ρe we re
   exact⟨_,rfl,hw.tr re.bel,_,rfl,fun h=>by have:=of_decide_eq_true h;omega⟩
 have hib:i=css.length:=Nat.le_antisymm hi (by simpa using hib)
 subst hib
 conv=>whnf
 intro ρe we re
 exact⟨_,rfl,hw.tr re.bel,_,rfl,fun h=>⟨by have:=of_decide_eq_true h;omega,fun cs hc=>by
  obtain⟨j,hj⟩:=List.getElem?_of_mem hc
  exact hE j cs (List.getElem?_eq_some_iff.1 hj).1 hj⟩⟩
/-- a step's cells: two fractions, raw; by values -/
def StepW(w:World)(S:Nat→Prop)(cs:List Value)(p:(Int×Int)×(Int×Int)):Prop:=
 ∃b0 a0 n0 c0 b1 a1 n1 c1 b2 a2 n2 c2 b3 a3 n3 c3,cs=[.bool b0,.slice a0 n0 c0,.bool b1,.slice a1 n1 c1,.bool b2,.slice a2 n2 c2,.bool b3,.slice a3 n3 c3]∧
  RatR w S (.agg #[.bool b0,.slice a0 n0 c0,.bool b1,.slice a1 n1 c1]) p.1.1 p.1.2∧RatR w S (.agg #[.bool b2,.slice a2 n2 c2,.bool b3,.slice a3 n3 c3]) p.2.1 p.2.2
def StepP(w:World)(S:Nat→Prop)(cs:List Value)(q:Rat×Rat):Prop:=
 ∃b0 a0 n0 c0 b1 a1 n1 c1 b2 a2 n2 c2 b3 a3 n3 c3,cs=[.bool b0,.slice a0 n0 c0,.bool b1,.slice a1 n1 c1,.bool b2,.slice a2 n2 c2,.bool b3,.slice a3 n3 c3]∧
  (RatL w S (.agg #[.bool b0,.slice a0 n0 c0,.bool b1,.slice a1 n1 c1]) q.1∧rl q.1≤3)∧(RatL w S (.agg #[.bool b2,.slice a2 n2 c2,.bool b3,.slice a3 n3 c3]) q.2∧rl q.2≤3)
abbrev StepsW:=ListK 8 StepW
abbrev StepsL:=ListK 8 StepP
def stepV(p:(Int×Int)×(Int×Int)):Rat×Rat:=(ratio p.1.1 p.1.2,ratio p.2.1 p.2.2)
theorem StepP.keep{w w2:World}{S:Nat→Prop}{cs:List Value}{p:Rat×Rat}(h:StepP w S cs p)(hk:∀g,S g→w2.heap[g]? =w.heap[g]?):StepP w2 S cs p:=by
 obtain⟨b0,a0,n0,c0,b1,a1,n1,c1,b2,a2,n2,c2,b3,a3,n3,c3,h1,h2,h3⟩:=h
 exact⟨b0,a0,n0,c0,b1,a1,n1,c1,b2,a2,n2,c2,b3,a3,n3,c3,h1,⟨h2.1.keep hk,h2.2⟩,⟨h3.1.keep hk,h3.2⟩⟩
theorem StepsL.keep{w w2:World}{S:Nat→Prop}{v:Value}{l:List (Rat×Rat)}(h:StepsL w S v l)(hk:∀g,S g→w2.heap[g]? =w.heap[g]?):StepsL w2 S v l:=ListK.keep (fun _ _ h=>h.keep hk) h hk
theorem StepP.weak{w:World}{S S':Nat→Prop}{cs:List Value}{p:Rat×Rat}(h:StepP w S cs p)(hk:∀g,S g→S' g):StepP w S' cs p:=by
 obtain⟨b0,a0,n0,c0,b1,a1,n1,c1,b2,a2,n2,c2,b3,a3,n3,c3,h1,h2,h3⟩:=h
 exact⟨b0,a0,n0,c0,b1,a1,n1,c1,b2,a2,n2,c2,b3,a3,n3,c3,h1,⟨h2.1.weak hk,h2.2⟩,⟨h3.1.weak hk,h3.2⟩⟩
theorem StepsL.weak{w:World}{S S':Nat→Prop}{v:Value}{l:List (Rat×Rat)}(h:StepsL w S v l)(hk:∀g,S g→S' g):StepsL w S' v l:=ListK.weak (fun _ _ h=>h.weak hk) h hk
set_option maxHeartbeats 1000000 in
theorem steps_c{S:Nat→Prop}{w:World}{v:Value}{xs:List ((Int×Int)×(Int×Int))}(hS:Old S w)(hq:StepsW w S v xs):
  Con PG N.law05_steps #[v] w (Ret w fun v' _=>∃d,v'= .bool d∧(d=true→(xs.length≤6∨100<xs.length)∧(xs.length≤6→StepsL w S v (xs.map stepV)))):=by
 have hw:Bel w.heap.size w w:=Bel.refl
 obtain⟨css,⟨hm,hlen,hone,a,c,rfl,hc,hcell⟩,hcl,h8,hP⟩:=hq
 have hK:ListK 8 (fun _ _ cs x=>cs=x) w S (.slice a xs.length c) css:=⟨css,⟨by rw[hcl];exact hm,by rw[hcl];exact hlen,hone,a,c,by rw[hcl],by rw[hcl];exact hc,hcell⟩,rfl,h8,fun j cs x h1 h2=>by rw[h1]at h2;injection h2⟩
 have hval:(∀j cs,j<xs.length→css[j]? =some cs→Few3 (cs.take 4)∧Few3 (cs.drop 4))→StepsL w S (.slice a xs.length c) (xs.map stepV):=fun h=>by
  refine⟨css,⟨by rw[List.length_map];exact hm,by rw[List.length_map];exact hlen,hone,a,c,by rw[List.length_map],by rw[List.length_map];exact hc,hcell⟩,by rw[List.length_map];exact hcl,h8,fun j cs q h1 h2=>?_⟩
  rw[List.getElem?_map]at h2
  obtain⟨p,hp,rfl⟩:=Option.map_eq_some_iff.1 h2
  obtain⟨b0,a0,n0,c0,b1,a1,n1,c1,b2,a2,n2,c2,b3,a3,n3,c3,rfl,h3,h4⟩:=hP j cs p h1 hp
  obtain⟨f1,f2⟩:=h j _ (List.getElem?_eq_some_iff.1 hp).1 h1
  exact⟨b0,a0,n0,c0,b1,a1,n1,c1,b2,a2,n2,c2,b3,a3,n3,c3,rfl,h3.l3 f1,h4.l3 f2⟩
 unfold maxLen at hm
 refine in_law05_steps (by simp) ?_
 conv=>whnf
 refine BrS.mk (fun g1=>?_) (fun g1=>?_)
 ·have g1:=of_decide_eq_true g1
  conv=>whnf
  refine BrS.mk (fun g2=>?_) (fun g2=>?_)
  ·conv=>whnf
   intro ρe we re
   exact⟨_,rfl,hw.tr re.bel,_,rfl,fun h=>by cases h⟩
  have g2:=of_decide_eq_false g2
  conv=>whnf
  refine BrS.mk (fun g3=>?_) (fun g3=>?_)
  ·conv=>whnf
   intro ρe we re
   exact⟨_,rfl,hw.tr re.bel,_,rfl,fun h=>by cases h⟩
  have g3:=of_decide_eq_false g3
  conv=>whnf
  refine⟨Nat×World×Iv,fun z=>⟨[(0,.o (.v (.slice a xs.length c))),(3,.o (.v (.int .i64 ((z.1:Nat):Int))))],[],0,z.2.2,z.2.1⟩,fun z=>xs.length-z.1,
   fun z=>z.1≤xs.length∧Bel w.heap.size w z.2.1∧∀j cs,j<z.1→css[j]? =some cs→Few3 (cs.take 4)∧Few3 (cs.drop 4),?_,?_⟩
  ·intro ρ w' r3
   exact⟨(0,w',[]),⟨Nat.zero_le _,hw.tr r3.bel,fun j cs hj=>absurd hj (Nat.not_lt_zero j)⟩,Sub.gen [] r3 trivial ⟨rfl,rfl,trivial⟩ (by simp[ScH,Blk.scopd,At.sc]) (by simp[ScE,SV.sc,At.sc,initE]) (by rfl) (fun lo hi h=>h)⟩
  clear hw
  rintro⟨i,w1,iv⟩ ⟨hi,hw,hE⟩
  dsimp only at hi hw hE ⊢
  conv=>whnf
  refine BrS.mk (fun hib=>?_) (fun hib=>?_)
  ·have hib:i<xs.length:=by simpa using hib
   conv=>whnf
   refine BrS.mk (fun h6=>?_) (fun h6=>?_)
   ·have h6:xs.length≤6:=by have:=of_decide_eq_true h6;omega
    obtain⟨cs,hcs⟩:∃cs,css[i]? =some cs:=⟨_,List.getElem?_eq_getElem (by omega)⟩
    obtain⟨p,hp⟩:∃p,xs[i]? =some p:=⟨_,List.getElem?_eq_getElem hib⟩
    obtain⟨b0,a0,n0,c0,b1,a1,n1,c1,b2,a2,n2,c2,b3,a3,n3,c3,rfl,-,-⟩:=hP i cs p hcs hp
    obtain⟨adx,cs2,hax,he2,-,hat⟩:=hK.load (by decide) hcs
    subst he2
    conv=>whnf
    refine drawn_of_pi hτ hmix [.x 0,.x 1,.x 2,.x 3,.x 4,.x 5,.x 6,.x 7,.x 8,.x 9,.x 10,.x 11,.x 12] (by kernel_rfl) (by kernel_rfl) ?_
    conv=>whnf
    refine⟨adx,hax,⟨by omega,by omega⟩,?_⟩
    conv=>whnf
    refine⟨[.bool b0,.slice a0 n0 c0,.bool b1,.slice a1 n1 c1],rfl,fun ρ w' r j u hu=>?_,?_⟩
    ·have hj4:=(List.getElem?_eq_some_iff.1 hu).1
     obtain⟨k1,k2⟩:=hat (0+j) u (by rcases j with _|_|_|_|j<;>first|exact hu|(have:j+4<4:=hj4;omega))
     rw[Int.toNat_natCast,cell_of_heap (w:=w) (w2:=w') (by simp only[addB];exact(hw.tr r.bel).block _ (hS _ k1))]
     simp only[addA]at k2 ⊢
     first|exact k2|(rw [←k2];congr 2;omega)
    conv=>whnf
    refine⟨adx,hax,⟨by omega,by omega⟩,?_⟩
    conv=>whnf
    refine⟨[.bool b2,.slice a2 n2 c2,.bool b3,.slice a3 n3 c3],rfl,fun ρ w' r j u hu=>?_,?_⟩
    ·have hj4:=(List.getElem?_eq_some_iff.1 hu).1
     obtain⟨k1,k2⟩:=hat (4+j) u (by rcases j with _|_|_|_|j<;>first|exact hu|(have:j+4<4:=hj4;omega))
     rw[Int.toNat_natCast,cell_of_heap (w:=w) (w2:=w') (by simp only[addB];exact(hw.tr r.bel).block _ (hS _ k1))]
     simp only[addA]at k2 ⊢
     first|exact k2|(rw [←k2];congr 2;omega)
    conv=>whnf
    have hFour:∀cs∈([[.bool b0,.slice a0 n0 c0,.bool b1,.slice a1 n1 c1],[.bool b2,.slice a2 n2 c2,.bool b3,.slice a3 n3 c3]]:List (List Value)),Four cs:=fun cs hc=>by
     rcases List.mem_cons.1 hc with rfl|hc
     ·exact⟨_,_,_,_,_,_,_,_,rfl⟩
     ·rw[List.mem_singleton.1 hc];exact⟨_,_,_,_,_,_,_,_,rfl⟩
    refine cE hw (Φ:=fun _ w' v w2=>∃d,v= .bool d∧(d=true→Few3 [.bool b0,.slice a0 n0 c0,.bool b1,.slice a1 n1 c1]∧Few3 [.bool b2,.slice a2 n2 c2,.bool b3,.slice a3 n3 c3])) (fun ρ w' r=>(brief_c (S:=fun g=>g=(ρ 0).g) (css:=[[.bool b0,.slice a0 n0 c0,.bool b1,.slice a1 n1 c1],[.bool b2,.slice a2 n2 c2,.bool b3,.slice a3 n3 c3]]) (fun g hg=>by subst hg;exact Rel.lt r (id:=0) rfl) (r.boxSeq (id:=0) (sz:=4) (n:=2) rfl rfl (by decide) (by repeat' first|refine List.forall_mem_cons.2 ⟨rfl,?_⟩|exact fun u hu=>absurd hu List.not_mem_nil)) hFour).mono fun _ _ ⟨v2,e1,e2,d,e3,e4⟩=>⟨v2,e1,e2,d,e3,fun h=>⟨(e4 h).2 _ List.mem_cons_self,(e4 h).2 _ (List.mem_cons_of_mem _ List.mem_cons_self)⟩⟩) ?_
    rintro ρ wa1 v1 wb1 iv1 r he hw h_ ⟨d1,rfl,hz1⟩
    clear r
    cases d1
    ·conv=>whnf
     intro ρe we re
     exact⟨_,rfl,hw.tr re.bel,_,rfl,fun h=>by cases h⟩
    have hE2:∀j cs,j<i+1→css[j]? =some cs→Few3 (cs.take 4)∧Few3 (cs.drop 4):=fun j cs hj hc=>by
     rcases Nat.lt_or_ge j i with h|h
     ·exact hE j cs h hc
     ·have:j=i:=by omega
      subst this
      rw[hcs]at hc
      injection hc with hc
      subst hc
      exact hz1 rfl
    conv=>whnf
    refine⟨((i+1:Nat):Int),by rw[wrap64]<;>omega,?_⟩
    conv=>whnf
    intro ρ3 w6 r3
    exact⟨(i+1,w6,_),⟨hib,hw.tr r3.bel,hE2⟩,Sub.gen [] r3 trivial ⟨rfl,rfl,trivial⟩ (by simp[ScH,Blk.scopd,At.sc]) (by simp[ScE,SV.sc,At.sc,initE]) (by rfl) (fun lo hi h=>h),by dsimp only;omega⟩
   ·have h6:=of_decide_eq_false h6
    conv=>whnf
    intro ρe we re
    exact⟨_,rfl,hw.tr re.bel,_,rfl,fun _=>⟨.inr (by omega),fun h=>by omega⟩⟩
  have hib:i=xs.length:=Nat.le_antisymm hi (by simpa using hib)
  subst hib
  conv=>whnf
  intro ρe we re
  exact⟨_,rfl,hw.tr re.bel,_,rfl,fun _=>⟨.inr (by omega),fun _=>hval fun j cs hj hc=>hE j cs hj hc⟩⟩
 have g1:=of_decide_eq_false g1
 conv=>whnf
 refine BrS.mk (fun g3=>?_) (fun g3=>?_)
 ·conv=>whnf
  intro ρe we re
  exact⟨_,rfl,hw.tr re.bel,_,rfl,fun h=>by cases h⟩
 have g3:=of_decide_eq_false g3
 conv=>whnf
 refine⟨Nat×World×Iv,fun z=>⟨[(0,.o (.v (.slice a xs.length c))),(3,.o (.v (.int .i64 ((z.1:Nat):Int))))],[],0,z.2.2,z.2.1⟩,fun z=>xs.length-z.1,
  fun z=>z.1≤xs.length∧Bel w.heap.size w z.2.1∧∀j cs,j<z.1→css[j]? =some cs→Few3 (cs.take 4)∧Few3 (cs.drop 4),?_,?_⟩
 ·intro ρ w' r3
  exact⟨(0,w',[]),⟨Nat.zero_le _,hw.tr r3.bel,fun j cs hj=>absurd hj (Nat.not_lt_zero j)⟩,Sub.gen [] r3 trivial ⟨rfl,rfl,trivial⟩ (by simp[ScH,Blk.scopd,At.sc]) (by simp[ScE,SV.sc,At.sc,initE]) (by rfl) (fun lo hi h=>h)⟩
 clear hw
 rintro⟨i,w1,iv⟩ ⟨hi,hw,hE⟩
 dsimp only at hi hw hE ⊢
 conv=>whnf
 refine BrS.mk (fun hib=>?_) (fun hib=>?_)
 ·have hib:i<xs.length:=by simpa using hib
  conv=>whnf
  refine BrS.mk (fun h6=>?_) (fun h6=>?_)
  ·have h6:xs.length≤6:=by have:=of_decide_eq_true h6;omega
   obtain⟨cs,hcs⟩:∃cs,css[i]? =some cs:=⟨_,List.getElem?_eq_getElem (by omega)⟩
   obtain⟨p,hp⟩:∃p,xs[i]? =some p:=⟨_,List.getElem?_eq_getElem hib⟩
   obtain⟨b0,a0,n0,c0,b1,a1,n1,c1,b2,a2,n2,c2,b3,a3,n3,c3,rfl,-,-⟩:=hP i cs p hcs hp
   obtain⟨adx,cs2,hax,he2,-,hat⟩:=hK.load (by decide) hcs
   subst he2
   conv=>whnf
   refine drawn_of_pi hτ hmix [.x 0,.x 1,.x 2,.x 3,.x 4,.x 5,.x 6,.x 7,.x 8,.x 9,.x 10,.x 11,.x 12] (by kernel_rfl) (by kernel_rfl) ?_
   conv=>whnf
   refine⟨adx,hax,⟨by omega,by omega⟩,?_⟩
   conv=>whnf
   refine⟨[.bool b0,.slice a0 n0 c0,.bool b1,.slice a1 n1 c1],rfl,fun ρ w' r j u hu=>?_,?_⟩
   ·have hj4:=(List.getElem?_eq_some_iff.1 hu).1
    obtain⟨k1,k2⟩:=hat (0+j) u (by rcases j with _|_|_|_|j<;>first|exact hu|(have:j+4<4:=hj4;omega))
    rw[Int.toNat_natCast,cell_of_heap (w:=w) (w2:=w') (by simp only[addB];exact(hw.tr r.bel).block _ (hS _ k1))]
    simp only[addA]at k2 ⊢
    first|exact k2|(rw [←k2];congr 2;omega)
   conv=>whnf
   refine⟨adx,hax,⟨by omega,by omega⟩,?_⟩
   conv=>whnf
   refine⟨[.bool b2,.slice a2 n2 c2,.bool b3,.slice a3 n3 c3],rfl,fun ρ w' r j u hu=>?_,?_⟩
   ·have hj4:=(List.getElem?_eq_some_iff.1 hu).1
    obtain⟨k1,k2⟩:=hat (4+j) u (by rcases j with _|_|_|_|j<;>first|exact hu|(have:j+4<4:=hj4;omega))
    rw[Int.toNat_natCast,cell_of_heap (w:=w) (w2:=w') (by simp only[addB];exact(hw.tr r.bel).block _ (hS _ k1))]
    simp only[addA]at k2 ⊢
    first|exact k2|(rw [←k2];congr 2;omega)
   conv=>whnf
   have hFour:∀cs∈([[.bool b0,.slice a0 n0 c0,.bool b1,.slice a1 n1 c1],[.bool b2,.slice a2 n2 c2,.bool b3,.slice a3 n3 c3]]:List (List Value)),Four cs:=fun cs hc=>by
    rcases List.mem_cons.1 hc with rfl|hc
    ·exact⟨_,_,_,_,_,_,_,_,rfl⟩
    ·rw[List.mem_singleton.1 hc];exact⟨_,_,_,_,_,_,_,_,rfl⟩
   refine cE hw (Φ:=fun _ w' v w2=>∃d,v= .bool d∧(d=true→Few3 [.bool b0,.slice a0 n0 c0,.bool b1,.slice a1 n1 c1]∧Few3 [.bool b2,.slice a2 n2 c2,.bool b3,.slice a3 n3 c3])) (fun ρ w' r=>(brief_c (S:=fun g=>g=(ρ 0).g) (css:=[[.bool b0,.slice a0 n0 c0,.bool b1,.slice a1 n1 c1],[.bool b2,.slice a2 n2 c2,.bool b3,.slice a3 n3 c3]]) (fun g hg=>by subst hg;exact Rel.lt r (id:=0) rfl) (r.boxSeq (id:=0) (sz:=4) (n:=2) rfl rfl (by decide) (by repeat' first|refine List.forall_mem_cons.2 ⟨rfl,?_⟩|exact fun u hu=>absurd hu List.not_mem_nil)) hFour).mono fun _ _ ⟨v2,e1,e2,d,e3,e4⟩=>⟨v2,e1,e2,d,e3,fun h=>⟨(e4 h).2 _ List.mem_cons_self,(e4 h).2 _ (List.mem_cons_of_mem _ List.mem_cons_self)⟩⟩) ?_
   rintro ρ wa1 v1 wb1 iv1 r he hw h_ ⟨d1,rfl,hz1⟩
   clear r
   cases d1
   ·conv=>whnf
    intro ρe we re
    exact⟨_,rfl,hw.tr re.bel,_,rfl,fun h=>by cases h⟩
   have hE2:∀j cs,j<i+1→css[j]? =some cs→Few3 (cs.take 4)∧Few3 (cs.drop 4):=fun j cs hj hc=>by
    rcases Nat.lt_or_ge j i with h|h
    ·exact hE j cs h hc
    ·have:j=i:=by omega
     subst this
     rw[hcs]at hc
     injection hc with hc
     subst hc
     exact hz1 rfl
   conv=>whnf
   refine⟨((i+1:Nat):Int),by rw[wrap64]<;>omega,?_⟩
   conv=>whnf
   intro ρ3 w6 r3
   exact⟨(i+1,w6,_),⟨hib,hw.tr r3.bel,hE2⟩,Sub.gen [] r3 trivial ⟨rfl,rfl,trivial⟩ (by simp[ScH,Blk.scopd,At.sc]) (by simp[ScE,SV.sc,At.sc,initE]) (by rfl) (fun lo hi h=>h),by dsimp only;omega⟩
  ·have h6:=of_decide_eq_false h6
   conv=>whnf
   intro ρe we re
   exact⟨_,rfl,hw.tr re.bel,_,rfl,fun _=>⟨.inl (by omega),fun h=>by omega⟩⟩
 have hib:i=xs.length:=Nat.le_antisymm hi (by simpa using hib)
 subst hib
 conv=>whnf
 intro ρe we re
 exact⟨_,rfl,hw.tr re.bel,_,rfl,fun _=>⟨.inl (by omega),fun _=>hval fun j cs hj hc=>hE j cs hj hc⟩⟩
end Go.Ex

/- Tables of steps: their errors, their value at a place, and that it lies between two values. No condition. -/
namespace Go.Ex
/-- a step is told after those before it -/
def stpE(seen:List (Rat×Rat))(q:Rat×Rat):Int:=match seen.getLast? with
 |none=>0
 |some p=>if q.1≤p.1 then 10 else 0
def errT(l:List (Rat×Rat)):Int:=if l.length=0 then 27 else if 100<l.length then 8 else firstE stpE (l.take 1) (l.drop 1)
def interpF(x:Rat):Rat×Rat→List (Rat×Rat)→Rat
 |a,[]=>a.2
 |a,b::r=>if x≤b.1 then a.2+(x-a.1) / (b.1-a.1)*(b.2-a.2)else interpF x b r
def valF(x:Rat):List (Rat×Rat)→Rat
 |[]=>0
 |a::r=>if x≤a.1 then a.2 else interpF x a r
theorem take_last{α:Type}{l:List α}{i:Nat}{p:α}(h:l[i]? =some p):(l.take (i+1)).getLast? =some p:=by
 rw[List.take_add_one,h]
 simp
theorem stpE_at{l:List (Rat×Rat)}{i:Nat}{p:Rat×Rat}(h:l[i]? =some p)(q:Rat×Rat):stpE (l.take (i+1)) q=if q.1≤p.1 then 10 else 0:=by
 rw[stpE,take_last h]
theorem interpF_end(x:Rat){l:List (Rat×Rat)}{a:Rat×Rat}:interpF x a (l.drop l.length)=a.2:=by rw[List.drop_length];rfl
theorem interpF_hit{x:Rat}{l:List (Rat×Rat)}{i:Nat}{a b:Rat×Rat}(hb:l[i]? =some b)(hx:x≤b.1):interpF x a (l.drop i)=a.2+(x-a.1) / (b.1-a.1)*(b.2-a.2):=by
 rw[List.drop_eq_getElem_cons (List.getElem?_eq_some_iff.1 hb).1,(List.getElem?_eq_some_iff.1 hb).2,interpF,if_pos hx]
theorem interpF_miss{x:Rat}{l:List (Rat×Rat)}{i:Nat}{a b:Rat×Rat}(hb:l[i]? =some b)(hx:¬x≤b.1):interpF x a (l.drop i)=interpF x b (l.drop (i+1)):=by
 rw[List.drop_eq_getElem_cons (List.getElem?_eq_some_iff.1 hb).1,(List.getElem?_eq_some_iff.1 hb).2,interpF,if_neg hx]
theorem valF_first{x:Rat}{l:List (Rat×Rat)}{a:Rat×Rat}(ha:l[0]? =some a)(hx:x≤a.1):valF x l=a.2:=by
 cases l with
 |nil=>cases ha
 |cons b r=>injection ha with ha;subst ha;rw[valF,if_pos hx]
theorem valF_rest{x:Rat}{l:List (Rat×Rat)}{a:Rat×Rat}(ha:l[0]? =some a)(hx:¬x≤a.1):valF x l=interpF x a (l.drop 1):=by
 cases l with
 |nil=>cases ha
 |cons b r=>injection ha with ha;subst ha;rw[valF,if_neg hx];rfl
theorem between{a b x p q:Rat}(h1:a<x)(h2:x≤b):(p≤q→p≤p+(x-a) / (b-a)*(q-p)∧p+(x-a) / (b-a)*(q-p)≤q)∧(q≤p→q≤p+(x-a) / (b-a)*(q-p)∧p+(x-a) / (b-a)*(q-p)≤p):=by
 have hd:0<b-a:=by grind
 have hi:0≤(b-a)⁻¹:=Rat.le_of_lt (Rat.inv_pos.2 hd)
 obtain⟨t,ht⟩:∃t,(x-a) / (b-a)=t:=⟨_,rfl⟩
 have t0:0≤t:=by rw[←ht,Rat.div_def];exact Rat.mul_nonneg (by grind) hi
 have t1:t≤1:=by
  rw[←ht,Rat.div_def,←Rat.mul_inv_cancel (b-a) (by grind)]
  exact Rat.mul_le_mul_of_nonneg_right (by grind) hi
 rw[ht]
 refine⟨fun h=>?_,fun h=>?_⟩
 ·have k1:0≤t*(q-p):=Rat.mul_nonneg t0 (by grind)
  have k2:t*(q-p)≤1*(q-p):=Rat.mul_le_mul_of_nonneg_right t1 (by grind)
  grind
 ·have k1:0≤t*(p-q):=Rat.mul_nonneg t0 (by grind)
  have k2:t*(p-q)≤1*(p-q):=Rat.mul_le_mul_of_nonneg_right t1 (by grind)
  have k3:t*(q-p)= -(t*(p-q)):=by grind
  grind
end Go.Ex

/- A table's check and value. Printed by program. No condition but sizes. -/
namespace Go.Ex
open Go Go.Sx Go.Proofs

theorem rs_le_iff{p q:Rat}:rs (p-q)≤0↔p≤q:=by
 rw[←Int.not_lt,rs_sub_pos,Rat.not_lt]
theorem sCheckTable_c{S:Nat→Prop}{w:World}{a:Option Addr}{c:Nat}{l:List (Rat×Rat)}(hS:Old S w)(hm:l.length≤maxLen)(hl:l.length≤100→StepsL w S (.slice a l.length c) l):Con PG N.statics_checkTable #[.slice a l.length c] w (Ret w fun v' _=>v'= .int .i64 (errT l)):=by
 have hw:Bel w.heap.size w w:=Bel.refl
 unfold maxLen at hm
 refine in_statics_checkTable (by simp) ?_
 conv=>whnf
 refine BrS.mk (fun h0=>?_) (fun h0=>?_)
 ·have h0:l.length=0:=by have h0:=eq_of_beq h0;omega
  conv=>whnf
  intro ρe we re
  exact⟨_,rfl,hw.tr re.bel,by show Value.int .i64 _=_;rw[errT,if_pos h0]⟩
 have h0:l.length≠0:=by intro h;simp[h]at h0
 conv=>whnf
 refine BrS.mk (fun h1=>?_) (fun h1=>?_)
 ·have h1:=of_decide_eq_true h1
  conv=>whnf
  intro ρe we re
  exact⟨_,rfl,hw.tr re.bel,by show Value.int .i64 _=_;rw[errT,if_neg h0,if_pos (by omega)]⟩
 have h1:=of_decide_eq_false h1
 replace hl:=hl (by omega)
 conv=>whnf
 refine⟨Nat×World×Iv,fun z=>⟨[(0,.o (.v (.slice a l.length c))),(3,.o (.v (.int .i64 ((z.1:Nat):Int))))],[],0,z.2.2,z.2.1⟩,fun z=>l.length-z.1,
  fun z=>(1≤z.1∧z.1≤l.length)∧Bel w.heap.size w z.2.1∧errT l=firstE stpE (l.take z.1) (l.drop z.1),?_,?_⟩
 ·intro ρ w' r3
  exact⟨(1,w',[]),⟨⟨Nat.le_refl _,by omega⟩,hw.tr r3.bel,by rw[errT,if_neg h0,if_neg (by omega)]⟩,Sub.gen [] r3 trivial ⟨rfl,rfl,trivial⟩ (by simp[ScH,Blk.scopd,At.sc]) (by simp[ScE,SV.sc,At.sc,initE]) (by rfl) (fun lo hi h=>h)⟩
 clear hw
 rintro⟨i,w1,iv⟩ ⟨⟨hi1,hi⟩,hw,hE⟩
 dsimp only at hi1 hi hw hE ⊢
 conv=>whnf
 refine BrS.mk (fun hib=>?_) (fun hib=>?_)
 ·have hib:i<l.length:=by simpa using hib
  obtain⟨q,hq⟩:∃q,l[i]? =some q:=⟨_,List.getElem?_eq_getElem hib⟩
  obtain⟨m,hm1⟩:∃m,i=m+1:=⟨i-1,by omega⟩
  obtain⟨p,hp⟩:∃p,l[m]? =some p:=⟨_,List.getElem?_eq_getElem (by omega)⟩
  have hse:stpE (l.take i) q=if q.1≤p.1 then 10 else 0:=by rw[hm1];exact stpE_at hp q
  obtain⟨adx,csx,hax,hFx,-,hlx⟩:=hl.load (by decide) hq
  obtain⟨b0x,a0x,n0x,c0x,b1x,a1x,n1x,c1x,b2x,a2x,n2x,c2x,b3x,a3x,n3x,c3x,rfl,hAx,hVx⟩:=hFx
  obtain⟨ady,csy,hay,hFy,-,hly⟩:=hl.load (by decide) hp
  obtain⟨b0y,a0y,n0y,c0y,b1y,a1y,n1y,c1y,b2y,a2y,n2y,c2y,b3y,a3y,n3y,c3y,rfl,hAy,hVy⟩:=hFy
  conv=>whnf
  refine drawn_of_pi hτ hmix [.x 0,.x 1,.x 2,.x 3,.x 4,.x 5,.x 6,.x 7,.x 8,.x 9,.x 10,.x 11,.x 12] (by kernel_rfl) (by kernel_rfl) ?_
  conv=>whnf
  refine⟨adx,hax,⟨by omega,by omega⟩,?_⟩
  conv=>whnf
  refine⟨[.bool b0x,.slice a0x n0x c0x,.bool b1x,.slice a1x n1x c1x],rfl,fun ρ w' r j u hu=>?_,?_⟩
  ·have hj4:=(List.getElem?_eq_some_iff.1 hu).1
   obtain⟨k1,k2⟩:=hlx (0+j) u (by rcases j with _|_|_|_|j<;>first|exact hu|(have:j+4<4:=hj4;omega))
   rw[cell_of_heap (w:=w) (w2:=w') (by simp only[addB];exact(hw.tr r.bel).block _ (hS _ k1))]
   simp only[Int.toNat_natCast,Int.toNat_zero,Nat.zero_mul,addA]at k2 ⊢
   first|exact k2|(rw [←k2];congr 2;omega)
  conv=>whnf
  refine⟨(m:Int),by rw[wrap64]<;>omega,?_⟩
  conv=>whnf
  refine⟨ady,hay,⟨by omega,by omega⟩,?_⟩
  conv=>whnf
  refine⟨[.bool b0y,.slice a0y n0y c0y,.bool b1y,.slice a1y n1y c1y],rfl,fun ρ w' r j u hu=>?_,?_⟩
  ·have hj4:=(List.getElem?_eq_some_iff.1 hu).1
   obtain⟨k1,k2⟩:=hly (0+j) u (by rcases j with _|_|_|_|j<;>first|exact hu|(have:j+4<4:=hj4;omega))
   rw[cell_of_heap (w:=w) (w2:=w') (by simp only[addB];exact(hw.tr r.bel).block _ (hS _ k1))]
   simp only[Int.toNat_natCast,Int.toNat_zero,Nat.zero_mul,addA]at k2 ⊢
   first|exact k2|(rw [←k2];congr 2;omega)
  conv=>whnf
  refine cE hw (Φ:=fun _ w' v w2=>v= .int .i64 (rs (q.1-p.1))) (fun ρ w' r=>vCmp_c (fun g hg=>by have:=hS g hg;have:=r.baseLe;omega) (hAx.1.v.keep fun g hg=>(hw.tr r.bel).block g (hS g hg)) (hAy.1.v.keep fun g hg=>(hw.tr r.bel).block g (hS g hg))) ?_
  rintro ρ wa1 v1 wb1 iv1 r he hw h_ rfl
  clear r
  obtain⟨cf,hcf⟩:∃c,rs (q.1-p.1)=c:=⟨_,rfl⟩
  rw[hcf]
  conv=>whnf
  refine BrS.mk (fun hd=>?_) (fun hd=>?_)
  ·have hd:q.1≤p.1:=by have:=of_decide_eq_true hd;rw[←rs_le_iff];omega
   conv=>whnf
   intro ρe we re
   exact⟨_,rfl,hw.tr re.bel,by show Value.int .i64 _=_;rw[hE,firstE_ret hq (by rw[hse,if_pos hd]) (by decide)]⟩
  have hd:¬q.1≤p.1:=by have:=of_decide_eq_false hd;rw[←rs_le_iff];omega
  rw[firstE_step hq (by rw[hse,if_neg hd])]at hE
  conv=>whnf
  refine⟨((i+1:Nat):Int),by rw[wrap64]<;>omega,?_⟩
  conv=>whnf
  intro ρ3 w6 r3
  exact⟨(i+1,w6,_),⟨⟨by dsimp only;omega,hib⟩,hw.tr r3.bel,hE⟩,Sub.gen [] r3 trivial ⟨rfl,rfl,trivial⟩ (by simp[ScH,Blk.scopd,At.sc]) (by simp[ScE,SV.sc,At.sc,initE]) (by rfl) (fun lo hi h=>h),by dsimp only;omega⟩
 have hib:i=l.length:=Nat.le_antisymm hi (by simpa using hib)
 rw[firstE_end (by omega)]at hE
 conv=>whnf
 intro ρe we re
 exact⟨_,rfl,hw.tr re.bel,by show Value.int .i64 _=_;rw[hE]⟩
set_option maxHeartbeats 1000000 in
theorem sValue_c{S:Nat→Prop}{w:World}{v u:Value}{l:List (Rat×Rat)}{x:Rat}(hS:Old S w)(hl:StepsL w S v l)(hx:RatL w S u x)(hxs:rl x≤3)(h0:l≠[]):Con PG N.statics_value #[v,u] w (Ret w fun v' w2=>RatC w2 (Nw (fun _=>False) w w2) v' (valF x l)):=by
 have hw:Bel w.heap.size w w:=Bel.refl
 obtain⟨a,c,rfl,hc,hm⟩:=hl.shape
 unfold maxLen at hm
 obtain⟨x0,x1,x2,x3,x4,x5,x6,x7,rfl⟩:=hx.shape
 have h1:0<l.length:=by cases l with|nil=>exact absurd rfl h0|cons _ _=>simp
 obtain⟨q0,hq0⟩:∃q,l[0]? =some q:=⟨_,List.getElem?_eq_getElem h1⟩
 obtain⟨adz,csz,haz,hFz,-,hlz⟩:=hl.load (by decide) hq0
 obtain⟨b0z,a0z,n0z,c0z,b1z,a1z,n1z,c1z,b2z,a2z,n2z,c2z,b3z,a3z,n3z,c3z,rfl,hAz,hVz⟩:=hFz
 refine in_statics_value (by simp) ?_
 conv=>whnf
 refine drawn_of_pi hτ hmix [.x 0,.x 1,.x 2,.x 3,.x 4,.x 5,.x 6] (by kernel_rfl) (by kernel_rfl) ?_
 conv=>whnf
 refine⟨adz,haz,⟨by omega,by omega⟩,?_⟩
 conv=>whnf
 refine⟨[.bool b0z,.slice a0z n0z c0z,.bool b1z,.slice a1z n1z c1z],rfl,fun ρ w' r j u hu=>?_,?_⟩
 ·have hj4:=(List.getElem?_eq_some_iff.1 hu).1
  obtain⟨k1,k2⟩:=hlz (0+j) u (by rcases j with _|_|_|_|j<;>first|exact hu|(have:j+4<4:=hj4;omega))
  rw[cell_of_heap (w:=w) (w2:=w') (by simp only[addB];exact(hw.tr r.bel).block _ (hS _ k1))]
  simp only[Int.toNat_natCast,Int.toNat_zero,Nat.zero_mul,addA]at k2 ⊢
  first|exact k2|(rw [←k2];congr 2;omega)
 conv=>whnf
 refine cE hw (Φ:=fun _ w' v w2=>v= .int .i64 (rs (x-q0.1))) (fun ρ w' r=>vCmp_c (fun g hg=>by have:=hS g hg;have:=r.baseLe;omega) (hx.v.keep fun g hg=>(hw.tr r.bel).block g (hS g hg)) (hAz.1.v.keep fun g hg=>(hw.tr r.bel).block g (hS g hg))) ?_
 rintro ρ wa1 v1 wb1 iv1 r he hw h_ rfl
 clear r
 obtain⟨cf,hcf⟩:∃c,rs (x-q0.1)=c:=⟨_,rfl⟩
 rw[hcf]
 conv=>whnf
 refine BrS.mk (fun hd=>?_) (fun hd=>?_)
 ·have hd:x≤q0.1:=by have:=of_decide_eq_true hd;rw[←rs_le_iff];omega
  have hv:=valF_first hq0 hd
  conv=>whnf
  refine⟨adz,haz,⟨by omega,by omega⟩,?_⟩
  conv=>whnf
  refine⟨[.bool b2z,.slice a2z n2z c2z,.bool b3z,.slice a3z n3z c3z],rfl,fun ρ w' r j u hu=>?_,?_⟩
  ·have hj4:=(List.getElem?_eq_some_iff.1 hu).1
   obtain⟨k1,k2⟩:=hlz (4+j) u (by rcases j with _|_|_|_|j<;>first|exact hu|(have:j+4<4:=hj4;omega))
   rw[cell_of_heap (w:=w) (w2:=w') (by simp only[addB];exact(hw.tr r.bel).block _ (hS _ k1))]
   simp only[Int.toNat_natCast,Int.toNat_zero,Nat.zero_mul,addA]at k2 ⊢
   first|exact k2|(rw [←k2];congr 2;omega)
  conv=>whnf
  refine callE_S (cE hw (Φ:=fun _ w' v w2=>RatC w2 (Nw (fun _=>False) w' w2) v (q0.2)) (fun ρ w' r=>vNormal_c (fun g hg=>by have:=hS g hg;have:=r.baseLe;omega) (hVz.1.v.keep fun g hg=>(hw.tr r.bel).block g (hS g hg))) ?_)
  rintro ρ wa2 v2 wb2 iv2 r he hw h_ hn
  have hn9:=hn.got (S:=fun _=>False) r.baseLe (mN h_)
  clear r
  obtain⟨s2_0,s2_1,s2_2,s2_3,s2_4,s2_5,s2_6,s2_7,rfl⟩:=hn9.shape
  conv=>whnf
  intro ρe we re
  exact⟨_,rfl,hw.tr re.bel,by rw[hv];exact hn9.out re (oldF w)⟩
 have hd:¬x≤q0.1:=by have:=of_decide_eq_false hd;rw[←rs_le_iff];omega
 have hv:=valF_rest hq0 hd
 conv=>whnf
 refine⟨Nat×World×Iv,fun z=>⟨[(0,.o (.v (.slice a l.length c))),(3,.o (.p 0 0)),(4,.o (.p 1 0)),(5,.o (.v (.int .i64 ((z.1:Nat):Int))))],[(1,.box T.Rat [.v (.bool false),.v (.slice none 0 0),.v (.bool false),.v (.slice none 0 0)]),(0,.box T.Rat [.v (.bool x0),.v (.slice x1 x2 x3),.v (.bool x4),.v (.slice x5 x6 x7)])],2,z.2.2,z.2.1⟩,fun z=>l.length-z.1,
  fun z=>(1≤z.1∧z.1≤l.length)∧Bel w.heap.size w z.2.1∧∀p,l[z.1-1]? =some p→p.1<x∧valF x l=interpF x p (l.drop z.1),?_,?_⟩
 ·intro ρ w' r3
  exact⟨(1,w',_),⟨⟨Nat.le_refl _,h1⟩,hw.tr r3.bel,fun p hp=>by dsimp only at hp ⊢;rw[Nat.sub_self,hq0]at hp;injection hp with hp;subst hp;exact⟨Rat.not_le.1 hd,hv⟩⟩,Sub.gen [] r3 ⟨rfl,rfl,trivial⟩ ⟨rfl,rfl,rfl,rfl,trivial⟩ (by simp[ScH,Blk.scopd,At.sc]) (by simp[ScE,SV.sc,At.sc,initE]) (by rfl) (fun lo hi h=>h)⟩
 clear hw
 rintro⟨i,w1,iv⟩ ⟨⟨hi1,hi⟩,hw,hE⟩
 dsimp only at hi1 hi hw hE ⊢
 obtain⟨m,hm1⟩:∃m,i=m+1:=⟨i-1,by omega⟩
 obtain⟨p,hp⟩:∃p,l[m]? =some p:=⟨_,List.getElem?_eq_getElem (by omega)⟩
 obtain⟨hpx,hE⟩:=hE p (by rw[hm1,Nat.add_sub_cancel];exact hp)
 conv=>whnf
 refine BrS.mk (fun hib=>?_) (fun hib=>?_)
 ·have hib:i<l.length:=by simpa using hib
  obtain⟨q,hq⟩:∃q,l[i]? =some q:=⟨_,List.getElem?_eq_getElem hib⟩
  obtain⟨adx,csx,hax,hFx,-,hlx⟩:=hl.load (by decide) hq
  obtain⟨b0x,a0x,n0x,c0x,b1x,a1x,n1x,c1x,b2x,a2x,n2x,c2x,b3x,a3x,n3x,c3x,rfl,hAx,hVx⟩:=hFx
  obtain⟨ady,csy,hay,hFy,-,hly⟩:=hl.load (by decide) hp
  obtain⟨b0y,a0y,n0y,c0y,b1y,a1y,n1y,c1y,b2y,a2y,n2y,c2y,b3y,a3y,n3y,c3y,rfl,hAy,hVy⟩:=hFy
  conv=>whnf
  refine drawn_of_pi hτ hmix [.x 0,.x 1,.x 2,.x 3,.x 4,.x 5,.x 6,.x 7] (by kernel_rfl) (by kernel_rfl) ?_
  conv=>whnf
  refine⟨adx,hax,⟨by omega,by omega⟩,?_⟩
  conv=>whnf
  refine⟨[.bool b0x,.slice a0x n0x c0x,.bool b1x,.slice a1x n1x c1x],rfl,fun ρ w' r j u hu=>?_,?_⟩
  ·have hj4:=(List.getElem?_eq_some_iff.1 hu).1
   obtain⟨k1,k2⟩:=hlx (0+j) u (by rcases j with _|_|_|_|j<;>first|exact hu|(have:j+4<4:=hj4;omega))
   rw[cell_of_heap (w:=w) (w2:=w') (by simp only[addB];exact(hw.tr r.bel).block _ (hS _ k1))]
   simp only[Int.toNat_natCast,Int.toNat_zero,Nat.zero_mul,addA]at k2 ⊢
   first|exact k2|(rw [←k2];congr 2;omega)
  conv=>whnf
  refine cE hw (Φ:=fun _ w' v w2=>v= .int .i64 (rs (x-q.1))) (fun ρ w' r=>vCmp_c (fun g hg=>by have:=hS g hg;have:=r.baseLe;omega) (hx.v.keep fun g hg=>(hw.tr r.bel).block g (hS g hg)) (hAx.1.v.keep fun g hg=>(hw.tr r.bel).block g (hS g hg))) ?_
  rintro ρ wa11 v11 wb11 iv11 r he hw h_ rfl
  clear r
  obtain⟨cf,hcf⟩:∃c,rs (x-q.1)=c:=⟨_,rfl⟩
  rw[hcf]
  conv=>whnf
  refine BrS.mk (fun hd2=>?_) (fun hd2=>?_)
  ·have hd2:x≤q.1:=by have:=of_decide_eq_true hd2;rw[←rs_le_iff];omega
   rw[interpF_hit hq hd2]at hE
   have hne:q.1-p.1≠0:=by intro h;grind
   have g1:=rl_sub x p.1
   have g2:=rl_sub q.1 p.1
   have g3:=rl_div (x-p.1) hne
   have g4:=rl_sub q.2 p.2
   have g5:=rl_mul ((x-p.1) / (q.1-p.1)) (q.2-p.2)
   have g6:=hAx.2
   have g7:=hAy.2
   have g8:=hVx.2
   have g9:=hVy.2
   conv=>whnf
   refine drawn_of_tg hτ hmix (.x 0 (.x 1 (.x 2 (.x 3 (.x 5 (.x 6 (.x 7 (.ld 4 6144 (.ld 8 4096 (.two 9 (.x 10 (.x 11 (.x 12 .nil))) 10 (.x 9 (.x 11 (.x 12 .nil))))))))))))) (by kernel_rfl) (by kernel_rfl) ?_
   conv=>whnf
   refine⟨(m:Int),by rw[wrap64]<;>omega,?_⟩
   conv=>whnf
   refine⟨ady,hay,⟨by omega,by omega⟩,?_⟩
   conv=>whnf
   refine⟨adx,hax,⟨by omega,by omega⟩,?_⟩
   conv=>whnf
   refine⟨[.bool b0y,.slice a0y n0y c0y,.bool b1y,.slice a1y n1y c1y,.bool b2y,.slice a2y n2y c2y,.bool b3y,.slice a3y n3y c3y],rfl,fun ρ w' r j u hu=>?_,?_⟩
   ·have hj4:=(List.getElem?_eq_some_iff.1 hu).1
    obtain⟨k1,k2⟩:=hly (0+j) u (by rcases j with _|_|_|_|_|_|_|_|j<;>first|exact hu|(have:j+8<8:=hj4;omega))
    rw[cell_of_heap (w:=w) (w2:=w') (by simp only[addB];exact(hw.tr r.bel).block _ (hS _ k1))]
    simp only[Int.toNat_natCast,Int.toNat_zero,Nat.zero_mul,addA]at k2 ⊢
    first|exact k2|(rw [←k2];congr 2;omega)
   conv=>whnf
   refine⟨[.bool b0x,.slice a0x n0x c0x,.bool b1x,.slice a1x n1x c1x,.bool b2x,.slice a2x n2x c2x,.bool b3x,.slice a3x n3x c3x],rfl,fun ρ w' r j u hu=>?_,?_⟩
   ·have hj4:=(List.getElem?_eq_some_iff.1 hu).1
    obtain⟨k1,k2⟩:=hlx (0+j) u (by rcases j with _|_|_|_|_|_|_|_|j<;>first|exact hu|(have:j+8<8:=hj4;omega))
    rw[cell_of_heap (w:=w) (w2:=w') (by simp only[addB];exact(hw.tr r.bel).block _ (hS _ k1))]
    simp only[Int.toNat_natCast,Int.toNat_zero,Nat.zero_mul,addA]at k2 ⊢
    first|exact k2|(rw [←k2];congr 2;omega)
   conv=>whnf
   refine⟨?_,?_⟩
   ·conv=>whnf
    refine⟨[.bool b0x,.slice a0x n0x c0x,.bool b1x,.slice a1x n1x c1x,.bool b2x,.slice a2x n2x c2x,.bool b3x,.slice a3x n3x c3x],rfl,fun ρ w' r j u hu=>?_,?_⟩
    ·have hj4:=(List.getElem?_eq_some_iff.1 hu).1
     obtain⟨k1,k2⟩:=hlx (0+j) u (by rcases j with _|_|_|_|_|_|_|_|j<;>first|exact hu|(have:j+8<8:=hj4;omega))
     rw[cell_of_heap (w:=w) (w2:=w') (by simp only[addB];exact(hw.tr r.bel).block _ (hS _ k1))]
     simp only[Int.toNat_natCast,Int.toNat_zero,Nat.zero_mul,addA]at k2 ⊢
     first|exact k2|(rw [←k2];congr 2;omega)
    conv=>whnf
    refine⟨rfl,?_⟩
    conv=>whnf
    refine⟨[.bool b0y,.slice a0y n0y c0y,.bool b1y,.slice a1y n1y c1y,.bool b2y,.slice a2y n2y c2y,.bool b3y,.slice a3y n3y c3y],rfl,fun ρ w' r j u hu=>?_,?_⟩
    ·have hj4:=(List.getElem?_eq_some_iff.1 hu).1
     obtain⟨k1,k2⟩:=hly (0+j) u (by rcases j with _|_|_|_|_|_|_|_|j<;>first|exact hu|(have:j+8<8:=hj4;omega))
     rw[cell_of_heap (w:=w) (w2:=w') (by simp only[addB];exact(hw.tr r.bel).block _ (hS _ k1))]
     simp only[Int.toNat_natCast,Int.toNat_zero,Nat.zero_mul,addA]at k2 ⊢
     first|exact k2|(rw [←k2];congr 2;omega)
    conv=>whnf
    refine⟨rfl,?_⟩
    conv=>whnf
    refine⟨[.bool b0x,.slice a0x n0x c0x,.bool b1x,.slice a1x n1x c1x,.bool b2x,.slice a2x n2x c2x,.bool b3x,.slice a3x n3x c3x],rfl,fun ρ w' r j u hu=>?_,?_⟩
    ·have hj4:=(List.getElem?_eq_some_iff.1 hu).1
     obtain⟨k1,k2⟩:=hlx (0+j) u (by rcases j with _|_|_|_|_|_|_|_|j<;>first|exact hu|(have:j+8<8:=hj4;omega))
     rw[cell_of_heap (w:=w) (w2:=w') (by simp only[addB];exact(hw.tr r.bel).block _ (hS _ k1))]
     simp only[Int.toNat_natCast,Int.toNat_zero,Nat.zero_mul,addA]at k2 ⊢
     first|exact k2|(rw [←k2];congr 2;omega)
    conv=>whnf
    refine⟨rfl,?_⟩
    conv=>whnf
    refine⟨[.bool b0y,.slice a0y n0y c0y,.bool b1y,.slice a1y n1y c1y,.bool b2y,.slice a2y n2y c2y,.bool b3y,.slice a3y n3y c3y],rfl,fun ρ w' r j u hu=>?_,?_⟩
    ·have hj4:=(List.getElem?_eq_some_iff.1 hu).1
     obtain⟨k1,k2⟩:=hly (0+j) u (by rcases j with _|_|_|_|_|_|_|_|j<;>first|exact hu|(have:j+8<8:=hj4;omega))
     rw[cell_of_heap (w:=w) (w2:=w') (by simp only[addB];exact(hw.tr r.bel).block _ (hS _ k1))]
     simp only[Int.toNat_natCast,Int.toNat_zero,Nat.zero_mul,addA]at k2 ⊢
     first|exact k2|(rw [←k2];congr 2;omega)
    conv=>whnf
    refine⟨rfl,?_⟩
    conv=>whnf
    refine⟨[.bool b0x,.slice a0x n0x c0x,.bool b1x,.slice a1x n1x c1x,.bool b2x,.slice a2x n2x c2x,.bool b3x,.slice a3x n3x c3x],rfl,fun ρ w' r j u hu=>?_,?_⟩
    ·have hj4:=(List.getElem?_eq_some_iff.1 hu).1
     obtain⟨k1,k2⟩:=hlx (0+j) u (by rcases j with _|_|_|_|_|_|_|_|j<;>first|exact hu|(have:j+8<8:=hj4;omega))
     rw[cell_of_heap (w:=w) (w2:=w') (by simp only[addB];exact(hw.tr r.bel).block _ (hS _ k1))]
     simp only[Int.toNat_natCast,Int.toNat_zero,Nat.zero_mul,addA]at k2 ⊢
     first|exact k2|(rw [←k2];congr 2;omega)
    conv=>whnf
    refine⟨rfl,?_⟩
    conv=>whnf
    refine drawn_of_pi hτ hmix [.x 0,.x 1,.x 2,.x 4,.x 5,.x 6,.x 7,.p 10,.x 3,.x 8,.x 9,.x 10,.x 11] (by kernel_rfl) (by kernel_rfl) ?_
    conv=>whnf
    refine cE hw (Φ:=fun _ w' v w2=>RatC w2 (Nw (fun _=>False) w' w2) v (x-p.1)) (fun ρ w' r=>vSub_c (fun g hg=>by have:=hS g hg;have:=r.baseLe;omega) (hx.v.keep fun g hg=>(hw.tr r.bel).block g (hS g hg)) (hAy.1.v.keep fun g hg=>(hw.tr r.bel).block g (hS g hg))) ?_
    rintro ρ wa12 v12 wb12 iv12 r he hw h_ hn
    have hr1:=hn.got (S:=fun _=>False) r.baseLe (mN h_)
    clear r
    obtain⟨s12_0,s12_1,s12_2,s12_3,s12_4,s12_5,s12_6,s12_7,rfl⟩:=hr1.shape
    conv=>whnf
    refine cE hw (Φ:=fun _ w' v w2=>RatC w2 (Nw (fun _=>False) w' w2) v (q.1-p.1)) (fun ρ w' r=>vSub_c (fun g hg=>by have:=hS g hg;have:=r.baseLe;omega) (hAx.1.v.keep fun g hg=>(hw.tr r.bel).block g (hS g hg)) (hAy.1.v.keep fun g hg=>(hw.tr r.bel).block g (hS g hg))) ?_
    rintro ρ wa13 v13 wb13 iv13 r he hw h_ hn
    replace hr1:=hr1.past r (oldF w) he (mC h_)
    have hr2:=hn.got (S:=fun _=>False) r.baseLe (mN h_)
    clear r
    obtain⟨s13_0,s13_1,s13_2,s13_3,s13_4,s13_5,s13_6,s13_7,rfl⟩:=hr2.shape
    conv=>whnf
    refine cE hw (Φ:=fun _ w' v w2=>RatC w2 (Nw (fun _=>False) w' w2) v ((x-p.1) / (q.1-p.1))) (fun ρ w' r=>sQuo_c (Rel.old r (oldF w)) ((hr1.rel r (oldF w)).l (by omega)) ((hr2.rel r (oldF w)).l (by omega)) hne) ?_
    rintro ρ wa14 v14 wb14 iv14 r he hw h_ hn
    clear hr1
    clear hr2
    have hr3:=hn.got (S:=fun _=>False) r.baseLe (mN h_)
    clear r
    obtain⟨s14_0,s14_1,s14_2,s14_3,s14_4,s14_5,s14_6,s14_7,rfl⟩:=hr3.shape
    conv=>whnf
    refine drawn_of_pi hτ hmix [.x 0,.x 1,.x 2,.x 3,.x 4,.x 5,.x 6,.x 7,.x 8,.x 9,.x 10] (by kernel_rfl) (by kernel_rfl) ?_
    conv=>whnf
    refine cE hw (Φ:=fun _ w' v w2=>RatC w2 (Nw (fun _=>False) w' w2) v (q.2-p.2)) (fun ρ w' r=>vSub_c (fun g hg=>by have:=hS g hg;have:=r.baseLe;omega) (hVx.1.v.keep fun g hg=>(hw.tr r.bel).block g (hS g hg)) (hVy.1.v.keep fun g hg=>(hw.tr r.bel).block g (hS g hg))) ?_
    rintro ρ wa15 v15 wb15 iv15 r he hw h_ hn
    replace hr3:=hr3.past r (oldF w) he (mC h_)
    have hr4:=hn.got (S:=fun _=>False) r.baseLe (mN h_)
    clear r
    obtain⟨s15_0,s15_1,s15_2,s15_3,s15_4,s15_5,s15_6,s15_7,rfl⟩:=hr4.shape
    conv=>whnf
    refine cE hw (Φ:=fun _ w' v w2=>RatC w2 (Nw (fun _=>False) w' w2) v ((x-p.1) / (q.1-p.1)*(q.2-p.2))) (fun ρ w' r=>vMul_c (Rel.old r (oldF w)) ((hr3.rel r (oldF w)).v (by omega)) ((hr4.rel r (oldF w)).v (by omega))) ?_
    rintro ρ wa16 v16 wb16 iv16 r he hw h_ hn
    clear hr3
    clear hr4
    have hr5:=hn.got (S:=fun _=>False) r.baseLe (mN h_)
    clear r
    obtain⟨s16_0,s16_1,s16_2,s16_3,s16_4,s16_5,s16_6,s16_7,rfl⟩:=hr5.shape
    conv=>whnf
    refine cE hw (Φ:=fun _ w' v w2=>RatC w2 (Nw (fun _=>False) w' w2) v (p.2+(x-p.1) / (q.1-p.1)*(q.2-p.2))) (fun ρ w' r=>vAdd_c (S:=fun g=>S g∨Cv (fun _=>False) w.heap.size iv16 g) (fun g hg=>hg.elim (fun hg=>by have:=hS g hg;have:=r.baseLe;omega) (Rel.old r (oldF w) g)) (RatV.weak (hVy.1.v.keep fun g hg=>(hw.tr r.bel).block g (hS g hg)) fun g hg=>.inl hg) (((hr5.rel r (oldF w)).v (by omega)).weak fun g hg=>.inr hg)) ?_
    rintro ρ wa17 v17 wb17 iv17 r he hw h_ hn
    clear hr5
    have hn9:=hn.got (S:=fun _=>False) r.baseLe (mN h_)
    clear r
    obtain⟨s17_0,s17_1,s17_2,s17_3,s17_4,s17_5,s17_6,s17_7,rfl⟩:=hn9.shape
    conv=>whnf
    intro ρe we re
    exact⟨_,rfl,hw.tr re.bel,by rw[hE];exact hn9.out re (oldF w)⟩
   ·conv=>whnf
    refine⟨[.bool b0x,.slice a0x n0x c0x,.bool b1x,.slice a1x n1x c1x,.bool b2x,.slice a2x n2x c2x,.bool b3x,.slice a3x n3x c3x],rfl,fun ρ w' r j u hu=>?_,?_⟩
    ·have hj4:=(List.getElem?_eq_some_iff.1 hu).1
     obtain⟨k1,k2⟩:=hlx (0+j) u (by rcases j with _|_|_|_|_|_|_|_|j<;>first|exact hu|(have:j+8<8:=hj4;omega))
     rw[cell_of_heap (w:=w) (w2:=w') (by simp only[addB];exact(hw.tr r.bel).block _ (hS _ k1))]
     simp only[Int.toNat_natCast,Int.toNat_zero,Nat.zero_mul,addA]at k2 ⊢
     first|exact k2|(rw [←k2];congr 2;omega)
    conv=>whnf
    refine⟨rfl,?_⟩
    conv=>whnf
    refine⟨[.bool b0y,.slice a0y n0y c0y,.bool b1y,.slice a1y n1y c1y,.bool b2y,.slice a2y n2y c2y,.bool b3y,.slice a3y n3y c3y],rfl,fun ρ w' r j u hu=>?_,?_⟩
    ·have hj4:=(List.getElem?_eq_some_iff.1 hu).1
     obtain⟨k1,k2⟩:=hly (0+j) u (by rcases j with _|_|_|_|_|_|_|_|j<;>first|exact hu|(have:j+8<8:=hj4;omega))
     rw[cell_of_heap (w:=w) (w2:=w') (by simp only[addB];exact(hw.tr r.bel).block _ (hS _ k1))]
     simp only[Int.toNat_natCast,Int.toNat_zero,Nat.zero_mul,addA]at k2 ⊢
     first|exact k2|(rw [←k2];congr 2;omega)
    conv=>whnf
    refine⟨rfl,?_⟩
    conv=>whnf
    refine⟨[.bool b0x,.slice a0x n0x c0x,.bool b1x,.slice a1x n1x c1x,.bool b2x,.slice a2x n2x c2x,.bool b3x,.slice a3x n3x c3x],rfl,fun ρ w' r j u hu=>?_,?_⟩
    ·have hj4:=(List.getElem?_eq_some_iff.1 hu).1
     obtain⟨k1,k2⟩:=hlx (0+j) u (by rcases j with _|_|_|_|_|_|_|_|j<;>first|exact hu|(have:j+8<8:=hj4;omega))
     rw[cell_of_heap (w:=w) (w2:=w') (by simp only[addB];exact(hw.tr r.bel).block _ (hS _ k1))]
     simp only[Int.toNat_natCast,Int.toNat_zero,Nat.zero_mul,addA]at k2 ⊢
     first|exact k2|(rw [←k2];congr 2;omega)
    conv=>whnf
    refine⟨rfl,?_⟩
    conv=>whnf
    refine⟨[.bool b0y,.slice a0y n0y c0y,.bool b1y,.slice a1y n1y c1y,.bool b2y,.slice a2y n2y c2y,.bool b3y,.slice a3y n3y c3y],rfl,fun ρ w' r j u hu=>?_,?_⟩
    ·have hj4:=(List.getElem?_eq_some_iff.1 hu).1
     obtain⟨k1,k2⟩:=hly (0+j) u (by rcases j with _|_|_|_|_|_|_|_|j<;>first|exact hu|(have:j+8<8:=hj4;omega))
     rw[cell_of_heap (w:=w) (w2:=w') (by simp only[addB];exact(hw.tr r.bel).block _ (hS _ k1))]
     simp only[Int.toNat_natCast,Int.toNat_zero,Nat.zero_mul,addA]at k2 ⊢
     first|exact k2|(rw [←k2];congr 2;omega)
    conv=>whnf
    refine⟨rfl,?_⟩
    conv=>whnf
    refine⟨[.bool b0x,.slice a0x n0x c0x,.bool b1x,.slice a1x n1x c1x,.bool b2x,.slice a2x n2x c2x,.bool b3x,.slice a3x n3x c3x],rfl,fun ρ w' r j u hu=>?_,?_⟩
    ·have hj4:=(List.getElem?_eq_some_iff.1 hu).1
     obtain⟨k1,k2⟩:=hlx (0+j) u (by rcases j with _|_|_|_|_|_|_|_|j<;>first|exact hu|(have:j+8<8:=hj4;omega))
     rw[cell_of_heap (w:=w) (w2:=w') (by simp only[addB];exact(hw.tr r.bel).block _ (hS _ k1))]
     simp only[Int.toNat_natCast,Int.toNat_zero,Nat.zero_mul,addA]at k2 ⊢
     first|exact k2|(rw [←k2];congr 2;omega)
    conv=>whnf
    refine⟨rfl,?_⟩
    conv=>whnf
    refine drawn_of_pi hτ hmix [.x 0,.x 1,.x 2,.x 4,.x 5,.x 6,.x 7,.p 10,.x 3,.x 8,.x 9,.x 10,.x 11] (by kernel_rfl) (by kernel_rfl) ?_
    conv=>whnf
    refine cE hw (Φ:=fun _ w' v w2=>RatC w2 (Nw (fun _=>False) w' w2) v (x-p.1)) (fun ρ w' r=>vSub_c (fun g hg=>by have:=hS g hg;have:=r.baseLe;omega) (hx.v.keep fun g hg=>(hw.tr r.bel).block g (hS g hg)) (hAy.1.v.keep fun g hg=>(hw.tr r.bel).block g (hS g hg))) ?_
    rintro ρ wa12 v12 wb12 iv12 r he hw h_ hn
    have hr1:=hn.got (S:=fun _=>False) r.baseLe (mN h_)
    clear r
    obtain⟨s12_0,s12_1,s12_2,s12_3,s12_4,s12_5,s12_6,s12_7,rfl⟩:=hr1.shape
    conv=>whnf
    refine cE hw (Φ:=fun _ w' v w2=>RatC w2 (Nw (fun _=>False) w' w2) v (q.1-p.1)) (fun ρ w' r=>vSub_c (fun g hg=>by have:=hS g hg;have:=r.baseLe;omega) (hAx.1.v.keep fun g hg=>(hw.tr r.bel).block g (hS g hg)) (hAy.1.v.keep fun g hg=>(hw.tr r.bel).block g (hS g hg))) ?_
    rintro ρ wa13 v13 wb13 iv13 r he hw h_ hn
    replace hr1:=hr1.past r (oldF w) he (mC h_)
    have hr2:=hn.got (S:=fun _=>False) r.baseLe (mN h_)
    clear r
    obtain⟨s13_0,s13_1,s13_2,s13_3,s13_4,s13_5,s13_6,s13_7,rfl⟩:=hr2.shape
    conv=>whnf
    refine cE hw (Φ:=fun _ w' v w2=>RatC w2 (Nw (fun _=>False) w' w2) v ((x-p.1) / (q.1-p.1))) (fun ρ w' r=>sQuo_c (Rel.old r (oldF w)) ((hr1.rel r (oldF w)).l (by omega)) ((hr2.rel r (oldF w)).l (by omega)) hne) ?_
    rintro ρ wa14 v14 wb14 iv14 r he hw h_ hn
    clear hr1
    clear hr2
    have hr3:=hn.got (S:=fun _=>False) r.baseLe (mN h_)
    clear r
    obtain⟨s14_0,s14_1,s14_2,s14_3,s14_4,s14_5,s14_6,s14_7,rfl⟩:=hr3.shape
    conv=>whnf
    refine drawn_of_pi hτ hmix [.x 0,.x 1,.x 2,.x 3,.x 4,.x 5,.x 6,.x 7,.x 8,.x 9,.x 10] (by kernel_rfl) (by kernel_rfl) ?_
    conv=>whnf
    refine cE hw (Φ:=fun _ w' v w2=>RatC w2 (Nw (fun _=>False) w' w2) v (q.2-p.2)) (fun ρ w' r=>vSub_c (fun g hg=>by have:=hS g hg;have:=r.baseLe;omega) (hVx.1.v.keep fun g hg=>(hw.tr r.bel).block g (hS g hg)) (hVy.1.v.keep fun g hg=>(hw.tr r.bel).block g (hS g hg))) ?_
    rintro ρ wa15 v15 wb15 iv15 r he hw h_ hn
    replace hr3:=hr3.past r (oldF w) he (mC h_)
    have hr4:=hn.got (S:=fun _=>False) r.baseLe (mN h_)
    clear r
    obtain⟨s15_0,s15_1,s15_2,s15_3,s15_4,s15_5,s15_6,s15_7,rfl⟩:=hr4.shape
    conv=>whnf
    refine cE hw (Φ:=fun _ w' v w2=>RatC w2 (Nw (fun _=>False) w' w2) v ((x-p.1) / (q.1-p.1)*(q.2-p.2))) (fun ρ w' r=>vMul_c (Rel.old r (oldF w)) ((hr3.rel r (oldF w)).v (by omega)) ((hr4.rel r (oldF w)).v (by omega))) ?_
    rintro ρ wa16 v16 wb16 iv16 r he hw h_ hn
    clear hr3
    clear hr4
    have hr5:=hn.got (S:=fun _=>False) r.baseLe (mN h_)
    clear r
    obtain⟨s16_0,s16_1,s16_2,s16_3,s16_4,s16_5,s16_6,s16_7,rfl⟩:=hr5.shape
    conv=>whnf
    refine cE hw (Φ:=fun _ w' v w2=>RatC w2 (Nw (fun _=>False) w' w2) v (p.2+(x-p.1) / (q.1-p.1)*(q.2-p.2))) (fun ρ w' r=>vAdd_c (S:=fun g=>S g∨Cv (fun _=>False) w.heap.size iv16 g) (fun g hg=>hg.elim (fun hg=>by have:=hS g hg;have:=r.baseLe;omega) (Rel.old r (oldF w) g)) (RatV.weak (hVy.1.v.keep fun g hg=>(hw.tr r.bel).block g (hS g hg)) fun g hg=>.inl hg) (((hr5.rel r (oldF w)).v (by omega)).weak fun g hg=>.inr hg)) ?_
    rintro ρ wa17 v17 wb17 iv17 r he hw h_ hn
    clear hr5
    have hn9:=hn.got (S:=fun _=>False) r.baseLe (mN h_)
    clear r
    obtain⟨s17_0,s17_1,s17_2,s17_3,s17_4,s17_5,s17_6,s17_7,rfl⟩:=hn9.shape
    conv=>whnf
    intro ρe we re
    exact⟨_,rfl,hw.tr re.bel,by rw[hE];exact hn9.out re (oldF w)⟩
  ·have hd2:¬x≤q.1:=by have:=of_decide_eq_false hd2;rw[←rs_le_iff];omega
   rw[interpF_miss hq hd2]at hE
   conv=>whnf
   refine⟨((i+1:Nat):Int),by rw[wrap64]<;>omega,?_⟩
   conv=>whnf
   intro ρ3 w6 r3
   exact⟨(i+1,w6,_),⟨⟨by dsimp only;omega,hib⟩,hw.tr r3.bel,fun p2 hp2=>by dsimp only at hp2 ⊢;rw[Nat.add_sub_cancel,hq]at hp2;injection hp2 with hp2;subst hp2;exact⟨Rat.not_le.1 hd2,hE⟩⟩,Sub.gen [] r3 ⟨rfl,rfl,trivial⟩ ⟨rfl,rfl,rfl,rfl,trivial⟩ (by simp[ScH,Blk.scopd,At.sc]) (by simp[ScE,SV.sc,At.sc,initE]) (by rfl) (fun lo hi h=>h),by dsimp only;omega⟩
 have hib:i=l.length:=Nat.le_antisymm hi (by simpa using hib)
 rw[hib,interpF_end]at hE
 obtain⟨ady,csy,hay,hFy,-,hly⟩:=hl.load (by decide) hp
 obtain⟨b0y,a0y,n0y,c0y,b1y,a1y,n1y,c1y,b2y,a2y,n2y,c2y,b3y,a3y,n3y,c3y,rfl,hAy,hVy⟩:=hFy
 conv=>whnf
 refine⟨(m:Int),by rw[wrap64]<;>omega,?_⟩
 conv=>whnf
 refine⟨ady,hay,⟨by omega,by omega⟩,?_⟩
 conv=>whnf
 refine⟨[.bool b2y,.slice a2y n2y c2y,.bool b3y,.slice a3y n3y c3y],rfl,fun ρ w' r j u hu=>?_,?_⟩
 ·have hj4:=(List.getElem?_eq_some_iff.1 hu).1
  obtain⟨k1,k2⟩:=hly (4+j) u (by rcases j with _|_|_|_|j<;>first|exact hu|(have:j+4<4:=hj4;omega))
  rw[cell_of_heap (w:=w) (w2:=w') (by simp only[addB];exact(hw.tr r.bel).block _ (hS _ k1))]
  simp only[Int.toNat_natCast,Int.toNat_zero,Nat.zero_mul,addA]at k2 ⊢
  first|exact k2|(rw [←k2];congr 2;omega)
 conv=>whnf
 refine callE_S (cE hw (Φ:=fun _ w' v w2=>RatC w2 (Nw (fun _=>False) w' w2) v (p.2)) (fun ρ w' r=>vNormal_c (fun g hg=>by have:=hS g hg;have:=r.baseLe;omega) (hVy.1.v.keep fun g hg=>(hw.tr r.bel).block g (hS g hg))) ?_)
 rintro ρ wa41 v41 wb41 iv41 r he hw h_ hn
 have hn9:=hn.got (S:=fun _=>False) r.baseLe (mN h_)
 clear r
 obtain⟨s41_0,s41_1,s41_2,s41_3,s41_4,s41_5,s41_6,s41_7,rfl⟩:=hn9.shape
 conv=>whnf
 intro ρe we re
 exact⟨_,rfl,hw.tr re.bel,by rw[hE];exact hn9.out re (oldF w)⟩
theorem errT_zero{l:List (Rat×Rat)}(h:errT l=0):l≠[]∧l.length≤100:=by
 unfold errT at h
 split at h<;>rename_i h1
 ·cases h
 ·split at h<;>rename_i h2
  ·cases h
  ·exact⟨fun e=>h1 (by rw[e];rfl),by omega⟩
end Go.Ex
