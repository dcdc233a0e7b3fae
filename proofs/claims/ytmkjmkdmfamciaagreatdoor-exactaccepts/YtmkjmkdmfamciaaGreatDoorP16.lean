/- A part of the proof: texts X87 to X92. Each tells its conditions in its theorems. -/
import Derived.Test.YtmkjmkdmfamciaaGreatDoorP14
import Derived.Test.YtmkjmkdmfamciaaGreatDoorP15
/- Wider of the reference. Printed by program. No condition but sizes. -/
namespace Go.Ex
open Go Go.Sx Go.Proofs

theorem RowsV.weak{S S':Nat→Prop}{w:World}{rv:List Value}{K:List (List Rat)}(h:RowsV w S rv K)(hk:∀g,S g→S' g):RowsV w S' rv K:=⟨h.1,h.2.1,fun i u x h1 h2=>RatsL.weak (h.2.2 i u x h1 h2) hk⟩
theorem RowsV.push{S:Nat→Prop}{w:World}{rv:List Value}{K:List (List Rat)}{u:Value}{x:List Rat}(h:RowsV w S rv K)(hu:u.oneCell'=true)(hx:RatsL w S u x):RowsV w S (rv++[u]) (K++[x]):=by
 refine⟨by simp[h.1],fun v hv=>?_,fun i v y h1 h2=>?_⟩
 ·rcases List.mem_append.1 hv with hv|hv
  ·exact h.2.1 v hv
  ·simp at hv;subst hv;exact hu
 ·rcases Nat.lt_or_ge i rv.length with hi|hi
  ·rw[List.getElem?_append_left hi]at h1
   rw[List.getElem?_append_left (by rw[←h.1];exact hi)]at h2
   exact h.2.2 i v y h1 h2
  ·have hi0:i=rv.length:=by have:=(List.getElem?_eq_some_iff.1 h1).1;simp at this;omega
   subst hi0
   rw[List.getElem?_append_right (Nat.le_refl _),Nat.sub_self]at h1
   rw[h.1,List.getElem?_append_right (Nat.le_refl _),Nat.sub_self]at h2
   simp at h1 h2
   subst h1 h2
   exact hx
theorem rWider_c{S:Nat→Prop}{w:World}{v u:Value}{M:List (List Rat)}{b:List Rat}(hS:Old S w)(h:RatML w S v M)(hu:RatsL w S u b)(hbl:b.length=M.length)(hrow:∀r∈M,r.length≤1000)(hR:M.length≤1000):
  Con PG N.ref01_Wider #[v,u] w (Ret w fun v' w2=>RatML w2 (Nw S w w2) v' (widerF M b)):=by
 have hw:Bel w.heap.size w w:=Bel.refl
 replace h:=RatML.arg h []
 replace hu:=RatsL.arg hu []
 obtain⟨am,cm,rfl,hcm,-⟩:=SlicesR.shape h
 obtain⟨ab,cb,rfl,hcb,-⟩:=ListR.shape hu
 refine in_ref01_Wider (by simp) ?_
 conv=>whnf
 refine⟨Nat×List Value×World×Iv,fun z=>⟨[(0,.o (.v (.slice am M.length cm))),(1,.o (.v (.slice ab b.length cb))),(5,.o (.w 0 z.2.1.length)),(6,.o (.v (.int .i64 ((z.1:Nat):Int))))],[(0,.vec T.LRat 1 z.2.1)],1,z.2.2.2,z.2.2.1⟩,fun z=>M.length-z.1,
  fun z=>z.1≤M.length∧Bel w.heap.size w z.2.2.1∧RatML z.2.2.1 (Cv S w.heap.size z.2.2.2) (.slice am M.length cm) M∧RatsL z.2.2.1 (Cv S w.heap.size z.2.2.2) (.slice ab b.length cb) b∧RowsV z.2.2.1 (Cv S w.heap.size z.2.2.2) z.2.1 ((widerF M b).take z.1),?_,?_⟩
 ·intro ρ w' r
  exact⟨(0,[],w',[]),⟨Nat.zero_le _,hw.tr r.bel,RatML.rel h r hS,RatsL.rel hu r hS,by simp[RowsV]⟩,Sub.nil 5 T.LRat 1 rfl (by simp[ScE,SV.sc,At.sc,initE]) r fun ρ1 r1=>
   Sub.gen [] r1 ⟨rfl,trivial⟩ ⟨rfl,rfl,rfl,rfl,trivial⟩ (by simp[ScH,Blk.scopd]) (by simp[ScE,SV.sc,At.sc]) (by rfl) (fun lo hi h=>h)⟩
 clear hw h hu
 rintro⟨i,rv,w1,iv⟩ ⟨hi,hw,h,hu,hK⟩
 dsimp only at hi hw h hu hK ⊢
 have hrl:rv.length=i:=by rw[hK.1,List.length_take,widerF_length];omega
 conv=>whnf
 refine BrS.mk (fun hib=>?_) (fun hib=>?_)
 ·have hib:i<M.length:=by simpa using hib
  obtain⟨x,hx⟩:∃r,M[i]? =some r:=⟨_,List.getElem?_eq_getElem hib⟩
  have hxl:=hrow x (List.mem_of_getElem? hx)
  obtain⟨q,hq⟩:∃r,b[i]? =some r:=⟨_,List.getElem?_eq_getElem (by omega)⟩
  have hqd:b.getD i 0=q:=by rw[List.getD,hq];rfl
  have hnext:(widerF M b).take (i+1)=(widerF M b).take i++[x++[q]]:=by
   rw[List.take_add_one,show(widerF M b)[i]? =some (x++[q]) by rw[widerF,List.getElem?_mapIdx,hx,←hqd];rfl]
   rfl
  obtain⟨adm,um,ham,hRm,km1,km2⟩:=SlicesR.load h hx
  obtain⟨css,⟨-,g1,g2,a0,c0,rfl,g4,g5⟩,hcl,hc4,hcs⟩:=hRm
  have hfl:=flat_len hc4
  obtain⟨adq,cs,haq,hF,_,hl⟩:=ListR.load hu hq
  obtain⟨b3,a3,n3,c3,b4,a4,n4,c4,rfl,hF⟩:=hF
  have hlen5:([]++css.flatten++([.bool b3,.slice a3 n3 c3,.bool b4,.slice a4 n4 c4]:List Value)).length=(x.length+1)*4:=by rw[List.nil_append,List.length_append,g1];simp;omega
  have hone5:∀u∈[]++css.flatten++([.bool b3,.slice a3 n3 c3,.bool b4,.slice a4 n4 c4]:List Value),u.oneCell'=true:=fun u hu=>by
   rw[List.nil_append]at hu
   rcases List.mem_append.1 hu with hu|hu
   ·exact g2 u hu
   ·simp at hu
    rcases hu with rfl|rfl|rfl|rfl<;>rfl
  have hrow5:∀{H nx ρ w' g c iv2},Rel H nx iv w.heap.size w1 ρ w'→w.heap.size≤g→SeqR w' (fun y=>y=g) 4 (.slice (some ⟨g,0,none⟩) (x.length+1) c) ([]++css.flatten++([.bool b3,.slice a3 n3 c3,.bool b4,.slice a4 n4 c4]:List Value)) (x.length+1)→(g,g+1)∈iv2::iv→
    RatsL w' (Cv S w.heap.size (iv2::iv)) (.slice (some ⟨g,0,none⟩) (x.length+1) c) (x++[q]):=by
   intro H nx ρ w' g c iv2 r hg hs hm
   have hk:∀y,Cv S w.heap.size iv y→Cv S w.heap.size (iv2::iv) y:=fun y hy=>hy.mono fun p hp=>List.mem_cons_of_mem _ hp
   refine⟨css++[[.bool b3,.slice a3 n3 c3,.bool b4,.slice a4 n4 c4]],?_,by simp[hcl],fun cs hc=>?_,fun j cs y k1 k2=>?_⟩
   ·rw[List.nil_append]at hs
    rw[List.length_append,List.length_singleton,List.flatten_append]
    simp only[List.flatten_cons,List.flatten_nil,List.append_nil]
    exact hs.weak fun y hy=>.inr ⟨by omega,g,g+1,hm,by omega,by omega⟩
   ·rcases List.mem_append.1 hc with hc|hc
    ·exact hc4 cs hc
    ·rw[List.mem_singleton.1 hc];rfl
   ·rcases Nat.lt_or_ge j css.length with hj|hj
    ·rw[List.getElem?_append_left hj]at k1
     rw[List.getElem?_append_left (by omega)]at k2
     exact((hcs j cs y k1 k2).keep fun y hy=>Rel.same r hS hy).weak hk
    ·have hj0:j=css.length:=by have:=(List.getElem?_eq_some_iff.1 k1).1;simp at this;omega
     rw[hj0,List.getElem?_append_right (Nat.le_refl _),Nat.sub_self]at k1
     rw[hj0,hcl,List.getElem?_append_right (Nat.le_refl _),Nat.sub_self]at k2
     simp at k1 k2
     rw[←k1,←k2]
     exact⟨_,_,_,_,_,_,_,_,rfl,(hF.keep fun y hy=>Rel.same r hS hy).weak hk⟩
  conv=>whnf
  refine drawn_of_tp hτ hmix (.x 0 (.x 2 (.x 3 (.x 4 (.x 5 (.x 7 (.x 8 (.x 9 (.two 1 (.two 6 (.x 10 (.x 11 (.x 12 (.give 4 (.x 13 (.x 14 (.x 15 .nil))))))) 10 (.two 6 (.x 11 (.x 12 (.give 4 (.x 13 (.x 14 (.x 15 .nil)))))) 11 (.x 6 (.x 12 (.give 4 (.x 13 (.x 14 (.x 15 .nil)))))))) 10 (.two 1 (.two 6 (.x 11 (.x 12 (.give 4 (.x 13 (.x 14 (.x 15 .nil)))))) 11 (.x 6 (.x 12 (.give 4 (.x 13 (.x 14 (.x 15 .nil))))))) 11 (.x 1 (.x 6 (.x 12 (.give 4 (.x 13 (.x 14 (.x 15 .nil))))))))))))))))) (by kernel_rfl) (by kernel_rfl) ?_
  conv=>whnf
  refine⟨adm,ham,⟨by omega,by omega⟩,?_⟩
  conv=>whnf
  refine⟨.slice a0 x.length c0,fun ρ w' r=>?_,?_⟩
  ·rw[Int.toNat_natCast,cell_of_heap (w:=w1) (w2:=w') (by rw[addB];exact Rel.same r hS km1)]
   exact km2
  conv=>whnf
  refine⟨adq,haq,⟨by omega,by omega⟩,?_⟩
  conv=>whnf
  refine⟨?_,?_⟩
  ·conv=>whnf
   refine⟨?_,?_⟩
   ·conv=>whnf
    refine .inl ?_
    conv=>whnf
    refine⟨css.flatten,g1,g2,fun ρ w' r hpos=>?_,?_⟩
    ·obtain⟨u0,hu0⟩:∃u,css.flatten[0]? =some u:=⟨_,List.getElem?_eq_getElem (by omega)⟩
     obtain⟨ad,ha,_,_⟩:=g5 0 u0 hu0
     refine⟨ad,ha,fun j u hj=>?_⟩
     obtain⟨ad2,ha2,q1,q2⟩:=g5 j u hj
     rw[ha]at ha2
     injection ha2 with ha2
     subst ha2
     rw[cell_of_heap (w:=w1) (w2:=w') (by rw[addB];exact Rel.same r hS q1)]
     exact q2
    conv=>whnf
    refine⟨rfl,by omega,by unfold maxLen;omega,?_⟩
    conv=>whnf
    rw[Nat.zero_add x.length]
    refine⟨[.bool b3,.slice a3 n3 c3,.bool b4,.slice a4 n4 c4],rfl,fun ρ w' r j u hu=>?_,?_⟩
    ·obtain⟨k1,k2⟩:=hl j u hu
     rw[Int.toNat_natCast,cell_of_heap (w:=w1) (w2:=w') (by rw[addB,addB];exact Rel.same r hS k1)]
     exact k2
    conv=>whnf
    refine .inl ?_
    conv=>whnf
    refine⟨by rw[←g1];rfl,by omega,by unfold maxLen;omega,?_⟩
    conv=>whnf
    refine⟨[(0,.vec T.LRat 1 rv)],_,rfl,by simp,⟨rfl,trivial⟩,rfl,fun ρ w' r=>?_⟩
    have hv:=vecGive r (id:=4) (sz:=4) (m:=x.length+1) rfl hlen5 (by unfold maxLen;omega) (by decide) (by omega) hone5
    refine⟨hv.1,_,give_env (tl:=[(13,.o (.w 0 rv.length)),(0,.o (.v (.slice am M.length cm))),(1,.o (.v (.slice ab b.length cb))),(6,.o (.v (.int .i64 ((i:Nat):Int))))]) hv.1 (t:=25) (n:=x.length+1) rfl ⟨rfl,rfl,rfl,rfl,trivial⟩ (by simp[ScE,SV.sc,At.sc]),?_⟩
    have hnew:=hrow5 r hv.2.1 hv.2.2 List.mem_cons_self
    replace hK:=(RowsV.weak (hK.rel r hS) (fun g hg=>hg.mono fun p hp=>List.mem_cons_of_mem _ hp)).push rfl hnew
    replace h:=RatML.weak (RatML.rel h r hS) fun g hg=>hg.mono fun p hp=>List.mem_cons_of_mem ((ρ 4).g,(ρ 4).g+1) hp
    replace hu:=RatsL.weak (RatsL.rel hu r hS) fun g hg=>hg.mono fun p hp=>List.mem_cons_of_mem ((ρ 4).g,(ρ 4).g+1) hp
    rw[←hnext]at hK
    replace hw:=hw.tr r.bel
    clear hv hnew r hrow5
    generalize (ρ 4).g=gx at*
    generalize (ρ 4).cap=cx at*
    generalize (gx,gx+1)::iv=iv2 at*
    conv=>whnf
    refine .inl ?_
    conv=>whnf
    refine⟨by simp,by omega,by unfold maxLen;omega,?_⟩
    conv=>whnf
    refine⟨((i+1:Nat):Int),by rw[wrap64]<;>omega,?_⟩
    conv=>whnf
    intro ρ3 w3 r3
    exact⟨(i+1,rv++[.slice (some ⟨gx,0,none⟩) (x.length+1) cx],w3,_),⟨hib,hw.tr r3.bel,RatML.rel h r3 hS,RatsL.rel hu r3 hS,hK.rel r3 hS⟩,Sub.gen [(0,6)] r3 ⟨rfl,trivial⟩ ⟨rfl,rfl,by dsimp only;rw[List.length_append,List.length_singleton];rfl,rfl,trivial⟩ (by simp[ScH,Blk.scopd]) (by simp[ScE,SV.sc,At.sc]) (by rfl) (fun lo hi h=>h),by dsimp only;omega⟩
   ·conv=>whnf
    refine⟨[.bool b3,.slice a3 n3 c3,.bool b4,.slice a4 n4 c4],rfl,fun ρ w' r j u hu=>?_,?_⟩
    ·obtain⟨k1,k2⟩:=hl j u hu
     rw[Int.toNat_natCast,cell_of_heap (w:=w1) (w2:=w') (by rw[addB,addB];exact Rel.same r hS k1)]
     exact k2
    conv=>whnf
    refine⟨?_,?_⟩
    ·conv=>whnf
     refine .inl ?_
     conv=>whnf
     refine⟨css.flatten,g1,g2,fun ρ w' r hpos=>?_,?_⟩
     ·obtain⟨u0,hu0⟩:∃u,css.flatten[0]? =some u:=⟨_,List.getElem?_eq_getElem (by omega)⟩
      obtain⟨ad,ha,_,_⟩:=g5 0 u0 hu0
      refine⟨ad,ha,fun j u hj=>?_⟩
      obtain⟨ad2,ha2,q1,q2⟩:=g5 j u hj
      rw[ha]at ha2
      injection ha2 with ha2
      subst ha2
      rw[cell_of_heap (w:=w1) (w2:=w') (by rw[addB];exact Rel.same r hS q1)]
      exact q2
     conv=>whnf
     refine⟨rfl,by omega,by unfold maxLen;omega,?_⟩
     conv=>whnf
     rw[Nat.zero_add x.length]
     refine .inl ?_
     conv=>whnf
     refine⟨by rw[←g1];rfl,by omega,by unfold maxLen;omega,?_⟩
     conv=>whnf
     refine⟨[(0,.vec T.LRat 1 rv)],_,rfl,by simp,⟨rfl,trivial⟩,rfl,fun ρ w' r=>?_⟩
     have hv:=vecGive r (id:=4) (sz:=4) (m:=x.length+1) rfl hlen5 (by unfold maxLen;omega) (by decide) (by omega) hone5
     refine⟨hv.1,_,give_env (tl:=[(13,.o (.w 0 rv.length)),(0,.o (.v (.slice am M.length cm))),(1,.o (.v (.slice ab b.length cb))),(6,.o (.v (.int .i64 ((i:Nat):Int))))]) hv.1 (t:=25) (n:=x.length+1) rfl ⟨rfl,rfl,rfl,rfl,trivial⟩ (by simp[ScE,SV.sc,At.sc]),?_⟩
     have hnew:=hrow5 r hv.2.1 hv.2.2 List.mem_cons_self
     replace hK:=(RowsV.weak (hK.rel r hS) (fun g hg=>hg.mono fun p hp=>List.mem_cons_of_mem _ hp)).push rfl hnew
     replace h:=RatML.weak (RatML.rel h r hS) fun g hg=>hg.mono fun p hp=>List.mem_cons_of_mem ((ρ 4).g,(ρ 4).g+1) hp
     replace hu:=RatsL.weak (RatsL.rel hu r hS) fun g hg=>hg.mono fun p hp=>List.mem_cons_of_mem ((ρ 4).g,(ρ 4).g+1) hp
     rw[←hnext]at hK
     replace hw:=hw.tr r.bel
     clear hv hnew r hrow5
     generalize (ρ 4).g=gx at*
     generalize (ρ 4).cap=cx at*
     generalize (gx,gx+1)::iv=iv2 at*
     conv=>whnf
     refine .inl ?_
     conv=>whnf
     refine⟨by simp,by omega,by unfold maxLen;omega,?_⟩
     conv=>whnf
     refine⟨((i+1:Nat):Int),by rw[wrap64]<;>omega,?_⟩
     conv=>whnf
     intro ρ3 w3 r3
     exact⟨(i+1,rv++[.slice (some ⟨gx,0,none⟩) (x.length+1) cx],w3,_),⟨hib,hw.tr r3.bel,RatML.rel h r3 hS,RatsL.rel hu r3 hS,hK.rel r3 hS⟩,Sub.gen [(0,6)] r3 ⟨rfl,trivial⟩ ⟨rfl,rfl,by dsimp only;rw[List.length_append,List.length_singleton];rfl,rfl,trivial⟩ (by simp[ScH,Blk.scopd]) (by simp[ScE,SV.sc,At.sc]) (by rfl) (fun lo hi h=>h),by dsimp only;omega⟩
    ·conv=>whnf
     refine .inl ?_
     conv=>whnf
     refine⟨css.flatten,g1,g2,fun ρ w' r hpos=>?_,?_⟩
     ·obtain⟨u0,hu0⟩:∃u,css.flatten[0]? =some u:=⟨_,List.getElem?_eq_getElem (by omega)⟩
      obtain⟨ad,ha,_,_⟩:=g5 0 u0 hu0
      refine⟨ad,ha,fun j u hj=>?_⟩
      obtain⟨ad2,ha2,q1,q2⟩:=g5 j u hj
      rw[ha]at ha2
      injection ha2 with ha2
      subst ha2
      rw[cell_of_heap (w:=w1) (w2:=w') (by rw[addB];exact Rel.same r hS q1)]
      exact q2
     conv=>whnf
     refine⟨rfl,by omega,by unfold maxLen;omega,?_⟩
     conv=>whnf
     rw[Nat.zero_add x.length]
     refine .inl ?_
     conv=>whnf
     refine⟨by rw[←g1];rfl,by omega,by unfold maxLen;omega,?_⟩
     conv=>whnf
     refine⟨[(0,.vec T.LRat 1 rv)],_,rfl,by simp,⟨rfl,trivial⟩,rfl,fun ρ w' r=>?_⟩
     have hv:=vecGive r (id:=4) (sz:=4) (m:=x.length+1) rfl hlen5 (by unfold maxLen;omega) (by decide) (by omega) hone5
     refine⟨hv.1,_,give_env (tl:=[(13,.o (.w 0 rv.length)),(0,.o (.v (.slice am M.length cm))),(1,.o (.v (.slice ab b.length cb))),(6,.o (.v (.int .i64 ((i:Nat):Int))))]) hv.1 (t:=25) (n:=x.length+1) rfl ⟨rfl,rfl,rfl,rfl,trivial⟩ (by simp[ScE,SV.sc,At.sc]),?_⟩
     have hnew:=hrow5 r hv.2.1 hv.2.2 List.mem_cons_self
     replace hK:=(RowsV.weak (hK.rel r hS) (fun g hg=>hg.mono fun p hp=>List.mem_cons_of_mem _ hp)).push rfl hnew
     replace h:=RatML.weak (RatML.rel h r hS) fun g hg=>hg.mono fun p hp=>List.mem_cons_of_mem ((ρ 4).g,(ρ 4).g+1) hp
     replace hu:=RatsL.weak (RatsL.rel hu r hS) fun g hg=>hg.mono fun p hp=>List.mem_cons_of_mem ((ρ 4).g,(ρ 4).g+1) hp
     rw[←hnext]at hK
     replace hw:=hw.tr r.bel
     clear hv hnew r hrow5
     generalize (ρ 4).g=gx at*
     generalize (ρ 4).cap=cx at*
     generalize (gx,gx+1)::iv=iv2 at*
     conv=>whnf
     refine .inl ?_
     conv=>whnf
     refine⟨by simp,by omega,by unfold maxLen;omega,?_⟩
     conv=>whnf
     refine⟨((i+1:Nat):Int),by rw[wrap64]<;>omega,?_⟩
     conv=>whnf
     intro ρ3 w3 r3
     exact⟨(i+1,rv++[.slice (some ⟨gx,0,none⟩) (x.length+1) cx],w3,_),⟨hib,hw.tr r3.bel,RatML.rel h r3 hS,RatsL.rel hu r3 hS,hK.rel r3 hS⟩,Sub.gen [(0,6)] r3 ⟨rfl,trivial⟩ ⟨rfl,rfl,by dsimp only;rw[List.length_append,List.length_singleton];rfl,rfl,trivial⟩ (by simp[ScH,Blk.scopd]) (by simp[ScE,SV.sc,At.sc]) (by rfl) (fun lo hi h=>h),by dsimp only;omega⟩
  ·conv=>whnf
   refine⟨[.bool b3,.slice a3 n3 c3,.bool b4,.slice a4 n4 c4],rfl,fun ρ w' r j u hu=>?_,?_⟩
   ·obtain⟨k1,k2⟩:=hl j u hu
    rw[Int.toNat_natCast,cell_of_heap (w:=w1) (w2:=w') (by rw[addB,addB];exact Rel.same r hS k1)]
    exact k2
   conv=>whnf
   refine⟨?_,?_⟩
   ·conv=>whnf
    refine⟨?_,?_⟩
    ·conv=>whnf
     refine .inl ?_
     conv=>whnf
     refine⟨css.flatten,g1,g2,fun ρ w' r hpos=>?_,?_⟩
     ·obtain⟨u0,hu0⟩:∃u,css.flatten[0]? =some u:=⟨_,List.getElem?_eq_getElem (by omega)⟩
      obtain⟨ad,ha,_,_⟩:=g5 0 u0 hu0
      refine⟨ad,ha,fun j u hj=>?_⟩
      obtain⟨ad2,ha2,q1,q2⟩:=g5 j u hj
      rw[ha]at ha2
      injection ha2 with ha2
      subst ha2
      rw[cell_of_heap (w:=w1) (w2:=w') (by rw[addB];exact Rel.same r hS q1)]
      exact q2
     conv=>whnf
     refine⟨rfl,by omega,by unfold maxLen;omega,?_⟩
     conv=>whnf
     rw[Nat.zero_add x.length]
     refine .inl ?_
     conv=>whnf
     refine⟨by rw[←g1];rfl,by omega,by unfold maxLen;omega,?_⟩
     conv=>whnf
     refine⟨[(0,.vec T.LRat 1 rv)],_,rfl,by simp,⟨rfl,trivial⟩,rfl,fun ρ w' r=>?_⟩
     have hv:=vecGive r (id:=4) (sz:=4) (m:=x.length+1) rfl hlen5 (by unfold maxLen;omega) (by decide) (by omega) hone5
     refine⟨hv.1,_,give_env (tl:=[(13,.o (.w 0 rv.length)),(0,.o (.v (.slice am M.length cm))),(1,.o (.v (.slice ab b.length cb))),(6,.o (.v (.int .i64 ((i:Nat):Int))))]) hv.1 (t:=25) (n:=x.length+1) rfl ⟨rfl,rfl,rfl,rfl,trivial⟩ (by simp[ScE,SV.sc,At.sc]),?_⟩
     have hnew:=hrow5 r hv.2.1 hv.2.2 List.mem_cons_self
     replace hK:=(RowsV.weak (hK.rel r hS) (fun g hg=>hg.mono fun p hp=>List.mem_cons_of_mem _ hp)).push rfl hnew
     replace h:=RatML.weak (RatML.rel h r hS) fun g hg=>hg.mono fun p hp=>List.mem_cons_of_mem ((ρ 4).g,(ρ 4).g+1) hp
     replace hu:=RatsL.weak (RatsL.rel hu r hS) fun g hg=>hg.mono fun p hp=>List.mem_cons_of_mem ((ρ 4).g,(ρ 4).g+1) hp
     rw[←hnext]at hK
     replace hw:=hw.tr r.bel
     clear hv hnew r hrow5
     generalize (ρ 4).g=gx at*
     generalize (ρ 4).cap=cx at*
     generalize (gx,gx+1)::iv=iv2 at*
     conv=>whnf
     refine .inl ?_
     conv=>whnf
     refine⟨by simp,by omega,by unfold maxLen;omega,?_⟩
     conv=>whnf
     refine⟨((i+1:Nat):Int),by rw[wrap64]<;>omega,?_⟩
     conv=>whnf
     intro ρ3 w3 r3
     exact⟨(i+1,rv++[.slice (some ⟨gx,0,none⟩) (x.length+1) cx],w3,_),⟨hib,hw.tr r3.bel,RatML.rel h r3 hS,RatsL.rel hu r3 hS,hK.rel r3 hS⟩,Sub.gen [(0,6)] r3 ⟨rfl,trivial⟩ ⟨rfl,rfl,by dsimp only;rw[List.length_append,List.length_singleton];rfl,rfl,trivial⟩ (by simp[ScH,Blk.scopd]) (by simp[ScE,SV.sc,At.sc]) (by rfl) (fun lo hi h=>h),by dsimp only;omega⟩
    ·conv=>whnf
     refine .inl ?_
     conv=>whnf
     refine⟨css.flatten,g1,g2,fun ρ w' r hpos=>?_,?_⟩
     ·obtain⟨u0,hu0⟩:∃u,css.flatten[0]? =some u:=⟨_,List.getElem?_eq_getElem (by omega)⟩
      obtain⟨ad,ha,_,_⟩:=g5 0 u0 hu0
      refine⟨ad,ha,fun j u hj=>?_⟩
      obtain⟨ad2,ha2,q1,q2⟩:=g5 j u hj
      rw[ha]at ha2
      injection ha2 with ha2
      subst ha2
      rw[cell_of_heap (w:=w1) (w2:=w') (by rw[addB];exact Rel.same r hS q1)]
      exact q2
     conv=>whnf
     refine⟨rfl,by omega,by unfold maxLen;omega,?_⟩
     conv=>whnf
     rw[Nat.zero_add x.length]
     refine .inl ?_
     conv=>whnf
     refine⟨by rw[←g1];rfl,by omega,by unfold maxLen;omega,?_⟩
     conv=>whnf
     refine⟨[(0,.vec T.LRat 1 rv)],_,rfl,by simp,⟨rfl,trivial⟩,rfl,fun ρ w' r=>?_⟩
     have hv:=vecGive r (id:=4) (sz:=4) (m:=x.length+1) rfl hlen5 (by unfold maxLen;omega) (by decide) (by omega) hone5
     refine⟨hv.1,_,give_env (tl:=[(13,.o (.w 0 rv.length)),(0,.o (.v (.slice am M.length cm))),(1,.o (.v (.slice ab b.length cb))),(6,.o (.v (.int .i64 ((i:Nat):Int))))]) hv.1 (t:=25) (n:=x.length+1) rfl ⟨rfl,rfl,rfl,rfl,trivial⟩ (by simp[ScE,SV.sc,At.sc]),?_⟩
     have hnew:=hrow5 r hv.2.1 hv.2.2 List.mem_cons_self
     replace hK:=(RowsV.weak (hK.rel r hS) (fun g hg=>hg.mono fun p hp=>List.mem_cons_of_mem _ hp)).push rfl hnew
     replace h:=RatML.weak (RatML.rel h r hS) fun g hg=>hg.mono fun p hp=>List.mem_cons_of_mem ((ρ 4).g,(ρ 4).g+1) hp
     replace hu:=RatsL.weak (RatsL.rel hu r hS) fun g hg=>hg.mono fun p hp=>List.mem_cons_of_mem ((ρ 4).g,(ρ 4).g+1) hp
     rw[←hnext]at hK
     replace hw:=hw.tr r.bel
     clear hv hnew r hrow5
     generalize (ρ 4).g=gx at*
     generalize (ρ 4).cap=cx at*
     generalize (gx,gx+1)::iv=iv2 at*
     conv=>whnf
     refine .inl ?_
     conv=>whnf
     refine⟨by simp,by omega,by unfold maxLen;omega,?_⟩
     conv=>whnf
     refine⟨((i+1:Nat):Int),by rw[wrap64]<;>omega,?_⟩
     conv=>whnf
     intro ρ3 w3 r3
     exact⟨(i+1,rv++[.slice (some ⟨gx,0,none⟩) (x.length+1) cx],w3,_),⟨hib,hw.tr r3.bel,RatML.rel h r3 hS,RatsL.rel hu r3 hS,hK.rel r3 hS⟩,Sub.gen [(0,6)] r3 ⟨rfl,trivial⟩ ⟨rfl,rfl,by dsimp only;rw[List.length_append,List.length_singleton];rfl,rfl,trivial⟩ (by simp[ScH,Blk.scopd]) (by simp[ScE,SV.sc,At.sc]) (by rfl) (fun lo hi h=>h),by dsimp only;omega⟩
   ·conv=>whnf
    refine .inl ?_
    conv=>whnf
    refine⟨css.flatten,g1,g2,fun ρ w' r hpos=>?_,?_⟩
    ·obtain⟨u0,hu0⟩:∃u,css.flatten[0]? =some u:=⟨_,List.getElem?_eq_getElem (by omega)⟩
     obtain⟨ad,ha,_,_⟩:=g5 0 u0 hu0
     refine⟨ad,ha,fun j u hj=>?_⟩
     obtain⟨ad2,ha2,q1,q2⟩:=g5 j u hj
     rw[ha]at ha2
     injection ha2 with ha2
     subst ha2
     rw[cell_of_heap (w:=w1) (w2:=w') (by rw[addB];exact Rel.same r hS q1)]
     exact q2
    conv=>whnf
    refine⟨rfl,by omega,by unfold maxLen;omega,?_⟩
    conv=>whnf
    rw[Nat.zero_add x.length]
    refine .inl ?_
    conv=>whnf
    refine⟨by rw[←g1];rfl,by omega,by unfold maxLen;omega,?_⟩
    conv=>whnf
    refine⟨[(0,.vec T.LRat 1 rv)],_,rfl,by simp,⟨rfl,trivial⟩,rfl,fun ρ w' r=>?_⟩
    have hv:=vecGive r (id:=4) (sz:=4) (m:=x.length+1) rfl hlen5 (by unfold maxLen;omega) (by decide) (by omega) hone5
    refine⟨hv.1,_,give_env (tl:=[(13,.o (.w 0 rv.length)),(0,.o (.v (.slice am M.length cm))),(1,.o (.v (.slice ab b.length cb))),(6,.o (.v (.int .i64 ((i:Nat):Int))))]) hv.1 (t:=25) (n:=x.length+1) rfl ⟨rfl,rfl,rfl,rfl,trivial⟩ (by simp[ScE,SV.sc,At.sc]),?_⟩
    have hnew:=hrow5 r hv.2.1 hv.2.2 List.mem_cons_self
    replace hK:=(RowsV.weak (hK.rel r hS) (fun g hg=>hg.mono fun p hp=>List.mem_cons_of_mem _ hp)).push rfl hnew
    replace h:=RatML.weak (RatML.rel h r hS) fun g hg=>hg.mono fun p hp=>List.mem_cons_of_mem ((ρ 4).g,(ρ 4).g+1) hp
    replace hu:=RatsL.weak (RatsL.rel hu r hS) fun g hg=>hg.mono fun p hp=>List.mem_cons_of_mem ((ρ 4).g,(ρ 4).g+1) hp
    rw[←hnext]at hK
    replace hw:=hw.tr r.bel
    clear hv hnew r hrow5
    generalize (ρ 4).g=gx at*
    generalize (ρ 4).cap=cx at*
    generalize (gx,gx+1)::iv=iv2 at*
    conv=>whnf
    refine .inl ?_
    conv=>whnf
    refine⟨by simp,by omega,by unfold maxLen;omega,?_⟩
    conv=>whnf
    refine⟨((i+1:Nat):Int),by rw[wrap64]<;>omega,?_⟩
    conv=>whnf
    intro ρ3 w3 r3
    exact⟨(i+1,rv++[.slice (some ⟨gx,0,none⟩) (x.length+1) cx],w3,_),⟨hib,hw.tr r3.bel,RatML.rel h r3 hS,RatsL.rel hu r3 hS,hK.rel r3 hS⟩,Sub.gen [(0,6)] r3 ⟨rfl,trivial⟩ ⟨rfl,rfl,by dsimp only;rw[List.length_append,List.length_singleton];rfl,rfl,trivial⟩ (by simp[ScH,Blk.scopd]) (by simp[ScE,SV.sc,At.sc]) (by rfl) (fun lo hi h=>h),by dsimp only;omega⟩
 have hib:i=M.length:=Nat.le_antisymm hi (by simpa using hib)
 conv=>whnf
 rw[hib,List.take_of_length_le (by rw[widerF_length];omega)]at hK
 intro ρe we re
 refine⟨_,rfl,hw.tr re.bel,rv,?_,hK.1,fun i u x h1 h2=>RatsL.out (hK.2.2 i u x h1 h2) re hS⟩
 have:=re.vecSeq (id:=0) (sz:=1) (m:=rv.length) rfl (by rw[Nat.mul_one]) (by unfold maxLen;omega) (by decide) hK.2.1
 rw[←hK.1]
 exact this.weak fun g hg=>.inr hg
end Go.Ex

/- Basic of the reference: the basic solution of a system. Printed by program. No condition but sizes. -/
namespace Go.Ex
open Go Go.Sx Go.Proofs

theorem rBasic_c{S:Nat→Prop}{w:World}{v u:Value}{M:List (List (Int×Int))}{b:List (Int×Int)}{h0:Nat}(hS:Old S w)(h:RatMR w S v M)(hL:RatML w S v (valsM M))(hu:RatsL w S u (b.map ratioP))(hall:∀r∈M,r.length=colsM M)(hbl:b.length=M.length)(hR:M.length≤1000)(hn:colsM M≤999)
  (hht:Ht (widerF (valsM M) (b.map ratioP)) h0) (h2:2≤h0) (hbd:4^M.length*h0≤90000):
  Con PG N.ref01_Basic #[v,u] w (Ret w fun v' w2=>(∃j,(reduceF (widerF (valsM M) (b.map ratioP)) (colsM M)).2.length≤j∧j<M.length∧at2 (reduceF (widerF (valsM M) (b.map ratioP)) (colsM M)).1 j (colsM M)≠0∧v'= .tuple #[.slice none 0 0,.bool false])∨
   ((∀j,(reduceF (widerF (valsM M) (b.map ratioP)) (colsM M)).2.length≤j→j<M.length→at2 (reduceF (widerF (valsM M) (b.map ratioP)) (colsM M)).1 j (colsM M)=0)∧∃vx,v'= .tuple #[vx,.bool true]∧RatsC w2 (Nw (fun _=>False) w w2) vx (xvecTo (reduceF (widerF (valsM M) (b.map ratioP)) (colsM M)).1 (reduceF (widerF (valsM M) (b.map ratioP)) (colsM M)).2 (colsM M) (reduceF (widerF (valsM M) (b.map ratioP)) (colsM M)).2.length))):=by
 have hw:Bel w.heap.size w w:=Bel.refl
 have hvl:(valsM M).length=M.length:=by simp[valsM]
 have hlen0:Len (colsM M) (valsM M):=fun r hr=>by
  rw[valsM]at hr
  obtain⟨x,hx,rfl⟩:=List.mem_map.1 hr
  rw[List.length_map];exact hall x hx
 have hlen:=widerF_len (b:=b.map ratioP) hlen0
 have hwl:(widerF (valsM M) (b.map ratioP)).length=M.length:=by rw[widerF_length,hvl]
 replace h:=RatMR.arg h []
 replace hL:=RatML.arg hL []
 replace hu:=RatsL.arg hu []
 obtain⟨am,cm,rfl,hcm,hmm⟩:=SlicesR.shape h
 obtain⟨ab,cb,rfl,hcb,-⟩:=ListR.shape hu
 refine in_ref01_Basic (by simp) ?_
 conv=>whnf
 refine callE_S (callE_con (Φ:=fun _ w' v w2=>v= .int .i64 (colsM M)) (fun ρ w' r=>rColumns_c (Rel.old r hS) (RatMR.rel h r hS)) ?_)
 rintro ρ wa1 v1 wb1 r he hb rfl
 replace hw:=hw.tr hb
 clear h
 replace hL:=RatML.past (iv':=(wa1.heap.size,wb1.heap.size)::[]) hL r hS he fun x hx=>List.mem_cons_of_mem _ hx
 replace hu:=RatsL.past (iv':=(wa1.heap.size,wb1.heap.size)::[]) hu r hS he fun x hx=>List.mem_cons_of_mem _ hx
 clear r he hb
 generalize (wa1.heap.size,wb1.heap.size)::[]=iv1 at*
 conv=>whnf
 refine callE_S (callE_con (Φ:=fun _ w' v w2=>RatML w2 (Nw (Cv S w.heap.size iv1) w' w2) v (widerF (valsM M) (b.map ratioP))) (fun ρ w' r=>rWider_c (Rel.old r hS) (RatML.rel hL r hS) (RatsL.rel hu r hS) (by rw[List.length_map,hvl];exact hbl) (fun r hr=>by rw[hlen0 r hr];omega) (by omega)) ?_)
 rintro ρ wa2 v2 wb2 r he hb hn
 replace hw:=hw.tr hb
 clear hL
 clear hu
 have hW:=RatML.old hn r.baseLe
 clear r he hb
 generalize (wa2.heap.size,wb2.heap.size)::iv1=iv2 at*
 clear hn
 conv=>whnf
 refine callE_S (callE_con (Φ:=fun _ w' v w2=>∃vm vp,v= .tuple #[vm,vp]∧RatML w2 (Nw (Cv S w.heap.size iv2) w' w2) vm (reduceF (widerF (valsM M) (b.map ratioP)) (colsM M)).1∧IntsR w2 (Nw (fun _=>False) w' w2) vp (reduceF (widerF (valsM M) (b.map ratioP)) (colsM M)).2) (fun ρ w' r=>rEchelon_c (Rel.old r hS) (RatML.rel hW r hS) hlen (by omega) (by omega) (by omega) hht h2 (by rw[hwl];exact hbd)) ?_)
 rintro ρ wa3 v3 wb3 r he hb ⟨vm,vp,rfl,k1,k2⟩
 replace hw:=hw.tr hb
 clear hW
 have hA:=RatML.old k1 r.baseLe
 have hP:=IntsR.got (S:=fun _=>False) k2 r.baseLe (iv:=(wa3.heap.size,wb3.heap.size)::iv2) List.mem_cons_self
 clear r he hb
 generalize (wa3.heap.size,wb3.heap.size)::iv2=iv3 at*
 clear k1 k2
 obtain⟨aA,cA,rfl,hcA,-⟩:=SlicesR.shape hA
 have hPs:=hP
 obtain⟨-,-,-,ap,cp,rfl,hcp,-⟩:=hPs
 obtain⟨hAl,hpl,hpc,hAh⟩:=reduceF_inv (cols:=colsM M) hht h2
 have hAlen:=reduceF_len (cols:=colsM M) hlen
 have hpow:=Nat.mul_le_mul_right h0 (Nat.pow_le_pow_right (show 0<4 by decide) hpl)
 rw[hwl]at hAl hpl hpow
 generalize (reduceF (widerF (valsM M) (b.map ratioP)) (colsM M)).1=A at*
 generalize (reduceF (widerF (valsM M) (b.map ratioP)) (colsM M)).2=pv at*
 generalize colsM M=cols at*
 rw[←hAl]at hR hpl hbd ⊢
 conv=>whnf
 refine⟨cols,cols,rfl,rfl,Nat.le_refl _,by omega,by omega,?_⟩
 conv=>whnf
 refine⟨Nat×List (List Value)×World×Iv,fun z=>⟨[(6,.o (.v (.int .i64 cols))),(7,.o (.v (.slice aA A.length cA))),(8,.o (.v (.slice ap pv.length cp))),(9,.o (.s 0 0 cols cols)),(10,.o (.v (.int .i64 ((z.1:Nat):Int))))],[(0,.arr T.Rat z.2.1.flatten)],1,z.2.2.2,z.2.2.1⟩,fun z=>cols-z.1,
  fun z=>z.1≤cols∧z.2.1.length=cols∧(∀x∈z.2.1,x.length=4)∧Bel w.heap.size w z.2.2.1∧RatML z.2.2.1 (Cv S w.heap.size z.2.2.2) (.slice aA A.length cA) A∧IntsR z.2.2.1 (Cv (fun _=>False) w.heap.size z.2.2.2) (.slice ap pv.length cp) pv∧
   ZerosTo z.2.2.1 (Cv (fun _=>False) w.heap.size z.2.2.2) z.2.1 z.1,?_,?_⟩
 ·intro ρ w' r
  exact⟨(0,List.replicate cols [.bool false,.slice none 0 0,.bool false,.slice none 0 0],w',iv3),⟨Nat.zero_le _,by simp,fun x hx=>by rw[List.eq_of_mem_replicate hx];rfl,hw.tr r.bel,RatML.rel hA r hS,IntsR.rel hP r (oldF w),fun j cs hj=>by dsimp only at hj;omega⟩,
   Sub.gen [] r ⟨rfl,trivial⟩ ⟨rfl,rfl,rfl,rfl,rfl,trivial⟩ (by simp[ScH,Blk.scopd]) (by simp[ScE,SV.sc,At.sc]) (by rfl) (fun lo hi h=>h)⟩
 clear hw hA hP
 rintro⟨k,css,w2,iv⟩ ⟨hk,hcl,hc4,hw,hA,hP,hz⟩
 dsimp only at hk hcl hc4 hw hA hP hz ⊢
 conv=>whnf
 refine BrS.mk (fun hkb=>?_) (fun hkb=>?_)
 ·have hkb:k<cols:=by simpa using hkb
  conv=>whnf
  refine callE_S (callE_con (Φ:=fun _ w' v w2=>RatC w2 (Nw (fun _=>False) w' w2) v (0)) (fun ρ w' r=>(show ((0:Int):Rat)=0 from rfl)▸rWholeAll_c 0 w' (by decide) (by decide)) ?_)
  rintro ρ wa4 v4 wb4 r he hb hn
  replace hw:=hw.tr hb
  replace hA:=RatML.past (iv':=(wa4.heap.size,wb4.heap.size)::iv) hA r hS he fun x hx=>List.mem_cons_of_mem _ hx
  replace hP:=IntsR.past (iv':=(wa4.heap.size,wb4.heap.size)::iv) hP r (oldF w) he fun x hx=>List.mem_cons_of_mem _ hx
  replace hz:=hz.past (iv':=(wa4.heap.size,wb4.heap.size)::iv) r (oldF w) he fun x hx=>List.mem_cons_of_mem _ hx
  have h_0:=hn.got (S:=fun _=>False) r.baseLe (iv:=(wa4.heap.size,wb4.heap.size)::iv) List.mem_cons_self
  clear r he hb hn
  generalize (wa4.heap.size,wb4.heap.size)::iv=iv4 at*
  obtain⟨s4_0,s4_1,s4_2,s4_3,s4_4,s4_5,s4_6,s4_7,rfl⟩:=h_0.shape
  conv=>whnf
  refine⟨⟨by omega,by omega⟩,?_⟩
  conv=>whnf
  have hfl:=flat_len hc4
  refine⟨by rw[Int.toNat_natCast,hfl];omega,(css.set k [.bool s4_0,.slice s4_1 s4_2 s4_3,.bool s4_4,.slice s4_5 s4_6 s4_7]).flatten,by rw[Int.toNat_natCast,Nat.zero_add];exact flat_set (css:=css) (j:=k) hc4 (by omega),?_⟩
  conv=>whnf
  refine⟨((k+1:Nat):Int),by rw[wrap64]<;>omega,?_⟩
  conv=>whnf
  intro ρ3 w3 r3
  exact⟨(k+1,css.set k [.bool s4_0,.slice s4_1 s4_2 s4_3,.bool s4_4,.slice s4_5 s4_6 s4_7],w3,_),⟨hkb,by simp[hcl],four_set hc4 rfl,hw.tr r3.bel,RatML.rel hA r3 hS,IntsR.rel hP r3 (oldF w),(hz.rel r3 (oldF w)).push (h_0.rel r3 (oldF w)).fourC⟩,
   Sub.gen [] r3 ⟨rfl,trivial⟩ ⟨rfl,rfl,rfl,rfl,rfl,trivial⟩ (by simp[ScH,Blk.scopd]) (by simp[ScE,SV.sc,At.sc]) (by rfl) (fun lo hi h=>h),by dsimp only;omega⟩
 have hkb:k=cols:=Nat.le_antisymm hk (by simpa using hkb)
 subst hkb
 conv=>whnf
 have hFc:Fc w2 (Cv (fun _=>False) w.heap.size iv) css (xvecTo A pv k 0):=by
  refine⟨by rw[hcl,xvecTo_length],fun j cs q h1 h2=>?_⟩
  have hj:=(List.getElem?_eq_some_iff.1 h1).1
  simp only[xvecTo,List.range_zero,List.foldl_nil,List.getElem?_replicate]at h2
  split at h2
  ·injection h2 with h2;rw[←h2];exact hz j cs (by omega) h1
  ·cases h2
 clear hz hc4
 refine⟨Nat×Nat×World×Iv,fun z=>⟨[(9,.o (.v (.slice (some ⟨z.2.1,0,none⟩) k k))),(6,.o (.v (.int .i64 k))),(7,.o (.v (.slice aA A.length cA))),(8,.o (.v (.slice ap pv.length cp))),(11,.o (.v (.int .i64 ((z.1:Nat):Int))))],[],1,z.2.2.2,z.2.2.1⟩,fun z=>A.length-z.1,
  fun z=>z.1≤A.length∧(∀j,pv.length≤j→j<z.1→at2 A j k=0)∧Bel w.heap.size w z.2.2.1∧(∀p,p∈iv→p∈z.2.2.2)∧¬Cv S w.heap.size iv z.2.1∧w.heap.size≤z.2.1∧RatML z.2.2.1 (Cv S w.heap.size iv) (.slice aA A.length cA) A∧IntsR z.2.2.1 (Cv (fun _=>False) w.heap.size iv) (.slice ap pv.length cp) pv∧
   RowXc z.2.2.1 (fun _=>False) w.heap.size z.2.2.2 (.slice (some ⟨z.2.1,0,none⟩) k k) k (xvecTo A pv k (min z.1 pv.length)),?_,?_⟩
 ·intro ρ w' r
  exact⟨(0,(ρ 0).g,w',((ρ 0).g,(ρ 0).g+1)::iv),⟨Nat.zero_le _,fun j h3 h4=>by dsimp only at h4;omega,hw.tr r.bel,fun p hp=>List.mem_cons_of_mem _ hp,fun hg=>Rel.not r hS hg 0 _ rfl (r.fits (id:=0) rfl).1 rfl,(r.low 0 _ rfl (r.fits (id:=0) rfl).1).1,RatML.rel hA r hS,IntsR.rel hP r (oldF w),by dsimp only;rw[Nat.zero_min];exact RowXc.give r (id:=0) rfl hcl (by unfold maxLen;omega) hFc⟩,
   Sub.give r (id:=0) (t:=9) rfl rfl trivial rfl ⟨rfl,rfl,rfl,rfl,trivial⟩ (by simp[ScE,SV.sc,At.sc])⟩
 clear hw hA hP hFc hcl
 rintro⟨i,gx,w5,iv5⟩ ⟨hi,hzr,hw,hsub,hxo,hxB,hA,hP,hX⟩
 dsimp only at hi hzr hw hsub hxo hxB hA hP hX ⊢
 conv=>whnf
 refine BrS.mk (fun hi2=>?_) (fun hi2=>?_)
 ·have hi2:i<A.length:=by simpa using hi2
  obtain⟨ra,hra⟩:∃r,A[i]? =some r:=⟨_,List.getElem?_eq_getElem (by omega)⟩
  have hral:=hAlen ra (List.mem_of_getElem? hra)
  obtain⟨adm,um,ham,hRm,km1,km2⟩:=SlicesR.load hA hra
  obtain⟨au,cu,rfl,hcu,-⟩:=ListR.shape hRm
  obtain⟨q,hq⟩:∃q,ra[k]? =some q:=⟨_,List.getElem?_eq_getElem (by omega)⟩
  have hat:at2 A i k=q:=by simp[at2,List.getD,hra,hq]
  obtain⟨adq,cs,haq,hF,_,hl⟩:=ListR.load hRm hq
  obtain⟨b3,a3,n3,c3,b4,a4,n4,c4,rfl,hF⟩:=hF
  have hsm:∀{H nx ρ w'},Rel H nx iv5 w.heap.size w5 ρ w'→∀{g},Cv S w.heap.size iv g→w'.heap[g]? =w5.heap[g]? :=fun r g hg=>Rel.same r hS (hg.mono hsub)
  conv=>whnf
  refine BrS.mk (fun hp0=>?_) (fun hp0=>?_)
  ·have hp0:i<pv.length:=by simpa using hp0
   obtain⟨p,hpi⟩:∃p,pv[i]? =some p:=⟨_,List.getElem?_eq_getElem hp0⟩
   have hpd:pv.getD i 0=p:=by simp[List.getD,hpi]
   have hpcol:=hpc p (List.mem_of_getElem? hpi)
   have hPs:=hP
   obtain⟨_,_,_,_,_,hpe,_,hpcell⟩:=hPs
   injection hpe with hpe1 hpe2 hpe3
   subst hpe1 hpe3
   obtain⟨adp,hap,kp1,kp2⟩:=hpcell i (.int .i64 (p:Int)) (by rw[List.getElem?_map,hpi];rfl)
   rw[Nat.min_eq_left (by omega)]at hX
   conv=>whnf
   refine drawn_of_pi hτ hmix [.x 0,.x 1,.x 2,.x 3,.x 4,.x 5,.x 6,.x 7,.x 8,.x 9,.x 10,.x 11,.x 12,.x 13,.x 14] (by kernel_rfl) (by kernel_rfl) ?_
   conv=>whnf
   refine⟨adp,hap,⟨by omega,by omega⟩,?_⟩
   conv=>whnf
   refine⟨.int .i64 (p:Int),fun ρ w' r=>?_,?_⟩
   ·rw[Int.toNat_natCast,Nat.mul_one,cell_of_heap (w:=w5) (w2:=w') (by rw[addB];exact hsm r (cvF kp1))]
    exact kp2
   conv=>whnf
   refine⟨adm,ham,⟨by omega,by omega⟩,?_⟩
   conv=>whnf
   refine⟨.slice au ra.length cu,fun ρ w' r=>?_,?_⟩
   ·rw[Int.toNat_natCast,cell_of_heap (w:=w5) (w2:=w') (by rw[addB];exact hsm r km1)]
    exact km2
   conv=>whnf
   refine⟨adq,haq,⟨by omega,by omega⟩,?_⟩
   conv=>whnf
   refine⟨[.bool b3,.slice a3 n3 c3,.bool b4,.slice a4 n4 c4],rfl,fun ρ w' r j u hu=>?_,?_⟩
   ·obtain⟨k1,k2⟩:=hl j u hu
    rw[Int.toNat_natCast,cell_of_heap (w:=w5) (w2:=w') (by rw[addB,addB];exact hsm r k1)]
    exact k2
   conv=>whnf
   refine callE_con (Φ:=fun _ w' v w2=>RatC w2 (Nw (fun _=>False) w' w2) v q) (fun ρ w' r=>rNormal_c (fun g hg=>Rel.old r hS g (hg.mono hsub)) (hF.keep fun g hg=>hsm r hg)) ?_
   rintro ρ wa v1 wb r he hb hO
   have hON:RatC wb (fun g=>Cv (fun _=>False) w.heap.size ((wa.heap.size,wb.heap.size)::iv5) g∧(Value.slice (some ⟨gx,0,none⟩) k k).ownBlock≠some g) v1 q:=hO.weak fun g hg=>by
    rcases hg with hg|hg
    ·exact hg.elim
    ·have hB:=r.baseLe
     have:=Rel.old r hS gx (cvF (hX.new gx rfl))
     refine⟨.inr ⟨by omega,_,_,List.mem_cons_self,hg.1,hg.2⟩,fun e=>?_⟩
     have e2:gx=_:=Option.some.inj e
     omega
   replace hX:=hX.past (iv':=(wa.heap.size,wb.heap.size)::iv5) r (oldF w) he fun x hx=>List.mem_cons_of_mem _ hx
   have hkp:∀g,Cv S w.heap.size iv g→wb.heap[g]? =w5.heap[g]? :=fun g hg=>by rw[he.block g (Rel.old r hS g (hg.mono hsub)),Rel.same r hS (hg.mono hsub)]
   replace hA:=RatML.keep hA hkp
   replace hP:=SeqR.keep hP fun g hg=>hkp g (cvF hg)
   replace hw:=hw.tr hb
   replace hsub:∀p,p∈iv→p∈(wa.heap.size,wb.heap.size)::iv5:=fun p hp=>List.mem_cons_of_mem _ (hsub p hp)
   clear r he hb hO hF hl hRm hsm kp1 kp2 km1 km2 hpcell hkp
   generalize (wa.heap.size,wb.heap.size)::iv5=iv6 at*
   obtain⟨b1,a1,n1,c1,b2,a2,n2,c2,rfl⟩:=hON.shape
   conv=>whnf
   refine⟨⟨gx,0,none⟩,rfl,⟨by omega,by omega⟩,?_⟩
   conv=>whnf
   intro ρ w' r
   obtain⟨_,hgx,h1,h2',h3,h4,h5⟩:=(hX.rel r (oldF w)).store hpcol (RatC.keep hON fun g hg=>Rel.same r (oldF w) hg.1) r (oldF w)
   injection hgx with hgx
   injection hgx with hgx
   subst hgx
   have hkp:∀g,Cv S w.heap.size iv g→w'.heap[g]? =wb.heap[g]? :=fun g hg=>Rel.same r hS (hg.mono hsub)
   replace hw:=hw.tr r.bel
   have hold:∀g,Cv S w.heap.size iv6 g→g<w'.heap.size:=Rel.old r hS
   clear r hX hON
   refine⟨h1,h2',h3,fun w2 hw2=>?_⟩
   obtain⟨hX,hgr,-⟩:=h5 w2 hw2
   have hkp2:∀g,Cv S w.heap.size iv g→w2.heap[g]? =wb.heap[g]? :=fun g hg=>by
    rw[←hkp g hg]
    exact hgr.block g (hold g (hg.mono hsub)) fun e=>by injection e with e;subst e;exact hxo hg
   replace hA:=RatML.keep hA hkp2
   replace hP:=SeqR.keep hP fun g hg=>hkp2 g (cvF hg)
   replace hw:Bel w.heap.size w w2:=hw.tr (Bel.grown hgr (fun g hg=>by injection hg with hg;subst hg;exact hxB) (by have:=hw.size;omega))
   clear h1 h2' h3 h4 h5 hw2 hgr hold hkp hkp2
   rw[←hat,←hpd,←xvecTo_succ]at hX
   conv=>whnf
   refine⟨((i+1:Nat):Int),by rw[wrap64]<;>omega,?_⟩
   conv=>whnf
   intro ρ3 w3 r3
   have hkp:∀g,Cv S w.heap.size iv g→w3.heap[g]? =w2.heap[g]? :=fun g hg=>Rel.same r3 hS (hg.mono hsub)
   exact⟨(i+1,gx,w3,iv6),⟨hi2,fun j h3 h4=>by dsimp only at h4;omega,hw.tr r3.bel,hsub,hxo,hxB,RatML.keep hA hkp,SeqR.keep hP fun g hg=>hkp g (cvF hg),by dsimp only;rw[Nat.min_eq_left (by omega)];exact hX.rel r3 (oldF w)⟩,
    Sub.gen [] r3 trivial ⟨rfl,rfl,rfl,rfl,rfl,trivial⟩ (by simp[ScH]) (by simp[ScE,SV.sc,At.sc]) (by rfl) (fun lo hi h=>h),by dsimp only;omega⟩
  have hp0:pv.length≤i:=by have:=of_decide_eq_false hp0;omega
  conv=>whnf
  refine⟨adm,ham,⟨by omega,by omega⟩,?_⟩
  conv=>whnf
  refine⟨.slice au ra.length cu,fun ρ w' r=>?_,?_⟩
  ·rw[Int.toNat_natCast,cell_of_heap (w:=w5) (w2:=w') (by rw[addB];exact hsm r km1)]
   exact km2
  conv=>whnf
  refine⟨adq,haq,⟨by omega,by omega⟩,?_⟩
  conv=>whnf
  refine⟨[.bool b3,.slice a3 n3 c3,.bool b4,.slice a4 n4 c4],rfl,fun ρ w' r j u hu=>?_,?_⟩
  ·obtain⟨k1,k2⟩:=hl j u hu
   rw[Int.toNat_natCast,cell_of_heap (w:=w5) (w2:=w') (by rw[addB,addB];exact hsm r k1)]
   exact k2
  conv=>whnf
  refine callE_S (callE_con (Φ:=fun _ w' v w2=>v= .int .i64 (rs q)) (fun ρ w' r=>rSignOfL_c (fun g hg=>Rel.old r hS g (hg.mono hsub)) (hF.keep fun g hg=>hsm r hg)) ?_)
  rintro ρ wa v1 wb r he hb rfl
  replace hX:=hX.past (iv':=(wa.heap.size,wb.heap.size)::iv5) r (oldF w) he fun x hx=>List.mem_cons_of_mem _ hx
  have hkp:∀g,Cv S w.heap.size iv g→wb.heap[g]? =w5.heap[g]? :=fun g hg=>by rw[he.block g (Rel.old r hS g (hg.mono hsub)),Rel.same r hS (hg.mono hsub)]
  replace hA:=RatML.keep hA hkp
  replace hP:=SeqR.keep hP fun g hg=>hkp g (cvF hg)
  replace hw:=hw.tr hb
  replace hsub:∀p,p∈iv→p∈(wa.heap.size,wb.heap.size)::iv5:=fun p hp=>List.mem_cons_of_mem _ (hsub p hp)
  clear r he hb hF hl hRm hsm km1 km2 hkp
  generalize (wa.heap.size,wb.heap.size)::iv5=iv6 at*
  conv=>whnf
  refine BrS.mk (fun hs=>?_) (fun hs=>?_)
  ·have hs:q≠0:=fun e=>by rw[rs_zero.2 e]at hs;exact absurd hs (by decide)
   conv=>whnf
   intro ρe we re
   exact⟨_,rfl,hw.tr re.bel,.inl ⟨i,hp0,hi2,by rw[hat];exact hs,rfl⟩⟩
  have hs:q=0:=rs_zero.1 (by simpa using hs)
  conv=>whnf
  refine⟨((i+1:Nat):Int),by rw[wrap64]<;>omega,?_⟩
  conv=>whnf
  intro ρ3 w3 r3
  have hkp:∀g,Cv S w.heap.size iv g→w3.heap[g]? =wb.heap[g]? :=fun g hg=>Rel.same r3 hS (hg.mono hsub)
  exact⟨(i+1,gx,w3,iv6),⟨hi2,fun j h3 h4=>by
    by_cases hj:j=i
    ·rw[hj,hat,hs]
    ·exact hzr j h3 (by dsimp only at h4;omega),hw.tr r3.bel,hsub,hxo,hxB,RatML.keep hA hkp,SeqR.keep hP fun g hg=>hkp g (cvF hg),by dsimp only;rw[Nat.min_eq_right (by omega),←Nat.min_eq_right hp0];exact hX.rel r3 (oldF w)⟩,
   Sub.gen [] r3 trivial ⟨rfl,rfl,rfl,rfl,rfl,trivial⟩ (by simp[ScH]) (by simp[ScE,SV.sc,At.sc]) (by rfl) (fun lo hi h=>h),by dsimp only;omega⟩
 have hi2:i=A.length:=Nat.le_antisymm hi (by simpa using hi2)
 subst hi2
 rw[Nat.min_eq_right hpl]at hX
 conv=>whnf
 intro ρe we re
 refine⟨_,rfl,hw.tr re.bel,.inr ⟨hzr,_,rfl,?_⟩⟩
 exact RatsC.out hX.rats re (oldF w)
end Go.Ex

/- Dot, Before and IsContradiction of the reference. Printed by program. No condition but sizes. -/
namespace Go.Ex
open Go Go.Sx Go.Proofs

theorem rDot_c{S:Nat→Prop}{w:World}{v u:Value}{xs ys:List Rat}{h:Nat}(hS:Old S w)(hx:RatsL w S v xs)(hy:RatsL w S u ys)(hl:xs.length=ys.length)(hqx:∀q∈xs,rl q+1≤h)(hqy:∀q∈ys,rl q+1≤h)(h2:2≤h)(hb:2*h*xs.length≤90000):
  Con PG N.ref01_Dot #[v,u] w (Ret w fun v' w2=>RatC w2 (Nw (fun _=>False) w w2) v' (dotTo xs ys xs.length)):=by
 have hw:Bel w.heap.size w w:=Bel.refl
 obtain⟨ax,cx,rfl,hcx,hmx⟩:=hx.shape
 obtain⟨ay,cy,rfl,hcy,-⟩:=hy.shape
 unfold maxLen at hmx
 refine in_ref01_Dot (by simp) ?_
 conv=>whnf
 refine callE_S (callE_con (Φ:=fun _ w' v w2=>RatC w2 (Nw (fun _=>False) w' w2) v (((0:Int):Rat))) (fun ρ w' r=>rWholeAll_c 0 w' (by decide) (by decide)) ?_)
 rintro ρ wa1 v1 wb1 r he hb hn
 replace hw:=hw.tr hb
 have hd:=hn.got (S:=fun _=>False) r.baseLe (iv:=(wa1.heap.size,wb1.heap.size)::[]) List.mem_cons_self
 clear r he hb hn
 generalize (wa1.heap.size,wb1.heap.size)::[]=iv1 at*
 obtain⟨s1_0,s1_1,s1_2,s1_3,s1_4,s1_5,s1_6,s1_7,rfl⟩:=hd.shape
 conv=>whnf
 rw[show ((0:Int):Rat)=dotTo xs ys 0 from rfl]at hd
 refine⟨Nat×(Bool×Bool)×(Option Addr×Option Addr)×(Nat×Nat×Nat×Nat)×World×Iv,fun z=>⟨[(0,.o (.v (.slice ax xs.length cx))),(1,.o (.v (.slice ay ys.length cy))),(4,.o (.p 0 0)),(5,.o (.p 1 0)),(6,.o (.v (.int .i64 ((z.1:Nat):Int))))],[(1,.box T.Rat [.v (.bool z.2.1.1),.v (.slice z.2.2.1.1 z.2.2.2.1.1 z.2.2.2.1.2.1),.v (.bool z.2.1.2),.v (.slice z.2.2.1.2 z.2.2.2.1.2.2.1 z.2.2.2.1.2.2.2)]),(0,.box T.Rat [.v (.bool false),.v (.slice none 0 0),.v (.bool false),.v (.slice none 0 0)])],2,z.2.2.2.2.2,z.2.2.2.2.1⟩,fun z=>xs.length-z.1,
  fun z=>z.1≤xs.length∧Bel w.heap.size w z.2.2.2.2.1∧RatC z.2.2.2.2.1 (Cv (fun _=>False) w.heap.size z.2.2.2.2.2) (.agg #[.bool z.2.1.1,.slice z.2.2.1.1 z.2.2.2.1.1 z.2.2.2.1.2.1,.bool z.2.1.2,.slice z.2.2.1.2 z.2.2.2.1.2.2.1 z.2.2.2.1.2.2.2]) (dotTo xs ys z.1),?_,?_⟩
 ·intro ρ w' r
  exact⟨(0,(s1_0,s1_4),(s1_1,s1_5),(s1_2,s1_3,s1_6,s1_7),w',iv1),⟨by simp,hw.tr r.bel,hd.rel r (oldF w)⟩,Sub.gen [] r ⟨rfl,rfl,trivial⟩ ⟨rfl,rfl,rfl,rfl,rfl,trivial⟩ (by simp[ScH,Blk.scopd,At.sc]) (by simp[ScE,SV.sc,At.sc]) (by rfl) (fun lo hi h=>h)⟩
 clear hw hd
 rintro⟨i,⟨p0,p4⟩,⟨p1,p5⟩,⟨p2,p3,p6,p7⟩,w1,iv⟩ ⟨hi,hw,hd⟩
 dsimp only at hi hw hd ⊢
 conv=>whnf
 refine BrS.mk (fun hib=>?_) (fun hib=>?_)
 ·have hib:i<xs.length:=by simpa using hib
  have hs:=rl_dotTo hqx hqy h2 i
  have hs2:2*h*i≤2*h*xs.length:=Nat.mul_le_mul_left _ hi
  have hs3:2*h*1≤2*h*xs.length:=Nat.mul_le_mul_left _ (by omega)
  obtain⟨x,hxi⟩:∃x,xs[i]? =some x:=⟨_,List.getElem?_eq_getElem hib⟩
  obtain⟨y,hyi⟩:∃x,ys[i]? =some x:=⟨_,List.getElem?_eq_getElem (by omega)⟩
  have hx3:=hqx x (List.mem_of_getElem? hxi)
  have hy3:=hqy y (List.mem_of_getElem? hyi)
  have hx2:xs.getD i 0=x:=by rw[List.getD,hxi];rfl
  have hy2:ys.getD i 0=y:=by rw[List.getD,hyi];rfl
  have hm:=rl_mul x y
  obtain⟨adx,csx,hax,hFx,-,hlx⟩:=ListR.load hx hxi
  obtain⟨ady,csy,hay,hFy,-,hly⟩:=ListR.load hy hyi
  obtain⟨f0,f1,f2,f3,f4,f5,f6,f7,rfl,hFx⟩:=hFx
  obtain⟨q0,q1,q2,q3,q4,q5,q6,q7,rfl,hFy⟩:=hFy
  conv=>whnf
  refine drawn_of_pi hτ hmix [.x 0,.x 1,.x 2,.x 3,.x 4,.x 5,.x 6,.x 7,.x 8,.x 9,.x 10,.x 11] (by kernel_rfl) (by kernel_rfl) ?_
  conv=>whnf
  refine⟨adx,hax,⟨by omega,by omega⟩,?_⟩
  conv=>whnf
  refine⟨[.bool f0,.slice f1 f2 f3,.bool f4,.slice f5 f6 f7],rfl,fun ρ w' r j u hu=>?_,?_⟩
  ·obtain⟨k1,k2⟩:=hlx j u hu
   rw[Int.toNat_natCast,cell_of_heap (w:=w) (w2:=w') (by rw[addB,addB];exact(hw.tr r.bel).block _ (hS _ k1))]
   exact k2
  conv=>whnf
  refine⟨ady,hay,⟨by omega,by omega⟩,?_⟩
  conv=>whnf
  refine⟨[.bool q0,.slice q1 q2 q3,.bool q4,.slice q5 q6 q7],rfl,fun ρ w' r j u hu=>?_,?_⟩
  ·obtain⟨k1,k2⟩:=hly j u hu
   rw[Int.toNat_natCast,cell_of_heap (w:=w) (w2:=w') (by rw[addB,addB];exact(hw.tr r.bel).block _ (hS _ k1))]
   exact k2
  conv=>whnf
  refine callE_con (Φ:=fun _ w' v w2=>RatC w2 (Nw (fun _=>False) w' w2) v (x*y)) (fun ρ w' r=>rMul_c (fun g hg=>by have:=hS g hg;have:=r.baseLe;omega) (hFx.keep fun g hg=>(hw.tr r.bel).block g (hS g hg)) (hFy.keep fun g hg=>(hw.tr r.bel).block g (hS g hg))) ?_
  rintro ρ wa2 v2 wb2 r he hb hn
  replace hw:=hw.tr hb
  replace hd:=hd.past (iv':=(wa2.heap.size,wb2.heap.size)::iv) r (oldF w) he fun x hx=>List.mem_cons_of_mem _ hx
  have hp:=hn.got (S:=fun _=>False) r.baseLe (iv:=(wa2.heap.size,wb2.heap.size)::iv) List.mem_cons_self
  clear r he hb hn
  generalize (wa2.heap.size,wb2.heap.size)::iv=iv2 at*
  obtain⟨s2_0,s2_1,s2_2,s2_3,s2_4,s2_5,s2_6,s2_7,rfl⟩:=hp.shape
  conv=>whnf
  refine callE_con (Φ:=fun _ w' v w2=>RatC w2 (Nw (fun _=>False) w' w2) v (dotTo xs ys i+x*y)) (fun ρ w' r=>rAdd_c (Rel.old r (oldF w)) ((hd.rel r (oldF w)).l (by omega)) ((hp.rel r (oldF w)).l (by omega))) ?_
  rintro ρ wa3 v3 wb3 r he hb hn
  replace hw:=hw.tr hb
  clear hd
  clear hp
  have hd2:=hn.got (S:=fun _=>False) r.baseLe (iv:=(wa3.heap.size,wb3.heap.size)::iv2) List.mem_cons_self
  clear r he hb hn
  generalize (wa3.heap.size,wb3.heap.size)::iv2=iv3 at*
  obtain⟨s3_0,s3_1,s3_2,s3_3,s3_4,s3_5,s3_6,s3_7,rfl⟩:=hd2.shape
  conv=>whnf
  rw[show dotTo xs ys i+x*y=dotTo xs ys (i+1) by rw[dotTo,hx2,hy2]]at hd2
  refine⟨((i+1:Nat):Int),by rw[wrap64]<;>omega,?_⟩
  conv=>whnf
  intro ρ3 w3 r3
  exact⟨(i+1,(s3_0,s3_4),(s3_1,s3_5),(s3_2,s3_3,s3_6,s3_7),w3,_),⟨hib,hw.tr r3.bel,hd2.rel r3 (oldF w)⟩,Sub.gen [] r3 ⟨rfl,rfl,trivial⟩ ⟨rfl,rfl,rfl,rfl,rfl,trivial⟩ (by simp[ScH,Blk.scopd,At.sc]) (by simp[ScE,SV.sc,At.sc]) (by rfl) (fun lo hi h=>h),by dsimp only;omega⟩
 have hib:i=xs.length:=Nat.le_antisymm hi (by simpa using hib)
 subst hib
 conv=>whnf
 intro ρe we re
 exact⟨_,rfl,hw.tr re.bel,hd.out re (oldF w)⟩
section
variable{S:Nat→Prop}{H:Hp}{nx:Nat}{iv iv':Iv}{B:Nat}{w w' w2:World}{ρ:Nat→Sx.Val}{css:List (List Value)}{qs:List Rat}
theorem Fc.rel(h:Fc w (Cv S B iv) css qs)(r:Rel H nx iv B w ρ w')(hS:∀g,S g→g<B):Fc w' (Cv S B iv) css qs:=h.keep fun _ hg=>Rel.same r hS hg
theorem Fc.past(h:Fc w (Cv S B iv) css qs)(r:Rel H nx iv B w ρ w')(hS:∀g,S g→g<B)(he:Ext w' w2)(hm:∀p,p∈iv→p∈iv'):Fc w2 (Cv S B iv') css qs:=
 ((h.rel r hS).keep fun g hg=>he.block g (Rel.old r hS g hg)).weak fun _ hg=>hg.mono hm
theorem Fc.push{cs:List Value}{q:Rat}(h:Fc w S css qs)(hc:Rat4C w S cs q):Fc w S (css++[cs]) (qs++[q]):=by
 refine⟨by simp[h.1],fun j x p h1 h2=>?_⟩
 rcases Nat.lt_or_ge j css.length with hi|hi
 ·rw[List.getElem?_append_left hi]at h1
  rw[List.getElem?_append_left (by rw[←h.1];exact hi)]at h2
  exact h.2 j x p h1 h2
 ·have hi0:j=css.length:=by have:=(List.getElem?_eq_some_iff.1 h1).1;simp at this;omega
  subst hi0
  rw[List.getElem?_append_right (Nat.le_refl _),Nat.sub_self]at h1
  rw[h.1,List.getElem?_append_right (Nat.le_refl _),Nat.sub_self]at h2
  simp at h1 h2
  subst h1 h2
  exact hc
end
theorem rBefore_c{S:Nat→Prop}{w:World}{v u:Value}{ys:List Rat}{M:List (List Rat)}{n h:Nat}(hS:Old S w)(hy:RatsL w S v ys)(hM:RatML w S u M)(hyl:ys.length=M.length)(hrow:∀r∈M,r.length=n)(hn:n≤1000000)
  (hqy:∀q∈ys,rl q+1≤h) (hqM:Ht M h) (h2:2≤h) (hb:2*h*M.length≤90000):
  Con PG N.ref01_Before #[v,u,.int .i64 n] w (Ret w fun v' w2=>RatsC w2 (Nw (fun _=>False) w w2) v' (throughF ys M n M.length)):=by
 have hw:Bel w.heap.size w w:=Bel.refl
 obtain⟨ay,cy,rfl,hcy,hmy⟩:=ListR.shape hy
 obtain⟨am,cm,rfl,hcm,-⟩:=SlicesR.shape hM
 unfold maxLen at hmy
 refine in_ref01_Before (by simp) ?_
 conv=>whnf
 refine⟨Nat×List (List Value)×World×Iv,fun z=>⟨[(0,.o (.v (.slice ay ys.length cy))),(1,.o (.v (.slice am M.length cm))),(2,.o (.v (.int .i64 n))),(7,.o (.w 0 z.2.1.length)),(8,.o (.v (.int .i64 ((z.1:Nat):Int))))],[(0,.vec T.Rat 4 z.2.1.flatten)],1,z.2.2.2,z.2.2.1⟩,fun z=>n-z.1,
  fun z=>z.1≤n∧Bel w.heap.size w z.2.2.1∧Fc z.2.2.1 (Cv (fun _=>False) w.heap.size z.2.2.2) z.2.1 ((throughF ys M n M.length).take z.1),?_,?_⟩
 ·intro ρ w' r
  exact⟨(0,[],w',[]),⟨Nat.zero_le _,hw.tr r.bel,by simp[Fc]⟩,Sub.nil 7 T.Rat 4 rfl (by simp[ScE,SV.sc,At.sc,initE]) r fun ρ1 r1=>
   Sub.gen [] r1 ⟨rfl,trivial⟩ ⟨rfl,rfl,rfl,rfl,rfl,trivial⟩ (by simp[ScH,Blk.scopd]) (by simp[ScE,SV.sc,At.sc]) (by rfl) (fun lo hi h=>h)⟩
 clear hw
 rintro⟨k,css,w1,iv⟩ ⟨hk,hw,hC⟩
 dsimp only at hk hw hC ⊢
 have hcl:css.length=k:=by rw[hC.1,List.length_take,throughF_length];omega
 have hfl:=flat_len hC.len4
 conv=>whnf
 refine BrS.mk (fun hkb=>?_) (fun hkb=>?_)
 ·have hkb:k<n:=by simpa using hkb
  conv=>whnf
  refine callE_S (callE_con (Φ:=fun _ w' v w2=>RatC w2 (Nw (fun _=>False) w' w2) v (((0:Int):Rat))) (fun ρ w' r=>rWholeAll_c 0 w' (by decide) (by decide)) ?_)
  rintro ρ wa1 v1 wb1 r he hb hn
  replace hw:=hw.tr hb
  replace hC:=hC.past (iv':=(wa1.heap.size,wb1.heap.size)::iv) r (oldF w) he fun x hx=>List.mem_cons_of_mem _ hx
  have hd:=hn.got (S:=fun _=>False) r.baseLe (iv:=(wa1.heap.size,wb1.heap.size)::iv) List.mem_cons_self
  clear r he hb hn
  generalize (wa1.heap.size,wb1.heap.size)::iv=iv1 at*
  obtain⟨s1_0,s1_1,s1_2,s1_3,s1_4,s1_5,s1_6,s1_7,rfl⟩:=hd.shape
  conv=>whnf
  rw[show ((0:Int):Rat)=dotTo ys (colOf M k) 0 from rfl]at hd
  refine⟨Nat×(Bool×Bool)×(Option Addr×Option Addr)×(Nat×Nat×Nat×Nat)×World×Iv,fun z=>⟨[(0,.o (.v (.slice ay ys.length cy))),(1,.o (.v (.slice am M.length cm))),(2,.o (.v (.int .i64 n))),(7,.o (.w 0 css.length)),(8,.o (.v (.int .i64 ((k:Nat):Int)))),(9,.o (.p 1 0)),(10,.o (.v (.int .i64 ((z.1:Nat):Int))))],[(1,.box T.Rat [.v (.bool z.2.1.1),.v (.slice z.2.2.1.1 z.2.2.2.1.1 z.2.2.2.1.2.1),.v (.bool z.2.1.2),.v (.slice z.2.2.1.2 z.2.2.2.1.2.2.1 z.2.2.2.1.2.2.2)]),(0,.vec T.Rat 4 css.flatten)],2,z.2.2.2.2.2,z.2.2.2.2.1⟩,fun z=>M.length-z.1,
   fun z=>z.1≤M.length∧Bel w.heap.size w z.2.2.2.2.1∧Fc z.2.2.2.2.1 (Cv (fun _=>False) w.heap.size z.2.2.2.2.2) css ((throughF ys M n M.length).take k)∧RatC z.2.2.2.2.1 (Cv (fun _=>False) w.heap.size z.2.2.2.2.2) (.agg #[.bool z.2.1.1,.slice z.2.2.1.1 z.2.2.2.1.1 z.2.2.2.1.2.1,.bool z.2.1.2,.slice z.2.2.1.2 z.2.2.2.1.2.2.1 z.2.2.2.1.2.2.2]) (dotTo ys (colOf M k) z.1),?_,?_⟩
  ·intro ρ w' r
   exact⟨(0,(s1_0,s1_4),(s1_1,s1_5),(s1_2,s1_3,s1_6,s1_7),w',iv1),⟨by simp,hw.tr r.bel,hC.rel r (oldF w),hd.rel r (oldF w)⟩,Sub.gen [] r ⟨rfl,rfl,trivial⟩ ⟨rfl,rfl,rfl,rfl,rfl,rfl,rfl,trivial⟩ (by simp[ScH,Blk.scopd,At.sc]) (by simp[ScE,SV.sc,At.sc]) (by rfl) (fun lo hi h=>h)⟩
  clear hw hd hC
  rintro⟨i,⟨p0,p4⟩,⟨p1,p5⟩,⟨p2,p3,p6,p7⟩,w1,iv⟩ ⟨hi,hw,hC,hd⟩
  dsimp only at hi hw hC hd ⊢
  conv=>whnf
  refine BrS.mk (fun hib=>?_) (fun hib=>?_)
  ·have hib:i<M.length:=by simpa using hib
   have hs:=rl_dotTo hqy (rl_colOf hqM h2 k) h2 i
   have hs2:2*h*i≤2*h*M.length:=Nat.mul_le_mul_left _ hi
   have hs3:2*h*1≤2*h*M.length:=Nat.mul_le_mul_left _ (by omega)
   obtain⟨x,hxi⟩:∃x,ys[i]? =some x:=⟨_,List.getElem?_eq_getElem (by omega)⟩
   obtain⟨ra,hra⟩:∃r,M[i]? =some r:=⟨_,List.getElem?_eq_getElem hib⟩
   have hral:=hrow ra (List.mem_of_getElem? hra)
   obtain⟨y,hyk⟩:∃x,ra[k]? =some x:=⟨_,List.getElem?_eq_getElem (by omega)⟩
   have hx3:=hqy x (List.mem_of_getElem? hxi)
   have hy3:=hqM.at hra y (List.mem_of_getElem? hyk)
   have hx2:ys.getD i 0=x:=by rw[List.getD,hxi];rfl
   have hy2:(colOf M k).getD i 0=y:=by simp[colOf,List.getD,hra,hyk]
   have hm:=rl_mul x y
   obtain⟨adx,csx,hax,hFx,-,hlx⟩:=ListR.load hy hxi
   obtain⟨f0,f1,f2,f3,f4,f5,f6,f7,rfl,hFx⟩:=hFx
   obtain⟨adm,um,ham,hRm,km1,km2⟩:=SlicesR.load hM hra
   obtain⟨au,cu,rfl,hcu,-⟩:=ListR.shape hRm
   obtain⟨ady,csy,hay,hFy,-,hly⟩:=ListR.load hRm hyk
   obtain⟨q0,q1,q2,q3,q4,q5,q6,q7,rfl,hFy⟩:=hFy
   conv=>whnf
   refine drawn_of_pi hτ hmix [.x 0,.x 1,.x 2,.x 3,.x 4,.x 5,.x 6,.x 7,.x 8,.x 9,.x 10,.x 11,.x 12,.x 13,.x 14] (by kernel_rfl) (by kernel_rfl) ?_
   conv=>whnf
   refine⟨adx,hax,⟨by omega,by omega⟩,?_⟩
   conv=>whnf
   refine⟨[.bool f0,.slice f1 f2 f3,.bool f4,.slice f5 f6 f7],rfl,fun ρ w' r j u hu=>?_,?_⟩
   ·obtain⟨k1,k2⟩:=hlx j u hu
    rw[Int.toNat_natCast,cell_of_heap (w:=w) (w2:=w') (by rw[addB,addB];exact(hw.tr r.bel).block _ (hS _ k1))]
    exact k2
   conv=>whnf
   refine⟨adm,ham,⟨by omega,by omega⟩,?_⟩
   conv=>whnf
   refine⟨.slice au ra.length cu,fun ρ w' r=>?_,?_⟩
   ·rw[Int.toNat_natCast,cell_of_heap (w:=w) (w2:=w') (by rw[addB];exact(hw.tr r.bel).block _ (hS _ km1))]
    exact km2
   conv=>whnf
   refine⟨ady,hay,⟨by omega,by omega⟩,?_⟩
   conv=>whnf
   refine⟨[.bool q0,.slice q1 q2 q3,.bool q4,.slice q5 q6 q7],rfl,fun ρ w' r j u hu=>?_,?_⟩
   ·obtain⟨k1,k2⟩:=hly j u hu
    rw[Int.toNat_natCast,cell_of_heap (w:=w) (w2:=w') (by rw[addB,addB];exact(hw.tr r.bel).block _ (hS _ k1))]
    exact k2
   conv=>whnf
   refine callE_con (Φ:=fun _ w' v w2=>RatC w2 (Nw (fun _=>False) w' w2) v (x*y)) (fun ρ w' r=>rMul_c (fun g hg=>by have:=hS g hg;have:=r.baseLe;omega) (hFx.keep fun g hg=>(hw.tr r.bel).block g (hS g hg)) (hFy.keep fun g hg=>(hw.tr r.bel).block g (hS g hg))) ?_
   rintro ρ wa2 v2 wb2 r he hb hn
   replace hw:=hw.tr hb
   replace hd:=hd.past (iv':=(wa2.heap.size,wb2.heap.size)::iv) r (oldF w) he fun x hx=>List.mem_cons_of_mem _ hx
   replace hC:=hC.past (iv':=(wa2.heap.size,wb2.heap.size)::iv) r (oldF w) he fun x hx=>List.mem_cons_of_mem _ hx
   have hp:=hn.got (S:=fun _=>False) r.baseLe (iv:=(wa2.heap.size,wb2.heap.size)::iv) List.mem_cons_self
   clear r he hb hn
   generalize (wa2.heap.size,wb2.heap.size)::iv=iv2 at*
   obtain⟨s2_0,s2_1,s2_2,s2_3,s2_4,s2_5,s2_6,s2_7,rfl⟩:=hp.shape
   conv=>whnf
   refine callE_con (Φ:=fun _ w' v w2=>RatC w2 (Nw (fun _=>False) w' w2) v (dotTo ys (colOf M k) i+x*y)) (fun ρ w' r=>rAdd_c (Rel.old r (oldF w)) ((hd.rel r (oldF w)).l (by omega)) ((hp.rel r (oldF w)).l (by omega))) ?_
   rintro ρ wa3 v3 wb3 r he hb hn
   replace hw:=hw.tr hb
   clear hd
   replace hC:=hC.past (iv':=(wa3.heap.size,wb3.heap.size)::iv2) r (oldF w) he fun x hx=>List.mem_cons_of_mem _ hx
   clear hp
   have hd2:=hn.got (S:=fun _=>False) r.baseLe (iv:=(wa3.heap.size,wb3.heap.size)::iv2) List.mem_cons_self
   clear r he hb hn
   generalize (wa3.heap.size,wb3.heap.size)::iv2=iv3 at*
   obtain⟨s3_0,s3_1,s3_2,s3_3,s3_4,s3_5,s3_6,s3_7,rfl⟩:=hd2.shape
   conv=>whnf
   rw[show dotTo ys (colOf M k) i+x*y=dotTo ys (colOf M k) (i+1) by rw[dotTo,hx2,hy2]]at hd2
   refine⟨((i+1:Nat):Int),by rw[wrap64]<;>omega,?_⟩
   conv=>whnf
   intro ρ3 w3 r3
   exact⟨(i+1,(s3_0,s3_4),(s3_1,s3_5),(s3_2,s3_3,s3_6,s3_7),w3,_),⟨hib,hw.tr r3.bel,hC.rel r3 (oldF w),hd2.rel r3 (oldF w)⟩,Sub.gen [] r3 ⟨rfl,rfl,trivial⟩ ⟨rfl,rfl,rfl,rfl,rfl,rfl,rfl,trivial⟩ (by simp[ScH,Blk.scopd,At.sc]) (by simp[ScE,SV.sc,At.sc]) (by rfl) (fun lo hi h=>h),by dsimp only;omega⟩
  have hib:i=M.length:=Nat.le_antisymm hi (by simpa using hib)
  subst hib
  conv=>whnf
  have hC2:Fc w1 (Cv (fun _=>False) w.heap.size iv) (css++[[.bool p0,.slice p1 p2 p3,.bool p4,.slice p5 p6 p7]]) ((throughF ys M n M.length).take (k+1)):=by
   have e:(throughF ys M n M.length)[k]? =some (dotTo ys (colOf M k) M.length):=by simp[throughF,hkb]
   rw[List.take_add_one,e]
   exact hC.push hd.fourC
  have hfl2:css.flatten++([.bool p0,.slice p1 p2 p3,.bool p4,.slice p5 p6 p7]:List Value)=(css++([[.bool p0,.slice p1 p2 p3,.bool p4,.slice p5 p6 p7]]:List (List Value))).flatten:=by simp
  clear hC hd
  refine .inl ?_
  conv=>whnf
  refine⟨by omega,by omega,by unfold maxLen;omega,?_⟩
  conv=>whnf
  refine⟨((k+1:Nat):Int),by rw[wrap64]<;>omega,?_⟩
  conv=>whnf
  intro ρ3 w3 r3
  exact⟨(k+1,css++[[.bool p0,.slice p1 p2 p3,.bool p4,.slice p5 p6 p7]],w3,_),⟨hkb,hw.tr r3.bel,hC2.rel r3 (oldF w)⟩,Sub.gen [(0,3)] r3 ⟨by dsimp only;rw[←hfl2];rfl,trivial⟩ ⟨rfl,rfl,rfl,by dsimp only;rw[List.length_append,List.length_singleton];rfl,rfl,trivial⟩ (by simp[ScH,Blk.scopd]) (by simp[ScE,SV.sc,At.sc]) (by rfl) (fun lo hi h=>h),by dsimp only;omega⟩
 have hkb:k=n:=Nat.le_antisymm hk (by simpa using hkb)
 subst hkb
 conv=>whnf
 intro ρe we re
 refine⟨_,rfl,hw.tr re.bel,?_⟩
 rw[List.take_of_length_le (by rw[throughF_length];omega)]at hC
 have h5:=re.vecSeq (id:=0) (sz:=4) (m:=css.length) rfl hfl (by unfold maxLen;omega) (by decide) hC.one
 have h6:=hC.rel re (oldF w)
 refine⟨css,?_,h6.1,h6.len4,fun j cs q k1 k2=>(h6.2 j cs q k1 k2).weak fun _ hg=>Cv.nw hg re⟩
 rw[←hC.1]
 exact h5.weak fun g hg=>.inr hg
theorem rIsContradiction_c{S:Nat→Prop}{w:World}{v u t:Value}{M:List (List (Int×Int))}{b:List (Int×Int)}{P:List Rat}{h1:Nat}(hS:Old S w)(h:RatMR w S v M)(hL:RatML w S v (valsM M))(hu:RatsL w S u (b.map ratioP))(hp:RatsL w S t P)(hall:∀r∈M,r.length=colsM M)(hbl:b.length=M.length)(hn:colsM M≤1000)
  (hsz:P.length=M.length→(∀q∈P,rl q+1≤h1)∧Ht (valsM M) h1∧(∀q∈b.map ratioP,rl q+1≤h1)∧2≤h1∧2*h1*M.length≤90000):
  Con PG N.ref01_IsContradiction #[v,u,t] w (Ret w fun v' _=>∃d,v'= .bool d∧(d=true→P.length=M.length∧(∀q∈throughF P (valsM M) (colsM M) M.length,q=0)∧dotTo P (b.map ratioP) P.length=1)∧
   (P.length=M.length∧(∀q∈throughF P (valsM M) (colsM M) M.length,q=0)∧dotTo P (b.map ratioP) P.length=1→d=true)):=by
 have hw:Bel w.heap.size w w:=Bel.refl
 have hvl:(valsM M).length=M.length:=by simp[valsM]
 have hlen:∀r∈valsM M,r.length=colsM M:=fun r hr=>by
  rw[valsM]at hr
  obtain⟨x,hx,rfl⟩:=List.mem_map.1 hr
  rw[List.length_map];exact hall x hx
 replace h:=RatMR.arg h []
 replace hL:=RatML.arg hL []
 replace hu:=RatsL.arg hu []
 replace hp:=RatsL.arg hp []
 obtain⟨am,cm,rfl,hcm,hmm⟩:=SlicesR.shape h
 obtain⟨ab,cb,rfl,hcb,-⟩:=ListR.shape hu
 obtain⟨ap,cp,rfl,hcp,-⟩:=ListR.shape hp
 refine in_ref01_IsContradiction (by simp) ?_
 conv=>whnf
 refine BrS.mk (fun h0=>?_) (fun h0=>?_)
 ·have h0:P.length≠M.length:=fun e=>by rw[e]at h0;simp at h0
  conv=>whnf
  intro ρe we re
  exact⟨_,rfl,hw.tr re.bel,false,rfl,fun h=>(by cases h),fun h=>absurd h.1 h0⟩
 have h0:P.length=M.length:=by
  have h4:((P.length:Int)==(M.length:Int))=true:=by simpa using h0
  have:=eq_of_beq h4
  omega
 obtain⟨hqp,hqM,hqb,h2,hbd⟩:=hsz h0
 conv=>whnf
 refine callE_S (callE_con (Φ:=fun _ w' v w2=>v= .int .i64 (colsM M)) (fun ρ w' r=>rColumns_c (Rel.old r hS) (RatMR.rel h r hS)) ?_)
 rintro ρ wa1 v1 wb1 r he hb rfl
 replace hw:=hw.tr hb
 clear h
 replace hL:=RatML.past (iv':=(wa1.heap.size,wb1.heap.size)::[]) hL r hS he fun x hx=>List.mem_cons_of_mem _ hx
 replace hu:=RatsL.past (iv':=(wa1.heap.size,wb1.heap.size)::[]) hu r hS he fun x hx=>List.mem_cons_of_mem _ hx
 replace hp:=RatsL.past (iv':=(wa1.heap.size,wb1.heap.size)::[]) hp r hS he fun x hx=>List.mem_cons_of_mem _ hx
 clear r he hb
 generalize (wa1.heap.size,wb1.heap.size)::[]=iv1 at*
 conv=>whnf
 refine callE_S (callE_con (Φ:=fun _ w' v w2=>RatsC w2 (Nw (fun _=>False) w' w2) v (throughF P (valsM M) (colsM M) M.length)) (fun ρ w' r=>by have hk:=rBefore_c (n:=colsM M) (Rel.old r hS) (RatsL.rel hp r hS) (RatML.rel hL r hS) (h0.trans hvl.symm) hlen (by omega) hqp hqM h2 (by rw[hvl];exact hbd);rw[hvl]at hk;exact hk) ?_)
 rintro ρ wa2 v2 wb2 r he hb hn0
 replace hw:=hw.tr hb
 clear hL
 replace hu:=RatsL.past (iv':=(wa2.heap.size,wb2.heap.size)::iv1) hu r hS he fun x hx=>List.mem_cons_of_mem _ hx
 replace hp:=RatsL.past (iv':=(wa2.heap.size,wb2.heap.size)::iv1) hp r hS he fun x hx=>List.mem_cons_of_mem _ hx
 have hz:=RatsC.got (S:=fun _=>False) hn0 r.baseLe (iv:=(wa2.heap.size,wb2.heap.size)::iv1) List.mem_cons_self
 clear r he hb
 generalize (wa2.heap.size,wb2.heap.size)::iv1=iv2 at*
 clear hn0
 have hTl:=throughF_length P (valsM M) (colsM M) M.length
 obtain⟨az,cz,rfl,hcz,-⟩:=ListR.shape hz
 generalize hT:throughF P (valsM M) (colsM M) M.length=T at*
 rw[hTl]at hcz hz ⊢
 conv=>whnf
 refine⟨Nat×World×Iv,fun z=>⟨[(1,.o (.v (.slice ab (b.map ratioP).length cb))),(2,.o (.v (.slice ap P.length cp))),(7,.o (.v (.slice az (colsM M) cz))),(8,.o (.v (.int .i64 ((z.1:Nat):Int))))],[],0,z.2.2,z.2.1⟩,fun z=>colsM M-z.1,
  fun z=>z.1≤colsM M∧(∀(j:Nat) q,j<z.1→T[j]? =some q→q=0)∧Bel w.heap.size w z.2.1∧RatsL z.2.1 (Cv S w.heap.size z.2.2) (.slice ab (b.map ratioP).length cb) (b.map ratioP)∧RatsL z.2.1 (Cv S w.heap.size z.2.2) (.slice ap P.length cp) P∧RatsC z.2.1 (Cv (fun _=>False) w.heap.size z.2.2) (.slice az (colsM M) cz) T,?_,?_⟩
 ·intro ρ w' r
  exact⟨(0,w',iv2),⟨Nat.zero_le _,fun j q hj=>by dsimp only at hj;omega,hw.tr r.bel,RatsL.rel hu r hS,RatsL.rel hp r hS,RatsC.rel hz r (oldF w)⟩,Sub.gen [] r trivial ⟨rfl,rfl,rfl,rfl,trivial⟩ (by simp[ScH]) (by simp[ScE,SV.sc,At.sc]) (by rfl) (fun lo hi h=>h)⟩
 clear hw hu hp hz
 rintro⟨i,w2,iv⟩ ⟨hi,hzr,hw,hu,hp,hz⟩
 dsimp only at hi hzr hw hu hp hz ⊢
 conv=>whnf
 refine BrS.mk (fun hib=>?_) (fun hib=>?_)
 ·have hib:i<colsM M:=by simpa using hib
  obtain⟨q,hq⟩:∃q,T[i]? =some q:=⟨_,List.getElem?_eq_getElem (by omega)⟩
  obtain⟨adq,cs,haq,hF,_,hl⟩:=ListR.load hz hq
  obtain⟨b3,a3,n3,c3,b4,a4,n4,c4,rfl,hF⟩:=hF
  conv=>whnf
  refine⟨adq,haq,⟨by omega,by omega⟩,?_⟩
  conv=>whnf
  refine⟨[.bool b3,.slice a3 n3 c3,.bool b4,.slice a4 n4 c4],rfl,fun ρ w' r j u hu=>?_,?_⟩
  ·obtain⟨k1,k2⟩:=hl j u hu
   rw[Int.toNat_natCast,cell_of_heap (w:=w2) (w2:=w') (by rw[addB,addB];exact Rel.same r (oldF w) k1)]
   exact k2
  conv=>whnf
  refine callE_S (callE_con (Φ:=fun _ w' v w2=>v= .int .i64 (rs q)) (fun ρ w' r=>rSignOf_c (Rel.old r (oldF w)) (hF.rel r (oldF w))) ?_)
  rintro ρ wa3 v3 wb3 r he hb rfl
  replace hw:=hw.tr hb
  replace hu:=RatsL.past (iv':=(wa3.heap.size,wb3.heap.size)::iv) hu r hS he fun x hx=>List.mem_cons_of_mem _ hx
  replace hp:=RatsL.past (iv':=(wa3.heap.size,wb3.heap.size)::iv) hp r hS he fun x hx=>List.mem_cons_of_mem _ hx
  replace hz:=RatsC.past (iv':=(wa3.heap.size,wb3.heap.size)::iv) hz r (oldF w) he fun x hx=>List.mem_cons_of_mem _ hx
  clear r he hb
  generalize (wa3.heap.size,wb3.heap.size)::iv=iv3 at*
  conv=>whnf
  clear hl hF
  refine BrS.mk (fun hs=>?_) (fun hs=>?_)
  ·have hs:q≠0:=fun e=>by rw[rs_zero.2 e]at hs;exact absurd hs (by decide)
   conv=>whnf
   intro ρe we re
   exact⟨_,rfl,hw.tr re.bel,false,rfl,fun h=>(by cases h),fun h=>absurd (h.2.1 q (List.mem_of_getElem? hq)) hs⟩
  have hs:q=0:=rs_zero.1 (by simpa using hs)
  conv=>whnf
  refine⟨((i+1:Nat):Int),by rw[wrap64]<;>omega,?_⟩
  conv=>whnf
  intro ρ3 w3 r3
  exact⟨(i+1,w3,_),⟨hib,fun j q2 h3 h4=>by
    by_cases hj:j=i
    ·rw[hj,hq]at h4;injection h4 with h4;rw[←h4,hs]
    ·exact hzr j q2 (by dsimp only at h3;omega) h4,hw.tr r3.bel,RatsL.rel hu r3 hS,RatsL.rel hp r3 hS,RatsC.rel hz r3 (oldF w)⟩,
   Sub.gen [] r3 trivial ⟨rfl,rfl,rfl,rfl,trivial⟩ (by simp[ScH]) (by simp[ScE,SV.sc,At.sc]) (by rfl) (fun lo hi h=>h),by dsimp only;omega⟩
 have hib:i=colsM M:=Nat.le_antisymm hi (by simpa using hib)
 have hall0:∀q∈T,q=0:=fun q hq=>by
  obtain⟨j,hj⟩:=List.getElem?_of_mem hq
  have:=(List.getElem?_eq_some_iff.1 hj).1
  exact hzr j q (by omega) hj
 clear hz hzr
 conv=>whnf
 refine callE_S (callE_con (Φ:=fun _ w' v w2=>RatC w2 (Nw (fun _=>False) w' w2) v (dotTo P (b.map ratioP) P.length)) (fun ρ w' r=>rDot_c (Rel.old r hS) (RatsL.rel hp r hS) (RatsL.rel hu r hS) (by rw[List.length_map];omega) hqp hqb h2 (by rw[h0];exact hbd)) ?_)
 rintro ρ wa6 v6 wb6 r he hb hn
 replace hw:=hw.tr hb
 clear hu
 clear hp
 have hd:=hn.got (S:=fun _=>False) r.baseLe (iv:=(wa6.heap.size,wb6.heap.size)::iv) List.mem_cons_self
 clear r he hb hn
 generalize (wa6.heap.size,wb6.heap.size)::iv=iv6 at*
 obtain⟨s6_0,s6_1,s6_2,s6_3,s6_4,s6_5,s6_6,s6_7,rfl⟩:=hd.shape
 conv=>whnf
 refine callE_S (callE_con (Φ:=fun _ w' v w2=>RatC w2 (Nw (fun _=>False) w' w2) v (((1:Int):Rat))) (fun ρ w' r=>rWholeAll_c 1 w' (by decide) (by decide)) ?_)
 rintro ρ wa7 v7 wb7 r he hb hn
 replace hw:=hw.tr hb
 replace hd:=hd.past (iv':=(wa7.heap.size,wb7.heap.size)::iv6) r (oldF w) he fun x hx=>List.mem_cons_of_mem _ hx
 have hone:=hn.got (S:=fun _=>False) r.baseLe (iv:=(wa7.heap.size,wb7.heap.size)::iv6) List.mem_cons_self
 clear r he hb hn
 generalize (wa7.heap.size,wb7.heap.size)::iv6=iv7 at*
 obtain⟨s7_0,s7_1,s7_2,s7_3,s7_4,s7_5,s7_6,s7_7,rfl⟩:=hone.shape
 conv=>whnf
 have hrd:=rl_dotTo hqp hqb h2 P.length
 rw[h0]at hrd hd
 refine callE_S (callE_con (Φ:=fun _ w' v w2=>v= .int .i64 (rs (dotTo P (b.map ratioP) M.length-((1:Int):Rat)))) (fun ρ w' r=>rCmp_c (Rel.old r (oldF w)) ((hd.rel r (oldF w)).l (by omega)) ((hone.rel r (oldF w)).l (by decide))) ?_)
 rintro ρ wa8 v8 wb8 r he hb rfl
 replace hw:=hw.tr hb
 replace hd:=hd.past (iv':=(wa8.heap.size,wb8.heap.size)::iv7) r (oldF w) he fun x hx=>List.mem_cons_of_mem _ hx
 replace hone:=hone.past (iv':=(wa8.heap.size,wb8.heap.size)::iv7) r (oldF w) he fun x hx=>List.mem_cons_of_mem _ hx
 clear r he hb
 generalize (wa8.heap.size,wb8.heap.size)::iv7=iv8 at*
 conv=>whnf
 intro ρe we re
 refine⟨_,rfl,hw.tr re.bel,_,rfl,fun h=>⟨h0,hall0,?_⟩,fun h=>?_⟩
 ·have h6:(rs (dotTo P (b.map ratioP) M.length-((1:Int):Rat))==0)=true:=h
  rw[h0]
  exact rs_eq.1 (eq_of_beq h6)
 ·have h6:rs (dotTo P (b.map ratioP) M.length-((1:Int):Rat))=0:=rs_eq.2 (by rw[←h0];exact h.2.2)
  show(rs (dotTo P (b.map ratioP) M.length-((1:Int):Rat))==0)=true
  rw[h6]
  rfl
end Go.Ex

/- Solve, CheckSolution, Basic and IsContradiction at the sizes of the laws. Printed by program. No condition but sizes. -/
namespace Go.Ex
open Go Go.Sx Go.Proofs

/-- a list that the laws are told for -/
def SmallB(w:World)(S:Nat→Prop)(v:Value)(b:List (Int×Int)):Prop:=RatsL w S v (b.map ratioP)∧(∀q∈b.map ratioP,rl q≤3)∧Few b
theorem SmallB.keep{S:Nat→Prop}{w w2:World}{v:Value}{b:List (Int×Int)}(h:SmallB w S v b)(hk:∀g,S g→w2.heap[g]? =w.heap[g]?):SmallB w2 S v b:=⟨RatsL.keep h.1 hk,h.2⟩
theorem SmallB.weak{S S':Nat→Prop}{w:World}{v:Value}{b:List (Int×Int)}(h:SmallB w S v b)(hk:∀g,S g→S' g):SmallB w S' v b:=⟨RatsL.weak h.1 hk,h.2⟩
section
variable{S S':Nat→Prop}{H:Hp}{nx:Nat}{iv iv':Iv}{B:Nat}{w w' w2:World}{ρ:Nat→Sx.Val}{v:Value}{b:List (Int×Int)}
theorem SmallB.rel(h:SmallB w (Cv S B iv) v b)(r:Rel H nx iv B w ρ w')(hS:∀g,S g→g<B):SmallB w' (Cv S B iv) v b:=h.keep fun _ hg=>Rel.same r hS hg
theorem SmallB.past(h:SmallB w (Cv S B iv) v b)(r:Rel H nx iv B w ρ w')(hS:∀g,S g→g<B)(he:Ext w' w2)(hm:∀p,p∈iv→p∈iv'):SmallB w2 (Cv S B iv') v b:=
 ((h.rel r hS).keep fun g hg=>he.block g (Rel.old r hS g hg)).weak fun _ hg=>hg.mono hm
theorem SmallB.arg(h:SmallB w S v b)(iv:Iv):SmallB w (Cv S w.heap.size iv) v b:=h.weak fun _ h=>.inl h
end

section
variable{S:Nat→Prop}{w:World}{v u:Value}{M:List (List (Int×Int))}{b:List (Int×Int)}
theorem valsM_len(M:List (List (Int×Int))):(valsM M).length=M.length:=by simp[valsM]
theorem valsM_row(hall:∀r∈M,r.length=colsM M):Len (colsM M) (valsM M):=fun r hr=>by
 rw[valsM]at hr
 obtain⟨x,hx,rfl⟩:=List.mem_map.1 hr
 rw[List.length_map];exact hall x hx
theorem allF_ht{M:List (List Rat)}{b:List Rat}{h:Nat}(hM:Ht M h)(hb:∀q∈b,rl q+1≤h)(h2:2≤h):Ht (allF M b) h:=fun r hr q hq=>by
 obtain⟨i,hi⟩:=List.getElem?_of_mem hr
 unfold allF at hi
 rw[List.getElem?_mapIdx]at hi
 cases hx:M[i]? with
 |none=>rw[hx]at hi;cases hi
 |some x=>
  rw[hx]at hi
  injection hi with hi
  subst hi
  rcases List.mem_append.1 hq with hq|hq
  ·exact hM x (List.mem_of_getElem? hx) q hq
  ·rcases List.mem_cons.1 hq with hq|hq
   ·rw[hq];exact rl_getD hb h2 i
   ·unfold unitL at hq
    rcases List.mem_or_eq_of_mem_set hq with hq|hq
    ·rw[List.eq_of_mem_replicate hq];exact Nat.le_trans (by decide) h2
    ·rw[hq,rl_one];exact h2
theorem widerF_ht{M:List (List Rat)}{b:List Rat}{h:Nat}(hM:Ht M h)(hb:∀q∈b,rl q+1≤h)(h2:2≤h):Ht (widerF M b) h:=fun r hr q hq=>by
 obtain⟨i,hi⟩:=List.getElem?_of_mem hr
 unfold widerF at hi
 rw[List.getElem?_mapIdx]at hi
 cases hx:M[i]? with
 |none=>rw[hx]at hi;cases hi
 |some x=>
  rw[hx]at hi
  injection hi with hi
  subst hi
  rcases List.mem_append.1 hq with hq|hq
  ·exact hM x (List.mem_of_getElem? hx) q hq
  ·rw[List.mem_singleton.1 hq];exact rl_getD hb h2 i
/-- the sizes of a system that the laws are told for -/
theorem SmallM.sys(h:SmallM w S v M){S':Nat→Prop}{w':World}(hb:SmallB w' S' u b)(he:errS M b=0):
  (∀r∈M,r.length=colsM M)∧b.length=M.length∧M.length≤5∧colsM M≤5∧Ht (valsM M) 4∧(∀q∈b.map ratioP,rl q+1≤4)∧Ht (allF (valsM M) (b.map ratioP)) 4∧Ht (widerF (valsM M) (b.map ratioP)) 4∧∀k,k≤M.length→4^k*4≤4096:=by
 obtain⟨h1,h2⟩:=errS_zero he
 obtain⟨k1,k2,k3,k4,-⟩:=h.sizes h1
 have hq:∀q∈b.map ratioP,rl q+1≤4:=fun q hq=>by have:=hb.2.1 q hq;omega
 exact⟨k1,h2,k2,k3,k4,hq,allF_ht k4 hq (by decide),widerF_ht k4 hq (by decide),fun k hk=>Nat.le_trans (Nat.mul_le_mul_right 4 (Nat.pow_le_pow_right (by decide) (Nat.le_trans hk k2))) (by decide)⟩
/-- the elimination of a system -/
abbrev sysF(M:List (List (Int×Int)))(b:List (Int×Int)):List (List Rat)×List Nat:=reduceF (allF (valsM M) (b.map ratioP)) (colsM M)
abbrev solX(M:List (List (Int×Int)))(b:List (Int×Int)):List Rat:=xvecTo (sysF M b).1 (sysF M b).2 (colsM M) (sysF M b).2.length
abbrev solK(M:List (List (Int×Int)))(b:List (Int×Int)):List (List Rat):=kernelTo (sysF M b).1 (sysF M b).2 (colsM M) (colsM M)
def Solvable(M:List (List (Int×Int)))(b:List (Int×Int)):Prop:=∀k,(sysF M b).2.length≤k→k<M.length→at2 (sysF M b).1 k (colsM M)=0
/-- a contradiction, by its values -/
def Contra(M:List (List (Int×Int)))(b:List (Int×Int))(P:List Rat):Prop:=P.length=M.length∧(∀q∈throughF P (valsM M) (colsM M) M.length,q=0)∧dotTo P (b.map ratioP) P.length=1
theorem sysF_sizes{h:Nat}(hht:Ht (allF (valsM M) (b.map ratioP)) h)(h2:2≤h):(sysF M b).1.length=M.length∧(sysF M b).2.length≤M.length∧Ht (sysF M b).1 (4^(sysF M b).2.length*h):=by
 obtain⟨hAl,hpl,-,hAh⟩:=reduceF_inv (cols:=colsM M) hht h2
 rw[allF_length,valsM_len]at hAl hpl
 exact⟨hAl,hpl,hAh⟩
theorem BasicOk_c(hS:Old S w)(h:RatMR w S v M)(hM:SmallM w S v M)(hb:SmallB w S u b)(he:errS M b=0):
  Con PG N.ref01_Basic #[v,u] w (Ret w fun v' w2=>(¬Solvable M b∧v'= .tuple #[.slice none 0 0,.bool false])∨(Solvable M b∧∃vx,v'= .tuple #[vx,.bool true]∧RatsC w2 (Nw (fun _=>False) w w2) vx (solX M b))):=by
 obtain⟨hall,hbl,hM5,hc5,hht,hqb,-,hA,hpw⟩:=hM.sys hb he
 have hw:=reduceF_wider (b:=b.map ratioP) (valsM_row hall)
 refine(rBasic_c (h0:=4) hS h hM.2.2.1 hb.1 hall hbl (by omega) (by omega) hA (by decide) (by have:=hpw _ (Nat.le_refl _);omega)).mono fun _ w2 ⟨v2,e1,e2,e3⟩=>⟨v2,e1,e2,?_⟩
 rw[hw]at e3
 dsimp only at e3
 simp only[at2_tk (Nat.lt_succ_self _),xvecTo_tk]at e3
 rcases e3 with⟨j,h1,h2,h3,h4⟩|⟨h1,h2⟩
 ·exact .inl ⟨fun hs=>h3 (hs j h1 h2),h4⟩
 ·exact .inr ⟨h1,h2⟩
theorem BasicNo_c(hS:Old S w)(h:RatMR w S v M)(hM:SmallM w S v M)(hb:SmallB w S u b)(he:errS M b=0)(hn:¬Solvable M b):Con PG N.ref01_Basic #[v,u] w (Ret w fun v' _=>v'= .tuple #[.slice none 0 0,.bool false]):=
 (BasicOk_c hS h hM hb he).mono fun _ _ ⟨v2,e1,e2,e3⟩=>⟨v2,e1,e2,e3.elim (fun k=>k.2) fun k=>absurd k.1 hn⟩
theorem BasicYes_c(hS:Old S w)(h:RatMR w S v M)(hM:SmallM w S v M)(hb:SmallB w S u b)(he:errS M b=0)(hn:Solvable M b):Con PG N.ref01_Basic #[v,u] w (Ret w fun v' w2=>∃vx,v'= .tuple #[vx,.bool true]∧RatsC w2 (Nw (fun _=>False) w w2) vx (solX M b)):=
 (BasicOk_c hS h hM hb he).mono fun _ _ ⟨v2,e1,e2,e3⟩=>⟨v2,e1,e2,e3.elim (fun k=>absurd hn k.1) fun k=>k.2⟩
theorem KernelM_c(hS:Old S w)(h:RatMR w S v M)(hM:SmallM w S v M)(he:errM M=0)(b:List (Int×Int)):
  Con PG N.ref01_Kernel #[v] w (Ret w fun v' w2=>RatMC w2 (Nw (fun _=>False) w w2) v' (solK M b)):=by
 obtain⟨hall,hM5,hc5,hht,hpw⟩:=hM.sizes he
 have hw:=reduceF_M (b:=b.map ratioP) (valsM_row hall)
 refine(rKernel_c (h0:=4) hS h hM.2.2.1 hall (by omega) (by omega) hht (by decide) (by omega)).mono fun _ w2 ⟨v2,e1,e2,e3⟩=>⟨v2,e1,e2,?_⟩
 rw[hw]at e3
 dsimp only at e3
 rw[kernelTo_tk]at e3
 exact e3
end
end Go.Ex

/- CheckSolution of the reference, at the sizes of the laws. Printed by program. No condition but sizes. -/
namespace Go.Ex
open Go Go.Sx Go.Proofs

theorem RatMC.l{S:Nat→Prop}{w:World}{v:Value}{K:List (List Rat)}(h:RatMC w S v K)(hq:∀r∈K,∀q∈r,rl q≤100000):RatML w S v K:=by
 obtain⟨rv,h1,h2,h3⟩:=h
 exact⟨rv,h1,h2,fun i u x k1 k2=>(h3 i u x k1 k2).l (hq x (List.mem_of_getElem? k2))⟩
theorem requal_c{S:Nat→Prop}{w:World}{v u:Value}{xs ys:List Rat}(hS:Old S w)(hx:RatsL w S v xs)(hy:RatsL w S u ys):
  Con PG N.ref01_equal #[v,u] w (Ret w fun v' _=>v'= .bool (decide (xs=ys))):=by
 have hw:Bel w.heap.size w w:=Bel.refl
 obtain⟨ax,cx,rfl,hcx,hmx⟩:=ListR.shape hx
 obtain⟨ay,cy,rfl,hcy,-⟩:=ListR.shape hy
 unfold maxLen at hmx
 refine in_ref01_equal (by simp) ?_
 conv=>whnf
 refine BrS.mk (fun h0=>?_) (fun h0=>?_)
 ·have h0:xs.length≠ys.length:=fun e=>by rw[e]at h0;simp at h0
  conv=>whnf
  intro ρe we re
  exact⟨_,rfl,hw.tr re.bel,by rw[decide_eq_false fun e=>h0 (by rw[e])];rfl⟩
 have h0:xs.length=ys.length:=by
  have h4:((xs.length:Int)==(ys.length:Int))=true:=by simpa using h0
  have:=eq_of_beq h4
  omega
 conv=>whnf
 refine⟨Nat×World×Iv,fun z=>⟨[(0,.o (.v (.slice ax xs.length cx))),(1,.o (.v (.slice ay ys.length cy))),(5,.o (.v (.int .i64 ((z.1:Nat):Int))))],[],0,z.2.2,z.2.1⟩,fun z=>xs.length-z.1,
  fun z=>z.1≤xs.length∧Bel w.heap.size w z.2.1∧∀j,j<z.1→xs[j]? =ys[j]?,?_,?_⟩
 ·intro ρ w' r
  exact⟨(0,w',[]),⟨by simp,hw.tr r.bel,fun j hj=>by dsimp only at hj;omega⟩,Sub.gen [] r trivial ⟨rfl,rfl,rfl,trivial⟩ (by simp[ScH]) (by simp[ScE,SV.sc,At.sc]) (by rfl) (fun lo hi h=>h)⟩
 clear hw
 rintro⟨i,w1,iv⟩ ⟨hi,hw,ht⟩
 dsimp only at hi hw ht ⊢
 conv=>whnf
 refine BrS.mk (fun hib=>?_) (fun hib=>?_)
 ·have hib:i<xs.length:=by simpa using hib
  obtain⟨x,hxi⟩:∃x,xs[i]? =some x:=⟨_,List.getElem?_eq_getElem hib⟩
  obtain⟨y,hyi⟩:∃x,ys[i]? =some x:=⟨_,List.getElem?_eq_getElem (by omega)⟩
  obtain⟨adx,csx,hax,hFx,-,hlx⟩:=ListR.load hx hxi
  obtain⟨ady,csy,hay,hFy,-,hly⟩:=ListR.load hy hyi
  obtain⟨f0,f1,f2,f3,f4,f5,f6,f7,rfl,hFx⟩:=hFx
  obtain⟨q0,q1,q2,q3,q4,q5,q6,q7,rfl,hFy⟩:=hFy
  conv=>whnf
  refine drawn_of_pi hτ hmix [.x 0,.x 1,.x 2,.x 3,.x 4,.x 5,.x 6,.x 7,.x 8,.x 9] (by kernel_rfl) (by kernel_rfl) ?_
  conv=>whnf
  refine⟨adx,hax,⟨by omega,by omega⟩,?_⟩
  conv=>whnf
  refine⟨[.bool f0,.slice f1 f2 f3,.bool f4,.slice f5 f6 f7],rfl,fun ρ w' r j u hu=>?_,?_⟩
  ·obtain⟨k1,k2⟩:=hlx j u hu
   rw[Int.toNat_natCast,cell_of_heap (w:=w) (w2:=w') (by rw[addB,addB];exact(hw.tr r.bel).block _ (hS _ k1))]
   exact k2
  conv=>whnf
  refine⟨ady,hay,⟨by omega,by omega⟩,?_⟩
  conv=>whnf
  refine⟨[.bool q0,.slice q1 q2 q3,.bool q4,.slice q5 q6 q7],rfl,fun ρ w' r j u hu=>?_,?_⟩
  ·obtain⟨k1,k2⟩:=hly j u hu
   rw[Int.toNat_natCast,cell_of_heap (w:=w) (w2:=w') (by rw[addB,addB];exact(hw.tr r.bel).block _ (hS _ k1))]
   exact k2
  conv=>whnf
  refine callE_con (Φ:=fun _ w' v w2=>v= .int .i64 (rs (x-y))) (fun ρ w' r=>rCmp_c (fun g hg=>by have:=hS g hg;have:=r.baseLe;omega) (hFx.keep fun g hg=>(hw.tr r.bel).block g (hS g hg)) (hFy.keep fun g hg=>(hw.tr r.bel).block g (hS g hg))) ?_
  rintro ρ wa1 v1 wb1 r he hb rfl
  replace hw:=hw.tr hb
  clear r he hb
  generalize (wa1.heap.size,wb1.heap.size)::iv=iv1 at*
  conv=>whnf
  refine BrS.mk (fun hs=>?_) (fun hs=>?_)
  ·have hs:x≠y:=fun e=>by rw[rs_eq.2 e]at hs;exact absurd hs (by decide)
   conv=>whnf
   intro ρe we re
   exact⟨_,rfl,hw.tr re.bel,by rw[decide_eq_false fun e=>hs (by rw[e,hyi]at hxi;injection hxi with hxi;exact hxi.symm)];rfl⟩
  have hs:x=y:=rs_eq.1 (by simpa using hs)
  conv=>whnf
  refine⟨((i+1:Nat):Int),by rw[wrap64]<;>omega,?_⟩
  conv=>whnf
  intro ρ3 w3 r3
  exact⟨(i+1,w3,_),⟨hib,hw.tr r3.bel,fun j hj=>by
    rcases Nat.lt_or_ge j i with h1|h1
    ·exact ht j h1
    ·rw[show j=i by dsimp only at hj;omega,hxi,hyi,hs]⟩,Sub.gen [] r3 trivial ⟨rfl,rfl,rfl,trivial⟩ (by simp[ScH]) (by simp[ScE,SV.sc,At.sc]) (by rfl) (fun lo hi h=>h),by dsimp only;omega⟩
 have hib:i=xs.length:=Nat.le_antisymm hi (by simpa using hib)
 conv=>whnf
 intro ρe we re
 exact⟨_,rfl,hw.tr re.bel,by
   rw[decide_eq_true (List.ext_getElem? fun j=>by
    rcases Nat.lt_or_ge j xs.length with h1|h1
    ·exact ht j (by omega)
    ·rw[List.getElem?_eq_none h1,List.getElem?_eq_none (by omega)])]
   rfl⟩
theorem solX_sz{S:Nat→Prop}{w:World}{v:Value}{M:List (List (Int×Int))}{b:List (Int×Int)}(hM:SmallM w S v M){S':Nat→Prop}{w':World}{u:Value}(hb:SmallB w' S' u b)(he:errS M b=0):(∀q∈solX M b,rl q≤100000)∧∀r∈solK M b,∀q∈r,rl q≤100000:=by
 obtain⟨hall,hbl,hM5,hc5,hht,hqb,hA,-,hpw⟩:=hM.sys hb he
 obtain⟨hAl,hpl,hAh⟩:=sysF_sizes hA (by decide)
 have hp:=hpw _ hpl
 have h2:2≤4^(sysF M b).2.length*4:=by have:=Nat.pow_pos (n:=(sysF M b).2.length) (show 0<4 by decide);omega
 exact⟨fun q hq=>by have:=xvecTo_ht hAh h2 _ _ _ q hq;omega,fun r hr q hq=>by have:=(kernelTo_ht hAh h2 _ _ _ r hr).2 q hq;omega⟩
theorem ContraS_c{S:Nat→Prop}{w:World}{v u t:Value}{M:List (List (Int×Int))}{b:List (Int×Int)}{P:List Rat}(hS:Old S w)(h:RatMR w S v M)(hM:SmallM w S v M)(hb:SmallB w S u b)(he:errS M b=0)(hsz:∀q∈P,rl q≤3)(hp:RatsL w S t P):
  Con PG N.ref01_IsContradiction #[v,u,t] w (Ret w fun v' _=>∃d,v'= .bool d∧(d=true→Contra M b P)∧(Contra M b P→d=true)):=by
 obtain⟨hall,hbl,hM5,hc5,hht,hqb,-,hA,hpw⟩:=hM.sys hb he
 exact rIsContradiction_c (h1:=4) hS h hM.2.2.1 hb.1 hp hall hbl (by omega) (fun _=>⟨fun q hq=>by have:=hsz q hq;omega,hht,hqb,by decide,by omega⟩)
theorem rCheckSolution_c{S:Nat→Prop}{w:World}{v u vx vk vp:Value}{z:Int}{M:List (List (Int×Int))}{b:List (Int×Int)}{K:List (List Rat)}{X P:List Rat}(hS:Old S w)(h:RatMR w S v M)(hM:SmallM w S v M)(hB:SmallB w S u b)(he:errS M b=0)
  (hx:RatsL w S vx X) (hk:RatML w S vk K) (hp:RatsL w S vp P) (hpq:∀q∈P,rl q≤3) (hX8:X.length≤1000000) (hK8:K.length≤1000000):
  Con PG N.ref01_CheckSolution #[v,u,.agg #[.int .i64 z,vx,vk,vp]] w (Ret w fun v' _=>∃e:Nat,v'= .int .i64 e∧(RightE (valsM M) (b.map ratioP) (colsM M) z X K P→e=0)∧(¬RightE (valsM M) (b.map ratioP) (colsM M) z X K P→e=25)):=by
 replace h:=RatMR.arg h []
 replace hM:=SmallM.arg hM []
 replace hB:=SmallB.arg hB []
 replace hx:=RatsL.arg hx []
 replace hk:=RatML.arg hk []
 replace hp:=RatsL.arg hp []
 have hw:Bel w.heap.size w w:=Bel.refl
 have hG:RightE (valsM M) (b.map ratioP) (colsM M) z X K P↔(z=0∧P=[]∧Solvable M b∧X=solX M b∧K=solK M b)∨(z=1∧X=[]∧K=[]∧Contra M b P):=by
  unfold RightE Contra Solvable
  rw[valsM_len]
 have hbm:=hB.1
 obtain⟨am,cm,rfl,hcm,-⟩:=SlicesR.shape h
 obtain⟨ab,cb,rfl,hcb,-⟩:=ListR.shape hbm
 rw[List.length_map]at hB hcb ⊢
 obtain⟨ax,cx,rfl,hcx,hmx⟩:=ListR.shape hx
 obtain⟨ak,ck,rfl,hck,hmk⟩:=SlicesR.shape hk
 obtain⟨ap,cp,rfl,hcp,hmp⟩:=ListR.shape hp
 clear hbm
 refine in_ref01_CheckSolution (by simp) ?_
 conv=>whnf
 have hsz:=solX_sz hM hB he
 by_cases hs:Solvable M b
 ·refine callE_S (callE_con (Φ:=fun _ w' v w2=>∃vx,v= .tuple #[vx,.bool true]∧RatsC w2 (Nw (fun _=>False) w' w2) vx (solX M b)) (fun ρ w' r=>BasicYes_c (Rel.old r hS) (RatMR.rel h r hS) (SmallM.rel hM r hS) (SmallB.rel hB r hS) he hs) ?_)
  rintro ρ wa1 v1 wb1 r he hb ⟨vx2,rfl,k1⟩
  replace hw:=hw.tr hb
  replace h:=RatMR.past (iv':=(wa1.heap.size,wb1.heap.size)::[]) h r hS he fun x hx=>List.mem_cons_of_mem _ hx
  replace hM:=SmallM.past (iv':=(wa1.heap.size,wb1.heap.size)::[]) hM r hS he fun x hx=>List.mem_cons_of_mem _ hx
  replace hB:=SmallB.past (iv':=(wa1.heap.size,wb1.heap.size)::[]) hB r hS he fun x hx=>List.mem_cons_of_mem _ hx
  replace hx:=RatsL.past (iv':=(wa1.heap.size,wb1.heap.size)::[]) hx r hS he fun x hx=>List.mem_cons_of_mem _ hx
  replace hk:=RatML.past (iv':=(wa1.heap.size,wb1.heap.size)::[]) hk r hS he fun x hx=>List.mem_cons_of_mem _ hx
  replace hp:=RatsL.past (iv':=(wa1.heap.size,wb1.heap.size)::[]) hp r hS he fun x hx=>List.mem_cons_of_mem _ hx
  have hx2:=RatsC.l (RatsC.got (S:=fun _=>False) k1 r.baseLe (iv:=(wa1.heap.size,wb1.heap.size)::[]) List.mem_cons_self) hsz.1
  clear r he hb
  generalize (wa1.heap.size,wb1.heap.size)::[]=iv1 at*
  clear k1
  obtain⟨ax2,cx2,rfl,hcx2,-⟩:=ListR.shape hx2
  conv=>whnf
  refine BrS.mk (fun hz=>?_) (fun hz=>?_)
  ·have hz:z=0:=eq_of_beq hz
   subst hz
   conv=>whnf
   refine callE_S (callE_con (Φ:=fun _ w' v w2=>RatMC w2 (Nw (fun _=>False) w' w2) v (solK M b)) (fun ρ w' r=>KernelM_c (Rel.old r hS) (RatMR.rel h r hS) (SmallM.rel hM r hS) (errS_zero he).1 b) ?_)
   rintro ρ wa2 v2 wb2 r he hb k1
   replace hw:=hw.tr hb
   clear h
   clear hM
   clear hB
   replace hx:=RatsL.past (iv':=(wa2.heap.size,wb2.heap.size)::iv1) hx r hS he fun x hx=>List.mem_cons_of_mem _ hx
   replace hk:=RatML.past (iv':=(wa2.heap.size,wb2.heap.size)::iv1) hk r hS he fun x hx=>List.mem_cons_of_mem _ hx
   clear hp
   replace hx2:=RatsL.past (iv':=(wa2.heap.size,wb2.heap.size)::iv1) hx2 r (oldF w) he fun x hx=>List.mem_cons_of_mem _ hx
   have hk2:=RatMC.l (RatMC.got (S:=fun _=>False) k1 r.baseLe (iv:=(wa2.heap.size,wb2.heap.size)::iv1) List.mem_cons_self) hsz.2
   clear r he hb
   generalize (wa2.heap.size,wb2.heap.size)::iv1=iv2 at*
   clear k1
   obtain⟨ak2,ck2,rfl,hck2,-⟩:=SlicesR.shape hk2
   conv=>whnf
   refine callE_S (callE_con (Φ:=fun _ w' v w2=>v= .bool (decide (X=solX M b))) (fun ρ w' r=>requal_c (Rel.old r hS) (RatsL.rel hx r hS) (RatsL.weak (RatsL.rel hx2 r (oldF w)) fun _ hg=>cvF hg)) ?_)
   rintro ρ wa3 v3 wb3 r he hb rfl
   replace hw:=hw.tr hb
   clear hx
   replace hk:=RatML.past (iv':=(wa3.heap.size,wb3.heap.size)::iv2) hk r hS he fun x hx=>List.mem_cons_of_mem _ hx
   clear hx2
   replace hk2:=RatML.past (iv':=(wa3.heap.size,wb3.heap.size)::iv2) hk2 r (oldF w) he fun x hx=>List.mem_cons_of_mem _ hx
   clear r he hb
   generalize (wa3.heap.size,wb3.heap.size)::iv2=iv3 at*
   conv=>whnf
   refine BrS.mk (fun hxe=>?_) (fun hxe=>?_)
   ·have hxe:=of_decide_eq_true hxe
    conv=>whnf
    refine BrS.mk (fun hle=>?_) (fun hle=>?_)
    ·have hle:K.length=(solK M b).length:=by have:=eq_of_beq hle;omega
     conv=>whnf
     refine⟨Nat×Bool×World×Iv,fun z=>⟨[(5,.o (.p 0 0)),(9,.o (.v (.bool z.2.1))),(10,.o (.v (.slice ak2 (solK M b).length ck2))),(11,.o (.v (.int .i64 ((z.1:Nat):Int))))],[(0,.box T.Solution [.v (.int .i64 0),.v (.slice ax X.length cx),.v (.slice ak K.length ck),.v (.slice ap P.length cp)])],1,z.2.2.2,z.2.2.1⟩,fun z=>(solK M b).length-z.1,
      fun z=>z.1≤(solK M b).length∧(z.2.1=true→P=[]∧∀j,j<z.1→K[j]? =(solK M b)[j]?)∧(z.2.1=false→¬(P=[]∧K=solK M b))∧Bel w.heap.size w z.2.2.1∧RatML z.2.2.1 (Cv S w.heap.size z.2.2.2) (.slice ak K.length ck) K∧RatML z.2.2.1 (Cv (fun _=>False) w.heap.size z.2.2.2) (.slice ak2 (solK M b).length ck2) (solK M b),?_,?_⟩
     ·intro ρ w' r
      exact⟨(0,((P.length:Int)==0),w',iv3),⟨Nat.zero_le _,fun e=>⟨List.eq_nil_of_length_eq_zero (by have:=eq_of_beq e;omega),fun j hj=>by dsimp only at hj;omega⟩,fun e k=>(by dsimp only at e;rw[k.1]at e;exact absurd e (by decide)),hw.tr r.bel,RatML.rel hk r hS,RatML.rel hk2 r (oldF w)⟩,
       Sub.gen [] r ⟨rfl,trivial⟩ ⟨rfl,rfl,rfl,rfl,trivial⟩ (by simp[ScH,Blk.scopd,At.sc]) (by simp[ScE,SV.sc,At.sc]) (by rfl) (fun lo hi h=>h)⟩
     clear hw hk hk2
     rintro⟨i,rgt,w3,iv⟩ ⟨hi,hT,hFl,hw,hk,hk2⟩
     dsimp only at hi hT hFl hw hk hk2 ⊢
     cases rgt with
     |false=>
      conv=>whnf
      refine BrS.mk (fun _=>?_) (fun _=>?_)
      ·conv=>whnf
       intro ρe we re
       exact⟨_,rfl,hw.tr re.bel,25,rfl,fun hr=>absurd hr (fun hr=>(hG.1 hr).elim (fun k=>hFl rfl ⟨k.2.1,k.2.2.2.2⟩) fun k=>absurd k.1 (by decide)),fun _=>rfl⟩
      ·conv=>whnf
       intro ρe we re
       exact⟨_,rfl,hw.tr re.bel,25,rfl,fun hr=>absurd hr (fun hr=>(hG.1 hr).elim (fun k=>hFl rfl ⟨k.2.1,k.2.2.2.2⟩) fun k=>absurd k.1 (by decide)),fun _=>rfl⟩
     |true=>
      obtain⟨hP0,hrow⟩:=hT rfl
      clear hT hFl
      conv=>whnf
      refine BrS.mk (fun hib=>?_) (fun hib=>?_)
      ·have hib:i<(solK M b).length:=by simpa using hib
       obtain⟨x1,hx1⟩:∃x,K[i]? =some x:=⟨_,List.getElem?_eq_getElem (by omega)⟩
       obtain⟨x2,hx2'⟩:∃x,(solK M b)[i]? =some x:=⟨_,List.getElem?_eq_getElem hib⟩
       obtain⟨ad1,u1,ha1,hR1,km1,km2⟩:=SlicesR.load hk hx1
       obtain⟨au1,cu1,rfl,hcu1,-⟩:=ListR.shape hR1
       obtain⟨ad2,u2,ha2,hR2,kn1,kn2⟩:=SlicesR.load hk2 hx2'
       obtain⟨au2,cu2,rfl,hcu2,-⟩:=ListR.shape hR2
       conv=>whnf
       refine drawn_of_pi hτ hmix [.x 0,.x 1,.x 2,.x 3,.x 4,.x 5,.x 6,.x 7,.x 8,.x 9,.x 10] (by kernel_rfl) (by kernel_rfl) ?_
       conv=>whnf
       refine⟨ad1,ha1,⟨by omega,by omega⟩,?_⟩
       conv=>whnf
       refine⟨.slice au1 x1.length cu1,fun ρ w' r=>?_,?_⟩
       ·rw[Int.toNat_natCast,cell_of_heap (w:=w3) (w2:=w') (by rw[addB];exact Rel.same r hS km1)]
        exact km2
       conv=>whnf
       refine⟨ad2,ha2,⟨by omega,by omega⟩,?_⟩
       conv=>whnf
       refine⟨.slice au2 x2.length cu2,fun ρ w' r=>?_,?_⟩
       ·rw[Int.toNat_natCast,cell_of_heap (w:=w3) (w2:=w') (by rw[addB];exact Rel.same r (oldF w) kn1)]
        exact kn2
       conv=>whnf
       refine callE_con (Φ:=fun _ w' v w2=>v= .bool (decide (x1=x2))) (fun ρ w' r=>requal_c (Rel.old r hS) (RatsL.rel hR1 r hS) (RatsL.weak (RatsL.rel hR2 r (oldF w)) fun _ hg=>cvF hg)) ?_
       rintro ρ wa4 v4 wb4 r he hb rfl
       replace hw:=hw.tr hb
       replace hk:=RatML.past (iv':=(wa4.heap.size,wb4.heap.size)::iv) hk r hS he fun x hx=>List.mem_cons_of_mem _ hx
       replace hk2:=RatML.past (iv':=(wa4.heap.size,wb4.heap.size)::iv) hk2 r (oldF w) he fun x hx=>List.mem_cons_of_mem _ hx
       clear r he hb
       generalize (wa4.heap.size,wb4.heap.size)::iv=iv4 at*
       conv=>whnf
       refine⟨((i+1:Nat):Int),by rw[wrap64]<;>omega,?_⟩
       conv=>whnf
       intro ρ3 w3 r3
       exact⟨(i+1,decide (x1=x2),w3,_),⟨hib,fun e=>⟨hP0,fun j hj=>by
         rcases Nat.lt_or_ge j i with h1|h1
         ·exact hrow j h1
         ·rw[show j=i by dsimp only at hj;omega,hx1,hx2',of_decide_eq_true e]⟩,fun e k=>of_decide_eq_false e (by rw[k.2,hx2']at hx1;injection hx1 with hx1;exact hx1.symm),hw.tr r3.bel,RatML.rel hk r3 hS,RatML.rel hk2 r3 (oldF w)⟩,
        Sub.gen [] r3 ⟨rfl,trivial⟩ ⟨rfl,rfl,rfl,rfl,trivial⟩ (by simp[ScH,Blk.scopd,At.sc]) (by simp[ScE,SV.sc,At.sc]) (by rfl) (fun lo hi h=>h),by dsimp only;omega⟩
      have hib:i=(solK M b).length:=Nat.le_antisymm hi (by simpa using hib)
      have hK:K=solK M b:=List.ext_getElem? fun j=>by
       rcases Nat.lt_or_ge j i with h1|h1
       ·exact hrow j h1
       ·rw[List.getElem?_eq_none (by omega),List.getElem?_eq_none (by omega)]
      conv=>whnf
      intro ρe we re
      exact⟨_,rfl,hw.tr re.bel,0,rfl,fun _=>rfl,fun hr=>absurd (hG.2 (.inl ⟨rfl,hP0,hs,hxe,hK⟩)) hr⟩
    have hle:K.length≠(solK M b).length:=fun e=>by rw[e]at hle;simp at hle
    conv=>whnf
    refine⟨World×Iv,fun z=>⟨[(5,.o (.p 0 0)),(9,.o (.v (.bool false))),(10,.o (.v (.slice ak2 (solK M b).length ck2))),(11,.o (.v (.int .i64 0)))],[(0,.box T.Solution [.v (.int .i64 0),.v (.slice ax X.length cx),.v (.slice ak K.length ck),.v (.slice ap P.length cp)])],1,z.2,z.1⟩,fun z=>0,
     fun z=>Bel w.heap.size w z.1,?_,?_⟩
    ·intro ρ w' r
     exact⟨(w',iv3),hw.tr r.bel,Sub.gen [] r ⟨rfl,trivial⟩ ⟨rfl,rfl,rfl,rfl,trivial⟩ (by simp[ScH,Blk.scopd,At.sc]) (by simp[ScE,SV.sc,At.sc]) (by rfl) (fun lo hi h=>h)⟩
    clear hw
    rintro⟨w3,iv⟩ hw
    dsimp only at hw ⊢
    conv=>whnf
    refine BrS.mk (fun _=>?_) (fun _=>?_)
    ·conv=>whnf
     intro ρe we re
     exact⟨_,rfl,hw.tr re.bel,25,rfl,fun hr=>absurd hr (fun hr=>(hG.1 hr).elim (fun k=>hle (by rw[k.2.2.2.2])) fun k=>absurd k.1 (by decide)),fun _=>rfl⟩
    ·conv=>whnf
     intro ρe we re
     exact⟨_,rfl,hw.tr re.bel,25,rfl,fun hr=>absurd hr (fun hr=>(hG.1 hr).elim (fun k=>hle (by rw[k.2.2.2.2])) fun k=>absurd k.1 (by decide)),fun _=>rfl⟩
   have hxe:=of_decide_eq_false hxe
   conv=>whnf
   refine⟨World×Iv,fun z=>⟨[(5,.o (.p 0 0)),(9,.o (.v (.bool false))),(10,.o (.v (.slice ak2 (solK M b).length ck2))),(11,.o (.v (.int .i64 0)))],[(0,.box T.Solution [.v (.int .i64 0),.v (.slice ax X.length cx),.v (.slice ak K.length ck),.v (.slice ap P.length cp)])],1,z.2,z.1⟩,fun z=>0,
    fun z=>Bel w.heap.size w z.1,?_,?_⟩
   ·intro ρ w' r
    exact⟨(w',iv3),hw.tr r.bel,Sub.gen [] r ⟨rfl,trivial⟩ ⟨rfl,rfl,rfl,rfl,trivial⟩ (by simp[ScH,Blk.scopd,At.sc]) (by simp[ScE,SV.sc,At.sc]) (by rfl) (fun lo hi h=>h)⟩
   clear hw
   rintro⟨w3,iv⟩ hw
   dsimp only at hw ⊢
   conv=>whnf
   refine BrS.mk (fun _=>?_) (fun _=>?_)
   ·conv=>whnf
    intro ρe we re
    exact⟨_,rfl,hw.tr re.bel,25,rfl,fun hr=>absurd hr (fun hr=>(hG.1 hr).elim (fun k=>hxe k.2.2.2.1) fun k=>absurd k.1 (by decide)),fun _=>rfl⟩
   ·conv=>whnf
    intro ρe we re
    exact⟨_,rfl,hw.tr re.bel,25,rfl,fun hr=>absurd hr (fun hr=>(hG.1 hr).elim (fun k=>hxe k.2.2.2.1) fun k=>absurd k.1 (by decide)),fun _=>rfl⟩
  have hz:z≠0:=fun e=>by rw[e]at hz;simp at hz
  conv=>whnf
  refine BrS.mk (fun hz1=>?_) (fun hz1=>?_)
  ·have hz1:z=1:=eq_of_beq hz1
   subst hz1
   conv=>whnf
   refine⟨((X.length+K.length:Nat):Int),by rw[wrap64]<;>omega,?_⟩
   conv=>whnf
   refine BrS.mk (fun h0=>?_) (fun h0=>?_)
   ·have h0:X.length+K.length=0:=by have:=eq_of_beq h0;omega
    conv=>whnf
    refine callE_S (callE_con (Φ:=fun _ w' v w2=>∃d,v= .bool d∧(d=true→Contra M b P)∧(Contra M b P→d=true)) (fun ρ w' r=>ContraS_c (Rel.old r hS) (RatMR.rel h r hS) (SmallM.rel hM r hS) (SmallB.rel hB r hS) he hpq (RatsL.rel hp r hS)) ?_)
    rintro ρ wa2 v2 wb2 r he hb ⟨d,rfl,hd1,hd2⟩
    replace hw:=hw.tr hb
    clear h
    clear hM
    clear hB
    clear hx
    clear hk
    clear hp
    clear hx2
    clear r he hb
    generalize (wa2.heap.size,wb2.heap.size)::iv1=iv2 at*
    cases d with
    |false=>
     conv=>whnf
     intro ρe we re
     exact⟨_,rfl,hw.tr re.bel,25,rfl,fun hr=>absurd hr (fun hr=>(hG.1 hr).elim (fun k=>absurd k.1 (by decide)) fun k=>absurd (hd2 k.2.2.2) (by decide)),fun _=>rfl⟩
    |true=>
     conv=>whnf
     intro ρe we re
     exact⟨_,rfl,hw.tr re.bel,0,rfl,fun _=>rfl,fun hr=>absurd (hG.2 (.inr ⟨rfl,List.eq_nil_of_length_eq_zero (by omega),List.eq_nil_of_length_eq_zero (by omega),hd1 rfl⟩)) hr⟩
   have h0:X.length+K.length≠0:=fun e=>by rw[e]at h0;simp at h0
   conv=>whnf
   intro ρe we re
   exact⟨_,rfl,hw.tr re.bel,25,rfl,fun hr=>absurd hr (fun hr=>(hG.1 hr).elim (fun k=>absurd k.1 (by decide)) fun k=>h0 (by rw[k.2.1,k.2.2.1];rfl)),fun _=>rfl⟩
  have hz1:z≠1:=fun e=>by rw[e]at hz1;simp at hz1
  conv=>whnf
  intro ρe we re
  exact⟨_,rfl,hw.tr re.bel,25,rfl,fun hr=>absurd hr (fun hr=>(hG.1 hr).elim (fun k=>hz k.1) fun k=>hz1 k.1),fun _=>rfl⟩
 refine callE_S (callE_con (Φ:=fun _ w' v w2=>v= .tuple #[.slice none 0 0,.bool false]) (fun ρ w' r=>BasicNo_c (Rel.old r hS) (RatMR.rel h r hS) (SmallM.rel hM r hS) (SmallB.rel hB r hS) he hs) ?_)
 rintro ρ wa1 v1 wb1 r he hb rfl
 replace hw:=hw.tr hb
 replace h:=RatMR.past (iv':=(wa1.heap.size,wb1.heap.size)::[]) h r hS he fun x hx=>List.mem_cons_of_mem _ hx
 replace hM:=SmallM.past (iv':=(wa1.heap.size,wb1.heap.size)::[]) hM r hS he fun x hx=>List.mem_cons_of_mem _ hx
 replace hB:=SmallB.past (iv':=(wa1.heap.size,wb1.heap.size)::[]) hB r hS he fun x hx=>List.mem_cons_of_mem _ hx
 replace hx:=RatsL.past (iv':=(wa1.heap.size,wb1.heap.size)::[]) hx r hS he fun x hx=>List.mem_cons_of_mem _ hx
 replace hk:=RatML.past (iv':=(wa1.heap.size,wb1.heap.size)::[]) hk r hS he fun x hx=>List.mem_cons_of_mem _ hx
 replace hp:=RatsL.past (iv':=(wa1.heap.size,wb1.heap.size)::[]) hp r hS he fun x hx=>List.mem_cons_of_mem _ hx
 clear r he hb
 generalize (wa1.heap.size,wb1.heap.size)::[]=iv1 at*
 conv=>whnf
 refine BrS.mk (fun hz=>?_) (fun hz=>?_)
 ·have hz:z=0:=eq_of_beq hz
  subst hz
  conv=>whnf
  refine callE_S (callE_con (Φ:=fun _ w' v w2=>RatMC w2 (Nw (fun _=>False) w' w2) v (solK M b)) (fun ρ w' r=>KernelM_c (Rel.old r hS) (RatMR.rel h r hS) (SmallM.rel hM r hS) (errS_zero he).1 b) ?_)
  rintro ρ wa2 v2 wb2 r he hb k1
  replace hw:=hw.tr hb
  clear h
  clear hM
  clear hB
  replace hx:=RatsL.past (iv':=(wa2.heap.size,wb2.heap.size)::iv1) hx r hS he fun x hx=>List.mem_cons_of_mem _ hx
  replace hk:=RatML.past (iv':=(wa2.heap.size,wb2.heap.size)::iv1) hk r hS he fun x hx=>List.mem_cons_of_mem _ hx
  clear hp
  have hk2:=RatMC.l (RatMC.got (S:=fun _=>False) k1 r.baseLe (iv:=(wa2.heap.size,wb2.heap.size)::iv1) List.mem_cons_self) hsz.2
  clear r he hb
  generalize (wa2.heap.size,wb2.heap.size)::iv1=iv2 at*
  clear k1
  obtain⟨ak2,ck2,rfl,hck2,-⟩:=SlicesR.shape hk2
  conv=>whnf
  refine⟨World×Iv,fun z=>⟨[(5,.o (.p 0 0)),(9,.o (.v (.bool false))),(10,.o (.v (.slice ak2 (solK M b).length ck2))),(11,.o (.v (.int .i64 0)))],[(0,.box T.Solution [.v (.int .i64 0),.v (.slice ax X.length cx),.v (.slice ak K.length ck),.v (.slice ap P.length cp)])],1,z.2,z.1⟩,fun z=>0,
   fun z=>Bel w.heap.size w z.1,?_,?_⟩
  ·intro ρ w' r
   exact⟨(w',iv2),hw.tr r.bel,Sub.gen [] r ⟨rfl,trivial⟩ ⟨rfl,rfl,rfl,rfl,trivial⟩ (by simp[ScH,Blk.scopd,At.sc]) (by simp[ScE,SV.sc,At.sc]) (by rfl) (fun lo hi h=>h)⟩
  clear hw
  rintro⟨w3,iv⟩ hw
  dsimp only at hw ⊢
  conv=>whnf
  refine BrS.mk (fun _=>?_) (fun _=>?_)
  ·conv=>whnf
   intro ρe we re
   exact⟨_,rfl,hw.tr re.bel,25,rfl,fun hr=>absurd hr (fun hr=>(hG.1 hr).elim (fun k=>hs k.2.2.1) fun k=>absurd k.1 (by decide)),fun _=>rfl⟩
  ·conv=>whnf
   intro ρe we re
   exact⟨_,rfl,hw.tr re.bel,25,rfl,fun hr=>absurd hr (fun hr=>(hG.1 hr).elim (fun k=>hs k.2.2.1) fun k=>absurd k.1 (by decide)),fun _=>rfl⟩
 have hz:z≠0:=fun e=>by rw[e]at hz;simp at hz
 conv=>whnf
 refine BrS.mk (fun hz1=>?_) (fun hz1=>?_)
 ·have hz1:z=1:=eq_of_beq hz1
  subst hz1
  conv=>whnf
  refine⟨((X.length+K.length:Nat):Int),by rw[wrap64]<;>omega,?_⟩
  conv=>whnf
  refine BrS.mk (fun h0=>?_) (fun h0=>?_)
  ·have h0:X.length+K.length=0:=by have:=eq_of_beq h0;omega
   conv=>whnf
   refine callE_S (callE_con (Φ:=fun _ w' v w2=>∃d,v= .bool d∧(d=true→Contra M b P)∧(Contra M b P→d=true)) (fun ρ w' r=>ContraS_c (Rel.old r hS) (RatMR.rel h r hS) (SmallM.rel hM r hS) (SmallB.rel hB r hS) he hpq (RatsL.rel hp r hS)) ?_)
   rintro ρ wa2 v2 wb2 r he hb ⟨d,rfl,hd1,hd2⟩
   replace hw:=hw.tr hb
   clear h
   clear hM
   clear hB
   clear hx
   clear hk
   clear hp
   clear r he hb
   generalize (wa2.heap.size,wb2.heap.size)::iv1=iv2 at*
   cases d with
   |false=>
    conv=>whnf
    intro ρe we re
    exact⟨_,rfl,hw.tr re.bel,25,rfl,fun hr=>absurd hr (fun hr=>(hG.1 hr).elim (fun k=>absurd k.1 (by decide)) fun k=>absurd (hd2 k.2.2.2) (by decide)),fun _=>rfl⟩
   |true=>
    conv=>whnf
    intro ρe we re
    exact⟨_,rfl,hw.tr re.bel,0,rfl,fun _=>rfl,fun hr=>absurd (hG.2 (.inr ⟨rfl,List.eq_nil_of_length_eq_zero (by omega),List.eq_nil_of_length_eq_zero (by omega),hd1 rfl⟩)) hr⟩
  have h0:X.length+K.length≠0:=fun e=>by rw[e]at h0;simp at h0
  conv=>whnf
  intro ρe we re
  exact⟨_,rfl,hw.tr re.bel,25,rfl,fun hr=>absurd hr (fun hr=>(hG.1 hr).elim (fun k=>absurd k.1 (by decide)) fun k=>h0 (by rw[k.2.1,k.2.2.1];rfl)),fun _=>rfl⟩
 have hz1:z≠1:=fun e=>by rw[e]at hz1;simp at hz1
 conv=>whnf
 intro ρe we re
 exact⟨_,rfl,hw.tr re.bel,25,rfl,fun hr=>absurd hr (fun hr=>(hG.1 hr).elim (fun k=>hz k.1) fun k=>hz1 k.1),fun _=>rfl⟩
end Go.Ex
