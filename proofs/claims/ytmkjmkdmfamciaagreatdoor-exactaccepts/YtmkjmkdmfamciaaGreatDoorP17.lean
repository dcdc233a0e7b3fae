/- A part of the proof: texts X93 to X93. Each tells its conditions in its theorems. -/
import Derived.Test.YtmkjmkdmfamciaaGreatDoorP16
/- The law ExactAccepts. Printed by program. No condition but sizes. -/
namespace Go.Ex
open Go Go.Sx Go.Proofs

/-- Small and brief, called in a later world -/
theorem smallW_c{S:Nat→Prop}{w w':World}{v:Value}{M:List (List (Int×Int))}(hS:Old S w')(hk:∀g,S g→w'.heap[g]? =w.heap[g]?)(h:RatMR w S v M):
  Con PG N.law01_Small #[v] w' (Ret w' fun v' _=>∃d,v'= .bool d∧(d=true→SmallM w S v M)):=
 (smallM_c hS (RatMR.keep h hk)).mono fun _ _ ⟨v2,e1,e2,d,e3,e4⟩=>⟨v2,e1,e2,d,e3,fun hd=>(e4 hd).keep fun g hg=>(hk g hg).symm⟩
theorem briefW_c{S:Nat→Prop}{w w':World}{v:Value}{b:List (Int×Int)}(hS:Old S w')(hk:∀g,S g→w'.heap[g]? =w.heap[g]?)(h:RatsR w S v b):
  Con PG N.law01_brief #[v] w' (Ret w' fun v' _=>∃d,v'= .bool d∧(d=true→SmallB w S v b)):=by
 obtain⟨ks,hks,hbr⟩:=RatsR.brief h
 exact(brief_c hS (hks.keep hk)).mono fun _ _ ⟨v2,e1,e2,e3⟩=>⟨v2,e1,e2,_,e3,fun hd=>hbr (of_decide_eq_true hd)⟩
section
variable{S:Nat→Prop}{w:World}{v u vx vk vp:Value}{z:Int}{M K:List (List (Int×Int))}{b X P:List (Int×Int)}
theorem CheckBad_c(hS:Old S w)(h:RatMR w S v M)(hu:RatsR w S u b)(hx:RatsR w S vx X)(hk:RatMR w S vk K)(hp:RatsR w S vp P)(he:errS M b≠0):
  Con PG N.exact_CheckSolution #[v,u,.agg #[.int .i64 z,vx,vk,vp]] w (Ret w fun v' _=>v'= .int .i64 (errS M b)):=
 (checkSolution_c (h0':=4) (h1:=4) hS h hu hx hk hp (fun e=>absurd e he) (fun e=>absurd e he)).mono fun _ _ ⟨v2,e1,e2,e,e3,_,e5⟩=>⟨v2,e1,e2,by rw[e3,e5 he]⟩
theorem CheckGood_c(hS:Old S w)(h:RatMR w S v M)(hu:RatsR w S u b)(hx:RatsR w S vx X)(hk:RatMR w S vk K)(hp:RatsR w S vp P)(he:errS M b=0)(hM:SmallM w S v M)(hb:SmallB w S u b)(hX:Few X)(hX8:X.length≤8)(hK:∀r∈K,Few r∧r.length≤8)(hK8:K.length≤8)(hP:Few P)(hPq:∀q∈P.map ratioP,rl q≤3):
  Con PG N.exact_CheckSolution #[v,u,.agg #[.int .i64 z,vx,vk,vp]] w (Ret w fun v' _=>∃e:Nat,v'= .int .i64 e∧(RightE (valsM M) (b.map ratioP) (colsM M) z (X.map ratioP) (valsM K) (P.map ratioP)→e=0)∧(¬RightE (valsM M) (b.map ratioP) (colsM M) z (X.map ratioP) (valsM K) (P.map ratioP)→e=25)):=by
 obtain⟨hall,hbl,hM5,hc5,hht,hqb,hA,-,hpw⟩:=hM.sys hb he
 exact(checkSolution_c (h0':=4) (h1:=4) hS h hu hx hk hp (fun _=>⟨hM.2.2.2.2,hb.2.2,hA,by decide,by have:=hpw _ (Nat.le_refl _);omega⟩)
  (fun _=>⟨hX,by omega,fun r hr=>(hK r hr).1,fun r hr=>by have:=(hK r hr).2;omega,by omega,fun _=>⟨hP,fun q hq=>by have:=hPq q hq;omega,hht,hqb,by decide,by omega⟩⟩)).mono fun _ _ ⟨v2,e1,e2,e,e3,e4,_⟩=>⟨v2,e1,e2,e,e3,(e4 he).1,(e4 he).2⟩
end
theorem exactAccepts_c{S:Nat→Prop}{w:World}{v u vx vk vp:Value}{z:Int}{M K:List (List (Int×Int))}{b X P:List (Int×Int)}(hS:Old S w)(h:RatMR w S v M)(hu:RatsR w S u b)(hx:RatsR w S vx X)(hk:RatMR w S vk K)(hp:RatsR w S vp P):
  Con PG N.law01_ExactAccepts #[.agg #[v,u],.agg #[.int .i64 z,vx,vk,vp]] w (Ret w fun v' _=>v'= .bool true):=by
 have hw:Bel w.heap.size w w:=Bel.refl
 obtain⟨am,cm,rfl,hcm,hmm⟩:=SlicesR.shape h
 obtain⟨ab,cb,rfl,hcb,hmb⟩:=ListR.shape hu
 obtain⟨ax,cx,rfl,hcx,hmx⟩:=ListR.shape hx
 obtain⟨ak,ck,rfl,hck,hmk⟩:=SlicesR.shape hk
 obtain⟨ap,cp,rfl,hcp,hmp⟩:=ListR.shape hp
 unfold maxLen at hmm hmb hmx hmk hmp
 refine in_law01_ExactAccepts (by simp) ?_
 conv=>whnf
 refine callE_S (callE_con (Φ:=fun _ w' v w2=>∃d,v= .bool d∧(d=true→SmallM w S (.slice am M.length cm) M)) (fun ρ w' r=>smallW_c (fun g hg=>by have:=hS g hg;have:=r.baseLe;omega) (fun g hg=>(hw.tr r.bel).block g (hS g hg)) h) ?_)
 rintro ρ wa1 v1 wb1 r he hb ⟨d,rfl,hd⟩
 replace hw:=hw.tr hb
 clear r he hb
 generalize (wa1.heap.size,wb1.heap.size)::[]=iv1 at*
 conv=>whnf
 cases d with
 |false=>
  conv=>whnf
  refine callE_S (callE_con (Φ:=fun _ w' v w2=>v= .bool true) (fun ρ w' r=>awake_c w') ?_)
  rintro ρ wa2 v2 wb2 r he hb rfl
  replace hw:=hw.tr hb
  clear r he hb
  generalize (wa2.heap.size,wb2.heap.size)::iv1=iv2 at*
  conv=>whnf
  intro ρe we re
  exact⟨_,rfl,hw.tr re.bel,rfl⟩
 |true=>
  have hM:=hd rfl
  clear hd
  conv=>whnf
  refine BrS.mk (fun h70=>?_) (fun h70=>?_)
  ·conv=>whnf
   refine callE_S (callE_con (Φ:=fun _ w' v w2=>v= .bool true) (fun ρ w' r=>awake_c w') ?_)
   rintro ρ wa2 v2 wb2 r he hb rfl
   replace hw:=hw.tr hb
   clear r he hb
   generalize (wa2.heap.size,wb2.heap.size)::iv1=iv2 at*
   conv=>whnf
   intro ρe we re
   exact⟨_,rfl,hw.tr re.bel,rfl⟩
  have h70:=of_decide_eq_false h70
  conv=>whnf
  refine BrS.mk (fun h5=>?_) (fun h5=>?_)
  ·conv=>whnf
   refine callE_S (callE_con (Φ:=fun _ w' v w2=>∃d,v= .bool d∧(d=true→SmallB w S (.slice ab b.length cb) b)) (fun ρ w' r=>briefW_c (fun g hg=>by have:=hS g hg;have:=r.baseLe;omega) (fun g hg=>(hw.tr r.bel).block g (hS g hg)) hu) ?_)
   rintro ρ wa2 v2 wb2 r he hb ⟨d,rfl,hd⟩
   replace hw:=hw.tr hb
   clear r he hb
   generalize (wa2.heap.size,wb2.heap.size)::iv1=iv2 at*
   conv=>whnf
   cases d with
   |false=>
    conv=>whnf
    refine callE_S (callE_con (Φ:=fun _ w' v w2=>v= .bool true) (fun ρ w' r=>awake_c w') ?_)
    rintro ρ wa3 v3 wb3 r he hb rfl
    replace hw:=hw.tr hb
    clear r he hb
    generalize (wa3.heap.size,wb3.heap.size)::iv2=iv3 at*
    conv=>whnf
    intro ρe we re
    exact⟨_,rfl,hw.tr re.bel,rfl⟩
   |true=>
    have hB:=hd rfl
    clear hd
    conv=>whnf
    refine BrS.mk (fun hX8=>?_) (fun hX8=>?_)
    ·conv=>whnf
     refine callE_S (callE_con (Φ:=fun _ w' v w2=>v= .bool true) (fun ρ w' r=>awake_c w') ?_)
     rintro ρ wa3 v3 wb3 r he hb rfl
     replace hw:=hw.tr hb
     clear r he hb
     generalize (wa3.heap.size,wb3.heap.size)::iv2=iv3 at*
     conv=>whnf
     intro ρe we re
     exact⟨_,rfl,hw.tr re.bel,rfl⟩
    have hX8:=of_decide_eq_false hX8
    conv=>whnf
    refine callE_S (callE_con (Φ:=fun _ w' v w2=>∃d,v= .bool d∧(d=true→SmallB w S (.slice ax X.length cx) X)) (fun ρ w' r=>briefW_c (fun g hg=>by have:=hS g hg;have:=r.baseLe;omega) (fun g hg=>(hw.tr r.bel).block g (hS g hg)) hx) ?_)
    rintro ρ wa3 v3 wb3 r he hb ⟨d,rfl,hd⟩
    replace hw:=hw.tr hb
    clear r he hb
    generalize (wa3.heap.size,wb3.heap.size)::iv2=iv3 at*
    conv=>whnf
    cases d with
    |false=>
     conv=>whnf
     refine callE_S (callE_con (Φ:=fun _ w' v w2=>v= .bool true) (fun ρ w' r=>awake_c w') ?_)
     rintro ρ wa4 v4 wb4 r he hb rfl
     replace hw:=hw.tr hb
     clear r he hb
     generalize (wa4.heap.size,wb4.heap.size)::iv3=iv4 at*
     conv=>whnf
     intro ρe we re
     exact⟨_,rfl,hw.tr re.bel,rfl⟩
    |true=>
     have hXs:=hd rfl
     clear hd
     conv=>whnf
     refine BrS.mk (fun hP8=>?_) (fun hP8=>?_)
     ·conv=>whnf
      refine callE_S (callE_con (Φ:=fun _ w' v w2=>v= .bool true) (fun ρ w' r=>awake_c w') ?_)
      rintro ρ wa4 v4 wb4 r he hb rfl
      replace hw:=hw.tr hb
      clear r he hb
      generalize (wa4.heap.size,wb4.heap.size)::iv3=iv4 at*
      conv=>whnf
      intro ρe we re
      exact⟨_,rfl,hw.tr re.bel,rfl⟩
     have hP8:=of_decide_eq_false hP8
     conv=>whnf
     refine callE_S (callE_con (Φ:=fun _ w' v w2=>∃d,v= .bool d∧(d=true→SmallB w S (.slice ap P.length cp) P)) (fun ρ w' r=>briefW_c (fun g hg=>by have:=hS g hg;have:=r.baseLe;omega) (fun g hg=>(hw.tr r.bel).block g (hS g hg)) hp) ?_)
     rintro ρ wa4 v4 wb4 r he hb ⟨d,rfl,hd⟩
     replace hw:=hw.tr hb
     clear r he hb
     generalize (wa4.heap.size,wb4.heap.size)::iv3=iv4 at*
     conv=>whnf
     cases d with
     |false=>
      conv=>whnf
      refine callE_S (callE_con (Φ:=fun _ w' v w2=>v= .bool true) (fun ρ w' r=>awake_c w') ?_)
      rintro ρ wa5 v5 wb5 r he hb rfl
      replace hw:=hw.tr hb
      clear r he hb
      generalize (wa5.heap.size,wb5.heap.size)::iv4=iv5 at*
      conv=>whnf
      intro ρe we re
      exact⟨_,rfl,hw.tr re.bel,rfl⟩
     |true=>
      have hPs:=hd rfl
      clear hd
      conv=>whnf
      refine BrS.mk (fun hK8=>?_) (fun hK8=>?_)
      ·conv=>whnf
       refine callE_S (callE_con (Φ:=fun _ w' v w2=>v= .bool true) (fun ρ w' r=>awake_c w') ?_)
       rintro ρ wa5 v5 wb5 r he hb rfl
       replace hw:=hw.tr hb
       clear r he hb
       generalize (wa5.heap.size,wb5.heap.size)::iv4=iv5 at*
       conv=>whnf
       intro ρe we re
       exact⟨_,rfl,hw.tr re.bel,rfl⟩
      have hK8:=of_decide_eq_false hK8
      conv=>whnf
      have hk':=hk
      obtain⟨rv,⟨g0,g1,g2,_,_,ge,g4,gcell⟩,glen,grows⟩:=hk'
      injection ge with ge1 ge2 ge3
      subst ge1 ge3
      refine⟨Nat×World×Iv,fun y=>⟨[(2,.o (.p 0 0)),(3,.o (.p 1 0)),(5,.o (.v (.int .i64 ((y.1:Nat):Int))))],[(1,.box T.Solution [.v (.int .i64 z),.v (.slice ax X.length cx),.v (.slice ak K.length ck),.v (.slice ap P.length cp)]),(0,.box T.putloglaw01_System [.v (.slice am M.length cm),.v (.slice ab b.length cb)])],2,y.2.2,y.2.1⟩,fun y=>K.length-y.1,
       fun y=>y.1≤K.length∧Bel w.heap.size w y.2.1∧∀(j:Nat) r u,j<y.1→K[j]? =some r→rv[j]? =some u→r.length≤8∧SmallB w S u r,?_,?_⟩
      ·intro ρ w' r
       exact⟨(0,w',iv4),⟨by simp,hw.tr r.bel,fun j r u hj=>by dsimp only at hj;omega⟩,Sub.gen [] r ⟨rfl,rfl,trivial⟩ ⟨rfl,rfl,rfl,trivial⟩ (by simp[ScH,Blk.scopd,At.sc]) (by simp[ScE,SV.sc,At.sc]) (by rfl) (fun lo hi h=>h)⟩
      clear hw
      rintro⟨i,w1,iv⟩ ⟨hi,hw,ht⟩
      dsimp only at hi hw ht ⊢
      conv=>whnf
      refine BrS.mk (fun hib=>?_) (fun hib=>?_)
      ·have hib:i<K.length:=by simpa using hib
       obtain⟨r0,hr0⟩:∃r,K[i]? =some r:=⟨_,List.getElem?_eq_getElem hib⟩
       obtain⟨u,hu0⟩:∃u,rv[i]? =some u:=⟨_,List.getElem?_eq_getElem (by omega)⟩
       have hR:=grows i u r0 hu0 hr0
       obtain⟨ad,ha0,q1,q2⟩:=gcell i u hu0
       obtain⟨au,cu,rfl,hcu,-⟩:=ListR.shape hR
       have hld:∀{H nx iv ρ w'},Rel H nx iv w.heap.size w1 ρ w'→w'.cell? (ad.add ((i:Int).toNat*1))=some (.slice au r0.length cu):=fun r=>by
        rw[Int.toNat_natCast,Nat.mul_one];exact cellS hS hw r q1 q2
       conv=>whnf
       refine⟨ad,ha0,⟨by omega,by omega⟩,?_⟩
       conv=>whnf
       refine⟨.slice au r0.length cu,fun ρ w' r=>hld r,?_⟩
       conv=>whnf
       refine BrS.mk (fun hr8=>?_) (fun hr8=>?_)
       ·conv=>whnf
        refine callE_S (callE_con (Φ:=fun _ w' v w2=>v= .bool true) (fun ρ w' r=>awake_c w') ?_)
        rintro ρ wa5 v5 wb5 r he hb rfl
        replace hw:=hw.tr hb
        clear r he hb
        generalize (wa5.heap.size,wb5.heap.size)::iv=iv5 at*
        conv=>whnf
        intro ρe we re
        exact⟨_,rfl,hw.tr re.bel,rfl⟩
       have hr8:=of_decide_eq_false hr8
       conv=>whnf
       refine⟨ad,ha0,⟨by omega,by omega⟩,?_⟩
       conv=>whnf
       refine⟨.slice au r0.length cu,fun ρ w' r=>hld r,?_⟩
       conv=>whnf
       clear hld
       refine callE_S (callE_con (Φ:=fun _ w' v w2=>∃d,v= .bool d∧(d=true→SmallB w S (.slice au r0.length cu) r0)) (fun ρ w' r=>briefW_c (fun g hg=>by have:=hS g hg;have:=r.baseLe;omega) (fun g hg=>(hw.tr r.bel).block g (hS g hg)) hR) ?_)
       rintro ρ wa5 v5 wb5 r he hb ⟨d,rfl,hd⟩
       replace hw:=hw.tr hb
       clear r he hb
       generalize (wa5.heap.size,wb5.heap.size)::iv=iv5 at*
       conv=>whnf
       cases d with
       |false=>
        conv=>whnf
        refine callE_S (callE_con (Φ:=fun _ w' v w2=>v= .bool true) (fun ρ w' r=>awake_c w') ?_)
        rintro ρ wa6 v6 wb6 r he hb rfl
        replace hw:=hw.tr hb
        clear r he hb
        generalize (wa6.heap.size,wb6.heap.size)::iv5=iv6 at*
        conv=>whnf
        intro ρe we re
        exact⟨_,rfl,hw.tr re.bel,rfl⟩
       |true=>
        have hrs:=hd rfl
        clear hd
        conv=>whnf
        refine⟨((i+1:Nat):Int),by rw[wrap64]<;>omega,?_⟩
        conv=>whnf
        intro ρ3 w3 r3
        refine⟨(i+1,w3,_),⟨by dsimp only;omega,hw.tr r3.bel,fun j r u hj k1 k2=>?_⟩,Sub.gen [] r3 ⟨rfl,rfl,trivial⟩ ⟨rfl,rfl,rfl,trivial⟩ (by simp[ScH,Blk.scopd,At.sc]) (by simp[ScE,SV.sc,At.sc]) (by rfl) (fun lo hi h=>h),by dsimp only;omega⟩
        rcases Nat.lt_or_ge j i with hj2|hj2
        ·exact ht j r u hj2 k1 k2
        ·obtain rfl:j=i:=by dsimp only at hj;omega
         rw[hr0]at k1
         rw[hu0]at k2
         injection k1 with k1
         injection k2 with k2
         subst k1 k2
         exact⟨by omega,hrs⟩
      have hib:i=K.length:=Nat.le_antisymm hi (by simpa using hib)
      have hKF:∀r∈K,Few r∧r.length≤8:=fun r hr=>by
       obtain⟨j,hj⟩:=List.getElem?_of_mem hr
       have hjl:=(List.getElem?_eq_some_iff.1 hj).1
       have:=ht j r _ (by omega) hj (List.getElem?_eq_getElem (by omega))
       exact⟨this.2.2.2,this.1⟩
      have hKL:RatML w S (.slice ak K.length ck) (valsM K):=by
       refine⟨rv,by rw[valsM_len];exact⟨g0,g1,g2,_,_,rfl,g4,gcell⟩,by rw[valsM_len];exact glen,fun j u x k1 k2=>?_⟩
       rw[valsM,List.getElem?_map]at k2
       obtain⟨r,hr,rfl⟩:=Option.map_eq_some_iff.1 k2
       have hjl:=(List.getElem?_eq_some_iff.1 hr).1
       exact(ht j r u (by omega) hr k1).2.1
      by_cases herr:errS M b=0
      ·conv=>whnf
       refine callE_S (callE_con (Φ:=fun _ w' v w2=>∃e:Nat,v= .int .i64 e∧(RightE (valsM M) (b.map ratioP) (colsM M) z (X.map ratioP) (valsM K) (P.map ratioP)→e=0)∧(¬RightE (valsM M) (b.map ratioP) (colsM M) z (X.map ratioP) (valsM K) (P.map ratioP)→e=25)) (fun ρ w' r=>CheckGood_c (fun g hg=>by have:=hS g hg;have:=r.baseLe;omega) (RatMR.keep h (fun g hg=>(hw.tr r.bel).block g (hS g hg))) (RatsR.keep hu (fun g hg=>(hw.tr r.bel).block g (hS g hg))) (RatsR.keep hx (fun g hg=>(hw.tr r.bel).block g (hS g hg))) (RatMR.keep hk (fun g hg=>(hw.tr r.bel).block g (hS g hg))) (RatsR.keep hp (fun g hg=>(hw.tr r.bel).block g (hS g hg))) herr (hM.keep (fun g hg=>(hw.tr r.bel).block g (hS g hg))) (hB.keep (fun g hg=>(hw.tr r.bel).block g (hS g hg))) hXs.2.2 (by omega) hKF (by omega) hPs.2.2 hPs.2.1) ?_)
       rintro ρ wa5 v5 wb5 r he hb ⟨e1,rfl,he1,he2⟩
       replace hw:=hw.tr hb
       clear r he hb
       generalize (wa5.heap.size,wb5.heap.size)::iv=iv5 at*
       conv=>whnf
       refine callE_S (callE_con (Φ:=fun _ w' v w2=>v= .int .i64 0) (fun ρ w' r=>(show ((errS M b:Nat):Int)=0 by rw[herr];rfl)▸rCheckSystem_c (fun g hg=>by have:=hS g hg;have:=r.baseLe;omega) (RatMR.keep h (fun g hg=>(hw.tr r.bel).block g (hS g hg))) (RatsR.keep hu (fun g hg=>(hw.tr r.bel).block g (hS g hg)))) ?_)
       rintro ρ wa6 v6 wb6 r he hb rfl
       replace hw:=hw.tr hb
       clear r he hb
       generalize (wa6.heap.size,wb6.heap.size)::iv5=iv6 at*
       conv=>whnf
       refine callE_S (callE_con (Φ:=fun _ w' v w2=>∃e:Nat,v= .int .i64 e∧(RightE (valsM M) (b.map ratioP) (colsM M) z (X.map ratioP) (valsM K) (P.map ratioP)→e=0)∧(¬RightE (valsM M) (b.map ratioP) (colsM M) z (X.map ratioP) (valsM K) (P.map ratioP)→e=25)) (fun ρ w' r=>rCheckSolution_c (fun g hg=>by have:=hS g hg;have:=r.baseLe;omega) (RatMR.keep h (fun g hg=>(hw.tr r.bel).block g (hS g hg))) (hM.keep (fun g hg=>(hw.tr r.bel).block g (hS g hg))) (hB.keep (fun g hg=>(hw.tr r.bel).block g (hS g hg))) herr (RatsL.keep hXs.1 (fun g hg=>(hw.tr r.bel).block g (hS g hg))) (RatML.keep hKL (fun g hg=>(hw.tr r.bel).block g (hS g hg))) (RatsL.keep hPs.1 (fun g hg=>(hw.tr r.bel).block g (hS g hg))) hPs.2.1 (by rw[List.length_map];omega) (by rw[valsM_len];omega)) ?_)
       rintro ρ wa7 v7 wb7 r he hb ⟨e2,rfl,he3,he4⟩
       replace hw:=hw.tr hb
       clear r he hb
       generalize (wa7.heap.size,wb7.heap.size)::iv6=iv7 at*
       have hee:e2=e1:=by
        by_cases hr:RightE (valsM M) (b.map ratioP) (colsM M) z (X.map ratioP) (valsM K) (P.map ratioP)
        ·rw[he1 hr,he3 hr]
        ·rw[he2 hr,he4 hr]
       subst hee
       conv=>whnf
       refine BrS.mk (fun _=>?_) (fun hne=>by simp at hne)
       conv=>whnf
       refine callE_S (callE_con (Φ:=fun _ w' v w2=>v= .bool true) (fun ρ w' r=>awake_c w') ?_)
       rintro ρ wa8 v8 wb8 r he hb rfl
       replace hw:=hw.tr hb
       clear r he hb
       generalize (wa8.heap.size,wb8.heap.size)::iv7=iv8 at*
       conv=>whnf
       intro ρe we re
       exact⟨_,rfl,hw.tr re.bel,rfl⟩
      conv=>whnf
      refine callE_S (callE_con (Φ:=fun _ w' v w2=>v= .int .i64 (errS M b)) (fun ρ w' r=>CheckBad_c (fun g hg=>by have:=hS g hg;have:=r.baseLe;omega) (RatMR.keep h (fun g hg=>(hw.tr r.bel).block g (hS g hg))) (RatsR.keep hu (fun g hg=>(hw.tr r.bel).block g (hS g hg))) (RatsR.keep hx (fun g hg=>(hw.tr r.bel).block g (hS g hg))) (RatMR.keep hk (fun g hg=>(hw.tr r.bel).block g (hS g hg))) (RatsR.keep hp (fun g hg=>(hw.tr r.bel).block g (hS g hg))) herr) ?_)
      rintro ρ wa5 v5 wb5 r he hb rfl
      replace hw:=hw.tr hb
      clear r he hb
      generalize (wa5.heap.size,wb5.heap.size)::iv=iv5 at*
      conv=>whnf
      refine callE_S (callE_con (Φ:=fun _ w' v w2=>v= .int .i64 (errS M b)) (fun ρ w' r=>rCheckSystem_c (fun g hg=>by have:=hS g hg;have:=r.baseLe;omega) (RatMR.keep h (fun g hg=>(hw.tr r.bel).block g (hS g hg))) (RatsR.keep hu (fun g hg=>(hw.tr r.bel).block g (hS g hg)))) ?_)
      rintro ρ wa6 v6 wb6 r he hb rfl
      replace hw:=hw.tr hb
      clear r he hb
      generalize (wa6.heap.size,wb6.heap.size)::iv5=iv6 at*
      conv=>whnf
      refine BrS.mk (fun _=>?_) (fun hne=>absurd (Int.ofNat.inj (show ((errS M b:Nat):Int)=((0:Nat):Int) by simpa using hne)) herr)
      conv=>whnf
      refine BrS.mk (fun _=>?_) (fun hne=>by simp at hne)
      conv=>whnf
      refine callE_S (callE_con (Φ:=fun _ w' v w2=>v= .bool true) (fun ρ w' r=>awake_c w') ?_)
      rintro ρ wa7 v7 wb7 r he hb rfl
      replace hw:=hw.tr hb
      clear r he hb
      generalize (wa7.heap.size,wb7.heap.size)::iv6=iv7 at*
      conv=>whnf
      intro ρe we re
      exact⟨_,rfl,hw.tr re.bel,rfl⟩
  have herr:errS M b≠0:=fun e=>by
   obtain⟨k1,k2⟩:=errS_zero e
   obtain⟨_,k3,_⟩:=hM.sizes k1
   have:=of_decide_eq_false h5
   omega
  conv=>whnf
  refine BrS.mk (fun hX8=>?_) (fun hX8=>?_)
  ·conv=>whnf
   refine callE_S (callE_con (Φ:=fun _ w' v w2=>v= .bool true) (fun ρ w' r=>awake_c w') ?_)
   rintro ρ wa2 v2 wb2 r he hb rfl
   replace hw:=hw.tr hb
   clear r he hb
   generalize (wa2.heap.size,wb2.heap.size)::iv1=iv2 at*
   conv=>whnf
   intro ρe we re
   exact⟨_,rfl,hw.tr re.bel,rfl⟩
  have hX8:=of_decide_eq_false hX8
  conv=>whnf
  refine callE_S (callE_con (Φ:=fun _ w' v w2=>∃d,v= .bool d∧(d=true→SmallB w S (.slice ax X.length cx) X)) (fun ρ w' r=>briefW_c (fun g hg=>by have:=hS g hg;have:=r.baseLe;omega) (fun g hg=>(hw.tr r.bel).block g (hS g hg)) hx) ?_)
  rintro ρ wa2 v2 wb2 r he hb ⟨d,rfl,hd⟩
  replace hw:=hw.tr hb
  clear r he hb
  generalize (wa2.heap.size,wb2.heap.size)::iv1=iv2 at*
  conv=>whnf
  cases d with
  |false=>
   conv=>whnf
   refine callE_S (callE_con (Φ:=fun _ w' v w2=>v= .bool true) (fun ρ w' r=>awake_c w') ?_)
   rintro ρ wa3 v3 wb3 r he hb rfl
   replace hw:=hw.tr hb
   clear r he hb
   generalize (wa3.heap.size,wb3.heap.size)::iv2=iv3 at*
   conv=>whnf
   intro ρe we re
   exact⟨_,rfl,hw.tr re.bel,rfl⟩
  |true=>
   have hXs:=hd rfl
   clear hd
   conv=>whnf
   refine BrS.mk (fun hP8=>?_) (fun hP8=>?_)
   ·conv=>whnf
    refine callE_S (callE_con (Φ:=fun _ w' v w2=>v= .bool true) (fun ρ w' r=>awake_c w') ?_)
    rintro ρ wa3 v3 wb3 r he hb rfl
    replace hw:=hw.tr hb
    clear r he hb
    generalize (wa3.heap.size,wb3.heap.size)::iv2=iv3 at*
    conv=>whnf
    intro ρe we re
    exact⟨_,rfl,hw.tr re.bel,rfl⟩
   have hP8:=of_decide_eq_false hP8
   conv=>whnf
   refine callE_S (callE_con (Φ:=fun _ w' v w2=>∃d,v= .bool d∧(d=true→SmallB w S (.slice ap P.length cp) P)) (fun ρ w' r=>briefW_c (fun g hg=>by have:=hS g hg;have:=r.baseLe;omega) (fun g hg=>(hw.tr r.bel).block g (hS g hg)) hp) ?_)
   rintro ρ wa3 v3 wb3 r he hb ⟨d,rfl,hd⟩
   replace hw:=hw.tr hb
   clear r he hb
   generalize (wa3.heap.size,wb3.heap.size)::iv2=iv3 at*
   conv=>whnf
   cases d with
   |false=>
    conv=>whnf
    refine callE_S (callE_con (Φ:=fun _ w' v w2=>v= .bool true) (fun ρ w' r=>awake_c w') ?_)
    rintro ρ wa4 v4 wb4 r he hb rfl
    replace hw:=hw.tr hb
    clear r he hb
    generalize (wa4.heap.size,wb4.heap.size)::iv3=iv4 at*
    conv=>whnf
    intro ρe we re
    exact⟨_,rfl,hw.tr re.bel,rfl⟩
   |true=>
    have hPs:=hd rfl
    clear hd
    conv=>whnf
    refine BrS.mk (fun hK8=>?_) (fun hK8=>?_)
    ·conv=>whnf
     refine callE_S (callE_con (Φ:=fun _ w' v w2=>v= .bool true) (fun ρ w' r=>awake_c w') ?_)
     rintro ρ wa4 v4 wb4 r he hb rfl
     replace hw:=hw.tr hb
     clear r he hb
     generalize (wa4.heap.size,wb4.heap.size)::iv3=iv4 at*
     conv=>whnf
     intro ρe we re
     exact⟨_,rfl,hw.tr re.bel,rfl⟩
    have hK8:=of_decide_eq_false hK8
    conv=>whnf
    have hk':=hk
    obtain⟨rv,⟨g0,g1,g2,_,_,ge,g4,gcell⟩,glen,grows⟩:=hk'
    injection ge with ge1 ge2 ge3
    subst ge1 ge3
    refine⟨Nat×World×Iv,fun y=>⟨[(2,.o (.p 0 0)),(3,.o (.p 1 0)),(5,.o (.v (.int .i64 ((y.1:Nat):Int))))],[(1,.box T.Solution [.v (.int .i64 z),.v (.slice ax X.length cx),.v (.slice ak K.length ck),.v (.slice ap P.length cp)]),(0,.box T.putloglaw01_System [.v (.slice am M.length cm),.v (.slice ab b.length cb)])],2,y.2.2,y.2.1⟩,fun y=>K.length-y.1,
     fun y=>y.1≤K.length∧Bel w.heap.size w y.2.1∧∀(j:Nat) r u,j<y.1→K[j]? =some r→rv[j]? =some u→r.length≤8∧SmallB w S u r,?_,?_⟩
    ·intro ρ w' r
     exact⟨(0,w',iv3),⟨by simp,hw.tr r.bel,fun j r u hj=>by dsimp only at hj;omega⟩,Sub.gen [] r ⟨rfl,rfl,trivial⟩ ⟨rfl,rfl,rfl,trivial⟩ (by simp[ScH,Blk.scopd,At.sc]) (by simp[ScE,SV.sc,At.sc]) (by rfl) (fun lo hi h=>h)⟩
    clear hw
    rintro⟨i,w1,iv⟩ ⟨hi,hw,ht⟩
    dsimp only at hi hw ht ⊢
    conv=>whnf
    refine BrS.mk (fun hib=>?_) (fun hib=>?_)
    ·have hib:i<K.length:=by simpa using hib
     obtain⟨r0,hr0⟩:∃r,K[i]? =some r:=⟨_,List.getElem?_eq_getElem hib⟩
     obtain⟨u,hu0⟩:∃u,rv[i]? =some u:=⟨_,List.getElem?_eq_getElem (by omega)⟩
     have hR:=grows i u r0 hu0 hr0
     obtain⟨ad,ha0,q1,q2⟩:=gcell i u hu0
     obtain⟨au,cu,rfl,hcu,-⟩:=ListR.shape hR
     have hld:∀{H nx iv ρ w'},Rel H nx iv w.heap.size w1 ρ w'→w'.cell? (ad.add ((i:Int).toNat*1))=some (.slice au r0.length cu):=fun r=>by
      rw[Int.toNat_natCast,Nat.mul_one];exact cellS hS hw r q1 q2
     conv=>whnf
     refine⟨ad,ha0,⟨by omega,by omega⟩,?_⟩
     conv=>whnf
     refine⟨.slice au r0.length cu,fun ρ w' r=>hld r,?_⟩
     conv=>whnf
     refine BrS.mk (fun hr8=>?_) (fun hr8=>?_)
     ·conv=>whnf
      refine callE_S (callE_con (Φ:=fun _ w' v w2=>v= .bool true) (fun ρ w' r=>awake_c w') ?_)
      rintro ρ wa4 v4 wb4 r he hb rfl
      replace hw:=hw.tr hb
      clear r he hb
      generalize (wa4.heap.size,wb4.heap.size)::iv=iv4 at*
      conv=>whnf
      intro ρe we re
      exact⟨_,rfl,hw.tr re.bel,rfl⟩
     have hr8:=of_decide_eq_false hr8
     conv=>whnf
     refine⟨ad,ha0,⟨by omega,by omega⟩,?_⟩
     conv=>whnf
     refine⟨.slice au r0.length cu,fun ρ w' r=>hld r,?_⟩
     conv=>whnf
     clear hld
     refine callE_S (callE_con (Φ:=fun _ w' v w2=>∃d,v= .bool d∧(d=true→SmallB w S (.slice au r0.length cu) r0)) (fun ρ w' r=>briefW_c (fun g hg=>by have:=hS g hg;have:=r.baseLe;omega) (fun g hg=>(hw.tr r.bel).block g (hS g hg)) hR) ?_)
     rintro ρ wa4 v4 wb4 r he hb ⟨d,rfl,hd⟩
     replace hw:=hw.tr hb
     clear r he hb
     generalize (wa4.heap.size,wb4.heap.size)::iv=iv4 at*
     conv=>whnf
     cases d with
     |false=>
      conv=>whnf
      refine callE_S (callE_con (Φ:=fun _ w' v w2=>v= .bool true) (fun ρ w' r=>awake_c w') ?_)
      rintro ρ wa5 v5 wb5 r he hb rfl
      replace hw:=hw.tr hb
      clear r he hb
      generalize (wa5.heap.size,wb5.heap.size)::iv4=iv5 at*
      conv=>whnf
      intro ρe we re
      exact⟨_,rfl,hw.tr re.bel,rfl⟩
     |true=>
      have hrs:=hd rfl
      clear hd
      conv=>whnf
      refine⟨((i+1:Nat):Int),by rw[wrap64]<;>omega,?_⟩
      conv=>whnf
      intro ρ3 w3 r3
      refine⟨(i+1,w3,_),⟨by dsimp only;omega,hw.tr r3.bel,fun j r u hj k1 k2=>?_⟩,Sub.gen [] r3 ⟨rfl,rfl,trivial⟩ ⟨rfl,rfl,rfl,trivial⟩ (by simp[ScH,Blk.scopd,At.sc]) (by simp[ScE,SV.sc,At.sc]) (by rfl) (fun lo hi h=>h),by dsimp only;omega⟩
      rcases Nat.lt_or_ge j i with hj2|hj2
      ·exact ht j r u hj2 k1 k2
      ·obtain rfl:j=i:=by dsimp only at hj;omega
       rw[hr0]at k1
       rw[hu0]at k2
       injection k1 with k1
       injection k2 with k2
       subst k1 k2
       exact⟨by omega,hrs⟩
    have hib:i=K.length:=Nat.le_antisymm hi (by simpa using hib)
    have hKF:∀r∈K,Few r∧r.length≤8:=fun r hr=>by
     obtain⟨j,hj⟩:=List.getElem?_of_mem hr
     have hjl:=(List.getElem?_eq_some_iff.1 hj).1
     have:=ht j r _ (by omega) hj (List.getElem?_eq_getElem (by omega))
     exact⟨this.2.2.2,this.1⟩
    have hKL:RatML w S (.slice ak K.length ck) (valsM K):=by
     refine⟨rv,by rw[valsM_len];exact⟨g0,g1,g2,_,_,rfl,g4,gcell⟩,by rw[valsM_len];exact glen,fun j u x k1 k2=>?_⟩
     rw[valsM,List.getElem?_map]at k2
     obtain⟨r,hr,rfl⟩:=Option.map_eq_some_iff.1 k2
     have hjl:=(List.getElem?_eq_some_iff.1 hr).1
     exact(ht j r u (by omega) hr k1).2.1
    conv=>whnf
    refine callE_S (callE_con (Φ:=fun _ w' v w2=>v= .int .i64 (errS M b)) (fun ρ w' r=>CheckBad_c (fun g hg=>by have:=hS g hg;have:=r.baseLe;omega) (RatMR.keep h (fun g hg=>(hw.tr r.bel).block g (hS g hg))) (RatsR.keep hu (fun g hg=>(hw.tr r.bel).block g (hS g hg))) (RatsR.keep hx (fun g hg=>(hw.tr r.bel).block g (hS g hg))) (RatMR.keep hk (fun g hg=>(hw.tr r.bel).block g (hS g hg))) (RatsR.keep hp (fun g hg=>(hw.tr r.bel).block g (hS g hg))) herr) ?_)
    rintro ρ wa4 v4 wb4 r he hb rfl
    replace hw:=hw.tr hb
    clear r he hb
    generalize (wa4.heap.size,wb4.heap.size)::iv=iv4 at*
    conv=>whnf
    refine callE_S (callE_con (Φ:=fun _ w' v w2=>v= .int .i64 (errS M b)) (fun ρ w' r=>rCheckSystem_c (fun g hg=>by have:=hS g hg;have:=r.baseLe;omega) (RatMR.keep h (fun g hg=>(hw.tr r.bel).block g (hS g hg))) (RatsR.keep hu (fun g hg=>(hw.tr r.bel).block g (hS g hg)))) ?_)
    rintro ρ wa5 v5 wb5 r he hb rfl
    replace hw:=hw.tr hb
    clear r he hb
    generalize (wa5.heap.size,wb5.heap.size)::iv4=iv5 at*
    conv=>whnf
    refine BrS.mk (fun _=>?_) (fun hne=>absurd (Int.ofNat.inj (show ((errS M b:Nat):Int)=((0:Nat):Int) by simpa using hne)) herr)
    conv=>whnf
    refine BrS.mk (fun _=>?_) (fun hne=>by simp at hne)
    conv=>whnf
    refine callE_S (callE_con (Φ:=fun _ w' v w2=>v= .bool true) (fun ρ w' r=>awake_c w') ?_)
    rintro ρ wa6 v6 wb6 r he hb rfl
    replace hw:=hw.tr hb
    clear r he hb
    generalize (wa6.heap.size,wb6.heap.size)::iv5=iv6 at*
    conv=>whnf
    intro ρe we re
    exact⟨_,rfl,hw.tr re.bel,rfl⟩
end Go.Ex
