/- A part of the proof: texts X90 to X90. Each tells its conditions in its theorems. -/
import Derived.Test.YtmkjmkdmfamciaaGreatDoorP16
/- The law ExactSolves. Printed by program. No condition but sizes. -/
namespace Go.Ex
open Go Go.Sx Go.Proofs

theorem exactSolves_c{S:Nat→Prop}{w:World}{v u:Value}{M:List (List (Int×Int))}{b:List (Int×Int)}(hS:Old S w)(h:RatMR w S v M)(hu:RatsR w S u b):
  Con PG N.law01_ExactSolves #[v,u] w (Ret w fun v' _=>v'= .bool true):=by
 have hw:Bel w.heap.size w w:=Bel.refl
 replace h:=RatMR.arg h []
 replace hu:=RatsR.arg hu []
 obtain⟨am,cm,rfl,hcm,hmm⟩:=SlicesR.shape h
 obtain⟨ab,cb,rfl,hcb,hmb⟩:=ListR.shape hu
 unfold maxLen at hmm hmb
 refine in_law01_ExactSolves (by simp) ?_
 conv=>whnf
 refine callE_S (callE_con (Φ:=fun _ w' v w2=>∃d,v= .bool d∧(d=true→SmallM w2 (Cv S w.heap.size []) (.slice am M.length cm) M)) (fun ρ w' r=>smallM2_c (Rel.old r hS) (RatMR.rel h r hS)) ?_)
 rintro ρ wa1 v1 wb1 r he hb ⟨d,rfl,hd⟩
 replace hw:=hw.tr hb
 replace h:=RatMR.past (iv':=(wa1.heap.size,wb1.heap.size)::[]) h r hS he fun x hx=>List.mem_cons_of_mem _ hx
 replace hu:=RatsR.past (iv':=(wa1.heap.size,wb1.heap.size)::[]) hu r hS he fun x hx=>List.mem_cons_of_mem _ hx
 clear r he hb
 replace hd:=fun e=>(hd e).weak (S':=Cv S w.heap.size ((wa1.heap.size,wb1.heap.size)::[])) fun g hg=>hg.mono fun p hp=>by cases hp
 generalize (wa1.heap.size,wb1.heap.size)::[]=iv1 at*
 conv=>whnf
 cases d with
 |false=>
  conv=>whnf
  refine callE_S (callE_con (Φ:=fun _ w' v w2=>v= .bool true) (fun ρ w' r=>awake_c w') ?_)
  rintro ρ wa2 v2 wb2 r he hb rfl
  replace hw:=hw.tr hb
  clear r he hb
  generalize (wa2.heap.size,wb2.heap.size)::iv1=iv2 at*
  conv=>whnf
  intro ρe we re
  exact⟨_,rfl,hw.tr re.bel,rfl⟩
 |true=>
  have hM:=hd rfl
  clear hd
  conv=>whnf
  refine BrS.mk (fun h70=>?_) (fun h70=>?_)
  ·conv=>whnf
   refine callE_S (callE_con (Φ:=fun _ w' v w2=>v= .bool true) (fun ρ w' r=>awake_c w') ?_)
   rintro ρ wa2 v2 wb2 r he hb rfl
   replace hw:=hw.tr hb
   clear r he hb
   generalize (wa2.heap.size,wb2.heap.size)::iv1=iv2 at*
   conv=>whnf
   intro ρe we re
   exact⟨_,rfl,hw.tr re.bel,rfl⟩
  conv=>whnf
  refine BrS.mk (fun h5=>?_) (fun h5=>?_)
  ·conv=>whnf
   refine callE_S (callE_con (Φ:=fun _ w' v w2=>∃d,v= .bool d∧(d=true→SmallB w2 (Cv S w.heap.size iv1) (.slice ab b.length cb) b)) (fun ρ w' r=>briefB_c (Rel.old r hS) (RatsR.rel hu r hS)) ?_)
   rintro ρ wa2 v2 wb2 r he hb ⟨d,rfl,hd⟩
   replace hw:=hw.tr hb
   replace h:=RatMR.past (iv':=(wa2.heap.size,wb2.heap.size)::iv1) h r hS he fun x hx=>List.mem_cons_of_mem _ hx
   replace hu:=RatsR.past (iv':=(wa2.heap.size,wb2.heap.size)::iv1) hu r hS he fun x hx=>List.mem_cons_of_mem _ hx
   replace hM:=hM.past (iv':=(wa2.heap.size,wb2.heap.size)::iv1) r hS he fun x hx=>List.mem_cons_of_mem _ hx
   clear r he hb
   replace hd:=fun e=>(hd e).weak (S':=Cv S w.heap.size ((wa2.heap.size,wb2.heap.size)::iv1)) fun g hg=>hg.mono fun p hp=>List.mem_cons_of_mem _ hp
   generalize (wa2.heap.size,wb2.heap.size)::iv1=iv2 at*
   conv=>whnf
   cases d with
   |false=>
    conv=>whnf
    refine callE_S (callE_con (Φ:=fun _ w' v w2=>v= .bool true) (fun ρ w' r=>awake_c w') ?_)
    rintro ρ wa3 v3 wb3 r he hb rfl
    replace hw:=hw.tr hb
    clear r he hb
    generalize (wa3.heap.size,wb3.heap.size)::iv2=iv3 at*
    conv=>whnf
    intro ρe we re
    exact⟨_,rfl,hw.tr re.bel,rfl⟩
   |true=>
    have hB:=hd rfl
    clear hd
    conv=>whnf
    by_cases herr:errS M b=0
    ·refine callE_S (callE_con (Φ:=fun _ w' v w2=>(¬Solvable M b∧∃vp P,v= .tuple #[.agg #[.int .i64 1,.slice none 0 0,.slice none 0 0,vp],.int .i64 0]∧RatsC w2 (Nw (fun _=>False) w' w2) vp P∧Contra M b P∧∀q∈P,rl q+1≤2048)∨(Solvable M b∧∃vx vk,v= .tuple #[.agg #[.int .i64 0,vx,vk,.slice none 0 0],.int .i64 0]∧RatsC w2 (Nw (fun _=>False) w' w2) vx (solX M b)∧RatMC w2 (Nw (fun _=>False) w' w2) vk (solK M b))) (fun ρ w' r=>SolveOk_c (Rel.old r hS) (RatMR.rel h r hS) (RatsR.rel hu r hS) (hM.rel r hS) (hB.rel r hS) herr) ?_)
     rintro ρ wa3 v3 wb3 r he hb hsol0
     replace hw:=hw.tr hb
     replace h:=RatMR.past (iv':=(wa3.heap.size,wb3.heap.size)::iv2) h r hS he fun x hx=>List.mem_cons_of_mem _ hx
     replace hu:=RatsR.past (iv':=(wa3.heap.size,wb3.heap.size)::iv2) hu r hS he fun x hx=>List.mem_cons_of_mem _ hx
     replace hM:=hM.past (iv':=(wa3.heap.size,wb3.heap.size)::iv2) r hS he fun x hx=>List.mem_cons_of_mem _ hx
     replace hB:=hB.past (iv':=(wa3.heap.size,wb3.heap.size)::iv2) r hS he fun x hx=>List.mem_cons_of_mem _ hx
     have hsol:=(show (¬Solvable M b∧∃vp P,v3= .tuple #[.agg #[.int .i64 1,.slice none 0 0,.slice none 0 0,vp],.int .i64 0]∧RatsC wb3 (Cv (fun _=>False) w.heap.size ((wa3.heap.size,wb3.heap.size)::iv2)) vp P∧Contra M b P∧∀q∈P,rl q+1≤2048)∨(Solvable M b∧∃vx vk,v3= .tuple #[.agg #[.int .i64 0,vx,vk,.slice none 0 0],.int .i64 0]∧RatsC wb3 (Cv (fun _=>False) w.heap.size ((wa3.heap.size,wb3.heap.size)::iv2)) vx (solX M b)∧RatMC wb3 (Cv (fun _=>False) w.heap.size ((wa3.heap.size,wb3.heap.size)::iv2)) vk (solK M b))from hsol0.imp (fun ⟨h1,vp,P,h2,h3,h4⟩=>⟨h1,vp,P,h2,RatsC.got h3 r.baseLe List.mem_cons_self,h4⟩) fun⟨h1,vx,vk,h2,h3,h4⟩=>⟨h1,vx,vk,h2,RatsC.got h3 r.baseLe List.mem_cons_self,RatMC.got h4 r.baseLe List.mem_cons_self⟩)
     clear r he hb
     generalize (wa3.heap.size,wb3.heap.size)::iv2=iv3 at*
     clear hsol0
     rcases hsol with⟨hn,vp,P,rfl,hP,hc,hsz⟩|⟨hn,vx,vk,rfl,hx,hk⟩
     ·obtain⟨ap,cp,rfl,hcp,-⟩:=ListR.shape hP
      conv=>whnf
      refine callE_S (callE_con (Φ:=fun _ w' v w2=>v= .int .i64 0) (fun ρ w' r=>(show ((errS M b:Nat):Int)=0 by rw[herr];rfl)▸rCheckSystem_c (Rel.old r hS) (RatMR.rel h r hS) (RatsR.rel hu r hS)) ?_)
      rintro ρ wa4 v4 wb4 r he hb rfl
      replace hw:=hw.tr hb
      replace h:=RatMR.past (iv':=(wa4.heap.size,wb4.heap.size)::iv3) h r hS he fun x hx=>List.mem_cons_of_mem _ hx
      replace hu:=RatsR.past (iv':=(wa4.heap.size,wb4.heap.size)::iv3) hu r hS he fun x hx=>List.mem_cons_of_mem _ hx
      replace hM:=hM.past (iv':=(wa4.heap.size,wb4.heap.size)::iv3) r hS he fun x hx=>List.mem_cons_of_mem _ hx
      replace hB:=hB.past (iv':=(wa4.heap.size,wb4.heap.size)::iv3) r hS he fun x hx=>List.mem_cons_of_mem _ hx
      replace hP:=RatsC.past (iv':=(wa4.heap.size,wb4.heap.size)::iv3) hP r (oldF w) he fun x hx=>List.mem_cons_of_mem _ hx
      clear r he hb
      generalize (wa4.heap.size,wb4.heap.size)::iv3=iv4 at*
      conv=>whnf
      refine callE_S (callE_con (Φ:=fun _ w' v w2=>v= .tuple #[.slice none 0 0,.bool false]) (fun ρ w' r=>BasicNo_c (Rel.old r hS) (RatMR.rel h r hS) (hM.rel r hS) (hB.rel r hS) herr hn) ?_)
      rintro ρ wa5 v5 wb5 r he hb rfl
      replace hw:=hw.tr hb
      replace h:=RatMR.past (iv':=(wa5.heap.size,wb5.heap.size)::iv4) h r hS he fun x hx=>List.mem_cons_of_mem _ hx
      replace hu:=RatsR.past (iv':=(wa5.heap.size,wb5.heap.size)::iv4) hu r hS he fun x hx=>List.mem_cons_of_mem _ hx
      replace hM:=hM.past (iv':=(wa5.heap.size,wb5.heap.size)::iv4) r hS he fun x hx=>List.mem_cons_of_mem _ hx
      replace hB:=hB.past (iv':=(wa5.heap.size,wb5.heap.size)::iv4) r hS he fun x hx=>List.mem_cons_of_mem _ hx
      replace hP:=RatsC.past (iv':=(wa5.heap.size,wb5.heap.size)::iv4) hP r (oldF w) he fun x hx=>List.mem_cons_of_mem _ hx
      clear r he hb
      generalize (wa5.heap.size,wb5.heap.size)::iv4=iv5 at*
      conv=>whnf
      refine callE_S (callE_con (Φ:=fun _ w' v w2=>v= .int .i64 0) (fun ρ w' r=>CheckP_c (Rel.old r hS) (RatMR.rel h r hS) (RatsR.rel hu r hS) (hM.rel r hS) (hB.rel r hS) herr hc hsz (RatsC.weak (RatsC.rel hP r (oldF w)) fun _ hg=>cvF hg)) ?_)
      rintro ρ wa6 v6 wb6 r he hb rfl
      replace hw:=hw.tr hb
      replace h:=RatMR.past (iv':=(wa6.heap.size,wb6.heap.size)::iv5) h r hS he fun x hx=>List.mem_cons_of_mem _ hx
      replace hu:=RatsR.past (iv':=(wa6.heap.size,wb6.heap.size)::iv5) hu r hS he fun x hx=>List.mem_cons_of_mem _ hx
      replace hM:=hM.past (iv':=(wa6.heap.size,wb6.heap.size)::iv5) r hS he fun x hx=>List.mem_cons_of_mem _ hx
      replace hB:=hB.past (iv':=(wa6.heap.size,wb6.heap.size)::iv5) r hS he fun x hx=>List.mem_cons_of_mem _ hx
      replace hP:=RatsC.past (iv':=(wa6.heap.size,wb6.heap.size)::iv5) hP r (oldF w) he fun x hx=>List.mem_cons_of_mem _ hx
      clear r he hb
      generalize (wa6.heap.size,wb6.heap.size)::iv5=iv6 at*
      conv=>whnf
      refine⟨0,by decide,?_⟩
      conv=>whnf
      refine callE_S (callE_con (Φ:=fun _ w' v w2=>v= .bool true) (fun ρ w' r=>ContraP_c (Rel.old r hS) (RatMR.rel h r hS) (hM.rel r hS) (hB.rel r hS) herr hc hsz (RatsC.weak (RatsC.rel hP r (oldF w)) fun _ hg=>cvF hg)) ?_)
      rintro ρ wa7 v7 wb7 r he hb rfl
      replace hw:=hw.tr hb
      clear h
      clear hu
      clear hM
      clear hB
      clear hP
      clear r he hb
      generalize (wa7.heap.size,wb7.heap.size)::iv6=iv7 at*
      conv=>whnf
      refine callE_S (callE_con (Φ:=fun _ w' v w2=>v= .bool true) (fun ρ w' r=>awake_c w') ?_)
      rintro ρ wa8 v8 wb8 r he hb rfl
      replace hw:=hw.tr hb
      clear r he hb
      generalize (wa8.heap.size,wb8.heap.size)::iv7=iv8 at*
      conv=>whnf
      intro ρe we re
      exact⟨_,rfl,hw.tr re.bel,rfl⟩
     ·obtain⟨ax,cx,rfl,hcx,-⟩:=ListR.shape hx
      obtain⟨ak,ck,rfl,hck,-⟩:=SlicesR.shape hk
      conv=>whnf
      refine callE_S (callE_con (Φ:=fun _ w' v w2=>v= .int .i64 0) (fun ρ w' r=>(show ((errS M b:Nat):Int)=0 by rw[herr];rfl)▸rCheckSystem_c (Rel.old r hS) (RatMR.rel h r hS) (RatsR.rel hu r hS)) ?_)
      rintro ρ wa4 v4 wb4 r he hb rfl
      replace hw:=hw.tr hb
      replace h:=RatMR.past (iv':=(wa4.heap.size,wb4.heap.size)::iv3) h r hS he fun x hx=>List.mem_cons_of_mem _ hx
      replace hu:=RatsR.past (iv':=(wa4.heap.size,wb4.heap.size)::iv3) hu r hS he fun x hx=>List.mem_cons_of_mem _ hx
      replace hM:=hM.past (iv':=(wa4.heap.size,wb4.heap.size)::iv3) r hS he fun x hx=>List.mem_cons_of_mem _ hx
      replace hB:=hB.past (iv':=(wa4.heap.size,wb4.heap.size)::iv3) r hS he fun x hx=>List.mem_cons_of_mem _ hx
      replace hx:=RatsC.past (iv':=(wa4.heap.size,wb4.heap.size)::iv3) hx r (oldF w) he fun x hx=>List.mem_cons_of_mem _ hx
      replace hk:=RatMC.past (iv':=(wa4.heap.size,wb4.heap.size)::iv3) hk r (oldF w) he fun x hx=>List.mem_cons_of_mem _ hx
      clear r he hb
      generalize (wa4.heap.size,wb4.heap.size)::iv3=iv4 at*
      conv=>whnf
      refine callE_S (callE_con (Φ:=fun _ w' v w2=>∃vx,v= .tuple #[vx,.bool true]∧RatsC w2 (Nw (fun _=>False) w' w2) vx (solX M b)) (fun ρ w' r=>BasicYes_c (Rel.old r hS) (RatMR.rel h r hS) (hM.rel r hS) (hB.rel r hS) herr hn) ?_)
      rintro ρ wa5 v5 wb5 r he hb ⟨vx2,rfl,k1⟩
      replace hw:=hw.tr hb
      replace h:=RatMR.past (iv':=(wa5.heap.size,wb5.heap.size)::iv4) h r hS he fun x hx=>List.mem_cons_of_mem _ hx
      replace hu:=RatsR.past (iv':=(wa5.heap.size,wb5.heap.size)::iv4) hu r hS he fun x hx=>List.mem_cons_of_mem _ hx
      replace hM:=hM.past (iv':=(wa5.heap.size,wb5.heap.size)::iv4) r hS he fun x hx=>List.mem_cons_of_mem _ hx
      replace hB:=hB.past (iv':=(wa5.heap.size,wb5.heap.size)::iv4) r hS he fun x hx=>List.mem_cons_of_mem _ hx
      replace hx:=RatsC.past (iv':=(wa5.heap.size,wb5.heap.size)::iv4) hx r (oldF w) he fun x hx=>List.mem_cons_of_mem _ hx
      replace hk:=RatMC.past (iv':=(wa5.heap.size,wb5.heap.size)::iv4) hk r (oldF w) he fun x hx=>List.mem_cons_of_mem _ hx
      have hx2:=RatsC.got (S:=fun _=>False) k1 r.baseLe (iv:=(wa5.heap.size,wb5.heap.size)::iv4) List.mem_cons_self
      clear r he hb
      generalize (wa5.heap.size,wb5.heap.size)::iv4=iv5 at*
      clear k1
      obtain⟨ax2,cx2,rfl,hcx2,-⟩:=ListR.shape hx2
      conv=>whnf
      refine callE_S (callE_con (Φ:=fun _ w' v w2=>v= .int .i64 0) (fun ρ w' r=>CheckX_c (Rel.old r hS) (RatMR.rel h r hS) (RatsR.rel hu r hS) (hM.rel r hS) (hB.rel r hS) herr hn (RatsC.weak (RatsC.rel hx r (oldF w)) fun _ hg=>cvF hg) (RatMC.weak (RatMC.rel hk r (oldF w)) fun _ hg=>cvF hg)) ?_)
      rintro ρ wa6 v6 wb6 r he hb rfl
      replace hw:=hw.tr hb
      replace h:=RatMR.past (iv':=(wa6.heap.size,wb6.heap.size)::iv5) h r hS he fun x hx=>List.mem_cons_of_mem _ hx
      replace hu:=RatsR.past (iv':=(wa6.heap.size,wb6.heap.size)::iv5) hu r hS he fun x hx=>List.mem_cons_of_mem _ hx
      replace hM:=hM.past (iv':=(wa6.heap.size,wb6.heap.size)::iv5) r hS he fun x hx=>List.mem_cons_of_mem _ hx
      replace hB:=hB.past (iv':=(wa6.heap.size,wb6.heap.size)::iv5) r hS he fun x hx=>List.mem_cons_of_mem _ hx
      replace hx:=RatsC.past (iv':=(wa6.heap.size,wb6.heap.size)::iv5) hx r (oldF w) he fun x hx=>List.mem_cons_of_mem _ hx
      replace hk:=RatMC.past (iv':=(wa6.heap.size,wb6.heap.size)::iv5) hk r (oldF w) he fun x hx=>List.mem_cons_of_mem _ hx
      replace hx2:=RatsC.past (iv':=(wa6.heap.size,wb6.heap.size)::iv5) hx2 r (oldF w) he fun x hx=>List.mem_cons_of_mem _ hx
      clear r he hb
      generalize (wa6.heap.size,wb6.heap.size)::iv5=iv6 at*
      conv=>whnf
      refine drawn_of_pi hτ hmix [.x 0,.x 1,.x 2,.x 3,.x 4,.x 5,.x 6,.x 7,.x 8,.x 9,.x 10,.x 11,.x 12,.x 13,.x 14,.x 15,.x 16,.x 17,.x 18,.x 19,.x 20,.x 21,.x 22,.x 23,.x 24,.x 25] (by kernel_rfl) (by kernel_rfl) ?_
      conv=>whnf
      refine callE_con (Φ:=fun _ w' v w2=>v= .bool true) (fun ρ w' r=>?_) ?_
      ·have h:=sameList_c (Rel.old r (oldF w)) (RatsC.rel hx r (oldF w)) (RatsC.rel hx2 r (oldF w))
       rw[decide_eq_true rfl]at h
       exact h
      rintro ρ wa7 v7 wb7 r he hb rfl
      replace hw:=hw.tr hb
      replace h:=RatMR.past (iv':=(wa7.heap.size,wb7.heap.size)::iv6) h r hS he fun x hx=>List.mem_cons_of_mem _ hx
      clear hu
      replace hM:=hM.past (iv':=(wa7.heap.size,wb7.heap.size)::iv6) r hS he fun x hx=>List.mem_cons_of_mem _ hx
      clear hB
      clear hx
      replace hk:=RatMC.past (iv':=(wa7.heap.size,wb7.heap.size)::iv6) hk r (oldF w) he fun x hx=>List.mem_cons_of_mem _ hx
      clear hx2
      clear r he hb
      generalize (wa7.heap.size,wb7.heap.size)::iv6=iv7 at*
      conv=>whnf
      refine callE_con (Φ:=fun _ w' v w2=>RatMC w2 (Nw (fun _=>False) w' w2) v (solK M b)) (fun ρ w' r=>KernelM_c (Rel.old r hS) (RatMR.rel h r hS) (hM.rel r hS) (errS_zero herr).1 b) ?_
      rintro ρ wa8 v8 wb8 r he hb k1
      replace hw:=hw.tr hb
      clear h
      clear hM
      replace hk:=RatMC.past (iv':=(wa8.heap.size,wb8.heap.size)::iv7) hk r (oldF w) he fun x hx=>List.mem_cons_of_mem _ hx
      have hk2:=RatMC.got (S:=fun _=>False) k1 r.baseLe (iv:=(wa8.heap.size,wb8.heap.size)::iv7) List.mem_cons_self
      clear r he hb
      generalize (wa8.heap.size,wb8.heap.size)::iv7=iv8 at*
      clear k1
      obtain⟨ak2,ck2,rfl,hck2,-⟩:=SlicesR.shape hk2
      conv=>whnf
      refine callE_con (Φ:=fun _ w' v w2=>v= .bool true) (fun ρ w' r=>?_) ?_
      ·have h:=sameLists_c (Rel.old r (oldF w)) (RatMC.rel hk r (oldF w)) (RatMC.rel hk2 r (oldF w))
       rw[decide_eq_true rfl]at h
       exact h
      rintro ρ wa9 v9 wb9 r he hb rfl
      replace hw:=hw.tr hb
      clear hk
      clear hk2
      clear r he hb
      generalize (wa9.heap.size,wb9.heap.size)::iv8=iv9 at*
      conv=>whnf
      refine callE_con (Φ:=fun _ w' v w2=>v= .bool true) (fun ρ w' r=>awake_c w') ?_
      rintro ρ wa10 v10 wb10 r he hb rfl
      replace hw:=hw.tr hb
      clear r he hb
      generalize (wa10.heap.size,wb10.heap.size)::iv9=iv10 at*
      conv=>whnf
      intro ρe we re
      exact⟨_,rfl,hw.tr re.bel,rfl⟩
    refine callE_S (callE_con (Φ:=fun _ w' v w2=>v= .tuple #[.agg #[.int .i64 0,.slice none 0 0,.slice none 0 0,.slice none 0 0],.int .i64 (errS M b)]) (fun ρ w' r=>SolveBad_c (Rel.old r hS) (RatMR.rel h r hS) (RatsR.rel hu r hS) herr) ?_)
    rintro ρ wa3 v3 wb3 r he hb rfl
    replace hw:=hw.tr hb
    replace h:=RatMR.past (iv':=(wa3.heap.size,wb3.heap.size)::iv2) h r hS he fun x hx=>List.mem_cons_of_mem _ hx
    replace hu:=RatsR.past (iv':=(wa3.heap.size,wb3.heap.size)::iv2) hu r hS he fun x hx=>List.mem_cons_of_mem _ hx
    clear r he hb
    generalize (wa3.heap.size,wb3.heap.size)::iv2=iv3 at*
    conv=>whnf
    refine callE_S (callE_con (Φ:=fun _ w' v w2=>v= .int .i64 (errS M b)) (fun ρ w' r=>rCheckSystem_c (Rel.old r hS) (RatMR.rel h r hS) (RatsR.rel hu r hS)) ?_)
    rintro ρ wa4 v4 wb4 r he hb rfl
    replace hw:=hw.tr hb
    clear h
    clear hu
    clear r he hb
    generalize (wa4.heap.size,wb4.heap.size)::iv3=iv4 at*
    conv=>whnf
    refine BrS.mk (fun _=>?_) (fun hne=>absurd (Int.ofNat.inj (show ((errS M b:Nat):Int)=((0:Nat):Int) by simpa using hne)) herr)
    conv=>whnf
    refine BrS.mk (fun _=>?_) (fun hne=>by simp at hne)
    conv=>whnf
    refine⟨0,by decide,?_⟩
    conv=>whnf
    refine⟨0,by decide,?_⟩
    conv=>whnf
    refine callE_S (callE_con (Φ:=fun _ w' v w2=>v= .bool true) (fun ρ w' r=>awake_c w') ?_)
    rintro ρ wa5 v5 wb5 r he hb rfl
    replace hw:=hw.tr hb
    clear r he hb
    generalize (wa5.heap.size,wb5.heap.size)::iv4=iv5 at*
    conv=>whnf
    intro ρe we re
    exact⟨_,rfl,hw.tr re.bel,rfl⟩
  have herr:errS M b≠0:=fun e=>by
   obtain⟨k1,k2⟩:=errS_zero e
   obtain⟨_,k3,_⟩:=hM.sizes k1
   have:=of_decide_eq_false h5
   omega
  conv=>whnf
  refine callE_S (callE_con (Φ:=fun _ w' v w2=>v= .tuple #[.agg #[.int .i64 0,.slice none 0 0,.slice none 0 0,.slice none 0 0],.int .i64 (errS M b)]) (fun ρ w' r=>SolveBad_c (Rel.old r hS) (RatMR.rel h r hS) (RatsR.rel hu r hS) herr) ?_)
  rintro ρ wa2 v2 wb2 r he hb rfl
  replace hw:=hw.tr hb
  replace h:=RatMR.past (iv':=(wa2.heap.size,wb2.heap.size)::iv1) h r hS he fun x hx=>List.mem_cons_of_mem _ hx
  replace hu:=RatsR.past (iv':=(wa2.heap.size,wb2.heap.size)::iv1) hu r hS he fun x hx=>List.mem_cons_of_mem _ hx
  clear r he hb
  generalize (wa2.heap.size,wb2.heap.size)::iv1=iv2 at*
  conv=>whnf
  refine callE_S (callE_con (Φ:=fun _ w' v w2=>v= .int .i64 (errS M b)) (fun ρ w' r=>rCheckSystem_c (Rel.old r hS) (RatMR.rel h r hS) (RatsR.rel hu r hS)) ?_)
  rintro ρ wa3 v3 wb3 r he hb rfl
  replace hw:=hw.tr hb
  clear h
  clear hu
  clear r he hb
  generalize (wa3.heap.size,wb3.heap.size)::iv2=iv3 at*
  conv=>whnf
  refine BrS.mk (fun _=>?_) (fun hne=>absurd (Int.ofNat.inj (show ((errS M b:Nat):Int)=((0:Nat):Int) by simpa using hne)) herr)
  conv=>whnf
  refine BrS.mk (fun _=>?_) (fun hne=>by simp at hne)
  conv=>whnf
  refine⟨0,by decide,?_⟩
  conv=>whnf
  refine⟨0,by decide,?_⟩
  conv=>whnf
  refine callE_S (callE_con (Φ:=fun _ w' v w2=>v= .bool true) (fun ρ w' r=>awake_c w') ?_)
  rintro ρ wa4 v4 wb4 r he hb rfl
  replace hw:=hw.tr hb
  clear r he hb
  generalize (wa4.heap.size,wb4.heap.size)::iv3=iv4 at*
  conv=>whnf
  intro ρe we re
  exact⟨_,rfl,hw.tr re.bel,rfl⟩
end Go.Ex
