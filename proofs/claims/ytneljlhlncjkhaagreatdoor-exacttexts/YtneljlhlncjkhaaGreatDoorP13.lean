/- A part of the proof: texts X114 to X117. Each tells its conditions in its theorems. -/
import Derived.Test.YtneljlhlncjkhaaGreatDoorP10
import Derived.Test.YtneljlhlncjkhaaGreatDoorP11
import Derived.Test.YtneljlhlncjkhaaGreatDoorP12
/- Parse of package exact. Printed by program. No condition but sizes. -/
namespace Go.Ex
open Go Go.Sx Go.Proofs

/-- a text that writes a fraction is read as that fraction; another one is refused -/
def ParseP(bs:List Nat)(w2:World)(N:Nat→Prop)(v:Value):Prop:=
 (800<bs.length∧v= .tuple #[.agg #[.bool false,.slice none 0 0,.bool false,.slice none 0 0],.int .i64 8])∨
 (bs.length≤800∧∃q v1,bs=txtL q∧v= .tuple #[v1,.int .i64 0]∧RatC w2 N v1 q)∨
 (bs.length≤800∧(∀q,bs≠txtL q)∧v= .tuple #[.agg #[.bool false,.slice none 0 0,.bool false,.slice none 0 0],.int .i64 7])
theorem parse_c(bs:List Nat)(w:World)(hb:∀b∈bs,b<256)(hl:bs.length≤900):
  Con PG N.exact_Parse #[.string (strOf bs)] w (Ret w fun v' w2=>ParseP bs w2 (Nw (fun _=>False) w w2) v'):=by
 have hw:Bel w.heap.size w w:=Bel.refl
 have hlt:∀b∈restL bs,b<256:=fun b h=>by
  unfold restL at h
  split at h
  ·exact hb b (List.mem_of_mem_tail h)
  ·exact hb b h
 have hll:(restL bs).length≤bs.length:=by unfold restL;split<;>simp
 refine in_exact_Parse (by simp) ?_
 conv=>whnf
 rw[strOf_size]
 refine BrS.mk (fun h8=>?_) (fun h8=>?_)
 ·have h8:800<bs.length:=by have:(bs.length:Int)>800:=of_decide_eq_true h8;omega
  conv=>whnf
  intro ρe we re
  exact⟨_,rfl,hw.tr re.bel,.inl ⟨h8,rfl⟩⟩
 have h8:bs.length≤800:=by have:¬(bs.length:Int)>800:=of_decide_eq_false h8;omega
 conv=>whnf
 refine callE_S (callE_con (Φ:=fun _ w' v w2=>v= .tuple #[.string (strOf (restL bs)),.bool (decide (bs.head? =some 45))]) (fun ρ w' r=>cutPrefix_s bs w' hb) ?_)
 rintro ρ wa1 v1 wb1 r he hb rfl
 replace hw:=hw.tr hb
 clear r he hb
 generalize (wa1.heap.size,wb1.heap.size)::[]=iv1 at*
 conv=>whnf
 refine callE_S (callE_con (Φ:=fun _ w' v w2=>v= .tuple #[.string (strOf (cutA (restL bs))),.string (strOf (if 47∈restL bs then cutB (restL bs)else [])),.bool (decide (47∈restL bs))]) (fun ρ w' r=>cut_c (restL bs) w' hlt (by unfold maxLen;omega)) ?_)
 rintro ρ wa2 v2 wb2 r he hb rfl
 replace hw:=hw.tr hb
 clear r he hb
 generalize (wa2.heap.size,wb2.heap.size)::iv1=iv2 at*
 have hA1:∀b∈cutA (restL bs),b<256:=fun b h=>hlt b ((List.takeWhile_sublist _).subset h)
 have hA2:(cutA (restL bs)).length≤(restL bs).length:=List.Sublist.length_le (List.takeWhile_sublist _)
 have hB1:∀b∈cutB (restL bs),b<256:=fun b h=>hlt b ((List.dropWhile_sublist _).subset (List.mem_of_mem_tail h))
 have hB2:(cutB (restL bs)).length≤(restL bs).length:=by
  have:=List.Sublist.length_le (List.dropWhile_sublist (l:=restL bs) (fun b=>b != 47))
  unfold cutB
  rw[List.length_tail]
  omega
 obtain⟨A,hA⟩:∃A,A=cutA (restL bs):=⟨_,rfl⟩
 obtain⟨D,hD⟩:∃D,D=cutB (restL bs):=⟨_,rfl⟩
 have hread:=fun q (e:bs=txtL q)=>(show (bs.head? =some 45↔q.num<0)∧A=dec q.num.natAbs∧(47∈restL bs↔q.den≠1)∧(q.den≠1→D=dec q.den) by
  subst e
  rw[hA,hD]
  exact⟨(txtL_head q).1,txtL_read q⟩)
 rw[←hA]at hA1 hA2 ⊢
 rw[←hD]at hB1 hB2 ⊢
 by_cases hm:47∈restL bs
 ·rw[decide_eq_true hm,if_pos hm]
  conv=>whnf
  refine callE_S (callE_con (Φ:=fun _ w' v w2=>∃v1 ok,v= .tuple #[v1,.bool ok]∧(ok=true→Digs A∧A≠[]∧NatR w2 (Nw (fun _=>False) w' w2) v1 (vald A))∧(Digs A∧A≠[]→ok=true)) (fun ρ w' r=>read_c A w' hA1 (by omega)) ?_)
  rintro ρ wa3 v3 wb3 r he hb ⟨u1,ok1,rfl,hn1,ho1⟩
  replace hw:=hw.tr hb
  have hN1:=(fun e=>(hn1 e).2.2.got (S:=fun _=>False) r.baseLe (iv:=(wa3.heap.size,wb3.heap.size)::iv2) List.mem_cons_self)
  clear r he hb
  generalize (wa3.heap.size,wb3.heap.size)::iv2=iv3 at*
  have hG1:ok1=true→Digs A:=fun e=>(hn1 e).1
  clear hn1
  cases ok1 with
  |false=>
   clear hN1
   conv=>whnf
   refine callE_S (callE_con (Φ:=fun _ w' v w2=>∃v1 ok,v= .tuple #[v1,.bool ok]∧(ok=true→Digs D∧D≠[]∧NatR w2 (Nw (fun _=>False) w' w2) v1 (vald D))∧(Digs D∧D≠[]→ok=true)) (fun ρ w' r=>read_c D w' hB1 (by omega)) ?_)
   rintro ρ wa4 v4 wb4 r he hb ⟨u2,ok2,rfl,hn2,ho2⟩
   replace hw:=hw.tr hb
   have hN2:=(fun e=>(hn2 e).2.2.got (S:=fun _=>False) r.baseLe (iv:=(wa4.heap.size,wb4.heap.size)::iv3) List.mem_cons_self)
   clear r he hb
   generalize (wa4.heap.size,wb4.heap.size)::iv3=iv4 at*
   have hG2:ok2=true→Digs D:=fun e=>(hn2 e).1
   clear hn2
   conv=>whnf
   intro ρe we re
   refine⟨_,rfl,hw.tr re.bel,.inr (.inr ⟨h8,fun q e=>?_,rfl⟩)⟩
   obtain⟨q1,q2,q3,q4⟩:=hread q e
   exact absurd (ho1 ⟨q2▸dec_digs _,q2▸dec_ne _⟩) (by decide)
  |true=>
   replace hN1:=hN1 rfl
   replace hG1:=hG1 rfl
   clear ho1
   obtain⟨p1,rfl,hp1,hq1⟩:=hN1.la
   have hz1:=length_ln p1.lm hq1
   rw[hp1]at hz1
   replace hz1:=ln_pos hz1
   clear hq1 hp1
   conv=>whnf
   refine callE_S (callE_con (Φ:=fun _ w' v w2=>∃v1 ok,v= .tuple #[v1,.bool ok]∧(ok=true→Digs D∧D≠[]∧NatR w2 (Nw (fun _=>False) w' w2) v1 (vald D))∧(Digs D∧D≠[]→ok=true)) (fun ρ w' r=>read_c D w' hB1 (by omega)) ?_)
   rintro ρ wa4 v4 wb4 r he hb ⟨u2,ok2,rfl,hn2,ho2⟩
   replace hw:=hw.tr hb
   replace hN1:=hN1.past (iv':=(wa4.heap.size,wb4.heap.size)::iv3) r (oldF w) he fun x hx=>List.mem_cons_of_mem _ hx
   have hN2:=(fun e=>(hn2 e).2.2.got (S:=fun _=>False) r.baseLe (iv:=(wa4.heap.size,wb4.heap.size)::iv3) List.mem_cons_self)
   clear r he hb
   generalize (wa4.heap.size,wb4.heap.size)::iv3=iv4 at*
   have hG2:ok2=true→Digs D:=fun e=>(hn2 e).1
   clear hn2
   cases ok2 with
   |false=>
    conv=>whnf
    intro ρe we re
    refine⟨_,rfl,hw.tr re.bel,.inr (.inr ⟨h8,fun q e=>?_,rfl⟩)⟩
    obtain⟨q1,q2,q3,q4⟩:=hread q e
    exact absurd (ho2 ⟨(q4 (q3.1 hm))▸dec_digs _,(q4 (q3.1 hm))▸dec_ne _⟩) (by decide)
   |true=>
    replace hN2:=hN2 rfl
    replace hG2:=hG2 rfl
    clear ho2
    obtain⟨p2,rfl,hp2,hq2⟩:=hN2.la
    have hz2:=length_ln p2.lm hq2
    rw[hp2]at hz2
    replace hz2:=ln_pos hz2
    clear hq2 hp2
    conv=>whnf
    refine BrS.mk (fun h0=>?_) (fun h0=>?_)
    ·have h0:p2.ls.length=0:=by have:=eq_of_beq h0;omega
     conv=>whnf
     intro ρe we re
     refine⟨_,rfl,hw.tr re.bel,.inr (.inr ⟨h8,fun q e=>?_,rfl⟩)⟩
     obtain⟨q1,q2,q3,q4⟩:=hread q e
     have:=hz2.2
     have e2:vald D=q.den:=by rw[q4 (q3.1 hm),vald_dec]
     have:=q.den_pos
     omega
    have h0:0<vald D:=hz2.1 (by
     have h9:¬(p2.ls.length:Int)=0:=by simpa using h0
     omega)
    conv=>whnf
    refine BrS.mk (fun hs=>?_) (fun hs=>?_)
    ·have hs:bs.head? =some 45:=of_decide_eq_true hs
     conv=>whnf
     obtain⟨f,hf⟩:∃f,f=Rat.divInt (-(vald A:Int)) (vald D:Int):=⟨_,rfl⟩
     have hlA:=ln_vald hG1 (by omega)
     have hlD:=ln_vald hG2 (by omega)
     have hy0:(vald D:Int)≠0:=by omega
     have hza:(-(vald A:Int):Int).natAbs=vald A:=by omega
     have hya:((vald D:Int):Int).natAbs=vald D:=by omega
     have hfl:=rl_divInt (a:= -(vald A:Int)) hy0
     rw[←hf,hza,hya]at hfl
     have hf1:ln f.num.natAbs≤100:=by have:ln f.num.natAbs≤rl f:=Nat.le_max_left _ _;omega
     have hf2:ln f.den≤100:=by have:ln f.den≤rl f:=Nat.le_max_right _ _;omega
     have hfq:∀q,bs=txtL q→f=q:=fun q e=>by
      obtain⟨q1,q2,q3,q4⟩:=hread q e
      have e1:vald A=q.num.natAbs:=by rw[q2,vald_dec]
      have e2:(vald D:Int)=(q.den:Int):=by rw[q4 (q3.1 hm),vald_dec]
      have e3: -(vald A:Int)=q.num:=by rw[e1];have:=q1.1 hs;omega
      rw[hf,e3,e2,Rat.num_divInt_den]
     have hnum:∀{w9:World} {S9:Nat→Prop},NatR w9 S9 (.slice p1.a p1.ls.length p1.c) (vald A)→NumR w9 S9 (.agg #[.bool (decide ((p1.ls.length:Int)>0)),.slice p1.a p1.ls.length p1.c]) (-(vald A:Int)):=fun h=>⟨_,by rw[show (decide ((p1.ls.length:Int)>0))=decide (-(vald A:Int)<0)from decide_eq_decide.2 ⟨fun k=>by have:=hz1.1 (by omega);omega,fun k=>by have:=hz1.2 (by omega);omega⟩],by rw[show (-(vald A:Int)).natAbs=vald A by omega];exact h⟩
     refine callE_S (callE_con (Φ:=fun _ w' v w2=>FracR w2 (Nw (fun _=>False) w' w2) v f) (fun ρ w' r=>hf▸over_c (Rel.old r (oldF w)) (hnum (hN1.rel r (oldF w))) (NatR.num (hN2.rel r (oldF w))) hy0 (by rw[hza];omega) (by rw[hya];omega)) ?_)
     rintro ρ wa5 v5 wb5 r he hb hn
     replace hw:=hw.tr hb
     clear hN1
     clear hN2
     have hF:=hn.got (S:=fun _=>False) r.baseLe (iv:=(wa5.heap.size,wb5.heap.size)::iv4) List.mem_cons_self
     clear r he hb hn
     generalize (wa5.heap.size,wb5.heap.size)::iv4=iv5 at*
     obtain⟨s5_0,s5_1,s5_2,s5_3,s5_4,s5_5,s5_6,s5_7,rfl⟩:=hF.shape
     conv=>whnf
     refine callE_S (callE_con (Φ:=fun _ w' v w2=>v= .string (txtG f)) (fun ρ w' r=>textG_c (Rel.old r (oldF w)) (hF.rel r (oldF w)) hf1 hf2) ?_)
     rintro ρ wa6 v6 wb6 r he hb rfl
     replace hw:=hw.tr hb
     replace hF:=hF.past (iv':=(wa6.heap.size,wb6.heap.size)::iv5) r (oldF w) he fun x hx=>List.mem_cons_of_mem _ hx
     clear r he hb
     generalize (wa6.heap.size,wb6.heap.size)::iv5=iv6 at*
     conv=>whnf
     refine BrS.mk (fun hc=>?_) (fun hc=>?_)
     ·have hne:∀q,bs≠txtL q:=fun q e=>by
       have e2:=hfq q e
       rw[e2,←strOf_txtL,←e]at hc
       simp at hc
      conv=>whnf
      intro ρe we re
      exact⟨_,rfl,hw.tr re.bel,.inr (.inr ⟨h8,hne,rfl⟩)⟩
     have he:bs=txtL f:=strOf_inj hb (txtL_lt f) (by
      rw[strOf_txtL]
      apply ByteArray.ext
      apply Array.ext'
      have h9:((txtG f).data.toList==(strOf bs).data.toList)=true:=by simpa using hc
      exact(eq_of_beq h9).symm)
     conv=>whnf
     refine callE_S (callE_con (Φ:=fun _ w' v w2=>RatC w2 (Nw (fun _=>False) w' w2) v f) (fun ρ w' r=>fgive_c (Rel.old r (oldF w)) (hF.rel r (oldF w)) (by omega)) ?_)
     rintro ρ wa7 v7 wb7 r he hb hn
     replace hw:=hw.tr hb
     clear hF
     have hR:=hn.got (S:=fun _=>False) r.baseLe (iv:=(wa7.heap.size,wb7.heap.size)::iv6) List.mem_cons_self
     clear r he hb hn
     generalize (wa7.heap.size,wb7.heap.size)::iv6=iv7 at*
     obtain⟨s7_0,s7_1,s7_2,s7_3,s7_4,s7_5,s7_6,s7_7,rfl⟩:=hR.shape
     conv=>whnf
     intro ρe we re
     exact⟨_,rfl,hw.tr re.bel,.inr (.inl ⟨h8,f,_,he,rfl,hR.out re (oldF w)⟩)⟩
    have hs:¬bs.head? =some 45:=of_decide_eq_false hs
    conv=>whnf
    obtain⟨f,hf⟩:∃f,f=Rat.divInt ((vald A:Int)) (vald D:Int):=⟨_,rfl⟩
    have hlA:=ln_vald hG1 (by omega)
    have hlD:=ln_vald hG2 (by omega)
    have hy0:(vald D:Int)≠0:=by omega
    have hza:((vald A:Int):Int).natAbs=vald A:=by omega
    have hya:((vald D:Int):Int).natAbs=vald D:=by omega
    have hfl:=rl_divInt (a:=(vald A:Int)) hy0
    rw[←hf,hza,hya]at hfl
    have hf1:ln f.num.natAbs≤100:=by have:ln f.num.natAbs≤rl f:=Nat.le_max_left _ _;omega
    have hf2:ln f.den≤100:=by have:ln f.den≤rl f:=Nat.le_max_right _ _;omega
    have hfq:∀q,bs=txtL q→f=q:=fun q e=>by
     obtain⟨q1,q2,q3,q4⟩:=hread q e
     have e1:vald A=q.num.natAbs:=by rw[q2,vald_dec]
     have e2:(vald D:Int)=(q.den:Int):=by rw[q4 (q3.1 hm),vald_dec]
     have e3:(vald A:Int)=q.num:=by rw[e1];have:¬q.num<0:=fun k=>hs (q1.2 k);omega
     rw[hf,e3,e2,Rat.num_divInt_den]
    have hnum:∀{w9:World} {S9:Nat→Prop},NatR w9 S9 (.slice p1.a p1.ls.length p1.c) (vald A)→NumR w9 S9 (.agg #[.bool (false),.slice p1.a p1.ls.length p1.c]) ((vald A:Int)):=fun h=>⟨_,by rw[show (false)=decide ((vald A:Int)<0)from(decide_eq_false (by omega)).symm],by rw[show ((vald A:Int)).natAbs=vald A by omega];exact h⟩
    refine callE_S (callE_con (Φ:=fun _ w' v w2=>FracR w2 (Nw (fun _=>False) w' w2) v f) (fun ρ w' r=>hf▸over_c (Rel.old r (oldF w)) (hnum (hN1.rel r (oldF w))) (NatR.num (hN2.rel r (oldF w))) hy0 (by rw[hza];omega) (by rw[hya];omega)) ?_)
    rintro ρ wa5 v5 wb5 r he hb hn
    replace hw:=hw.tr hb
    clear hN1
    clear hN2
    have hF:=hn.got (S:=fun _=>False) r.baseLe (iv:=(wa5.heap.size,wb5.heap.size)::iv4) List.mem_cons_self
    clear r he hb hn
    generalize (wa5.heap.size,wb5.heap.size)::iv4=iv5 at*
    obtain⟨s5_0,s5_1,s5_2,s5_3,s5_4,s5_5,s5_6,s5_7,rfl⟩:=hF.shape
    conv=>whnf
    refine callE_S (callE_con (Φ:=fun _ w' v w2=>v= .string (txtG f)) (fun ρ w' r=>textG_c (Rel.old r (oldF w)) (hF.rel r (oldF w)) hf1 hf2) ?_)
    rintro ρ wa6 v6 wb6 r he hb rfl
    replace hw:=hw.tr hb
    replace hF:=hF.past (iv':=(wa6.heap.size,wb6.heap.size)::iv5) r (oldF w) he fun x hx=>List.mem_cons_of_mem _ hx
    clear r he hb
    generalize (wa6.heap.size,wb6.heap.size)::iv5=iv6 at*
    conv=>whnf
    refine BrS.mk (fun hc=>?_) (fun hc=>?_)
    ·have hne:∀q,bs≠txtL q:=fun q e=>by
      have e2:=hfq q e
      rw[e2,←strOf_txtL,←e]at hc
      simp at hc
     conv=>whnf
     intro ρe we re
     exact⟨_,rfl,hw.tr re.bel,.inr (.inr ⟨h8,hne,rfl⟩)⟩
    have he:bs=txtL f:=strOf_inj hb (txtL_lt f) (by
     rw[strOf_txtL]
     apply ByteArray.ext
     apply Array.ext'
     have h9:((txtG f).data.toList==(strOf bs).data.toList)=true:=by simpa using hc
     exact(eq_of_beq h9).symm)
    conv=>whnf
    refine callE_S (callE_con (Φ:=fun _ w' v w2=>RatC w2 (Nw (fun _=>False) w' w2) v f) (fun ρ w' r=>fgive_c (Rel.old r (oldF w)) (hF.rel r (oldF w)) (by omega)) ?_)
    rintro ρ wa7 v7 wb7 r he hb hn
    replace hw:=hw.tr hb
    clear hF
    have hR:=hn.got (S:=fun _=>False) r.baseLe (iv:=(wa7.heap.size,wb7.heap.size)::iv6) List.mem_cons_self
    clear r he hb hn
    generalize (wa7.heap.size,wb7.heap.size)::iv6=iv7 at*
    obtain⟨s7_0,s7_1,s7_2,s7_3,s7_4,s7_5,s7_6,s7_7,rfl⟩:=hR.shape
    conv=>whnf
    intro ρe we re
    exact⟨_,rfl,hw.tr re.bel,.inr (.inl ⟨h8,f,_,he,rfl,hR.out re (oldF w)⟩)⟩
 rw[decide_eq_false hm,if_neg hm]
 conv=>whnf
 refine callE_S (callE_con (Φ:=fun _ w' v w2=>∃v1 ok,v= .tuple #[v1,.bool ok]∧(ok=true→Digs A∧A≠[]∧NatR w2 (Nw (fun _=>False) w' w2) v1 (vald A))∧(Digs A∧A≠[]→ok=true)) (fun ρ w' r=>read_c A w' hA1 (by omega)) ?_)
 rintro ρ wa3 v3 wb3 r he hb ⟨u1,ok1,rfl,hn1,ho1⟩
 replace hw:=hw.tr hb
 have hN1:=(fun e=>(hn1 e).2.2.got (S:=fun _=>False) r.baseLe (iv:=(wa3.heap.size,wb3.heap.size)::iv2) List.mem_cons_self)
 clear r he hb
 generalize (wa3.heap.size,wb3.heap.size)::iv2=iv3 at*
 have hG1:ok1=true→Digs A:=fun e=>(hn1 e).1
 clear hn1
 conv=>whnf
 cases ok1 with
 |false=>
  conv=>whnf
  intro ρe we re
  refine⟨_,rfl,hw.tr re.bel,.inr (.inr ⟨h8,fun q e=>?_,rfl⟩)⟩
  obtain⟨q1,q2,q3,q4⟩:=hread q e
  exact absurd (ho1 ⟨q2▸dec_digs _,q2▸dec_ne _⟩) (by decide)
 |true=>
  replace hN1:=hN1 rfl
  replace hG1:=hG1 rfl
  clear ho1
  obtain⟨p1,rfl,hp1,hq1⟩:=hN1.la
  have hz1:=length_ln p1.lm hq1
  rw[hp1]at hz1
  replace hz1:=ln_pos hz1
  clear hq1 hp1
  conv=>whnf
  refine BrS.mk (fun hs=>?_) (fun hs=>?_)
  ·have hs:bs.head? =some 45:=of_decide_eq_true hs
   conv=>whnf
   obtain⟨f,hf⟩:∃f,f=Rat.divInt (-(vald A:Int)) (1:Int):=⟨_,rfl⟩
   have hlA:=ln_vald hG1 (by omega)
   have hlD:ln 1≤1:=by decide
   have hy0:(1:Int)≠0:=by decide
   have hza:(-(vald A:Int):Int).natAbs=vald A:=by omega
   have hya:((1:Int):Int).natAbs=1:=by omega
   have hfl:=rl_divInt (a:= -(vald A:Int)) hy0
   rw[←hf,hza,hya]at hfl
   have hf1:ln f.num.natAbs≤100:=by have:ln f.num.natAbs≤rl f:=Nat.le_max_left _ _;omega
   have hf2:ln f.den≤100:=by have:ln f.den≤rl f:=Nat.le_max_right _ _;omega
   have hfq:∀q,bs=txtL q→f=q:=fun q e=>by
    obtain⟨q1,q2,q3,q4⟩:=hread q e
    have e1:vald A=q.num.natAbs:=by rw[q2,vald_dec]
    have e2:(1:Int)=(q.den:Int):=by rw[show q.den=1 from Decidable.byContradiction fun k=>hm (q3.2 k)];rfl
    have e3: -(vald A:Int)=q.num:=by rw[e1];have:=q1.1 hs;omega
    rw[hf,e3,e2,Rat.num_divInt_den]
   have hnum:∀{w9:World} {S9:Nat→Prop},NatR w9 S9 (.slice p1.a p1.ls.length p1.c) (vald A)→NumR w9 S9 (.agg #[.bool (decide ((p1.ls.length:Int)>0)),.slice p1.a p1.ls.length p1.c]) (-(vald A:Int)):=fun h=>⟨_,by rw[show (decide ((p1.ls.length:Int)>0))=decide (-(vald A:Int)<0)from decide_eq_decide.2 ⟨fun k=>by have:=hz1.1 (by omega);omega,fun k=>by have:=hz1.2 (by omega);omega⟩],by rw[show (-(vald A:Int)).natAbs=vald A by omega];exact h⟩
   refine callE_S (callE_con (Φ:=fun _ w' v w2=>FracR w2 (Nw (fun _=>False) w' w2) v f) (fun ρ w' r=>?_) ?_)
   ·have hT:NatR w' (fun g=>g<w'.heap.size) ((At.s 1 0 1 1).den ρ) 1:=⟨[1],(r.boxLimbs (id:=1) (ls:=[1]) rfl (by intro x hx;simp at hx;omega) (by simp)).weak fun g hg=>by rw[hg];exact(r.low 1 _ rfl (r.nn 1 _ rfl (by intros;simp) (by simp))).2,by unfold Nz;simp,rfl⟩
    exact hf▸over_c (fun g hg=>hg) (hnum ((hN1.rel r (oldF w)).weak fun g hg=>Rel.old r (oldF w) g hg)) (NatR.num hT) hy0 (by rw[hza];omega) (by decide)
   rintro ρ wa4 v4 wb4 r he hb hn
   replace hw:=hw.tr hb
   clear hN1
   have hF:=hn.got (S:=fun _=>False) r.baseLe (iv:=(wa4.heap.size,wb4.heap.size)::iv3) List.mem_cons_self
   clear r he hb hn
   generalize (wa4.heap.size,wb4.heap.size)::iv3=iv4 at*
   obtain⟨s4_0,s4_1,s4_2,s4_3,s4_4,s4_5,s4_6,s4_7,rfl⟩:=hF.shape
   conv=>whnf
   refine callE_S (callE_con (Φ:=fun _ w' v w2=>v= .string (txtG f)) (fun ρ w' r=>textG_c (Rel.old r (oldF w)) (hF.rel r (oldF w)) hf1 hf2) ?_)
   rintro ρ wa5 v5 wb5 r he hb rfl
   replace hw:=hw.tr hb
   replace hF:=hF.past (iv':=(wa5.heap.size,wb5.heap.size)::iv4) r (oldF w) he fun x hx=>List.mem_cons_of_mem _ hx
   clear r he hb
   generalize (wa5.heap.size,wb5.heap.size)::iv4=iv5 at*
   conv=>whnf
   refine BrS.mk (fun hc=>?_) (fun hc=>?_)
   ·have hne:∀q,bs≠txtL q:=fun q e=>by
     have e2:=hfq q e
     rw[e2,←strOf_txtL,←e]at hc
     simp at hc
    conv=>whnf
    intro ρe we re
    exact⟨_,rfl,hw.tr re.bel,.inr (.inr ⟨h8,hne,rfl⟩)⟩
   have he:bs=txtL f:=strOf_inj hb (txtL_lt f) (by
    rw[strOf_txtL]
    apply ByteArray.ext
    apply Array.ext'
    have h9:((txtG f).data.toList==(strOf bs).data.toList)=true:=by simpa using hc
    exact(eq_of_beq h9).symm)
   conv=>whnf
   refine callE_S (callE_con (Φ:=fun _ w' v w2=>RatC w2 (Nw (fun _=>False) w' w2) v f) (fun ρ w' r=>fgive_c (Rel.old r (oldF w)) (hF.rel r (oldF w)) (by omega)) ?_)
   rintro ρ wa6 v6 wb6 r he hb hn
   replace hw:=hw.tr hb
   clear hF
   have hR:=hn.got (S:=fun _=>False) r.baseLe (iv:=(wa6.heap.size,wb6.heap.size)::iv5) List.mem_cons_self
   clear r he hb hn
   generalize (wa6.heap.size,wb6.heap.size)::iv5=iv6 at*
   obtain⟨s6_0,s6_1,s6_2,s6_3,s6_4,s6_5,s6_6,s6_7,rfl⟩:=hR.shape
   conv=>whnf
   intro ρe we re
   exact⟨_,rfl,hw.tr re.bel,.inr (.inl ⟨h8,f,_,he,rfl,hR.out re (oldF w)⟩)⟩
  have hs:¬bs.head? =some 45:=of_decide_eq_false hs
  conv=>whnf
  obtain⟨f,hf⟩:∃f,f=Rat.divInt ((vald A:Int)) (1:Int):=⟨_,rfl⟩
  have hlA:=ln_vald hG1 (by omega)
  have hlD:ln 1≤1:=by decide
  have hy0:(1:Int)≠0:=by decide
  have hza:((vald A:Int):Int).natAbs=vald A:=by omega
  have hya:((1:Int):Int).natAbs=1:=by omega
  have hfl:=rl_divInt (a:=(vald A:Int)) hy0
  rw[←hf,hza,hya]at hfl
  have hf1:ln f.num.natAbs≤100:=by have:ln f.num.natAbs≤rl f:=Nat.le_max_left _ _;omega
  have hf2:ln f.den≤100:=by have:ln f.den≤rl f:=Nat.le_max_right _ _;omega
  have hfq:∀q,bs=txtL q→f=q:=fun q e=>by
   obtain⟨q1,q2,q3,q4⟩:=hread q e
   have e1:vald A=q.num.natAbs:=by rw[q2,vald_dec]
   have e2:(1:Int)=(q.den:Int):=by rw[show q.den=1 from Decidable.byContradiction fun k=>hm (q3.2 k)];rfl
   have e3:(vald A:Int)=q.num:=by rw[e1];have:¬q.num<0:=fun k=>hs (q1.2 k);omega
   rw[hf,e3,e2,Rat.num_divInt_den]
  have hnum:∀{w9:World} {S9:Nat→Prop},NatR w9 S9 (.slice p1.a p1.ls.length p1.c) (vald A)→NumR w9 S9 (.agg #[.bool (false),.slice p1.a p1.ls.length p1.c]) ((vald A:Int)):=fun h=>⟨_,by rw[show (false)=decide ((vald A:Int)<0)from(decide_eq_false (by omega)).symm],by rw[show ((vald A:Int)).natAbs=vald A by omega];exact h⟩
  refine callE_S (callE_con (Φ:=fun _ w' v w2=>FracR w2 (Nw (fun _=>False) w' w2) v f) (fun ρ w' r=>?_) ?_)
  ·have hT:NatR w' (fun g=>g<w'.heap.size) ((At.s 1 0 1 1).den ρ) 1:=⟨[1],(r.boxLimbs (id:=1) (ls:=[1]) rfl (by intro x hx;simp at hx;omega) (by simp)).weak fun g hg=>by rw[hg];exact(r.low 1 _ rfl (r.nn 1 _ rfl (by intros;simp) (by simp))).2,by unfold Nz;simp,rfl⟩
   exact hf▸over_c (fun g hg=>hg) (hnum ((hN1.rel r (oldF w)).weak fun g hg=>Rel.old r (oldF w) g hg)) (NatR.num hT) hy0 (by rw[hza];omega) (by decide)
  rintro ρ wa4 v4 wb4 r he hb hn
  replace hw:=hw.tr hb
  clear hN1
  have hF:=hn.got (S:=fun _=>False) r.baseLe (iv:=(wa4.heap.size,wb4.heap.size)::iv3) List.mem_cons_self
  clear r he hb hn
  generalize (wa4.heap.size,wb4.heap.size)::iv3=iv4 at*
  obtain⟨s4_0,s4_1,s4_2,s4_3,s4_4,s4_5,s4_6,s4_7,rfl⟩:=hF.shape
  conv=>whnf
  refine callE_S (callE_con (Φ:=fun _ w' v w2=>v= .string (txtG f)) (fun ρ w' r=>textG_c (Rel.old r (oldF w)) (hF.rel r (oldF w)) hf1 hf2) ?_)
  rintro ρ wa5 v5 wb5 r he hb rfl
  replace hw:=hw.tr hb
  replace hF:=hF.past (iv':=(wa5.heap.size,wb5.heap.size)::iv4) r (oldF w) he fun x hx=>List.mem_cons_of_mem _ hx
  clear r he hb
  generalize (wa5.heap.size,wb5.heap.size)::iv4=iv5 at*
  conv=>whnf
  refine BrS.mk (fun hc=>?_) (fun hc=>?_)
  ·have hne:∀q,bs≠txtL q:=fun q e=>by
    have e2:=hfq q e
    rw[e2,←strOf_txtL,←e]at hc
    simp at hc
   conv=>whnf
   intro ρe we re
   exact⟨_,rfl,hw.tr re.bel,.inr (.inr ⟨h8,hne,rfl⟩)⟩
  have he:bs=txtL f:=strOf_inj hb (txtL_lt f) (by
   rw[strOf_txtL]
   apply ByteArray.ext
   apply Array.ext'
   have h9:((txtG f).data.toList==(strOf bs).data.toList)=true:=by simpa using hc
   exact(eq_of_beq h9).symm)
  conv=>whnf
  refine callE_S (callE_con (Φ:=fun _ w' v w2=>RatC w2 (Nw (fun _=>False) w' w2) v f) (fun ρ w' r=>fgive_c (Rel.old r (oldF w)) (hF.rel r (oldF w)) (by omega)) ?_)
  rintro ρ wa6 v6 wb6 r he hb hn
  replace hw:=hw.tr hb
  clear hF
  have hR:=hn.got (S:=fun _=>False) r.baseLe (iv:=(wa6.heap.size,wb6.heap.size)::iv5) List.mem_cons_self
  clear r he hb hn
  generalize (wa6.heap.size,wb6.heap.size)::iv5=iv6 at*
  obtain⟨s6_0,s6_1,s6_2,s6_3,s6_4,s6_5,s6_6,s6_7,rfl⟩:=hR.shape
  conv=>whnf
  intro ρe we re
  exact⟨_,rfl,hw.tr re.bel,.inr (.inl ⟨h8,f,_,he,rfl,hR.out re (oldF w)⟩)⟩
end Go.Ex

/- Small of package exact. Printed by program. No condition. -/
namespace Go.Ex
open Go Go.Sx Go.Proofs

def smallV(z:Int):Value:=if -9223372036854775808≤z∧z≤9223372036854775807 then .tuple #[.int .i64 z,.bool true]else .tuple #[.int .i64 0,.bool false]
end Go.Ex

/- Small of the reference. Printed by program. No condition but sizes. -/
namespace Go.Ex
open Go Go.Sx Go.Proofs

/-- columns of one sign -/
def ColS(cs:List Int)(n:Nat)(z:Int):Prop:=colval cs=z∧cs.length≤n∧(0≤z→∀c∈cs,0≤c∧c≤65535)∧(z<0→∀c∈cs,-65535≤c∧c≤0)
theorem limbCols_neg{ls:List Nat}(h:Lm ls):∀c∈limbCols (-1) ls,-65535≤c∧c≤0:=fun c hc=>by
 induction ls with
 |nil=>cases hc
 |cons l r ih=>
  have hl:=h l List.mem_cons_self
  rw[limbCols]at hc
  rcases List.mem_cons.1 hc with rfl|hc
  ·omega
  rcases List.mem_cons.1 hc with rfl|hc
  ·omega
  ·exact ih (fun x hx=>h x (List.mem_cons_of_mem _ hx)) hc
theorem rcolsS_c{S:Nat→Prop}{w:World}{v:Value}{z:Int}(hS:Old S w)(h:IntC w S v z)(hk:ln z.natAbs≤40000000):
  Con PG N.ref01_columns #[v] w (Ret w fun v' w2=>∃cs,ColsR w2 (Nw (fun _=>False) w w2) v' cs∧ColS cs 80000000 z):=by
 obtain⟨ls,hi,hz,hv⟩:=h
 have hlm:Lm ls:=by obtain⟨_,_,h⟩:=hi;exact h.lm
 have hl:=length_ln hlm hz
 rw[hv]at hl
 refine(rcolumns_c hS hi (by omega)).mono fun _ w2 ⟨v2,e1,e2,e3⟩=>⟨v2,e1,e2,_,e3,by rw[limbCols_val,sgn_val,hv,sg_natAbs],by rw[limbCols_length];omega,fun h0=>?_,fun h0=>?_⟩
 ·rw[decide_eq_false (show ¬z<0 by omega)]
  exact limbCols_digits hlm
 ·rw[decide_eq_true h0]
  exact limbCols_neg hlm
theorem colval_pos{cs:List Int}(h:∀c∈cs,0≤c∧c≤65535)(i:Nat):0≤colval (cs.drop i)∧colval (cs.drop i)≤colval cs:=by
 induction cs generalizing i with
 |nil=>simp[colval]
 |cons c r ih=>
  have h1:=h c List.mem_cons_self
  have h2:=ih (fun x hx=>h x (List.mem_cons_of_mem _ hx))
  have h3:=h2 0
  rw[List.drop_zero]at h3
  cases i with
  |zero=>rw[List.drop_zero,colval];omega
  |succ i=>have:=h2 i;rw[List.drop_succ_cons,colval];omega
theorem colval_down{cs:List Int}(h:∀c∈cs,-65535≤c∧c≤0)(i:Nat):colval cs≤colval (cs.drop i)∧colval (cs.drop i)≤0:=by
 induction cs generalizing i with
 |nil=>simp[colval]
 |cons c r ih=>
  have h1:=h c List.mem_cons_self
  have h2:=ih (fun x hx=>h x (List.mem_cons_of_mem _ hx))
  have h3:=h2 0
  rw[List.drop_zero]at h3
  cases i with
  |zero=>rw[List.drop_zero,colval];omega
  |succ i=>have:=h2 i;rw[List.drop_succ_cons,colval];omega
/-- every upper part of the columns of a machine integer is one -/
theorem ColS.part{cs:List Int}{n:Nat}{z:Int}(h:ColS cs n z){i:Nat}{c:Int}(hc:cs[i]? =some c)(h1: -9223372036854775808≤z)(h2:z≤9223372036854775807):
  colval (cs.drop i)=c+65536*colval (cs.drop (i+1))∧ -9223372036854775808≤65536*colval (cs.drop (i+1))∧65536*colval (cs.drop (i+1))≤9223372036854775807∧ -9223372036854775808≤colval (cs.drop i)∧colval (cs.drop i)≤9223372036854775807:=by
 have e:=colval_drop hc
 have hm:=List.mem_of_getElem? hc
 have hv:=h.1
 by_cases h0:0≤z
 ·have k1:=h.2.2.1 h0
  have k2:=colval_pos k1 i
  have k3:=colval_pos k1 (i+1)
  have k4:=k1 c hm
  omega
 ·have k1:=h.2.2.2 (by omega)
  have k2:=colval_down k1 i
  have k3:=colval_down k1 (i+1)
  have k4:=k1 c hm
  omega
theorem rSmall_c{S:Nat→Prop}{w:World}{v:Value}{k:Nat}{x:Int}(hS:Old S w)(hx:IntL w S v k x)(hk:k≤1000000):Con PG N.ref01_Small #[v] w (Ret w fun v' _=>v'=smallV x):=by
 have hw:Bel w.heap.size w w:=Bel.refl
 have hlx:=hx.ln
 replace hx:=hx.weak (S':=Cv S w.heap.size []) fun _ h=>.inl h
 obtain⟨b1,a1,n1,c1,rfl⟩:=hx.shape
 refine in_ref01_Small (by simp) ?_
 conv=>whnf
 refine callE_S (callE_con (Φ:=fun _ w' v w2=>IntC w2 (Nw (fun _=>False) w' w2) v (-9223372036854775808)) (fun ρ w' r=>rOf_c _ w' (by decide) (by decide)) ?_)
 rintro ρ wa1 v1 wb1 r he hb hn
 replace hw:=hw.tr hb
 replace hx:=hx.past (iv':=(wa1.heap.size,wb1.heap.size)::[]) r hS he fun x hx=>List.mem_cons_of_mem _ hx
 have hm:=hn.got (S:=fun _=>False) r.baseLe (iv:=(wa1.heap.size,wb1.heap.size)::[]) List.mem_cons_self
 clear r he hb hn
 generalize (wa1.heap.size,wb1.heap.size)::[]=iv1 at*
 obtain⟨s1_0,s1_1,s1_2,s1_3,rfl⟩:=hm.shape
 conv=>whnf
 refine drawn_of_pi hτ hmix [.x 0,.x 1,.x 2,.x 3,.x 4,.x 5,.x 6,.x 7,.x 8,.x 9] (by kernel_rfl) (by kernel_rfl) ?_
 conv=>whnf
 have sx:=sign_cases (x-(-9223372036854775808))
 have sy:=sign_cases (x-9223372036854775807)
 refine callE_con (Φ:=fun _ w' v w2=>v= .int .i64 (x-(-9223372036854775808)).sign) (fun ρ w' r=>rCmpInt_c (Rel.old r hS) (hx.rel r hS) (((hm.rel r (oldF w)).l (k:=2) (by decide)).weak fun g hg=>Cv.false hg) (by omega) (by omega)) ?_
 rintro ρ wa2 v2 wb2 r he hb rfl
 replace hw:=hw.tr hb
 replace hx:=hx.past (iv':=(wa2.heap.size,wb2.heap.size)::iv1) r hS he fun x hx=>List.mem_cons_of_mem _ hx
 clear hm
 clear r he hb
 generalize (wa2.heap.size,wb2.heap.size)::iv1=iv2 at*
 conv=>whnf
 refine BrS.mk (fun h1=>?_) (fun h1=>?_)
 ·have h1:=of_decide_eq_true h1
  conv=>whnf
  intro ρe we re
  exact⟨_,rfl,hw.tr re.bel,by rw[smallV,if_neg (by omega)];rfl⟩
 have h1:=of_decide_eq_false h1
 conv=>whnf
 refine callE_con (Φ:=fun _ w' v w2=>IntC w2 (Nw (fun _=>False) w' w2) v (9223372036854775807)) (fun ρ w' r=>rOf_c _ w' (by decide) (by decide)) ?_
 rintro ρ wa3 v3 wb3 r he hb hn
 replace hw:=hw.tr hb
 replace hx:=hx.past (iv':=(wa3.heap.size,wb3.heap.size)::iv2) r hS he fun x hx=>List.mem_cons_of_mem _ hx
 have hm:=hn.got (S:=fun _=>False) r.baseLe (iv:=(wa3.heap.size,wb3.heap.size)::iv2) List.mem_cons_self
 clear r he hb hn
 generalize (wa3.heap.size,wb3.heap.size)::iv2=iv3 at*
 obtain⟨s3_0,s3_1,s3_2,s3_3,rfl⟩:=hm.shape
 conv=>whnf
 refine callE_con (Φ:=fun _ w' v w2=>v= .int .i64 (x-9223372036854775807).sign) (fun ρ w' r=>rCmpInt_c (Rel.old r hS) (hx.rel r hS) (((hm.rel r (oldF w)).l (k:=2) (by decide)).weak fun g hg=>Cv.false hg) (by omega) (by omega)) ?_
 rintro ρ wa4 v4 wb4 r he hb rfl
 replace hw:=hw.tr hb
 replace hx:=hx.past (iv':=(wa4.heap.size,wb4.heap.size)::iv3) r hS he fun x hx=>List.mem_cons_of_mem _ hx
 clear hm
 clear r he hb
 generalize (wa4.heap.size,wb4.heap.size)::iv3=iv4 at*
 conv=>whnf
 refine BrS.mk (fun h2=>?_) (fun h2=>?_)
 ·have h2:=of_decide_eq_true h2
  conv=>whnf
  intro ρe we re
  exact⟨_,rfl,hw.tr re.bel,by rw[smallV,if_neg (by omega)];rfl⟩
 have h2:=of_decide_eq_false h2
 have r1: -9223372036854775808≤x:=by omega
 have r2:x≤9223372036854775807:=by omega
 clear h1 h2 sx sy
 conv=>whnf
 refine callE_S (callE_con (Φ:=fun _ w' v w2=>IntC w2 (Nw (fun _=>False) w' w2) v (x)) (fun ρ w' r=>rInt_c (Rel.old r hS) (hx.rel r hS) (by omega)) ?_)
 rintro ρ wa5 v5 wb5 r he hb hn
 replace hw:=hw.tr hb
 clear hx
 have hi:=hn.got (S:=fun _=>False) r.baseLe (iv:=(wa5.heap.size,wb5.heap.size)::iv4) List.mem_cons_self
 clear r he hb hn
 generalize (wa5.heap.size,wb5.heap.size)::iv4=iv5 at*
 obtain⟨s5_0,s5_1,s5_2,s5_3,rfl⟩:=hi.shape
 conv=>whnf
 refine callE_S (callE_con (Φ:=fun _ w' v w2=>∃cs,ColsR w2 (Nw (fun _=>False) w' w2) v cs∧ColS cs 80000000 x) (fun ρ w' r=>rcolsS_c (Rel.old r (oldF w)) (hi.rel r (oldF w)) (by omega)) ?_)
 rintro ρ wa6 v6 wb6 r he hb ⟨cs,k1,bcs⟩
 replace hw:=hw.tr hb
 clear hi
 have hc:=k1.got (S:=fun _=>False) r.baseLe (iv:=(wa6.heap.size,wb6.heap.size)::iv5) List.mem_cons_self
 clear r he hb
 generalize (wa6.heap.size,wb6.heap.size)::iv5=iv6 at*
 clear k1
 obtain⟨ac,cc,rfl,lc⟩:=hc.shape
 have ll:=bcs.2.1
 conv=>whnf
 refine⟨(cs.length:Int)-1,by rw[wrap64]<;>omega,?_⟩
 conv=>whnf
 refine⟨Nat×World,fun z=>⟨[(5,.o (.v (.slice ac cs.length cc))),(6,.o (.v (.int .i64 (colval (cs.drop z.1))))),(7,.o (.v (.int .i64 ((z.1:Int)-1))))],[],0,iv6,z.2⟩,fun z=>z.1,
  fun z=>z.1≤cs.length∧Bel w.heap.size w z.2∧ColsR z.2 (Cv (fun _=>False) w.heap.size iv6) (.slice ac cs.length cc) cs,?_,?_⟩
 ·intro ρ w' r
  exact⟨(cs.length,w'),⟨Nat.le_refl _,hw.tr r.bel,hc.rel r (oldF w)⟩,Sub.gen [] r trivial ⟨rfl,by dsimp only;rw[List.drop_length];rfl,rfl,trivial⟩ (by simp[ScH]) (by simp[ScE,SV.sc,At.sc]) (by rfl) (fun lo hi h=>h)⟩
 clear hw hc
 rintro⟨j,w1⟩ ⟨hj,hw,hc⟩
 dsimp only at hj hw hc ⊢
 conv=>whnf
 refine BrS.mk (fun hib=>?_) (fun hib=>?_)
 ·obtain⟨i,rfl⟩:∃i,j=i+1:=⟨j-1,by have:(j:Int)-1≥0:=of_decide_eq_true hib;omega⟩
  rw[show ((i+1:Nat):Int)-1=(i:Int) by omega]
  obtain⟨d,hd1⟩:∃d,cs[i]? =some d:=⟨_,List.getElem?_eq_getElem (by omega)⟩
  obtain⟨p1,p2,p3,p4,p5⟩:=bcs.part hd1 r1 r2
  obtain⟨ad,ha0,q1,q2⟩:=hc.load hd1
  conv=>whnf
  refine⟨65536*colval (cs.drop (i+1)),by rw[Int.mul_comm,wrap64]<;>omega,?_⟩
  conv=>whnf
  refine⟨ad,ha0,⟨by omega,by omega⟩,?_⟩
  conv=>whnf
  refine⟨.int .i64 d,fun ρ w' r=>?_,?_⟩
  ·rw[Int.toNat_natCast,cell_of_heap (w:=w1) (w2:=w') (by rw[addB];exact Rel.same (S:=fun _=>False) r (oldF w) q1)]
   exact q2
  conv=>whnf
  refine⟨colval (cs.drop i),by rw[p1,Int.add_comm d,wrap64]<;>omega,?_⟩
  conv=>whnf
  refine⟨(i:Int)-1,by rw[wrap64]<;>omega,?_⟩
  conv=>whnf
  intro ρ3 w3 r3
  exact⟨(i,w3),⟨by dsimp only;omega,hw.tr r3.bel,hc.rel r3 (oldF w)⟩,Sub.gen [] r3 trivial ⟨rfl,rfl,rfl,trivial⟩ (by simp[ScH]) (by simp[ScE,SV.sc,At.sc]) (by rfl) (fun lo hi h=>h),by dsimp only;omega⟩
 obtain rfl:j=0:=by have:¬(j:Int)-1≥0:=of_decide_eq_false hib;omega
 rw[List.drop_zero,bcs.1]
 conv=>whnf
 intro ρe we re
 exact⟨_,rfl,hw.tr re.bel,by rw[smallV,if_pos ⟨r1,r2⟩];rfl⟩
end Go.Ex

/- digits of the reference. Printed by program. No condition but sizes. -/
namespace Go.Ex
open Go Go.Sx Go.Proofs

theorem digit_part{n:Nat}(h:n<10):(⟨#[48,49,50,51,52,53,54,55,56,57]⟩:ByteArray).extract n (n+1)=strOf [48+n]:=by
 have:n=0∨n=1∨n=2∨n=3∨n=4∨n=5∨n=6∨n=7∨n=8∨n=9:=by omega
 rcases this with rfl|rfl|rfl|rfl|rfl|rfl|rfl|rfl|rfl|rfl<;>decide
theorem rDigits_c{S:Nat→Prop}{w:World}{v:Value}{n:Nat}(hS:Old S w)(hx:IntC w S v ((n:Nat):Int))(hn:ln n≤100):
  Con PG N.ref01_digits #[v] w (Ret w fun v' _=>v'= .string (strOf (dec n))):=by
 have hw:Bel w.heap.size w w:=Bel.refl
 have hdl:=decL_len hn
 replace hx:=hx.weak (S':=Cv S w.heap.size []) fun _ h=>.inl h
 obtain⟨b1,a1,n1,c1,rfl⟩:=hx.shape
 refine in_ref01_digits (by simp) ?_
 conv=>whnf
 refine⟨Nat×List Nat×(Bool×Option Addr×Nat×Nat)×World×Iv,fun z=>⟨[(1,.o (.p 0 0)),(3,.o (.v (.string (strOf z.2.1))))],[(0,.box T.Int [.v (.bool z.2.2.1.1),.v (.slice z.2.2.1.2.1 z.2.2.1.2.2.1 z.2.2.1.2.2.2)])],1,z.2.2.2.2,z.2.2.2.1⟩,fun z=>(if z.2.1=[]then 1 else 0)+z.1,
  fun z=>z.1≤n∧dec n=(if z.1=0∧z.2.1≠[]then []else dec z.1)++z.2.1∧Bel w.heap.size w z.2.2.2.1∧IntC z.2.2.2.1 (Cv S w.heap.size z.2.2.2.2) (.agg #[.bool z.2.2.1.1,.slice z.2.2.1.2.1 z.2.2.1.2.2.1 z.2.2.1.2.2.2]) ((z.1:Nat):Int),?_,?_⟩
 ·intro ρ w' r
  exact⟨(n,[],(b1,a1,n1,c1),w',[]),⟨Nat.le_refl _,by simp,hw.tr r.bel,hx.rel r hS⟩,Sub.gen [] r ⟨rfl,trivial⟩ ⟨rfl,rfl,trivial⟩ (by simp[ScH,Blk.scopd,At.sc]) (by simp[ScE,SV.sc,At.sc]) (by rfl) (fun lo hi h=>h)⟩
 clear hw hx
 rintro⟨m,s,⟨b1,a1,n1,c1⟩,w1,iv⟩ ⟨hm,hd,hw,hx⟩
 dsimp only at hm hd hw hx ⊢
 have hlm:ln m≤100:=Nat.le_trans (ln_mono hm) hn
 have hsl:s.length≤1801:=by rw[hd,List.length_append]at hdl;omega
 by_cases hs0:s=[]
 ·have hd2:dec n=dec m++[]:=by rw[hd,if_neg fun e=>e.2 hs0,hs0]
  have hmeas:(if s=[]then 1 else 0)+m=m+1:=by rw[if_pos hs0];omega
  rw[hmeas]
  clear hmeas
  rw[hs0]
  conv=>whnf
  have hm10:m % 10<10:=Nat.mod_lt _ (by decide)
  have hnext:dec n=(if m / 10=0∧(48+m % 10)::(([]:List Nat))≠[]then []else dec (m / 10))++(48+m % 10)::(([]:List Nat)):=by
   rw[hd2]
   by_cases h9:m<10
   ·rw[dec_small h9,if_pos ⟨by omega,by simp⟩,show m % 10=m by omega];rfl
   ·rw[dec_step h9,if_neg (by omega),List.append_assoc];rfl
  have hle10:=ln_mono (Nat.div_le_self m 10)
  clear hd hd2
  refine drawn_of_pi hτ hmix [.x 0,.p 7,.p 8,.x 1,.x 2,.x 3,.x 4,.x 5,.x 6,.x 7,.x 8,.x 9,.x 10,.x 11] (by kernel_rfl) (by kernel_rfl) ?_
  conv=>whnf
  refine callE_con (Φ:=fun _ w' v w2=>IntC w2 (Nw (fun _=>False) w' w2) v 10) (fun ρ w' r=>rOf_c 10 w' (by decide) (by decide)) ?_
  rintro ρ wa1 v1 wb1 r he hb hn
  replace hw:=hw.tr hb
  replace hx:=hx.past (iv':=(wa1.heap.size,wb1.heap.size)::iv) r hS he fun x hx=>List.mem_cons_of_mem _ hx
  have ht:=hn.got (S:=fun _=>False) r.baseLe (iv:=(wa1.heap.size,wb1.heap.size)::iv) List.mem_cons_self
  clear r he hb hn
  generalize (wa1.heap.size,wb1.heap.size)::iv=iv1 at*
  obtain⟨s1_0,s1_1,s1_2,s1_3,rfl⟩:=ht.shape
  conv=>whnf
  refine callE_con (Φ:=fun _ w' v w2=>∃q r,v= .tuple #[q,r,.int .i64 0]∧IntC w2 (Nw (fun _=>False) w' w2) q ((m / 10:Nat):Int)∧IntC w2 (Nw (fun _=>False) w' w2) r ((m % 10:Nat):Int)) (fun ρ w' r=>(rDivide_c (Rel.old r hS) (IntC.l (hx.rel r hS) (k:=100) (by exact hlm)) (IntC.l ((ht.rel r (oldF w)).weak fun _ hg=>(cvF hg:Cv S w.heap.size _ _)) (k:=1) (by decide)) (by decide) (by decide)).mono fun e w3 ⟨v2,x1,x2,x3⟩=>⟨v2,x1,x2,by rcases x3 with⟨h0,-⟩|⟨-,q,r,h1,h2,h3⟩;exact absurd h0 (by decide);exact⟨q,r,h1,by simpa using h2,by simpa using h3⟩⟩) ?_
  rintro ρ wa2 v2 wb2 r he hb ⟨q,r9,rfl,hq,hr⟩
  replace hw:=hw.tr hb
  clear hx
  clear ht
  have hq2:=IntC.got (S:=S) hq r.baseLe (iv:=(wa2.heap.size,wb2.heap.size)::iv1) List.mem_cons_self
  have hr2:=IntC.got (S:=fun _=>False) hr r.baseLe (iv:=(wa2.heap.size,wb2.heap.size)::iv1) List.mem_cons_self
  clear r he hb
  generalize (wa2.heap.size,wb2.heap.size)::iv1=iv2 at*
  clear hq hr
  obtain⟨b2,a2,n2,c2,rfl⟩:=hq2.shape
  obtain⟨b3,a3,n3,c3,rfl⟩:=hr2.shape
  conv=>whnf
  refine callE_S (callE_con (Φ:=fun _ w' v w2=>v= .tuple #[.int .i64 ((m % 10:Nat):Int),.bool true]) (fun ρ w' r=>(show smallV ((m % 10:Nat):Int)= .tuple #[.int .i64 ((m % 10:Nat):Int),.bool true]from if_pos ⟨by omega,by omega⟩)▸rSmall_c (Rel.old r (oldF w)) (IntC.l (hr2.rel r (oldF w)) (k:=1) (ln_le.2 (by show(m % 10)<4294967296^1;omega))) (by decide)) ?_)
  rintro ρ wa3 v3 wb3 r he hb rfl
  replace hw:=hw.tr hb
  replace hq2:=hq2.past (iv':=(wa3.heap.size,wb3.heap.size)::iv2) r hS he fun x hx=>List.mem_cons_of_mem _ hx
  clear hr2
  clear r he hb
  generalize (wa3.heap.size,wb3.heap.size)::iv2=iv3 at*
  conv=>whnf
  refine⟨((m % 10+1:Nat):Int),by rw[wrap64]<;>omega,?_⟩
  conv=>whnf
  refine⟨⟨by omega,by omega,by show _≤((10:Nat):Int);omega⟩,?_⟩
  conv=>whnf
  refine⟨?_,?_⟩
  ·show(ByteArray.extract _ (m % 10) (m % 10+1)).size+(strOf (([]:List Nat))).size≤maxLen
   rw[digit_part hm10,strOf_size,strOf_size]
   unfold maxLen
   first|(simp;done)|(simp;omega)
  conv=>whnf
  intro ρ3 w3 r3
  exact⟨(m / 10,(48+m % 10)::(([]:List Nat)),(b2,a2,n2,c2),w3,_),⟨by dsimp only;omega,hnext,hw.tr r3.bel,hq2.rel r3 hS⟩,Sub.gen [] r3 ⟨rfl,trivial⟩ ⟨rfl,by rw[show strOf ((48+m % 10)::(([]:List Nat)))=strOf ([48+m % 10]++(([]:List Nat)))from rfl,strOf_app,←digit_part hm10];rfl,trivial⟩ (by simp[ScH,Blk.scopd,At.sc]) (by simp[ScE,SV.sc,At.sc]) (by rfl) (fun lo hi h=>h),by simp;omega⟩
 have hmeas:(if s=[]then 1 else 0)+m=m:=by rw[if_neg hs0];omega
 rw[hmeas]
 clear hmeas
 have hne:(strOf s).data.toList≠[]:=by rw[strOf_data];simpa using hs0
 conv=>whnf
 refine BrS.mk (fun he=>absurd (eq_of_beq he) hne) (fun _=>?_)
 conv=>whnf
 refine callE_S (callE_con (Φ:=fun _ w' v w2=>v= .int .i64 ((m:Nat):Int).sign) (fun ρ w' r=>rSign_c (Rel.old r hS) (hx.rel r hS).r) ?_)
 rintro ρ wa1 v1 wb1 r he hb rfl
 replace hw:=hw.tr hb
 replace hx:=hx.past (iv':=(wa1.heap.size,wb1.heap.size)::iv) r hS he fun x hx=>List.mem_cons_of_mem _ hx
 clear r he hb
 generalize (wa1.heap.size,wb1.heap.size)::iv=iv1 at*
 conv=>whnf
 refine BrS.mk (fun hg=>?_) (fun hg=>?_)
 ·have hg:0<m:=by
   have h9:((m:Nat):Int).sign>0:=of_decide_eq_true hg
   have:=Int.sign_pos_iff.1 h9
   omega
  have hd2:dec n=dec m++s:=by rw[hd,if_neg fun e=>by omega]
  conv=>whnf
  have hm10:m % 10<10:=Nat.mod_lt _ (by decide)
  have hnext:dec n=(if m / 10=0∧(48+m % 10)::(s)≠[]then []else dec (m / 10))++(48+m % 10)::(s):=by
   rw[hd2]
   by_cases h9:m<10
   ·rw[dec_small h9,if_pos ⟨by omega,by simp⟩,show m % 10=m by omega];rfl
   ·rw[dec_step h9,if_neg (by omega),List.append_assoc];rfl
  have hle10:=ln_mono (Nat.div_le_self m 10)
  clear hd hd2
  refine drawn_of_pi hτ hmix [.x 0,.p 7,.p 8,.x 1,.x 2,.x 3,.x 4,.x 5,.x 6,.x 7,.x 8,.x 9,.x 10,.x 11] (by kernel_rfl) (by kernel_rfl) ?_
  conv=>whnf
  refine callE_con (Φ:=fun _ w' v w2=>IntC w2 (Nw (fun _=>False) w' w2) v 10) (fun ρ w' r=>rOf_c 10 w' (by decide) (by decide)) ?_
  rintro ρ wa2 v2 wb2 r he hb hn
  replace hw:=hw.tr hb
  replace hx:=hx.past (iv':=(wa2.heap.size,wb2.heap.size)::iv1) r hS he fun x hx=>List.mem_cons_of_mem _ hx
  have ht:=hn.got (S:=fun _=>False) r.baseLe (iv:=(wa2.heap.size,wb2.heap.size)::iv1) List.mem_cons_self
  clear r he hb hn
  generalize (wa2.heap.size,wb2.heap.size)::iv1=iv2 at*
  obtain⟨s2_0,s2_1,s2_2,s2_3,rfl⟩:=ht.shape
  conv=>whnf
  refine callE_con (Φ:=fun _ w' v w2=>∃q r,v= .tuple #[q,r,.int .i64 0]∧IntC w2 (Nw (fun _=>False) w' w2) q ((m / 10:Nat):Int)∧IntC w2 (Nw (fun _=>False) w' w2) r ((m % 10:Nat):Int)) (fun ρ w' r=>(rDivide_c (Rel.old r hS) (IntC.l (hx.rel r hS) (k:=100) (by exact hlm)) (IntC.l ((ht.rel r (oldF w)).weak fun _ hg=>(cvF hg:Cv S w.heap.size _ _)) (k:=1) (by decide)) (by decide) (by decide)).mono fun e w3 ⟨v2,x1,x2,x3⟩=>⟨v2,x1,x2,by rcases x3 with⟨h0,-⟩|⟨-,q,r,h1,h2,h3⟩;exact absurd h0 (by decide);exact⟨q,r,h1,by simpa using h2,by simpa using h3⟩⟩) ?_
  rintro ρ wa3 v3 wb3 r he hb ⟨q,r9,rfl,hq,hr⟩
  replace hw:=hw.tr hb
  clear hx
  clear ht
  have hq2:=IntC.got (S:=S) hq r.baseLe (iv:=(wa3.heap.size,wb3.heap.size)::iv2) List.mem_cons_self
  have hr2:=IntC.got (S:=fun _=>False) hr r.baseLe (iv:=(wa3.heap.size,wb3.heap.size)::iv2) List.mem_cons_self
  clear r he hb
  generalize (wa3.heap.size,wb3.heap.size)::iv2=iv3 at*
  clear hq hr
  obtain⟨b2,a2,n2,c2,rfl⟩:=hq2.shape
  obtain⟨b3,a3,n3,c3,rfl⟩:=hr2.shape
  conv=>whnf
  refine callE_S (callE_con (Φ:=fun _ w' v w2=>v= .tuple #[.int .i64 ((m % 10:Nat):Int),.bool true]) (fun ρ w' r=>(show smallV ((m % 10:Nat):Int)= .tuple #[.int .i64 ((m % 10:Nat):Int),.bool true]from if_pos ⟨by omega,by omega⟩)▸rSmall_c (Rel.old r (oldF w)) (IntC.l (hr2.rel r (oldF w)) (k:=1) (ln_le.2 (by show(m % 10)<4294967296^1;omega))) (by decide)) ?_)
  rintro ρ wa4 v4 wb4 r he hb rfl
  replace hw:=hw.tr hb
  replace hq2:=hq2.past (iv':=(wa4.heap.size,wb4.heap.size)::iv3) r hS he fun x hx=>List.mem_cons_of_mem _ hx
  clear hr2
  clear r he hb
  generalize (wa4.heap.size,wb4.heap.size)::iv3=iv4 at*
  conv=>whnf
  refine⟨((m % 10+1:Nat):Int),by rw[wrap64]<;>omega,?_⟩
  conv=>whnf
  refine⟨⟨by omega,by omega,by show _≤((10:Nat):Int);omega⟩,?_⟩
  conv=>whnf
  refine⟨?_,?_⟩
  ·show(ByteArray.extract _ (m % 10) (m % 10+1)).size+(strOf (s)).size≤maxLen
   rw[digit_part hm10,strOf_size,strOf_size]
   unfold maxLen
   first|(simp;done)|(simp;omega)
  conv=>whnf
  intro ρ3 w3 r3
  exact⟨(m / 10,(48+m % 10)::(s),(b2,a2,n2,c2),w3,_),⟨by dsimp only;omega,hnext,hw.tr r3.bel,hq2.rel r3 hS⟩,Sub.gen [] r3 ⟨rfl,trivial⟩ ⟨rfl,by rw[show strOf ((48+m % 10)::(s))=strOf ([48+m % 10]++(s))from rfl,strOf_app,←digit_part hm10];rfl,trivial⟩ (by simp[ScH,Blk.scopd,At.sc]) (by simp[ScE,SV.sc,At.sc]) (by rfl) (fun lo hi h=>h),by simp;omega⟩
 have hg:m=0:=by
  have h9:¬((m:Nat):Int).sign>0:=of_decide_eq_false hg
  have:¬(0:Int)<(m:Int):=fun k=>h9 (Int.sign_pos_iff.2 k)
  omega
 rw[if_pos ⟨hg,hs0⟩,List.nil_append]at hd
 conv=>whnf
 intro ρe we re
 exact⟨_,rfl,hw.tr re.bel,by rw[hd];rfl⟩
end Go.Ex

/- Format of the reference. Printed by program. No condition but sizes. -/
namespace Go.Ex
open Go Go.Sx Go.Proofs

theorem rFormat_c{S:Nat→Prop}{w:World}{v:Value}{q:Rat}(hS:Old S w)(hp:RatL w S v q)(hn:ln q.num.natAbs≤100)(hd:ln q.den≤100):
  Con PG N.ref01_Format #[v] w (Ret w fun v' _=>v'= .string (txtG q)):=by
 have hw:Bel w.heap.size w w:=Bel.refl
 have hs1:=strOf_size (dec q.num.natAbs)
 have hs2:=strOf_size (dec q.den)
 have hl1:=decL_len hn
 have hl2:=decL_len hd
 obtain⟨b1,a1,n1,c1,b2,a2,n2,c2,rfl⟩:=hp.shape
 refine in_ref01_Format (by simp) ?_
 conv=>whnf
 refine callE_S (callE_con (Φ:=fun _ w' v w2=>RatC w2 (Nw (fun _=>False) w' w2) v q) (fun ρ w' r=>rNormal_c (fun g hg=>by have:=hS g hg;have:=r.baseLe;omega) (hp.keep (fun g hg=>(hw.tr r.bel).block g (hS g hg)))) ?_)
 rintro ρ wa1 v1 wb1 r he hb hn
 replace hw:=hw.tr hb
 have hq:=hn.got (S:=fun _=>False) r.baseLe (iv:=(wa1.heap.size,wb1.heap.size)::[]) List.mem_cons_self
 clear r he hb hn
 generalize (wa1.heap.size,wb1.heap.size)::[]=iv1 at*
 obtain⟨s1_0,s1_1,s1_2,s1_3,s1_4,s1_5,s1_6,s1_7,rfl⟩:=hq.shape
 conv=>whnf
 refine callE_S (callE_con (Φ:=fun _ w' v w2=>IntC w2 (Nw (fun _=>False) w' w2) v ((q.num.natAbs:Nat):Int)) (fun ρ w' r=>rSize_c (Rel.old r (oldF w)) (IntC.l (hq.num.rel r (oldF w)) hn) (by decide)) ?_)
 rintro ρ wa2 v2 wb2 r he hb hn
 replace hw:=hw.tr hb
 replace hq:=hq.past (iv':=(wa2.heap.size,wb2.heap.size)::iv1) r (oldF w) he fun x hx=>List.mem_cons_of_mem _ hx
 have hz:=hn.got (S:=fun _=>False) r.baseLe (iv:=(wa2.heap.size,wb2.heap.size)::iv1) List.mem_cons_self
 clear r he hb hn
 generalize (wa2.heap.size,wb2.heap.size)::iv1=iv2 at*
 obtain⟨s2_0,s2_1,s2_2,s2_3,rfl⟩:=hz.shape
 conv=>whnf
 refine callE_S (callE_con (Φ:=fun _ w' v w2=>v= .string (strOf (dec q.num.natAbs))) (fun ρ w' r=>rDigits_c (Rel.old r (oldF w)) (hz.rel r (oldF w)) hn) ?_)
 rintro ρ wa3 v3 wb3 r he hb rfl
 replace hw:=hw.tr hb
 replace hq:=hq.past (iv':=(wa3.heap.size,wb3.heap.size)::iv2) r (oldF w) he fun x hx=>List.mem_cons_of_mem _ hx
 clear hz
 clear r he hb
 generalize (wa3.heap.size,wb3.heap.size)::iv2=iv3 at*
 generalize hsn:strOf (dec q.num.natAbs)=s1 at*
 conv=>whnf
 refine callE_S (callE_con (Φ:=fun _ w' v w2=>v= .int .i64 q.num.sign) (fun ρ w' r=>rSign_c (Rel.old r (oldF w)) (hq.num.rel r (oldF w)).r) ?_)
 rintro ρ wa4 v4 wb4 r he hb rfl
 replace hw:=hw.tr hb
 replace hq:=hq.past (iv':=(wa4.heap.size,wb4.heap.size)::iv3) r (oldF w) he fun x hx=>List.mem_cons_of_mem _ hx
 clear r he hb
 generalize (wa4.heap.size,wb4.heap.size)::iv3=iv4 at*
 conv=>whnf
 refine BrS.mk (fun hg=>?_) (fun hg=>?_)
 ·have hg:q.num<0:=by
   have h9:q.num.sign<0:=of_decide_eq_true hg
   exact Int.sign_neg_iff.1 h9
  have hA:txtGA q=⟨#[45]⟩++s1:=by unfold txtGA;rw[decide_eq_true hg,hsn];rfl
  conv=>whnf
  refine⟨by show 1+s1.size≤maxLen;unfold maxLen;omega,?_⟩
  conv=>whnf
  refine drawn_of_pi hτ hmix [.x 0,.x 1,.x 2,.x 3,.x 4] (by kernel_rfl) (by kernel_rfl) ?_
  conv=>whnf
  refine callE_con (Φ:=fun _ w' v w2=>IntC w2 (Nw (fun _=>False) w' w2) v 1) (fun ρ w' r=>rOf_c 1 w' (by decide) (by decide)) ?_
  rintro ρ wa5 v5 wb5 r he hb hn
  replace hw:=hw.tr hb
  replace hq:=hq.past (iv':=(wa5.heap.size,wb5.heap.size)::iv4) r (oldF w) he fun x hx=>List.mem_cons_of_mem _ hx
  have ho:=hn.got (S:=fun _=>False) r.baseLe (iv:=(wa5.heap.size,wb5.heap.size)::iv4) List.mem_cons_self
  clear r he hb hn
  generalize (wa5.heap.size,wb5.heap.size)::iv4=iv5 at*
  obtain⟨s5_0,s5_1,s5_2,s5_3,rfl⟩:=ho.shape
  conv=>whnf
  refine callE_con (Φ:=fun _ w' v w2=>v= .int .i64 ((q.den:Int)-1).sign) (fun ρ w' r=>rCmpInt_c (Rel.old r (oldF w)) (IntC.l (hq.den.rel r (oldF w)) (k:=100) hd) (IntC.l (ho.rel r (oldF w)) (k:=1) (by decide)) (by decide) (by decide)) ?_
  rintro ρ wa6 v6 wb6 r he hb rfl
  replace hw:=hw.tr hb
  replace hq:=hq.past (iv':=(wa6.heap.size,wb6.heap.size)::iv5) r (oldF w) he fun x hx=>List.mem_cons_of_mem _ hx
  clear ho
  clear r he hb
  generalize (wa6.heap.size,wb6.heap.size)::iv5=iv6 at*
  conv=>whnf
  refine BrS.mk (fun h=>?_) (fun h=>?_)
  ·have h:q.den≠1:=fun e=>by rw[e]at h;exact absurd h (by decide)
   conv=>whnf
   refine⟨by first|(simp only[ByteArray.size_append];show 1+s1.size+1≤maxLen;unfold maxLen;omega)|(show s1.size+1≤maxLen;unfold maxLen;omega),?_⟩
   conv=>whnf
   refine callE_S (callE_con (Φ:=fun _ w' v w2=>v= .string (strOf (dec q.den))) (fun ρ w' r=>rDigits_c (Rel.old r (oldF w)) (hq.den.rel r (oldF w)) hd) ?_)
   rintro ρ wa7 v7 wb7 r he hb rfl
   replace hw:=hw.tr hb
   clear hq
   clear r he hb
   generalize (wa7.heap.size,wb7.heap.size)::iv6=iv7 at*
   generalize hsd:strOf (dec q.den)=s2 at*
   conv=>whnf
   refine⟨by simp only[ByteArray.size_append];have k1:(ByteArray.mk #[45]).size=1:=rfl;have k2:(ByteArray.mk #[47]).size=1:=rfl;unfold maxLen;omega,?_⟩
   conv=>whnf
   have ht:txtG q=txtGA q++(⟨#[47]⟩++s2):=by unfold txtG;rw[decide_eq_false h,←hsd]
   intro ρe we re
   exact⟨_,rfl,hw.tr re.bel,by rw[ht,hA,←ByteArray.append_assoc];rfl⟩
  have h:q.den=1:=by
   have h0:((q.den:Int)-1).sign=0:=by
    have h1:(((q.den:Int)-1).sign==0)=true:=by simpa using h
    exact eq_of_beq h1
   have:=Int.sign_eq_zero_iff_zero.1 h0
   omega
  have ht:txtG q=txtGA q:=by unfold txtG;rw[decide_eq_true h]
  conv=>whnf
  intro ρe we re
  exact⟨_,rfl,hw.tr re.bel,by rw[ht,hA];rfl⟩
 have hg:¬q.num<0:=fun k=>by
  have h9:¬q.num.sign<0:=of_decide_eq_false hg
  exact h9 (Int.sign_neg_iff.2 k)
 have hA:txtGA q=s1:=by unfold txtGA;rw[decide_eq_false hg,hsn];rfl
 conv=>whnf
 refine drawn_of_pi hτ hmix [.x 0,.x 1,.x 2,.x 3,.x 4] (by kernel_rfl) (by kernel_rfl) ?_
 conv=>whnf
 refine callE_con (Φ:=fun _ w' v w2=>IntC w2 (Nw (fun _=>False) w' w2) v 1) (fun ρ w' r=>rOf_c 1 w' (by decide) (by decide)) ?_
 rintro ρ wa5 v5 wb5 r he hb hn
 replace hw:=hw.tr hb
 replace hq:=hq.past (iv':=(wa5.heap.size,wb5.heap.size)::iv4) r (oldF w) he fun x hx=>List.mem_cons_of_mem _ hx
 have ho:=hn.got (S:=fun _=>False) r.baseLe (iv:=(wa5.heap.size,wb5.heap.size)::iv4) List.mem_cons_self
 clear r he hb hn
 generalize (wa5.heap.size,wb5.heap.size)::iv4=iv5 at*
 obtain⟨s5_0,s5_1,s5_2,s5_3,rfl⟩:=ho.shape
 conv=>whnf
 refine callE_con (Φ:=fun _ w' v w2=>v= .int .i64 ((q.den:Int)-1).sign) (fun ρ w' r=>rCmpInt_c (Rel.old r (oldF w)) (IntC.l (hq.den.rel r (oldF w)) (k:=100) hd) (IntC.l (ho.rel r (oldF w)) (k:=1) (by decide)) (by decide) (by decide)) ?_
 rintro ρ wa6 v6 wb6 r he hb rfl
 replace hw:=hw.tr hb
 replace hq:=hq.past (iv':=(wa6.heap.size,wb6.heap.size)::iv5) r (oldF w) he fun x hx=>List.mem_cons_of_mem _ hx
 clear ho
 clear r he hb
 generalize (wa6.heap.size,wb6.heap.size)::iv5=iv6 at*
 conv=>whnf
 refine BrS.mk (fun h=>?_) (fun h=>?_)
 ·have h:q.den≠1:=fun e=>by rw[e]at h;exact absurd h (by decide)
  conv=>whnf
  refine⟨by first|(simp only[ByteArray.size_append];show 1+s1.size+1≤maxLen;unfold maxLen;omega)|(show s1.size+1≤maxLen;unfold maxLen;omega),?_⟩
  conv=>whnf
  refine callE_S (callE_con (Φ:=fun _ w' v w2=>v= .string (strOf (dec q.den))) (fun ρ w' r=>rDigits_c (Rel.old r (oldF w)) (hq.den.rel r (oldF w)) hd) ?_)
  rintro ρ wa7 v7 wb7 r he hb rfl
  replace hw:=hw.tr hb
  clear hq
  clear r he hb
  generalize (wa7.heap.size,wb7.heap.size)::iv6=iv7 at*
  generalize hsd:strOf (dec q.den)=s2 at*
  conv=>whnf
  refine⟨by simp only[ByteArray.size_append];have k1:(ByteArray.mk #[45]).size=1:=rfl;have k2:(ByteArray.mk #[47]).size=1:=rfl;unfold maxLen;omega,?_⟩
  conv=>whnf
  have ht:txtG q=txtGA q++(⟨#[47]⟩++s2):=by unfold txtG;rw[decide_eq_false h,←hsd]
  intro ρe we re
  exact⟨_,rfl,hw.tr re.bel,by rw[ht,hA,←ByteArray.append_assoc];rfl⟩
 have h:q.den=1:=by
  have h0:((q.den:Int)-1).sign=0:=by
   have h1:(((q.den:Int)-1).sign==0)=true:=by simpa using h
   exact eq_of_beq h1
  have:=Int.sign_eq_zero_iff_zero.1 h0
  omega
 have ht:txtG q=txtGA q:=by unfold txtG;rw[decide_eq_true h]
 conv=>whnf
 intro ρe we re
 exact⟨_,rfl,hw.tr re.bel,by rw[ht,hA];rfl⟩
end Go.Ex

/- Regions that draw their order, by a tree of orders with up to three branches. No condition. -/
namespace Go.Ex
open Go Go.Sx Go.Proofs
inductive Tq where
 |nil
 |x (i:Nat) (t:Tq)
 |two (i:Nat) (t:Tq) (j:Nat) (u:Tq)
 |three (i:Nat) (t:Tq) (j:Nat) (u:Tq) (k:Nat) (v:Tq)
def chkTq(ops:Array Oper):Tq→Array Bool→Bool
 | .nil,lx=>(Region.ready .any ops lx).isEmpty
 | .x i t,lx=>match ops[i]? with
  |none=>false
  |some o=>(Region.ready .any ops lx).contains i&&((Region.ready .any ops lx).all (fun j=>Nat.beq j i)||isR o.op&&freeH ops (maskL lx.toList 0) [] i o)&&chkTq ops t (lx.setIfInBounds i true)
 | .two i t j u,lx=>match Region.ready .any ops lx with
  |[a,b]=>Nat.beq a i&&(Nat.beq b j&&(chkTq ops t (lx.setIfInBounds i true)&&chkTq ops u (lx.setIfInBounds j true)))
  |_=>false
 | .three i t j u k v,lx=>match Region.ready .any ops lx with
  |[a,b,c]=>Nat.beq a i&&(Nat.beq b j&&(Nat.beq c k&&(chkTq ops t (lx.setIfInBounds i true)&&(chkTq ops u (lx.setIfInBounds j true)&&chkTq ops v (lx.setIfInBounds k true)))))
  |_=>false
def sxTq(P:Program)(τ:Tab)(B:Nat)(all:List Oper):Tq→Env→Hp→Nat→Iv→World→KT→Prop
 | .nil,l,H,nx,iv,w,K=>K l H nx iv w
 | .x i t,l,H,nx,iv,w,K=>nthK all i (fun o=>sxStep (!voidCall o) P τ B all o l H nx iv w (fun l' H' nx' iv' w'=>sxTq P τ B all t l' H' nx' iv' w' K))
 | .two i t j u,l,H,nx,iv,w,K=>nthK all i (fun o=>sxStep (!voidCall o) P τ B all o l H nx iv w (fun l' H' nx' iv' w'=>sxTq P τ B all t l' H' nx' iv' w' K))∧
   nthK all j (fun o=>sxStep (!voidCall o) P τ B all o l H nx iv w (fun l' H' nx' iv' w'=>sxTq P τ B all u l' H' nx' iv' w' K))
 | .three i t j u k v,l,H,nx,iv,w,K=>nthK all i (fun o=>sxStep (!voidCall o) P τ B all o l H nx iv w (fun l' H' nx' iv' w'=>sxTq P τ B all t l' H' nx' iv' w' K))∧
   (nthK all j (fun o=>sxStep (!voidCall o) P τ B all o l H nx iv w (fun l' H' nx' iv' w'=>sxTq P τ B all u l' H' nx' iv' w' K))∧
   nthK all k (fun o=>sxStep (!voidCall o) P τ B all o l H nx iv w (fun l' H' nx' iv' w'=>sxTq P τ B all v l' H' nx' iv' w' K)))
section
variable{P:Program}{τ:Tab}{ops:Array Oper}{B n nx:Nat}{l:Env}{H:Hp}{iv:Iv}{w w':World}{ρ:Nat→Sx.Val}{a:Act}
theorem tq_sound(hτ:TabOK P τ)(hok:∀(j:Nat) o,ops[j]? =some o→∀d,o.dst=some d→d<n)(hsel:∀(j:Nat) (o:Oper) cs b,ops[j]? =some o→o.op≠ .select cs b){K:KT}{Q0:Act→World→Prop}
  (hQ:∀l' H' nx' iv' w2 ρ' a' w3,K l' H' nx' iv' w2→Sat n l' H' nx' iv' B w2 ρ' a' w3→Q0 a' w3):
  ∀(t:Tq) (fuel:Nat) (la:Array Bool) (l:Env) (H:Hp) (nx:Nat) (iv:Iv) (w:World) (ρ:Nat→Sx.Val) (a:Act) (w':World),unl la≤fuel→la.size=ops.size→chkTq ops t la=true→sxTq P τ B ops.toList t l H nx iv w K→Sat n l H nx iv B w ρ a w'→wpAnyE P .any ops (QN Q0) fuel la a w'
 | .nil,fuel,la,l,H,nx,iv,w,ρ,a,w',_,_,hc,h,s=>by
  simp only[chkTq,List.isEmpty_iff]at hc
  exact wpAnyE_done hc ⟨rfl,hQ _ _ _ _ _ _ _ _ h s⟩ fuel
 | .x i t,fuel,la,l,H,nx,iv,w,ρ,a,w',hf,hz,hc,h,s=>by
  unfold chkTq at hc
  obtain⟨o,ho,h1⟩:=nthK_spec h
  rw[Array.getElem?_toList]at ho
  simp only[ho,Bool.and_eq_true,Bool.or_eq_true]at hc
  obtain⟨⟨c1,c2⟩,c3⟩:=hc
  have c1:i∈Region.ready .any ops la:=by simpa using c1
  obtain⟨hla,-⟩:=mem_ready'.1 c1
  have hun:=unl_set hla
  obtain⟨f,rfl⟩:∃f,fuel=f+1:=⟨fuel-1,by omega⟩
  have hz2:(la.setIfInBounds i true).size=ops.size:=by rw[Array.size_setIfInBounds,hz]
  rcases c2 with c2|⟨hR,c4⟩
  ·refine⟨fun h0=>(by rw[h0]at c1;cases c1),fun j hj=>?_⟩
   have hji:j=i:=beq_t (List.all_eq_true.1 c2 j hj)
   subst hji
   exact stepE hτ hok h s fun _ _ _ _ _ _ _ _ hk hs=>tq_sound hτ hok hsel hQ t f _ _ _ _ _ _ _ _ _ (by omega) hz2 c3 hk hs
  ·obtain⟨blk,hb1,hb2,hb3,hb4⟩:=freeH_spec c4 hz
   unfold sxStep at h1
   have hd:=hok i o ho
   rcases sxGuard_spec s h1 with⟨hw,l1,h2,sat1⟩|⟨hw,l1,h2,sat1⟩
   ·obtain⟨v,hK,hvs,hrun⟩:=(sxOp_reader hτ h2 sat1 hR).resolve_right (fun hh=>by have:=hh.1;rw[voidCall_R hR]at this;cases this)
    obtain⟨l2,h3,sat2⟩:=setE_spec sat1 hK hd hvs
    refine wpAnyE_first (pu:=isP o.op) (v:=v.den ρ) ho hsel (fun c a w hq=>absurd hq.1 (by simp)) blk hb1 f la a w' hb2 hb4 c1 (.inl ⟨hw,fun w3 he=>hrun w3 (he.imp id fun he=>sat1.rel.ext he)⟩) ?_
    exact tq_sound hτ hok hsel hQ t f _ _ _ _ _ _ _ _ _ (by omega) hz2 c3 h3 sat2
   ·obtain⟨l2,h3,sat2⟩:=setE_spec (v:=.o (.v undef)) sat1 h2 hd trivial
    refine wpAnyE_first (pu:=isP o.op) (v:=undef) ho hsel (fun c a w hq=>absurd hq.1 (by simp)) blk hb1 f la a w' hb2 hb4 c1 (.inr ⟨hw,rfl⟩) ?_
    exact tq_sound hτ hok hsel hQ t f _ _ _ _ _ _ _ _ _ (by omega) hz2 c3 h3 sat2
 | .two i t k u,fuel,la,l,H,nx,iv,w,ρ,a,w',hf,hz,hc,h,s=>by
  simp only[chkTq]at hc
  split at hc
  ·rename_i x y hr
   simp only[Bool.and_eq_true]at hc
   obtain⟨c1,c2,c3,c4⟩:=hc
   have hx:=Nat.eq_of_beq_eq_true c1
   have hy:=Nat.eq_of_beq_eq_true c2
   subst hx
   subst hy
   obtain⟨h1,h2⟩:=h
   have hm1:x∈Region.ready .any ops la:=by rw[hr];simp
   have hm2:y∈Region.ready .any ops la:=by rw[hr];simp
   have u1:=unl_set (mem_ready'.1 hm1).1
   have u2:=unl_set (mem_ready'.1 hm2).1
   obtain⟨f,rfl⟩:∃f,fuel=f+1:=⟨fuel-1,by omega⟩
   refine⟨fun h0=>(by rw[hr]at h0;cases h0),fun j hj=>?_⟩
   rw[hr,List.mem_cons,List.mem_singleton]at hj
   rcases hj with rfl|rfl
   ·exact stepE hτ hok h1 s fun _ _ _ _ _ _ _ _ hk hs=>tq_sound hτ hok hsel hQ t f _ _ _ _ _ _ _ _ _ (by omega) (by rw[Array.size_setIfInBounds,hz]) c3 hk hs
   ·exact stepE hτ hok h2 s fun _ _ _ _ _ _ _ _ hk hs=>tq_sound hτ hok hsel hQ u f _ _ _ _ _ _ _ _ _ (by omega) (by rw[Array.size_setIfInBounds,hz]) c4 hk hs
  ·cases hc
 | .three i t k u m v,fuel,la,l,H,nx,iv,w,ρ,a,w',hf,hz,hc,h,s=>by
  simp only[chkTq]at hc
  split at hc
  ·rename_i x y z hr
   simp only[Bool.and_eq_true]at hc
   obtain⟨c1,c2,c6,c3,c4,c5⟩:=hc
   have hx:=Nat.eq_of_beq_eq_true c1
   have hy:=Nat.eq_of_beq_eq_true c2
   have hz9:=Nat.eq_of_beq_eq_true c6
   subst hx
   subst hy
   subst hz9
   obtain⟨h1,h2,h3⟩:=h
   have hm1:x∈Region.ready .any ops la:=by rw[hr];simp
   have hm2:y∈Region.ready .any ops la:=by rw[hr];simp
   have hm3:z∈Region.ready .any ops la:=by rw[hr];simp
   have u1:=unl_set (mem_ready'.1 hm1).1
   have u2:=unl_set (mem_ready'.1 hm2).1
   have u3:=unl_set (mem_ready'.1 hm3).1
   obtain⟨f,rfl⟩:∃f,fuel=f+1:=⟨fuel-1,by omega⟩
   refine⟨fun h0=>(by rw[hr]at h0;cases h0),fun j hj=>?_⟩
   rw[hr,List.mem_cons,List.mem_cons,List.mem_singleton]at hj
   rcases hj with rfl|rfl|rfl
   ·exact stepE hτ hok h1 s fun _ _ _ _ _ _ _ _ hk hs=>tq_sound hτ hok hsel hQ t f _ _ _ _ _ _ _ _ _ (by omega) (by rw[Array.size_setIfInBounds,hz]) c3 hk hs
   ·exact stepE hτ hok h2 s fun _ _ _ _ _ _ _ _ hk hs=>tq_sound hτ hok hsel hQ u f _ _ _ _ _ _ _ _ _ (by omega) (by rw[Array.size_setIfInBounds,hz]) c4 hk hs
   ·exact stepE hτ hok h3 s fun _ _ _ _ _ _ _ _ hk hs=>tq_sound hτ hok hsel hQ v f _ _ _ _ _ _ _ _ _ (by omega) (by rw[Array.size_setIfInBounds,hz]) c5 hk hs
  ·cases hc
/-- a region that draws its order, by an order of one's own with branches -/
theorem drawn_of_tq(hτ:TabOK P τ)(hm:P.follows .mixedOrders=true){K:KT}(t:Tq)(hs:Region.noSelect ops=true)(hc:chkTq ops t (Array.replicate ops.size false)=true)
  (h:sxTq P τ B ops.toList t l H nx iv w K):DrawnS P B ops l H nx iv w K:=by
 refine⟨fun n ρ a w' hok sat Q hQ id=>?_⟩
 refine wp_mono (Q':=Q) (c:=.region id ops true) (wp_region_any (Q:=QN (Q .normal)) hm (wpAny_of_E _ _ _ _ ?_)) (fun e a w hq=>by obtain⟨rfl,hq⟩:=hq;exact hq)
 refine tq_sound hτ (fun j o ho d hd=>?_) (Region.noSelect_spec hs) hQ t _ _ _ _ _ _ _ ρ _ _ ?_ (by simp) hc h ⟨sat.rel.drew,sat.size,sat.defers,sat.env,sat.sc⟩
 ·have:=List.all_eq_true.1 hok o (List.mem_of_getElem? (by rw[Array.getElem?_toList];exact ho))
  rw[hd]at this
  have h5:d+1≤n:=by simpa [Nat.blt]using this
  exact h5
 ·unfold unl
  refine Nat.le_trans List.countP_le_length ?_
  simp
end
end Go.Ex

/- read of the reference. Printed by program. No condition but sizes. -/
namespace Go.Ex
open Go Go.Sx Go.Proofs

def dg(b:Nat):Bool:=decide (48≤b)&&decide (b≤57)
theorem filter_digs(bs:List Nat):Digs (bs.filter dg):=fun d hd=>by
 have:=(List.mem_filter.1 hd).2
 simpa [dg]using this
theorem Digs.filter{bs:List Nat}(h:Digs bs):bs.filter dg=bs:=List.filter_eq_self.2 fun d hd=>by
 have:=h d hd
 simpa [dg]using this
/-- what the reference reads -/
def readZ(bs:List Nat):Int:=if bs.head? =some 45 then -(vald (bs.filter dg):Int)else vald (bs.filter dg)
theorem filter_take{bs:List Nat}{k b:Nat}(h:bs[k]? =some b):(bs.take (k+1)).filter dg=(bs.take k).filter dg++(if dg b then [b]else []):=by
 rw[List.take_add_one,h,List.filter_append]
 congr 1
 show List.filter dg [b]=_
 rw[List.filter_cons]
 rfl
theorem rRead_c(bs:List Nat)(w:World)(hb:∀b∈bs,b<256)(hl:bs.length≤900):
  Con PG N.ref01_read #[.string (strOf bs)] w (Ret w fun v' w2=>IntC w2 (Nw (fun _=>False) w w2) v' (readZ bs)):=by
 have hw:Bel w.heap.size w w:=Bel.refl
 refine in_ref01_read (by simp) ?_
 conv=>whnf
 refine⟨Nat×(Bool×Option Addr×Nat×Nat)×World×Iv,fun z=>⟨[(0,.o (.v (.string (strOf bs)))),(2,.o (.p 0 0)),(3,.o (.p 1 0)),(4,.o (.v (.int .i64 ((z.1:Nat):Int))))],[(1,.box T.Int [.v (.bool z.2.1.1),.v (.slice z.2.1.2.1 z.2.1.2.2.1 z.2.1.2.2.2)]),(0,.box T.Int [.v (.bool false),.v (.slice none 0 0)])],2,z.2.2.2,z.2.2.1⟩,fun z=>bs.length-z.1,
  fun z=>z.1≤bs.length∧Bel w.heap.size w z.2.2.1∧IntC z.2.2.1 (Cv (fun _=>False) w.heap.size z.2.2.2) (.agg #[.bool z.2.1.1,.slice z.2.1.2.1 z.2.1.2.2.1 z.2.1.2.2.2]) ((vald ((bs.take z.1).filter dg):Nat):Int),?_,?_⟩
 ·intro ρ w' r
  exact⟨(0,(false,none,0,0),w',[]),⟨Nat.zero_le _,hw.tr r.bel,IntC.nil _ _⟩,Sub.gen [] r ⟨rfl,rfl,trivial⟩ ⟨rfl,rfl,rfl,rfl,trivial⟩ (by simp[ScH,Blk.scopd,At.sc]) (by simp[ScE,SV.sc,At.sc]) (by rfl) (fun lo hi h=>h)⟩
 clear hw
 rintro⟨k,⟨b1,a1,n1,c1⟩,w1,iv⟩ ⟨hk,hw,hx⟩
 dsimp only at hk hw hx ⊢
 have hlf:∀k,ln (vald ((bs.take k).filter dg))≤100:=fun k=>ln_vald (filter_digs _) (by
  have h1:=List.length_filter_le dg (bs.take k)
  rw[List.length_take]at h1
  omega)
 conv=>whnf
 rw[strOf_size]
 refine BrS.mk (fun hkb=>?_) (fun hkb=>?_)
 ·have hkb:k<bs.length:=by have:(k:Int)<(bs.length:Int):=of_decide_eq_true hkb;omega
  obtain⟨b,hbk⟩:∃b,bs[k]? =some b:=⟨_,List.getElem?_eq_getElem hkb⟩
  have hb6:=hb b (List.mem_of_getElem? hbk)
  have hft:=filter_take hbk
  have hgt:(strOf bs)[((k:Nat):Int).toNat]? =some (UInt8.ofNat b):=by rw[Int.toNat_natCast];exact strOf_get hbk
  conv=>whnf
  refine opS_index und_str (by rfl) (by rfl) (Int.natCast_nonneg k) hgt (fun ρ w2 r2=>?_)
  rw[u8n hb6]
  replace hw:=hw.tr r2.bel
  replace hx:=hx.rel r2 (oldF w)
  clear r2
  conv=>whnf
  refine BrS.mk (fun h1=>?_) (fun h1=>?_)
  ·have h1:48≤b:=by have:(b:Int)≥48:=of_decide_eq_true h1;omega
   conv=>whnf
   refine opS_index und_str (by rfl) (by rfl) (Int.natCast_nonneg k) hgt (fun ρ w2 r2=>?_)
   rw[u8n hb6]
   replace hw:=hw.tr r2.bel
   replace hx:=hx.rel r2 (oldF w)
   clear r2
   conv=>whnf
   refine BrS.mk (fun h2=>?_) (fun h2=>?_)
   ·have h2:b≤57:=by have:(b:Int)≤57:=of_decide_eq_true h2;omega
    have hdg:dg b=true:=by simp[dg,h1,h2]
    rw[hdg,if_pos rfl]at hft
    have hl1:=hlf k
    have hl2:=hlf (k+1)
    rw[hft,vald_snoc]at hl2
    have hl3:ln (vald ((bs.take k).filter dg)*10)≤100:=Nat.le_trans (ln_mono (by omega)) hl2
    refine drawn_of_tq hτ hmix (.x 3 (.x 4 (.three 0 (.two 1 (.two 2 (.x 5 (.x 6 (.x 7 (.x 8 (.x 9 (.x 10 .nil)))))) 5 (.x 6 (.x 7 (.x 2 (.x 8 (.x 9 (.x 10 .nil))))))) 5 (.x 6 (.x 7 (.x 1 (.x 2 (.x 8 (.x 9 (.x 10 .nil)))))))) 1 (.two 0 (.two 2 (.x 5 (.x 6 (.x 7 (.x 8 (.x 9 (.x 10 .nil)))))) 5 (.x 6 (.x 7 (.x 2 (.x 8 (.x 9 (.x 10 .nil))))))) 5 (.x 6 (.x 7 (.x 0 (.x 2 (.x 8 (.x 9 (.x 10 .nil)))))))) 5 (.x 6 (.x 7 (.x 0 (.x 1 (.x 2 (.x 8 (.x 9 (.x 10 .nil))))))))))) (by kernel_rfl) (by kernel_rfl) ?_
    conv=>whnf
    refine⟨?_,?_,?_⟩
    ·conv=>whnf
     refine⟨?_,?_⟩
     ·conv=>whnf
      refine callE_con (Φ:=fun _ w' v w2=>IntC w2 (Nw (fun _=>False) w' w2) v 10) (fun ρ w' r=>rOf_c 10 w' (by decide) (by decide)) ?_
      rintro ρ wa1 v1 wb1 r he hb hn
      replace hw:=hw.tr hb
      replace hx:=hx.past (iv':=(wa1.heap.size,wb1.heap.size)::iv) r (oldF w) he fun x hx=>List.mem_cons_of_mem _ hx
      have ht:=hn.got (S:=fun _=>False) r.baseLe (iv:=(wa1.heap.size,wb1.heap.size)::iv) List.mem_cons_self
      clear r he hb hn
      generalize (wa1.heap.size,wb1.heap.size)::iv=iv1 at*
      obtain⟨s1_0,s1_1,s1_2,s1_3,rfl⟩:=ht.shape
      conv=>whnf
      refine⟨?_,?_⟩
      ·conv=>whnf
       refine callE_con (Φ:=fun _ w' v w2=>IntC w2 (Nw (fun _=>False) w' w2) v (((vald ((bs.take k).filter dg)*10:Nat)):Int)) (fun ρ w' r=>(show (((vald ((bs.take k).filter dg)*10:Nat)):Int)=((vald ((bs.take k).filter dg):Nat):Int)*10 by omega)▸rProd_c (Rel.old r (oldF w)) (IntC.l (hx.rel r (oldF w)) (k:=100) hl1) (IntC.l (ht.rel r (oldF w)) (k:=1) (by decide)) (by decide) (by decide)) ?_
       rintro ρ wa2 v2 wb2 r he hb hn
       replace hw:=hw.tr hb
       clear hx
       clear ht
       have hp:=hn.got (S:=fun _=>False) r.baseLe (iv:=(wa2.heap.size,wb2.heap.size)::iv1) List.mem_cons_self
       clear r he hb hn
       generalize (wa2.heap.size,wb2.heap.size)::iv1=iv2 at*
       obtain⟨s2_0,s2_1,s2_2,s2_3,rfl⟩:=hp.shape
       conv=>whnf
       refine opS_index und_str (by rfl) (by rfl) (Int.natCast_nonneg k) hgt (fun ρ w2 r2=>?_)
       rw[u8n hb6]
       replace hw:=hw.tr r2.bel
       replace hp:=hp.rel r2 (oldF w)
       clear r2
       conv=>whnf
       refine⟨((b-48:Nat):Int),wrapU8s h1 h2,?_⟩
       conv=>whnf
       refine⟨((b-48:Nat):Int),by rw[wrap64]<;>omega,?_⟩
       conv=>whnf
       refine callE_con (Φ:=fun _ w' v w2=>IntC w2 (Nw (fun _=>False) w' w2) v ((b-48:Nat):Int)) (fun ρ w' r=>rOf_c ((b-48:Nat):Int) w' (by omega) (by omega)) ?_
       rintro ρ wa3 v3 wb3 r he hb hn
       replace hw:=hw.tr hb
       replace hp:=hp.past (iv':=(wa3.heap.size,wb3.heap.size)::iv2) r (oldF w) he fun x hx=>List.mem_cons_of_mem _ hx
       have hd:=hn.got (S:=fun _=>False) r.baseLe (iv:=(wa3.heap.size,wb3.heap.size)::iv2) List.mem_cons_self
       clear r he hb hn
       generalize (wa3.heap.size,wb3.heap.size)::iv2=iv3 at*
       obtain⟨s3_0,s3_1,s3_2,s3_3,rfl⟩:=hd.shape
       conv=>whnf
       refine callE_con (Φ:=fun _ w' v w2=>IntC w2 (Nw (fun _=>False) w' w2) v (((vald ((bs.take k).filter dg)*10+(b-48):Nat)):Int)) (fun ρ w' r=>(show (((vald ((bs.take k).filter dg)*10+(b-48):Nat)):Int)=((vald ((bs.take k).filter dg)*10:Nat):Int)+((b-48:Nat):Int) by omega)▸rSum_c (Rel.old r (oldF w)) (IntC.l (hp.rel r (oldF w)) (k:=100) hl3) (IntC.l (hd.rel r (oldF w)) (k:=1) (ln_le.2 (by show b-48<4294967296^1;omega))) (by decide) (by decide)) ?_
       rintro ρ wa4 v4 wb4 r he hb hn
       replace hw:=hw.tr hb
       clear hp
       clear hd
       have hs:=hn.got (S:=fun _=>False) r.baseLe (iv:=(wa4.heap.size,wb4.heap.size)::iv3) List.mem_cons_self
       clear r he hb hn
       generalize (wa4.heap.size,wb4.heap.size)::iv3=iv4 at*
       obtain⟨s4_0,s4_1,s4_2,s4_3,rfl⟩:=hs.shape
       conv=>whnf
       refine⟨((k+1:Nat):Int),by rw[wrap64]<;>omega,?_⟩
       conv=>whnf
       intro ρ3 w3 r3
       exact⟨(k+1,(s4_0,s4_1,s4_2,s4_3),w3,_),⟨hkb,hw.tr r3.bel,by dsimp only;rw[hft];exact by rw[vald_snoc];exact hs.rel r3 (oldF w)⟩,Sub.gen [] r3 ⟨rfl,rfl,trivial⟩ ⟨rfl,rfl,rfl,rfl,trivial⟩ (by simp[ScH,Blk.scopd,At.sc]) (by simp[ScE,SV.sc,At.sc]) (by rfl) (fun lo hi h=>h),by dsimp only;omega⟩
      ·conv=>whnf
       refine opS_index und_str (by rfl) (by rfl) (Int.natCast_nonneg k) hgt (fun ρ w2 r2=>?_)
       rw[u8n hb6]
       replace hw:=hw.tr r2.bel
       replace hx:=hx.rel r2 (oldF w)
       replace ht:=ht.rel r2 (oldF w)
       clear r2
       conv=>whnf
       refine⟨((b-48:Nat):Int),wrapU8s h1 h2,?_⟩
       conv=>whnf
       refine⟨((b-48:Nat):Int),by rw[wrap64]<;>omega,?_⟩
       conv=>whnf
       refine callE_con (Φ:=fun _ w' v w2=>IntC w2 (Nw (fun _=>False) w' w2) v (((vald ((bs.take k).filter dg)*10:Nat)):Int)) (fun ρ w' r=>(show (((vald ((bs.take k).filter dg)*10:Nat)):Int)=((vald ((bs.take k).filter dg):Nat):Int)*10 by omega)▸rProd_c (Rel.old r (oldF w)) (IntC.l (hx.rel r (oldF w)) (k:=100) hl1) (IntC.l (ht.rel r (oldF w)) (k:=1) (by decide)) (by decide) (by decide)) ?_
       rintro ρ wa2 v2 wb2 r he hb hn
       replace hw:=hw.tr hb
       clear hx
       clear ht
       have hp:=hn.got (S:=fun _=>False) r.baseLe (iv:=(wa2.heap.size,wb2.heap.size)::iv1) List.mem_cons_self
       clear r he hb hn
       generalize (wa2.heap.size,wb2.heap.size)::iv1=iv2 at*
       obtain⟨s2_0,s2_1,s2_2,s2_3,rfl⟩:=hp.shape
       conv=>whnf
       refine callE_con (Φ:=fun _ w' v w2=>IntC w2 (Nw (fun _=>False) w' w2) v ((b-48:Nat):Int)) (fun ρ w' r=>rOf_c ((b-48:Nat):Int) w' (by omega) (by omega)) ?_
       rintro ρ wa3 v3 wb3 r he hb hn
       replace hw:=hw.tr hb
       replace hp:=hp.past (iv':=(wa3.heap.size,wb3.heap.size)::iv2) r (oldF w) he fun x hx=>List.mem_cons_of_mem _ hx
       have hd:=hn.got (S:=fun _=>False) r.baseLe (iv:=(wa3.heap.size,wb3.heap.size)::iv2) List.mem_cons_self
       clear r he hb hn
       generalize (wa3.heap.size,wb3.heap.size)::iv2=iv3 at*
       obtain⟨s3_0,s3_1,s3_2,s3_3,rfl⟩:=hd.shape
       conv=>whnf
       refine callE_con (Φ:=fun _ w' v w2=>IntC w2 (Nw (fun _=>False) w' w2) v (((vald ((bs.take k).filter dg)*10+(b-48):Nat)):Int)) (fun ρ w' r=>(show (((vald ((bs.take k).filter dg)*10+(b-48):Nat)):Int)=((vald ((bs.take k).filter dg)*10:Nat):Int)+((b-48:Nat):Int) by omega)▸rSum_c (Rel.old r (oldF w)) (IntC.l (hp.rel r (oldF w)) (k:=100) hl3) (IntC.l (hd.rel r (oldF w)) (k:=1) (ln_le.2 (by show b-48<4294967296^1;omega))) (by decide) (by decide)) ?_
       rintro ρ wa4 v4 wb4 r he hb hn
       replace hw:=hw.tr hb
       clear hp
       clear hd
       have hs:=hn.got (S:=fun _=>False) r.baseLe (iv:=(wa4.heap.size,wb4.heap.size)::iv3) List.mem_cons_self
       clear r he hb hn
       generalize (wa4.heap.size,wb4.heap.size)::iv3=iv4 at*
       obtain⟨s4_0,s4_1,s4_2,s4_3,rfl⟩:=hs.shape
       conv=>whnf
       refine⟨((k+1:Nat):Int),by rw[wrap64]<;>omega,?_⟩
       conv=>whnf
       intro ρ3 w3 r3
       exact⟨(k+1,(s4_0,s4_1,s4_2,s4_3),w3,_),⟨hkb,hw.tr r3.bel,by dsimp only;rw[hft];exact by rw[vald_snoc];exact hs.rel r3 (oldF w)⟩,Sub.gen [] r3 ⟨rfl,rfl,trivial⟩ ⟨rfl,rfl,rfl,rfl,trivial⟩ (by simp[ScH,Blk.scopd,At.sc]) (by simp[ScE,SV.sc,At.sc]) (by rfl) (fun lo hi h=>h),by dsimp only;omega⟩
     ·conv=>whnf
      refine opS_index und_str (by rfl) (by rfl) (Int.natCast_nonneg k) hgt (fun ρ w2 r2=>?_)
      rw[u8n hb6]
      replace hw:=hw.tr r2.bel
      replace hx:=hx.rel r2 (oldF w)
      clear r2
      conv=>whnf
      refine⟨((b-48:Nat):Int),wrapU8s h1 h2,?_⟩
      conv=>whnf
      refine⟨((b-48:Nat):Int),by rw[wrap64]<;>omega,?_⟩
      conv=>whnf
      refine callE_con (Φ:=fun _ w' v w2=>IntC w2 (Nw (fun _=>False) w' w2) v 10) (fun ρ w' r=>rOf_c 10 w' (by decide) (by decide)) ?_
      rintro ρ wa1 v1 wb1 r he hb hn
      replace hw:=hw.tr hb
      replace hx:=hx.past (iv':=(wa1.heap.size,wb1.heap.size)::iv) r (oldF w) he fun x hx=>List.mem_cons_of_mem _ hx
      have ht:=hn.got (S:=fun _=>False) r.baseLe (iv:=(wa1.heap.size,wb1.heap.size)::iv) List.mem_cons_self
      clear r he hb hn
      generalize (wa1.heap.size,wb1.heap.size)::iv=iv1 at*
      obtain⟨s1_0,s1_1,s1_2,s1_3,rfl⟩:=ht.shape
      conv=>whnf
      refine callE_con (Φ:=fun _ w' v w2=>IntC w2 (Nw (fun _=>False) w' w2) v (((vald ((bs.take k).filter dg)*10:Nat)):Int)) (fun ρ w' r=>(show (((vald ((bs.take k).filter dg)*10:Nat)):Int)=((vald ((bs.take k).filter dg):Nat):Int)*10 by omega)▸rProd_c (Rel.old r (oldF w)) (IntC.l (hx.rel r (oldF w)) (k:=100) hl1) (IntC.l (ht.rel r (oldF w)) (k:=1) (by decide)) (by decide) (by decide)) ?_
      rintro ρ wa2 v2 wb2 r he hb hn
      replace hw:=hw.tr hb
      clear hx
      clear ht
      have hp:=hn.got (S:=fun _=>False) r.baseLe (iv:=(wa2.heap.size,wb2.heap.size)::iv1) List.mem_cons_self
      clear r he hb hn
      generalize (wa2.heap.size,wb2.heap.size)::iv1=iv2 at*
      obtain⟨s2_0,s2_1,s2_2,s2_3,rfl⟩:=hp.shape
      conv=>whnf
      refine callE_con (Φ:=fun _ w' v w2=>IntC w2 (Nw (fun _=>False) w' w2) v ((b-48:Nat):Int)) (fun ρ w' r=>rOf_c ((b-48:Nat):Int) w' (by omega) (by omega)) ?_
      rintro ρ wa3 v3 wb3 r he hb hn
      replace hw:=hw.tr hb
      replace hp:=hp.past (iv':=(wa3.heap.size,wb3.heap.size)::iv2) r (oldF w) he fun x hx=>List.mem_cons_of_mem _ hx
      have hd:=hn.got (S:=fun _=>False) r.baseLe (iv:=(wa3.heap.size,wb3.heap.size)::iv2) List.mem_cons_self
      clear r he hb hn
      generalize (wa3.heap.size,wb3.heap.size)::iv2=iv3 at*
      obtain⟨s3_0,s3_1,s3_2,s3_3,rfl⟩:=hd.shape
      conv=>whnf
      refine callE_con (Φ:=fun _ w' v w2=>IntC w2 (Nw (fun _=>False) w' w2) v (((vald ((bs.take k).filter dg)*10+(b-48):Nat)):Int)) (fun ρ w' r=>(show (((vald ((bs.take k).filter dg)*10+(b-48):Nat)):Int)=((vald ((bs.take k).filter dg)*10:Nat):Int)+((b-48:Nat):Int) by omega)▸rSum_c (Rel.old r (oldF w)) (IntC.l (hp.rel r (oldF w)) (k:=100) hl3) (IntC.l (hd.rel r (oldF w)) (k:=1) (ln_le.2 (by show b-48<4294967296^1;omega))) (by decide) (by decide)) ?_
      rintro ρ wa4 v4 wb4 r he hb hn
      replace hw:=hw.tr hb
      clear hp
      clear hd
      have hs:=hn.got (S:=fun _=>False) r.baseLe (iv:=(wa4.heap.size,wb4.heap.size)::iv3) List.mem_cons_self
      clear r he hb hn
      generalize (wa4.heap.size,wb4.heap.size)::iv3=iv4 at*
      obtain⟨s4_0,s4_1,s4_2,s4_3,rfl⟩:=hs.shape
      conv=>whnf
      refine⟨((k+1:Nat):Int),by rw[wrap64]<;>omega,?_⟩
      conv=>whnf
      intro ρ3 w3 r3
      exact⟨(k+1,(s4_0,s4_1,s4_2,s4_3),w3,_),⟨hkb,hw.tr r3.bel,by dsimp only;rw[hft];exact by rw[vald_snoc];exact hs.rel r3 (oldF w)⟩,Sub.gen [] r3 ⟨rfl,rfl,trivial⟩ ⟨rfl,rfl,rfl,rfl,trivial⟩ (by simp[ScH,Blk.scopd,At.sc]) (by simp[ScE,SV.sc,At.sc]) (by rfl) (fun lo hi h=>h),by dsimp only;omega⟩
    ·conv=>whnf
     refine callE_con (Φ:=fun _ w' v w2=>IntC w2 (Nw (fun _=>False) w' w2) v 10) (fun ρ w' r=>rOf_c 10 w' (by decide) (by decide)) ?_
     rintro ρ wa1 v1 wb1 r he hb hn
     replace hw:=hw.tr hb
     replace hx:=hx.past (iv':=(wa1.heap.size,wb1.heap.size)::iv) r (oldF w) he fun x hx=>List.mem_cons_of_mem _ hx
     have ht:=hn.got (S:=fun _=>False) r.baseLe (iv:=(wa1.heap.size,wb1.heap.size)::iv) List.mem_cons_self
     clear r he hb hn
     generalize (wa1.heap.size,wb1.heap.size)::iv=iv1 at*
     obtain⟨s1_0,s1_1,s1_2,s1_3,rfl⟩:=ht.shape
     conv=>whnf
     refine⟨?_,?_⟩
     ·conv=>whnf
      refine⟨?_,?_⟩
      ·conv=>whnf
       refine callE_con (Φ:=fun _ w' v w2=>IntC w2 (Nw (fun _=>False) w' w2) v (((vald ((bs.take k).filter dg)*10:Nat)):Int)) (fun ρ w' r=>(show (((vald ((bs.take k).filter dg)*10:Nat)):Int)=((vald ((bs.take k).filter dg):Nat):Int)*10 by omega)▸rProd_c (Rel.old r (oldF w)) (IntC.l (hx.rel r (oldF w)) (k:=100) hl1) (IntC.l (ht.rel r (oldF w)) (k:=1) (by decide)) (by decide) (by decide)) ?_
       rintro ρ wa2 v2 wb2 r he hb hn
       replace hw:=hw.tr hb
       clear hx
       clear ht
       have hp:=hn.got (S:=fun _=>False) r.baseLe (iv:=(wa2.heap.size,wb2.heap.size)::iv1) List.mem_cons_self
       clear r he hb hn
       generalize (wa2.heap.size,wb2.heap.size)::iv1=iv2 at*
       obtain⟨s2_0,s2_1,s2_2,s2_3,rfl⟩:=hp.shape
       conv=>whnf
       refine opS_index und_str (by rfl) (by rfl) (Int.natCast_nonneg k) hgt (fun ρ w2 r2=>?_)
       rw[u8n hb6]
       replace hw:=hw.tr r2.bel
       replace hp:=hp.rel r2 (oldF w)
       clear r2
       conv=>whnf
       refine⟨((b-48:Nat):Int),wrapU8s h1 h2,?_⟩
       conv=>whnf
       refine⟨((b-48:Nat):Int),by rw[wrap64]<;>omega,?_⟩
       conv=>whnf
       refine callE_con (Φ:=fun _ w' v w2=>IntC w2 (Nw (fun _=>False) w' w2) v ((b-48:Nat):Int)) (fun ρ w' r=>rOf_c ((b-48:Nat):Int) w' (by omega) (by omega)) ?_
       rintro ρ wa3 v3 wb3 r he hb hn
       replace hw:=hw.tr hb
       replace hp:=hp.past (iv':=(wa3.heap.size,wb3.heap.size)::iv2) r (oldF w) he fun x hx=>List.mem_cons_of_mem _ hx
       have hd:=hn.got (S:=fun _=>False) r.baseLe (iv:=(wa3.heap.size,wb3.heap.size)::iv2) List.mem_cons_self
       clear r he hb hn
       generalize (wa3.heap.size,wb3.heap.size)::iv2=iv3 at*
       obtain⟨s3_0,s3_1,s3_2,s3_3,rfl⟩:=hd.shape
       conv=>whnf
       refine callE_con (Φ:=fun _ w' v w2=>IntC w2 (Nw (fun _=>False) w' w2) v (((vald ((bs.take k).filter dg)*10+(b-48):Nat)):Int)) (fun ρ w' r=>(show (((vald ((bs.take k).filter dg)*10+(b-48):Nat)):Int)=((vald ((bs.take k).filter dg)*10:Nat):Int)+((b-48:Nat):Int) by omega)▸rSum_c (Rel.old r (oldF w)) (IntC.l (hp.rel r (oldF w)) (k:=100) hl3) (IntC.l (hd.rel r (oldF w)) (k:=1) (ln_le.2 (by show b-48<4294967296^1;omega))) (by decide) (by decide)) ?_
       rintro ρ wa4 v4 wb4 r he hb hn
       replace hw:=hw.tr hb
       clear hp
       clear hd
       have hs:=hn.got (S:=fun _=>False) r.baseLe (iv:=(wa4.heap.size,wb4.heap.size)::iv3) List.mem_cons_self
       clear r he hb hn
       generalize (wa4.heap.size,wb4.heap.size)::iv3=iv4 at*
       obtain⟨s4_0,s4_1,s4_2,s4_3,rfl⟩:=hs.shape
       conv=>whnf
       refine⟨((k+1:Nat):Int),by rw[wrap64]<;>omega,?_⟩
       conv=>whnf
       intro ρ3 w3 r3
       exact⟨(k+1,(s4_0,s4_1,s4_2,s4_3),w3,_),⟨hkb,hw.tr r3.bel,by dsimp only;rw[hft];exact by rw[vald_snoc];exact hs.rel r3 (oldF w)⟩,Sub.gen [] r3 ⟨rfl,rfl,trivial⟩ ⟨rfl,rfl,rfl,rfl,trivial⟩ (by simp[ScH,Blk.scopd,At.sc]) (by simp[ScE,SV.sc,At.sc]) (by rfl) (fun lo hi h=>h),by dsimp only;omega⟩
      ·conv=>whnf
       refine opS_index und_str (by rfl) (by rfl) (Int.natCast_nonneg k) hgt (fun ρ w2 r2=>?_)
       rw[u8n hb6]
       replace hw:=hw.tr r2.bel
       replace hx:=hx.rel r2 (oldF w)
       replace ht:=ht.rel r2 (oldF w)
       clear r2
       conv=>whnf
       refine⟨((b-48:Nat):Int),wrapU8s h1 h2,?_⟩
       conv=>whnf
       refine⟨((b-48:Nat):Int),by rw[wrap64]<;>omega,?_⟩
       conv=>whnf
       refine callE_con (Φ:=fun _ w' v w2=>IntC w2 (Nw (fun _=>False) w' w2) v (((vald ((bs.take k).filter dg)*10:Nat)):Int)) (fun ρ w' r=>(show (((vald ((bs.take k).filter dg)*10:Nat)):Int)=((vald ((bs.take k).filter dg):Nat):Int)*10 by omega)▸rProd_c (Rel.old r (oldF w)) (IntC.l (hx.rel r (oldF w)) (k:=100) hl1) (IntC.l (ht.rel r (oldF w)) (k:=1) (by decide)) (by decide) (by decide)) ?_
       rintro ρ wa2 v2 wb2 r he hb hn
       replace hw:=hw.tr hb
       clear hx
       clear ht
       have hp:=hn.got (S:=fun _=>False) r.baseLe (iv:=(wa2.heap.size,wb2.heap.size)::iv1) List.mem_cons_self
       clear r he hb hn
       generalize (wa2.heap.size,wb2.heap.size)::iv1=iv2 at*
       obtain⟨s2_0,s2_1,s2_2,s2_3,rfl⟩:=hp.shape
       conv=>whnf
       refine callE_con (Φ:=fun _ w' v w2=>IntC w2 (Nw (fun _=>False) w' w2) v ((b-48:Nat):Int)) (fun ρ w' r=>rOf_c ((b-48:Nat):Int) w' (by omega) (by omega)) ?_
       rintro ρ wa3 v3 wb3 r he hb hn
       replace hw:=hw.tr hb
       replace hp:=hp.past (iv':=(wa3.heap.size,wb3.heap.size)::iv2) r (oldF w) he fun x hx=>List.mem_cons_of_mem _ hx
       have hd:=hn.got (S:=fun _=>False) r.baseLe (iv:=(wa3.heap.size,wb3.heap.size)::iv2) List.mem_cons_self
       clear r he hb hn
       generalize (wa3.heap.size,wb3.heap.size)::iv2=iv3 at*
       obtain⟨s3_0,s3_1,s3_2,s3_3,rfl⟩:=hd.shape
       conv=>whnf
       refine callE_con (Φ:=fun _ w' v w2=>IntC w2 (Nw (fun _=>False) w' w2) v (((vald ((bs.take k).filter dg)*10+(b-48):Nat)):Int)) (fun ρ w' r=>(show (((vald ((bs.take k).filter dg)*10+(b-48):Nat)):Int)=((vald ((bs.take k).filter dg)*10:Nat):Int)+((b-48:Nat):Int) by omega)▸rSum_c (Rel.old r (oldF w)) (IntC.l (hp.rel r (oldF w)) (k:=100) hl3) (IntC.l (hd.rel r (oldF w)) (k:=1) (ln_le.2 (by show b-48<4294967296^1;omega))) (by decide) (by decide)) ?_
       rintro ρ wa4 v4 wb4 r he hb hn
       replace hw:=hw.tr hb
       clear hp
       clear hd
       have hs:=hn.got (S:=fun _=>False) r.baseLe (iv:=(wa4.heap.size,wb4.heap.size)::iv3) List.mem_cons_self
       clear r he hb hn
       generalize (wa4.heap.size,wb4.heap.size)::iv3=iv4 at*
       obtain⟨s4_0,s4_1,s4_2,s4_3,rfl⟩:=hs.shape
       conv=>whnf
       refine⟨((k+1:Nat):Int),by rw[wrap64]<;>omega,?_⟩
       conv=>whnf
       intro ρ3 w3 r3
       exact⟨(k+1,(s4_0,s4_1,s4_2,s4_3),w3,_),⟨hkb,hw.tr r3.bel,by dsimp only;rw[hft];exact by rw[vald_snoc];exact hs.rel r3 (oldF w)⟩,Sub.gen [] r3 ⟨rfl,rfl,trivial⟩ ⟨rfl,rfl,rfl,rfl,trivial⟩ (by simp[ScH,Blk.scopd,At.sc]) (by simp[ScE,SV.sc,At.sc]) (by rfl) (fun lo hi h=>h),by dsimp only;omega⟩
     ·conv=>whnf
      refine opS_index und_str (by rfl) (by rfl) (Int.natCast_nonneg k) hgt (fun ρ w2 r2=>?_)
      rw[u8n hb6]
      replace hw:=hw.tr r2.bel
      replace hx:=hx.rel r2 (oldF w)
      replace ht:=ht.rel r2 (oldF w)
      clear r2
      conv=>whnf
      refine⟨((b-48:Nat):Int),wrapU8s h1 h2,?_⟩
      conv=>whnf
      refine⟨((b-48:Nat):Int),by rw[wrap64]<;>omega,?_⟩
      conv=>whnf
      refine callE_con (Φ:=fun _ w' v w2=>IntC w2 (Nw (fun _=>False) w' w2) v (((vald ((bs.take k).filter dg)*10:Nat)):Int)) (fun ρ w' r=>(show (((vald ((bs.take k).filter dg)*10:Nat)):Int)=((vald ((bs.take k).filter dg):Nat):Int)*10 by omega)▸rProd_c (Rel.old r (oldF w)) (IntC.l (hx.rel r (oldF w)) (k:=100) hl1) (IntC.l (ht.rel r (oldF w)) (k:=1) (by decide)) (by decide) (by decide)) ?_
      rintro ρ wa2 v2 wb2 r he hb hn
      replace hw:=hw.tr hb
      clear hx
      clear ht
      have hp:=hn.got (S:=fun _=>False) r.baseLe (iv:=(wa2.heap.size,wb2.heap.size)::iv1) List.mem_cons_self
      clear r he hb hn
      generalize (wa2.heap.size,wb2.heap.size)::iv1=iv2 at*
      obtain⟨s2_0,s2_1,s2_2,s2_3,rfl⟩:=hp.shape
      conv=>whnf
      refine callE_con (Φ:=fun _ w' v w2=>IntC w2 (Nw (fun _=>False) w' w2) v ((b-48:Nat):Int)) (fun ρ w' r=>rOf_c ((b-48:Nat):Int) w' (by omega) (by omega)) ?_
      rintro ρ wa3 v3 wb3 r he hb hn
      replace hw:=hw.tr hb
      replace hp:=hp.past (iv':=(wa3.heap.size,wb3.heap.size)::iv2) r (oldF w) he fun x hx=>List.mem_cons_of_mem _ hx
      have hd:=hn.got (S:=fun _=>False) r.baseLe (iv:=(wa3.heap.size,wb3.heap.size)::iv2) List.mem_cons_self
      clear r he hb hn
      generalize (wa3.heap.size,wb3.heap.size)::iv2=iv3 at*
      obtain⟨s3_0,s3_1,s3_2,s3_3,rfl⟩:=hd.shape
      conv=>whnf
      refine callE_con (Φ:=fun _ w' v w2=>IntC w2 (Nw (fun _=>False) w' w2) v (((vald ((bs.take k).filter dg)*10+(b-48):Nat)):Int)) (fun ρ w' r=>(show (((vald ((bs.take k).filter dg)*10+(b-48):Nat)):Int)=((vald ((bs.take k).filter dg)*10:Nat):Int)+((b-48:Nat):Int) by omega)▸rSum_c (Rel.old r (oldF w)) (IntC.l (hp.rel r (oldF w)) (k:=100) hl3) (IntC.l (hd.rel r (oldF w)) (k:=1) (ln_le.2 (by show b-48<4294967296^1;omega))) (by decide) (by decide)) ?_
      rintro ρ wa4 v4 wb4 r he hb hn
      replace hw:=hw.tr hb
      clear hp
      clear hd
      have hs:=hn.got (S:=fun _=>False) r.baseLe (iv:=(wa4.heap.size,wb4.heap.size)::iv3) List.mem_cons_self
      clear r he hb hn
      generalize (wa4.heap.size,wb4.heap.size)::iv3=iv4 at*
      obtain⟨s4_0,s4_1,s4_2,s4_3,rfl⟩:=hs.shape
      conv=>whnf
      refine⟨((k+1:Nat):Int),by rw[wrap64]<;>omega,?_⟩
      conv=>whnf
      intro ρ3 w3 r3
      exact⟨(k+1,(s4_0,s4_1,s4_2,s4_3),w3,_),⟨hkb,hw.tr r3.bel,by dsimp only;rw[hft];exact by rw[vald_snoc];exact hs.rel r3 (oldF w)⟩,Sub.gen [] r3 ⟨rfl,rfl,trivial⟩ ⟨rfl,rfl,rfl,rfl,trivial⟩ (by simp[ScH,Blk.scopd,At.sc]) (by simp[ScE,SV.sc,At.sc]) (by rfl) (fun lo hi h=>h),by dsimp only;omega⟩
    ·conv=>whnf
     refine opS_index und_str (by rfl) (by rfl) (Int.natCast_nonneg k) hgt (fun ρ w2 r2=>?_)
     rw[u8n hb6]
     replace hw:=hw.tr r2.bel
     replace hx:=hx.rel r2 (oldF w)
     clear r2
     conv=>whnf
     refine⟨((b-48:Nat):Int),wrapU8s h1 h2,?_⟩
     conv=>whnf
     refine⟨((b-48:Nat):Int),by rw[wrap64]<;>omega,?_⟩
     conv=>whnf
     refine callE_con (Φ:=fun _ w' v w2=>IntC w2 (Nw (fun _=>False) w' w2) v 10) (fun ρ w' r=>rOf_c 10 w' (by decide) (by decide)) ?_
     rintro ρ wa1 v1 wb1 r he hb hn
     replace hw:=hw.tr hb
     replace hx:=hx.past (iv':=(wa1.heap.size,wb1.heap.size)::iv) r (oldF w) he fun x hx=>List.mem_cons_of_mem _ hx
     have ht:=hn.got (S:=fun _=>False) r.baseLe (iv:=(wa1.heap.size,wb1.heap.size)::iv) List.mem_cons_self
     clear r he hb hn
     generalize (wa1.heap.size,wb1.heap.size)::iv=iv1 at*
     obtain⟨s1_0,s1_1,s1_2,s1_3,rfl⟩:=ht.shape
     conv=>whnf
     refine callE_con (Φ:=fun _ w' v w2=>IntC w2 (Nw (fun _=>False) w' w2) v (((vald ((bs.take k).filter dg)*10:Nat)):Int)) (fun ρ w' r=>(show (((vald ((bs.take k).filter dg)*10:Nat)):Int)=((vald ((bs.take k).filter dg):Nat):Int)*10 by omega)▸rProd_c (Rel.old r (oldF w)) (IntC.l (hx.rel r (oldF w)) (k:=100) hl1) (IntC.l (ht.rel r (oldF w)) (k:=1) (by decide)) (by decide) (by decide)) ?_
     rintro ρ wa2 v2 wb2 r he hb hn
     replace hw:=hw.tr hb
     clear hx
     clear ht
     have hp:=hn.got (S:=fun _=>False) r.baseLe (iv:=(wa2.heap.size,wb2.heap.size)::iv1) List.mem_cons_self
     clear r he hb hn
     generalize (wa2.heap.size,wb2.heap.size)::iv1=iv2 at*
     obtain⟨s2_0,s2_1,s2_2,s2_3,rfl⟩:=hp.shape
     conv=>whnf
     refine callE_con (Φ:=fun _ w' v w2=>IntC w2 (Nw (fun _=>False) w' w2) v ((b-48:Nat):Int)) (fun ρ w' r=>rOf_c ((b-48:Nat):Int) w' (by omega) (by omega)) ?_
     rintro ρ wa3 v3 wb3 r he hb hn
     replace hw:=hw.tr hb
     replace hp:=hp.past (iv':=(wa3.heap.size,wb3.heap.size)::iv2) r (oldF w) he fun x hx=>List.mem_cons_of_mem _ hx
     have hd:=hn.got (S:=fun _=>False) r.baseLe (iv:=(wa3.heap.size,wb3.heap.size)::iv2) List.mem_cons_self
     clear r he hb hn
     generalize (wa3.heap.size,wb3.heap.size)::iv2=iv3 at*
     obtain⟨s3_0,s3_1,s3_2,s3_3,rfl⟩:=hd.shape
     conv=>whnf
     refine callE_con (Φ:=fun _ w' v w2=>IntC w2 (Nw (fun _=>False) w' w2) v (((vald ((bs.take k).filter dg)*10+(b-48):Nat)):Int)) (fun ρ w' r=>(show (((vald ((bs.take k).filter dg)*10+(b-48):Nat)):Int)=((vald ((bs.take k).filter dg)*10:Nat):Int)+((b-48:Nat):Int) by omega)▸rSum_c (Rel.old r (oldF w)) (IntC.l (hp.rel r (oldF w)) (k:=100) hl3) (IntC.l (hd.rel r (oldF w)) (k:=1) (ln_le.2 (by show b-48<4294967296^1;omega))) (by decide) (by decide)) ?_
     rintro ρ wa4 v4 wb4 r he hb hn
     replace hw:=hw.tr hb
     clear hp
     clear hd
     have hs:=hn.got (S:=fun _=>False) r.baseLe (iv:=(wa4.heap.size,wb4.heap.size)::iv3) List.mem_cons_self
     clear r he hb hn
     generalize (wa4.heap.size,wb4.heap.size)::iv3=iv4 at*
     obtain⟨s4_0,s4_1,s4_2,s4_3,rfl⟩:=hs.shape
     conv=>whnf
     refine⟨((k+1:Nat):Int),by rw[wrap64]<;>omega,?_⟩
     conv=>whnf
     intro ρ3 w3 r3
     exact⟨(k+1,(s4_0,s4_1,s4_2,s4_3),w3,_),⟨hkb,hw.tr r3.bel,by dsimp only;rw[hft];exact by rw[vald_snoc];exact hs.rel r3 (oldF w)⟩,Sub.gen [] r3 ⟨rfl,rfl,trivial⟩ ⟨rfl,rfl,rfl,rfl,trivial⟩ (by simp[ScH,Blk.scopd,At.sc]) (by simp[ScE,SV.sc,At.sc]) (by rfl) (fun lo hi h=>h),by dsimp only;omega⟩
   have h2:¬b≤57:=by have:¬(b:Int)≤57:=of_decide_eq_false h2;omega
   have hdg:dg b=false:=by simp[dg];omega
   rw[hdg,if_neg (by decide),List.append_nil]at hft
   conv=>whnf
   refine⟨((k+1:Nat):Int),by rw[wrap64]<;>omega,?_⟩
   conv=>whnf
   intro ρ3 w3 r3
   exact⟨(k+1,(b1,a1,n1,c1),w3,_),⟨hkb,hw.tr r3.bel,by dsimp only;rw[hft];exact hx.rel r3 (oldF w)⟩,Sub.gen [] r3 ⟨rfl,rfl,trivial⟩ ⟨rfl,rfl,rfl,rfl,trivial⟩ (by simp[ScH,Blk.scopd,At.sc]) (by simp[ScE,SV.sc,At.sc]) (by rfl) (fun lo hi h=>h),by dsimp only;omega⟩
  have h1:¬48≤b:=by have:¬(b:Int)≥48:=of_decide_eq_false h1;omega
  have hdg:dg b=false:=by simp[dg];omega
  rw[hdg,if_neg (by decide),List.append_nil]at hft
  conv=>whnf
  refine⟨((k+1:Nat):Int),by rw[wrap64]<;>omega,?_⟩
  conv=>whnf
  intro ρ3 w3 r3
  exact⟨(k+1,(b1,a1,n1,c1),w3,_),⟨hkb,hw.tr r3.bel,by dsimp only;rw[hft];exact hx.rel r3 (oldF w)⟩,Sub.gen [] r3 ⟨rfl,rfl,trivial⟩ ⟨rfl,rfl,rfl,rfl,trivial⟩ (by simp[ScH,Blk.scopd,At.sc]) (by simp[ScE,SV.sc,At.sc]) (by rfl) (fun lo hi h=>h),by dsimp only;omega⟩
 have hkb:k=bs.length:=by have:¬(k:Int)<(bs.length:Int):=of_decide_eq_false hkb;omega
 have hl1:=hlf k
 rw[hkb,List.take_of_length_le (Nat.le_refl _)]at hx hl1
 clear hlf hk hkb
 conv=>whnf
 rw[strOf_size]
 refine BrS.mk (fun h0=>?_) (fun h0=>?_)
 ·have h0:0<bs.length:=by have:(bs.length:Int)>0:=of_decide_eq_true h0;omega
  obtain⟨c,cs,rfl⟩:∃c cs,bs=c::cs:=by cases bs with
   |nil=>simp at h0
   |cons c cs=>exact⟨c,cs,rfl⟩
  have hc6:=hb c List.mem_cons_self
  conv=>whnf
  refine opS_index und_str (by rfl) (by rfl) (by decide) (strOf_get (bs:=c::cs) (i:=0) (b:=c) (by rfl)) (fun ρ w2 r2=>?_)
  rw[u8n hc6]
  replace hw:=hw.tr r2.bel
  replace hx:=hx.rel r2 (oldF w)
  clear r2
  conv=>whnf
  refine BrS.mk (fun h4=>?_) (fun h4=>?_)
  ·have h4:c=45:=by have:=eq_of_beq h4;omega
   conv=>whnf
   refine callE_S (callE_con (Φ:=fun _ w' v w2=>IntC w2 (Nw (fun _=>False) w' w2) v (-((vald ((c::cs).filter dg):Nat):Int))) (fun ρ w' r=>rMinus_c (Rel.old r (oldF w)) (IntC.l (hx.rel r (oldF w)) (k:=100) hl1) (by decide)) ?_)
   rintro ρ wa1 v1 wb1 r he hb hn
   replace hw:=hw.tr hb
   clear hx
   have hy:=hn.got (S:=fun _=>False) r.baseLe (iv:=(wa1.heap.size,wb1.heap.size)::iv) List.mem_cons_self
   clear r he hb hn
   generalize (wa1.heap.size,wb1.heap.size)::iv=iv1 at*
   obtain⟨s1_0,s1_1,s1_2,s1_3,rfl⟩:=hy.shape
   conv=>whnf
   intro ρe we re
   exact⟨_,rfl,hw.tr re.bel,by rw[show readZ (c::cs)= -((vald ((c::cs).filter dg):Nat):Int)from if_pos (by rw[h4];rfl)];exact hy.out re (oldF w)⟩
  have h4:¬c=45:=fun e=>by rw[e]at h4;exact absurd h4 (by decide)
  conv=>whnf
  intro ρe we re
  exact⟨_,rfl,hw.tr re.bel,by rw[show readZ (c::cs)=((vald ((c::cs).filter dg):Nat):Int)from if_neg (by simpa using h4)];exact hx.out re (oldF w)⟩
 have h0:bs=[]:=List.eq_nil_of_length_eq_zero (by have:¬(bs.length:Int)>0:=of_decide_eq_false h0;omega)
 conv=>whnf
 intro ρe we re
 exact⟨_,rfl,hw.tr re.bel,by rw[show readZ bs=((vald (bs.filter dg):Nat):Int)from if_neg (by rw[h0];decide)];exact hx.out re (oldF w)⟩
end Go.Ex
