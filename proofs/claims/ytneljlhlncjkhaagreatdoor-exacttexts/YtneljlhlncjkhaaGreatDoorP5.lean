/- A part of the proof: texts X16 to X23. Each tells its conditions in its theorems. -/
import Derived.Test.YtneljlhlncjkhaaGreatDoorP2
import Derived.Test.YtneljlhlncjkhaaGreatDoorP4
/- Integers of package exact: sum, product, comparison. No condition. -/
namespace Go.Ex
open Go Go.Sx Go.Proofs

/-- the shape of an integer -/
theorem NumR.num{S:Nat→Prop}{w:World}{v:Value}{z:Int}(h:NumR w S v z):∃a n c,v= .agg #[.bool (decide (z<0)),.slice a n c]∧NatR w S (.slice a n c) z.natAbs:=by
 obtain⟨nv,h1,h2⟩:=h
 obtain⟨a,n,c,rfl⟩:=h2.shape
 exact⟨a,n,c,h1,h2⟩

theorem numPlus_c{S:Nat→Prop}{w:World}{v u:Value}{x y:Int}(hS:Old S w)(hx:NumR w S v x)(hy:NumR w S u y)(hlx:ln x.natAbs≤100000000000)(hly:ln y.natAbs≤100000000000):
  Con PG N.exact_number_plus #[v,u] w (Ret w fun v' w2=>NumR w2 (Nw (fun _=>False) w w2) v' (x+y)):=by
 obtain⟨nx,rfl,hxn⟩:=hx
 obtain⟨ny,rfl,hyn⟩:=hy
 obtain⟨ax,lx,cx,rfl⟩:=hxn.shape
 obtain⟨ay,ly,cy,rfl⟩:=hyn.shape
 replace hxn:=hxn.arg []
 replace hyn:=hyn.arg []
 generalize hbx:decide (x<0)=bx
 generalize hby:decide (y<0)=b2
 refine in_exact_number_plus (by simp) ?_
 have hsame:bx=b2→(x+y).natAbs=x.natAbs+y.natAbs∧decide (x+y<0)=bx:=fun e=>by
  cases bx<;>subst e
  ·have h1:=of_decide_eq_false hbx
   have h2:=of_decide_eq_false hby
   exact⟨by omega,decide_eq_false (by omega)⟩
  ·have h1:=of_decide_eq_true hbx
   have h2:=of_decide_eq_true hby
   exact⟨by omega,decide_eq_true (by omega)⟩
 have hdiff:bx≠b2→y.natAbs≤x.natAbs→(x+y).natAbs=x.natAbs-y.natAbs∧(decide (x+y<0)=(bx&&decide (x.natAbs-y.natAbs≠0))):=fun e h=>by
  cases bx
  ·have h1:=of_decide_eq_false hbx
   cases b2
   ·exact absurd rfl e
   have h2:=of_decide_eq_true hby
   exact⟨by omega,by rw[Bool.false_and];exact decide_eq_false (by omega)⟩
  ·have h1:=of_decide_eq_true hbx
   cases b2
   ·have h2:=of_decide_eq_false hby
    exact⟨by omega,by rw[Bool.true_and];exact decide_eq_decide.2 (by omega)⟩
   ·exact absurd rfl e
 have hdiff2:bx≠b2→x.natAbs<y.natAbs→(x+y).natAbs=y.natAbs-x.natAbs∧decide (x+y<0)=b2:=fun e h=>by
  cases bx
  ·have h1:=of_decide_eq_false hbx
   cases b2
   ·exact absurd rfl e
   have h2:=of_decide_eq_true hby
   exact⟨by omega,decide_eq_true (by omega)⟩
  ·have h1:=of_decide_eq_true hbx
   cases b2
   ·have h2:=of_decide_eq_false hby
    exact⟨by omega,decide_eq_false (by omega)⟩
   ·exact absurd rfl e
 by_cases hbb:bx=b2
 ·obtain⟨h1,h2⟩:=hsame hbb
  subst hbb
  clear hsame hdiff hdiff2
  cases bx
  all_goals
   conv=>whnf
   refine drawn_of_pi hτ hmix [.x 0,.x 1,.x 2,.x 3,.x 4,.x 5,.x 6,.x 7,.x 8] (by kernel_rfl) (by kernel_rfl) ?_
   conv=>whnf
   refine callE_con (Φ:=fun _ w' v w2=>NatR w2 (Nw (fun _=>False) w' w2) v (x.natAbs+y.natAbs)) (fun ρ w' r=>plus_c (Rel.old r hS) (hxn.rel r hS) (hyn.rel r hS) (by omega) (by omega)) ?_
   rintro ρ w3 v3 w4 r he hw hn
   have hN:=hn.got (S:=fun _=>False) r.baseLe (iv:=(w3.heap.size,w4.heap.size)::[]) List.mem_cons_self
   clear r he hn hxn hyn
   obtain⟨a3,n3,c3,rfl⟩:=hN.shape
   conv=>whnf
   intro ρ5 w5 r5
   exact⟨_,rfl,hw.tr r5.bel,_,by rw[h2];rfl,by rw[h1];exact hN.out r5 (oldF w)⟩
 ·replace hdiff:=hdiff hbb
  replace hdiff2:=hdiff2 hbb
  clear hsame
  have hcmp:∀d:Int,d=cmpN x.natAbs y.natAbs→(0≤d↔y.natAbs≤x.natAbs):=fun d e=>by
   rw[e];unfold cmpN
   split
   ·omega
   ·split<;>omega
  cases bx<;>cases b2<;>first|exact absurd rfl hbb|skip
  all_goals
   conv=>whnf
   refine callE_S (callE_con (Φ:=fun _ _ v _=>v= .int .i64 (cmpN x.natAbs y.natAbs)) (fun ρ w' r=>cmp_c (Rel.old r hS) (hxn.rel r hS) (hyn.rel r hS)) ?_)
   rintro ρ w1 v1 w2 r he hw rfl
   replace hxn:=hxn.past (iv':=[(w1.heap.size,w2.heap.size)]) r hS he fun x hx=>List.mem_cons_of_mem _ hx
   replace hyn:=hyn.past (iv':=[(w1.heap.size,w2.heap.size)]) r hS he fun x hx=>List.mem_cons_of_mem _ hx
   clear r he
   conv=>whnf
   refine BrS.mk (fun h=>?_) (fun h=>?_)
   ·have h:=(hcmp _ rfl).1 (of_decide_eq_true h)
    obtain⟨h1,h2⟩:=hdiff h
    conv=>whnf
    refine callE_S (callE_con (Φ:=fun _ w' v w2=>NatR w2 (Nw (fun _=>False) w' w2) v (x.natAbs-y.natAbs)) (fun ρ w' r=>minus_c (Rel.old r hS) (hxn.rel r hS) (hyn.rel r hS) h (by omega)) ?_)
    rintro ρ w3 v3 w4 r he hb4 hn
    replace hw:=hw.tr hb4
    have hN:=hn.got (S:=fun _=>False) r.baseLe (iv:=(w3.heap.size,w4.heap.size)::[(w1.heap.size,w2.heap.size)]) List.mem_cons_self
    clear r he hn hxn hyn hb4
    have hN2:=hN
    obtain⟨p,rfl,hp1,hp2⟩:=hN.la
    have hpl:=length_ln p.lm hp2
    rw[hp1]at hpl
    have hpz:=ln_pos hpl
    have hd:decide ((p.ls.length:Int)>0)=decide (x.natAbs-y.natAbs≠0):=decide_eq_decide.2 (by omega)
    conv=>whnf
    intro ρ5 w5 r5
    exact⟨_,rfl,hw.tr r5.bel,_,by rw[h2,←hd];rfl,by rw[h1];exact hN2.out r5 (oldF w)⟩
   ·have h:x.natAbs<y.natAbs:=by
     have h0:=of_decide_eq_false h
     have:=hcmp _ rfl
     omega
    obtain⟨h1,h2⟩:=hdiff2 h
    conv=>whnf
    refine drawn_of_pi hτ hmix [.x 0,.x 1,.x 2,.x 3,.x 4,.x 5,.x 6,.x 7,.x 8] (by kernel_rfl) (by kernel_rfl) ?_
    conv=>whnf
    refine callE_con (Φ:=fun _ w' v w2=>NatR w2 (Nw (fun _=>False) w' w2) v (y.natAbs-x.natAbs)) (fun ρ w' r=>minus_c (Rel.old r hS) (hyn.rel r hS) (hxn.rel r hS) (by omega) (by omega)) ?_
    rintro ρ w3 v3 w4 r he hb4 hn
    replace hw:=hw.tr hb4
    have hN:=hn.got (S:=fun _=>False) r.baseLe (iv:=(w3.heap.size,w4.heap.size)::[(w1.heap.size,w2.heap.size)]) List.mem_cons_self
    clear r he hn hxn hyn hb4
    obtain⟨a3,n3,c3,rfl⟩:=hN.shape
    conv=>whnf
    intro ρ5 w5 r5
    exact⟨_,rfl,hw.tr r5.bel,_,by rw[h2];rfl,by rw[h1];exact hN.out r5 (oldF w)⟩

theorem numTimes_c{S:Nat→Prop}{w:World}{v u:Value}{x y:Int}(hS:Old S w)(hx:NumR w S v x)(hy:NumR w S u y)(hlx:ln x.natAbs≤100000000000)(hly:ln y.natAbs≤100000000000):
  Con PG N.exact_number_times #[v,u] w (Ret w fun v' w2=>NumR w2 (Nw (fun _=>False) w w2) v' (x*y)):=by
 obtain⟨nx,rfl,hxn⟩:=hx
 obtain⟨ny,rfl,hyn⟩:=hy
 obtain⟨ax,lx,cx,rfl⟩:=hxn.shape
 obtain⟨ay,ly,cy,rfl⟩:=hyn.shape
 replace hxn:=hxn.arg []
 replace hyn:=hyn.arg []
 have hab:=Int.natAbs_mul x y
 have hneg:decide (x*y<0)=((decide (x<0) != decide (y<0))&&decide (x.natAbs*y.natAbs≠0)):=by
  by_cases h0:x*y=0
  ·rw[←hab,h0];simp
  ·have hx0:x≠0:=fun e=>h0 (by rw[e,Int.zero_mul])
   have hy0:y≠0:=fun e=>h0 (by rw[e,Int.mul_zero])
   rw[←hab,decide_eq_true (show (x*y).natAbs≠0 by omega),Bool.and_true]
   by_cases h1:x<0<;>by_cases h2:y<0
   ·rw[decide_eq_true h1,decide_eq_true h2];exact decide_eq_false (by have:=Int.mul_pos_of_neg_of_neg h1 h2;omega)
   ·rw[decide_eq_true h1,decide_eq_false h2];exact decide_eq_true (Int.mul_neg_of_neg_of_pos h1 (by omega))
   ·rw[decide_eq_false h1,decide_eq_true h2];exact decide_eq_true (Int.mul_neg_of_pos_of_neg (by omega) h2)
   ·rw[decide_eq_false h1,decide_eq_false h2];exact decide_eq_false (by have:=Int.mul_nonneg (show 0≤x by omega) (show 0≤y by omega);omega)
 generalize decide (x<0)=bx at*
 generalize decide (y<0)=b2 at*
 refine in_exact_number_times (by simp) ?_
 conv=>whnf
 refine callE_S (callE_con (Φ:=fun _ w' v w2=>NatR w2 (Nw (fun _=>False) w' w2) v (x.natAbs*y.natAbs)) (fun ρ w' r=>times_c (Rel.old r hS) (hxn.rel r hS) (hyn.rel r hS) (by omega) (by omega)) ?_)
 rintro ρ w3 v3 w4 r he hw hn
 have hN:=hn.got (S:=fun _=>False) r.baseLe (iv:=(w3.heap.size,w4.heap.size)::[]) List.mem_cons_self
 clear r he hn hxn hyn
 have hN2:=hN
 obtain⟨p,rfl,hp1,hp2⟩:=hN.la
 have hpl:=length_ln p.lm hp2
 rw[hp1]at hpl
 have hpz:=ln_pos hpl
 have hd:decide ((p.ls.length:Int)>0)=decide (x.natAbs*y.natAbs≠0):=decide_eq_decide.2 (by omega)
 cases bx<;>cases b2
 all_goals
  conv=>whnf
  intro ρ5 w5 r5
  exact⟨_,rfl,hw.tr r5.bel,_,by rw[hneg,←hd];rfl,by rw[hab];exact hN2.out r5 (oldF w)⟩

theorem numCmp_c{S:Nat→Prop}{w:World}{v u:Value}{x y:Int}(hS:Old S w)(hx:NumR w S v x)(hy:NumR w S u y)(hlx:ln x.natAbs≤100000000000)(hly:ln y.natAbs≤100000000000):
  Con PG N.exact_number_cmp #[v,u] w (Ret w fun v' _=>v'= .int .i64 (x-y).sign):=by
 have hxN:NumR w (Cv S w.heap.size []) v x:=hx.weak fun _ h=>.inl h
 have hyN:NumR w (Cv S w.heap.size []) u y:=hy.weak fun _ h=>.inl h
 obtain⟨nx,rfl,hxn⟩:=hx
 obtain⟨ny,rfl,hyn⟩:=hy
 obtain⟨ax,lx,cx,rfl⟩:=hxn.shape
 obtain⟨ay,ly,cy,rfl⟩:=hyn.shape
 refine in_exact_number_cmp (by simp) ?_
 conv=>whnf
 refine drawn_of_pi hτ hmix [.x 0,.x 1,.x 2,.x 3,.x 4,.x 5] (by kernel_rfl) (by kernel_rfl) ?_
 conv=>whnf
 refine callE_con (Φ:=fun _ w' v w2=>NumR w2 (Nw (Cv S w.heap.size []) w' w2) v (-y)) (fun ρ w' r=>numMinus_c (Rel.old r hS) (hyN.rel r hS)) ?_
 rintro ρ w1 v1 w2 r he hw hm
 have hmN:NumR w2 (Cv S w.heap.size [(w1.heap.size,w2.heap.size)]) v1 (-y):=hm.weak fun _ hg=>Nw.cv hg r.baseLe
 replace hxN:=hxN.past (iv':=[(w1.heap.size,w2.heap.size)]) r hS he fun x hx=>List.mem_cons_of_mem _ hx
 clear r he hm hyN
 generalize [(w1.heap.size,w2.heap.size)]=iv at*
 have hmN2:=hmN
 obtain⟨am,lm,cm,rfl,-⟩:=hmN.num
 conv=>whnf
 refine callE_con (Φ:=fun _ w' v w2=>NumR w2 (Nw (fun _=>False) w' w2) v (x+ -y)) (fun ρ w' r=>numPlus_c (Rel.old r hS) (hxN.rel r hS) (hmN2.rel r hS) hlx (by rw[Int.natAbs_neg];exact hly)) ?_
 rintro ρ w3 v3 w4 r he hb4 hp
 replace hw:=hw.tr hb4
 have hpN:=hp.got (S:=S) r.baseLe (iv:=(w3.heap.size,w4.heap.size)::iv) List.mem_cons_self
 clear r he hp hxN hmN hmN2 hb4
 have hpN2:=hpN
 obtain⟨ap,lp,cp,rfl,-⟩:=hpN.num
 conv=>whnf
 refine callE_con (Φ:=fun _ _ v _=>v= .int .i64 (x-y).sign) (fun ρ w' r=>sign_c (hpN2.rel r hS)) ?_
 rintro ρ w5 v5 w6 r he hb6 rfl
 replace hw:=hw.tr hb6
 clear r he hb6
 conv=>whnf
 intro ρ7 w7 r7
 exact⟨_,rfl,hw.tr r7.bel,rfl⟩
end Go.Ex

/- Integers of package exact: division, machine integers. No condition. -/
namespace Go.Ex
open Go Go.Sx Go.Proofs

theorem int_divmod{x y:Int}(_hy:y≠0){q r:Nat}(hr:r<y.natAbs)(h:(if x<0 then x+(q*y.natAbs:Nat)=r else x=(q*y.natAbs:Nat)+r)):
  x / y=sg (decide (x<0) != decide (y<0)) q∧x % y=r:=by
 have key:∀b:Int,0<b→b=y.natAbs→x / b=(if x<0 then -(q:Int)else q)∧x % b=r:=fun b hb e=>by
  rw[Int.ediv_emod_unique hb]
  rw[Int.natCast_mul]at h
  rw[←e]at h
  split at h
  ·rename_i hx
   rw[if_pos hx,Int.mul_neg,Int.mul_comm b]
   omega
  ·rename_i hx
   rw[if_neg hx,Int.mul_comm b]
   omega
 by_cases h2:y<0
 ·obtain⟨k1,k2⟩:=key (-y) (by omega) (by omega)
  rw[Int.ediv_neg]at k1
  rw[Int.emod_neg]at k2
  refine⟨?_,k2⟩
  rw[decide_eq_true h2]
  split at k1
  ·rename_i hx
   rw[decide_eq_true hx]
   show x / y=(q:Int)
   omega
  ·rename_i hx
   rw[decide_eq_false hx]
   show x / y= -(q:Int)
   omega
 ·obtain⟨k1,k2⟩:=key y (by omega) (by omega)
  refine⟨?_,k2⟩
  rw[decide_eq_false h2,k1]
  split
  ·rename_i hx
   rw[decide_eq_true hx];rfl
  ·rename_i hx
   rw[decide_eq_false hx];rfl

theorem sg_neg{b:Bool}{n k:Nat}(h:k=ln n):(b&&decide ((k:Int)>0))=decide (sg b n<0):=by
 have hp:=ln_pos h
 cases b
 ·rw[Bool.false_and];exact(decide_eq_false (by simp[sg])).symm
 ·rw[Bool.true_and,sg_t];exact decide_eq_decide.2 (by omega)

theorem numDivide_c{S:Nat→Prop}{w:World}{v u:Value}{x y:Int}(hS:Old S w)(hx:NumR w S v x)(hy:NumR w S u y)(hy0:y≠0)(hlx:ln x.natAbs≤100000000000)(hly:ln y.natAbs≤100000000000):
  Con PG N.exact_number_divide #[v,u] w (Ret w fun v' w2=>∃q r,v'= .tuple #[q,r]∧NumR w2 (Nw (fun _=>False) w w2) q (x / y)∧NumR w2 (Nw S w w2) r (x % y)):=by
 obtain⟨ax,lx,cx,rfl,hxn⟩:=hx.num
 obtain⟨ay,ly,cy,rfl,hyn⟩:=hy.num
 replace hxn:=hxn.arg []
 replace hyn:=hyn.arg []
 have hyp:0<y.natAbs:=by omega
 have hdm:=@int_divmod x y hy0
 generalize hbx:decide (x<0)=bx at*
 generalize hby:decide (y<0)=b2 at*
 refine in_exact_number_divide (by simp) ?_
 conv=>whnf
 refine callE_S (callE_con (Φ:=fun _ w' v w2=>∃q r,v= .tuple #[q,r]∧NatR w2 (Nw (fun _=>False) w' w2) q (x.natAbs / y.natAbs)∧NatR w2 (Nw (Cv S w.heap.size []) w' w2) r (x.natAbs % y.natAbs)) (fun ρ w' r=>divide_c (Rel.old r hS) (hxn.rel r hS) (hyn.rel r hS) hyp hlx) ?_)
 rintro ρ w1 v1 w2 r he hw ⟨q,rm,rfl,hq,hrm⟩
 have hqN:=hq.got (S:=fun _=>False) r.baseLe (iv:=[(w1.heap.size,w2.heap.size)]) List.mem_cons_self
 have hrN:NatR w2 (Cv S w.heap.size [(w1.heap.size,w2.heap.size)]) rm (x.natAbs % y.natAbs):=hrm.weak fun g hg=>Nw.cv hg r.baseLe
 replace hyn:=hyn.past (iv':=[(w1.heap.size,w2.heap.size)]) r hS he fun x hx=>List.mem_cons_of_mem _ hx
 clear r he hq hrm hxn
 generalize [(w1.heap.size,w2.heap.size)]=iv at*
 have hdam:=Nat.div_add_mod x.natAbs y.natAbs
 have hrl:=Nat.mod_lt x.natAbs hyp
 have hql:=Nat.div_le_self x.natAbs y.natAbs
 generalize x.natAbs / y.natAbs=q0 at*
 generalize x.natAbs % y.natAbs=r0 at*
 have hlq:=ln_mono hql
 have hqN2:=hqN
 have hrN2:=hrN
 obtain⟨pq,rfl,hpq1,hpq2⟩:=hqN.la
 obtain⟨pr,rfl,hpr1,hpr2⟩:=hrN.la
 have hpql:=length_ln pq.lm hpq2
 rw[hpq1]at hpql
 have hprl:=length_ln pr.lm hpr2
 rw[hpr1]at hprl
 have hrz:=ln_pos hprl
 -- the end, with what is then in q and r
 cases bx
 ·have h2:=of_decide_eq_false hbx
  obtain⟨d1,d2⟩:=hdm hrl (q:=q0) (by rw[if_neg h2,Nat.mul_comm];omega)
  have hd:(b2&&decide ((pq.ls.length:Int)>0))=decide (x / y<0):=by rw[d1,Bool.false_bne];exact sg_neg hpql
  have e1:NatR w2 (Cv (fun _=>False) w.heap.size iv) (.slice pq.a pq.ls.length pq.c) (x / y).natAbs:=by rw[d1,sg_abs];exact hqN2
  have e2:NatR w2 (Cv S w.heap.size iv) (.slice pr.a pr.ls.length pr.c) (x % y).natAbs:=by rw[d2];exact hrN2
  have e3:decide (x % y<0)=false:=decide_eq_false (by omega)
  cases b2
  all_goals
   conv=>whnf
   intro ρ5 w5 r5
   exact⟨_,rfl,hw.tr r5.bel,_,_,rfl,⟨_,by rw[←hd];rfl,e1.out r5 (oldF w)⟩,_,by rw[e3];rfl,e2.out r5 hS⟩
 ·have h2:=of_decide_eq_true hbx
  conv=>whnf
  refine BrS.mk (fun h=>?_) (fun h=>?_)
  ·have h:0<r0:=by
    have:(pr.ls.length:Int)>0:=of_decide_eq_true h
    omega
   obtain⟨d1,d2⟩:=hdm (q:=q0+1) (r:=y.natAbs-r0) (by omega) (by
    rw[if_pos h2,Nat.add_mul,Nat.mul_comm q0,Nat.one_mul]
    omega)
   have hlq1:=ln_add q0 1
   have hl1:ln 1=1:=by rfl
   conv=>whnf
   refine drawn_of_pi hτ hmix [.x 0,.x 3,.x 4,.x 5,.x 1,.x 2,.x 6,.x 7,.x 8] (by kernel_rfl) (by kernel_rfl) ?_
   conv=>whnf
   refine callE_con (Φ:=fun _ w' v w2=>NatR w2 (Nw (fun _=>False) w' w2) v (q0+1)) (fun ρ w' r=>?_) ?_
   ·have hL:=(r.boxLimbs (id:=4) (ls:=[1]) rfl (by intro x hx;simp at hx;omega) (by simp)).nat (by intro x hx;simp at hx;omega)
    have hlow:=r.low 4 _ rfl (r.nn 4 _ rfl (by intros;simp) (by simp))
    refine plus_c (S:=fun g=>Cv (fun _=>False) w.heap.size iv g∨g=(ρ 4).g) (fun g hg=>hg.elim (fun hg=>Rel.old r (oldF w) g hg) fun hg=>by omega) ((hqN2.rel r (oldF w)).weak fun _ hg=>.inl hg) (hL.weak fun _ hg=>.inr hg) (by omega) (by rw[hl1];omega)
   rintro ρ w3 v3 w4 r he hb4 hp
   replace hw:=hw.tr hb4
   have hpN:=hp.got (S:=fun _=>False) r.baseLe (iv:=(w3.heap.size,w4.heap.size)::iv) List.mem_cons_self
   replace hyn:=hyn.past (iv':=(w3.heap.size,w4.heap.size)::iv) r hS he fun x hx=>List.mem_cons_of_mem _ hx
   have hrN3:=hrN2.past (iv':=(w3.heap.size,w4.heap.size)::iv) r hS he fun x hx=>List.mem_cons_of_mem _ hx
   clear r he hp hb4 hqN hqN2 hrN hrN2
   generalize (w3.heap.size,w4.heap.size)::iv=iv2 at*
   have hpN2:=hpN
   obtain⟨pp,rfl,hpp1,hpp2⟩:=hpN.la
   have hppl:=length_ln pp.lm hpp2
   rw[hpp1]at hppl
   conv=>whnf
   refine callE_con (Φ:=fun _ w' v w2=>NatR w2 (Nw (fun _=>False) w' w2) v (y.natAbs-r0)) (fun ρ w' r=>minus_c (Rel.old r hS) (hyn.rel r hS) (hrN3.rel r hS) (by omega) (by omega)) ?_
   rintro ρ w5 v5 w6 r he hb6 hm
   replace hw:=hw.tr hb6
   have hmN:=hm.got (S:=fun _=>False) r.baseLe (iv:=(w5.heap.size,w6.heap.size)::iv2) List.mem_cons_self
   replace hpN2:=hpN2.past (iv':=(w5.heap.size,w6.heap.size)::iv2) r (oldF w) he fun x hx=>List.mem_cons_of_mem _ hx
   clear r he hm hb6 hpN hrN3 hyn
   generalize (w5.heap.size,w6.heap.size)::iv2=iv3 at*
   obtain⟨am,lm,cm,rfl⟩:=hmN.shape
   have hd:(!b2&&decide ((pp.ls.length:Int)>0))=decide (x / y<0):=by rw[d1,Bool.true_bne];exact sg_neg hppl
   have e1:NatR w6 (Cv (fun _=>False) w.heap.size iv3) (.slice pp.a pp.ls.length pp.c) (x / y).natAbs:=by rw[d1,sg_abs];exact hpN2
   have e2:NatR w6 (Cv (fun _=>False) w.heap.size iv3) (.slice am lm cm) (x % y).natAbs:=by rw[d2];exact hmN
   have e3:decide (x % y<0)=false:=decide_eq_false (by omega)
   cases b2
   all_goals
    conv=>whnf
    intro ρ5 w5 r5
    exact⟨_,rfl,hw.tr r5.bel,_,_,rfl,⟨_,by rw[←hd];rfl,e1.out r5 (oldF w)⟩,_,by rw[e3];rfl,(e2.out r5 (oldF w)).weak fun g hg=>hg.elim (fun h=>h.elim) .inr⟩
  ·have h:r0=0:=by
    have:¬(pr.ls.length:Int)>0:=of_decide_eq_false h
    omega
   subst h
   obtain⟨d1,d2⟩:=hdm hrl (q:=q0) (by rw[if_pos h2,Nat.mul_comm];omega)
   have hd:(!b2&&decide ((pq.ls.length:Int)>0))=decide (x / y<0):=by rw[d1,Bool.true_bne];exact sg_neg hpql
   have e1:NatR w2 (Cv (fun _=>False) w.heap.size iv) (.slice pq.a pq.ls.length pq.c) (x / y).natAbs:=by rw[d1,sg_abs];exact hqN2
   have e2:NatR w2 (Cv S w.heap.size iv) (.slice pr.a pr.ls.length pr.c) (x % y).natAbs:=by rw[d2];exact hrN2
   have e3:decide (x % y<0)=false:=decide_eq_false (by omega)
   cases b2
   all_goals
    conv=>whnf
    intro ρ5 w5 r5
    exact⟨_,rfl,hw.tr r5.bel,_,_,rfl,⟨_,by rw[←hd];rfl,e1.out r5 (oldF w)⟩,_,by rw[e3];rfl,e2.out r5 hS⟩
end Go.Ex

/- Machine integers as integers of package exact. No condition. -/
namespace Go.Ex
open Go Go.Sx Go.Proofs

theorem small_c(n:Int)(w:World)(h1: -9223372036854775808≤n)(h2:n≤9223372036854775807):
  Con PG N.exact_small #[.int .i64 n] w (Ret w fun v' w2=>NumR w2 (Nw (fun _=>False) w w2) v' n):=by
 have key:∀(m:Nat),m=n.natAbs→m<18446744073709551616∧val [m % 4294967296,m / 4294967296]=n.natAbs∧m / 4294967296<4294967296:=fun m e=>by
  refine⟨by omega,?_,by omega⟩
  simp only[val]
  omega
 refine in_exact_small (by simp) ?_
 conv=>whnf
 refine⟨if n<0 then n+18446744073709551616 else n,by show n % 18446744073709551616=_;split<;>omega,?_⟩
 conv=>whnf
 refine BrS.mk (fun h=>?_) (fun h=>?_)
 ·have h:=of_decide_eq_true h
  rw[if_pos h]
  obtain⟨m,hm⟩:∃m,m=n.natAbs:=⟨_,rfl⟩
  obtain⟨k1,k2,k3⟩:=key m hm
  conv=>whnf
  refine⟨(m:Int),by show(0-(n+18446744073709551616)) % 18446744073709551616=_;omega,?_⟩
  conv=>whnf
  refine⟨((m % 4294967296:Nat):Int),wrapU32n m,?_⟩
  conv=>whnf
  refine⟨by decide,((m / 2^32:Nat):Int),fdiv_shr 32 (by decide),?_⟩
  conv=>whnf
  refine⟨((m / 4294967296:Nat):Int),by rw[wrapU32n,Nat.mod_eq_of_lt (by omega)],?_⟩
  conv=>whnf
  refine callE_free (Φ:=fun ρ _ v w2=>Limbs w2 (fun g=>g=(ρ 1).g) v (trimL [m % 4294967296,m / 4294967296])) (H':=[(0,.box T.number [.v (.bool false),.v (.slice none 0 0)])]) 1 rfl (by simp) ⟨rfl,trivial⟩ rfl (fun ρ w' r=>r.nn 1 _ rfl (by intros;simp) (by simp)) (fun ρ w' r=>?_) ?_
  ·have hL:=r.boxLimbs (id:=1) (ls:=[m % 4294967296,m / 4294967296]) rfl (by intro x hx;simp at hx;omega) (by simp)
   exact trimmed_c (fun g hg=>by rw[hg];exact(r.low 1 _ rfl (r.nn 1 _ rfl (by intros;simp) (by simp))).2) hL
  rintro ρ w1 v1 w2 r he hw hL
  have hlow:=r.low 1 _ rfl (r.nn 1 _ rfl (by intros;simp) (by simp))
  have hs:=he.size
  generalize (ρ 1).g=g0 at*
  have hN:NatR w2 (Cv (fun _=>False) w.heap.size [(g0,g0+1),(w1.heap.size,w2.heap.size)]) v1 n.natAbs:=by
   have:=hL.trimmed
   rw[k2]at this
   exact this.weak fun k hk=>.inr ⟨by omega,g0,g0+1,by simp,by omega,by omega⟩
  clear hL r he hlow hs
  generalize [(g0,g0+1),(w1.heap.size,w2.heap.size)]=iv at*
  obtain⟨a3,n3,c3,rfl⟩:=hN.shape
  conv=>whnf
  intro ρ5 w5 r5
  exact⟨_,rfl,hw.tr r5.bel,_,rfl,hN.out r5 (oldF w)⟩
 ·have h:=of_decide_eq_false h
  rw[if_neg h]
  obtain⟨m,hm⟩:∃m,m=n.natAbs:=⟨_,rfl⟩
  obtain⟨k1,k2,k3⟩:=key m hm
  have hmn:n=(m:Int):=by omega
  conv=>whnf
  refine⟨((m % 4294967296:Nat):Int),by rw[hmn];exact wrapU32n m,?_⟩
  conv=>whnf
  refine⟨by decide,((m / 2^32:Nat):Int),by rw[hmn];exact fdiv_shr 32 (by decide),?_⟩
  conv=>whnf
  refine⟨((m / 4294967296:Nat):Int),by rw[wrapU32n,Nat.mod_eq_of_lt (by omega)],?_⟩
  conv=>whnf
  refine callE_free (Φ:=fun ρ _ v w2=>Limbs w2 (fun g=>g=(ρ 1).g) v (trimL [m % 4294967296,m / 4294967296])) (H':=[(0,.box T.number [.v (.bool false),.v (.slice none 0 0)])]) 1 rfl (by simp) ⟨rfl,trivial⟩ rfl (fun ρ w' r=>r.nn 1 _ rfl (by intros;simp) (by simp)) (fun ρ w' r=>?_) ?_
  ·have hL:=r.boxLimbs (id:=1) (ls:=[m % 4294967296,m / 4294967296]) rfl (by intro x hx;simp at hx;omega) (by simp)
   exact trimmed_c (fun g hg=>by rw[hg];exact(r.low 1 _ rfl (r.nn 1 _ rfl (by intros;simp) (by simp))).2) hL
  rintro ρ w1 v1 w2 r he hw hL
  have hlow:=r.low 1 _ rfl (r.nn 1 _ rfl (by intros;simp) (by simp))
  have hs:=he.size
  generalize (ρ 1).g=g0 at*
  have hN:NatR w2 (Cv (fun _=>False) w.heap.size [(g0,g0+1),(w1.heap.size,w2.heap.size)]) v1 n.natAbs:=by
   have:=hL.trimmed
   rw[k2]at this
   exact this.weak fun k hk=>.inr ⟨by omega,g0,g0+1,by simp,by omega,by omega⟩
  clear hL r he hlow hs
  generalize [(g0,g0+1),(w1.heap.size,w2.heap.size)]=iv at*
  obtain⟨a3,n3,c3,rfl⟩:=hN.shape
  conv=>whnf
  intro ρ5 w5 r5
  exact⟨_,rfl,hw.tr r5.bel,_,rfl,hN.out r5 (oldF w)⟩
end Go.Ex

/- The integers that package exact exports. No condition. -/
namespace Go.Ex
open Go Go.Sx Go.Proofs

/-- an integer of the api with its value -/
def IntR(w:World)(S:Nat→Prop)(v:Value)(z:Int):Prop:=∃neg ls,IntV w S v neg ls∧sg neg (val ls)=z
/-- .. in normal form -/
def IntC(w:World)(S:Nat→Prop)(v:Value)(z:Int):Prop:=∃ls,IntV w S v (decide (z<0)) ls∧Nz ls∧val ls=z.natAbs
theorem sg_natAbs(z:Int):sg (decide (z<0)) z.natAbs=z:=by
 by_cases h:z<0
 ·rw[decide_eq_true h,sg_t];omega
 ·rw[decide_eq_false h,sg_f];omega
theorem IntC.r{w:World}{S:Nat→Prop}{v:Value}{z:Int}(h:IntC w S v z):IntR w S v z:=by
 obtain⟨ls,h1,h2,h3⟩:=h
 exact⟨_,ls,h1,by rw[h3,sg_natAbs]⟩
section
variable{S S':Nat→Prop}{H:Hp}{nx:Nat}{iv iv':Iv}{B:Nat}{w w' w2:World}{ρ:Nat→Sx.Val}{v:Value}{z:Int}{neg:Bool}{ls:List Nat}
theorem IntV.keep(h:IntV w S v neg ls)(hk:∀g,S g→w2.heap[g]? =w.heap[g]?):IntV w2 S v neg ls:=by
 obtain⟨lv,h1,h2⟩:=h;exact⟨lv,h1,h2.keep hk⟩
theorem IntV.weak(h:IntV w S v neg ls)(hk:∀g,S g→S' g):IntV w S' v neg ls:=by
 obtain⟨lv,h1,h2⟩:=h;exact⟨lv,h1,h2.weak hk⟩
theorem IntR.keep(h:IntR w S v z)(hk:∀g,S g→w2.heap[g]? =w.heap[g]?):IntR w2 S v z:=by
 obtain⟨n,l,h1,h2⟩:=h;exact⟨n,l,h1.keep hk,h2⟩
theorem IntR.weak(h:IntR w S v z)(hk:∀g,S g→S' g):IntR w S' v z:=by
 obtain⟨n,l,h1,h2⟩:=h;exact⟨n,l,h1.weak hk,h2⟩
theorem IntC.keep(h:IntC w S v z)(hk:∀g,S g→w2.heap[g]? =w.heap[g]?):IntC w2 S v z:=by
 obtain⟨l,h1,h2⟩:=h;exact⟨l,h1.keep hk,h2⟩
theorem IntC.weak(h:IntC w S v z)(hk:∀g,S g→S' g):IntC w S' v z:=by
 obtain⟨l,h1,h2⟩:=h;exact⟨l,h1.weak hk,h2⟩
theorem IntR.rel(h:IntR w (Cv S B iv) v z)(r:Rel H nx iv B w ρ w')(hS:∀g,S g→g<B):IntR w' (Cv S B iv) v z:=h.keep fun _ hg=>Rel.same r hS hg
theorem IntC.rel(h:IntC w (Cv S B iv) v z)(r:Rel H nx iv B w ρ w')(hS:∀g,S g→g<B):IntC w' (Cv S B iv) v z:=h.keep fun _ hg=>Rel.same r hS hg
theorem IntR.past(h:IntR w (Cv S B iv) v z)(r:Rel H nx iv B w ρ w')(hS:∀g,S g→g<B)(he:Ext w' w2)(hm:∀p,p∈iv→p∈iv'):IntR w2 (Cv S B iv') v z:=
 ((h.rel r hS).keep fun g hg=>he.block g (Rel.old r hS g hg)).weak fun _ hg=>hg.mono hm
theorem IntC.past(h:IntC w (Cv S B iv) v z)(r:Rel H nx iv B w ρ w')(hS:∀g,S g→g<B)(he:Ext w' w2)(hm:∀p,p∈iv→p∈iv'):IntC w2 (Cv S B iv') v z:=
 ((h.rel r hS).keep fun g hg=>he.block g (Rel.old r hS g hg)).weak fun _ hg=>hg.mono hm
theorem IntC.got(h:IntC w2 (Nw (fun _=>False) w' w2) v z)(hB:B≤w'.heap.size)(hm:(w'.heap.size,w2.heap.size)∈iv):IntC w2 (Cv S B iv) v z:=h.weak fun _ hg=>hg.got hB hm
theorem IntR.shape(h:IntR w S v z):∃b a n c,v= .agg #[.bool b,.slice a n c]:=by
 obtain⟨b,l,⟨lv,h1,h2⟩,_⟩:=h
 obtain⟨a,n,c,rfl⟩:=h2.shape
 exact⟨b,a,n,c,h1⟩
theorem NumR.old(h:NumR w2 (Nw (Cv S B iv) w' w2) v z)(hB:B≤w'.heap.size):NumR w2 (Cv S B ((w'.heap.size,w2.heap.size)::iv)) v z:=h.weak fun _ hg=>Nw.cv hg hB
end
theorem IntC.out{S:Nat→Prop}{H:Hp}{nx:Nat}{iv:Iv}{w w1 w':World}{ρ:Nat→Sx.Val}{v:Value}{z:Int}(h:IntC w1 (Cv S w.heap.size iv) v z)(r:Rel H nx iv w.heap.size w1 ρ w')(hS:Old S w):IntC w' (Nw S w w') v z:=
 (h.rel r hS).weak fun _ hg=>Cv.nw hg r
theorem ofR_c{S:Nat→Prop}{w:World}{v:Value}{z:Int}(hS:Old S w)(h:IntR w S v z):Con PG N.exact_of #[v] w (Ret w fun v' w2=>NumR w2 (Nw S w w2) v' z):=by
 obtain⟨n,l,h1,rfl⟩:=h
 exact of_c hS h1

theorem pubOf_c(n:Int)(w:World)(h1: -9223372036854775808≤n)(h2:n≤9223372036854775807):
  Con PG N.exact_Of #[.int .i64 n] w (Ret w fun v' w2=>IntC w2 (Nw (fun _=>False) w w2) v' n):=by
 have hln:ln n.natAbs≤2:=ln_le.2 (by show n.natAbs<4294967296^2;omega)
 refine in_exact_Of (by simp) ?_
 conv=>whnf
 refine callE_S (callE_con (Φ:=fun _ w' v w2=>NumR w2 (Nw (fun _=>False) w' w2) v n) (fun ρ w' r=>small_c n w' h1 h2) ?_)
 rintro ρ w1 v1 w2 r he hw hn
 have hN:=hn.got (S:=fun _=>False) r.baseLe (iv:=[(w1.heap.size,w2.heap.size)]) List.mem_cons_self
 clear r he hn
 generalize [(w1.heap.size,w2.heap.size)]=iv at*
 have hN2:=hN
 obtain⟨a1,l1,c1,rfl,-⟩:=hN.num
 conv=>whnf
 refine callE_S (callE_con (Φ:=fun _ w' v w2=>IntC w2 (Nw (fun _=>False) w' w2) v n) (fun ρ w' r=>give_c (Rel.old r (oldF w)) (hN2.rel r (oldF w)) (by omega)) ?_)
 rintro ρ w3 v3 w4 r he hb4 hc
 replace hw:=hw.tr hb4
 have hC:=hc.got (S:=fun _=>False) r.baseLe (iv:=(w3.heap.size,w4.heap.size)::iv) List.mem_cons_self
 clear r he hc hb4 hN hN2
 generalize (w3.heap.size,w4.heap.size)::iv=iv2 at*
 have hC2:=hC
 obtain⟨b5,a5,l5,c5,rfl⟩:=hC.r.shape
 conv=>whnf
 intro ρ5 w5 r5
 exact⟨_,rfl,hw.tr r5.bel,hC2.out r5 (oldF w)⟩

end Go.Ex

/- The integers that package exact exports: difference, product, comparison, division. Printed by program. No condition. -/
namespace Go.Ex
open Go Go.Sx Go.Proofs

theorem NumR.shape{S:Nat→Prop}{w:World}{v:Value}{z:Int}(h:NumR w S v z):∃b a n c,v= .agg #[.bool b,.slice a n c]:=by
 obtain⟨a,n,c,h1,_⟩:=h.num
 exact⟨_,a,n,c,h1⟩
theorem IntC.shape{S:Nat→Prop}{w:World}{v:Value}{z:Int}(h:IntC w S v z):∃b a n c,v= .agg #[.bool b,.slice a n c]:=h.r.shape
theorem ln_mul_abs(x y:Int):ln (x*y).natAbs≤ln x.natAbs+ln y.natAbs:=by
 rw[Int.natAbs_mul];exact ln_mul _ _

theorem pubDivide_c{S:Nat→Prop}{w:World}{v u:Value}{x y:Int}(hS:Old S w)(hx:IntR w S v x)(hy:IntR w S u y)(hlx:ln x.natAbs≤10000000000)(hly:ln y.natAbs≤10000000000):
  Con PG N.exact_Divide #[v,u] w (Ret w fun v' w2=>(y=0∧v'= .tuple #[.agg #[.bool false,.slice none 0 0],.agg #[.bool false,.slice none 0 0],.int .i64 9])∨
   (y≠0∧∃q r,v'= .tuple #[q,r,.int .i64 0]∧IntC w2 (Nw (fun _=>False) w w2) q (x / y)∧IntC w2 (Nw (fun _=>False) w w2) r (x % y))):=by
 have hlq:=ln_mono (show (x / y).natAbs≤x.natAbs from Int.natAbs_ediv_le_natAbs x y)
 have hw:Bel w.heap.size w w:=Bel.refl
 replace hx:=hx.weak (S':=Cv S w.heap.size []) fun _ h=>.inl h
 replace hy:=hy.weak (S':=Cv S w.heap.size []) fun _ h=>.inl h
 obtain⟨bx,ax,lx,cx,rfl⟩:=hx.shape
 obtain⟨b2,ay,ly,cy,rfl⟩:=hy.shape
 refine in_exact_Divide (by simp) ?_
 conv=>whnf
 refine callE_S (callE_con (Φ:=fun _ w' v w2=>NumR w2 (Nw (Cv S w.heap.size []) w' w2) v y) (fun ρ w' r=>ofR_c (Rel.old r hS) (hy.rel r hS)) ?_)
 rintro ρ wa1 v1 wb1 r he hb hn
 replace hw:=hw.tr hb
 replace hx:=hx.past (iv':=(wa1.heap.size,wb1.heap.size)::[]) r hS he fun x hx=>List.mem_cons_of_mem _ hx
 clear hy
 have hY:=hn.old r.baseLe
 clear r he hb hn
 generalize (wa1.heap.size,wb1.heap.size)::[]=iv1 at*
 obtain⟨s1_0,s1_1,s1_2,s1_3,rfl⟩:=hY.shape
 conv=>whnf
 refine callE_S (callE_con (Φ:=fun _ w' v w2=>v= .int .i64 y.sign) (fun ρ w' r=>sign_c (hY.rel r hS)) ?_)
 rintro ρ wa2 v2 wb2 r he hb rfl
 replace hw:=hw.tr hb
 replace hx:=hx.past (iv':=(wa2.heap.size,wb2.heap.size)::iv1) r hS he fun x hx=>List.mem_cons_of_mem _ hx
 replace hY:=hY.past (iv':=(wa2.heap.size,wb2.heap.size)::iv1) r hS he fun x hx=>List.mem_cons_of_mem _ hx
 clear r he hb
 generalize (wa2.heap.size,wb2.heap.size)::iv1=iv2 at*
 conv=>whnf
 refine BrS.mk (fun h=>?_) (fun h=>?_)
 ·have h:y=0:=Int.sign_eq_zero_iff_zero.1 (eq_of_beq h)
  conv=>whnf
  intro ρe we re
  exact⟨_,rfl,hw.tr re.bel,.inl ⟨h,rfl⟩⟩
 ·have h:y≠0:=fun e=>by rw[e]at h;exact absurd h (by decide)
  have hlr:=ln_mono (show (x % y).natAbs≤y.natAbs by have:=Int.emod_nonneg x h;have:=Int.emod_lt x h;omega)
  conv=>whnf
  refine drawn_of_pi hτ hmix [.x 0,.x 2,.p 7,.p 8,.x 1,.x 3,.x 4,.x 5,.x 6,.x 7,.x 8,.x 9,.x 10] (by kernel_rfl) (by kernel_rfl) ?_
  conv=>whnf
  refine callE_con (Φ:=fun _ w' v w2=>NumR w2 (Nw (Cv S w.heap.size iv2) w' w2) v x) (fun ρ w' r=>ofR_c (Rel.old r hS) (hx.rel r hS)) ?_
  rintro ρ wa3 v3 wb3 r he hb hn
  replace hw:=hw.tr hb
  clear hx
  replace hY:=hY.past (iv':=(wa3.heap.size,wb3.heap.size)::iv2) r hS he fun x hx=>List.mem_cons_of_mem _ hx
  have hX:=hn.old r.baseLe
  clear r he hb hn
  generalize (wa3.heap.size,wb3.heap.size)::iv2=iv3 at*
  obtain⟨s3_0,s3_1,s3_2,s3_3,rfl⟩:=hX.shape
  conv=>whnf
  refine callE_con (Φ:=fun _ w' v w2=>∃q r,v= .tuple #[q,r]∧NumR w2 (Nw (fun _=>False) w' w2) q (x / y)∧NumR w2 (Nw (Cv S w.heap.size iv3) w' w2) r (x % y)) (fun ρ w' r=>numDivide_c (Rel.old r hS) (hX.rel r hS) (hY.rel r hS) h (by omega) (by omega)) ?_
  rintro ρ wa4 v4 wb4 r he hb ⟨qv,rv,rfl,hq1,hr1⟩
  replace hw:=hw.tr hb
  clear hY
  clear hX
  have hQ:=hq1.got (S:=fun _=>False) r.baseLe (iv:=(wa4.heap.size,wb4.heap.size)::iv3) List.mem_cons_self
  have hR:=hr1.old r.baseLe
  clear r he hb
  generalize (wa4.heap.size,wb4.heap.size)::iv3=iv4 at*
  obtain⟨s4_0a,s4_0b,s4_0c,s4_0d,rfl⟩:=hQ.shape
  obtain⟨s4_1a,s4_1b,s4_1c,s4_1d,rfl⟩:=hR.shape
  conv=>whnf
  refine drawn_of_pi hτ hmix [.x 0,.x 2,.x 1,.x 3,.x 4,.x 5,.x 6] (by kernel_rfl) (by kernel_rfl) ?_
  conv=>whnf
  refine callE_con (Φ:=fun _ w' v w2=>IntC w2 (Nw (fun _=>False) w' w2) v (x / y)) (fun ρ w' r=>give_c (Rel.old r (oldF w)) (hQ.rel r (oldF w)) (by omega)) ?_
  rintro ρ wa5 v5 wb5 r he hb hn
  replace hw:=hw.tr hb
  clear hQ
  replace hR:=hR.past (iv':=(wa5.heap.size,wb5.heap.size)::iv4) r hS he fun x hx=>List.mem_cons_of_mem _ hx
  have hC:=hn.got (S:=fun _=>False) r.baseLe (iv:=(wa5.heap.size,wb5.heap.size)::iv4) List.mem_cons_self
  clear r he hb hn
  generalize (wa5.heap.size,wb5.heap.size)::iv4=iv5 at*
  obtain⟨s5_0,s5_1,s5_2,s5_3,rfl⟩:=hC.shape
  conv=>whnf
  refine callE_con (Φ:=fun _ w' v w2=>IntC w2 (Nw (fun _=>False) w' w2) v (x % y)) (fun ρ w' r=>give_c (Rel.old r hS) (hR.rel r hS) (by omega)) ?_
  rintro ρ wa6 v6 wb6 r he hb hn
  replace hw:=hw.tr hb
  clear hR
  replace hC:=hC.past (iv':=(wa6.heap.size,wb6.heap.size)::iv5) r (oldF w) he fun x hx=>List.mem_cons_of_mem _ hx
  have hD:=hn.got (S:=fun _=>False) r.baseLe (iv:=(wa6.heap.size,wb6.heap.size)::iv5) List.mem_cons_self
  clear r he hb hn
  generalize (wa6.heap.size,wb6.heap.size)::iv5=iv6 at*
  obtain⟨s6_0,s6_1,s6_2,s6_3,rfl⟩:=hD.shape
  conv=>whnf
  intro ρe we re
  exact⟨_,rfl,hw.tr re.bel,.inr ⟨h,_,_,rfl,hC.out re (oldF w),hD.out re (oldF w)⟩⟩

end Go.Ex

/- Fractions as Go keeps them: numerator and denominator in lowest terms. No condition. -/
namespace Go.Ex
open Go Go.Sx

theorem rat_over{x y:Int}(hy:0<y)(hx:x≠0):
  (Rat.divInt x y).num.natAbs=x.natAbs / Nat.gcd x.natAbs y.natAbs∧(Rat.divInt x y).den=y.natAbs / Nat.gcd x.natAbs y.natAbs∧decide ((Rat.divInt x y).num<0)=decide (x<0):=by
 have hg:0<Nat.gcd x.natAbs y.natAbs:=Nat.gcd_pos_of_pos_right _ (by omega)
 have hs:y.sign=1:=Int.sign_eq_one_of_pos hy
 have hc:(y.gcd x:Int)=(Nat.gcd x.natAbs y.natAbs:Nat):=by rw[Int.gcd_comm];rfl
 have hdx:((Nat.gcd x.natAbs y.natAbs:Nat):Int) ∣ x:=by
  rw[←Int.natAbs_dvd_natAbs];exact Nat.gcd_dvd_left _ _
 have h1:(Rat.divInt x y).num=x / ((Nat.gcd x.natAbs y.natAbs:Nat):Int):=by
  rw[Rat.num_divInt,hs,Int.one_mul,hc]
 have hgi:0<((Nat.gcd x.natAbs y.natAbs:Nat):Int):=by omega
 refine⟨?_,?_,?_⟩
 ·rw[h1,Int.natAbs_ediv_of_dvd hdx];rfl
 ·rw[Rat.den_divInt,if_neg (by omega)]
  have:y.gcd x=Nat.gcd x.natAbs y.natAbs:=by rw[Int.gcd_comm];rfl
  rw[this]
 ·rw[h1]
  obtain⟨k,hk⟩:=hdx
  refine decide_eq_decide.2 ?_
  have:x / ((Nat.gcd x.natAbs y.natAbs:Nat):Int)=k:=by
   conv=>lhs;lhs;rw[hk]
   exact Int.mul_ediv_cancel_left _ (by omega)
  rw[this]
  generalize ((Nat.gcd x.natAbs y.natAbs:Nat):Int)=g at*
  subst hk
  constructor
  ·intro h;exact Int.mul_neg_of_pos_of_neg hgi h
  ·intro h
   have h0:¬0≤k:=fun hh=>by have:=Int.mul_nonneg (show 0≤g by omega) hh;omega
   omega
theorem ln_div_le{a b:Nat}:ln (a / b)≤ln a:=ln_mono (Nat.div_le_self a b)
theorem rat_zero(y:Int):Rat.divInt 0 y=0:=Rat.zero_divInt y
end Go.Ex

/- Fractions of package exact: reading, over, value, give. Printed by program. No condition. -/
namespace Go.Ex
open Go Go.Sx Go.Proofs

theorem NatR.old{S:Nat→Prop}{B:Nat}{iv:Iv}{w' w2:World}{v:Value}{n:Nat}(h:NatR w2 (Nw (Cv S B iv) w' w2) v n)(hB:B≤w'.heap.size):NatR w2 (Cv S B ((w'.heap.size,w2.heap.size)::iv)) v n:=h.weak fun _ hg=>Nw.cv hg hB
/-- a fraction of package exact -/
def FracR(w:World)(S:Nat→Prop)(v:Value)(q:Rat):Prop:=∃nv dv,v= .agg #[.bool (decide (q.num<0)),nv,.bool false,dv]∧NatR w S nv q.num.natAbs∧NatR w S dv q.den
theorem FracR.keep{S:Nat→Prop}{w w2:World}{v:Value}{q:Rat}(h:FracR w S v q)(hk:∀g,S g→w2.heap[g]? =w.heap[g]?):FracR w2 S v q:=by
 obtain⟨n,d,h1,h2,h3⟩:=h;exact⟨n,d,h1,h2.keep hk,h3.keep hk⟩
theorem FracR.weak{S S':Nat→Prop}{w:World}{v:Value}{q:Rat}(h:FracR w S v q)(hk:∀g,S g→S' g):FracR w S' v q:=by
 obtain⟨n,d,h1,h2,h3⟩:=h;exact⟨n,d,h1,h2.weak hk,h3.weak hk⟩
theorem FracR.shape{S:Nat→Prop}{w:World}{v:Value}{q:Rat}(h:FracR w S v q):∃b a n c b2 a2 n2 c2,v= .agg #[.bool b,.slice a n c,.bool b2,.slice a2 n2 c2]:=by
 obtain⟨n,d,h1,h2,h3⟩:=h
 obtain⟨a,n,c,rfl⟩:=h2.shape
 obtain⟨a2,n2,c2,rfl⟩:=h3.shape
 exact⟨_,a,n,c,_,a2,n2,c2,h1⟩
/-- .. its parts -/
theorem FracR.num{S:Nat→Prop}{w:World}{b b2:Bool}{nv dv:Value}{q:Rat}(h:FracR w S (.agg #[.bool b,nv,.bool b2,dv]) q):NumR w S (.agg #[.bool b,nv]) q.num:=by
 obtain⟨n,d,h1,h2,h3⟩:=h
 simp at h1
 obtain⟨rfl,rfl,rfl,rfl⟩:=h1
 exact⟨_,rfl,h2⟩
theorem FracR.den{S:Nat→Prop}{w:World}{b b2:Bool}{nv dv:Value}{q:Rat}(h:FracR w S (.agg #[.bool b,nv,.bool b2,dv]) q):NumR w S (.agg #[.bool b2,dv]) (q.den:Int):=by
 obtain⟨n,d,h1,h2,h3⟩:=h
 simp at h1
 obtain⟨rfl,rfl,rfl,rfl⟩:=h1
 exact⟨_,by rw[decide_eq_false (by omega)],h3⟩
theorem FracR.of{S:Nat→Prop}{w:World}{b b2:Bool}{nv dv:Value}{q:Rat}(h:NumR w S (.agg #[.bool b,nv]) q.num)(k:NumR w S (.agg #[.bool b2,dv]) (q.den:Int)):FracR w S (.agg #[.bool b,nv,.bool b2,dv]) q:=by
 obtain⟨n,h1,h2⟩:=h
 obtain⟨d,h3,h4⟩:=k
 simp at h1 h3
 obtain⟨rfl,rfl⟩:=h1
 obtain⟨rfl,rfl⟩:=h3
 refine⟨_,_,?_,h2,h4⟩
 rw[decide_eq_false (show ¬((q.den:Int)<0) by omega)]
section
variable{S S':Nat→Prop}{H:Hp}{nx:Nat}{iv iv':Iv}{B:Nat}{w w' w2:World}{ρ:Nat→Sx.Val}{v:Value}{q:Rat}
theorem FracR.rel(h:FracR w (Cv S B iv) v q)(r:Rel H nx iv B w ρ w')(hS:∀g,S g→g<B):FracR w' (Cv S B iv) v q:=h.keep fun _ hg=>Rel.same r hS hg
theorem FracR.past(h:FracR w (Cv S B iv) v q)(r:Rel H nx iv B w ρ w')(hS:∀g,S g→g<B)(he:Ext w' w2)(hm:∀p,p∈iv→p∈iv'):FracR w2 (Cv S B iv') v q:=
 ((h.rel r hS).keep fun g hg=>he.block g (Rel.old r hS g hg)).weak fun _ hg=>hg.mono hm
theorem FracR.got(h:FracR w2 (Nw (fun _=>False) w' w2) v q)(hB:B≤w'.heap.size)(hm:(w'.heap.size,w2.heap.size)∈iv):FracR w2 (Cv S B iv) v q:=h.weak fun _ hg=>hg.got hB hm
theorem FracR.old(h:FracR w2 (Nw (Cv S B iv) w' w2) v q)(hB:B≤w'.heap.size):FracR w2 (Cv S B ((w'.heap.size,w2.heap.size)::iv)) v q:=h.weak fun _ hg=>Nw.cv hg hB
theorem FracR.out{w0 w1:World}(h:FracR w1 (Cv S w0.heap.size iv) v q)(r:Rel H nx iv w0.heap.size w1 ρ w')(hS:Old S w0):FracR w' (Nw S w0 w') v q:=
 (h.rel r hS).weak fun _ hg=>Cv.nw hg r
theorem FracR.arg(h:FracR w S v q)(iv:Iv):FracR w (Cv S w.heap.size iv) v q:=h.weak fun _ h=>.inl h
end

theorem NumR.nat{S:Nat→Prop}{w:World}{b:Bool}{nv:Value}{z:Int}(h:NumR w S (.agg #[.bool b,nv]) z):b=decide (z<0)∧NatR w S nv z.natAbs:=by
 obtain⟨n,h1,h2⟩:=h
 simp at h1
 obtain⟨rfl,rfl⟩:=h1
 exact⟨rfl,h2⟩

theorem over_c{S:Nat→Prop}{w:World}{v u:Value}{x y:Int}(hS:Old S w)(hx:NumR w S v x)(hy:NumR w S u y)(hy0:y≠0)(hlx:ln x.natAbs≤100000000000)(hly:ln y.natAbs≤100000000000):
  Con PG N.exact_over #[v,u] w (Ret w fun v' w2=>FracR w2 (Nw (fun _=>False) w w2) v' (Rat.divInt x y)):=by
 have hw:Bel w.heap.size w w:=Bel.refl
 replace hx:=hx.weak (S':=Cv S w.heap.size []) fun _ h=>.inl h
 replace hy:=hy.weak (S':=Cv S w.heap.size []) fun _ h=>.inl h
 obtain⟨bx,ax,lx,cx,rfl⟩:=hx.shape
 obtain⟨b2,ay,ly,cy,rfl⟩:=hy.shape
 have hb2:=hy.nat.1
 refine in_exact_over (by simp) ?_
 conv=>whnf
 cases b2
 ·have hyp:0<y:=by have:=of_decide_eq_false hb2.symm;omega
  have hq:Rat.divInt x y=Rat.divInt x y:=rfl
  conv=>whnf
  have hbA:=hx.nat.1
  refine callE_S (callE_con (Φ:=fun _ w' v w2=>v= .int .i64 (x).sign) (fun ρ w' r=>sign_c (hx.rel r hS)) ?_)
  rintro ρ wa1 v1 wb1 r he hb rfl
  replace hw:=hw.tr hb
  replace hx:=hx.past (iv':=(wa1.heap.size,wb1.heap.size)::[]) r hS he fun x hx=>List.mem_cons_of_mem _ hx
  replace hy:=hy.past (iv':=(wa1.heap.size,wb1.heap.size)::[]) r hS he fun x hx=>List.mem_cons_of_mem _ hx
  clear r he hb
  generalize (wa1.heap.size,wb1.heap.size)::[]=iv1 at*
  conv=>whnf
  refine BrS.mk (fun h=>?_) (fun h=>?_)
  ·have h:x=0:=Int.sign_eq_zero_iff_zero.1 (eq_of_beq h)
   conv=>whnf
   refine callE_S (callE_con (Φ:=fun _ w' v w2=>NumR w2 (Nw (fun _=>False) w' w2) v 1) (fun ρ w' r=>small_c 1 w' (by decide) (by decide)) ?_)
   rintro ρ wa2 v2 wb2 r he hb hn
   replace hw:=hw.tr hb
   clear hx
   clear hy
   have hO:=hn.got (S:=fun _=>False) r.baseLe (iv:=(wa2.heap.size,wb2.heap.size)::iv1) List.mem_cons_self
   clear r he hb hn
   generalize (wa2.heap.size,wb2.heap.size)::iv1=iv2 at*
   obtain⟨s2_0,s2_1,s2_2,s2_3,rfl⟩:=hO.shape
   conv=>whnf
   have e0:Rat.divInt x y=0:=by rw[hq,h,rat_zero]
   intro ρe we re
   exact⟨_,rfl,hw.tr re.bel,by rw[e0];exact FracR.of ⟨_,rfl,NatR.nil _ _⟩ (hO.out re (oldF w))⟩
  ·have h:x≠0:=fun e=>by rw[e]at h;exact absurd h (by decide)
   obtain⟨g1,g2,g3⟩:=rat_over hyp h
   have hg0:0<Nat.gcd (x).natAbs (y).natAbs:=Nat.gcd_pos_of_pos_right _ (by omega)
   have hAn:=hx.nat.2
   have hBn:=hy.nat.2
   conv=>whnf
   refine callE_S (callE_con (Φ:=fun _ w' v w2=>NatR w2 (Nw (Cv S w.heap.size iv1) w' w2) v (Nat.gcd (x).natAbs (y).natAbs)) (fun ρ w' r=>common_c (Rel.old r hS) (hAn.rel r hS) (hBn.rel r hS) (by omega) (by omega)) ?_)
   rintro ρ wa2 v2 wb2 r he hb hn
   replace hw:=hw.tr hb
   clear hx
   clear hy
   replace hAn:=hAn.past (iv':=(wa2.heap.size,wb2.heap.size)::iv1) r hS he fun x hx=>List.mem_cons_of_mem _ hx
   replace hBn:=hBn.past (iv':=(wa2.heap.size,wb2.heap.size)::iv1) r hS he fun x hx=>List.mem_cons_of_mem _ hx
   have hG:=hn.old r.baseLe
   clear r he hb hn
   generalize (wa2.heap.size,wb2.heap.size)::iv1=iv2 at*
   obtain⟨s2_0,s2_1,s2_2,rfl⟩:=hG.shape
   conv=>whnf
   refine callE_S (callE_con (Φ:=fun _ w' v w2=>∃q r,v= .tuple #[q,r]∧NatR w2 (Nw (fun _=>False) w' w2) q ((x).natAbs / Nat.gcd (x).natAbs (y).natAbs)∧NatR w2 (Nw (Cv S w.heap.size iv2) w' w2) r ((x).natAbs % Nat.gcd (x).natAbs (y).natAbs)) (fun ρ w' r=>divide_c (Rel.old r hS) (hAn.rel r hS) (hG.rel r hS) hg0 (by omega)) ?_)
   rintro ρ wa3 v3 wb3 r he hb ⟨qvp,rvp,rfl,hq1,hr1⟩
   replace hw:=hw.tr hb
   clear hAn
   replace hBn:=hBn.past (iv':=(wa3.heap.size,wb3.heap.size)::iv2) r hS he fun x hx=>List.mem_cons_of_mem _ hx
   replace hG:=hG.past (iv':=(wa3.heap.size,wb3.heap.size)::iv2) r hS he fun x hx=>List.mem_cons_of_mem _ hx
   have hP:=hq1.got (S:=fun _=>False) r.baseLe (iv:=(wa3.heap.size,wb3.heap.size)::iv2) List.mem_cons_self
   have hPr:=hr1.old r.baseLe
   clear r he hb
   generalize (wa3.heap.size,wb3.heap.size)::iv2=iv3 at*
   obtain⟨s3_0a,s3_0b,s3_0c,rfl⟩:=hP.shape
   obtain⟨s3_1a,s3_1b,s3_1c,rfl⟩:=hPr.shape
   conv=>whnf
   clear hPr
   refine callE_S (callE_con (Φ:=fun _ w' v w2=>∃q r,v= .tuple #[q,r]∧NatR w2 (Nw (fun _=>False) w' w2) q ((y).natAbs / Nat.gcd (x).natAbs (y).natAbs)∧NatR w2 (Nw (Cv S w.heap.size iv3) w' w2) r ((y).natAbs % Nat.gcd (x).natAbs (y).natAbs)) (fun ρ w' r=>divide_c (Rel.old r hS) (hBn.rel r hS) (hG.rel r hS) hg0 (by omega)) ?_)
   rintro ρ wa4 v4 wb4 r he hb ⟨qvq,rvq,rfl,hq1,hr1⟩
   replace hw:=hw.tr hb
   clear hBn
   clear hG
   replace hP:=hP.past (iv':=(wa4.heap.size,wb4.heap.size)::iv3) r (oldF w) he fun x hx=>List.mem_cons_of_mem _ hx
   have hQ:=hq1.got (S:=fun _=>False) r.baseLe (iv:=(wa4.heap.size,wb4.heap.size)::iv3) List.mem_cons_self
   have hQr:=hr1.old r.baseLe
   clear r he hb
   generalize (wa4.heap.size,wb4.heap.size)::iv3=iv4 at*
   obtain⟨s4_0a,s4_0b,s4_0c,rfl⟩:=hQ.shape
   obtain⟨s4_1a,s4_1b,s4_1c,rfl⟩:=hQr.shape
   conv=>whnf
   intro ρe we re
   exact⟨_,rfl,hw.tr re.bel,by rw[hq];exact FracR.of ⟨_,by rw[g3,←hbA],by rw[g1];exact hP.out re (oldF w)⟩ ⟨_,by rw[decide_eq_false (by omega)],by rw[g2];exact hQ.out re (oldF w)⟩⟩
 ·have hyp:0< -y:=by have:=of_decide_eq_true hb2.symm;omega
  have hq:Rat.divInt x y=Rat.divInt (-x) (-y):=(Rat.neg_divInt_neg _ _).symm
  have nx:=Int.natAbs_neg x
  have ny:=Int.natAbs_neg y
  have hlx2:ln (-x).natAbs≤100000000000:=by rw[nx];exact hlx
  have hly2:ln (-y).natAbs≤100000000000:=by rw[ny];exact hly
  conv=>whnf
  refine drawn_of_pi hτ hmix [.x 0,.x 2,.x 1,.x 3,.x 4,.x 5] (by kernel_rfl) (by kernel_rfl) ?_
  conv=>whnf
  refine callE_con (Φ:=fun _ w' v w2=>NumR w2 (Nw (Cv S w.heap.size []) w' w2) v (-x)) (fun ρ w' r=>numMinus_c (Rel.old r hS) (hx.rel r hS)) ?_
  rintro ρ wa1 v1 wb1 r he hb hn
  replace hw:=hw.tr hb
  clear hx
  replace hy:=hy.past (iv':=(wa1.heap.size,wb1.heap.size)::[]) r hS he fun x hx=>List.mem_cons_of_mem _ hx
  have hA:=hn.old r.baseLe
  clear r he hb hn
  generalize (wa1.heap.size,wb1.heap.size)::[]=iv1 at*
  obtain⟨s1_0,s1_1,s1_2,s1_3,rfl⟩:=hA.shape
  conv=>whnf
  refine callE_con (Φ:=fun _ w' v w2=>NumR w2 (Nw (Cv S w.heap.size iv1) w' w2) v (-y)) (fun ρ w' r=>numMinus_c (Rel.old r hS) (hy.rel r hS)) ?_
  rintro ρ wa2 v2 wb2 r he hb hn
  replace hw:=hw.tr hb
  clear hy
  replace hA:=hA.past (iv':=(wa2.heap.size,wb2.heap.size)::iv1) r hS he fun x hx=>List.mem_cons_of_mem _ hx
  have hB:=hn.old r.baseLe
  clear r he hb hn
  generalize (wa2.heap.size,wb2.heap.size)::iv1=iv2 at*
  obtain⟨s2_0,s2_1,s2_2,s2_3,rfl⟩:=hB.shape
  conv=>whnf
  have hbA:=hA.nat.1
  refine callE_S (callE_con (Φ:=fun _ w' v w2=>v= .int .i64 (-x).sign) (fun ρ w' r=>sign_c (hA.rel r hS)) ?_)
  rintro ρ wa3 v3 wb3 r he hb rfl
  replace hw:=hw.tr hb
  replace hA:=hA.past (iv':=(wa3.heap.size,wb3.heap.size)::iv2) r hS he fun x hx=>List.mem_cons_of_mem _ hx
  replace hB:=hB.past (iv':=(wa3.heap.size,wb3.heap.size)::iv2) r hS he fun x hx=>List.mem_cons_of_mem _ hx
  clear r he hb
  generalize (wa3.heap.size,wb3.heap.size)::iv2=iv3 at*
  conv=>whnf
  refine BrS.mk (fun h=>?_) (fun h=>?_)
  ·have h: -x=0:=Int.sign_eq_zero_iff_zero.1 (eq_of_beq h)
   conv=>whnf
   refine callE_S (callE_con (Φ:=fun _ w' v w2=>NumR w2 (Nw (fun _=>False) w' w2) v 1) (fun ρ w' r=>small_c 1 w' (by decide) (by decide)) ?_)
   rintro ρ wa4 v4 wb4 r he hb hn
   replace hw:=hw.tr hb
   clear hA
   clear hB
   have hO:=hn.got (S:=fun _=>False) r.baseLe (iv:=(wa4.heap.size,wb4.heap.size)::iv3) List.mem_cons_self
   clear r he hb hn
   generalize (wa4.heap.size,wb4.heap.size)::iv3=iv4 at*
   obtain⟨s4_0,s4_1,s4_2,s4_3,rfl⟩:=hO.shape
   conv=>whnf
   have e0:Rat.divInt x y=0:=by rw[hq,h,rat_zero]
   intro ρe we re
   exact⟨_,rfl,hw.tr re.bel,by rw[e0];exact FracR.of ⟨_,rfl,NatR.nil _ _⟩ (hO.out re (oldF w))⟩
  ·have h: -x≠0:=fun e=>by rw[e]at h;exact absurd h (by decide)
   obtain⟨g1,g2,g3⟩:=rat_over hyp h
   have hg0:0<Nat.gcd (-x).natAbs (-y).natAbs:=Nat.gcd_pos_of_pos_right _ (by omega)
   have hAn:=hA.nat.2
   have hBn:=hB.nat.2
   conv=>whnf
   refine callE_S (callE_con (Φ:=fun _ w' v w2=>NatR w2 (Nw (Cv S w.heap.size iv3) w' w2) v (Nat.gcd (-x).natAbs (-y).natAbs)) (fun ρ w' r=>common_c (Rel.old r hS) (hAn.rel r hS) (hBn.rel r hS) (by omega) (by omega)) ?_)
   rintro ρ wa4 v4 wb4 r he hb hn
   replace hw:=hw.tr hb
   clear hA
   clear hB
   replace hAn:=hAn.past (iv':=(wa4.heap.size,wb4.heap.size)::iv3) r hS he fun x hx=>List.mem_cons_of_mem _ hx
   replace hBn:=hBn.past (iv':=(wa4.heap.size,wb4.heap.size)::iv3) r hS he fun x hx=>List.mem_cons_of_mem _ hx
   have hG:=hn.old r.baseLe
   clear r he hb hn
   generalize (wa4.heap.size,wb4.heap.size)::iv3=iv4 at*
   obtain⟨s4_0,s4_1,s4_2,rfl⟩:=hG.shape
   conv=>whnf
   refine callE_S (callE_con (Φ:=fun _ w' v w2=>∃q r,v= .tuple #[q,r]∧NatR w2 (Nw (fun _=>False) w' w2) q ((-x).natAbs / Nat.gcd (-x).natAbs (-y).natAbs)∧NatR w2 (Nw (Cv S w.heap.size iv4) w' w2) r ((-x).natAbs % Nat.gcd (-x).natAbs (-y).natAbs)) (fun ρ w' r=>divide_c (Rel.old r hS) (hAn.rel r hS) (hG.rel r hS) hg0 (by omega)) ?_)
   rintro ρ wa5 v5 wb5 r he hb ⟨qvp,rvp,rfl,hq1,hr1⟩
   replace hw:=hw.tr hb
   clear hAn
   replace hBn:=hBn.past (iv':=(wa5.heap.size,wb5.heap.size)::iv4) r hS he fun x hx=>List.mem_cons_of_mem _ hx
   replace hG:=hG.past (iv':=(wa5.heap.size,wb5.heap.size)::iv4) r hS he fun x hx=>List.mem_cons_of_mem _ hx
   have hP:=hq1.got (S:=fun _=>False) r.baseLe (iv:=(wa5.heap.size,wb5.heap.size)::iv4) List.mem_cons_self
   have hPr:=hr1.old r.baseLe
   clear r he hb
   generalize (wa5.heap.size,wb5.heap.size)::iv4=iv5 at*
   obtain⟨s5_0a,s5_0b,s5_0c,rfl⟩:=hP.shape
   obtain⟨s5_1a,s5_1b,s5_1c,rfl⟩:=hPr.shape
   conv=>whnf
   clear hPr
   refine callE_S (callE_con (Φ:=fun _ w' v w2=>∃q r,v= .tuple #[q,r]∧NatR w2 (Nw (fun _=>False) w' w2) q ((-y).natAbs / Nat.gcd (-x).natAbs (-y).natAbs)∧NatR w2 (Nw (Cv S w.heap.size iv5) w' w2) r ((-y).natAbs % Nat.gcd (-x).natAbs (-y).natAbs)) (fun ρ w' r=>divide_c (Rel.old r hS) (hBn.rel r hS) (hG.rel r hS) hg0 (by omega)) ?_)
   rintro ρ wa6 v6 wb6 r he hb ⟨qvq,rvq,rfl,hq1,hr1⟩
   replace hw:=hw.tr hb
   clear hBn
   clear hG
   replace hP:=hP.past (iv':=(wa6.heap.size,wb6.heap.size)::iv5) r (oldF w) he fun x hx=>List.mem_cons_of_mem _ hx
   have hQ:=hq1.got (S:=fun _=>False) r.baseLe (iv:=(wa6.heap.size,wb6.heap.size)::iv5) List.mem_cons_self
   have hQr:=hr1.old r.baseLe
   clear r he hb
   generalize (wa6.heap.size,wb6.heap.size)::iv5=iv6 at*
   obtain⟨s6_0a,s6_0b,s6_0c,rfl⟩:=hQ.shape
   obtain⟨s6_1a,s6_1b,s6_1c,rfl⟩:=hQr.shape
   conv=>whnf
   intro ρe we re
   exact⟨_,rfl,hw.tr re.bel,by rw[hq];exact FracR.of ⟨_,by rw[g3,←hbA],by rw[g1];exact hP.out re (oldF w)⟩ ⟨_,by rw[decide_eq_false (by omega)],by rw[g2];exact hQ.out re (oldF w)⟩⟩

end Go.Ex

/- Sizes and signs of fractions. No condition. -/
namespace Go.Ex
open Go Go.Sx

/-- limbs of the longer part -/
def rl(q:Rat):Nat:=max (ln q.num.natAbs) (ln q.den)
theorem rl_num(q:Rat):ln q.num.natAbs≤rl q:=Nat.le_max_left _ _
theorem rl_den'(q:Rat):ln ((q.den:Int)).natAbs≤rl q:=Nat.le_max_right _ _
theorem rl_divInt{a b:Int}(hb:b≠0):rl (Rat.divInt a b)≤max (ln a.natAbs) (ln b.natAbs):=by
 have h1:ln (Rat.divInt a b).num.natAbs≤ln a.natAbs:=by
  rw[Rat.num_divInt]
  refine ln_mono (Nat.le_trans (Int.natAbs_ediv_le_natAbs _ _) ?_)
  rw[Int.natAbs_mul,Int.natAbs_sign_of_ne_zero hb,Nat.one_mul]
  exact Nat.le_refl _
 have h2:ln (Rat.divInt a b).den≤ln b.natAbs:=by
  rw[Rat.den_divInt,if_neg hb]
  exact ln_div_le
 unfold rl
 omega
theorem ln_add_int(x y:Int):ln (x+y).natAbs≤max (ln x.natAbs) (ln y.natAbs)+1:=by
 have h1:=ln_add x.natAbs y.natAbs
 have h2:=ln_mono (show (x+y).natAbs≤x.natAbs+y.natAbs by omega)
 omega
theorem den_ne(q:Rat):(q.den:Int)≠0:=by have:=q.den_pos;omega
theorem rat_add(f g:Rat):f+g=Rat.divInt (f.num*g.den+g.num*f.den) (f.den*g.den):=by
 rw[←Rat.divInt_add_divInt _ _ (den_ne f) (den_ne g),Rat.num_divInt_den,Rat.num_divInt_den]
theorem rat_mul(f g:Rat):f*g=Rat.divInt (f.num*g.num) (f.den*g.den):=by
 rw[←Rat.divInt_mul_divInt,Rat.num_divInt_den,Rat.num_divInt_den]
theorem rat_div(f g:Rat):f / g=Rat.divInt (f.num*g.den) (f.den*g.num):=by
 rw[←Rat.divInt_mul_divInt,Rat.num_divInt_den,←Rat.inv_def,←Rat.div_def]
theorem mul_ne{a b:Int}(ha:a≠0)(hb:b≠0):a*b≠0:=Int.mul_ne_zero ha hb
theorem rl_add(f g:Rat):rl (f+g)≤rl f+rl g+1:=by
 have h:=rl_divInt (a:=f.num*g.den+g.num*f.den) (mul_ne (den_ne f) (den_ne g))
 rw[←rat_add]at h
 have h1:=ln_add_int (f.num*g.den) (g.num*f.den)
 have h2:=ln_mul_abs f.num g.den
 have h3:=ln_mul_abs g.num f.den
 have h4:=ln_mul_abs f.den g.den
 have:=rl_num f;have:=rl_num g;have:=rl_den' f;have:=rl_den' g
 omega
theorem rl_mul(f g:Rat):rl (f*g)≤rl f+rl g:=by
 have h:=rl_divInt (a:=f.num*g.num) (mul_ne (den_ne f) (den_ne g))
 rw[←rat_mul]at h
 have h2:=ln_mul_abs f.num g.num
 have h4:=ln_mul_abs f.den g.den
 have:=rl_num f;have:=rl_num g;have:=rl_den' f;have:=rl_den' g
 omega
theorem rl_div(f:Rat){g:Rat}(hg:g≠0):rl (f / g)≤rl f+rl g:=by
 have h:=rl_divInt (a:=f.num*g.den) (mul_ne (den_ne f) (fun e=>hg (Rat.num_eq_zero.1 e)))
 rw[←rat_div]at h
 have h2:=ln_mul_abs f.num g.den
 have h4:=ln_mul_abs f.den g.num
 have:=rl_num f;have:=rl_num g;have:=rl_den' f;have:=rl_den' g
 omega
theorem rl_neg(f:Rat):rl (-f)=rl f:=by unfold rl;rw[Rat.neg_num,Rat.neg_den,Int.natAbs_neg]
/-- the sign of a fraction -/
def rs(q:Rat):Int:=q.num.sign
/-- what a fraction stands for, as it is written: a / b, and a when b is 0 -/
def ratio(a b:Int):Rat:=if b=0 then Rat.divInt a 1 else Rat.divInt a b
theorem rl_ratio(a b:Int):rl (ratio a b)≤max (ln a.natAbs) (max 1 (ln b.natAbs)):=by
 unfold ratio
 split
 ·have:=rl_divInt (a:=a) (b:=1) (by decide)
  have h1:ln (1:Int).natAbs=1:=by decide
  rw[h1]at this
  omega
 ·rename_i h
  have:=rl_divInt (a:=a) h
  omega
end Go.Ex

/- Fractions of package exact: arithmetic. Printed by program. No condition. -/
namespace Go.Ex
open Go Go.Sx Go.Proofs

/-- a fraction of the api: numerator and denominator, as they stand -/
def RatR(w:World)(S:Nat→Prop)(v:Value)(a b:Int):Prop:=∃b1 l1 b2 l2,v= .agg #[.bool b1,l1,.bool b2,l2]∧IntR w S (.agg #[.bool b1,l1]) a∧IntR w S (.agg #[.bool b2,l2]) b
theorem RatR.keep{S:Nat→Prop}{w w2:World}{v:Value}{a b:Int}(h:RatR w S v a b)(hk:∀g,S g→w2.heap[g]? =w.heap[g]?):RatR w2 S v a b:=by
 obtain⟨b1,l1,b2,l2,h1,h2,h3⟩:=h;exact⟨b1,l1,b2,l2,h1,h2.keep hk,h3.keep hk⟩
theorem RatR.weak{S S':Nat→Prop}{w:World}{v:Value}{a b:Int}(h:RatR w S v a b)(hk:∀g,S g→S' g):RatR w S' v a b:=by
 obtain⟨b1,l1,b2,l2,h1,h2,h3⟩:=h;exact⟨b1,l1,b2,l2,h1,h2.weak hk,h3.weak hk⟩
theorem RatR.shape{S:Nat→Prop}{w:World}{v:Value}{x y:Int}(h:RatR w S v x y):∃b a n c b2 a2 n2 c2,v= .agg #[.bool b,.slice a n c,.bool b2,.slice a2 n2 c2]:=by
 obtain⟨b1,l1,b2,l2,h1,h2,h3⟩:=h
 obtain⟨_,a,n,c,h4⟩:=h2.shape
 obtain⟨_,a2,n2,c2,h5⟩:=h3.shape
 simp at h4 h5
 obtain⟨rfl,rfl⟩:=h4
 obtain⟨rfl,rfl⟩:=h5
 exact⟨_,a,n,c,_,a2,n2,c2,h1⟩
theorem RatR.num{S:Nat→Prop}{w:World}{b b2:Bool}{nv dv:Value}{x y:Int}(h:RatR w S (.agg #[.bool b,nv,.bool b2,dv]) x y):IntR w S (.agg #[.bool b,nv]) x:=by
 obtain⟨b1,l1,b2,l2,h1,h2,h3⟩:=h
 simp at h1
 obtain⟨rfl,rfl,rfl,rfl⟩:=h1
 exact h2
theorem RatR.den{S:Nat→Prop}{w:World}{b b2:Bool}{nv dv:Value}{x y:Int}(h:RatR w S (.agg #[.bool b,nv,.bool b2,dv]) x y):IntR w S (.agg #[.bool b2,dv]) y:=by
 obtain⟨b1,l1,b2,l2,h1,h2,h3⟩:=h
 simp at h1
 obtain⟨rfl,rfl,rfl,rfl⟩:=h1
 exact h3
section
variable{S S':Nat→Prop}{H:Hp}{nx:Nat}{iv iv':Iv}{B:Nat}{w w' w2:World}{ρ:Nat→Sx.Val}{v:Value}{x y:Int}
theorem RatR.rel(h:RatR w (Cv S B iv) v x y)(r:Rel H nx iv B w ρ w')(hS:∀g,S g→g<B):RatR w' (Cv S B iv) v x y:=h.keep fun _ hg=>Rel.same r hS hg
theorem RatR.past(h:RatR w (Cv S B iv) v x y)(r:Rel H nx iv B w ρ w')(hS:∀g,S g→g<B)(he:Ext w' w2)(hm:∀p,p∈iv→p∈iv'):RatR w2 (Cv S B iv') v x y:=
 ((h.rel r hS).keep fun g hg=>he.block g (Rel.old r hS g hg)).weak fun _ hg=>hg.mono hm
end

/-- .. in normal form -/
def RatC(w:World)(S:Nat→Prop)(v:Value)(q:Rat):Prop:=∃b1 l1 b2 l2,v= .agg #[.bool b1,l1,.bool b2,l2]∧IntC w S (.agg #[.bool b1,l1]) q.num∧IntC w S (.agg #[.bool b2,l2]) q.den
theorem RatC.keep{S:Nat→Prop}{w w2:World}{v:Value}{q:Rat}(h:RatC w S v q)(hk:∀g,S g→w2.heap[g]? =w.heap[g]?):RatC w2 S v q:=by
 obtain⟨b1,l1,b2,l2,h1,h2,h3⟩:=h;exact⟨b1,l1,b2,l2,h1,h2.keep hk,h3.keep hk⟩
theorem RatC.weak{S S':Nat→Prop}{w:World}{v:Value}{q:Rat}(h:RatC w S v q)(hk:∀g,S g→S' g):RatC w S' v q:=by
 obtain⟨b1,l1,b2,l2,h1,h2,h3⟩:=h;exact⟨b1,l1,b2,l2,h1,h2.weak hk,h3.weak hk⟩
theorem RatC.r{S:Nat→Prop}{w:World}{v:Value}{q:Rat}(h:RatC w S v q):RatR w S v q.num q.den:=by
 obtain⟨b1,l1,b2,l2,h1,h2,h3⟩:=h;exact⟨b1,l1,b2,l2,h1,h2.r,h3.r⟩
theorem RatC.shape{S:Nat→Prop}{w:World}{v:Value}{q:Rat}(h:RatC w S v q):∃b a n c b2 a2 n2 c2,v= .agg #[.bool b,.slice a n c,.bool b2,.slice a2 n2 c2]:=h.r.shape
theorem RatC.num{S:Nat→Prop}{w:World}{b b2:Bool}{nv dv:Value}{q:Rat}(h:RatC w S (.agg #[.bool b,nv,.bool b2,dv]) q):IntC w S (.agg #[.bool b,nv]) q.num:=by
 obtain⟨b1,l1,b2,l2,h1,h2,h3⟩:=h
 simp at h1
 obtain⟨rfl,rfl,rfl,rfl⟩:=h1
 exact h2
theorem RatC.den{S:Nat→Prop}{w:World}{b b2:Bool}{nv dv:Value}{q:Rat}(h:RatC w S (.agg #[.bool b,nv,.bool b2,dv]) q):IntC w S (.agg #[.bool b2,dv]) q.den:=by
 obtain⟨b1,l1,b2,l2,h1,h2,h3⟩:=h
 simp at h1
 obtain⟨rfl,rfl,rfl,rfl⟩:=h1
 exact h3
theorem RatC.of{S:Nat→Prop}{w:World}{b b2:Bool}{nv dv:Value}{q:Rat}(h:IntC w S (.agg #[.bool b,nv]) q.num)(k:IntC w S (.agg #[.bool b2,dv]) q.den):RatC w S (.agg #[.bool b,nv,.bool b2,dv]) q:=⟨_,_,_,_,rfl,h,k⟩
section
variable{S S':Nat→Prop}{H:Hp}{nx:Nat}{iv iv':Iv}{B:Nat}{w w' w2:World}{ρ:Nat→Sx.Val}{v:Value}{q:Rat}
theorem RatC.rel(h:RatC w (Cv S B iv) v q)(r:Rel H nx iv B w ρ w')(hS:∀g,S g→g<B):RatC w' (Cv S B iv) v q:=h.keep fun _ hg=>Rel.same r hS hg
theorem RatC.past(h:RatC w (Cv S B iv) v q)(r:Rel H nx iv B w ρ w')(hS:∀g,S g→g<B)(he:Ext w' w2)(hm:∀p,p∈iv→p∈iv'):RatC w2 (Cv S B iv') v q:=
 ((h.rel r hS).keep fun g hg=>he.block g (Rel.old r hS g hg)).weak fun _ hg=>hg.mono hm
theorem RatC.got(h:RatC w2 (Nw (fun _=>False) w' w2) v q)(hB:B≤w'.heap.size)(hm:(w'.heap.size,w2.heap.size)∈iv):RatC w2 (Cv S B iv) v q:=h.weak fun _ hg=>hg.got hB hm
theorem RatC.out{w0 w1:World}(h:RatC w1 (Cv S w0.heap.size iv) v q)(r:Rel H nx iv w0.heap.size w1 ρ w')(hS:Old S w0):RatC w' (Nw S w0 w') v q:=
 (h.rel r hS).weak fun _ hg=>Cv.nw hg r
end

theorem fsign_c{S:Nat→Prop}{w:World}{v:Value}{f:Rat}(hS:Old S w)(hf:FracR w S v f):
  Con PG N.exact_fraction_sign #[v] w (Ret w fun v' _w2=>v'= .int .i64 (rs f)):=by
 have hw:Bel w.heap.size w w:=Bel.refl
 replace hf:=hf.weak (S':=Cv S w.heap.size []) fun _ h=>.inl h
 obtain⟨b1,a1,n1,c1,b2,a2,n2,c2,rfl⟩:=hf.shape
 have hfn:=hf.num
 have hfd:=hf.den
 clear hf
 refine in_exact_fraction_sign (by simp) ?_
 conv=>whnf
 refine callE_S (callE_con (Φ:=fun _ w' v w2=>v= .int .i64 (rs f)) (fun ρ w' r=>sign_c (hfn.rel r hS)) ?_)
 rintro ρ wa1 v1 wb1 r he hb rfl
 replace hw:=hw.tr hb
 clear hfn
 clear hfd
 clear r he hb
 generalize (wa1.heap.size,wb1.heap.size)::[]=iv1 at*
 conv=>whnf
 intro ρe we re
 exact⟨_,rfl,hw.tr re.bel,rfl⟩

theorem fminus_c{S:Nat→Prop}{w:World}{v:Value}{f:Rat}(hS:Old S w)(hf:FracR w S v f):
  Con PG N.exact_fraction_minus #[v] w (Ret w fun v' w2=>FracR w2 (Nw S w w2) v' (-f)):=by
 have hw:Bel w.heap.size w w:=Bel.refl
 replace hf:=hf.weak (S':=Cv S w.heap.size []) fun _ h=>.inl h
 obtain⟨b1,a1,n1,c1,b2,a2,n2,c2,rfl⟩:=hf.shape
 have hfn:=hf.num
 have hfd:=hf.den
 clear hf
 refine in_exact_fraction_minus (by simp) ?_
 conv=>whnf
 refine drawn_of_pi hτ hmix [.x 0,.x 1,.x 3,.x 4,.x 2,.x 5,.x 6] (by kernel_rfl) (by kernel_rfl) ?_
 conv=>whnf
 refine callE_con (Φ:=fun _ w' v w2=>NumR w2 (Nw (Cv S w.heap.size []) w' w2) v (-f.num)) (fun ρ w' r=>numMinus_c (Rel.old r hS) (hfn.rel r hS)) ?_
 rintro ρ wa1 v1 wb1 r he hb hn
 replace hw:=hw.tr hb
 clear hfn
 replace hfd:=hfd.past (iv':=(wa1.heap.size,wb1.heap.size)::[]) r hS he fun x hx=>List.mem_cons_of_mem _ hx
 have hM:=hn.old r.baseLe
 clear r he hb hn
 generalize (wa1.heap.size,wb1.heap.size)::[]=iv1 at*
 obtain⟨s1_0,s1_1,s1_2,s1_3,rfl⟩:=hM.shape
 conv=>whnf
 intro ρe we re
 exact⟨_,rfl,hw.tr re.bel,FracR.of (by rw[Rat.neg_num];exact hM.out re hS) (by rw[Rat.neg_den];exact hfd.out re hS)⟩

theorem ftimes_c{S:Nat→Prop}{w:World}{v u:Value}{f g:Rat}(hS:Old S w)(hf:FracR w S v f)(hg:FracR w S u g)(hlf:rl f≤10000000000)(hlg:rl g≤10000000000):
  Con PG N.exact_fraction_times #[v,u] w (Ret w fun v' w2=>FracR w2 (Nw (fun _=>False) w w2) v' (f*g)):=by
 have hw:Bel w.heap.size w w:=Bel.refl
 have l1:=rl_num f
 have l2:=rl_den' f
 have l3:=rl_num g
 have l4:=rl_den' g
 have m0:=ln_mul_abs f.num g.num
 have m1:=ln_mul_abs f.den g.den
 replace hf:=hf.weak (S':=Cv S w.heap.size []) fun _ h=>.inl h
 replace hg:=hg.weak (S':=Cv S w.heap.size []) fun _ h=>.inl h
 obtain⟨b1,a1,n1,c1,b2,a2,n2,c2,rfl⟩:=hf.shape
 obtain⟨b3,a3,n3,c3,b4,a4,n4,c4,rfl⟩:=hg.shape
 have hfn:=hf.num
 have hfd:=hf.den
 clear hf
 have hgn:=hg.num
 have hgd:=hg.den
 clear hg
 refine in_exact_fraction_times (by simp) ?_
 conv=>whnf
 refine drawn_of_pi hτ hmix [.x 0,.x 1,.x 2,.x 3,.x 5,.x 6,.x 7,.x 8,.x 4,.x 9,.x 10,.x 11] (by kernel_rfl) (by kernel_rfl) ?_
 conv=>whnf
 refine callE_con (Φ:=fun _ w' v w2=>NumR w2 (Nw (fun _=>False) w' w2) v (f.num*g.num)) (fun ρ w' r=>numTimes_c (Rel.old r hS) (hfn.rel r hS) (hgn.rel r hS) (by omega) (by omega)) ?_
 rintro ρ wa1 v1 wb1 r he hb hn
 replace hw:=hw.tr hb
 clear hfn
 replace hfd:=hfd.past (iv':=(wa1.heap.size,wb1.heap.size)::[]) r hS he fun x hx=>List.mem_cons_of_mem _ hx
 clear hgn
 replace hgd:=hgd.past (iv':=(wa1.heap.size,wb1.heap.size)::[]) r hS he fun x hx=>List.mem_cons_of_mem _ hx
 have hA:=hn.got (S:=fun _=>False) r.baseLe (iv:=(wa1.heap.size,wb1.heap.size)::[]) List.mem_cons_self
 clear r he hb hn
 generalize (wa1.heap.size,wb1.heap.size)::[]=iv1 at*
 obtain⟨s1_0,s1_1,s1_2,s1_3,rfl⟩:=hA.shape
 conv=>whnf
 refine callE_con (Φ:=fun _ w' v w2=>NumR w2 (Nw (fun _=>False) w' w2) v ((f.den:Int)*(g.den:Int))) (fun ρ w' r=>numTimes_c (Rel.old r hS) (hfd.rel r hS) (hgd.rel r hS) (by omega) (by omega)) ?_
 rintro ρ wa2 v2 wb2 r he hb hn
 replace hw:=hw.tr hb
 clear hfd
 clear hgd
 replace hA:=hA.past (iv':=(wa2.heap.size,wb2.heap.size)::iv1) r (oldF w) he fun x hx=>List.mem_cons_of_mem _ hx
 have hB:=hn.got (S:=fun _=>False) r.baseLe (iv:=(wa2.heap.size,wb2.heap.size)::iv1) List.mem_cons_self
 clear r he hb hn
 generalize (wa2.heap.size,wb2.heap.size)::iv1=iv2 at*
 obtain⟨s2_0,s2_1,s2_2,s2_3,rfl⟩:=hB.shape
 conv=>whnf
 refine callE_con (Φ:=fun _ w' v w2=>FracR w2 (Nw (fun _=>False) w' w2) v (f*g)) (fun ρ w' r=>(rat_mul f g)▸over_c (Rel.old r (oldF w)) (hA.rel r (oldF w)) (hB.rel r (oldF w)) (mul_ne (den_ne f) (den_ne g)) (by omega) (by omega)) ?_
 rintro ρ wa3 v3 wb3 r he hb hn
 replace hw:=hw.tr hb
 clear hA
 clear hB
 have hC:=hn.got (S:=fun _=>False) r.baseLe (iv:=(wa3.heap.size,wb3.heap.size)::iv2) List.mem_cons_self
 clear r he hb hn
 generalize (wa3.heap.size,wb3.heap.size)::iv2=iv3 at*
 obtain⟨s3_0,s3_1,s3_2,s3_3,s3_4,s3_5,s3_6,s3_7,rfl⟩:=hC.shape
 conv=>whnf
 intro ρe we re
 exact⟨_,rfl,hw.tr re.bel,hC.out re (oldF w)⟩

theorem fby_c{S:Nat→Prop}{w:World}{v u:Value}{f g:Rat}(hS:Old S w)(hf:FracR w S v f)(hg:FracR w S u g)(hlf:rl f≤10000000000)(hlg:rl g≤10000000000)(hg0:g≠0):
  Con PG N.exact_fraction_by #[v,u] w (Ret w fun v' w2=>FracR w2 (Nw (fun _=>False) w w2) v' (f / g)):=by
 have hw:Bel w.heap.size w w:=Bel.refl
 have l1:=rl_num f
 have l2:=rl_den' f
 have l3:=rl_num g
 have l4:=rl_den' g
 have m0:=ln_mul_abs f.num g.den
 have m1:=ln_mul_abs f.den g.num
 replace hf:=hf.weak (S':=Cv S w.heap.size []) fun _ h=>.inl h
 replace hg:=hg.weak (S':=Cv S w.heap.size []) fun _ h=>.inl h
 obtain⟨b1,a1,n1,c1,b2,a2,n2,c2,rfl⟩:=hf.shape
 obtain⟨b3,a3,n3,c3,b4,a4,n4,c4,rfl⟩:=hg.shape
 have hfn:=hf.num
 have hfd:=hf.den
 clear hf
 have hgn:=hg.num
 have hgd:=hg.den
 clear hg
 refine in_exact_fraction_by (by simp) ?_
 conv=>whnf
 refine drawn_of_pi hτ hmix [.x 0,.x 1,.x 2,.x 3,.x 5,.x 6,.x 7,.x 8,.x 4,.x 9,.x 10,.x 11] (by kernel_rfl) (by kernel_rfl) ?_
 conv=>whnf
 refine callE_con (Φ:=fun _ w' v w2=>NumR w2 (Nw (fun _=>False) w' w2) v (f.num*(g.den:Int))) (fun ρ w' r=>numTimes_c (Rel.old r hS) (hfn.rel r hS) (hgd.rel r hS) (by omega) (by omega)) ?_
 rintro ρ wa1 v1 wb1 r he hb hn
 replace hw:=hw.tr hb
 clear hfn
 replace hfd:=hfd.past (iv':=(wa1.heap.size,wb1.heap.size)::[]) r hS he fun x hx=>List.mem_cons_of_mem _ hx
 replace hgn:=hgn.past (iv':=(wa1.heap.size,wb1.heap.size)::[]) r hS he fun x hx=>List.mem_cons_of_mem _ hx
 clear hgd
 have hA:=hn.got (S:=fun _=>False) r.baseLe (iv:=(wa1.heap.size,wb1.heap.size)::[]) List.mem_cons_self
 clear r he hb hn
 generalize (wa1.heap.size,wb1.heap.size)::[]=iv1 at*
 obtain⟨s1_0,s1_1,s1_2,s1_3,rfl⟩:=hA.shape
 conv=>whnf
 refine callE_con (Φ:=fun _ w' v w2=>NumR w2 (Nw (fun _=>False) w' w2) v ((f.den:Int)*g.num)) (fun ρ w' r=>numTimes_c (Rel.old r hS) (hfd.rel r hS) (hgn.rel r hS) (by omega) (by omega)) ?_
 rintro ρ wa2 v2 wb2 r he hb hn
 replace hw:=hw.tr hb
 clear hfd
 clear hgn
 replace hA:=hA.past (iv':=(wa2.heap.size,wb2.heap.size)::iv1) r (oldF w) he fun x hx=>List.mem_cons_of_mem _ hx
 have hB:=hn.got (S:=fun _=>False) r.baseLe (iv:=(wa2.heap.size,wb2.heap.size)::iv1) List.mem_cons_self
 clear r he hb hn
 generalize (wa2.heap.size,wb2.heap.size)::iv1=iv2 at*
 obtain⟨s2_0,s2_1,s2_2,s2_3,rfl⟩:=hB.shape
 conv=>whnf
 refine callE_con (Φ:=fun _ w' v w2=>FracR w2 (Nw (fun _=>False) w' w2) v (f / g)) (fun ρ w' r=>(rat_div f g)▸over_c (Rel.old r (oldF w)) (hA.rel r (oldF w)) (hB.rel r (oldF w)) (mul_ne (den_ne f) (fun e=>hg0 (Rat.num_eq_zero.1 e))) (by omega) (by omega)) ?_
 rintro ρ wa3 v3 wb3 r he hb hn
 replace hw:=hw.tr hb
 clear hA
 clear hB
 have hC:=hn.got (S:=fun _=>False) r.baseLe (iv:=(wa3.heap.size,wb3.heap.size)::iv2) List.mem_cons_self
 clear r he hb hn
 generalize (wa3.heap.size,wb3.heap.size)::iv2=iv3 at*
 obtain⟨s3_0,s3_1,s3_2,s3_3,s3_4,s3_5,s3_6,s3_7,rfl⟩:=hC.shape
 conv=>whnf
 intro ρe we re
 exact⟨_,rfl,hw.tr re.bel,hC.out re (oldF w)⟩

theorem fplus_c{S:Nat→Prop}{w:World}{v u:Value}{f g:Rat}(hS:Old S w)(hf:FracR w S v f)(hg:FracR w S u g)(hlf:rl f≤10000000000)(hlg:rl g≤10000000000):
  Con PG N.exact_fraction_plus #[v,u] w (Ret w fun v' w2=>FracR w2 (Nw (fun _=>False) w w2) v' (f+g)):=by
 have hw:Bel w.heap.size w w:=Bel.refl
 have l1:=rl_num f
 have l2:=rl_den' f
 have l3:=rl_num g
 have l4:=rl_den' g
 have m0:=ln_mul_abs f.num g.den
 have m1:=ln_mul_abs g.num f.den
 have m2:=ln_mul_abs f.den g.den
 have m4:=ln_add_int (f.num*g.den) (g.num*f.den)
 replace hf:=hf.weak (S':=Cv S w.heap.size []) fun _ h=>.inl h
 replace hg:=hg.weak (S':=Cv S w.heap.size []) fun _ h=>.inl h
 obtain⟨b1,a1,n1,c1,b2,a2,n2,c2,rfl⟩:=hf.shape
 obtain⟨b3,a3,n3,c3,b4,a4,n4,c4,rfl⟩:=hg.shape
 have hfn:=hf.num
 have hfd:=hf.den
 clear hf
 have hgn:=hg.num
 have hgd:=hg.den
 clear hg
 refine in_exact_fraction_plus (by simp) ?_
 conv=>whnf
 refine drawn_of_pi hτ hmix [.x 0,.x 1,.x 2,.x 3,.x 5,.x 6,.x 7,.x 8,.x 11,.x 12,.x 13,.x 14,.x 4,.x 9,.x 10,.x 15,.x 16,.x 17] (by kernel_rfl) (by kernel_rfl) ?_
 conv=>whnf
 refine callE_con (Φ:=fun _ w' v w2=>NumR w2 (Nw (fun _=>False) w' w2) v (f.num*(g.den:Int))) (fun ρ w' r=>numTimes_c (Rel.old r hS) (hfn.rel r hS) (hgd.rel r hS) (by omega) (by omega)) ?_
 rintro ρ wa1 v1 wb1 r he hb hn
 replace hw:=hw.tr hb
 clear hfn
 replace hfd:=hfd.past (iv':=(wa1.heap.size,wb1.heap.size)::[]) r hS he fun x hx=>List.mem_cons_of_mem _ hx
 replace hgn:=hgn.past (iv':=(wa1.heap.size,wb1.heap.size)::[]) r hS he fun x hx=>List.mem_cons_of_mem _ hx
 replace hgd:=hgd.past (iv':=(wa1.heap.size,wb1.heap.size)::[]) r hS he fun x hx=>List.mem_cons_of_mem _ hx
 have hA:=hn.got (S:=fun _=>False) r.baseLe (iv:=(wa1.heap.size,wb1.heap.size)::[]) List.mem_cons_self
 clear r he hb hn
 generalize (wa1.heap.size,wb1.heap.size)::[]=iv1 at*
 obtain⟨s1_0,s1_1,s1_2,s1_3,rfl⟩:=hA.shape
 conv=>whnf
 refine callE_con (Φ:=fun _ w' v w2=>NumR w2 (Nw (fun _=>False) w' w2) v (g.num*(f.den:Int))) (fun ρ w' r=>numTimes_c (Rel.old r hS) (hgn.rel r hS) (hfd.rel r hS) (by omega) (by omega)) ?_
 rintro ρ wa2 v2 wb2 r he hb hn
 replace hw:=hw.tr hb
 replace hfd:=hfd.past (iv':=(wa2.heap.size,wb2.heap.size)::iv1) r hS he fun x hx=>List.mem_cons_of_mem _ hx
 clear hgn
 replace hgd:=hgd.past (iv':=(wa2.heap.size,wb2.heap.size)::iv1) r hS he fun x hx=>List.mem_cons_of_mem _ hx
 replace hA:=hA.past (iv':=(wa2.heap.size,wb2.heap.size)::iv1) r (oldF w) he fun x hx=>List.mem_cons_of_mem _ hx
 have hB:=hn.got (S:=fun _=>False) r.baseLe (iv:=(wa2.heap.size,wb2.heap.size)::iv1) List.mem_cons_self
 clear r he hb hn
 generalize (wa2.heap.size,wb2.heap.size)::iv1=iv2 at*
 obtain⟨s2_0,s2_1,s2_2,s2_3,rfl⟩:=hB.shape
 conv=>whnf
 refine callE_con (Φ:=fun _ w' v w2=>NumR w2 (Nw (fun _=>False) w' w2) v (f.num*(g.den:Int)+g.num*(f.den:Int))) (fun ρ w' r=>numPlus_c (Rel.old r (oldF w)) (hA.rel r (oldF w)) (hB.rel r (oldF w)) (by omega) (by omega)) ?_
 rintro ρ wa3 v3 wb3 r he hb hn
 replace hw:=hw.tr hb
 replace hfd:=hfd.past (iv':=(wa3.heap.size,wb3.heap.size)::iv2) r hS he fun x hx=>List.mem_cons_of_mem _ hx
 replace hgd:=hgd.past (iv':=(wa3.heap.size,wb3.heap.size)::iv2) r hS he fun x hx=>List.mem_cons_of_mem _ hx
 clear hA
 clear hB
 have hD:=hn.got (S:=fun _=>False) r.baseLe (iv:=(wa3.heap.size,wb3.heap.size)::iv2) List.mem_cons_self
 clear r he hb hn
 generalize (wa3.heap.size,wb3.heap.size)::iv2=iv3 at*
 obtain⟨s3_0,s3_1,s3_2,s3_3,rfl⟩:=hD.shape
 conv=>whnf
 refine callE_con (Φ:=fun _ w' v w2=>NumR w2 (Nw (fun _=>False) w' w2) v ((f.den:Int)*(g.den:Int))) (fun ρ w' r=>numTimes_c (Rel.old r hS) (hfd.rel r hS) (hgd.rel r hS) (by omega) (by omega)) ?_
 rintro ρ wa4 v4 wb4 r he hb hn
 replace hw:=hw.tr hb
 clear hfd
 clear hgd
 replace hD:=hD.past (iv':=(wa4.heap.size,wb4.heap.size)::iv3) r (oldF w) he fun x hx=>List.mem_cons_of_mem _ hx
 have hE:=hn.got (S:=fun _=>False) r.baseLe (iv:=(wa4.heap.size,wb4.heap.size)::iv3) List.mem_cons_self
 clear r he hb hn
 generalize (wa4.heap.size,wb4.heap.size)::iv3=iv4 at*
 obtain⟨s4_0,s4_1,s4_2,s4_3,rfl⟩:=hE.shape
 conv=>whnf
 refine callE_con (Φ:=fun _ w' v w2=>FracR w2 (Nw (fun _=>False) w' w2) v (f+g)) (fun ρ w' r=>(rat_add f g)▸over_c (Rel.old r (oldF w)) (hD.rel r (oldF w)) (hE.rel r (oldF w)) (mul_ne (den_ne f) (den_ne g)) (by omega) (by omega)) ?_
 rintro ρ wa5 v5 wb5 r he hb hn
 replace hw:=hw.tr hb
 clear hD
 clear hE
 have hC:=hn.got (S:=fun _=>False) r.baseLe (iv:=(wa5.heap.size,wb5.heap.size)::iv4) List.mem_cons_self
 clear r he hb hn
 generalize (wa5.heap.size,wb5.heap.size)::iv4=iv5 at*
 obtain⟨s5_0,s5_1,s5_2,s5_3,s5_4,s5_5,s5_6,s5_7,rfl⟩:=hC.shape
 conv=>whnf
 intro ρe we re
 exact⟨_,rfl,hw.tr re.bel,hC.out re (oldF w)⟩

theorem fgive_c{S:Nat→Prop}{w:World}{v:Value}{f:Rat}(hS:Old S w)(hf:FracR w S v f)(hlf:rl f≤100000000000):
  Con PG N.exact_fraction_give #[v] w (Ret w fun v' w2=>RatC w2 (Nw (fun _=>False) w w2) v' f):=by
 have hw:Bel w.heap.size w w:=Bel.refl
 have l1:=rl_num f
 have l2:=rl_den' f
 replace hf:=hf.weak (S':=Cv S w.heap.size []) fun _ h=>.inl h
 obtain⟨b1,a1,n1,c1,b2,a2,n2,c2,rfl⟩:=hf.shape
 have hfn:=hf.num
 have hfd:=hf.den
 clear hf
 refine in_exact_fraction_give (by simp) ?_
 conv=>whnf
 refine drawn_of_pi hτ hmix [.x 0,.x 1,.x 3,.x 4,.x 2,.x 5,.x 6,.x 7] (by kernel_rfl) (by kernel_rfl) ?_
 conv=>whnf
 refine callE_con (Φ:=fun _ w' v w2=>IntC w2 (Nw (fun _=>False) w' w2) v f.num) (fun ρ w' r=>give_c (Rel.old r hS) (hfn.rel r hS) (by omega)) ?_
 rintro ρ wa1 v1 wb1 r he hb hn
 replace hw:=hw.tr hb
 clear hfn
 replace hfd:=hfd.past (iv':=(wa1.heap.size,wb1.heap.size)::[]) r hS he fun x hx=>List.mem_cons_of_mem _ hx
 have hA:=hn.got (S:=fun _=>False) r.baseLe (iv:=(wa1.heap.size,wb1.heap.size)::[]) List.mem_cons_self
 clear r he hb hn
 generalize (wa1.heap.size,wb1.heap.size)::[]=iv1 at*
 obtain⟨s1_0,s1_1,s1_2,s1_3,rfl⟩:=hA.shape
 conv=>whnf
 refine callE_con (Φ:=fun _ w' v w2=>IntC w2 (Nw (fun _=>False) w' w2) v (f.den:Int)) (fun ρ w' r=>give_c (Rel.old r hS) (hfd.rel r hS) (by omega)) ?_
 rintro ρ wa2 v2 wb2 r he hb hn
 replace hw:=hw.tr hb
 clear hfd
 replace hA:=hA.past (iv':=(wa2.heap.size,wb2.heap.size)::iv1) r (oldF w) he fun x hx=>List.mem_cons_of_mem _ hx
 have hB:=hn.got (S:=fun _=>False) r.baseLe (iv:=(wa2.heap.size,wb2.heap.size)::iv1) List.mem_cons_self
 clear r he hb hn
 generalize (wa2.heap.size,wb2.heap.size)::iv1=iv2 at*
 obtain⟨s2_0,s2_1,s2_2,s2_3,rfl⟩:=hB.shape
 conv=>whnf
 intro ρe we re
 exact⟨_,rfl,hw.tr re.bel,RatC.of (hA.out re (oldF w)) (hB.out re (oldF w))⟩

theorem whole_c(n:Int)(w:World)(h1: -9223372036854775808≤n)(h2:n≤9223372036854775807):
  Con PG N.exact_whole #[.int .i64 n] w (Ret w fun v' w2=>FracR w2 (Nw (fun _=>False) w w2) v' (n:Rat)):=by
 have hw:Bel w.heap.size w w:=Bel.refl
 refine in_exact_whole (by simp) ?_
 conv=>whnf
 refine callE_S (callE_con (Φ:=fun _ w' v w2=>NumR w2 (Nw (fun _=>False) w' w2) v n) (fun ρ w' r=>small_c n w' h1 h2) ?_)
 rintro ρ wa1 v1 wb1 r he hb hn
 replace hw:=hw.tr hb
 have hA:=hn.got (S:=fun _=>False) r.baseLe (iv:=(wa1.heap.size,wb1.heap.size)::[]) List.mem_cons_self
 clear r he hb hn
 generalize (wa1.heap.size,wb1.heap.size)::[]=iv1 at*
 obtain⟨s1_0,s1_1,s1_2,s1_3,rfl⟩:=hA.shape
 conv=>whnf
 refine callE_S (callE_con (Φ:=fun _ w' v w2=>NumR w2 (Nw (fun _=>False) w' w2) v 1) (fun ρ w' r=>small_c 1 w' (by decide) (by decide)) ?_)
 rintro ρ wa2 v2 wb2 r he hb hn
 replace hw:=hw.tr hb
 replace hA:=hA.past (iv':=(wa2.heap.size,wb2.heap.size)::iv1) r (oldF w) he fun x hx=>List.mem_cons_of_mem _ hx
 have hB:=hn.got (S:=fun _=>False) r.baseLe (iv:=(wa2.heap.size,wb2.heap.size)::iv1) List.mem_cons_self
 clear r he hb hn
 generalize (wa2.heap.size,wb2.heap.size)::iv1=iv2 at*
 obtain⟨s2_0,s2_1,s2_2,s2_3,rfl⟩:=hB.shape
 conv=>whnf
 intro ρe we re
 exact⟨_,rfl,hw.tr re.bel,FracR.of (by rw[Rat.num_intCast];exact hA.out re (oldF w)) (by rw[Rat.den_intCast];exact hB.out re (oldF w))⟩

theorem value_c{S:Nat→Prop}{w:World}{v:Value}{x y:Int}(hS:Old S w)(hx:RatR w S v x y)(hlx:ln x.natAbs≤100000000000)(hly:ln y.natAbs≤100000000000):
  Con PG N.exact_value #[v] w (Ret w fun v' w2=>FracR w2 (Nw (fun _=>False) w w2) v' (ratio x y)):=by
 have hw:Bel w.heap.size w w:=Bel.refl
 replace hx:=hx.weak (S':=Cv S w.heap.size []) fun _ h=>.inl h
 obtain⟨b1,a1,n1,c1,b2,a2,n2,c2,rfl⟩:=hx.shape
 have hn:=hx.num
 have hd:=hx.den
 clear hx
 have hxn:=hn
 have hxd:=hd
 clear hn hd
 refine in_exact_value (by simp) ?_
 conv=>whnf
 refine callE_S (callE_con (Φ:=fun _ w' v w2=>NumR w2 (Nw (Cv S w.heap.size []) w' w2) v y) (fun ρ w' r=>ofR_c (Rel.old r hS) (hxd.rel r hS)) ?_)
 rintro ρ wa1 v1 wb1 r he hb hn
 replace hw:=hw.tr hb
 replace hxn:=hxn.past (iv':=(wa1.heap.size,wb1.heap.size)::[]) r hS he fun x hx=>List.mem_cons_of_mem _ hx
 clear hxd
 have hD:=hn.old r.baseLe
 clear r he hb hn
 generalize (wa1.heap.size,wb1.heap.size)::[]=iv1 at*
 obtain⟨s1_0,s1_1,s1_2,s1_3,rfl⟩:=hD.shape
 conv=>whnf
 refine callE_S (callE_con (Φ:=fun _ w' v w2=>v= .int .i64 y.sign) (fun ρ w' r=>sign_c (hD.rel r hS)) ?_)
 rintro ρ wa2 v2 wb2 r he hb rfl
 replace hw:=hw.tr hb
 replace hxn:=hxn.past (iv':=(wa2.heap.size,wb2.heap.size)::iv1) r hS he fun x hx=>List.mem_cons_of_mem _ hx
 replace hD:=hD.past (iv':=(wa2.heap.size,wb2.heap.size)::iv1) r hS he fun x hx=>List.mem_cons_of_mem _ hx
 clear r he hb
 generalize (wa2.heap.size,wb2.heap.size)::iv1=iv2 at*
 conv=>whnf
 refine BrS.mk (fun h=>?_) (fun h=>?_)
 ·have h:y=0:=Int.sign_eq_zero_iff_zero.1 (eq_of_beq h)
  have e0:ratio x y=Rat.divInt x 1:=if_pos h
  conv=>whnf
  refine callE_S (callE_con (Φ:=fun _ w' v w2=>NumR w2 (Nw (fun _=>False) w' w2) v 1) (fun ρ w' r=>small_c 1 w' (by decide) (by decide)) ?_)
  rintro ρ wa3 v3 wb3 r he hb hn
  replace hw:=hw.tr hb
  replace hxn:=hxn.past (iv':=(wa3.heap.size,wb3.heap.size)::iv2) r hS he fun x hx=>List.mem_cons_of_mem _ hx
  clear hD
  have hO:=hn.got (S:=fun _=>False) r.baseLe (iv:=(wa3.heap.size,wb3.heap.size)::iv2) List.mem_cons_self
  clear r he hb hn
  generalize (wa3.heap.size,wb3.heap.size)::iv2=iv3 at*
  obtain⟨s3_0,s3_1,s3_2,s3_3,rfl⟩:=hO.shape
  conv=>whnf
  have l1:ln (1:Int).natAbs=1:=by decide
  refine drawn_of_pi hτ hmix [.x 0,.x 1,.x 3,.x 2,.x 4,.x 5] (by kernel_rfl) (by kernel_rfl) ?_
  conv=>whnf
  refine callE_con (Φ:=fun _ w' v w2=>NumR w2 (Nw (Cv S w.heap.size iv3) w' w2) v x) (fun ρ w' r=>ofR_c (Rel.old r hS) (hxn.rel r hS)) ?_
  rintro ρ wa4 v4 wb4 r he hb hn
  replace hw:=hw.tr hb
  clear hxn
  replace hO:=hO.past (iv':=(wa4.heap.size,wb4.heap.size)::iv3) r (oldF w) he fun x hx=>List.mem_cons_of_mem _ hx
  have hN:=hn.old r.baseLe
  clear r he hb hn
  generalize (wa4.heap.size,wb4.heap.size)::iv3=iv4 at*
  obtain⟨s4_0,s4_1,s4_2,s4_3,rfl⟩:=hN.shape
  conv=>whnf
  refine callE_con (Φ:=fun _ w' v w2=>FracR w2 (Nw (fun _=>False) w' w2) v (ratio x y)) (fun ρ w' r=>e0.symm▸over_c (Rel.old r hS) (hN.rel r hS) ((hO.rel r (oldF w)).weak fun g hg=>hg.elim (fun k=>k.elim) .inr) (by decide) (by omega) (by omega)) ?_
  rintro ρ wa5 v5 wb5 r he hb hn
  replace hw:=hw.tr hb
  clear hO
  clear hN
  have hC:=hn.got (S:=fun _=>False) r.baseLe (iv:=(wa5.heap.size,wb5.heap.size)::iv4) List.mem_cons_self
  clear r he hb hn
  generalize (wa5.heap.size,wb5.heap.size)::iv4=iv5 at*
  obtain⟨s5_0,s5_1,s5_2,s5_3,s5_4,s5_5,s5_6,s5_7,rfl⟩:=hC.shape
  conv=>whnf
  intro ρe we re
  exact⟨_,rfl,hw.tr re.bel,hC.out re (oldF w)⟩
 ·have h:y≠0:=fun e=>by rw[e]at h;exact absurd h (by decide)
  have e0:ratio x y=Rat.divInt x y:=if_neg h
  conv=>whnf
  refine drawn_of_pi hτ hmix [.x 0,.x 1,.x 3,.x 2,.x 4,.x 5] (by kernel_rfl) (by kernel_rfl) ?_
  conv=>whnf
  refine callE_con (Φ:=fun _ w' v w2=>NumR w2 (Nw (Cv S w.heap.size iv2) w' w2) v x) (fun ρ w' r=>ofR_c (Rel.old r hS) (hxn.rel r hS)) ?_
  rintro ρ wa3 v3 wb3 r he hb hn
  replace hw:=hw.tr hb
  clear hxn
  replace hD:=hD.past (iv':=(wa3.heap.size,wb3.heap.size)::iv2) r hS he fun x hx=>List.mem_cons_of_mem _ hx
  have hN:=hn.old r.baseLe
  clear r he hb hn
  generalize (wa3.heap.size,wb3.heap.size)::iv2=iv3 at*
  obtain⟨s3_0,s3_1,s3_2,s3_3,rfl⟩:=hN.shape
  conv=>whnf
  refine callE_con (Φ:=fun _ w' v w2=>FracR w2 (Nw (fun _=>False) w' w2) v (ratio x y)) (fun ρ w' r=>e0.symm▸over_c (Rel.old r hS) (hN.rel r hS) (hD.rel r hS) h (by omega) (by omega)) ?_
  rintro ρ wa4 v4 wb4 r he hb hn
  replace hw:=hw.tr hb
  clear hD
  clear hN
  have hC:=hn.got (S:=fun _=>False) r.baseLe (iv:=(wa4.heap.size,wb4.heap.size)::iv3) List.mem_cons_self
  clear r he hb hn
  generalize (wa4.heap.size,wb4.heap.size)::iv3=iv4 at*
  obtain⟨s4_0,s4_1,s4_2,s4_3,s4_4,s4_5,s4_6,s4_7,rfl⟩:=hC.shape
  conv=>whnf
  intro ρe we re
  exact⟨_,rfl,hw.tr re.bel,hC.out re (oldF w)⟩

end Go.Ex

/- Rows of a call's own, held raw; readings of lists; Grow and Concat. No condition. -/
namespace Go.Ex
open Go Go.Sx Go.Proofs

/-- what is kept of a row that is held raw: its block -/
def rowIv(v:Value):Iv:=match v.ownBlock with
 |some g=>[(g,g+1)]
 |none=>[]
theorem rowIv_mem{v:Value}{lo hi:Nat}:(lo,hi)∈rowIv v↔v.ownBlock=some lo∧hi=lo+1:=by
 unfold rowIv
 cases h:v.ownBlock with
 |none=>simp
 |some g=>simp;omega
def Cvr(iv:Iv)(v:Value):Prop:=∀b,v.ownBlock=some b→∃lo hi,(lo,hi)∈iv∧lo≤b∧b<hi
section
variable{S:Nat→Prop}{H:Hp}{nx:Nat}{iv iv':Iv}{B e sz m:Nat}{w w' w2:World}{ρ:Nat→Sx.Val}{v v':Value}{xs:List Value}
theorem Cvr.not(h:Cvr iv v)(r:Rel H nx iv B w ρ w'){b:Nat}(hb:v.ownBlock=some b):∀id c,getH H id=some c→(ρ id).nil=false→(ρ id).g≠b:=fun id c hc hn he=>by
 obtain⟨lo,hi,h1,h2,h3⟩:=h b hb
 exact r.prot lo hi h1 id c hc hn (by omega)
theorem rowKeep(h:w.ownsRow B e sz v m xs)(hc:Cvr iv v)(r:Rel H nx iv B w ρ w'):w'.ownsRow B e sz v m xs:=
 ownsRow.keep h fun b hb=>r.frm b (ownsRow.low h b hb).2 fun id c hc' hn he=>hc.not r hb id c hc' hn he
theorem Cvr.row(v:Value):Cvr (rowIv v) v:=fun b hb=>⟨b,b+1,rowIv_mem.2 ⟨hb,rfl⟩,by omega,by omega⟩
theorem Cvr.mono(h:Cvr iv v)(k:∀p,p∈iv→p∈iv'):Cvr iv' v:=fun b hb=>by
 obtain⟨lo,hi,h1,h2⟩:=h b hb
 exact⟨lo,hi,k _ h1,h2⟩
theorem row_form(h:w.ownsRow B e sz v m xs):∃a c,v= .slice a m c∧m≤c:=by
 rcases h.2 with⟨rfl,rfl⟩|⟨g,cap,cur,rfl,_,_,h1,_⟩
 ·exact⟨none,0,rfl,Nat.le_refl _⟩
 ·exact⟨_,cap,rfl,h1⟩
/-- the premise of opS_append on the intervals that are kept: the row's own block -/
theorem rowIv_after(r:Rel H nx (rowIv v) B w ρ w')(_hsz:w'.heap.size≤w2.heap.size)(hob:∀g,v'.ownBlock=some g→g<w2.heap.size∧(v.ownBlock=some g∨g=w'.heap.size)):
  ∀lo hi,(lo,hi)∈rowIv v'→hi≤w2.heap.size∧∀id b,getH H id=some b→(ρ id).nil=false→¬(lo≤(ρ id).g∧(ρ id).g<hi):=fun lo hi hm=>by
 obtain⟨hg,rfl⟩:=rowIv_mem.1 hm
 obtain⟨h1,h2⟩:=hob _ hg
 refine⟨by omega,fun id c hc hn he=>?_⟩
 rcases h2 with h2|h2
 ·exact(Cvr.row v).not r h2 id c hc hn (by omega)
 ·have:=(r.low id c hc hn).2;omega
end
end Go.Ex
namespace Go.Sx
open Go Go.Ex Go.Proofs
theorem Sub.gen2{B:Nat}{l tl:Env}{nx nx':Nat}{H tH:Hp}{iv iv':Iv}{w w':World}{ρ:Nat→Sx.Val}(m:List (Nat×Nat))(r:Rel H nx iv B w ρ w')
  (hH:SubHR (renL m) H tH) (hE:SubER (renL m) l tl) (hsH:ScH nx' tH) (hsE:ScE nx' tl) (hi:injB (renL m) tH=true) (hiv:∀lo hi,(lo,hi)∈iv'→∃lo' hi',(lo',hi')∈iv∧lo'≤lo∧hi≤hi'):Sub B l nx ρ w' ⟨tl,tH,nx',iv',w'⟩:=by
 have r2:Rel H nx iv' B w' ρ w':=Rel.mk' rfl rfl rfl (Nat.le_refl _) (by have:=r.base;have:=r.size;omega) (fun lo hi h=>by
   obtain⟨lo',hi',h1,h2,h3⟩:=hiv lo hi h
   have:=r.ivs lo' hi' h1;have:=r.size;omega) r.keys (fun id b h=>r.fits h) (fun id b h=>r.scopd h) r.inj r.low (fun _ _ _=>rfl) (fun lo hi h id b hb hn he=>by
   obtain⟨lo',hi',h1,h2,h3⟩:=hiv lo hi h
   exact r.prot lo' hi' h1 id b hb hn (by omega))
 exact Sub.gen m r2 hH hE hsH hsE hi (fun lo hi h=>h)
end Go.Sx
namespace Go.Ex
open Go Go.Sx Go.Proofs
theorem Cvr.iv{iv:Iv}{v:Value}(h:Cvr iv v):∀lo hi,(lo,hi)∈rowIv v→∃lo' hi',(lo',hi')∈iv∧lo'≤lo∧hi≤hi':=fun lo hi hm=>by
 obtain⟨hb,rfl⟩:=rowIv_mem.1 hm
 obtain⟨lo',hi',h1,h2,h3⟩:=h lo hb
 exact⟨lo',hi',h1,h2,by omega⟩
/-- a list of values is read: n elements of sz cells -/
structure SeqR(w:World)(S:Nat→Prop)(sz:Nat)(v:Value)(xs:List Value)(n:Nat):Prop where
 le:n≤maxLen
 len:xs.length=n*sz
 one:∀u∈xs,u.oneCell'=true
 sl:∃a c,v= .slice a n c∧n≤c∧∀(j:Nat) u,xs[j]? =some u→∃ad,a=some ad∧S ad.block∧w.cell? (ad.add j)=some u
theorem SeqR.keep{S:Nat→Prop}{w w2:World}{sz:Nat}{v:Value}{xs:List Value}{n:Nat}(h:SeqR w S sz v xs n)(hk:∀g,S g→w2.heap[g]? =w.heap[g]?):SeqR w2 S sz v xs n:=by
 obtain⟨h0,h1,h2,a,c,h3,h4,h5⟩:=h
 refine⟨h0,h1,h2,a,c,h3,h4,fun j u hu=>?_⟩
 obtain⟨ad,k1,k2,k3⟩:=h5 j u hu
 exact⟨ad,k1,k2,by rw[cell_of_heap (hk _ (by rw[addB];exact k2))];exact k3⟩
theorem SeqR.weak{S S':Nat→Prop}{w:World}{sz:Nat}{v:Value}{xs:List Value}{n:Nat}(h:SeqR w S sz v xs n)(hk:∀g,S g→S' g):SeqR w S' sz v xs n:=by
 obtain⟨h0,h1,h2,a,c,h3,h4,h5⟩:=h
 refine⟨h0,h1,h2,a,c,h3,h4,fun j u hu=>?_⟩
 obtain⟨ad,k1,k2,k3⟩:=h5 j u hu
 exact⟨ad,k1,hk _ k2,k3⟩
theorem SeqR.shape{S:Nat→Prop}{w:World}{sz:Nat}{v:Value}{xs:List Value}{n:Nat}(h:SeqR w S sz v xs n):∃a m c,v= .slice a m c:=by
 obtain⟨_,_,_,a,c,h3,_⟩:=h
 exact⟨a,_,c,h3⟩
section
variable{S S':Nat→Prop}{H:Hp}{nx:Nat}{iv iv':Iv}{B:Nat}{w w' w2:World}{ρ:Nat→Sx.Val}{v:Value}{sz n:Nat}{xs:List Value}
end
def nsum(parts:List (Value×List Value×Nat)):Nat:=(parts.map (·.2.2)).sum
theorem nsum_append(a b:List (Value×List Value×Nat)):nsum (a++b)=nsum a+nsum b:=by simp[nsum]
abbrev undN:=und_nat

theorem growN_c(n:Nat)(w:World)(hn:n≤1000000000000):
  Con PG N.slices_Grow_of_exact_nat_uint32_of #[.slice none 0 0,.int .i64 n] w (Ret w fun v' w2=>w2.ownsRow w.heap.size T.uint32 1 v' 0 []):=by
 refine in_slices_Grow_of_exact_nat_uint32_of (by simp) ?_
 conv=>whnf
 refine opS_cap (e:=T.uint32) undN (by rfl) (fun ρ w1 r=>?_)
 have hb:=r.bel
 clear r
 conv=>whnf
 refine⟨0,rfl,?_⟩
 conv=>whnf
 refine⟨(n:Int),by show IntKind.wrap .i64 ((n:Int)-0)=_;rw[wrap64]<;>omega,?_⟩
 conv=>whnf
 refine BrS.mk (fun h=>?_) (fun h=>?_)
 ·have h:0<n:=by have:=of_decide_eq_true h;omega
  conv=>whnf
  refine opS_cap (e:=T.uint32) undN (by rfl) (fun ρ w2 r=>?_)
  replace hb:=hb.tr r.bel
  clear r
  conv=>whnf
  refine⟨⟨by omega,by omega,by omega⟩,none,0,0,by rfl,by omega,by omega,?_⟩
  conv=>whnf
  refine opS_zeros hτ (Bc:=w.heap.size) (Nat.le_refl _) (by rfl) (by rfl) ((hτ T.int _ rfl).i1 rfl) (by decide) (by rfl) (by rfl) h (by unfold maxLen;omega) (by omega) (fun ρ w3 w4 c r hc hrow hg hs=>?_)
  have hb4:Bel w.heap.size w w4:=(hb.tr r.bel).tr (Bel.grown hg (fun g hg=>by cases hg) (by have:=r.base;have:=r.size;omega))
  have hw3:=(hb.tr r.bel).size
  clear r
  generalize w3.heap.size=g0 at*
  conv=>whnf
  refine⟨⟨by omega,by omega,by omega⟩,some ⟨g0,0,none⟩,0,c,by split<;>rfl,by omega,by omega,?_⟩
  conv=>whnf
  intro ρ5 w5 r5
  exact⟨_,rfl,hb4.tr r5.bel,rowKeep hrow (fun b hb=>by
   have hb:g0=b:=by injection hb
   exact⟨g0,g0+1,by simp[hs],by omega,by omega⟩) r5⟩
 ·conv=>whnf
  intro ρ5 w5 r5
  exact⟨_,rfl,hb.tr r5.bel,World.ownsRow_nil _ _ _ _⟩

theorem concatN_c{S:Nat→Prop}{w:World}{v:Value}{parts:List (Value×List Value×Nat)}(hS:Old S w)(h:SeqR w S 1 v (parts.map (·.1)) parts.length)(hp:∀p∈parts,SeqR w S 1 p.1 p.2.1 p.2.2)(hN:nsum parts≤1000000000000):
  Con PG N.slices_Concat_of_exact_nat_uint32_of #[v] w (Ret w fun v' w2=>w2.ownsRow w.heap.size T.uint32 1 v' (nsum parts) (parts.flatMap (·.2.1))):=by
 obtain⟨hml,-,-,a,c,rfl,hnc,hcell⟩:=h
 have hle:∀k,nsum (parts.take k)≤nsum parts:=fun k=>by
  conv=>rhs;rw[←List.take_append_drop k parts,nsum_append]
  omega
 have hnext:∀(i:Nat) p,parts[i]? =some p→nsum (parts.take (i+1))=nsum (parts.take i)+p.2.2:=fun i p hp=>by
  rw[List.take_add_one,hp,nsum_append];simp[nsum]
 have hnextx:∀(i:Nat) p,parts[i]? =some p→(parts.take (i+1)).flatMap (·.2.1)=(parts.take i).flatMap (·.2.1)++p.2.1:=fun i p hp=>by
  rw[List.take_add_one,hp];simp
 have hpart:∀(i:Nat) p,parts[i]? =some p→∃ad an ac,a=some ad∧S ad.block∧w.cell? (ad.add i)=some (.slice an p.2.2 ac)∧p.1= .slice an p.2.2 ac:=fun i p hi=>by
  obtain⟨ad,h1,h2,h3⟩:=hcell i p.1 (by rw[List.getElem?_map,hi];rfl)
  obtain⟨_,_,_,an,ac,h4,_⟩:=hp p (List.mem_of_getElem? hi)
  exact⟨ad,an,ac,h1,h2,by rw[h3,h4],h4⟩
 unfold maxLen at hml
 refine in_slices_Concat_of_exact_nat_uint32_of (by simp) ?_
 conv=>whnf
 refine⟨Nat×World,fun z=>⟨[(0,.o (.v (.slice a parts.length c))),(3,.o (.v (.int .i64 (nsum (parts.take z.1):Nat)))),(9,.o (.v (.slice a parts.length c))),(10,.o (.v (.int .i64 parts.length))),(11,.o (.v (.int .i64 z.1)))],[],0,[],z.2⟩,
  fun z=>parts.length-z.1,fun z=>z.1≤parts.length∧Bel w.heap.size w z.2,?_,?_⟩
 ·intro ρ w' r
  exact⟨(0,w'),⟨by simp,r.bel⟩,Sub.gen [] r trivial ⟨rfl,rfl,rfl,rfl,rfl,trivial⟩ (by simp[ScH]) (by simp[ScE,SV.sc,At.sc]) (by rfl) (by simp)⟩
 ·rintro⟨i,w1⟩ ⟨hi,hw⟩
  dsimp only at hi hw ⊢
  conv=>whnf
  refine BrS.mk (fun h=>?_) (fun h=>?_)
  ·have h:i<parts.length:=by simpa using h
   obtain⟨p,hpi⟩:∃p,parts[i]? =some p:=⟨_,List.getElem?_eq_getElem h⟩
   obtain⟨ad,an,ac,h1,h2,h3,h4⟩:=hpart i p hpi
   have hs1:=hnext i p hpi
   have hs2:=hle (i+1)
   conv=>whnf
   refine⟨ad,h1,⟨by omega,by omega⟩,?_⟩
   conv=>whnf
   refine⟨.slice an p.2.2 ac,fun ρ w' r=>by simpa using cellS hS hw r h2 h3,?_⟩
   conv=>whnf
   refine⟨((nsum (parts.take (i+1)):Nat):Int),by rw[wrap64]<;>omega,?_⟩
   conv=>whnf
   refine⟨((i+1:Nat):Int),by rw[wrap64]<;>omega,?_⟩
   conv=>whnf
   intro ρ3 w3 r3
   exact⟨(i+1,w3),⟨h,hw.tr r3.bel⟩,Sub.gen [] r3 trivial ⟨rfl,rfl,rfl,rfl,rfl,trivial⟩ (by simp[ScH]) (by simp[ScE,SV.sc,At.sc]) (by rfl) (by simp),by simp;omega⟩
  ·have h:i=parts.length:=by
    have:¬i<parts.length:=by simpa using h
    omega
   subst h
   clear hi
   rw[List.take_length]
   conv=>whnf
   refine callE_S (callE_con (Φ:=fun _ w' v w2=>w2.ownsRow w'.heap.size T.uint32 1 v 0 []) (fun ρ w' r=>growN_c _ w' (by omega)) ?_)
   rintro ρ wa v1 wb r he hb hrow
   have hsz:=r.baseLe
   have hes:=he.size
   have hcov:Cvr [(wa.heap.size,wb.heap.size)] v1:=fun b hb=>⟨_,_,List.mem_singleton.2 rfl,(ownsRow.low hrow b hb).1,(ownsRow.low hrow b hb).2⟩
   replace hrow:wb.ownsRow w.heap.size T.uint32 1 v1 0 []:=⟨hrow.1,hrow.2.imp id fun⟨g,cap,cur,k1,k2,k3⟩=>⟨g,cap,cur,k1,by omega,k3⟩⟩
   replace hw:=hw.tr hb
   clear r he
   obtain⟨a1,c1,rfl,-⟩:=row_form hrow
   conv=>whnf
   refine⟨Nat×Value×World,fun z=>⟨[(0,.o (.v (.slice a parts.length c))),(6,.o (.v z.2.1)),(25,.o (.v (.slice a parts.length c))),(26,.o (.v (.int .i64 parts.length))),(27,.o (.v (.int .i64 z.1)))],[],0,rowIv z.2.1,z.2.2⟩,
    fun z=>parts.length-z.1,fun z=>z.1≤parts.length∧Bel w.heap.size w z.2.2∧z.2.2.ownsRow w.heap.size T.uint32 1 z.2.1 (nsum (parts.take z.1)) ((parts.take z.1).flatMap (·.2.1)),?_,?_⟩
   ·intro ρ w' r
    exact⟨(0,.slice a1 0 c1,w'),⟨by simp,hw.tr r.bel,by simpa [nsum]using rowKeep hrow hcov r⟩,Sub.gen2 [] r trivial ⟨rfl,rfl,rfl,rfl,rfl,trivial⟩ (by simp[ScH]) (by simp[ScE,SV.sc,At.sc]) (by rfl) hcov.iv⟩
   ·rintro⟨i,v1,w1⟩ ⟨hi,hw,hrow⟩
    dsimp only at hi hw hrow ⊢
    obtain⟨a1,c1,rfl,-⟩:=row_form hrow
    conv=>whnf
    refine BrS.mk (fun h=>?_) (fun h=>?_)
    ·have h:i<parts.length:=by simpa using h
     obtain⟨p,hpi⟩:∃p,parts[i]? =some p:=⟨_,List.getElem?_eq_getElem h⟩
     obtain⟨ad,an,ac,h1,h2,h3,h4⟩:=hpart i p hpi
     have hs1:=hnext i p hpi
     have hs2:=hle (i+1)
     have hpR:=hp p (List.mem_of_getElem? hpi)
     conv=>whnf
     refine⟨ad,h1,⟨by omega,by omega⟩,?_⟩
     conv=>whnf
     refine⟨.slice an p.2.2 ac,fun ρ w' r=>by simpa using cellS hS hw r h2 h3,?_⟩
     conv=>whnf
     refine .inr (opS_append hτ (Nat.le_refl _) (xs:=(parts.take i).flatMap (·.2.1)) (news:=p.2.1) (m:=nsum (parts.take i)) (k:=p.2.2) (by rfl) (by rfl) (by decide) (by rfl) (by rfl) (fun ρ w' r=>⟨rowKeep hrow (Cvr.row _) r,fun g hg=>(Cvr.row _).not r hg⟩) hpR.len hpR.one (by unfold maxLen;omega) (by omega)
      (fun ρ w' r=>?_) (fun v' w2=>rowIv v') (fun ρ w' v' w2 r hsz hob=>rowIv_after r hsz hob) (fun ρ w' v' w2 r h5 h6 h7=>?_))
     ·obtain⟨_,hxl,_,a2,c2,h5,_,h6⟩:=hpR
      rw[h4]at h5
      injection h5 with h7 h8 h9
      subst h7 h9
      cases an with
      |none=>
       refine .inl ⟨ac,?_,?_⟩
       ·have:p.2.2=0:=by
         rcases Nat.eq_zero_or_pos p.2.2 with h0|h0
         ·exact h0
         ·obtain⟨ad2,k1,_⟩:=h6 0 _ (List.getElem?_eq_getElem (show 0<p.2.1.length by omega))
          cases k1
        rw[←this];rfl
       ·rcases Nat.eq_zero_or_pos p.2.2 with h0|h0
        ·exact h0
        ·obtain⟨ad2,k1,_⟩:=h6 0 _ (List.getElem?_eq_getElem (show 0<p.2.1.length by omega))
         cases k1
      |some ad3=>
       refine .inr ⟨ad3,ac,rfl,fun j u hu=>?_⟩
       obtain⟨ad2,k1,k2,k3⟩:=h6 j u hu
       injection k1 with k1
       subst k1
       exact cellS hS hw r k2 k3
     ·have hb2:Bel w.heap.size w w2:=(hw.tr r.bel).tr (Bel.grown h6 (fun g hg=>(ownsRow.low hrow g hg).1) (by have:=r.size;have:=hw.size;omega))
      rw[←hs1,←hnextx i p hpi]at h5
      obtain⟨a3,c3,rfl,-⟩:=row_form h5
      conv=>whnf
      refine⟨(i+1:Nat),by rw[wrap64]<;>omega,?_⟩
      conv=>whnf
      intro ρ3 w3 r3
      exact⟨(i+1,.slice a3 (nsum (parts.take (i+1))) c3,w3),⟨h,hb2.tr r3.bel,rowKeep h5 (Cvr.row _) r3⟩,
       Sub.gen [] r3 trivial ⟨rfl,rfl,rfl,rfl,rfl,trivial⟩ (by simp[ScH]) (by simp[ScE,SV.sc,At.sc]) (by rfl) (fun lo hi h=>h),by simp;omega⟩
    ·have h:i=parts.length:=by
      have:¬i<parts.length:=by simpa using h
      omega
     subst h
     rw[List.take_length]at hrow ⊢
     conv=>whnf
     intro ρ5 w5 r5
     exact⟨_,rfl,hw.tr r5.bel,rowKeep hrow (Cvr.row _) r5⟩
end Go.Ex
