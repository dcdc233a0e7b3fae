/- A part of the proof: texts X24 to L7. Each tells its conditions in its theorems. -/
import Derived.Test.YtneljlhlncjkhaaGreatDoorP2
import Derived.Test.YtneljlhlncjkhaaGreatDoorP5
/- The square root of a natural number. No condition. -/
namespace Go.Ex
open Go Go.Sx Go.Proofs

end Go.Ex
namespace Go.Sx
open Go Go.Ex Go.Proofs
/-- a list in a box of one's own -/
theorem Rel.boxSeq{H:Hp}{nx:Nat}{iv:Iv}{B:Nat}{w w':World}{ρ:Nat→Sx.Val}(r:Rel H nx iv B w ρ w'){id t sz n:Nat}{cs:List At}(h:getH H id=some (.box t cs))(hl:cs.length=n*sz)(hn:n≤maxLen)(h1:∀u∈cs,(u.den ρ).oneCell'=true):
  SeqR w' (fun g=>g=(ρ id).g) sz (.slice (some ⟨(ρ id).g,0,none⟩) n n) (cs.map (At.den ρ)) n:=by
 refine⟨hn,by simpa using hl,fun u hu=>?_,_,_,rfl,Nat.le_refl _,fun j u hu=>⟨_,rfl,rfl,?_⟩⟩
 ·obtain⟨x,hx,rfl⟩:=List.mem_map.1 hu
  exact h1 x hx
 ·have h0:(⟨(ρ id).g,0,none⟩:Addr).add j=⟨(ρ id).g,j,none⟩:=by
   cases j with
   |zero=>rfl
   |succ j=>simp[Addr.add]
  rw[h0,cell_of (r.box id t _ h)]
  exact hu
end Go.Sx
namespace Go.Ex
open Go Go.Sx Go.Proofs
end Go.Ex
namespace Go.Sx
open Go Go.Ex Go.Proofs
theorem Rel.arrSeq{H:Hp}{nx:Nat}{iv:Iv}{B:Nat}{w w':World}{ρ:Nat→Sx.Val}(r:Rel H nx iv B w ρ w'){id t sz n:Nat}{cs:List Value}(h:getH H id=some (.arr t cs))(hl:cs.length=n*sz)(hn:n≤maxLen)(h1:∀u∈cs,u.oneCell'=true):
  SeqR w' (fun g=>g=(ρ id).g) sz (.slice (some ⟨(ρ id).g,0,none⟩) n n) cs n:=by
 refine⟨hn,hl,h1,_,_,rfl,Nat.le_refl _,fun j u hu=>⟨_,rfl,rfl,?_⟩⟩
 have h0:(⟨(ρ id).g,0,none⟩:Addr).add j=⟨(ρ id).g,j,none⟩:=by
  cases j with
  |zero=>rfl
  |succ j=>simp[Addr.add]
 rw[h0,cell_of (r.arr id t _ h)]
 exact hu
end Go.Sx
namespace Go.Ex
open Go Go.Sx Go.Proofs
theorem Limbs.seq{w:World}{S:Nat→Prop}{v:Value}{ls:List Nat}(h:Limbs w S v ls):SeqR w S 1 v (U ls) ls.length:=by
 obtain⟨a,c,rfl,hc,hcell⟩:=h.sl
 refine⟨by have:=h.le;unfold maxLen;omega,by rw[U_len,Nat.mul_one],fun u hu=>by simp only[U,List.mem_map]at hu;obtain⟨n,_,rfl⟩:=hu;rfl,a,c,rfl,hc,fun j u hu=>?_⟩
 simp only[U,List.getElem?_map,Option.map_eq_some_iff]at hu
 obtain⟨n,hn,rfl⟩:=hu
 exact hcell j n hn
theorem SeqR.limbs{w:World}{S:Nat→Prop}{v:Value}{ls:List Nat}{n:Nat}(h:SeqR w S 1 v (U ls) n)(hlm:Lm ls):Limbs w S v ls:=by
 obtain⟨h0,h1,h2,a,c,rfl,hc,hcell⟩:=h
 have hn:n=ls.length:=by rw[U_len]at h1;omega
 subst hn
 exact⟨hlm,by unfold maxLen at h0;omega,a,c,rfl,hc,fun j x hx=>hcell j _ (U_get hx)⟩
/-- a row of one's own is read -/
theorem rowSeq{w:World}{B e sz m:Nat}{v:Value}{xs:List Value}(h:w.ownsRow B e sz v m xs)(h1:∀u∈xs,u.oneCell'=true)(hm:m≤maxLen):SeqR w (fun g=>B≤g∧g<w.heap.size) sz v xs m:=by
 rcases h.2 with⟨rfl,rfl⟩|⟨g,cap,cur,rfl,hb,hc,hmc,hcap,hsz,htake⟩
 ·refine⟨hm,h.1,h1,none,0,rfl,Nat.le_refl _,fun j u hu=>?_⟩
  have:=h.1
  rw[Nat.zero_mul]at this
  rw[List.eq_nil_of_length_eq_zero this]at hu
  cases hu
 ·refine⟨hm,h.1,h1,_,cap,rfl,hmc,fun j u hu=>⟨_,rfl,⟨hb,(Array.getElem?_eq_some_iff.1 hc).1⟩,?_⟩⟩
  have h0:(⟨g,0,none⟩:Addr).add j=⟨g,j,none⟩:=by
   cases j with
   |zero=>rfl
   |succ j=>simp[Addr.add]
  have hu2:cur.toList[j]? =some u:=by
   rw[←htake,List.getElem?_take]at hu
   split at hu
   ·exact hu
   ·cases hu
  rw[h0,cell_of (g:=g) (cs:=cur.toList) (by simpa using hc)]
  exact hu2
theorem wrapI64n{n:Nat}(h:n≤9223372036854775807):IntKind.i64.wrap (n:Int)=n:=by rw[wrap64]<;>omega
theorem quoI64n{t b:Nat}(h:t≤9223372036854775807):IntKind.i64.wrap ((t:Int).tdiv (b:Int))=((t / b:Nat):Int):=by
 have h1:=Nat.div_le_self t b
 rw[Int.tdiv_eq_ediv_of_nonneg (by omega),←Int.natCast_ediv]
 exact wrapI64n (by omega)
theorem U_append(a b:List Nat):U (a++b)=U a++U b:=by simp[U]
theorem raised_c{S:Nat→Prop}{w:World}{v:Value}{n b:Nat}(hS:Old S w)(h:NatR w S v n)(hln:ln n≤100000000000)(hb:b≤3200000000000):
  Con PG N.exact_nat_raised #[v,.int .i64 b] w (Ret w fun v' w2=>NatR w2 (Nw (fun _=>False) w w2) v' (n*2^b)):=by
 obtain⟨ls,hl,hz,hv⟩:=h
 have hlen:=length_ln hl.lm hz
 rw[hv]at hlen
 replace hl:=hl.arg []
 obtain⟨a,m,c,rfl⟩:=hl.shape
 have hm:m=ls.length:=by
  obtain⟨_,_,e,_⟩:=hl.sl
  injection e
 refine in_exact_nat_raised (by simp) ?_
 conv=>whnf
 refine⟨by decide,((b / 32:Nat):Int),quoI64n (by omega),?_⟩
 conv=>whnf
 refine⟨b / 32,b / 32,rfl,rfl,Nat.le_refl _,by omega,by omega,?_⟩
 conv=>whnf
 refine callE_S (callE_con (Φ:=fun _ w' v w2=>Limbs w2 (Nw (fun _=>False) w' w2) v (List.replicate (b / 32) 0++ls)) (fun ρ w' r=>?_) ?_)
 ·have hA:=r.arrSeq (id:=0) (sz:=1) (n:=b / 32) rfl (by simp) (by unfold maxLen;omega) (by simp[Value.oneCell'])
  have hB:=r.boxSeq (id:=1) (sz:=1) (n:=2) rfl rfl (by unfold maxLen;omega) (by intro u hu;simp at hu;rcases hu with rfl|rfl<;>rfl)
  have hL1:=(Limbs.rel hl r hS).seq
  refine(concatN_c (S:=fun g=>Cv S w.heap.size [] g∨g=(ρ 0).g∨g=(ρ 1).g) (parts:=[(.slice (some ⟨(ρ 0).g,0,none⟩) (b / 32) (b / 32),List.replicate (b / 32) (.int .u32 0),b / 32),(.slice a m c,U ls,ls.length)]) ?_ ?_ ?_ ?_).mono fun e w2 ⟨v2,e1,e2,e3⟩=>⟨v2,e1,e2,?_⟩
  ·intro g hg
   rcases hg with hg|hg|hg
   ·exact Rel.old r hS g hg
   ·rw[hg];exact(r.low 0 _ rfl (r.nn 0 _ rfl (by intros;simp) (by simp))).2
   ·rw[hg];exact(r.low 1 _ rfl (r.nn 1 _ rfl (by intros;simp) (by simp))).2
  ·exact hB.weak fun g hg=>.inr (.inr hg)
  ·intro p hp
   simp only[List.mem_cons,List.not_mem_nil,or_false]at hp
   rcases hp with rfl|rfl
   ·exact hA.weak fun g hg=>.inr (.inl hg)
   ·exact hL1.weak fun g hg=>.inl hg
  ·simp[nsum];omega
  ·have e4:=rowSeq e3 (by
    intro u hu
    simp only[List.flatMap_cons,List.flatMap_nil,List.append_nil,List.mem_append,List.mem_replicate,U,List.mem_map]at hu
    rcases hu with⟨_,rfl⟩|⟨_,_,rfl⟩<;>rfl) (by simp[nsum,maxLen];omega)
   refine SeqR.limbs (n:=b / 32+ls.length) ?_ ((Lm.replicate _).append hl.lm)
   ·have e5:U (List.replicate (b / 32) 0++ls)=List.replicate (b / 32) (Value.int .u32 0)++U ls:=by rw[U_append,U_zero]
    rw[e5]
    have e6:=e4.weak (S':=Nw (fun _=>False) w' w2) fun g hg=>.inr hg
    simpa [nsum]using e6
 rintro ρ wa v1 wb r he hb1 hL
 have hLN:=hL.got (S:=fun _=>False) r.baseLe (iv:=[(wa.heap.size,wb.heap.size)]) List.mem_cons_self
 clear r he hL hl
 generalize [(wa.heap.size,wb.heap.size)]=iv at*
 obtain⟨a1,m1,c1,rfl⟩:=hLN.shape
 conv=>whnf
 refine⟨by decide,((b % 32:Nat):Int),rem64n b 32,?_⟩
 conv=>whnf
 refine⟨((b % 32:Nat):Int),wrapU64n (by omega),?_⟩
 conv=>whnf
 have hlen2:(List.replicate (b / 32) 0++ls).length≤200000000000:=by simp;omega
 have hval:val (List.replicate (b / 32) 0++ls)*2^(b % 32)=n*2^b:=by
  rw[val_append,val_replicate,List.length_replicate,Nat.zero_add,wt_two,hv,Nat.mul_comm (2^_) n,Nat.mul_assoc,←Nat.pow_add]
  congr 2
  omega
 generalize List.replicate (b / 32) 0++ls=ls2 at*
 refine callE_S (callE_con (Φ:=fun _ w' v w2=>∃out,Limbs w2 (Nw (fun _=>False) w' w2) v out∧out.length≤1000000000001∧val out=val ls2*2^(b % 32)) (fun ρ w' r=>?_) ?_)
 ·refine(shifted_c (Rel.old r (oldF w)) (Limbs.rel hLN r (oldF w)) (by omega) (Nat.mod_lt b (by decide))).mono fun e w2 ⟨v2,e1,e2,out,e3,e4,e5⟩=>⟨v2,e1,e2,out,?_,by omega,e5⟩
  obtain⟨g,rfl,hg1,hg2,hg3⟩:=e3
  exact(fullRow hg2 hg3 (by omega)).weak fun x hx=>.inr ⟨by omega,by have:=(Array.getElem?_eq_some_iff.1 hg2).1;omega⟩
 rintro ρ wc v2 wd r he hb2 ⟨out,hO,ho1,ho2⟩
 replace hb1:=hb1.tr hb2
 have hON:=hO.got (S:=fun _=>False) r.baseLe (iv:=(wc.heap.size,wd.heap.size)::iv) List.mem_cons_self
 clear r he hO hLN hb2
 generalize (wc.heap.size,wd.heap.size)::iv=iv2 at*
 obtain⟨a2,m2,c2,rfl⟩:=hON.shape
 conv=>whnf
 refine callE_S (callE_con (Φ:=fun _ _ v w2=>Limbs w2 (Cv (fun _=>False) w.heap.size iv2) v (trimL out)) (fun ρ w' r=>trimmed_c (Rel.old r (oldF w)) (Limbs.rel hON r (oldF w))) ?_)
 rintro ρ we v3 wf r he hb3 hT
 replace hb1:=hb1.tr hb3
 have hN:=hT.trimmed
 rw[ho2,hval]at hN
 clear r he hT hON hb3
 obtain⟨a3,m3,c3,rfl⟩:=hN.shape
 conv=>whnf
 intro ρ5 w5 r5
 exact⟨_,rfl,hb1.tr r5.bel,(hN.weak fun g hg=>hg.cons).out r5 (oldF w)⟩
end Go.Ex

/- The square root of a natural number: Newton's steps. No condition. -/
namespace Go.Ex
open Go Go.Sx Go.Proofs

/-- a number has been found whose square is at most n, and the next one's is not -/
def IsRoot(n r:Nat):Prop:=r*r≤n∧n<(r+1)*(r+1)
theorem newton_below{n x:Nat}(hn:0<n)(hx:0<x):n<((x+n / x) / 2+1)*((x+n / x) / 2+1)∧0<(x+n / x) / 2:=by
 have h1:n<x*(n / x+1):=by
  have:=Nat.div_add_mod n x
  have:=Nat.mod_lt n hx
  rw[Nat.mul_add,Nat.mul_one]
  omega
 generalize n / x=q at*
 obtain⟨y,hy⟩:∃y,y=(x+q) / 2:=⟨_,rfl⟩
 rw[←hy]
 have h2:x+q+1≤2*(y+1):=by omega
 have h3:(x+(q+1))*(x+(q+1))≤(2*(y+1))*(2*(y+1)):=Nat.mul_le_mul (by omega) (by omega)
 have h4:4*(x*(q+1))≤(x+(q+1))*(x+(q+1)):=by
  generalize q+1=p
  rw[Nat.mul_add,Nat.add_mul,Nat.add_mul,Nat.mul_comm p x]
  rcases Nat.le_total x p with h|h
  ·obtain⟨d,rfl⟩:=Nat.le.dest h
   rw[Nat.mul_add,Nat.add_mul,Nat.mul_add,Nat.mul_add,Nat.mul_add,Nat.mul_comm d x]
   omega
  ·obtain⟨d,rfl⟩:=Nat.le.dest h
   rw[Nat.mul_add,Nat.add_mul,Nat.add_mul,Nat.mul_add,Nat.mul_comm d p]
   omega
 have h5:(2*(y+1))*(2*(y+1))=4*((y+1)*(y+1)):=by
  rw[Nat.mul_assoc,Nat.mul_left_comm (y+1) 2,←Nat.mul_assoc,←Nat.mul_assoc]
 refine⟨by omega,?_⟩
 rcases Nat.eq_zero_or_pos y with h|h
 ·subst h
  omega
 ·exact h
theorem newton_done{n x:Nat}(_:0<x)(h:x≤(x+n / x) / 2):x*x≤n:=by
 have h1:x≤n / x:=by omega
 exact Nat.le_trans (Nat.mul_le_mul_left x h1) (Nat.mul_div_le n x)
theorem cmpN_ge{a b:Nat}:(cmpN a b≥0)↔b≤a:=by
 unfold cmpN
 split
 ·omega
 ·split<;>omega

theorem root_c{S:Nat→Prop}{w:World}{v:Value}{n:Nat}(hS:Old S w)(h:NatR w S v n)(hln:ln n≤10000000000):
  Con PG N.exact_nat_root #[v] w (Ret w fun v' w2=>∃r,IsRoot n r∧NatR w2 (Nw (fun _=>False) w w2) v' r):=by
 have hn:=h.arg []
 obtain⟨p,rfl,hp1,hp2⟩:=h.la
 have hpl:=length_ln p.lm hp2
 rw[hp1]at hpl
 have hpz:=ln_pos hpl
 refine in_exact_nat_root (by simp) ?_
 conv=>whnf
 refine BrS.mk (fun h0=>?_) (fun h0=>?_)
 ·have h0:n=0:=by have:=eq_of_beq h0;omega
  conv=>whnf
  intro ρ5 w5 r5
  exact⟨_,rfl,r5.bel,0,⟨by omega,by omega⟩,NatR.nil _ _⟩
 have h0:0<n:=by
  have:(p.ls.length:Int)≠0:=fun e=>by rw[e]at h0;exact absurd h0 (by decide)
  omega
 conv=>whnf
 refine⟨((32*p.ls.length:Nat):Int),by rw[wrap64]<;>omega,?_⟩
 conv=>whnf
 refine⟨((32*p.ls.length+1:Nat):Int),by rw[wrap64]<;>omega,?_⟩
 conv=>whnf
 refine⟨by decide,(((32*p.ls.length+1) / 2:Nat):Int),quoI64n (by omega),?_⟩
 conv=>whnf
 refine⟨(((32*p.ls.length+1) / 2+1:Nat):Int),by rw[wrap64]<;>omega,?_⟩
 conv=>whnf
 have hstart:n<(2^((32*p.ls.length+1) / 2+1)+1)*(2^((32*p.ls.length+1) / 2+1)+1):=by
  have h1:=lt_wt_ln n
  rw[←hpl,wt_two]at h1
  have h2:2^(32*p.ls.length)≤2^((32*p.ls.length+1) / 2+1)*2^((32*p.ls.length+1) / 2+1):=by
   rw[←Nat.pow_add]
   exact Nat.pow_le_pow_right (by decide) (by omega)
  have h3:=Nat.mul_le_mul (Nat.le_succ (2^((32*p.ls.length+1) / 2+1))) (Nat.le_succ (2^((32*p.ls.length+1) / 2+1)))
  simp only[Nat.succ_eq_add_one]at h3
  omega
 have hbb:(32*p.ls.length+1) / 2+1≤320000000000:=by omega
 generalize (32*p.ls.length+1) / 2+1=b at*
 have hlx:ln (2^b)≤100000000000:=by
  refine ln_le.2 ?_
  rw[wt_two]
  have hb32:b<32*100000000000:=by omega
  generalize 32*100000000000=e at hb32
  exact Nat.pow_lt_pow_right (by decide) hb32
 refine callE_S (callE_con (Φ:=fun _ w' v w2=>NatR w2 (Nw (fun _=>False) w' w2) v (2^b)) (fun ρ w' r=>?_) ?_)
 ·have hB:=(r.boxLimbs (id:=0) (ls:=[1]) rfl (by intro x hx;simp at hx;omega) (by simp)).nat (by simp[Nz])
  refine(raised_c (fun g hg=>by rw[hg];exact(r.low 0 _ rfl (r.nn 0 _ rfl (by intros;simp) (by simp))).2) hB (by decide) (by omega)).mono fun e w2 ⟨v2,e1,e2,e3⟩=>⟨v2,e1,e2,?_⟩
  have:val [1]*2^b=2^b:=by simp[val]
  rw[this]at e3
  exact e3
 rintro ρ wa v1 wb r he hb hx
 have hX:=hx.got (S:=fun _=>False) r.baseLe (iv:=[(wa.heap.size,wb.heap.size)]) List.mem_cons_self
 replace hn:=hn.past (iv':=[(wa.heap.size,wb.heap.size)]) r hS he fun x hx=>List.mem_cons_of_mem _ hx
 clear r he hx
 generalize [(wa.heap.size,wb.heap.size)]=iv at*
 obtain⟨a1,m1,c1,rfl⟩:=hX.shape
 conv=>whnf
 refine⟨(Value×Nat)×Iv×World,fun z=>⟨[(0,.o (.v (.slice p.a p.ls.length p.c))),(3,.o (.v z.1.1))],[],0,z.2.1,z.2.2⟩,fun z=>z.1.2,
  fun z=>Bel w.heap.size w z.2.2∧NatR z.2.2 (Cv S w.heap.size z.2.1) (.slice p.a p.ls.length p.c) n∧NatR z.2.2 (Cv (fun _=>False) w.heap.size z.2.1) z.1.1 z.1.2∧0<z.1.2∧ln z.1.2≤100000000000∧n<(z.1.2+1)*(z.1.2+1),?_,?_⟩
 ·intro ρ w' r
  exact⟨((_,2^b),iv,w'),⟨hb.tr r.bel,hn.rel r hS,hX.rel r (oldF w),Nat.two_pow_pos b,hlx,hstart⟩,
   Sub.gen [] r trivial ⟨rfl,rfl,trivial⟩ trivial (by simp[ScE,SV.sc,At.sc]) (by rfl) (fun lo hi h=>h)⟩
 clear hX hn hb hstart hlx
 rintro⟨⟨vx,x⟩,iv,w1⟩ ⟨hw,hn,hX,hx0,hlx,hlt⟩
 dsimp only at hw hn hX hx0 hlx hlt ⊢
 obtain⟨a2,m2,c2,rfl⟩:=hX.shape
 conv=>whnf
 refine callE_S (callE_con (Φ:=fun _ w' v w2=>∃q r,v= .tuple #[q,r]∧NatR w2 (Nw (fun _=>False) w' w2) q (n / x)∧NatR w2 (Nw (Cv S w.heap.size iv) w' w2) r (n % x)) (fun ρ w' r=>divide_c (Rel.old r hS) (hn.rel r hS) ((hX.rel r (oldF w)).weak fun g hg=>by rcases hg with h|h;exact h.elim;exact .inr h) hx0 (by omega)) ?_)
 rintro ρ w3 v3 w4 r he hb4 ⟨q,rm,rfl,hq,hrm⟩
 replace hw:=hw.tr hb4
 have hQ:=hq.got (S:=fun _=>False) r.baseLe (iv:=(w3.heap.size,w4.heap.size)::iv) List.mem_cons_self
 have hR:=hrm.old r.baseLe
 replace hn:=hn.past (iv':=(w3.heap.size,w4.heap.size)::iv) r hS he fun x hx=>List.mem_cons_of_mem _ hx
 replace hX:=hX.past (iv':=(w3.heap.size,w4.heap.size)::iv) r (oldF w) he fun x hx=>List.mem_cons_of_mem _ hx
 clear r he hq hrm hb4
 generalize (w3.heap.size,w4.heap.size)::iv=iv2 at*
 obtain⟨a3,m3,c3,rfl⟩:=hQ.shape
 obtain⟨a4,m4,c4,rfl⟩:=hR.shape
 clear hR
 have hlq:=@ln_div n x
 conv=>whnf
 refine callE_S (callE_con (Φ:=fun _ w' v w2=>NatR w2 (Nw (fun _=>False) w' w2) v (x+n / x)) (fun ρ w' r=>plus_c (Rel.old r (oldF w)) (hX.rel r (oldF w)) (hQ.rel r (oldF w)) (by omega) (by omega)) ?_)
 rintro ρ w5 v5 w6 r he hb4 hp
 replace hw:=hw.tr hb4
 have hP:=hp.got (S:=fun _=>False) r.baseLe (iv:=(w5.heap.size,w6.heap.size)::iv2) List.mem_cons_self
 replace hn:=hn.past (iv':=(w5.heap.size,w6.heap.size)::iv2) r hS he fun x hx=>List.mem_cons_of_mem _ hx
 replace hX:=hX.past (iv':=(w5.heap.size,w6.heap.size)::iv2) r (oldF w) he fun x hx=>List.mem_cons_of_mem _ hx
 clear r he hp hb4 hQ
 generalize (w5.heap.size,w6.heap.size)::iv2=iv3 at*
 obtain⟨a5,m5,c5,rfl⟩:=hP.shape
 have hlp:=ln_add x (n / x)
 conv=>whnf
 refine callE_S (callE_con (Φ:=fun _ w' v w2=>NatR w2 (Nw (fun _=>False) w' w2) v ((x+n / x) / 2)) (fun ρ w' r=>?_) ?_)
 ·obtain⟨ls,k1,k2,k3⟩:=hP.rel r (oldF w)
  have:=back_c (b:=1) (Rel.old r (oldF w)) k1 (by have:=length_ln k1.lm k2;rw[k3]at this;omega) (by decide)
  rw[k3]at this
  exact this
 rintro ρ w7 v7 w8 r he hb4 hp
 replace hw:=hw.tr hb4
 have hY:=hp.got (S:=fun _=>False) r.baseLe (iv:=(w7.heap.size,w8.heap.size)::iv3) List.mem_cons_self
 replace hn:=hn.past (iv':=(w7.heap.size,w8.heap.size)::iv3) r hS he fun x hx=>List.mem_cons_of_mem _ hx
 replace hX:=hX.past (iv':=(w7.heap.size,w8.heap.size)::iv3) r (oldF w) he fun x hx=>List.mem_cons_of_mem _ hx
 clear r he hp hb4 hP
 generalize (w7.heap.size,w8.heap.size)::iv3=iv4 at*
 obtain⟨a7,m7,c7,rfl⟩:=hY.shape
 obtain⟨hlt2,hy0⟩:=newton_below h0 hx0
 have hdone:=@newton_done n x hx0
 generalize (x+n / x) / 2=y at*
 conv=>whnf
 refine callE_S (callE_con (Φ:=fun _ _ v _=>v= .int .i64 (cmpN y x)) (fun ρ w' r=>cmp_c (Rel.old r (oldF w)) (hY.rel r (oldF w)) (hX.rel r (oldF w))) ?_)
 rintro ρ w9 v9 w10 r he hb4 rfl
 replace hw:=hw.tr hb4
 replace hY:=hY.past (iv':=(w9.heap.size,w10.heap.size)::iv4) r (oldF w) he fun x hx=>List.mem_cons_of_mem _ hx
 replace hn:=hn.past (iv':=(w9.heap.size,w10.heap.size)::iv4) r hS he fun x hx=>List.mem_cons_of_mem _ hx
 replace hX:=hX.past (iv':=(w9.heap.size,w10.heap.size)::iv4) r (oldF w) he fun x hx=>List.mem_cons_of_mem _ hx
 clear r he hb4
 generalize (w9.heap.size,w10.heap.size)::iv4=iv5 at*
 conv=>whnf
 refine BrS.mk (fun h=>?_) (fun h=>?_)
 ·have h:x≤y:=cmpN_ge.1 (of_decide_eq_true h)
  conv=>whnf
  intro ρe we re
  exact⟨_,rfl,hw.tr re.bel,x,⟨hdone h,hlt⟩,hX.out re (oldF w)⟩
 ·have h:y<x:=by
   have h2:¬cmpN y x≥0:=of_decide_eq_false h
   rw[cmpN_ge]at h2
   omega
  conv=>whnf
  intro ρe we re
  exact⟨((_,y),iv5,we),⟨hw.tr re.bel,hn.rel re hS,hY.rel re (oldF w),hy0,Nat.le_trans (ln_mono (Nat.le_of_lt h)) hlx,hlt2⟩,
   Sub.gen [] re trivial ⟨rfl,rfl,trivial⟩ trivial (by simp[ScE,SV.sc,At.sc]) (by rfl) (fun lo hi h=>h),h⟩
end Go.Ex

/- RootBelow of package exact. Printed by program. No condition. -/
namespace Go.Ex
open Go Go.Sx Go.Proofs

/-- a fraction of the api that is nothing -/
def ratNil:Value:=.agg #[.bool false,.slice none 0 0,.bool false,.slice none 0 0]
theorem NatR.num{S:Nat→Prop}{w:World}{nv:Value}{n:Nat}(h:NatR w S nv n):NumR w S (.agg #[.bool false,nv]) (n:Int):=⟨nv,by rw[decide_eq_false (show ¬((n:Int)<0) by omega)],h⟩
theorem ln_small{n:Int}(h1: -9223372036854775808≤n)(h2:n≤9223372036854775807):ln n.natAbs≤2:=ln_le.2 (by show n.natAbs<4294967296^2;omega)
theorem ln_sq{n:Nat}{r:Nat}(h:IsRoot n r):ln r≤ln n:=by
 refine ln_mono ?_
 rcases Nat.eq_zero_or_pos r with h0|h0
 ·omega
 ·have:=h.1
  have h2:=Nat.le_mul_of_pos_right r h0
  omega
theorem pubRootBelow_c(n den:Int)(w:World)(hn1: -9223372036854775808≤n)(hn2:n≤9223372036854775807)(hd1: -9223372036854775808≤den)(hd2:den≤9223372036854775807):
  Con PG N.exact_RootBelow #[.int .i64 n,.int .i64 den] w (Ret w fun v' w2=>((n<0∨den<1∨1000000<den)∧v'= .tuple #[ratNil,.int .i64 2])∨
   (¬(n<0∨den<1∨1000000<den)∧∃r q,IsRoot (n*den*den).natAbs r∧v'= .tuple #[q,.int .i64 0]∧RatC w2 (Nw (fun _=>False) w w2) q (Rat.divInt r den))):=by
 have hw:Bel w.heap.size w w:=Bel.refl
 refine in_exact_RootBelow (by simp) ?_
 conv=>whnf
 refine BrS.mk (fun h1=>?_) (fun h1=>?_)
 ·have h1:=of_decide_eq_true h1
  conv=>whnf
  intro ρe we re
  exact⟨_,rfl,hw.tr re.bel,.inl ⟨by omega,rfl⟩⟩
 have h1:=of_decide_eq_false h1
 conv=>whnf
 refine BrS.mk (fun h2=>?_) (fun h2=>?_)
 ·have h2:=of_decide_eq_true h2
  conv=>whnf
  intro ρe we re
  exact⟨_,rfl,hw.tr re.bel,.inl ⟨by omega,rfl⟩⟩
 have h2:=of_decide_eq_false h2
 conv=>whnf
 refine BrS.mk (fun h3=>?_) (fun h3=>?_)
 ·have h3:=of_decide_eq_true h3
  conv=>whnf
  intro ρe we re
  exact⟨_,rfl,hw.tr re.bel,.inl ⟨by omega,rfl⟩⟩
 have h3:=of_decide_eq_false h3
 have hl1:=@ln_small n (by omega) (by omega)
 have hl2:=@ln_small den (by omega) (by omega)
 have hl3:=ln_mul_abs n den
 have hl4:=ln_mul_abs (n*den) den
 conv=>whnf
 refine callE_S (callE_con (Φ:=fun _ w' v w2=>NumR w2 (Nw (fun _=>False) w' w2) v den) (fun ρ w' r=>small_c den w' (by omega) (by omega)) ?_)
 rintro ρ wa1 v1 wb1 r he hb hn
 replace hw:=hw.tr hb
 have hD:=hn.got (S:=fun _=>False) r.baseLe (iv:=(wa1.heap.size,wb1.heap.size)::[]) List.mem_cons_self
 clear r he hb hn
 generalize (wa1.heap.size,wb1.heap.size)::[]=iv1 at*
 obtain⟨s1_0,s1_1,s1_2,s1_3,rfl⟩:=hD.shape
 conv=>whnf
 refine drawn_of_pi hτ hmix [.x 0,.x 2,.x 4,.x 1,.x 3,.x 5,.x 6,.x 7,.x 8] (by kernel_rfl) (by kernel_rfl) ?_
 conv=>whnf
 refine callE_con (Φ:=fun _ w' v w2=>NumR w2 (Nw (fun _=>False) w' w2) v n) (fun ρ w' r=>small_c n w' (by omega) (by omega)) ?_
 rintro ρ wa2 v2 wb2 r he hb hn
 replace hw:=hw.tr hb
 replace hD:=hD.past (iv':=(wa2.heap.size,wb2.heap.size)::iv1) r (oldF w) he fun x hx=>List.mem_cons_of_mem _ hx
 have hN:=hn.got (S:=fun _=>False) r.baseLe (iv:=(wa2.heap.size,wb2.heap.size)::iv1) List.mem_cons_self
 clear r he hb hn
 generalize (wa2.heap.size,wb2.heap.size)::iv1=iv2 at*
 obtain⟨s2_0,s2_1,s2_2,s2_3,rfl⟩:=hN.shape
 conv=>whnf
 refine callE_con (Φ:=fun _ w' v w2=>NumR w2 (Nw (fun _=>False) w' w2) v (n*den)) (fun ρ w' r=>numTimes_c (Rel.old r (oldF w)) (hN.rel r (oldF w)) (hD.rel r (oldF w)) (by omega) (by omega)) ?_
 rintro ρ wa3 v3 wb3 r he hb hn
 replace hw:=hw.tr hb
 replace hD:=hD.past (iv':=(wa3.heap.size,wb3.heap.size)::iv2) r (oldF w) he fun x hx=>List.mem_cons_of_mem _ hx
 clear hN
 have hA:=hn.got (S:=fun _=>False) r.baseLe (iv:=(wa3.heap.size,wb3.heap.size)::iv2) List.mem_cons_self
 clear r he hb hn
 generalize (wa3.heap.size,wb3.heap.size)::iv2=iv3 at*
 obtain⟨s3_0,s3_1,s3_2,s3_3,rfl⟩:=hA.shape
 conv=>whnf
 refine callE_con (Φ:=fun _ w' v w2=>NumR w2 (Nw (fun _=>False) w' w2) v (n*den*den)) (fun ρ w' r=>numTimes_c (Rel.old r (oldF w)) (hA.rel r (oldF w)) (hD.rel r (oldF w)) (by omega) (by omega)) ?_
 rintro ρ wa4 v4 wb4 r he hb hn
 replace hw:=hw.tr hb
 replace hD:=hD.past (iv':=(wa4.heap.size,wb4.heap.size)::iv3) r (oldF w) he fun x hx=>List.mem_cons_of_mem _ hx
 clear hA
 have hB:=hn.got (S:=fun _=>False) r.baseLe (iv:=(wa4.heap.size,wb4.heap.size)::iv3) List.mem_cons_self
 clear r he hb hn
 generalize (wa4.heap.size,wb4.heap.size)::iv3=iv4 at*
 obtain⟨s4_0,s4_1,s4_2,s4_3,rfl⟩:=hB.shape
 conv=>whnf
 have hBn:=hB.nat.2
 clear hB
 refine callE_con (Φ:=fun _ w' v w2=>∃r,IsRoot (n*den*den).natAbs r∧NatR w2 (Nw (fun _=>False) w' w2) v r) (fun ρ w' r=>root_c (Rel.old r (oldF w)) (hBn.rel r (oldF w)) (by omega)) ?_
 rintro ρ wa5 v5 wb5 r he hb ⟨rt,hrt,hq1⟩
 replace hw:=hw.tr hb
 replace hD:=hD.past (iv':=(wa5.heap.size,wb5.heap.size)::iv4) r (oldF w) he fun x hx=>List.mem_cons_of_mem _ hx
 clear hBn
 have hK:=hq1.got (S:=fun _=>False) r.baseLe (iv:=(wa5.heap.size,wb5.heap.size)::iv4) List.mem_cons_self
 clear r he hb
 generalize (wa5.heap.size,wb5.heap.size)::iv4=iv5 at*
 obtain⟨s5_0a,s5_0b,s5_0c,rfl⟩:=hK.shape
 conv=>whnf
 have hls:=ln_sq hrt
 have hrn:ln ((rt:Int)).natAbs=ln rt:=rfl
 refine callE_S (callE_con (Φ:=fun _ w' v w2=>FracR w2 (Nw (fun _=>False) w' w2) v (Rat.divInt rt den)) (fun ρ w' r=>over_c (Rel.old r (oldF w)) (x:=(rt:Int)) (hK.rel r (oldF w)).num (hD.rel r (oldF w)) (by omega) (by omega) (by omega)) ?_)
 rintro ρ wa6 v6 wb6 r he hb hn
 replace hw:=hw.tr hb
 clear hD
 clear hK
 have hF:=hn.got (S:=fun _=>False) r.baseLe (iv:=(wa6.heap.size,wb6.heap.size)::iv5) List.mem_cons_self
 clear r he hb hn
 generalize (wa6.heap.size,wb6.heap.size)::iv5=iv6 at*
 have hrl:=rl_divInt (a:=(rt:Int)) (b:=den) (by omega)
 obtain⟨s6_0,s6_1,s6_2,s6_3,s6_4,s6_5,s6_6,s6_7,rfl⟩:=hF.shape
 conv=>whnf
 refine callE_S (callE_con (Φ:=fun _ w' v w2=>RatC w2 (Nw (fun _=>False) w' w2) v (Rat.divInt rt den)) (fun ρ w' r=>fgive_c (Rel.old r (oldF w)) (hF.rel r (oldF w)) (by omega)) ?_)
 rintro ρ wa7 v7 wb7 r he hb hn
 replace hw:=hw.tr hb
 clear hF
 have hC:=hn.got (S:=fun _=>False) r.baseLe (iv:=(wa7.heap.size,wb7.heap.size)::iv6) List.mem_cons_self
 clear r he hb hn
 generalize (wa7.heap.size,wb7.heap.size)::iv6=iv7 at*
 obtain⟨s7_0,s7_1,s7_2,s7_3,s7_4,s7_5,s7_6,s7_7,rfl⟩:=hC.shape
 conv=>whnf
 intro ρe we re
 exact⟨_,rfl,hw.tr re.bel,.inr ⟨by omega,rt,_,hrt,rfl,hC.out re (oldF w)⟩⟩
end Go.Ex

/- TrimLeft of zeros; Join of at most one. No condition. -/
namespace Go.Ex
open Go Go.Sx Go.Proofs

theorem strOf_size(bs:List Nat):(strOf bs).size=bs.length:=by
 show(strOf bs).data.size=_
 rw[strOf_data];simp
theorem strOf_get{bs:List Nat}{i b:Nat}(h:bs[i]? =some b):(strOf bs)[i]? =some (UInt8.ofNat b):=by
 have h1:(strOf bs).data[i]? =some (UInt8.ofNat b):=by rw[strOf_data];simp[h]
 have hi:i<(strOf bs).size:=by rw[strOf_size];exact(List.getElem?_eq_some_iff.1 h).1
 rw[getElem?_pos (strOf bs) i hi]
 rw[getElem?_pos (strOf bs).data i hi]at h1
 exact h1
theorem strOf_tail(b:Nat)(r:List Nat):(strOf (b::r)).extract 1 (strOf (b::r)).size=strOf r:=by
 apply ByteArray.ext
 rw[ByteArray.data_extract,strOf_size,strOf_data,strOf_data]
 apply Array.ext'
 simp[List.take_of_length_le]
theorem und_str:PG.underlying T.string=some .string:=(hτ T.string _ rfl).i3 rfl
theorem u8n{b:Nat}(h:b<256):(UInt8.ofNat b).toNat=b:=by simp;omega
theorem trimByte_c(bs:List Nat)(w:World)(hb:∀b∈bs,b<256)(hl:bs.length≤maxLen):
  Con PG N.strings_trimLeftByte #[.string (strOf bs),.int .u8 48] w (Ret w fun v _=>v= .string (strOf (bs.dropWhile (· ==48)))):=by
 unfold maxLen at hl
 refine in_strings_trimLeftByte (by simp) ?_
 conv=>whnf
 refine⟨List Nat×World,fun z=>⟨[(0,.o (.v (.string (strOf z.1)))),(1,.o (.v (.int .u8 48)))],[],0,[],z.2⟩,fun z=>z.1.length,
  fun z=>Bel w.heap.size w z.2∧(∀b∈z.1,b<256)∧z.1.length≤9223372036854775807∧z.1.dropWhile (· ==48)=bs.dropWhile (· ==48),?_,?_⟩
 ·intro ρ w' r
  exact⟨(bs,w'),⟨r.bel,hb,hl,rfl⟩,Sub.gen [] r trivial ⟨rfl,rfl,trivial⟩ trivial (by simp[ScE,SV.sc,At.sc]) (by rfl) (fun lo hi h=>h)⟩
 clear hb hl
 rintro⟨cs,w1⟩ ⟨hw,hb,hl,hd⟩
 dsimp only at hw hb hl hd ⊢
 cases cs with
 |nil=>
  conv=>whnf
  intro ρe we re
  exact⟨_,rfl,hw.tr re.bel,by rw[←hd];rfl⟩
 |cons c r=>
  have hc:=hb c (by simp)
  conv=>whnf
  refine BrS.mk (fun h=>?_) (fun h=>?_)
  ·clear h
   conv=>whnf
   refine opS_index und_str (by rfl) (by rfl) (by decide) (strOf_get (bs:=c::r) (i:=0) (b:=c) (by rfl)) (fun ρ w2 r2=>?_)
   rw[u8n hc]
   replace hw:=hw.tr r2.bel
   clear r2
   conv=>whnf
   refine BrS.mk (fun h=>?_) (fun h=>?_)
   ·have h:c=48:=by have:=eq_of_beq h;omega
    subst h
    conv=>whnf
    refine⟨⟨by omega,by rw[strOf_size];simp;omega,by omega⟩,?_⟩
    conv=>whnf
    intro ρ3 w3 r3
    have ht:=strOf_tail 48 r
    exact⟨(r,w3),⟨hw.tr r3.bel,fun b hb'=>hb b (List.mem_cons_of_mem _ hb'),by dsimp only;simp at hl;omega,by rw[←hd];rfl⟩,
     Sub.gen [] r3 trivial ⟨by rw[←ht];rfl,rfl,trivial⟩ trivial (by simp[ScE,SV.sc,At.sc]) (by rfl) (fun lo hi h=>h),by simp⟩
   ·have h:c≠48:=fun e=>by subst e;exact absurd h (by decide)
    conv=>whnf
    intro ρe we re
    refine⟨_,rfl,hw.tr re.bel,?_⟩
    rw[←hd,List.dropWhile_cons,if_neg (by simpa using h)]
    rfl
  ·exact absurd (of_decide_eq_false h) (by rw[strOf_size];simp)

theorem trimLeft_c(bs:List Nat)(w:World)(hb:∀b∈bs,b<256)(hl:bs.length≤maxLen):
  Con PG N.strings_TrimLeft #[.string (strOf bs),.string ⟨#[48]⟩] w (Ret w fun v _=>v= .string (strOf (bs.dropWhile (· ==48)))):=by
 have key:=fun w'=>trimByte_c bs w' hb hl
 have hnil:strOf bs=⟨#[]⟩→bs=[]:=fun h=>by
  have:(strOf bs).data.toList=[]:=by rw[h]
  rw[strOf_data]at this
  simpa using this
 have hres:strOf bs=⟨#[]⟩→strOf (bs.dropWhile (· ==48))=⟨#[]⟩:=fun h=>by rw[hnil h];rfl
 generalize strOf (bs.dropWhile (· ==48))=out at*
 generalize strOf bs=s at*
 clear hb hl hnil
 refine in_strings_TrimLeft (by simp) ?_
 conv=>whnf
 refine BrS.mk (fun h=>?_) (fun h=>?_)
 ·have h:s=⟨#[]⟩:=by
   have h:=eq_of_beq h
   apply ByteArray.ext
   apply Array.ext'
   exact h
  conv=>whnf
  intro ρe we re
  exact⟨_,rfl,re.bel,by rw[hres h,h];rfl⟩
 ·clear h
  conv=>whnf
  refine opS_index und_str (by rfl) (by rfl) (by decide) (b:=48) (by rfl) (fun ρ w2 r2=>?_)
  have hw:=r2.bel
  clear r2
  conv=>whnf
  refine opS_index und_str (by rfl) (by rfl) (by decide) (b:=48) (by rfl) (fun ρ w3 r2=>?_)
  replace hw:=hw.tr r2.bel
  clear r2
  conv=>whnf
  refine callE_S (callE_con (Φ:=fun _ _ v _=>v= .string out) (fun ρ w' r=>key w') ?_)
  rintro ρ wa v wb r he hb2 rfl
  replace hw:=hw.tr hb2
  clear r he
  conv=>whnf
  intro ρe we re
  exact⟨_,rfl,hw.tr re.bel,rfl⟩

theorem joinNone_c(a:Option Addr)(c:Nat)(w:World):Con PG N.strings_Join #[.slice a 0 c,.string ⟨#[]⟩] w (Ret w fun v _=>v= .string ⟨#[]⟩):=by
 refine in_strings_Join (by simp) ?_
 conv=>whnf
 intro ρe we re
 exact⟨_,rfl,re.bel,rfl⟩
theorem joinOne_c{S:Nat→Prop}{w:World}{v:Value}{s:ByteArray}(hS:Old S w)(h:SeqR w S 1 v [.string s] 1):Con PG N.strings_Join #[v,.string ⟨#[]⟩] w (Ret w fun v _=>v= .string s):=by
 obtain⟨-,-,-,a,c,rfl,hc,hcell⟩:=h
 obtain⟨ad,rfl,h1,h2⟩:=hcell 0 _ rfl
 refine in_strings_Join (by simp) ?_
 conv=>whnf
 refine⟨ad,rfl,⟨by omega,by omega⟩,?_⟩
 conv=>whnf
 refine⟨.string s,fun ρ w' r=>by simpa using cellS hS Bel.refl r h1 h2,?_⟩
 conv=>whnf
 intro ρe we re
 exact⟨_,rfl,re.bel,rfl⟩
end Go.Ex

/- The digits of a natural number below 10^9. Condition: the number is below 10^9. -/
namespace Go.Ex
open Go Go.Sx Go.Proofs

def nine(n:Nat):List Nat:=(List.range 9).map fun j=>48+n / 10^(8-j) % 10
/-- the digits of a number below 10^9 -/
def dig(n:Nat):List Nat:=if n=0 then [48]else(nine n).dropWhile (· ==48)
def nineAt(k n:Nat):List At:=(List.range 9).map fun j=>At.v (.int .u8 ((if 9≤j+k then 48+n / 10^(8-j) % 10 else 0:Nat):Int))
theorem dropWhile_nil{p:Nat→Bool}:∀{l:List Nat},l.dropWhile p=[]→∀x∈l,p x=true
 |[],_,x,hx=>by cases hx
 |a::r,h,x,hx=>by
  rw[List.dropWhile_cons]at h
  split at h
  ·rename_i ha
   rcases List.mem_cons.1 hx with rfl|hx
   ·exact ha
   ·exact dropWhile_nil h x hx
  ·cases h
theorem nine_ne{n:Nat}(h0:n≠0)(h:n<1000000000):(nine n).dropWhile (· ==48)≠[]:=by
 intro e
 have:∀x∈nine n,x=48:=by
  intro x hx
  have:=dropWhile_nil e x hx
  simpa using this
 simp only[nine,List.mem_map,List.mem_range,forall_exists_index,and_imp,forall_apply_eq_imp_iff₂]at this
 have h1:=this 0 (by omega);have h2:=this 1 (by omega);have h3:=this 2 (by omega)
 have h4:=this 3 (by omega);have h5:=this 4 (by omega);have h6:=this 5 (by omega)
 have h7:=this 6 (by omega);have h8:=this 7 (by omega);have h9:=this 8 (by omega)
 simp only[Nat.reduceSub,Nat.reducePow]at h1 h2 h3 h4 h5 h6 h7 h8 h9
 omega
theorem nine_lt(n:Nat):∀b∈nine n,b<256:=by
 intro b hb
 simp only[nine,List.mem_map]at hb
 obtain⟨j,_,rfl⟩:=hb
 omega
end Go.Ex
namespace Go.Sx
open Go Go.Ex Go.Proofs
/-- a growing list of one's own -/
theorem Rel.vecSeq{H:Hp}{nx:Nat}{iv:Iv}{B:Nat}{w w':World}{ρ:Nat→Sx.Val}(r:Rel H nx iv B w ρ w'){id t m sz:Nat}{cs:List Value}(h:getH H id=some (.vec t sz cs))(hm:cs.length=m*sz)(hm1:m≤maxLen)(hs:0<sz)(h1:∀u∈cs,u.oneCell'=true):
  SeqR w' (fun g=>B≤g∧g<w'.heap.size) sz ((At.w id m).den ρ) cs m:=by
 rcases r.vec id t sz _ h with⟨hn,rfl⟩|⟨hn,spare,hb,hc,hcap⟩
 ·have hm0:m=0:=by
   rcases Nat.eq_zero_or_pos m with h|h
   ·exact h
   ·have:=Nat.mul_pos h hs;simp at hm;omega
  subst hm0
  refine⟨hm1,by simp,by simp,none,0,by simp[At.den,hn],Nat.le_refl _,by simp⟩
 ·refine⟨hm1,hm,h1,some ⟨(ρ id).g,0,none⟩,(ρ id).cap,by simp[At.den,hn],?_,fun j x hx=>⟨_,rfl,r.low id _ h hn,?_⟩⟩
  ·have h1:(cs++spare).length=cs.length+spare.length:=List.length_append
   have h2:m*sz≤(ρ id).cap*sz:=by omega
   exact Nat.le_of_mul_le_mul_right h2 hs
  ·rw[addr_add,cell_of hb,Nat.zero_add,List.getElem?_append_left (List.getElem?_eq_some_iff.1 hx).1]
   exact hx
end Go.Sx
namespace Go.Ex
open Go Go.Sx Go.Proofs

theorem quo32n{t b:Nat}(h:t<4294967296):IntKind.u32.wrap ((t:Int).tdiv (b:Int))=((t / b:Nat):Int):=by
 have h1:=Nat.div_le_self t b
 rw[Int.tdiv_eq_ediv_of_nonneg (by omega),←Int.natCast_ediv]
 rw[wrapU32 (Int.natCast_nonneg _)]
 omega
theorem nineAt_set{n k j:Nat}(h:j+k=8):(nineAt k n).set j (At.v (.int .u8 ((48+n / 10^k % 10:Nat):Int)))=nineAt (k+1) n:=by
 apply List.ext_getElem?
 intro i
 by_cases hi:i<9
 ·by_cases hij:j=i
  ·subst hij
   rw[List.getElem?_set_self (by simp[nineAt];omega)]
   simp[nineAt,hi,show 9≤j+(k+1) by omega,show 8-j=k by omega]
  ·rw[List.getElem?_set_ne hij]
   have:(9≤i+k)↔(9≤i+(k+1)):=by omega
   simp[nineAt,hi,this]
 ·rw[List.getElem?_eq_none (by simp[nineAt];omega),List.getElem?_eq_none (by simp[nineAt];omega)]

theorem digits_c{S:Nat→Prop}{w:World}{v:Value}{n:Nat}(hS:Old S w)(h:NatR w S v n)(hn:n<1000000000):
  Con PG N.exact_nat_digits #[v] w (Ret w fun v' _=>v'= .string (strOf (dig n))):=by
 have hnN:=h.arg []
 obtain⟨a,m,c,rfl⟩:=h.shape
 refine in_exact_nat_digits (by simp) ?_
 conv=>whnf
 refine⟨Bool×Value×Iv×World,fun z=>match z with
   |(false,v,iv,w1)=>⟨[(0,.o (.v v)),(3,.o (.v (.slice none 0 0)))],[],0,iv,w1⟩
   |(true,v,iv,w1)=>⟨[(0,.o (.v v)),(3,.o (.w 0 1))],[(0,.vec T.string 1 [.string (strOf (nine n))])],1,iv,w1⟩,
  fun z=>if z.1 then 0 else 1,fun z=>Bel w.heap.size w z.2.2.2∧NatR z.2.2.2 (Cv S w.heap.size z.2.2.1) z.2.1 (if z.1 then 0 else n)∧(z.1=true→n≠0),?_,?_⟩
 ·intro ρ w' r
  exact⟨(false,_,[],w'),⟨r.bel,hnN.rel r hS,by simp⟩,Sub.gen [] r trivial ⟨rfl,rfl,trivial⟩ trivial (by simp[ScE,SV.sc,At.sc]) (by rfl) (fun lo hi h=>h)⟩
 clear hnN h
 rintro⟨b,v,iv,w1⟩ ⟨hw,hv,hb0⟩
 dsimp only at hw hv hb0
 obtain⟨p,rfl,hp1,hp2⟩:=hv.la
 have hpl:=length_ln p.lm hp2
 rw[hp1]at hpl
 have hpz:=ln_pos hpl
 cases b
 ·simp only[Bool.false_eq_true,if_false]at hv hp1 hpl hpz
  conv=>whnf
  refine BrS.mk (fun h=>?_) (fun h=>?_)
  ·have h:0<n:=hpz.1 (by
    have:(p.ls.length:Int)>0:=of_decide_eq_true h
    omega)
   conv=>whnf
   refine callE_S (callE_con (Φ:=fun _ w' v w2=>∃q,v= .tuple #[q,.int .u32 (n:Int)]∧NatR w2 (Nw (fun _=>False) w' w2) q 0) (fun ρ w' r=>?_) ?_)
   ·obtain⟨ls,k1,k2,k3⟩:=hv.rel r hS
    have hl:=length_ln k1.lm k2
    rw[k3]at hl
    have:=short_c (b:=1000000000) (Rel.old r hS) k1 (by have:=(ln_le (n:=n) (k:=1)).2 (show n<4294967296 by omega);omega) (by decide) (by decide)
    rw[k3,Nat.mod_eq_of_lt hn,Nat.div_eq_of_lt hn]at this
    exact this
   rintro ρ wa v1 wb r he hb2 ⟨q,rfl,hq⟩
   replace hw:=hw.tr hb2
   have hQ:=hq.got (S:=S) r.baseLe (iv:=(wa.heap.size,wb.heap.size)::iv) List.mem_cons_self
   clear r he hq hv hb2
   generalize (wa.heap.size,wb.heap.size)::iv=iv2 at*
   obtain⟨a1,m1,c1,rfl⟩:=hQ.shape
   conv=>whnf
   refine⟨Nat×World,fun z=>⟨[(0,.o (.v (.slice p.a p.ls.length p.c))),(3,.o (.v (.slice none 0 0))),(4,.o (.v (.slice a1 m1 c1))),(5,.o (.v (.int .u32 ((n / 10^z.1:Nat):Int)))),(6,.o (.p 0 0)),(7,.o (.v (.int .i64 (8-(z.1:Int)))))],[(0,.box T._9_uint8 (nineAt z.1 n))],1,iv2,z.2⟩,
    fun z=>9-z.1,fun z=>z.1≤9∧Bel w.heap.size w z.2∧NatR z.2 (Cv S w.heap.size iv2) (.slice a1 m1 c1) 0,?_,?_⟩
   ·intro ρ w' r
    exact⟨(0,w'),⟨by simp,hw.tr r.bel,hQ.rel r hS⟩,Sub.gen [] r ⟨rfl,trivial⟩ ⟨rfl,rfl,rfl,by simp;rfl,rfl,rfl,trivial⟩ (by simp[ScH,Blk.scopd,nineAt,At.sc]) (by simp[ScE,SV.sc,At.sc]) (by rfl) (fun lo hi h=>h)⟩
   clear hw hQ
   rintro⟨k,w2⟩ ⟨hk,hw,hQ⟩
   dsimp only at hk hw hQ ⊢
   have hcase:k<9∨k=9:=by omega
   rcases hcase with hk9|rfl
   ·have hdiv:n / 10^k / 10=n / 10^(k+1):=by rw[Nat.div_div_eq_div_mul,Nat.pow_succ]
    have hle:=Nat.div_le_self n (10^k)
    have hset:∀j,j+k=8→(nineAt k n).set j (At.v (.int .u8 ((48+n / 10^k % 10:Nat):Int)))=nineAt (k+1) n:=fun j hj=>nineAt_set hj
    generalize n / 10^k=x at*
    have hcases:k=0∨k=1∨k=2∨k=3∨k=4∨k=5∨k=6∨k=7∨k=8:=by omega
    rcases hcases with rfl|rfl|rfl|rfl|rfl|rfl|rfl|rfl|rfl
    ·conv=>whnf
     refine⟨by decide,((x % 10:Nat):Int),rem64n x 10,?_⟩
     conv=>whnf
     refine⟨((48+x % 10:Nat):Int),by rw[wrapU32]<;>omega,?_⟩
     conv=>whnf
     refine⟨((48+x % 10:Nat):Int),wrapU8n (by omega),?_⟩
     conv=>whnf
     refine⟨⟨by decide,by decide⟩,?_⟩
     conv=>whnf
     refine⟨by decide,((x / 10:Nat):Int),quo32n (by omega),?_⟩
     conv=>whnf
     refine⟨8-((0+1:Nat):Int),by decide,?_⟩
     conv=>whnf
     intro ρ3 w3 r3
     have hs:=hset 8 rfl
     exact⟨(0+1,w3),⟨by dsimp only;omega,hw.tr r3.bel,hQ.rel r3 hS⟩,Sub.gen [] r3 ⟨by rw[←hs];rfl,trivial⟩ ⟨rfl,rfl,rfl,by rw[←hdiv];rfl,rfl,rfl,trivial⟩ (by simp[ScH,Blk.scopd,nineAt,At.sc]) (by simp[ScE,SV.sc,At.sc]) (by rfl) (fun lo hi h=>h),by dsimp only;omega⟩
    ·conv=>whnf
     refine⟨by decide,((x % 10:Nat):Int),rem64n x 10,?_⟩
     conv=>whnf
     refine⟨((48+x % 10:Nat):Int),by rw[wrapU32]<;>omega,?_⟩
     conv=>whnf
     refine⟨((48+x % 10:Nat):Int),wrapU8n (by omega),?_⟩
     conv=>whnf
     refine⟨⟨by decide,by decide⟩,?_⟩
     conv=>whnf
     refine⟨by decide,((x / 10:Nat):Int),quo32n (by omega),?_⟩
     conv=>whnf
     refine⟨8-((1+1:Nat):Int),by decide,?_⟩
     conv=>whnf
     intro ρ3 w3 r3
     have hs:=hset 7 rfl
     exact⟨(1+1,w3),⟨by dsimp only;omega,hw.tr r3.bel,hQ.rel r3 hS⟩,Sub.gen [] r3 ⟨by rw[←hs];rfl,trivial⟩ ⟨rfl,rfl,rfl,by rw[←hdiv];rfl,rfl,rfl,trivial⟩ (by simp[ScH,Blk.scopd,nineAt,At.sc]) (by simp[ScE,SV.sc,At.sc]) (by rfl) (fun lo hi h=>h),by dsimp only;omega⟩
    ·conv=>whnf
     refine⟨by decide,((x % 10:Nat):Int),rem64n x 10,?_⟩
     conv=>whnf
     refine⟨((48+x % 10:Nat):Int),by rw[wrapU32]<;>omega,?_⟩
     conv=>whnf
     refine⟨((48+x % 10:Nat):Int),wrapU8n (by omega),?_⟩
     conv=>whnf
     refine⟨⟨by decide,by decide⟩,?_⟩
     conv=>whnf
     refine⟨by decide,((x / 10:Nat):Int),quo32n (by omega),?_⟩
     conv=>whnf
     refine⟨8-((2+1:Nat):Int),by decide,?_⟩
     conv=>whnf
     intro ρ3 w3 r3
     have hs:=hset 6 rfl
     exact⟨(2+1,w3),⟨by dsimp only;omega,hw.tr r3.bel,hQ.rel r3 hS⟩,Sub.gen [] r3 ⟨by rw[←hs];rfl,trivial⟩ ⟨rfl,rfl,rfl,by rw[←hdiv];rfl,rfl,rfl,trivial⟩ (by simp[ScH,Blk.scopd,nineAt,At.sc]) (by simp[ScE,SV.sc,At.sc]) (by rfl) (fun lo hi h=>h),by dsimp only;omega⟩
    ·conv=>whnf
     refine⟨by decide,((x % 10:Nat):Int),rem64n x 10,?_⟩
     conv=>whnf
     refine⟨((48+x % 10:Nat):Int),by rw[wrapU32]<;>omega,?_⟩
     conv=>whnf
     refine⟨((48+x % 10:Nat):Int),wrapU8n (by omega),?_⟩
     conv=>whnf
     refine⟨⟨by decide,by decide⟩,?_⟩
     conv=>whnf
     refine⟨by decide,((x / 10:Nat):Int),quo32n (by omega),?_⟩
     conv=>whnf
     refine⟨8-((3+1:Nat):Int),by decide,?_⟩
     conv=>whnf
     intro ρ3 w3 r3
     have hs:=hset 5 rfl
     exact⟨(3+1,w3),⟨by dsimp only;omega,hw.tr r3.bel,hQ.rel r3 hS⟩,Sub.gen [] r3 ⟨by rw[←hs];rfl,trivial⟩ ⟨rfl,rfl,rfl,by rw[←hdiv];rfl,rfl,rfl,trivial⟩ (by simp[ScH,Blk.scopd,nineAt,At.sc]) (by simp[ScE,SV.sc,At.sc]) (by rfl) (fun lo hi h=>h),by dsimp only;omega⟩
    ·conv=>whnf
     refine⟨by decide,((x % 10:Nat):Int),rem64n x 10,?_⟩
     conv=>whnf
     refine⟨((48+x % 10:Nat):Int),by rw[wrapU32]<;>omega,?_⟩
     conv=>whnf
     refine⟨((48+x % 10:Nat):Int),wrapU8n (by omega),?_⟩
     conv=>whnf
     refine⟨⟨by decide,by decide⟩,?_⟩
     conv=>whnf
     refine⟨by decide,((x / 10:Nat):Int),quo32n (by omega),?_⟩
     conv=>whnf
     refine⟨8-((4+1:Nat):Int),by decide,?_⟩
     conv=>whnf
     intro ρ3 w3 r3
     have hs:=hset 4 rfl
     exact⟨(4+1,w3),⟨by dsimp only;omega,hw.tr r3.bel,hQ.rel r3 hS⟩,Sub.gen [] r3 ⟨by rw[←hs];rfl,trivial⟩ ⟨rfl,rfl,rfl,by rw[←hdiv];rfl,rfl,rfl,trivial⟩ (by simp[ScH,Blk.scopd,nineAt,At.sc]) (by simp[ScE,SV.sc,At.sc]) (by rfl) (fun lo hi h=>h),by dsimp only;omega⟩
    ·conv=>whnf
     refine⟨by decide,((x % 10:Nat):Int),rem64n x 10,?_⟩
     conv=>whnf
     refine⟨((48+x % 10:Nat):Int),by rw[wrapU32]<;>omega,?_⟩
     conv=>whnf
     refine⟨((48+x % 10:Nat):Int),wrapU8n (by omega),?_⟩
     conv=>whnf
     refine⟨⟨by decide,by decide⟩,?_⟩
     conv=>whnf
     refine⟨by decide,((x / 10:Nat):Int),quo32n (by omega),?_⟩
     conv=>whnf
     refine⟨8-((5+1:Nat):Int),by decide,?_⟩
     conv=>whnf
     intro ρ3 w3 r3
     have hs:=hset 3 rfl
     exact⟨(5+1,w3),⟨by dsimp only;omega,hw.tr r3.bel,hQ.rel r3 hS⟩,Sub.gen [] r3 ⟨by rw[←hs];rfl,trivial⟩ ⟨rfl,rfl,rfl,by rw[←hdiv];rfl,rfl,rfl,trivial⟩ (by simp[ScH,Blk.scopd,nineAt,At.sc]) (by simp[ScE,SV.sc,At.sc]) (by rfl) (fun lo hi h=>h),by dsimp only;omega⟩
    ·conv=>whnf
     refine⟨by decide,((x % 10:Nat):Int),rem64n x 10,?_⟩
     conv=>whnf
     refine⟨((48+x % 10:Nat):Int),by rw[wrapU32]<;>omega,?_⟩
     conv=>whnf
     refine⟨((48+x % 10:Nat):Int),wrapU8n (by omega),?_⟩
     conv=>whnf
     refine⟨⟨by decide,by decide⟩,?_⟩
     conv=>whnf
     refine⟨by decide,((x / 10:Nat):Int),quo32n (by omega),?_⟩
     conv=>whnf
     refine⟨8-((6+1:Nat):Int),by decide,?_⟩
     conv=>whnf
     intro ρ3 w3 r3
     have hs:=hset 2 rfl
     exact⟨(6+1,w3),⟨by dsimp only;omega,hw.tr r3.bel,hQ.rel r3 hS⟩,Sub.gen [] r3 ⟨by rw[←hs];rfl,trivial⟩ ⟨rfl,rfl,rfl,by rw[←hdiv];rfl,rfl,rfl,trivial⟩ (by simp[ScH,Blk.scopd,nineAt,At.sc]) (by simp[ScE,SV.sc,At.sc]) (by rfl) (fun lo hi h=>h),by dsimp only;omega⟩
    ·conv=>whnf
     refine⟨by decide,((x % 10:Nat):Int),rem64n x 10,?_⟩
     conv=>whnf
     refine⟨((48+x % 10:Nat):Int),by rw[wrapU32]<;>omega,?_⟩
     conv=>whnf
     refine⟨((48+x % 10:Nat):Int),wrapU8n (by omega),?_⟩
     conv=>whnf
     refine⟨⟨by decide,by decide⟩,?_⟩
     conv=>whnf
     refine⟨by decide,((x / 10:Nat):Int),quo32n (by omega),?_⟩
     conv=>whnf
     refine⟨8-((7+1:Nat):Int),by decide,?_⟩
     conv=>whnf
     intro ρ3 w3 r3
     have hs:=hset 1 rfl
     exact⟨(7+1,w3),⟨by dsimp only;omega,hw.tr r3.bel,hQ.rel r3 hS⟩,Sub.gen [] r3 ⟨by rw[←hs];rfl,trivial⟩ ⟨rfl,rfl,rfl,by rw[←hdiv];rfl,rfl,rfl,trivial⟩ (by simp[ScH,Blk.scopd,nineAt,At.sc]) (by simp[ScE,SV.sc,At.sc]) (by rfl) (fun lo hi h=>h),by dsimp only;omega⟩
    ·conv=>whnf
     refine⟨by decide,((x % 10:Nat):Int),rem64n x 10,?_⟩
     conv=>whnf
     refine⟨((48+x % 10:Nat):Int),by rw[wrapU32]<;>omega,?_⟩
     conv=>whnf
     refine⟨((48+x % 10:Nat):Int),wrapU8n (by omega),?_⟩
     conv=>whnf
     refine⟨⟨by decide,by decide⟩,?_⟩
     conv=>whnf
     refine⟨by decide,((x / 10:Nat):Int),quo32n (by omega),?_⟩
     conv=>whnf
     refine⟨8-((8+1:Nat):Int),by decide,?_⟩
     conv=>whnf
     intro ρ3 w3 r3
     have hs:=hset 0 rfl
     exact⟨(8+1,w3),⟨by dsimp only;omega,hw.tr r3.bel,hQ.rel r3 hS⟩,Sub.gen [] r3 ⟨by rw[←hs];rfl,trivial⟩ ⟨rfl,rfl,rfl,by rw[←hdiv];rfl,rfl,rfl,trivial⟩ (by simp[ScH,Blk.scopd,nineAt,At.sc]) (by simp[ScE,SV.sc,At.sc]) (by rfl) (fun lo hi h=>h),by dsimp only;omega⟩
   ·have hn9:nineAt 9 n=(nine n).map fun b:Nat=>At.v (.int .u8 (b:Int)):=by
     apply List.ext_getElem?
     intro i
     by_cases hi:i<9
     ·simp[nineAt,nine,hi]
     ·rw[List.getElem?_eq_none (by simp[nineAt];omega),List.getElem?_eq_none (by simp[nine];omega)]
    rw[hn9]
    have hl9:(nine n).length=9:=by simp[nine]
    generalize nine n=bs at*
    clear hn9
    conv=>whnf
    refine opS_str (e:=T.uint8) (bs:=bs) ((hτ T.Luint8 _ rfl).i4 rfl) ((hτ T.uint8 _ rfl).i1 rfl) und_str (by rfl) (by rfl) hl9 (fun ρ w3 r=>?_)
    replace hw:=hw.tr r.bel
    replace hQ:=hQ.rel r hS
    clear r
    generalize strOf bs=str at*
    conv=>whnf
    refine .inl ?_
    conv=>whnf
    refine⟨[],rfl,by simp,fun ρ w' r h0=>absurd h0 (by decide),?_⟩
    conv=>whnf
    refine⟨rfl,by decide,by decide,?_⟩
    conv=>whnf
    intro ρ3 w3 r3
    exact⟨(true,.slice a1 m1 c1,iv2,w3),⟨hw.tr r3.bel,hQ.rel r3 hS,fun _=>by omega⟩,Sub.gen [(0,2)] r3 ⟨rfl,trivial⟩ ⟨rfl,rfl,trivial⟩ (by simp[ScH,Blk.scopd]) (by simp[ScE,SV.sc,At.sc]) (by rfl) (fun lo hi h=>h),by simp⟩
  ·have h:n=0:=by
    have:¬(p.ls.length:Int)>0:=of_decide_eq_false h
    omega
   subst h
   conv=>whnf
   refine callE_S (callE_con (Φ:=fun _ _ v _=>v= .string ⟨#[]⟩) (fun ρ w' r=>joinNone_c none 0 w') ?_)
   rintro ρ wa v wb r he hb rfl
   replace hw:=hw.tr hb
   clear r he
   conv=>whnf
   refine callE_S (callE_con (Φ:=fun _ _ v _=>v= .string ⟨#[]⟩) (fun ρ w' r=>trimLeft_c [] w' (by simp) (by decide)) ?_)
   rintro ρ wa v wb r he hb rfl
   replace hw:=hw.tr hb
   clear r he
   conv=>whnf
   intro ρe we re
   exact⟨_,rfl,hw.tr re.bel,rfl⟩
 ·simp only[if_true]at hv hp1 hpl hpz
  have hz:p.ls.length=0:=by omega
  have hn0:=hb0 rfl
  have hne:(strOf ((nine n).dropWhile (· ==48))).data.toList≠[]:=by
   rw[strOf_data]
   simpa using nine_ne hn0 hn
  have hres:dig n=(nine n).dropWhile (· ==48):=if_neg hn0
  have key:=fun w'=>trimLeft_c (nine n) w' (nine_lt n) (by simp[nine];decide)
  rw[hres]
  clear hres
  generalize strOf ((nine n).dropWhile (· ==48))=out at*
  generalize strOf (nine n)=str at*
  rw[hz]
  conv=>whnf
  refine callE_S (callE_con (Φ:=fun _ _ v _=>v= .string str) (fun ρ w' r=>?_) ?_)
  ·exact joinOne_c (S:=fun g=>w.heap.size≤g∧g<w'.heap.size) (fun g hg=>hg.2) (r.vecSeq (id:=0) (sz:=1) (m:=1) rfl rfl (by decide) (by decide) (by simp[Value.oneCell']))
  rintro ρ wa v wb r he hb rfl
  replace hw:=hw.tr hb
  clear r he
  conv=>whnf
  refine callE_S (callE_con (Φ:=fun _ _ v _=>v= .string out) (fun ρ w' r=>key w') ?_)
  rintro ρ wa v wb r he hb rfl
  replace hw:=hw.tr hb
  clear r he
  conv=>whnf
  refine BrS.mk (fun h=>?_) (fun h=>?_)
  ·exact absurd (eq_of_beq h) hne
  ·conv=>whnf
   intro ρe we re
   exact⟨_,rfl,hw.tr re.bel,rfl⟩
end Go.Ex

/- The text of a fraction whose parts are below 10^9. Printed by program. Condition: they are. -/
namespace Go.Ex
open Go Go.Sx Go.Proofs

def signed:Bool→ByteArray→ByteArray
 |true,s=>⟨#[45]⟩++s
 |false,s=>s
def txtA(q:Rat):ByteArray:=signed (decide (q.num<0)) (strOf (dig q.num.natAbs))
/-- a small fraction, written -/
def txt(q:Rat):ByteArray:=match decide (q.den=1)with
 |true=>txtA q
 |false=>txtA q++(⟨#[47]⟩++strOf (dig q.den))
theorem dig_len(n:Nat):(dig n).length≤9:=by
 unfold dig
 split
 ·decide
 ·exact Nat.le_trans (List.Sublist.length_le (List.dropWhile_sublist _)) (by simp[nine])
theorem txtA_size(q:Rat):(txtA q).size≤10:=by
 have h1:=dig_len q.num.natAbs
 unfold txtA
 cases decide (q.num<0)
 ·show(strOf _).size≤10
  rw[strOf_size];omega
 ·show(⟨#[45]⟩++strOf _:ByteArray).size≤10
  rw[ByteArray.size_append,strOf_size]
  show 1+_≤10
  omega
theorem text_c{S:Nat→Prop}{w:World}{v:Value}{q:Rat}(hS:Old S w)(hf:FracR w S v q)(hn:q.num.natAbs<1000000000)(hd:q.den<1000000000):
  Con PG N.exact_fraction_text #[v] w (Ret w fun v' _=>v'= .string (txt q)):=by
 have hw:Bel w.heap.size w w:=Bel.refl
 replace hf:=hf.weak (S':=Cv S w.heap.size []) fun _ h=>.inl h
 obtain⟨b1,a1,n1,c1,b2,a2,n2,c2,rfl⟩:=hf.shape
 have hfn:=hf.num.nat
 have hfd:=hf.den
 clear hf
 obtain⟨hb1,hfn⟩:=hfn
 have hln:=dig_len q.num.natAbs
 have hld:=dig_len q.den
 have hts:=txtA_size q
 have hA:txtA q=signed b1 (strOf (dig q.num.natAbs)):=by rw[hb1];rfl
 have hs1:=strOf_size (dig q.num.natAbs)
 have hs2:=strOf_size (dig q.den)
 refine in_exact_fraction_text (by simp) ?_
 conv=>whnf
 refine callE_S (callE_con (Φ:=fun _ w' v w2=>v= .string (strOf (dig q.num.natAbs))) (fun ρ w' r=>digits_c (Rel.old r hS) (hfn.rel r hS) hn) ?_)
 rintro ρ wa1 v1 wb1 r he hb rfl
 replace hw:=hw.tr hb
 clear hfn
 replace hfd:=hfd.past (iv':=(wa1.heap.size,wb1.heap.size)::[]) r hS he fun x hx=>List.mem_cons_of_mem _ hx
 clear r he hb
 generalize (wa1.heap.size,wb1.heap.size)::[]=iv1 at*
 conv=>whnf
 generalize strOf (dig q.num.natAbs)=s1 at*
 have hln1:ln q.den≤1:=ln_le.2 (show q.den<4294967296 by omega)
 cases b1
 ·conv=>whnf
  refine drawn_of_pi hτ hmix [.x 0,.x 1,.x 2,.x 3,.x 4] (by kernel_rfl) (by kernel_rfl) ?_
  conv=>whnf
  refine callE_con (Φ:=fun _ w' v w2=>NumR w2 (Nw (fun _=>False) w' w2) v 1) (fun ρ w' r=>small_c 1 w' (by decide) (by decide)) ?_
  rintro ρ wa2 v2 wb2 r he hb hn
  replace hw:=hw.tr hb
  replace hfd:=hfd.past (iv':=(wa2.heap.size,wb2.heap.size)::iv1) r hS he fun x hx=>List.mem_cons_of_mem _ hx
  have hO:=hn.got (S:=fun _=>False) r.baseLe (iv:=(wa2.heap.size,wb2.heap.size)::iv1) List.mem_cons_self
  clear r he hb hn
  generalize (wa2.heap.size,wb2.heap.size)::iv1=iv2 at*
  obtain⟨s2_0,s2_1,s2_2,s2_3,rfl⟩:=hO.shape
  conv=>whnf
  refine callE_con (Φ:=fun _ w' v w2=>v= .int .i64 ((q.den:Int)-1).sign) (fun ρ w' r=>numCmp_c (Rel.old r hS) (hfd.rel r hS) ((hO.rel r (oldF w)).weak fun g hg=>hg.elim (fun k=>k.elim) .inr) (Nat.le_trans hln1 (by decide)) (by decide)) ?_
  rintro ρ wa3 v3 wb3 r he hb rfl
  replace hw:=hw.tr hb
  replace hfd:=hfd.past (iv':=(wa3.heap.size,wb3.heap.size)::iv2) r hS he fun x hx=>List.mem_cons_of_mem _ hx
  clear hO
  clear r he hb
  generalize (wa3.heap.size,wb3.heap.size)::iv2=iv3 at*
  conv=>whnf
  refine BrS.mk (fun h=>?_) (fun h=>?_)
  ·have h:q.den≠1:=fun e=>by rw[e]at h;exact absurd h (by decide)
   have hfdn:=hfd.nat.2
   clear hfd
   conv=>whnf
   refine callE_S (callE_con (Φ:=fun _ w' v w2=>v= .string (strOf (dig q.den))) (fun ρ w' r=>digits_c (Rel.old r hS) (hfdn.rel r hS) hd) ?_)
   rintro ρ wa4 v4 wb4 r he hb rfl
   replace hw:=hw.tr hb
   clear hfdn
   clear r he hb
   generalize (wa4.heap.size,wb4.heap.size)::iv3=iv4 at*
   conv=>whnf
   have ht:txt q=txtA q++(⟨#[47]⟩++strOf (dig q.den)):=by unfold txt;rw[decide_eq_false h]
   rw[ht,hA]
   clear ht hA
   generalize strOf (dig q.den)=s2 at*
   refine⟨by show 1+s2.size≤maxLen;unfold maxLen;omega,?_⟩
   conv=>whnf
   refine⟨by simp only[ByteArray.size_append];have k1:(ByteArray.mk #[45]).size=1:=rfl;have k2:(ByteArray.mk #[47]).size=1:=rfl;unfold maxLen;omega,?_⟩
   conv=>whnf
   intro ρe we re
   exact⟨_,rfl,hw.tr re.bel,rfl⟩
  ·have h:q.den=1:=by
    have h0:((q.den:Int)-1).sign=0:=by
     have h1:(((q.den:Int)-1).sign==0)=true:=by simpa using h
     exact eq_of_beq h1
    have:=Int.sign_eq_zero_iff_zero.1 h0
    omega
   have ht:txt q=txtA q:=by unfold txt;rw[decide_eq_true h]
   rw[ht,hA]
   clear ht hA
   conv=>whnf
   intro ρe we re
   exact⟨_,rfl,hw.tr re.bel,rfl⟩
 ·conv=>whnf
  refine⟨by show 1+s1.size≤maxLen;unfold maxLen;omega,?_⟩
  conv=>whnf
  refine drawn_of_pi hτ hmix [.x 0,.x 1,.x 2,.x 3,.x 4] (by kernel_rfl) (by kernel_rfl) ?_
  conv=>whnf
  refine callE_con (Φ:=fun _ w' v w2=>NumR w2 (Nw (fun _=>False) w' w2) v 1) (fun ρ w' r=>small_c 1 w' (by decide) (by decide)) ?_
  rintro ρ wa2 v2 wb2 r he hb hn
  replace hw:=hw.tr hb
  replace hfd:=hfd.past (iv':=(wa2.heap.size,wb2.heap.size)::iv1) r hS he fun x hx=>List.mem_cons_of_mem _ hx
  have hO:=hn.got (S:=fun _=>False) r.baseLe (iv:=(wa2.heap.size,wb2.heap.size)::iv1) List.mem_cons_self
  clear r he hb hn
  generalize (wa2.heap.size,wb2.heap.size)::iv1=iv2 at*
  obtain⟨s2_0,s2_1,s2_2,s2_3,rfl⟩:=hO.shape
  conv=>whnf
  refine callE_con (Φ:=fun _ w' v w2=>v= .int .i64 ((q.den:Int)-1).sign) (fun ρ w' r=>numCmp_c (Rel.old r hS) (hfd.rel r hS) ((hO.rel r (oldF w)).weak fun g hg=>hg.elim (fun k=>k.elim) .inr) (Nat.le_trans hln1 (by decide)) (by decide)) ?_
  rintro ρ wa3 v3 wb3 r he hb rfl
  replace hw:=hw.tr hb
  replace hfd:=hfd.past (iv':=(wa3.heap.size,wb3.heap.size)::iv2) r hS he fun x hx=>List.mem_cons_of_mem _ hx
  clear hO
  clear r he hb
  generalize (wa3.heap.size,wb3.heap.size)::iv2=iv3 at*
  conv=>whnf
  refine BrS.mk (fun h=>?_) (fun h=>?_)
  ·have h:q.den≠1:=fun e=>by rw[e]at h;exact absurd h (by decide)
   have hfdn:=hfd.nat.2
   clear hfd
   conv=>whnf
   refine callE_S (callE_con (Φ:=fun _ w' v w2=>v= .string (strOf (dig q.den))) (fun ρ w' r=>digits_c (Rel.old r hS) (hfdn.rel r hS) hd) ?_)
   rintro ρ wa4 v4 wb4 r he hb rfl
   replace hw:=hw.tr hb
   clear hfdn
   clear r he hb
   generalize (wa4.heap.size,wb4.heap.size)::iv3=iv4 at*
   conv=>whnf
   have ht:txt q=txtA q++(⟨#[47]⟩++strOf (dig q.den)):=by unfold txt;rw[decide_eq_false h]
   rw[ht,hA]
   clear ht hA
   generalize strOf (dig q.den)=s2 at*
   refine⟨by show 1+s2.size≤maxLen;unfold maxLen;omega,?_⟩
   conv=>whnf
   refine⟨by simp only[ByteArray.size_append];have k1:(ByteArray.mk #[45]).size=1:=rfl;have k2:(ByteArray.mk #[47]).size=1:=rfl;unfold maxLen;omega,?_⟩
   conv=>whnf
   intro ρe we re
   exact⟨_,rfl,hw.tr re.bel,rfl⟩
  ·have h:q.den=1:=by
    have h0:((q.den:Int)-1).sign=0:=by
     have h1:(((q.den:Int)-1).sign==0)=true:=by simpa using h
     exact eq_of_beq h1
    have:=Int.sign_eq_zero_iff_zero.1 h0
    omega
   have ht:txt q=txtA q:=by unfold txt;rw[decide_eq_true h]
   rw[ht,hA]
   clear ht hA
   conv=>whnf
   intro ρe we re
   exact⟨_,rfl,hw.tr re.bel,rfl⟩

theorem pubFormat_c{S:Nat→Prop}{w:World}{v:Value}{x y:Int}(hS:Old S w)(hx:RatR w S v x y)(hlx:ln x.natAbs≤10000000000)(hly:ln y.natAbs≤10000000000)(hn:(ratio x y).num.natAbs<1000000000)(hd:(ratio x y).den<1000000000):
  Con PG N.exact_Format #[v] w (Ret w fun v' _=>v'= .string (txt (ratio x y))):=by
 have hw:Bel w.heap.size w w:=Bel.refl
 replace hx:=hx.weak (S':=Cv S w.heap.size []) fun _ h=>.inl h
 obtain⟨b1,a1,n1,c1,b2,a2,n2,c2,rfl⟩:=hx.shape
 refine in_exact_Format (by simp) ?_
 conv=>whnf
 refine callE_S (callE_con (Φ:=fun _ w' v w2=>FracR w2 (Nw (fun _=>False) w' w2) v (ratio x y)) (fun ρ w' r=>value_c (Rel.old r hS) (hx.rel r hS) (by omega) (by omega)) ?_)
 rintro ρ wa1 v1 wb1 r he hb hn
 replace hw:=hw.tr hb
 clear hx
 have hF:=hn.got (S:=fun _=>False) r.baseLe (iv:=(wa1.heap.size,wb1.heap.size)::[]) List.mem_cons_self
 clear r he hb hn
 generalize (wa1.heap.size,wb1.heap.size)::[]=iv1 at*
 obtain⟨s1_0,s1_1,s1_2,s1_3,s1_4,s1_5,s1_6,s1_7,rfl⟩:=hF.shape
 conv=>whnf
 refine callE_S (callE_con (Φ:=fun _ w' v w2=>v= .string (txt (ratio x y))) (fun ρ w' r=>text_c (Rel.old r (oldF w)) (hF.rel r (oldF w)) hn hd) ?_)
 rintro ρ wa2 v2 wb2 r he hb rfl
 replace hw:=hw.tr hb
 clear hF
 clear r he hb
 generalize (wa2.heap.size,wb2.heap.size)::iv1=iv2 at*
 conv=>whnf
 intro ρe we re
 exact⟨_,rfl,hw.tr re.bel,rfl⟩
end Go.Ex

/- Rows of fractions; scale. No condition. -/
namespace Go.Ex
open Go Go.Sx Go.Proofs

/-- the four cells of a fraction -/
def Frac4(w:World)(S:Nat→Prop)(cs:List Value)(q:Rat):Prop:=∃b a n c b2 a2 n2 c2,cs=[.bool b,.slice a n c,.bool b2,.slice a2 n2 c2]∧FracR w S (.agg #[.bool b,.slice a n c,.bool b2,.slice a2 n2 c2]) q
/-- .. of a row -/
def Fr(w:World)(S:Nat→Prop)(css:List (List Value))(qs:List Rat):Prop:=css.length=qs.length∧∀(j:Nat) cs q,css[j]? =some cs→qs[j]? =some q→Frac4 w S cs q
section
variable{S S':Nat→Prop}{w w2:World}{cs:List Value}{css:List (List Value)}{q:Rat}{qs:List Rat}
theorem Frac4.keep(h:Frac4 w S cs q)(hk:∀g,S g→w2.heap[g]? =w.heap[g]?):Frac4 w2 S cs q:=by
 obtain⟨b,a,n,c,b2,a2,n2,c2,h1,h2⟩:=h;exact⟨b,a,n,c,b2,a2,n2,c2,h1,h2.keep hk⟩
theorem Frac4.weak(h:Frac4 w S cs q)(hk:∀g,S g→S' g):Frac4 w S' cs q:=by
 obtain⟨b,a,n,c,b2,a2,n2,c2,h1,h2⟩:=h;exact⟨b,a,n,c,b2,a2,n2,c2,h1,h2.weak hk⟩
theorem Frac4.len(h:Frac4 w S cs q):cs.length=4:=by obtain⟨_,_,_,_,_,_,_,_,rfl,_⟩:=h;rfl
theorem FracR.four{b b2:Bool}{a a2:Option Addr}{n c n2 c2:Nat}(h:FracR w S (.agg #[.bool b,.slice a n c,.bool b2,.slice a2 n2 c2]) q):Frac4 w S [.bool b,.slice a n c,.bool b2,.slice a2 n2 c2] q:=⟨_,_,_,_,_,_,_,_,rfl,h⟩
theorem Fr.keep(h:Fr w S css qs)(hk:∀g,S g→w2.heap[g]? =w.heap[g]?):Fr w2 S css qs:=⟨h.1,fun j cs q h1 h2=>(h.2 j cs q h1 h2).keep hk⟩
theorem Fr.weak(h:Fr w S css qs)(hk:∀g,S g→S' g):Fr w S' css qs:=⟨h.1,fun j cs q h1 h2=>(h.2 j cs q h1 h2).weak hk⟩
theorem Fr.len4(h:Fr w S css qs):∀cs∈css,cs.length=4:=fun cs hc=>by
 obtain⟨j,hj⟩:=List.getElem?_of_mem hc
 have hl:=(List.getElem?_eq_some_iff.1 hj).1
 exact(h.2 j cs _ hj (List.getElem?_eq_getElem (by rw[←h.1];exact hl))).len
theorem Fr.one(h:Fr w S css qs):∀u∈css.flatten,u.oneCell'=true:=fun u hu=>by
 obtain⟨cs,hc,hu⟩:=List.mem_flatten.1 hu
 obtain⟨j,hj⟩:=List.getElem?_of_mem hc
 have hl:=(List.getElem?_eq_some_iff.1 hj).1
 obtain⟨_,_,_,_,_,_,_,_,rfl,_⟩:=h.2 j cs _ hj (List.getElem?_eq_getElem (by rw[←h.1];exact hl))
 simp at hu
 rcases hu with rfl|rfl|rfl|rfl<;>rfl
theorem Fr.set(h:Fr w S css qs){j:Nat}(hq:Frac4 w S cs q):Fr w S (css.set j cs) (qs.set j q):=by
 refine⟨by simp[h.1],fun i c p h1 h2=>?_⟩
 by_cases hij:j=i
 ·subst hij
  have hl:=(List.getElem?_eq_some_iff.1 h1).1
  rw[List.getElem?_set_self (by simpa using hl)]at h1
  rw[List.getElem?_set_self (by have:=h.1;simp at hl;omega)]at h2
  injection h1 with h1;injection h2 with h2
  subst h1 h2
  exact hq
 ·rw[List.getElem?_set_ne hij]at h1 h2
  exact h.2 i c p h1 h2
end
section
variable{S S':Nat→Prop}{H:Hp}{nx:Nat}{iv iv':Iv}{B:Nat}{w w' w2:World}{ρ:Nat→Sx.Val}{css:List (List Value)}{qs:List Rat}
theorem Fr.rel(h:Fr w (Cv S B iv) css qs)(r:Rel H nx iv B w ρ w')(hS:∀g,S g→g<B):Fr w' (Cv S B iv) css qs:=h.keep fun _ hg=>Rel.same r hS hg
theorem Fr.past(h:Fr w (Cv S B iv) css qs)(r:Rel H nx iv B w ρ w')(hS:∀g,S g→g<B)(he:Ext w' w2)(hm:∀p,p∈iv→p∈iv'):Fr w2 (Cv S B iv') css qs:=
 ((h.rel r hS).keep fun g hg=>he.block g (Rel.old r hS g hg)).weak fun _ hg=>hg.mono hm
theorem Fr.arg(h:Fr w S css qs)(iv:Iv):Fr w (Cv S w.heap.size iv) css qs:=h.weak fun _ h=>.inl h
end
theorem flat_len:∀{css:List (List Value)},(∀cs∈css,cs.length=4)→css.flatten.length=css.length*4
 |[],_=>rfl
 |c::r,h=>by
  rw[List.flatten_cons,List.length_append,flat_len (fun cs hc=>h cs (List.mem_cons_of_mem _ hc)),h c List.mem_cons_self,List.length_cons]
  omega
theorem flat_get:∀{css:List (List Value)} {j:Nat} {cs:List Value},(∀cs∈css,cs.length=4)→css[j]? =some cs→∀k u,cs[k]? =some u→css.flatten[j*4+k]? =some u
 |[],j,cs,_,hj,_,_,_=>by simp at hj
 |c::r,0,cs,h,hj,k,u,hu=>by
  simp at hj
  subst hj
  rw[List.flatten_cons,List.getElem?_append_left (by have:=(List.getElem?_eq_some_iff.1 hu).1;omega)]
  simpa using hu
 |c::r,j+1,cs,h,hj,k,u,hu=>by
  have hc:=h c List.mem_cons_self
  rw[List.flatten_cons,List.getElem?_append_right (by omega),hc,show(j+1)*4+k-4=j*4+k by omega]
  exact flat_get (fun cs hc=>h cs (List.mem_cons_of_mem _ hc)) (by simpa using hj) k u hu
theorem flat_set:∀{css:List (List Value)} {j:Nat} {cs:List Value},(∀cs∈css,cs.length=4)→j<css.length→css.flatten.take (j*4)++cs++css.flatten.drop (j*4+4)=(css.set j cs).flatten
 |[],j,cs,_,hj=>by simp at hj
 |c::r,0,cs,h,_=>by
  have hc:=h c List.mem_cons_self
  simp[List.flatten_cons,hc]
 |c::r,j+1,cs,h,hj=>by
  have hc:=h c List.mem_cons_self
  rw[List.flatten_cons,show(j+1)*4=c.length+j*4 by omega,List.take_length_add_append,show c.length+j*4+4=c.length+(j*4+4) by omega,List.drop_length_add_append,List.set_cons_succ,List.flatten_cons,
   ←flat_set (fun cs hc=>h cs (List.mem_cons_of_mem _ hc)) (by simpa using hj),List.append_assoc,List.append_assoc,List.append_assoc]
/-- blocks that are none of one's own -/
abbrev Out(B:Nat)(iv:Iv):Nat→Prop:=Cv (fun g=>g<B) B iv
theorem rowRel{H:Hp}{nx:Nat}{iv:Iv}{B Bc e sz m:Nat}{w w':World}{ρ:Nat→Sx.Val}{v:Value}{xs:List Value}(h:w.ownsRow Bc e sz v m xs)(hc:∀g,v.ownBlock=some g→Out B iv g)(r:Rel H nx iv B w ρ w'):w'.ownsRow Bc e sz v m xs:=
 ownsRow.keep h fun b hb=>Rel.same r (fun _ h=>h) (hc b hb)
theorem rowLoad4{w:World}{S:Nat→Prop}{n j:Nat}{a:Option Addr}{c:Nat}{css:List (List Value)}{qs:List Rat}{cs:List Value}(h:w.ownsRow 0 T.fraction 4 (.slice a n c) n css.flatten)(hf:Fr w S css qs)(hj:css[j]? =some cs):
  ∃g,a=some ⟨g,0,none⟩∧∀k u,cs[k]? =some u→w.cell? ((Addr.add ⟨g,0,none⟩ (j*4)).add k)=some u:=by
 rcases h.2 with⟨h1,h0⟩|⟨g,cap,cur,hv2,_⟩
 ·have:=h.1
  rw[flat_len hf.len4]at this
  have:=(List.getElem?_eq_some_iff.1 hj).1
  omega
 ·injection hv2 with h1 h2 h3
  subst h1
  refine⟨g,rfl,fun k u hu=>?_⟩
  have:=h.cells (g:=g) rfl (j*4+k) u (flat_get hf.len4 hj k u hu)
  rw[addr_add,addr_add]
  rw[addr_add]at this
  rw[Nat.add_assoc]
  exact this
theorem und_row:PG.underlying T.row=some (.slice T.fraction):=(hτ T.row _ rfl).i4 rfl
/-- what a row becomes, element by element -/
def upto(i:Nat)(f:Rat→Rat)(qs:List Rat):List Rat:=qs.mapIdx fun j q=>if j<i then f q else q
theorem upto_zero(f:Rat→Rat)(qs:List Rat):upto 0 f qs=qs:=by
 apply List.ext_getElem?
 intro j
 simp[upto]
theorem upto_all(f:Rat→Rat)(qs:List Rat):upto qs.length f qs=qs.map f:=by
 apply List.ext_getElem?
 intro j
 simp only[upto,List.getElem?_mapIdx,List.getElem?_map]
 cases h:qs[j]? with
 |none=>rfl
 |some q=>simp[(List.getElem?_eq_some_iff.1 h).1]
theorem upto_succ{f:Rat→Rat}{qs:List Rat}{i:Nat}{q:Rat}(h:qs[i]? =some q):(upto i f qs).set i (f q)=upto (i+1) f qs:=by
 apply List.ext_getElem?
 intro j
 have hi:=(List.getElem?_eq_some_iff.1 h).1
 by_cases hij:i=j
 ·subst hij
  rw[List.getElem?_set_self (by simp[upto];exact hi)]
  simp[upto,List.getElem?_mapIdx,h]
 ·rw[List.getElem?_set_ne hij]
  simp only[upto,List.getElem?_mapIdx]
  have:(j<i)↔(j<i+1):=by omega
  simp[this]
theorem upto_at{f:Rat→Rat}{qs:List Rat}{i:Nat}:(upto i f qs)[i]? =qs[i]? :=by
 simp only[upto,List.getElem?_mapIdx]
 cases qs[i]? <;>simp

theorem grownBy_bel2{w w1 w2:World}{row:Option Nat}(h:w.grownBy w1 row)(k:Bel w.heap.size w1 w2):w.grownBy w2 row:=
 ⟨k.os.trans h.os,k.tape.trans h.tape,k.output.trans h.output,Nat.le_trans h.size k.size,fun b hb hn=>(k.block b hb).trans (h.block b hb hn)⟩
theorem scale_c{S:Nat→Prop}{w:World}{v vby:Value}{n:Nat}{css:List (List Value)}{qs:List Rat}{p:Rat}(hS:Old S w)(hrow:w.ownsRow 0 T.fraction 4 v n css.flatten)(hfr:Fr w S css qs)(hcl:css.length=n)(hby:FracR w S vby p)
  (hdis:∀g,v.ownBlock=some g→¬S g) (hq:∀q∈qs,rl q≤10000000000) (hb:rl p≤10000000000):
  Con PG N.exact_row_scale #[v,vby] w (fun e w2=>e= .returned (.tuple #[])∧w.grownBy w2 v.ownBlock∧∃css',w2.ownsRow 0 T.fraction 4 v n css'.flatten∧css'.length=n∧Fr w2 (Nw S w w2) css' (qs.map (· *p))):=by
 have hlow:∀g,v.ownBlock=some g→g<w.heap.size:=fun g hg=>(ownsRow.low hrow g hg).2
 have hout:∀iv g,v.ownBlock=some g→Out w.heap.size iv g:=fun iv g hg=>.inl (hlow g hg)
 have hdis2:∀iv g,v.ownBlock=some g→¬Cv S w.heap.size iv g:=fun iv g hg h=>by
  rcases h with h|⟨h,_⟩
  ·exact hdis g hg h
  ·have:=hlow g hg;omega
 have hnm:n≤maxLen:=by
  rcases hrow.2 with⟨_,h0⟩|⟨_,_,_,_,_,_,h1,h2,_⟩
  ·omega
  ·omega
 unfold maxLen at hnm
 have hql:qs.length=n:=by rw[←hfr.1,hcl]
 obtain⟨a,c,rfl,hnc⟩:=row_form hrow
 obtain⟨b1,a1,n1,c1,b2,a2,n2,c2,rfl⟩:=hby.shape
 replace hfr:=hfr.arg []
 replace hby:=hby.arg []
 refine in_exact_row_scale (by simp) ?_
 conv=>whnf
 refine⟨Nat×List (List Value)×Iv×World,fun z=>⟨[(0,.o (.v (.slice a n c))),(3,.o (.p 0 0)),(6,.o (.v (.slice a n c))),(7,.o (.v (.int .i64 n))),(8,.o (.v (.int .i64 z.1)))],
   [(0,.box T.fraction [.v (.bool b1),.v (.slice a1 n1 c1),.v (.bool b2),.v (.slice a2 n2 c2)])],1,z.2.2.1,z.2.2.2⟩,fun z=>n-z.1,
  fun z=>z.1≤n∧w.grownBy z.2.2.2 (Value.slice a n c).ownBlock∧z.2.2.2.ownsRow 0 T.fraction 4 (.slice a n c) n z.2.1.flatten∧z.2.1.length=n∧Fr z.2.2.2 (Cv S w.heap.size z.2.2.1) z.2.1 (upto z.1 (· *p) qs)∧
   FracR z.2.2.2 (Cv S w.heap.size z.2.2.1) (.agg #[.bool b1,.slice a1 n1 c1,.bool b2,.slice a2 n2 c2]) p,?_,?_⟩
 ·intro ρ w' r
  refine⟨(0,css,[],w'),⟨by simp,grownBy_bel r.bel,rowRel hrow (hout []) r,hcl,by rw[upto_zero];exact hfr.rel r hS,hby.rel r hS⟩,
   Sub.gen [] r ⟨rfl,trivial⟩ ⟨rfl,rfl,rfl,rfl,rfl,trivial⟩ (by simp[ScH,Blk.scopd,At.sc]) (by simp[ScE,SV.sc,At.sc]) (by rfl) (fun lo hi h=>h)⟩
 clear hrow hfr hby hcl
 rintro⟨i,css,iv,w1⟩ ⟨hi,hg,hrow,hcl,hfr,hby⟩
 dsimp only at hi hg hrow hcl hfr hby ⊢
 conv=>whnf
 refine BrS.mk (fun h=>?_) (fun h=>?_)
 ·have h:i<n:=by simpa using h
  obtain⟨cs,hcs⟩:∃cs,css[i]? =some cs:=⟨_,List.getElem?_eq_getElem (by omega)⟩
  obtain⟨q,hqi⟩:∃q,qs[i]? =some q:=⟨_,List.getElem?_eq_getElem (by omega)⟩
  have hF:=hfr.2 i cs q hcs (by rw[upto_at];exact hqi)
  obtain⟨g,rfl,hload⟩:=rowLoad4 hrow hfr hcs
  obtain⟨d1,e1,m1,k1,d2,e2,m2,k2,rfl,hF⟩:=hF
  have hrlq:=hq q (List.mem_of_getElem? hqi)
  conv=>whnf
  refine⟨⟨g,0,none⟩,rfl,⟨by omega,by omega⟩,?_⟩
  conv=>whnf
  refine⟨[.bool d1,.slice e1 m1 k1,.bool d2,.slice e2 m2 k2],rfl,fun ρ w' r j x hx=>?_,?_⟩
  ·have:=rowLoad4 (rowRel hrow (hout iv) r) (hfr.rel r hS) hcs
   obtain⟨g',h1,h2⟩:=this
   injection h1 with h1
   rw[←h1]at h2
   exact h2 j x hx
  conv=>whnf
  refine callE_S (callE_con (Φ:=fun _ w' v w2=>FracR w2 (Nw (fun _=>False) w' w2) v (q*p)) (fun ρ w' r=>ftimes_c (Rel.old r hS) (hF.rel r hS) (hby.rel r hS) hrlq hb) ?_)
  rintro ρ wa v1 wb r he hbl hP
  have hPN:=hP.got (S:=S) r.baseLe (iv:=(wa.heap.size,wb.heap.size)::iv) List.mem_cons_self
  replace hby:=hby.past (iv':=(wa.heap.size,wb.heap.size)::iv) r hS he fun x hx=>List.mem_cons_of_mem _ hx
  replace hfr:=hfr.past (iv':=(wa.heap.size,wb.heap.size)::iv) r hS he fun x hx=>List.mem_cons_of_mem _ hx
  have hrow2:wb.ownsRow 0 T.fraction 4 (.slice (some ⟨g,0,none⟩) n c) n css.flatten:=ownsRow.keep (rowRel hrow (hout iv) r) fun b hb=>he.block b (by have:=hlow b hb;have:=r.baseLe;omega)
  replace hg:w.grownBy wb _:=grownBy_bel2 hg hbl
  clear r he hP hbl hrow hload
  generalize (wa.heap.size,wb.heap.size)::iv=iv2 at*
  obtain⟨b5,a5,n5,c5,b6,a6,n6,c6,rfl⟩:=hPN.shape
  conv=>whnf
  refine⟨⟨g,0,none⟩,rfl,⟨by omega,by omega⟩,?_⟩
  conv=>whnf
  intro ρ w' r
  have hrow3:=rowRel hrow2 (hout iv2) r
  have hF5:=(hPN.rel r hS).four
  obtain⟨g',hg',hok,hst,hgr,hsz⟩:=storeRow (nv:=[.bool b5,.slice a5 n5 c5,.bool b6,.slice a6 n6 c6]) hrow3 rfl h rfl (by decide)
  injection hg' with hg'
  injection hg' with hg'
  subst hg'
  have hset:=flat_set (cs:=[.bool b5,.slice a5 n5 c5,.bool b6,.slice a6 n6 c6]) hfr.len4 (show i<css.length by omega)
  rw[hset]at hst
  have hkeep:∀x,Cv S w.heap.size iv2 x→(setCells w' ⟨g,i*4,none⟩ [.bool b5,.slice a5 n5 c5,.bool b6,.slice a6 n6 c6]).heap[x]? =w'.heap[x]? :=fun x hx=>
   hgr.block x (Rel.old r hS x hx) fun e=>hdis2 iv2 g rfl (by injection e with e;rw[←e];exact hx)
  have had:(⟨g,0,none⟩:Addr).add ((i:Int).toNat*4)=⟨g,i*4,none⟩:=by rw[Int.toNat_natCast,addr_add,Nat.zero_add]
  have hF6:=((hfr.rel r hS).keep hkeep).set (j:=i) (hF5.keep hkeep)
  rw[upto_succ (f:=(· *p)) hqi]at hF6
  have hby6:=(hby.rel r hS).keep hkeep
  replace hg:w.grownBy (setCells w' ⟨g,i*4,none⟩ [.bool b5,.slice a5 n5 c5,.bool b6,.slice a6 n6 c6]) (some g):=grownBy_trans (grownBy_bel2 hg r.bel) hgr
  have hnot:=fun id b hb hn=>Rel.not r (fun _ h=>h) (hout iv2 g rfl) id b hb hn
  have hwsz:=r.baseLe
  clear r hfr hby hPN hrow2 hrow3 hF5 hkeep hset hgr
  refine⟨by rw[had],fun k hk=>by rw[had];exact hok k hk,fun id b hb hn=>by rw[had];exact hnot id b hb hn,fun w2 hw2=>?_⟩
  have hw2:w2=setCells w' ⟨g,i*4,none⟩ [.bool b5,.slice a5 n5 c5,.bool b6,.slice a6 n6 c6]:=by rw[hw2];exact congrArg (fun x=>setCells w' x _) had
  rw[←hw2]at hF6 hby6 hst hg hsz
  clear hw2 hok hnot
  conv=>whnf
  refine⟨((i+1:Nat):Int),by rw[wrap64]<;>omega,?_⟩
  conv=>whnf
  intro ρ3 w3 r3
  exact⟨(i+1,css.set i [.bool b5,.slice a5 n5 c5,.bool b6,.slice a6 n6 c6],iv2,w3),⟨h,grownBy_bel2 hg r3.bel,rowRel hst (hout iv2) r3,by simpa using hcl,hF6.rel r3 hS,hby6.rel r3 hS⟩,
   Sub.gen [] r3 ⟨rfl,trivial⟩ ⟨rfl,rfl,rfl,rfl,rfl,trivial⟩ (by simp[ScH,Blk.scopd,At.sc]) (by simp[ScE,SV.sc,At.sc]) (by rfl) (fun lo hi h=>h),by dsimp only;omega⟩
 ·have h:i=n:=by
   have:¬i<n:=by simpa using h
   omega
  subst h
  conv=>whnf
  intro ρ5 w5 r5
  refine⟨rfl,grownBy_bel2 hg r5.bel,css,rowRel hrow (hout iv) r5,hcl,?_⟩
  have:=(hfr.rel r5 hS).weak (S':=Nw S w w5) fun g hg=>Cv.nw hg r5
  rwa [←hql,upto_all]at this
end Go.Ex

/- Rows of fractions: adding a multiple of another row. No condition. -/
namespace Go.Ex
open Go Go.Sx Go.Proofs

def uptoI(i:Nat)(f:Nat→Rat→Rat)(qs:List Rat):List Rat:=qs.mapIdx fun j q=>if j<i then f j q else q
theorem uptoI_zero(f:Nat→Rat→Rat)(qs:List Rat):uptoI 0 f qs=qs:=by
 apply List.ext_getElem?
 intro j
 simp[uptoI]
theorem uptoI_all(f:Nat→Rat→Rat)(qs:List Rat):uptoI qs.length f qs=qs.mapIdx f:=by
 apply List.ext_getElem?
 intro j
 simp only[uptoI,List.getElem?_mapIdx]
 cases h:qs[j]? with
 |none=>rfl
 |some q=>simp[(List.getElem?_eq_some_iff.1 h).1]
theorem uptoI_succ{f:Nat→Rat→Rat}{qs:List Rat}{i:Nat}{q:Rat}(h:qs[i]? =some q):(uptoI i f qs).set i (f i q)=uptoI (i+1) f qs:=by
 apply List.ext_getElem?
 intro j
 have hi:=(List.getElem?_eq_some_iff.1 h).1
 by_cases hij:i=j
 ·subst hij
  rw[List.getElem?_set_self (by simp[uptoI];exact hi)]
  simp[uptoI,List.getElem?_mapIdx,h]
 ·rw[List.getElem?_set_ne hij]
  simp only[uptoI,List.getElem?_mapIdx]
  have:(j<i)↔(j<i+1):=by omega
  simp[this]
theorem uptoI_same{f:Nat→Rat→Rat}{qs:List Rat}{i:Nat}{q:Rat}(h:qs[i]? =some q)(hf:f i q=q):uptoI i f qs=uptoI (i+1) f qs:=by
 rw[←uptoI_succ h,hf]
 apply List.ext_getElem?
 intro j
 have hi:=(List.getElem?_eq_some_iff.1 h).1
 by_cases hij:i=j
 ·subst hij
  rw[List.getElem?_set_self (by simp[uptoI];exact hi)]
  simp[uptoI,List.getElem?_mapIdx,h]
 ·rw[List.getElem?_set_ne hij]
theorem uptoI_at{f:Nat→Rat→Rat}{qs:List Rat}{i:Nat}{q:Rat}(h:qs[i]? =some q):(uptoI i f qs)[i]? =some q:=by
 simp only[uptoI,List.getElem?_mapIdx,h]
 simp
/-- a row that is only read: its cells lie in C, its limbs in S -/
def RowR(w:World)(C S:Nat→Prop)(v:Value)(qs:List Rat):Prop:=∃css,SeqR w C 4 v css.flatten qs.length∧Fr w S css qs
section
variable{C C' S S':Nat→Prop}{H:Hp}{nx:Nat}{iv iv':Iv}{B:Nat}{w w' w2:World}{ρ:Nat→Sx.Val}{v:Value}{qs:List Rat}
theorem RowR.keep(h:RowR w C S v qs)(hk:∀g,C g∨S g→w2.heap[g]? =w.heap[g]?):RowR w2 C S v qs:=by
 obtain⟨css,h1,h2⟩:=h;exact⟨css,h1.keep fun g hg=>hk g (.inl hg),h2.keep fun g hg=>hk g (.inr hg)⟩
theorem RowR.weak(h:RowR w C S v qs)(hk:∀g,C g→C' g)(hk2:∀g,S g→S' g):RowR w C' S' v qs:=by
 obtain⟨css,h1,h2⟩:=h;exact⟨css,h1.weak hk,h2.weak hk2⟩
theorem RowR.rel(h:RowR w (Cv C B iv) (Cv S B iv) v qs)(r:Rel H nx iv B w ρ w')(hC:∀g,C g→g<B)(hS:∀g,S g→g<B):RowR w' (Cv C B iv) (Cv S B iv) v qs:=
 h.keep fun _ hg=>hg.elim (Rel.same r hC) (Rel.same r hS)
theorem RowR.past(h:RowR w (Cv C B iv) (Cv S B iv) v qs)(r:Rel H nx iv B w ρ w')(hC:∀g,C g→g<B)(hS:∀g,S g→g<B)(he:Ext w' w2)(hm:∀p,p∈iv→p∈iv'):RowR w2 (Cv C B iv') (Cv S B iv') v qs:=
 ((h.rel r hC hS).keep fun g hg=>he.block g (hg.elim (Rel.old r hC g) (Rel.old r hS g))).weak (fun _ hg=>hg.mono hm) (fun _ hg=>hg.mono hm)
theorem RowR.arg(h:RowR w C S v qs)(iv:Iv):RowR w (Cv C w.heap.size iv) (Cv S w.heap.size iv) v qs:=h.weak (fun _ h=>.inl h) (fun _ h=>.inl h)
end
theorem RowR.shape{C S:Nat→Prop}{w:World}{v:Value}{qs:List Rat}(h:RowR w C S v qs):∃a c,v= .slice a qs.length c∧qs.length≤c∧qs.length≤maxLen:=by
 obtain⟨css,⟨h0,_,_,a,c,h1,h2,_⟩,_⟩:=h
 exact⟨a,c,h1,h2,h0⟩
theorem RowR.load{C S:Nat→Prop}{w:World}{a:Option Addr}{n c j:Nat}{qs:List Rat}{q:Rat}(h:RowR w C S (.slice a n c) qs)(hq:qs[j]? =some q):
  ∃ad cs,a=some ad∧Frac4 w S cs q∧∀k u,cs[k]? =some u→C ad.block∧w.cell? ((ad.add (j*4)).add k)=some u:=by
 obtain⟨css,⟨h0,h1,h2,a',c',e,h3,h4⟩,hf⟩:=h
 injection e with e1 e2 e3
 subst e1
 obtain⟨cs,hcs⟩:∃cs,css[j]? =some cs:=⟨_,List.getElem?_eq_getElem (by rw[hf.1];exact(List.getElem?_eq_some_iff.1 hq).1)⟩
 have hF:=hf.2 j cs q hcs hq
 have hl:=hF.len
 obtain⟨ad,k1,k2,k3⟩:=h4 (j*4+0) _ (flat_get hf.len4 hcs 0 _ (List.getElem?_eq_getElem (show 0<cs.length by omega)))
 refine⟨ad,cs,k1,hF,fun k u hu=>?_⟩
 obtain⟨ad2,m1,m2,m3⟩:=h4 (j*4+k) u (flat_get hf.len4 hcs k u hu)
 rw[k1]at m1
 injection m1 with m1
 subst m1
 refine⟨m2,?_⟩
 rw[←m3]
 have:(ad.add (j*4)).add k=ad.add (j*4+k):=by
  unfold Addr.add
  split<;>split<;>simp_all<;>omega
 rw[this]

def addRow(p:Rat)(ps:List Rat)(j:Nat)(q:Rat):Rat:=q+p*ps.getD j 0
theorem addRow_zero(ps qs:List Rat):qs.mapIdx (addRow 0 ps)=qs:=by
 apply List.ext_getElem?
 intro j
 rw[List.getElem?_mapIdx]
 cases qs[j]? with
 |none=>rfl
 |some q=>exact congrArg some (by rw[addRow,Rat.zero_mul,Rat.add_zero])

theorem add_c{C S:Nat→Prop}{w:World}{v vby vs:Value}{n:Nat}{css:List (List Value)}{qs ps:List Rat}{p:Rat}(hC:Old C w)(hS:Old S w)(hrow:w.ownsRow 0 T.fraction 4 v n css.flatten)(hfr:Fr w S css qs)(hcl:css.length=n)(hby:FracR w S vby p)
  (hs:RowR w C S vs ps) (hpl:ps.length=n) (hdis:∀g,v.ownBlock=some g→¬S g) (hdc:∀g,v.ownBlock=some g→¬C g) (hq:∀q∈qs,rl q≤2000000000) (hps:∀q∈ps,rl q≤2000000000) (hb:rl p≤2000000000):
  Con PG N.exact_row_add #[v,vby,vs] w (fun e w2=>e= .returned (.tuple #[])∧w.grownBy w2 v.ownBlock∧∃css',w2.ownsRow 0 T.fraction 4 v n css'.flatten∧css'.length=n∧Fr w2 (Nw S w w2) css' (qs.mapIdx (addRow p ps))):=by
 have hlow:∀g,v.ownBlock=some g→g<w.heap.size:=fun g hg=>(ownsRow.low hrow g hg).2
 have hout:∀iv g,v.ownBlock=some g→Out w.heap.size iv g:=fun iv g hg=>.inl (hlow g hg)
 have hdis2:∀iv g,v.ownBlock=some g→¬Cv S w.heap.size iv g:=fun iv g hg h=>by
  rcases h with h|⟨h,_⟩
  ·exact hdis g hg h
  ·have:=hlow g hg;omega
 have hdis3:∀iv g,v.ownBlock=some g→¬Cv C w.heap.size iv g:=fun iv g hg h=>by
  rcases h with h|⟨h,_⟩
  ·exact hdc g hg h
  ·have:=hlow g hg;omega
 have hql:qs.length=n:=by rw[←hfr.1,hcl]
 obtain⟨a,c,rfl,hnc⟩:=row_form hrow
 obtain⟨b1,a1,n1,c1,b2,a2,n2,c2,rfl⟩:=hby.shape
 obtain⟨asl,cs0,rfl,hsc,hnm⟩:=hs.shape
 rw[hpl]at hsc hnm hs ⊢
 unfold maxLen at hnm
 replace hfr:=hfr.arg []
 replace hby:=hby.arg []
 replace hs:=hs.arg []
 refine in_exact_row_add (by simp) ?_
 conv=>whnf
 refine callE_S (callE_con (Φ:=fun _ _ v _=>v= .int .i64 (rs p)) (fun ρ w' r=>fsign_c (Rel.old r hS) (hby.rel r hS)) ?_)
 rintro ρ wa v1 wb r he hbl rfl
 replace hby:=hby.past (iv':=(wa.heap.size,wb.heap.size)::[]) r hS he fun x hx=>List.mem_cons_of_mem _ hx
 replace hfr:=hfr.past (iv':=(wa.heap.size,wb.heap.size)::[]) r hS he fun x hx=>List.mem_cons_of_mem _ hx
 replace hs:=hs.past (iv':=(wa.heap.size,wb.heap.size)::[]) r hC hS he fun x hx=>List.mem_cons_of_mem _ hx
 have hrow2:wb.ownsRow 0 T.fraction 4 (.slice a n c) n css.flatten:=ownsRow.keep (rowRel hrow (hout []) r) fun b hb=>he.block b (by have:=hlow b hb;have:=r.baseLe;omega)
 have hg:w.grownBy wb (Value.slice a n c).ownBlock:=grownBy_bel hbl
 clear r he hbl hrow
 generalize (wa.heap.size,wb.heap.size)::[]=iv at*
 conv=>whnf
 refine BrS.mk (fun h0=>?_) (fun h0=>?_)
 ·have h0:p=0:=by
   have:rs p=0:=eq_of_beq h0
   exact Rat.num_eq_zero.1 (Int.sign_eq_zero_iff_zero.1 this)
  conv=>whnf
  intro ρ5 w5 r5
  refine⟨rfl,grownBy_bel2 hg r5.bel,css,rowRel hrow2 (hout iv) r5,hcl,?_⟩
  have:=(hfr.rel r5 hS).weak (S':=Nw S w w5) fun g hg=>Cv.nw hg r5
  rw[h0,addRow_zero]
  exact this
 clear h0
 conv=>whnf
 refine⟨Nat×List (List Value)×Iv×World,fun z=>⟨[(0,.o (.v (.slice a n c))),(4,.o (.p 0 0)),(11,.o (.v (.slice asl n cs0))),(12,.o (.v (.int .i64 n))),(13,.o (.v (.int .i64 z.1)))],
   [(0,.box T.fraction [.v (.bool b1),.v (.slice a1 n1 c1),.v (.bool b2),.v (.slice a2 n2 c2)])],1,z.2.2.1,z.2.2.2⟩,fun z=>n-z.1,
  fun z=>z.1≤n∧w.grownBy z.2.2.2 (Value.slice a n c).ownBlock∧z.2.2.2.ownsRow 0 T.fraction 4 (.slice a n c) n z.2.1.flatten∧z.2.1.length=n∧Fr z.2.2.2 (Cv S w.heap.size z.2.2.1) z.2.1 (uptoI z.1 (addRow p ps) qs)∧
   FracR z.2.2.2 (Cv S w.heap.size z.2.2.1) (.agg #[.bool b1,.slice a1 n1 c1,.bool b2,.slice a2 n2 c2]) p∧RowR z.2.2.2 (Cv C w.heap.size z.2.2.1) (Cv S w.heap.size z.2.2.1) (.slice asl n cs0) ps,?_,?_⟩
 ·intro ρ w' r
  refine⟨(0,css,iv,w'),⟨by simp,grownBy_bel2 hg r.bel,rowRel hrow2 (hout iv) r,hcl,by rw[uptoI_zero];exact hfr.rel r hS,hby.rel r hS,hs.rel r hC hS⟩,
   Sub.gen [] r ⟨rfl,trivial⟩ ⟨rfl,rfl,rfl,rfl,rfl,trivial⟩ (by simp[ScH,Blk.scopd,At.sc]) (by simp[ScE,SV.sc,At.sc]) (by rfl) (fun lo hi h=>h)⟩
 clear hrow2 hfr hby hcl hs hg
 rintro⟨i,css,iv,w1⟩ ⟨hi,hg,hrow,hcl,hfr,hby,hs⟩
 dsimp only at hi hg hrow hcl hfr hby hs ⊢
 conv=>whnf
 refine BrS.mk (fun h=>?_) (fun h=>?_)
 ·have h:i<n:=by simpa using h
  obtain⟨cs,hcs⟩:∃cs,css[i]? =some cs:=⟨_,List.getElem?_eq_getElem (by omega)⟩
  obtain⟨q,hqi⟩:∃q,qs[i]? =some q:=⟨_,List.getElem?_eq_getElem (by omega)⟩
  obtain⟨f,hfi⟩:∃f,ps[i]? =some f:=⟨_,List.getElem?_eq_getElem (by omega)⟩
  have hF:=hfr.2 i cs q hcs (uptoI_at hqi)
  have hadd:addRow p ps i q=q+p*f:=by simp[addRow,List.getD,hfi]
  obtain⟨d1,e1,m1,k1,d2,e2,m2,k2,rfl,hF⟩:=hF
  have hrlq:=hq q (List.mem_of_getElem? hqi)
  have hrlf:=hps f (List.mem_of_getElem? hfi)
  obtain⟨ad,fcs,had,hff,hfl⟩:=hs.load hfi
  obtain⟨f1,g1,o1,u1,f2,g2,o2,u2,rfl,hff⟩:=hff
  conv=>whnf
  refine⟨ad,had,⟨by omega,by omega⟩,?_⟩
  conv=>whnf
  refine⟨[.bool f1,.slice g1 o1 u1,.bool f2,.slice g2 o2 u2],rfl,fun ρ w' r j x hx=>?_,?_⟩
  ·have hs2:=hs.rel r hC hS
   obtain⟨k2',k3⟩:=hfl j x hx
   have:=Rel.same r hC k2'
   rw[Int.toNat_natCast,cell_of_heap (w:=w1) (w2:=w') (by rw[addB,addB];exact this)]
   exact k3
  conv=>whnf
  refine callE_S (callE_con (Φ:=fun _ _ v _=>v= .int .i64 (rs f)) (fun ρ w' r=>fsign_c (Rel.old r hS) (hff.rel r hS)) ?_)
  rintro ρ wa v1 wb r he hbl rfl
  replace hby:=hby.past (iv':=(wa.heap.size,wb.heap.size)::iv) r hS he fun x hx=>List.mem_cons_of_mem _ hx
  replace hfr:=hfr.past (iv':=(wa.heap.size,wb.heap.size)::iv) r hS he fun x hx=>List.mem_cons_of_mem _ hx
  replace hs:=hs.past (iv':=(wa.heap.size,wb.heap.size)::iv) r hC hS he fun x hx=>List.mem_cons_of_mem _ hx
  replace hff:=hff.past (iv':=(wa.heap.size,wb.heap.size)::iv) r hS he fun x hx=>List.mem_cons_of_mem _ hx
  replace hF:=hF.past (iv':=(wa.heap.size,wb.heap.size)::iv) r hS he fun x hx=>List.mem_cons_of_mem _ hx
  replace hrow:wb.ownsRow 0 T.fraction 4 (.slice a n c) n css.flatten:=ownsRow.keep (rowRel hrow (hout iv) r) fun b hb=>he.block b (by have:=hlow b hb;have:=r.baseLe;omega)
  replace hg:w.grownBy wb _:=grownBy_bel2 hg hbl
  clear r he hbl hfl
  generalize (wa.heap.size,wb.heap.size)::iv=iv2 at*
  conv=>whnf
  refine BrS.mk (fun hz=>?_) (fun hz=>?_)
  ·conv=>whnf
   refine drawn_of_pi hτ hmix [.x 0,.x 1,.x 2,.x 3,.x 4,.x 5,.x 6,.x 7,.x 8,.x 9,.x 10,.x 11] (by kernel_rfl) (by kernel_rfl) ?_
   conv=>whnf
   obtain⟨g,rfl,hload⟩:=rowLoad4 hrow hfr hcs
   refine⟨⟨g,0,none⟩,rfl,⟨by omega,by omega⟩,?_⟩
   conv=>whnf
   refine⟨[.bool d1,.slice e1 m1 k1,.bool d2,.slice e2 m2 k2],rfl,fun ρ w' r j x hx=>?_,?_⟩
   ·have:=rowLoad4 (rowRel hrow (hout iv2) r) (hfr.rel r hS) hcs
    obtain⟨g',h1,h2⟩:=this
    injection h1 with h1
    rw[←h1]at h2
    exact h2 j x hx
   conv=>whnf
   have hl1:=rl_mul p f
   refine callE_con (Φ:=fun _ w' v w2=>FracR w2 (Nw (fun _=>False) w' w2) v (p*f)) (fun ρ w' r=>ftimes_c (Rel.old r hS) (hby.rel r hS) (hff.rel r hS) (by omega) (by omega)) ?_
   rintro ρ wa v1 wb r he hbl hP
   have hPN:=hP.got (S:=S) r.baseLe (iv:=(wa.heap.size,wb.heap.size)::iv2) List.mem_cons_self
   replace hby:=hby.past (iv':=(wa.heap.size,wb.heap.size)::iv2) r hS he fun x hx=>List.mem_cons_of_mem _ hx
   replace hfr:=hfr.past (iv':=(wa.heap.size,wb.heap.size)::iv2) r hS he fun x hx=>List.mem_cons_of_mem _ hx
   replace hs:=hs.past (iv':=(wa.heap.size,wb.heap.size)::iv2) r hC hS he fun x hx=>List.mem_cons_of_mem _ hx
   replace hF:=hF.past (iv':=(wa.heap.size,wb.heap.size)::iv2) r hS he fun x hx=>List.mem_cons_of_mem _ hx
   replace hrow:wb.ownsRow 0 T.fraction 4 (.slice (some ⟨g,0,none⟩) n c) n css.flatten:=ownsRow.keep (rowRel hrow (hout iv2) r) fun b hb=>he.block b (by have:=hlow b hb;have:=r.baseLe;omega)
   replace hg:w.grownBy wb _:=grownBy_bel2 hg hbl
   clear r he hbl hP hff hload
   generalize (wa.heap.size,wb.heap.size)::iv2=iv3 at*
   obtain⟨b5,a5,n5,c5,b6,a6,n6,c6,rfl⟩:=hPN.shape
   conv=>whnf
   refine callE_con (Φ:=fun _ w' v w2=>FracR w2 (Nw (fun _=>False) w' w2) v (q+p*f)) (fun ρ w' r=>fplus_c (Rel.old r hS) (hF.rel r hS) (hPN.rel r hS) (by omega) (by omega)) ?_
   rintro ρ wc v2 wd r he hbl hQ
   have hQN:=hQ.got (S:=S) r.baseLe (iv:=(wc.heap.size,wd.heap.size)::iv3) List.mem_cons_self
   replace hby:=hby.past (iv':=(wc.heap.size,wd.heap.size)::iv3) r hS he fun x hx=>List.mem_cons_of_mem _ hx
   replace hfr:=hfr.past (iv':=(wc.heap.size,wd.heap.size)::iv3) r hS he fun x hx=>List.mem_cons_of_mem _ hx
   replace hs:=hs.past (iv':=(wc.heap.size,wd.heap.size)::iv3) r hC hS he fun x hx=>List.mem_cons_of_mem _ hx
   replace hrow:wd.ownsRow 0 T.fraction 4 (.slice (some ⟨g,0,none⟩) n c) n css.flatten:=ownsRow.keep (rowRel hrow (hout iv3) r) fun b hb=>he.block b (by have:=hlow b hb;have:=r.baseLe;omega)
   replace hg:w.grownBy wd _:=grownBy_bel2 hg hbl
   clear r he hbl hQ hPN hF
   generalize (wc.heap.size,wd.heap.size)::iv3=iv4 at*
   obtain⟨b7,a7,n7,c7,b8,a8,n8,c8,rfl⟩:=hQN.shape
   rw[←hadd]at hQN
   conv=>whnf
   refine⟨⟨g,0,none⟩,rfl,⟨by omega,by omega⟩,?_⟩
   conv=>whnf
   intro ρ w' r
   have hrow3:=rowRel hrow (hout iv4) r
   have hF5:=(hQN.rel r hS).four
   obtain⟨g',hg',hok,hst,hgr,hsz⟩:=storeRow (nv:=[.bool b7,.slice a7 n7 c7,.bool b8,.slice a8 n8 c8]) hrow3 rfl h rfl (by decide)
   injection hg' with hg'
   injection hg' with hg'
   subst hg'
   have hset:=flat_set (cs:=[.bool b7,.slice a7 n7 c7,.bool b8,.slice a8 n8 c8]) hfr.len4 (show i<css.length by omega)
   rw[hset]at hst
   have hkeep:∀x,Cv S w.heap.size iv4 x→(setCells w' ⟨g,i*4,none⟩ [.bool b7,.slice a7 n7 c7,.bool b8,.slice a8 n8 c8]).heap[x]? =w'.heap[x]? :=fun x hx=>
    hgr.block x (Rel.old r hS x hx) fun e=>hdis2 iv4 g rfl (by injection e with e;rw[←e];exact hx)
   have had2:(⟨g,0,none⟩:Addr).add ((i:Int).toNat*4)=⟨g,i*4,none⟩:=by rw[Int.toNat_natCast,addr_add,Nat.zero_add]
   have hF6:=((hfr.rel r hS).keep hkeep).set (j:=i) (hF5.keep hkeep)
   rw[uptoI_succ (f:=addRow p ps) hqi]at hF6
   have hby6:=(hby.rel r hS).keep hkeep
   have hkeep3:∀x,Cv C w.heap.size iv4 x→(setCells w' ⟨g,i*4,none⟩ [.bool b7,.slice a7 n7 c7,.bool b8,.slice a8 n8 c8]).heap[x]? =w'.heap[x]? :=fun x hx=>
    hgr.block x (Rel.old r hC x hx) fun e=>hdis3 iv4 g rfl (by injection e with e;rw[←e];exact hx)
   have hs6:=(hs.rel r hC hS).keep fun x hx=>hx.elim (hkeep3 x) (hkeep x)
   clear hkeep3
   replace hg:w.grownBy (setCells w' ⟨g,i*4,none⟩ [.bool b7,.slice a7 n7 c7,.bool b8,.slice a8 n8 c8]) (some g):=grownBy_trans (grownBy_bel2 hg r.bel) hgr
   have hnot:=fun id b hb hn=>Rel.not r (fun _ h=>h) (hout iv4 g rfl) id b hb hn
   clear r hfr hby hQN hrow hrow3 hF5 hkeep hset hgr hs
   refine⟨by rw[had2],fun k hk=>by rw[had2];exact hok k hk,fun id b hb hn=>by rw[had2];exact hnot id b hb hn,fun w2 hw2=>?_⟩
   have hw2:w2=setCells w' ⟨g,i*4,none⟩ [.bool b7,.slice a7 n7 c7,.bool b8,.slice a8 n8 c8]:=by rw[hw2];exact congrArg (fun x=>setCells w' x _) had2
   rw[←hw2]at hF6 hby6 hst hg hsz hs6
   clear hw2 hok hnot
   conv=>whnf
   refine⟨((i+1:Nat):Int),by rw[wrap64]<;>omega,?_⟩
   conv=>whnf
   intro ρ3 w3 r3
   exact⟨(i+1,css.set i [.bool b7,.slice a7 n7 c7,.bool b8,.slice a8 n8 c8],iv4,w3),⟨h,grownBy_bel2 hg r3.bel,rowRel hst (hout iv4) r3,by simpa using hcl,hF6.rel r3 hS,hby6.rel r3 hS,hs6.rel r3 hC hS⟩,
    Sub.gen [] r3 ⟨rfl,trivial⟩ ⟨rfl,rfl,rfl,rfl,rfl,trivial⟩ (by simp[ScH,Blk.scopd,At.sc]) (by simp[ScE,SV.sc,At.sc]) (by rfl) (fun lo hi h=>h),by dsimp only;omega⟩
  ·have hf0:f=0:=by
    have:rs f=0:=by
     have h1:(rs f==0)=true:=by simpa using hz
     exact eq_of_beq h1
    exact Rat.num_eq_zero.1 (Int.sign_eq_zero_iff_zero.1 this)
   have hsame:addRow p ps i q=q:=by rw[hadd,hf0,Rat.mul_zero,Rat.add_zero]
   conv=>whnf
   refine⟨((i+1:Nat):Int),by rw[wrap64]<;>omega,?_⟩
   conv=>whnf
   intro ρ3 w3 r3
   exact⟨(i+1,css,iv2,w3),⟨h,grownBy_bel2 hg r3.bel,rowRel hrow (hout iv2) r3,hcl,by rw[←uptoI_same hqi hsame];exact hfr.rel r3 hS,hby.rel r3 hS,hs.rel r3 hC hS⟩,
    Sub.gen [] r3 ⟨rfl,trivial⟩ ⟨rfl,rfl,rfl,rfl,rfl,trivial⟩ (by simp[ScH,Blk.scopd,At.sc]) (by simp[ScE,SV.sc,At.sc]) (by rfl) (fun lo hi h=>h),by dsimp only;omega⟩
 ·have h:i=n:=by
   have:¬i<n:=by simpa using h
   omega
  subst h
  conv=>whnf
  intro ρ5 w5 r5
  refine⟨rfl,grownBy_bel2 hg r5.bel,css,rowRel hrow (hout iv) r5,hcl,?_⟩
  have:=(hfr.rel r5 hS).weak (S':=Nw S w w5) fun g hg=>Cv.nw hg r5
  rwa [←hql,uptoI_all]at this
end Go.Ex

/- Elimination, as plain lists of fractions. No condition. -/
namespace Go.Ex

def at2(M:List (List Rat))(i c:Nat):Rat:=(M.getD i []).getD c 0
/-- the first row from k on that is not 0 in a column, looking at so many rows -/
def findK(M:List (List Rat))(c:Nat):Nat→Nat→Nat
 |0,k=>k
 |f+1,k=>if at2 M k c=0 then findK M c f (k+1)else k
def swapL{α:Type}(d:α)(l:List α)(i j:Nat):List α:=(l.set i (l.getD j d)).set j (l.getD i d)
def addR(p:Rat)(ps:List Rat)(j:Nat)(q:Rat):Rat:=q+p*ps.getD j 0
/-- the rows below i have been cleared -/
def clearTo(M:List (List Rat))(at_ c i:Nat):List (List Rat):=M.mapIdx fun j r=>if j<i∧j≠at_ then r.mapIdx (addR (-(r.getD c 0)) (M.getD at_ []))else r
def scaled(M:List (List Rat))(at_ c:Nat):List (List Rat):=M.set at_ ((M.getD at_ []).map (· *(1 / at2 M at_ c)))
/-- a column -/
def stepF(s:List (List Rat)×List Nat)(c:Nat):List (List Rat)×List Nat:=
 if s.2.length<s.1.length then
  let k:=findK s.1 c (s.1.length-s.2.length) s.2.length
  if k=s.1.length then s else
   let M1:=scaled (swapL [] s.1 s.2.length k) s.2.length c
   (clearTo M1 s.2.length c M1.length,s.2++[c])
 else s
/-- the reduced echelon form of the first columns, and the columns of the pivots -/
def reduceF(M:List (List Rat))(cols:Nat):List (List Rat)×List Nat:=(List.range cols).foldl stepF (M,[])

theorem foldl_done{s:List (List Rat)×List Nat}(h:¬s.2.length<s.1.length):∀l:List Nat,l.foldl stepF s=s
 |[]=>rfl
 |c::r=>by
  rw[List.foldl_cons]
  have:stepF s c=s:=by rw[stepF,if_neg h]
  rw[this]
  exact foldl_done h r
theorem swapL_length{α:Type}(d:α)(l:List α)(i j:Nat):(swapL d l i j).length=l.length:=by simp[swapL]
theorem clearTo_length(M:List (List Rat))(a c i:Nat):(clearTo M a c i).length=M.length:=by simp[clearTo]
theorem scaled_length(M:List (List Rat))(a c:Nat):(scaled M a c).length=M.length:=by simp[scaled]
theorem findK_le(M:List (List Rat))(c:Nat):∀f k,k≤findK M c f k∧findK M c f k≤k+f
 |0,k=>⟨Nat.le_refl _,Nat.le_refl _⟩
 |f+1,k=>by
  unfold findK
  split
  ·have:=findK_le M c f (k+1);omega
  ·omega
theorem findK_ne(M:List (List Rat))(c:Nat):∀f k,findK M c f k<k+f→at2 M (findK M c f k) c≠0
 |0,k,h=>by simp[findK]at h
 |f+1,k,h=>by
  unfold findK at h ⊢
  split
  ·rename_i h0
   rw[if_pos h0]at h
   exact findK_ne M c f (k+1) (by omega)
  ·rename_i h0
   exact h0
/-- the search goes on -/
theorem findK_step{M:List (List Rat)}{c f k:Nat}(h:at2 M k c=0):findK M c (f+1) k=findK M c f (k+1):=by rw[findK,if_pos h]
theorem findK_stop{M:List (List Rat)}{c f k:Nat}(h:at2 M k c≠0):findK M c (f+1) k=k:=by rw[findK,if_neg h]
/-- one row more is cleared -/
theorem clearTo_zero(M:List (List Rat))(a c:Nat):clearTo M a c 0=M:=by
 apply List.ext_getElem?
 intro j
 simp[clearTo]
theorem clearTo_at(M:List (List Rat))(a c i:Nat):(clearTo M a c i)[a]? =M[a]? :=by
 simp only[clearTo,List.getElem?_mapIdx]
 cases M[a]? <;>simp
theorem clearTo_ge(M:List (List Rat))(a c i j:Nat)(h:i≤j):(clearTo M a c i)[j]? =M[j]? :=by
 simp only[clearTo,List.getElem?_mapIdx]
 cases M[j]? with
 |none=>rfl
 |some r=>simp;omega
theorem clearTo_succ{M:List (List Rat)}{a c i:Nat}{r:List Rat}(h:M[i]? =some r)(hne:i≠a):(clearTo M a c i).set i (r.mapIdx (addR (-(r.getD c 0)) (M.getD a [])))=clearTo M a c (i+1):=by
 apply List.ext_getElem?
 intro j
 have hi:=(List.getElem?_eq_some_iff.1 h).1
 by_cases hij:i=j
 ·subst hij
  rw[List.getElem?_set_self (by rw[clearTo_length];exact hi)]
  simp[clearTo,List.getElem?_mapIdx,h,hne]
 ·rw[List.getElem?_set_ne hij]
  simp only[clearTo,List.getElem?_mapIdx]
  have:(j<i)↔(j<i+1):=by omega
  simp[this]
theorem clearTo_skip(M:List (List Rat))(a c:Nat):clearTo M a c a=clearTo M a c (a+1):=by
 apply List.ext_getElem?
 intro j
 simp only[clearTo,List.getElem?_mapIdx]
 have:(j<a∧j≠a)↔(j<a+1∧j≠a):=by omega
 simp[this]

/-- sizes: all entries -/
def Ht(M:List (List Rat))(h:Nat):Prop:=∀r∈M,∀q∈r,rl q+1≤h
theorem Ht.mono{M:List (List Rat)}{h h':Nat}(H:Ht M h)(k:h≤h'):Ht M h':=fun r hr q hq=>Nat.le_trans (H r hr q hq) k
theorem Ht.at{M:List (List Rat)}{h i:Nat}{r:List Rat}(H:Ht M h)(hi:M[i]? =some r):∀q∈r,rl q+1≤h:=H r (List.mem_of_getElem? hi)
theorem Ht.swap{M:List (List Rat)}{h i j:Nat}(H:Ht M h)(hi:i<M.length)(hj:j<M.length):Ht (swapL [] M i j) h:=by
 intro r hr
 have:r∈M:=by
  unfold swapL at hr
  rcases List.mem_or_eq_of_mem_set hr with h1|h1
  ·rcases List.mem_or_eq_of_mem_set h1 with h2|h2
   ·exact h2
   ·rw[h2,List.getD,List.getElem?_eq_getElem hj];exact List.getElem_mem hj
  ·rw[h1,List.getD,List.getElem?_eq_getElem hi];exact List.getElem_mem hi
 exact H r this
theorem rl_one:rl 1=1:=by decide
theorem rl_inv{q:Rat}(h:q≠0):rl (1 / q)≤rl q+1:=by
 have:=rl_div 1 h
 rw[rl_one]at this
 omega
theorem rl_getD{r:List Rat}{h:Nat}(H:∀q∈r,rl q+1≤h)(h2:2≤h)(c:Nat):rl (r.getD c 0)+1≤h:=by
 rw[List.getD]
 cases hc:r[c]? with
 |none=>simp;exact Nat.le_trans (by decide) h2
 |some q=>simp;exact H q (List.mem_of_getElem? hc)
theorem swapL_fst{M:List (List Rat)}{i j:Nat}(hi:i<M.length)(hj:j<M.length):(swapL [] M i j)[i]? =M[j]? :=by
 unfold swapL
 by_cases h:j=i
 ·subst h
  rw[List.getElem?_set_self (by simpa using hi),List.getD,List.getElem?_eq_getElem hi]
  rfl
 ·rw[List.getElem?_set_ne h,List.getElem?_set_self hi,List.getD,List.getElem?_eq_getElem hj]
  rfl
theorem at2_swap{M:List (List Rat)}{i j c:Nat}(hi:i<M.length)(hj:j<M.length):at2 (swapL [] M i j) i c=at2 M j c:=by
 simp only[at2,List.getD,swapL_fst hi hj]
theorem Ht.scaled{M:List (List Rat)}{h a c:Nat}(H:Ht M h)(h2:2≤h)(ha:a<M.length)(h0:at2 M a c≠0):
  (∀r,(scaled M a c)[a]? =some r→∀q∈r,rl q+1≤2*h)∧∀j r,j≠a→(scaled M a c)[j]? =some r→∀q∈r,rl q+1≤h:=by
 have hA:M[a]? =some M[a]:=List.getElem?_eq_getElem ha
 have hgd:M.getD a []=M[a]:=by rw[List.getD,hA];rfl
 refine⟨fun r hr q hq=>?_,fun j r hj hr q hq=>?_⟩
 ·unfold Go.Ex.scaled at hr
  rw[List.getElem?_set_self ha]at hr
  injection hr with hr
  subst hr
  obtain⟨p,hp,rfl⟩:=List.mem_map.1 hq
  rw[hgd]at hp
  have h1:=H.at hA p hp
  have h3:=rl_mul p (1 / at2 M a c)
  have h4:=rl_inv h0
  have h5:=rl_getD (H.at hA) h2 c
  have h6:at2 M a c=M[a].getD c 0:=by rw[at2,hgd]
  rw[h6]at h4 h3
  rw[h6]
  omega
 ·unfold Go.Ex.scaled at hr
  rw[List.getElem?_set_ne (Ne.symm hj)]at hr
  exact H.at hr q hq
theorem Ht.cleared{M:List (List Rat)}{h a c i:Nat}(hA:∀r,M[a]? =some r→∀q∈r,rl q+1≤2*h)(hB:∀j r,j≠a→M[j]? =some r→∀q∈r,rl q+1≤h)(h2:2≤h):Ht (clearTo M a c i) (4*h):=by
 intro r hr q hq
 obtain⟨j,hj⟩:=List.getElem?_of_mem hr
 simp only[clearTo,List.getElem?_mapIdx,Option.map_eq_some_iff]at hj
 obtain⟨r0,hr0,hj⟩:=hj
 split at hj
 ·rename_i hc
  subst hj
  obtain⟨x,hx⟩:=List.getElem?_of_mem hq
  simp only[List.getElem?_mapIdx,Option.map_eq_some_iff]at hx
  obtain⟨q0,hq0,rfl⟩:=hx
  have h1:=hB j r0 hc.2 hr0 q0 (List.mem_of_getElem? hq0)
  have h3:=rl_getD (hB j r0 hc.2 hr0) h2 c
  have h4:rl ((M.getD a []).getD x 0)+1≤2*h:=by
   cases hM:M[a]? with
   |none=>
    have:M.getD a []=[]:=by rw[List.getD,hM];rfl
    rw[this]
    show rl 0+1≤_
    exact Nat.le_trans (by decide) (show 2≤2*h by omega)
   |some ra=>
    have:M.getD a []=ra:=by rw[List.getD,hM];rfl
    rw[this]
    exact rl_getD (hA ra hM) (by omega) x
  unfold addR
  have h5:=rl_add q0 (-(r0.getD c 0)*(M.getD a []).getD x 0)
  have h6:=rl_mul (-(r0.getD c 0)) ((M.getD a []).getD x 0)
  have h7:=rl_neg (r0.getD c 0)
  omega
 ·subst hj
  by_cases hja:j=a
  ·subst hja
   have:=hA r0 hr0 q hq
   omega
  ·have:=hB j r0 hja hr0 q hq
   omega
end Go.Ex

/- What elimination keeps. No condition. -/
namespace Go.Ex
def Inv(M:List (List Rat))(cols h0:Nat)(s:List (List Rat)×List Nat):Prop:=s.1.length=M.length∧s.2.length≤M.length∧(∀p∈s.2,p<cols)∧Ht s.1 (4^s.2.length*h0)
theorem Inv.step{M:List (List Rat)}{cols h0 c:Nat}{s:List (List Rat)×List Nat}(h:Inv M cols h0 s)(hc:c<cols)(h2:2≤h0):Inv M cols h0 (stepF s c):=by
 obtain⟨h1,h3,h4,h5⟩:=h
 unfold stepF
 split
 ·rename_i hlt
  dsimp only
  split
  ·exact⟨h1,h3,h4,h5⟩
  ·rename_i hk
   have hle:=findK_le s.1 c (s.1.length-s.2.length) s.2.length
   have hkl:findK s.1 c (s.1.length-s.2.length) s.2.length<s.1.length:=by omega
   have hne:=findK_ne s.1 c (s.1.length-s.2.length) s.2.length (by omega)
   have hH2:2≤4^s.2.length*h0:=Nat.le_trans h2 (Nat.le_mul_of_pos_left _ (Nat.pow_pos (by decide)))
   have h6:=h5.swap hlt hkl
   have h7:=h6.scaled (a:=s.2.length) (c:=c) hH2 (by rw[swapL_length];exact hlt) (by rw[at2_swap hlt hkl];exact hne)
   refine⟨by dsimp only;rw[clearTo_length,scaled_length,swapL_length,h1],by simp;omega,fun p hp=>?_,?_⟩
   ·dsimp only at hp
    rcases List.mem_append.1 hp with hp|hp
    ·exact h4 p hp
    ·simp at hp;omega
   ·dsimp only
    have:4^(s.2++[c]).length*h0=4*(4^s.2.length*h0):=by
     rw[List.length_append,List.length_singleton,Nat.pow_succ,Nat.mul_comm (4^s.2.length) 4,Nat.mul_assoc]
    rw[this]
    exact Ht.cleared h7.1 h7.2 hH2
 ·exact⟨h1,h3,h4,h5⟩
theorem reduceF_inv{M:List (List Rat)}{cols h0:Nat}(h:Ht M h0)(h2:2≤h0):Inv M cols h0 (reduceF M cols):=by
 have key:∀(l:List Nat) (s:List (List Rat)×List Nat),(∀c∈l,c<cols)→Inv M cols h0 s→Inv M cols h0 (l.foldl stepF s):=by
  intro l
  induction l with
  |nil=>intro s _ hs;exact hs
  |cons c r ih=>
   intro s hc hs
   rw[List.foldl_cons]
   exact ih _ (fun x hx=>hc x (List.mem_cons_of_mem _ hx)) (hs.step (hc c List.mem_cons_self) h2)
 exact key _ _ (fun c hc=>List.mem_range.1 hc) ⟨rfl,Nat.zero_le _,by simp,by simpa using h⟩
def Len(n:Nat)(M:List (List Rat)):Prop:=∀r∈M,r.length=n
theorem Len.set{n:Nat}{M:List (List Rat)}{i:Nat}{r:List Rat}(h:Len n M)(hr:r.length=n):Len n (M.set i r):=fun x hx=>by
 rcases List.mem_or_eq_of_mem_set hx with h1|h1
 ·exact h x h1
 ·rw[h1];exact hr
theorem Len.getD{n:Nat}{M:List (List Rat)}{i:Nat}(h:Len n M)(hi:i<M.length):(M.getD i []).length=n:=by
 rw[List.getD,List.getElem?_eq_getElem hi]
 exact h _ (List.getElem_mem hi)
theorem Len.step{n c:Nat}{s:List (List Rat)×List Nat}(h:Len n s.1):Len n (stepF s c).1:=by
 unfold stepF
 split
 ·rename_i hlt
  dsimp only
  split
  ·exact h
  ·rename_i hk
   have hle:=findK_le s.1 c (s.1.length-s.2.length) s.2.length
   have hkl:findK s.1 c (s.1.length-s.2.length) s.2.length<s.1.length:=by omega
   dsimp only
   generalize findK s.1 c (s.1.length-s.2.length) s.2.length=k at*
   have h1:Len n (swapL [] s.1 s.2.length k):=(h.set (h.getD hkl)).set (h.getD hlt)
   have h2:Len n (scaled (swapL [] s.1 s.2.length k) s.2.length c):=h1.set (by rw[List.length_map];exact h1.getD (by rw[swapL_length];exact hlt))
   intro r hr
   obtain⟨j,hj⟩:=List.getElem?_of_mem hr
   simp only[clearTo,List.getElem?_mapIdx,Option.map_eq_some_iff]at hj
   obtain⟨r0,hr0,hj⟩:=hj
   have h3:=h2 r0 (List.mem_of_getElem? hr0)
   split at hj
   ·subst hj;rw[List.length_mapIdx];exact h3
   ·subst hj;exact h3
 ·exact h
theorem reduceF_len{n cols:Nat}{M:List (List Rat)}(h:Len n M):Len n (reduceF M cols).1:=by
 have key:∀(l:List Nat) (s:List (List Rat)×List Nat),Len n s.1→Len n (l.foldl stepF s).1:=by
  intro l
  induction l with
  |nil=>intro s hs;exact hs
  |cons c r ih=>intro s hs;exact ih _ hs.step
 exact key _ _ h
end Go.Ex
