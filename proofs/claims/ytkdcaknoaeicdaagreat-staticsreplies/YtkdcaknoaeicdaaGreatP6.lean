/- A part of the proof: texts X48 to L11. Each tells its conditions in its theorems. -/
import Derived.Test.YtkdcaknoaeicdaaGreatP4
import Derived.Test.YtkdcaknoaeicdaaGreatP5
namespace Go.Ex
open Go Go.Sx Go.Proofs
theorem Fv(n:Int):cX [n.tmod 65536,(n.tdiv 65536).tmod 65536,(n.tdiv 65536).tdiv 65536]=n:=by
 simp only[cX]
 have h1:=Int.mul_tdiv_add_tmod n 65536;have h2:=Int.mul_tdiv_add_tmod (n.tdiv 65536) 65536;omega
theorem il(n:Int)(w:World)(h1: -9223372036854775808<=n)(h2:n<=9223372036854775807):
  dQ PG N.zc #[.int .i64 n] w (dU w fun v w2=>cU w2 (Nw (fun _=>False) w w2) v n):=by
 refine zf (by simp) ?_;have b1:=rW n;have b2:=rW (n.tdiv 65536);have e1:=Int.mul_tdiv_add_tmod n 65536;have e2:=Int.mul_tdiv_add_tmod (n.tdiv 65536) 65536;have hsum:=Fv n;conv=>whnf
 refine⟨by decide,n.tmod 65536,rfl,?_⟩;conv=>whnf
 refine⟨by decide,n.tdiv 65536,by rw[wrap64]<;>omega,?_⟩;conv=>whnf
 refine⟨by decide,_,rfl,?_⟩;conv=>whnf
 refine⟨by decide,n.tdiv 65536,by rw[wrap64]<;>omega,?_⟩;conv=>whnf
 refine⟨by decide,(n.tdiv 65536).tdiv 65536,by rw[wrap64]<;>omega,?_⟩;conv=>whnf
 generalize n.tmod 65536=c0 at*
 generalize (n.tdiv 65536).tmod 65536=c1 at*
 generalize (n.tdiv 65536).tdiv 65536=c2 at*
 refine bp (cA (Φ:=fun _ w' v w2=>cU w2 (Nw (fun _=>False) w' w2) v n) (fun ρ w' r=>?_) ?_)
 ·rw[<-hsum];have ha:=r.nA (id:=1) (sz:=1) (n:=3) rfl rfl (by decide) (by intro u hu;simp at hu;rcases hu with rfl|rfl|rfl<;>rfl)
  exact rX (S:=fun g=>g=(ρ 1).g) (fun g hg=>by rw[hg];exact(r.low 1 _ rfl (r.nn 1 _ rfl (by intros;simp) (by simp))).2) (cs:=[c0,c1,c2]) ha (by
   intro c hc;simp at hc
   rcases hc with rfl|rfl|rfl<;>omega) (by simp)
 rintro ρ wa v1 wb r he hb hI;have hI:=hI.cQ (S:=fun _=>False) r.bm (iv:=(wa.heap.size,wb.heap.size)::[]) aH;clear r he;generalize (wa.heap.size,wb.heap.size)::[]=iv at*
 obtain⟨b,a,m,c,rfl⟩:=hI.shape;conv=>whnf
 intro ρe we re;exact⟨_,rfl,hb.tr re.bs,hI.out re (bl w)⟩
def gu(z:Int):Value:=if z.natAbs<1073741824 then .tuple #[.int .i64 z,.bool true]else .tuple #[.int .i64 0,.bool false]
theorem gg.AQ{S:Nat->Prop}{w:World}{v:Value}{z:Int}(h:gg w S v z):∃b a ls c,v= .agg #[.bool b,.slice a ls.length c]∧cV w S (.slice a ls.length c) ls∧sg b (val ls)=z:=by
 obtain⟨b,ls,⟨lv,h1,h2⟩,h3⟩:=h;obtain⟨a,c,rfl,_⟩:=h2.sl;exact⟨b,a,ls,c,h1,h2,h3⟩
theorem Ew{ls:List Nat}{i x:Nat}(h:ls[i]? =some x):wt i*x<=val ls:=by
 have hi:=(aE.1 h).1;have h1:=dm ls (i+1) hi;rw[dC h]at h1;omega
theorem G1{i:Nat}(h:0<i):4294967296<=wt i:=by
 obtain⟨k,rfl⟩:∃k,i=k+1:=⟨i-1,by omega⟩
 have:=Ad k;rw[gT];omega
theorem kh{S:Nat->Prop}{w:World}{v:Value}{z:Int}(hS:Old S w)(hI:gg w S v z):
  dQ PG N.sG #[v] w (dU w fun v' _=>v'=gu z):=by
 obtain⟨b,a,ls,c,rfl,hL,hz⟩:=hI.AQ;refine uw (by simp) ?_;conv=>whnf
 have hlen:=hL.le
 refine⟨Nat×World,fun y=>⟨[(1,.o (.p 0 0)),(4,.o (.v (.int .i64 (val (ls.take y.1))))),(5,.o (.v (.int .i64 y.1)))],[(0,.box T.Int [.v (.bool b),.v (.slice a ls.length c)])],1,[],y.2⟩,fun y=>ls.length-y.1,
  fun y=>y.1<=ls.length∧cF w.heap.size w y.2∧val (ls.take y.1)<1073741824∧(∀j,0<j->j<y.1->ls[j]? =some 0),?_,?_⟩
 ·intro ρ w' r;exact⟨(0,w'),⟨by simp,r.bs,by simp[val],by omega⟩,Sub.gen [] r ⟨rfl,trivial⟩ ⟨rfl,rfl,rfl,trivial⟩ (by simp[cY,cN.scopd,At.sc]) (by simp[cO,SV.sc,At.sc]) (by rfl) (fun lo hi h=>h)⟩
 rintro⟨i,w1⟩ ⟨hi,hw,hv,h0⟩;dsimp only at hi hw hv h0 ⊢;conv=>whnf
 refine cW.mk (fun hib=>?_) (fun hib=>?_)
 ·have hib:i<ls.length:=by simpa using hib
  obtain⟨a',c',e,_,hcell⟩:=hL.sl;injection e with e1 e2 e3;subst e1 e3;obtain⟨x,hx⟩:∃x,ls[i]? =some x:=⟨_,aA hib⟩
  have hx32:=hL.lm x (aD hx);obtain⟨ad,rfl,q1,q2⟩:=hcell i x hx;have hld:∀{H nx iv ρ w'},Rel H nx iv w.heap.size w1 ρ w'->w'.cell? (ad.add ((i:Int).toNat*1))=some (.int .u32 x):=fun r=>by
   rw[aB,aR];exact ig hS hw r q1 q2
  have hge:=Ew hx;conv=>whnf
  refine cW.mk (fun hp=>?_) (fun hp=>?_)
  ·have hp:0<i:=by
    have:(i:Int)>0:=aG hp;omega
   have hw1:=G1 hp;conv=>whnf
   refine⟨ad,rfl,⟨by omega,by omega⟩,?_⟩;conv=>whnf
   refine⟨.int .u32 x,fun ρ w' r=>hld r,?_⟩;conv=>whnf
   refine cW.mk (fun hne=>?_) (fun hne=>?_)
   ·have hne:x≠0:=by simpa using hne
    conv=>whnf
    intro ρe we re;refine⟨_,rfl,hw.tr re.bs,?_⟩;have:¬z.natAbs<1073741824:=by
     have:=Nat.mul_le_mul hw1 (show 1<=x by omega);rw[<-hz,pC];omega
    show _=gu z;rw[gu,aL this];rfl
   ·have hne:x=0:=by simpa using hne
    subst hne;conv=>whnf
    refine⟨ad,rfl,⟨by omega,by omega⟩,?_⟩;conv=>whnf
    refine⟨.int .u32 0,fun ρ w' r=>hld r,?_⟩;conv=>whnf
    have hnx:val (ls.take (i+1))=val (ls.take i):=by rw[dC hx];omega
    have hv2:val (ls.take (i+1))<1073741824:=by rw[hnx];exact hv
    have h02:∀j,0<j->j<i+1->ls[j]? =some 0:=fun j h1 h2=>by
     rcases bA j i with h3|h3
     ·exact h0 j h1 h3
     ·have:j=i:=by omega
      rw[this];exact hx
    refine⟨ad,rfl,⟨by omega,by omega⟩,?_⟩;conv=>whnf
    refine⟨.int .u32 0,fun ρ w' r=>hld r,?_⟩;conv=>whnf
    refine⟨((0:Nat):Int),by decide,?_⟩;conv=>whnf
    refine⟨((val (ls.take (i+1)):Nat):Int),by rw[hnx,wrap64]<;>omega,?_⟩;conv=>whnf
    refine⟨((i+1:Nat):Int),by rw[wrap64]<;>omega,?_⟩;conv=>whnf
    intro ρ3 w3 r3;exact⟨(i+1,w3),⟨hib,hw.tr r3.bs,hv2,h02⟩,Sub.gen [] r3 ⟨rfl,trivial⟩ ⟨rfl,rfl,rfl,trivial⟩ (by simp[cY,cN.scopd,At.sc]) (by simp[cO,SV.sc,At.sc]) (by rfl) (fun lo hi h=>h),by dsimp only;omega⟩
  ·have hp:i=0:=by
    have:¬((i:Int)>0):=aF hp;omega
   subst hp;conv=>whnf
   refine⟨ad,rfl,⟨by omega,by omega⟩,?_⟩;conv=>whnf
   refine⟨.int .u32 x,fun ρ w' r=>hld r,?_⟩;conv=>whnf
   refine cW.mk (fun hbig=>?_) (fun hbig=>?_)
   ·have hbig:=aG hbig;conv=>whnf
    intro ρe we re;refine⟨_,rfl,hw.tr re.bs,?_⟩;have:¬z.natAbs<1073741824:=by
     rw[<-hz,pC];rw[gS]at hge;omega
    show _=gu z;rw[gu,aL this];rfl
   ·have hbig:=aF hbig;have hnx:val (ls.take (0+1))=x:=by rw[dC hx];simp[val,gS]
    have hv2:val (ls.take (0+1))<1073741824:=by rw[hnx];omega
    have h02:∀j,0<j->j<0+1->ls[j]? =some 0:=fun j h1 h2=>by
     omega
    conv=>whnf
    refine⟨ad,rfl,⟨by omega,by omega⟩,?_⟩;conv=>whnf
    refine⟨.int .u32 x,fun ρ w' r=>hld r,?_⟩;conv=>whnf
    refine⟨((x:Nat):Int),by rw[wrap64]<;>omega,?_⟩;conv=>whnf
    refine⟨((val (ls.take (0+1)):Nat):Int),by rw[hnx,wrap64]<;>simp[val]<;>omega,?_⟩;conv=>whnf
    refine⟨((0+1:Nat):Int),by rw[wrap64]<;>omega,?_⟩;conv=>whnf
    intro ρ3 w3 r3;exact⟨(0+1,w3),⟨hib,hw.tr r3.bs,hv2,h02⟩,Sub.gen [] r3 ⟨rfl,trivial⟩ ⟨rfl,rfl,rfl,trivial⟩ (by simp[cY,cN.scopd,At.sc]) (by simp[cO,SV.sc,At.sc]) (by rfl) (fun lo hi h=>h),by dsimp only;omega⟩
 ·have hib:i=ls.length:=by
   have:¬i<ls.length:=by simpa using hib
   omega
  subst hib;rw[ah]at hv ⊢;have hlt:z.natAbs<1073741824:=by rw[<-hz,pC];exact hv
  conv=>whnf
  cases b with
  |true=>
   conv=>whnf
   refine⟨-(val ls:Int),by rw[wrap64]<;>omega,?_⟩;conv=>whnf
   intro ρe we re;refine⟨_,rfl,hw.tr re.bs,?_⟩;show _=gu z;rw[gu,aQ hlt,<-hz,Dd];rfl
  |false=>
   conv=>whnf
   intro ρe we re;refine⟨_,rfl,hw.tr re.bs,?_⟩;show _=gu z;rw[gu,aQ hlt,<-hz,Fk];rfl
theorem xd{a b:Int}(hb:b≠0):a.tdiv (b.sign*(Nat.gcd a.natAbs b.natAbs:Nat))=(Rat.divInt a b).num∧b.tdiv (b.sign*(Nat.gcd a.natAbs b.natAbs:Nat))=((Rat.divInt a b).den:Int):=by
 have hg:0<Nat.gcd a.natAbs b.natAbs:=bX _ (by omega);obtain⟨k,hk⟩:((Nat.gcd a.natAbs b.natAbs:Nat):Int) ∣ a:=by rw[<-Int.natAbs_dvd_natAbs];exact Nat.gcd_dvd_left _ _
 obtain⟨l,hl⟩:((Nat.gcd a.natAbs b.natAbs:Nat):Int) ∣ b:=by rw[<-Int.natAbs_dvd_natAbs];exact Nat.gcd_dvd_right _ _
 have hc:(b.gcd a:Int)=(Nat.gcd a.natAbs b.natAbs:Nat):=by rw[Int.gcd_comm];rfl
 have hc2:b.gcd a=Nat.gcd a.natAbs b.natAbs:=by rw[Int.gcd_comm];rfl
 rw[Rat.num_divInt,Rat.den_divInt,aL hb,hc,hc2];generalize Nat.gcd a.natAbs b.natAbs=g at*
 have hgi:(g:Int)≠0:=by omega
 have hs:b.sign*b.sign=1:=by
  rcases Int.lt_or_gt_of_ne hb with h|h
  ·rw[bV h];rfl
  ·rw[bW h];rfl
 have hs0:b.sign≠0:=fun e=>by rw[e]at hs;simp at hs
 have hne:b.sign*g≠0:=Int.mul_ne_zero hs0 hgi;have hab:((b.natAbs / g:Nat):Int)=b.sign*l:=by
  rw[Int.natCast_ediv,show((b.natAbs:Nat):Int)=b.sign*b by
   rcases Int.lt_or_gt_of_ne hb with h|h
   ·rw[bV h];omega
   ·rw[bW h];omega]
  conv=>lhs;lhs;rhs;rw[hl]
  rw[show b.sign*(↑g*l)= ↑g*(b.sign*l) by rw[<-Int.mul_assoc,<-Int.mul_assoc,Int.mul_comm b.sign]];exact Int.mul_ediv_cancel_left _ hgi
 constructor
 ·rw[show b.sign*a / (g:Int)=b.sign*k by
   conv=>lhs;lhs;rhs;rw[hk]
   rw[show b.sign*(↑g*k)= ↑g*(b.sign*k) by rw[<-Int.mul_assoc,<-Int.mul_assoc,Int.mul_comm b.sign]]
   exact Int.mul_ediv_cancel_left _ hgi]
  conv=>lhs;lhs;rw[hk,show(g:Int)*k=(b.sign*g)*(b.sign*k) by
   rw[show (b.sign* ↑g)*(b.sign*k)=(b.sign*b.sign)*(↑g*k) by simp only[Int.mul_assoc,Int.mul_comm,Int.mul_left_comm],hs,Int.one_mul]]
  exact Int.mul_tdiv_cancel_left _ hne
 ·rw[hab]
  conv=>lhs;lhs;rw[hl,show(g:Int)*l=(b.sign*g)*(b.sign*l) by
   rw[show (b.sign* ↑g)*(b.sign*l)=(b.sign*b.sign)*(↑g*l) by simp only[Int.mul_assoc,Int.mul_comm,Int.mul_left_comm],hs,Int.one_mul]]
  exact Int.mul_tdiv_cancel_left _ hne
theorem nX(a b:Int)(w:World)(ha:a.natAbs<4611686018427387904)(hb:b.natAbs<4611686018427387904)(hb0:b≠0):
  dQ PG N.pj #[.int .i64 a,.int .i64 b] w (dU w fun v w2=>cH w2 (Nw (fun _=>False) w w2) v (Rat.divInt a b)):=by
 refine sh (by simp) ?_;conv=>whnf
 refine⟨-a,by rw[wrap64]<;>omega,?_⟩;conv=>whnf
 refine⟨-b,by rw[wrap64]<;>omega,?_⟩;conv=>whnf
 rw[show max a (-a)=(a.natAbs:Int) by omega,show max b (-b)=(b.natAbs:Int) by omega]
 refine⟨Nat×Nat×World,fun z=>⟨[(0,.o (.v (.int .i64 a))),(1,.o (.v (.int .i64 b))),(4,.o (.p 0 0)),(5,.o (.v (.int .i64 z.1))),(6,.o (.v (.int .i64 z.2.1)))],[(0,.box T.Rat [.v (.bool false),.v (.slice none 0 0),.v (.bool false),.v (.slice none 0 0)])],1,[],z.2.2⟩,fun z=>z.2.1,
  fun z=>cF w.heap.size w z.2.2∧Nat.gcd z.1 z.2.1=Nat.gcd a.natAbs b.natAbs∧z.1<4611686018427387904∧z.2.1<4611686018427387904,?_,?_⟩
 ·intro ρ w' r;exact⟨(a.natAbs,b.natAbs,w'),⟨r.bs,rfl,ha,hb⟩,Sub.gen [] r ⟨rfl,trivial⟩ ⟨rfl,rfl,rfl,rfl,rfl,trivial⟩ (by simp[cY,cN.scopd,At.sc]) (by simp[cO,SV.sc,At.sc]) (by rfl) (fun lo hi h=>h)⟩
 rintro⟨x,y,w1⟩ ⟨hw,hg,hx,hy⟩;dsimp only at hw hg hx hy ⊢;conv=>whnf
 refine cW.mk (fun h=>?_) (fun h=>?_)
 ·have h:0<y:=by
   have:(y:Int)>0:=aG h;omega
  conv=>whnf
  refine bw hτ dH [.x 0,.x 1,.x 2,.x 3,.x 4,.x 5] (by kernel_rfl) (by kernel_rfl) ?_;conv=>whnf
  have hm:=bc x h;refine⟨by omega,((x % y:Nat):Int),rfl,?_⟩;conv=>whnf
  intro ρ3 w3 r3;exact⟨(y,x % y,w3),⟨hw.tr r3.bs,by dsimp only;rw[<-hg,Nat.gcd_comm x y,Nat.gcd_rec y x,Nat.gcd_comm],hy,by dsimp only;omega⟩,Sub.gen [] r3 ⟨rfl,trivial⟩ ⟨rfl,rfl,rfl,rfl,rfl,trivial⟩ (by simp[cY,cN.scopd,At.sc]) (by simp[cO,SV.sc,At.sc]) (by rfl) (fun lo hi h=>h),by dsimp only;omega⟩
 have h:y=0:=by
  have:¬(y:Int)>0:=aF h;omega
 subst h;rw[Nat.gcd_zero_right]at hg;have hx0:x≠0:=by rw[hg];exact Nat.pos_iff_ne_zero.1 (bX _ (by omega))
 obtain⟨hn,hd⟩:=xd (a:=a) hb0;rw[<-hg]at hn hd;have bn:(Rat.divInt a b).num.natAbs<=a.natAbs:=by rw[<-hn];exact Int.natAbs_tdiv_le_natAbs _ _
 have bd:((Rat.divInt a b).den:Int).natAbs<=b.natAbs:=by rw[<-hd];exact Int.natAbs_tdiv_le_natAbs _ _
 conv=>whnf
 refine cW.mk (fun hb1=>?_) (fun hb1=>?_)
 ·have hb1:=aG hb1;rw[bV hb1,Int.neg_one_mul]at hn hd;conv=>whnf
  refine⟨-(x:Int),by rw[wrap64]<;>omega,?_⟩;conv=>whnf
  refine bw hτ dH [.x 0,.x 1,.x 2,.x 4,.x 5,.x 6,.x 3,.x 7,.x 8,.x 9] (by kernel_rfl) (by kernel_rfl) ?_;conv=>whnf
  refine⟨by omega,(Rat.divInt a b).num,by rw[hn,wrap64]<;>omega,?_⟩;conv=>whnf
  refine⟨by omega,((Rat.divInt a b).den:Int),by rw[hd,wrap64]<;>omega,?_⟩;conv=>whnf
  refine cA (Φ:=fun _ w' v w2=>cU w2 (Nw (fun _=>False) w' w2) v (Rat.divInt a b).num) (fun ρ w' r=>il _ w' (by omega) (by omega)) ?_;rintro ρ wa v1 wb r he hbb hI;replace hw:=hw.tr hbb;have hN:=hI.cQ (S:=fun _=>False) r.bm (iv:=(wa.heap.size,wb.heap.size)::[]) aH;clear r he hI hbb;generalize (wa.heap.size,wb.heap.size)::[]=iv at*
  obtain⟨b1,a1,m1,c1,rfl⟩:=hN.shape;conv=>whnf
  refine cA (Φ:=fun _ w' v w2=>cU w2 (Nw (fun _=>False) w' w2) v ((Rat.divInt a b).den:Int)) (fun ρ w' r=>il _ w' (by omega) (by omega)) ?_;rintro ρ wa v1 wb2 r he hbb hI;replace hw:=hw.tr hbb;replace hN:=hN.bq (iv':=(wa.heap.size,wb2.heap.size)::iv) r (bl w) he fun x hx=>aC _ hx;have hD:=hI.cQ (S:=fun _=>False) r.bm (iv:=(wa.heap.size,wb2.heap.size)::iv) aH;clear r he hI hbb;generalize (wa.heap.size,wb2.heap.size)::iv=iv2 at*
  obtain⟨b2,a2,m2,c2,rfl⟩:=hD.shape;conv=>whnf
  intro ρe we re;exact⟨_,rfl,hw.tr re.bs,(cH.of hN hD).out re (bl w)⟩
 ·have hb1:=aF hb1;rw[bW (by omega),Int.one_mul]at hn hd;conv=>whnf
  refine bw hτ dH [.x 0,.x 1,.x 2,.x 4,.x 5,.x 6,.x 3,.x 7,.x 8,.x 9] (by kernel_rfl) (by kernel_rfl) ?_;conv=>whnf
  refine⟨by omega,(Rat.divInt a b).num,by rw[hn,wrap64]<;>omega,?_⟩;conv=>whnf
  refine⟨by omega,((Rat.divInt a b).den:Int),by rw[hd,wrap64]<;>omega,?_⟩;conv=>whnf
  refine cA (Φ:=fun _ w' v w2=>cU w2 (Nw (fun _=>False) w' w2) v (Rat.divInt a b).num) (fun ρ w' r=>il _ w' (by omega) (by omega)) ?_;rintro ρ wa v1 wb r he hbb hI;replace hw:=hw.tr hbb;have hN:=hI.cQ (S:=fun _=>False) r.bm (iv:=(wa.heap.size,wb.heap.size)::[]) aH;clear r he hI hbb;generalize (wa.heap.size,wb.heap.size)::[]=iv at*
  obtain⟨b1,a1,m1,c1,rfl⟩:=hN.shape;conv=>whnf
  refine cA (Φ:=fun _ w' v w2=>cU w2 (Nw (fun _=>False) w' w2) v ((Rat.divInt a b).den:Int)) (fun ρ w' r=>il _ w' (by omega) (by omega)) ?_;rintro ρ wa v1 wb2 r he hbb hI;replace hw:=hw.tr hbb;replace hN:=hN.bq (iv':=(wa.heap.size,wb2.heap.size)::iv) r (bl w) he fun x hx=>aC _ hx;have hD:=hI.cQ (S:=fun _=>False) r.bm (iv:=(wa.heap.size,wb2.heap.size)::iv) aH;clear r he hI hbb;generalize (wa.heap.size,wb2.heap.size)::iv=iv2 at*
  obtain⟨b2,a2,m2,c2,rfl⟩:=hD.shape;conv=>whnf
  intro ρe we re;exact⟨_,rfl,hw.tr re.bs,(cH.of hN hD).out re (bl w)⟩
theorem qd{z:Int}(h:z.natAbs<1073741824):gu z= .tuple #[.int .i64 z,.bool true]:=aQ h
theorem yi{S:Nat->Prop}{w:World}{v u:Value}{x y:Int}(hS:Old S w)(hx:gg w S v x)(hy:gg w S u y)(hxs:x.natAbs<1073741824)(hys:y.natAbs<1073741824)(hy0:y≠0):
  dQ PG N.od #[v,u] w (dU w fun v' w2=>cH w2 (Nw (fun _=>False) w w2) v' (Rat.divInt x y)):=by
 have hw:cF w.heap.size w w:=cF.refl;replace hx:=hx.bz (S':=Cv S w.heap.size []) fun _ h=>.inl h;replace hy:=hy.bz (S':=Cv S w.heap.size []) fun _ h=>.inl h;obtain⟨bx,ax,lx,cx,rfl⟩:=hx.shape;obtain⟨b2,ay,ly,cy,rfl⟩:=hy.shape;refine oK (by simp) ?_;conv=>whnf
 refine bp (cE hw (Φ:=fun _ w' v w2=>v= .tuple #[.int .i64 x,.bool true]) (fun ρ w' r=>(kh (Rel.old r hS) (hx.rel r hS)).mono fun e w2 ⟨v2,e1,e2,e3⟩=>⟨v2,e1,e2,by rw[e3,qd hxs]⟩) ?_);rintro ρ wa1 v1 wb1 iv1 r he hw h_ rfl;replace hx:=hx.bq r hS he (mC h_);replace hy:=hy.bq r hS he (mC h_);clear r;conv=>whnf
 refine bp (cE hw (Φ:=fun _ w' v w2=>v= .tuple #[.int .i64 y,.bool true]) (fun ρ w' r=>(kh (Rel.old r hS) (hy.rel r hS)).mono fun e w2 ⟨v2,e1,e2,e3⟩=>⟨v2,e1,e2,by rw[e3,qd hys]⟩) ?_);rintro ρ wa1 v1 wb1 iv2 r he hw h_ rfl;clear r hx hy;conv=>whnf
 refine bp (cE hw (Φ:=fun _ w' v w2=>cH w2 (Nw (fun _=>False) w' w2) v (Rat.divInt x y)) (fun ρ w' r=>nX x y w' (by omega) (by omega) hy0) ?_);rintro ρ wa v1 wb iv r he hw h_ hI;have hR:=hI.cQ (S:=fun _=>False) r.bm (mN h_);clear r;obtain⟨b1,a1,m1,c1,b3,a3,m3,c3,rfl⟩:=hR.shape;conv=>whnf
 intro ρe we re;exact⟨_,rfl,hw.tr re.bs,hR.out re (bl w)⟩
theorem vX(n:Int):Rat.divInt n 1=(n:Rat):=by
 have:=Rat.num_divInt_den (n:Rat);rw[Rat.num_intCast,Rat.den_intCast]at this;exact this
theorem gq(n:Int)(w:World)(hn:n.natAbs<1073741824):
  dQ PG N.mY #[.int .i64 n] w (dU w fun v' w2=>cH w2 (Nw (fun _=>False) w w2) v' (n:Rat)):=by
 have hw:cF w.heap.size w w:=cF.refl;refine mj (by simp) ?_;conv=>whnf
 refine bp (cA (Φ:=fun _ w' v w2=>cU w2 (Nw (fun _=>False) w' w2) v n) (fun ρ w' r=>il _ w' (by omega) (by omega)) ?_);rintro ρ wa v1 wb r he hbb hI;replace hw:=hw.tr hbb;have hN:=hI.cQ (S:=fun _=>False) r.bm (iv:=(wa.heap.size,wb.heap.size)::[]) aH;clear r he hI hbb;generalize (wa.heap.size,wb.heap.size)::[]=iv at*
 obtain⟨b1,a1,m1,c1,rfl⟩:=hN.shape;conv=>whnf
 refine bp (cA (Φ:=fun _ w' v w2=>cU w2 (Nw (fun _=>False) w' w2) v 1) (fun ρ w' r=>il _ w' (by omega) (by omega)) ?_);rintro ρ wa v1 wb2 r he hbb hI;replace hw:=hw.tr hbb;replace hN:=hN.bq (iv':=(wa.heap.size,wb2.heap.size)::iv) r (bl w) he fun x hx=>aC _ hx;have hD:=hI.cQ (S:=fun _=>False) r.bm (iv:=(wa.heap.size,wb2.heap.size)::iv) aH;clear r he hI hbb;generalize (wa.heap.size,wb2.heap.size)::iv=iv2 at*
 obtain⟨b2,a2,m2,c2,rfl⟩:=hD.shape;conv=>whnf
 refine bp (cE hw (Φ:=fun _ w' v w2=>cH w2 (Nw (fun _=>False) w' w2) v (Rat.divInt n 1)) (fun ρ w' r=>yi (Rel.old r (bl w)) (hN.rel r (bl w)).r (hD.rel r (bl w)).r hn (by decide) (by decide)) ?_);rintro ρ wa v1 wb iv r he hw h_ hI;have hR:=hI.cQ (S:=fun _=>False) r.bm (mN h_);clear r he hI;obtain⟨b1,a1,m1,c1,b3,a3,m3,c3,rfl⟩:=hR.shape;rw[vX]at hR;conv=>whnf
 intro ρe we re;exact⟨_,rfl,hw.tr re.bs,hR.out re (bl w)⟩
theorem Ey{S:Nat->Prop}{w:World}{v u:Value}{n1 n2:Bool}{ls ms:List Nat}(hS:Old S w)(hx:qX w S v n1 ls)(hy:qX w S u n2 ms):
  dQ PG N.kB #[v,u] w (dU w fun v' _=>v'= .bool (decide (n1=n2∧ls=ms))):=by
 obtain⟨lv,rfl,h1⟩:=hx;obtain⟨mv,rfl,h2⟩:=hy;obtain⟨a,c,rfl,_,ha⟩:=h1.sl;obtain⟨b,e,rfl,_,hb⟩:=h2.sl;have hle1:=h1.le;have hle2:=h2.le;have hw:cF w.heap.size w w:=cF.refl;refine rG (by simp) ?_;conv=>whnf
 refine cW.mk (fun hn=>?_) (fun hn=>?_)
 ·have hn:n1≠n2:=fun h=>by rw[h]at hn;simp at hn
  conv=>whnf
  intro ρ w2 r;exact⟨_,rfl,r.bs,by rw[bE (fun h=>hn h.1)];rfl⟩
 have hn:n1=n2:=by simpa using hn
 subst hn;conv=>whnf
 refine cW.mk (fun h=>?_) (fun h=>?_)
 ·have h:ls.length≠ms.length:=fun he=>by rw[he]at h;simp at h
  conv=>whnf
  intro ρ w2 r;exact⟨_,rfl,r.bs,by rw[bE (fun e=>h (by rw[e.2]))];rfl⟩
 have h:ls.length=ms.length:=by
  have:(ls.length:Int)=ms.length:=by simpa using h
  omega
 conv=>whnf
 refine⟨Nat×World,fun z=>⟨[(2,.o (.p 0 0)),(3,.o (.p 1 0)),(5,.o (.v (.int .i64 z.1)))],[(1,.box T.Int [.v (.bool n1),.v (.slice b ms.length e)]),(0,.box T.Int [.v (.bool n1),.v (.slice a ls.length c)])],2,[],z.2⟩,fun z=>ls.length-z.1,
  fun z=>z.1<=ls.length∧cF w.heap.size w z.2∧ls.take z.1=ms.take z.1,?_,?_⟩
 ·intro ρ w' r;exact⟨(0,w'),⟨by simp,r.bs,by simp⟩,Sub.gen [] r ⟨rfl,rfl,trivial⟩ ⟨rfl,rfl,rfl,trivial⟩ (by simp[cY,cN.scopd,At.sc]) (by simp[cO,SV.sc,At.sc]) (by rfl) (fun lo hi h=>h)⟩
 rintro⟨i,w1⟩ ⟨hi,hw,ht⟩;dsimp only at hi hw ht ⊢;conv=>whnf
 refine cW.mk (fun hib=>?_) (fun hib=>?_)
 ·have hib:i<ls.length:=by simpa using hib
  obtain⟨x,hx⟩:∃x,ls[i]? =some x:=⟨_,aA hib⟩
  obtain⟨y,hy⟩:∃x,ms[i]? =some x:=⟨_,aA (by omega)⟩
  obtain⟨ad,rfl,q1,q2⟩:=ha i x hx;obtain⟨ad2,rfl,q3,q4⟩:=hb i y hy;have hlx:∀{H nx iv ρ w'},Rel H nx iv w.heap.size w1 ρ w'->w'.cell? (ad.add ((i:Int).toNat*1))=some (.int .u32 x):=fun r=>by
   rw[aB,aR];exact ig hS hw r q1 q2
  have hly:∀{H nx iv ρ w'},Rel H nx iv w.heap.size w1 ρ w'->w'.cell? (ad2.add ((i:Int).toNat*1))=some (.int .u32 y):=fun r=>by
   rw[aB,aR];exact ig hS hw r q3 q4
  conv=>whnf
  refine bw hτ dH [.x 0,.x 1,.x 2,.x 3,.x 4,.x 5,.x 6,.x 7,.x 8,.x 9,.x 10] (by kernel_rfl) (by kernel_rfl) ?_;conv=>whnf
  refine⟨ad,rfl,⟨by omega,by omega⟩,?_⟩;conv=>whnf
  refine⟨.int .u32 x,fun ρ w' r=>hlx r,?_⟩;conv=>whnf
  refine⟨ad2,rfl,⟨by omega,by omega⟩,?_⟩;conv=>whnf
  refine⟨.int .u32 y,fun ρ w' r=>hly r,?_⟩;conv=>whnf
  refine cW.mk (fun hne=>?_) (fun hne=>?_)
  ·have hne:x≠y:=fun h=>by rw[h]at hne;simp at hne
   conv=>whnf
   intro ρ w2 r;refine⟨_,rfl,hw.tr r.bs,?_⟩
   rw[bE (fun e=>hne (by
    have:=e.2;rw[this,hy]at hx;injection hx with hx
    exact hx.symm))]
   rfl
  have hne:x=y:=by
   have:(x:Int)=y:=by simpa using hne
   omega
  subst hne;have ht2:ls.take (i+1)=ms.take (i+1):=by rw[List.take_add_one,List.take_add_one,ht,hx,hy]
  conv=>whnf
  refine⟨((i+1:Nat):Int),by rw[wrap64]<;>omega,?_⟩;conv=>whnf
  intro ρ3 w3 r3;exact⟨(i+1,w3),⟨hib,hw.tr r3.bs,ht2⟩,Sub.gen [] r3 ⟨rfl,rfl,trivial⟩ ⟨rfl,rfl,rfl,trivial⟩ (by simp[cY,cN.scopd,At.sc]) (by simp[cO,SV.sc,At.sc]) (by rfl) (fun lo hi h=>h),by dsimp only;omega⟩
 have hib:i=ls.length:=by
  have:¬i<ls.length:=by simpa using hib
  omega
 subst hib;rw[ah,h,ah]at ht;conv=>whnf
 intro ρ w2 r;exact⟨_,rfl,hw.tr r.bs,by rw[bM ⟨rfl,ht⟩];rfl⟩
theorem Cf{a b:List Nat}(la:Lm a)(lb:Lm b)(na:Nz a)(nb:Nz b)(h:val a=val b):a=b:=by
 have:a.length=b.length:=by
  rcases Nat.lt_trichotomy a.length b.length with h1|h1|h1
  ·have:=gF la nb h1;omega
  ·exact h1
  ·have:=gF lb na h1;omega
 exact val_inj la lb this h
theorem xe{S:Nat->Prop}{w:World}{v u:Value}{x y:Int}(hS:Old S w)(hx:cU w S v x)(hy:cU w S u y):
  dQ PG N.kB #[v,u] w (dU w fun v' _=>v'= .bool (decide (x=y))):=by
 obtain⟨ls,h1,h2,h3⟩:=hx;obtain⟨ms,k1,k2,k3⟩:=hy;have e:decide (decide (x<0)=decide (y<0)∧ls=ms)=decide (x=y):=by
  refine decide_eq_decide.2 ⟨fun ⟨e1,e2⟩=>?_,fun e1=>?_⟩
  ·have e1:=decide_eq_decide.1 e1;rw[e2]at h3;omega
  ·subst e1;obtain⟨_,_,l1⟩:=h1;obtain⟨_,_,l2⟩:=k1;exact⟨rfl,Cf l1.lm l2.lm h2 k2 (by omega)⟩
 exact(Ey hS h1 k1).mono fun _ w2 ⟨v2,e1,e2,e3⟩=>⟨v2,e1,e2,by rw[e3,e]⟩
theorem Dh{S:Nat->Prop}{w:World}{v u:Value}{p q:Rat}(hS:Old S w)(hx:cH w S v p)(hy:cH w S u q):
  dQ PG N.uV #[v,u] w (dU w fun v' _=>v'= .bool (decide (p=q))):=by
 obtain⟨b1,a1,n1,c1,b2,a2,n2,c2,rfl⟩:=hx.shape;obtain⟨b3,a3,n3,c3,b4,a4,n4,c4,rfl⟩:=hy.shape;refine wE (by simp) ?_;conv=>whnf
 refine bp (cA (Φ:=fun _ w' v w2=>v= .bool (decide (p.num=q.num))) (fun ρ w' r=>xe (fun g hg=>by have:=hS g hg;have:=r.bm;omega) (hx.num.bu fun g hg=>r.bs.block g (hS g hg)) (hy.num.bu fun g hg=>r.bs.block g (hS g hg))) ?_);rintro ρ wa v1 wb r he hb rfl;have hw:=hb;clear r he hb;generalize (wa.heap.size,wb.heap.size)::[]=iv at*
 conv=>whnf
 refine cW.mk (fun h=>?_) (fun h=>?_)
 ·have h:=aG h;conv=>whnf
  refine bp (cE hw (Φ:=fun _ w' v w2=>v= .bool (decide ((p.den:Int)=q.den))) (fun ρ w' r=>xe (fun g hg=>by have:=hS g hg;have:=r.bm;omega) (hx.den.bu fun g hg=>(hw.tr r.bs).block g (hS g hg)) (hy.den.bu fun g hg=>(hw.tr r.bs).block g (hS g hg))) ?_);rintro ρ wa v1 wb2 iv2 r he hw h_ rfl;clear r he;conv=>whnf
  intro ρe we re;refine⟨_,rfl,hw.tr re.bs,?_⟩;have:decide (p=q)=decide ((p.den:Int)=q.den):=decide_eq_decide.2 ⟨fun e=>by rw[e],fun e=>Rat.ext h (by omega)⟩;rw[this];rfl
 ·have h:=aF h;conv=>whnf
  intro ρe we re;refine⟨_,rfl,hw.tr re.bs,?_⟩;rw[bE (fun e=>h (by rw[e]))];rfl
theorem vR{S:Nat->Prop}{w:World}{v u:Value}{xs ys:List Rat}(hS:Old S w)(hx:cB w S v xs)(hy:cB w S u ys):
  dQ PG N.mV #[v,u] w (dU w fun v' _=>v'= .bool (decide (xs=ys))):=by
 obtain⟨a,c,rfl,hc,hm⟩:=cd.shape hx;obtain⟨b,e,rfl,hc2,hm2⟩:=cd.shape hy;unfold maxLen at hm hm2;refine qC (by simp) ?_;conv=>whnf
 refine cW.mk (fun h=>?_) (fun h=>?_)
 ·have h:xs.length≠ys.length:=fun he=>by rw[he]at h;simp at h
  conv=>whnf
  intro ρ w2 r;exact⟨_,rfl,r.bs,by rw[bE (fun e=>h (by rw[e]))];rfl⟩
 have h:xs.length=ys.length:=by
  have:(xs.length:Int)=ys.length:=by simpa using h
  omega
 conv=>whnf
 refine⟨Nat×World,fun z=>⟨[(0,.o (.v (.slice a xs.length c))),(1,.o (.v (.slice b ys.length e))),(5,.o (.v (.int .i64 z.1)))],[],0,[],z.2⟩,fun z=>xs.length-z.1,
  fun z=>z.1<=xs.length∧cF w.heap.size w z.2∧xs.take z.1=ys.take z.1,?_,?_⟩
 ·intro ρ w' r;exact⟨(0,w'),⟨by simp,r.bs,by simp⟩,Sub.gen [] r trivial ⟨rfl,rfl,rfl,trivial⟩ (by simp[cY]) (by simp[cO,SV.sc,At.sc]) (by rfl) (by simp)⟩
 rintro⟨i,w1⟩ ⟨hi,hw,ht⟩;dsimp only at hi hw ht ⊢;conv=>whnf
 refine cW.mk (fun hib=>?_) (fun hib=>?_)
 ·have hib:i<xs.length:=by simpa using hib
  obtain⟨x,hxi⟩:∃x,xs[i]? =some x:=⟨_,aA hib⟩
  obtain⟨y,hyi⟩:∃x,ys[i]? =some x:=⟨_,aA (by omega)⟩
  obtain⟨ad2,cs2,rfl,hR2,-,hl2⟩:=cd.load hy hyi;obtain⟨p2,q2,r2,s2,t2,u2,v2,w2,rfl,hR2⟩:=hR2;obtain⟨ad,cs,rfl,hR,-,hl⟩:=cd.load hx hxi;obtain⟨p1,q1,r1,s1,t1,u1,v1,w1,rfl,hR⟩:=hR;conv=>whnf
  refine bw hτ dH [.x 0,.x 1,.x 2,.x 3,.x 4,.x 5,.x 6,.x 7,.x 8,.x 9] (by kernel_rfl) (by kernel_rfl) ?_;conv=>whnf
  refine⟨ad,rfl,⟨by omega,by omega⟩,?_⟩;conv=>whnf
  refine⟨[.bool p1,.slice q1 r1 s1,.bool t1,.slice u1 v1 w1],rfl,fun ρ w' r j u hu=>?_,?_⟩
  ·obtain⟨k1,k2⟩:=hl j u hu;rw[aB,bo (w:=w) (w2:=w') (by rw[cC,cC];exact(hw.tr r.bs).block _ (hS _ k1))];exact k2
  conv=>whnf
  refine⟨ad2,rfl,⟨by omega,by omega⟩,?_⟩;conv=>whnf
  refine⟨[.bool p2,.slice q2 r2 s2,.bool t2,.slice u2 v2 w2],rfl,fun ρ w' r j u hu=>?_,?_⟩
  ·obtain⟨k1,k2⟩:=hl2 j u hu;rw[aB,bo (w:=w) (w2:=w') (by rw[cC,cC];exact(hw.tr r.bs).block _ (hS _ k1))];exact k2
  conv=>whnf
  refine cE hw (Φ:=fun _ w' v w2=>v= .bool (decide (x=y))) (fun ρ w' r=>Dh (fun g hg=>by have:=hS g hg;have:=r.bm;omega) (hR.bu fun g hg=>(hw.tr r.bs).block g (hS g hg)) (hR2.bu fun g hg=>(hw.tr r.bs).block g (hS g hg))) ?_;rintro ρ wa v1 wb iv2 r he hw h_ rfl;clear r he;conv=>whnf
  refine cW.mk (fun hne=>?_) (fun hne=>?_)
  ·have hne:x≠y:=fun h=>by rw[h]at hne;simp at hne
   conv=>whnf
   intro ρ w2 r;refine⟨_,rfl,hw.tr r.bs,?_⟩
   rw[bE (fun e=>hne (by
    rw[e,hyi]at hxi;injection hxi with hxi
    exact hxi.symm))]
   rfl
  have hne:x=y:=by simpa using hne
  subst hne;have ht2:xs.take (i+1)=ys.take (i+1):=by rw[List.take_add_one,List.take_add_one,ht,hxi,hyi]
  conv=>whnf
  refine⟨((i+1:Nat):Int),by rw[wrap64]<;>omega,?_⟩;conv=>whnf
  intro ρ3 w3 r3;exact⟨(i+1,w3),⟨hib,hw.tr r3.bs,ht2⟩,Sub.gen [] r3 trivial ⟨rfl,rfl,rfl,trivial⟩ (by simp[cY]) (by simp[cO,SV.sc,At.sc]) (by rfl) (by simp),by dsimp only;omega⟩
 have hib:i=xs.length:=by
  have:¬i<xs.length:=by simpa using hib
  omega
 subst hib;rw[ah,h,ah]at ht;conv=>whnf
 intro ρ w2 r;exact⟨_,rfl,hw.tr r.bs,by rw[bM ht];rfl⟩
theorem cH.oL{S:Nat->Prop}{w:World}{b b2:Bool}{a a2:Option Addr}{n c n2 c2:Nat}{q:Rat}(h:cH w S (.agg #[.bool b,.slice a n c,.bool b2,.slice a2 n2 c2]) q):gP w S [.bool b,.slice a n c,.bool b2,.slice a2 n2 c2] q:=
 ⟨b,a,n,c,b2,a2,n2,c2,rfl,h⟩
theorem Rel.lt{H:Hp}{nx:Nat}{iv:Iv}{B:Nat}{w w':World}{ρ:Nat->Sx.dN}(r:Rel H nx iv B w ρ w'){id t:Nat}{cs:List At}(h:cT H id=some (.box t cs)):(ρ id).g<w'.heap.size:=(r.low id _ h (r.nn id _ h (by intros;simp) (by simp))).2
end Go.Ex
namespace Go.Ex
def eW(f:Nat->Int):Nat->Int
 |0=>0
 |n+1=>f 0+65536*eW (fun i=>f (i+1)) n
theorem uR(f:Nat->Int)(n:Nat):cX ((List.range n).map f)=eW f n:=by
 induction n generalizing f with
 |zero=>rfl
 |succ n ih=>
  rw[List.range_succ_eq_map,List.map_cons,List.map_map,cX,eW,<-ih];rfl
theorem uS(f g:Nat->Int)(n:Nat):eW (fun i=>f i+g i) n=eW f n+eW g n:=by
 induction n generalizing f g with
 |zero=>rfl
 |succ n ih=>simp only[eW,ih];omega
theorem Ak(k:Int)(f:Nat->Int)(n:Nat):eW (fun i=>k*f i) n=k*eW f n:=by
 induction n generalizing f with
 |zero=>simp[eW]
 |succ n ih=>simp only[eW,ih,Int.mul_add];rw[Int.mul_left_comm]
theorem rn{f:Nat->Int}{n:Nat}(h:∀i,i<n->f i=0):eW f n=0:=by
 induction n generalizing f with
 |zero=>rfl
 |succ n ih=>rw[eW,h 0 (by omega),ih fun i hi=>h (i+1) (by omega)];rfl
theorem mT(a:List Int)(n:Nat)(h:a.length<=n):eW (fun i=>a.getD i 0) n=cX a:=by
 induction a generalizing n with
 |nil=>exact rn fun i _=>by simp
 |cons c r ih=>
  obtain⟨m,rfl⟩:∃m,n=m+1:=⟨n-1,by simp at h;omega⟩
  have e:=ih m (by simpa using h);rw[eW,cX,<-e];simp[List.getD]
def fk(a b:List Int)(i:Nat):Nat->Int
 |0=>0
 |k+1=>fk a b i k+a.getD k 0*(if k<=i then b.getD (i-k) 0 else 0)
def ef(a b:List Int)(i:Nat):Int:=fk a b i (i+1)
theorem CP(b:List Int)(i k:Nat):fk [] b i k=0:=by
 induction k with
 |zero=>rfl
 |succ k ih=>rw[fk,ih];simp
theorem Al(c:Int)(r b:List Int)(i k:Nat):fk (c::r) b (i+1) (k+1)=c*b.getD (i+1) 0+fk r b i k:=by
 induction k with
 |zero=>simp[fk]
 |succ k ih=>
  rw[fk,ih,fk];have e:(c::r).getD (k+1) 0=r.getD k 0:=by simp[List.getD]
  rw[e];have e2:(if k+1<=i+1 then b.getD (i+1-(k+1)) 0 else 0)=(if k<=i then b.getD (i-k) 0 else 0):=by
   by_cases h:k<=i
   ·rw[aQ h,aQ (by omega),show i+1-(k+1)=i-k by omega]
   ·rw[aL h,aL (by omega)]
  rw[e2,Int.add_assoc]
theorem z5(c:Int)(r b:List Int)(i:Nat):ef (c::r) b (i+1)=c*b.getD (i+1) 0+ef r b i:=Al c r b i (i+1)
theorem z6(c:Int)(r b:List Int):ef (c::r) b 0=c*b.getD 0 0:=by simp[ef,fk]
theorem DS(a b:List Int)(n:Nat)(h:a.length+b.length<=n+1):eW (ef a b) n=cX a*cX b:=by
 induction a generalizing n with
 |nil=>
  rw[show ef [] b=fun _=>(0:Int)from funext fun i=>CP b i _,rn fun _ _=>rfl];simp[cX]
 |cons c r ih=>
  cases n with
  |zero=>
   have hb:b=[]:=List.eq_nil_of_length_eq_zero (by simp at h;omega);subst hb;simp[eW,cX]
  |succ m=>
   have e1:eW (ef (c::r) b) (m+1)=eW (fun i=>c*b.getD i 0) (m+1)+65536*eW (ef r b) m:=by
    have e2:eW (fun i=>ef (c::r) b (i+1)) m=eW (fun i=>c*b.getD (i+1) 0) m+eW (ef r b) m:=by
     rw[<-uS];congr 1
     funext i
     exact z5 c r b i
    rw[eW,eW,e2,z6,Int.mul_add];omega
   have h':r.length+b.length<=m+1:=by simp at h;omega
   rw[e1,ih m h',Ak,mT b (m+1) (by omega),cX,Int.add_mul,Int.mul_assoc]
theorem Am(a b:List Int)(i k k0:Nat)(h0:∀j,j<k0->b.length<=i-j)(hk:k0<=i+1)(h:k<=k0):fk a b i k=0:=by
 induction k with
 |zero=>rfl
 |succ k ih=>
  rw[fk,ih (by omega),aQ (by omega)];have:b.getD (i-k) 0=0:=by rw[List.getD,List.getElem?_eq_none (h0 k (by omega))];rfl
  rw[this];simp
theorem An(a b:List Int)(i k m:Nat)(h:a.length<=k):fk a b i (k+m)=fk a b i k:=by
 induction m with
 |zero=>rfl
 |succ m ih=>
  rw[<-Nat.add_assoc,fk,ih];have:a.getD (k+m) 0=0:=by rw[List.getD,List.getElem?_eq_none (by omega)];rfl
  rw[this];simp
theorem je{a b:List Int}{i:Nat}(ha:∀x∈a,-65535<=x∧x<=65535)(hb:∀x∈b,-65535<=x∧x<=65535)(k:Nat):(fk a b i k).natAbs<=4294836225*k:=by
 have key:∀(l:List Int) (j:Nat),(∀x∈l,-65535<=x∧x<=65535)->(l.getD j 0).natAbs<=65535:=fun l j h=>by
  rw[List.getD]
  cases hj:l[j]? with
  |none=>simp
  |some d=>have:=h d (aD hj);simp;omega
 induction k with
 |zero=>simp[fk]
 |succ k ih=>
  rw[fk];have h1:=key a k ha;have h2:(if k<=i then b.getD (i-k) 0 else 0).natAbs<=65535:=by
   split
   ·exact key b _ hb
   ·simp
  have h3:=Nat.mul_le_mul h1 h2;rw[<-Int.natAbs_mul]at h3;generalize a.getD k 0*(if k<=i then b.getD (i-k) 0 else 0)=p at*
  omega
def dO(s:Int):List Nat->List Int
 |[]=>[]
 |l::r=>s*((l % 65536:Nat):Int)::s*((l / 65536:Nat):Int)::dO s r
theorem xw(s:Int)(ls:List Nat):cX (dO s ls)=s*(val ls:Int):=by
 induction ls with
 |nil=>simp[dO,cX,val]
 |cons l r ih=>
  rw[dO,cX,cX,ih,val];have e1:((l+4294967296*val r:Nat):Int)=((l % 65536:Nat):Int)+65536*((l / 65536:Nat):Int)+4294967296*((val r:Nat):Int):=by omega
  rw[e1,Int.mul_add,Int.mul_add,Int.mul_add];rw[Int.mul_left_comm 65536 s,Int.mul_left_comm s 65536,Int.mul_left_comm s 4294967296];omega
theorem l5(s:Int)(a b:List Nat):dO s (a++b)=dO s a++dO s b:=by
 induction a with
 |nil=>rfl
 |cons l r ih=>simp[dO,ih]
theorem fZ(s:Int)(ls:List Nat):(dO s ls).length=2*ls.length:=by
 induction ls with
 |nil=>rfl
 |cons l r ih=>simp[dO,ih];omega
theorem uT{s:Int}(hs:s=1∨s= -1){ls:List Nat}(h:Lm ls):∀c∈dO s ls,-65535<=c∧c<=65535:=by
 induction ls with
 |nil=>intro c hc;cases hc
 |cons l r ih=>
  have hl:=h l aH;intro c hc;rw[dO]at hc;rcases List.mem_cons.1 hc with rfl|hc
  ·rcases hs with rfl|rfl<;>omega
  rcases List.mem_cons.1 hc with rfl|hc
  ·rcases hs with rfl|rfl<;>omega
  ·exact ih (fun x hx=>h x (aC _ hx)) c hc
theorem s3{ls:List Nat}(h:Lm ls):∀c∈dO 1 ls,0<=c∧c<=65535:=fun c hc=>by
 induction ls with
 |nil=>cases hc
 |cons l r ih=>
  have hl:=h l aH;rw[dO]at hc;rcases List.mem_cons.1 hc with rfl|hc
  ·omega
  rcases List.mem_cons.1 hc with rfl|hc
  ·omega
  ·exact ih (fun x hx=>h x (aC _ hx)) hc
theorem z7{cs:List Int}{i:Nat}{c:Int}(h:cs[i]? =some c):cX (cs.drop i)=c+65536*cX (cs.drop (i+1)):=by
 rw[List.drop_eq_getElem_cons (aE.1 h).1,cX];have:=(aE.1 h).2;rw[this]
end Go.Ex
namespace Go.Ex
open Go Go.Sx Go.Proofs
theorem EB{ls:List Nat}{k:Nat}(h:Lm ls)(hl:ls.length<=k):ln (val ls)<=k:=gM.2 (Nat.lt_of_lt_of_le (kv h) (B4 hl))
theorem Cv.false{S:Nat->Prop}{B:Nat}{iv:Iv}{g:Nat}(h:Cv (fun _=>False) B iv g):Cv S B iv g:=h.elim (fun h=>h.elim) .inr
theorem EC{S:Nat->Prop}{w:World}{v u:Value}{x1 x2 y1 y2:Int}(hS:Old S w)(hx:fb w S v x1 x2)(hy:fb w S u y1 y2)(hl0:ln x1.natAbs<=100000)(hl1:ln x2.natAbs<=100000)(hl2:ln y1.natAbs<=100000)(hl3:ln y2.natAbs<=100000):
  dQ PG N.qv #[v,u] w (dU w fun v' w2=>cH w2 (Nw (fun _=>False) w w2) v' ((ratio x1 x2)+(ratio y1 y2))):=by
 have hw:cF w.heap.size w w:=cF.refl;have r1:=fY x1 x2;have r2:=fY y1 y2;have r3:=mR (ratio x1 x2) (ratio y1 y2);have r4:=jN (ratio x1 x2) (ratio y1 y2);have r5:=kA (ratio y1 y2);have r6:=uO (ratio x1 x2) (ratio y1 y2);replace hx:=hx.bz (S':=Cv S w.heap.size []) fun _ h=>.inl h;replace hy:=hy.bz (S':=Cv S w.heap.size []) fun _ h=>.inl h;obtain⟨b1,a1,n1,c1,b2,a2,n2,c2,rfl⟩:=hx.shape;obtain⟨b3,a3,n3,c3,b4,a4,n4,c4,rfl⟩:=hy.shape;refine yG (by simp) ?_;conv=>whnf
 refine bw hτ dH [.x 0,.x 2,.x 1,.x 3,.x 4,.x 5,.x 6] (by kernel_rfl) (by kernel_rfl) ?_;conv=>whnf
 refine cE hw (Φ:=fun _ w' v w2=>cZ w2 (Nw (fun _=>False) w' w2) v ((ratio x1 x2))) (fun ρ w' r=>iG (Rel.old r hS) (hx.rel r hS) (by omega) (by omega)) ?_;rintro ρ wa1 v1 wb1 iv1 r he hw h_ hn;clear hx;replace hy:=hy.bq r hS he (mC h_);have hX:=hn.cQ (S:=fun _=>False) r.bm (mN h_);clear r;obtain⟨s1_0,s1_1,s1_2,s1_3,s1_4,s1_5,s1_6,s1_7,rfl⟩:=hX.shape;conv=>whnf
 refine cE hw (Φ:=fun _ w' v w2=>cZ w2 (Nw (fun _=>False) w' w2) v ((ratio y1 y2))) (fun ρ w' r=>iG (Rel.old r hS) (hy.rel r hS) (by omega) (by omega)) ?_;rintro ρ wa2 v2 wb2 iv2 r he hw h_ hn;clear hy;replace hX:=hX.bq r (bl w) he (mC h_);have hY:=hn.cQ (S:=fun _=>False) r.bm (mN h_);clear r;obtain⟨s2_0,s2_1,s2_2,s2_3,s2_4,s2_5,s2_6,s2_7,rfl⟩:=hY.shape;conv=>whnf
 refine cE hw (Φ:=fun _ w' v w2=>cZ w2 (Nw (fun _=>False) w' w2) v ((ratio x1 x2)+(ratio y1 y2))) (fun ρ w' r=>Bp (Rel.old r (bl w)) (hX.rel r (bl w)) (hY.rel r (bl w)) (by omega) (by omega)) ?_;rintro ρ wa3 v3 wb3 iv3 r he hw h_ hn;clear hX;clear hY;have hP:=hn.cQ (S:=fun _=>False) r.bm (mN h_);clear r;obtain⟨s3_0,s3_1,s3_2,s3_3,s3_4,s3_5,s3_6,s3_7,rfl⟩:=hP.shape;conv=>whnf
 refine cE hw (Φ:=fun _ w' v w2=>cH w2 (Nw (fun _=>False) w' w2) v ((ratio x1 x2)+(ratio y1 y2))) (fun ρ w' r=>nV (Rel.old r (bl w)) (hP.rel r (bl w)) (by omega)) ?_;rintro ρ wa4 v4 wb4 iv4 r he hw h_ hn;clear hP;have hC:=hn.cQ (S:=fun _=>False) r.bm (mN h_);clear r;obtain⟨s4_0,s4_1,s4_2,s4_3,s4_4,s4_5,s4_6,s4_7,rfl⟩:=hC.shape;conv=>whnf
 intro ρe we re;exact⟨_,rfl,hw.tr re.bs,hC.out re (bl w)⟩
theorem ED{S:Nat->Prop}{w:World}{v u:Value}{x1 x2 y1 y2:Int}(hS:Old S w)(hx:fb w S v x1 x2)(hy:fb w S u y1 y2)(hl0:ln x1.natAbs<=100000)(hl1:ln x2.natAbs<=100000)(hl2:ln y1.natAbs<=100000)(hl3:ln y2.natAbs<=100000):
  dQ PG N.qw #[v,u] w (dU w fun v' w2=>cH w2 (Nw (fun _=>False) w w2) v' ((ratio x1 x2)*(ratio y1 y2))):=by
 have hw:cF w.heap.size w w:=cF.refl;have r1:=fY x1 x2;have r2:=fY y1 y2;have r3:=mR (ratio x1 x2) (ratio y1 y2);have r4:=jN (ratio x1 x2) (ratio y1 y2);have r5:=kA (ratio y1 y2);have r6:=uO (ratio x1 x2) (ratio y1 y2);replace hx:=hx.bz (S':=Cv S w.heap.size []) fun _ h=>.inl h;replace hy:=hy.bz (S':=Cv S w.heap.size []) fun _ h=>.inl h;obtain⟨b1,a1,n1,c1,b2,a2,n2,c2,rfl⟩:=hx.shape;obtain⟨b3,a3,n3,c3,b4,a4,n4,c4,rfl⟩:=hy.shape;refine yH (by simp) ?_;conv=>whnf
 refine bw hτ dH [.x 0,.x 2,.x 1,.x 3,.x 4,.x 5,.x 6] (by kernel_rfl) (by kernel_rfl) ?_;conv=>whnf
 refine cE hw (Φ:=fun _ w' v w2=>cZ w2 (Nw (fun _=>False) w' w2) v ((ratio x1 x2))) (fun ρ w' r=>iG (Rel.old r hS) (hx.rel r hS) (by omega) (by omega)) ?_;rintro ρ wa1 v1 wb1 iv1 r he hw h_ hn;clear hx;replace hy:=hy.bq r hS he (mC h_);have hX:=hn.cQ (S:=fun _=>False) r.bm (mN h_);clear r;obtain⟨s1_0,s1_1,s1_2,s1_3,s1_4,s1_5,s1_6,s1_7,rfl⟩:=hX.shape;conv=>whnf
 refine cE hw (Φ:=fun _ w' v w2=>cZ w2 (Nw (fun _=>False) w' w2) v ((ratio y1 y2))) (fun ρ w' r=>iG (Rel.old r hS) (hy.rel r hS) (by omega) (by omega)) ?_;rintro ρ wa2 v2 wb2 iv2 r he hw h_ hn;clear hy;replace hX:=hX.bq r (bl w) he (mC h_);have hY:=hn.cQ (S:=fun _=>False) r.bm (mN h_);clear r;obtain⟨s2_0,s2_1,s2_2,s2_3,s2_4,s2_5,s2_6,s2_7,rfl⟩:=hY.shape;conv=>whnf
 refine cE hw (Φ:=fun _ w' v w2=>cZ w2 (Nw (fun _=>False) w' w2) v ((ratio x1 x2)*(ratio y1 y2))) (fun ρ w' r=>Dx (Rel.old r (bl w)) (hX.rel r (bl w)) (hY.rel r (bl w)) (by omega) (by omega)) ?_;rintro ρ wa3 v3 wb3 iv3 r he hw h_ hn;clear hX;clear hY;have hP:=hn.cQ (S:=fun _=>False) r.bm (mN h_);clear r;obtain⟨s3_0,s3_1,s3_2,s3_3,s3_4,s3_5,s3_6,s3_7,rfl⟩:=hP.shape;conv=>whnf
 refine cE hw (Φ:=fun _ w' v w2=>cH w2 (Nw (fun _=>False) w' w2) v ((ratio x1 x2)*(ratio y1 y2))) (fun ρ w' r=>nV (Rel.old r (bl w)) (hP.rel r (bl w)) (by omega)) ?_;rintro ρ wa4 v4 wb4 iv4 r he hw h_ hn;clear hP;have hC:=hn.cQ (S:=fun _=>False) r.bm (mN h_);clear r;obtain⟨s4_0,s4_1,s4_2,s4_3,s4_4,s4_5,s4_6,s4_7,rfl⟩:=hC.shape;conv=>whnf
 intro ρe we re;exact⟨_,rfl,hw.tr re.bs,hC.out re (bl w)⟩
theorem EF{S:Nat->Prop}{w:World}{v u:Value}{x1 x2 y1 y2:Int}(hS:Old S w)(hx:fb w S v x1 x2)(hy:fb w S u y1 y2)(hl0:ln x1.natAbs<=100000)(hl1:ln x2.natAbs<=100000)(hl2:ln y1.natAbs<=100000)(hl3:ln y2.natAbs<=100000):
  dQ PG N.rA #[v,u] w (dU w fun v' w2=>cH w2 (Nw (fun _=>False) w w2) v' ((ratio x1 x2)-(ratio y1 y2))):=by
 have hw:cF w.heap.size w w:=cF.refl;have r1:=fY x1 x2;have r2:=fY y1 y2;have r3:=mR (ratio x1 x2) (ratio y1 y2);have r4:=jN (ratio x1 x2) (ratio y1 y2);have r5:=kA (ratio y1 y2);have r6:=uO (ratio x1 x2) (ratio y1 y2);replace hx:=hx.bz (S':=Cv S w.heap.size []) fun _ h=>.inl h;replace hy:=hy.bz (S':=Cv S w.heap.size []) fun _ h=>.inl h;obtain⟨b1,a1,n1,c1,b2,a2,n2,c2,rfl⟩:=hx.shape;obtain⟨b3,a3,n3,c3,b4,a4,n4,c4,rfl⟩:=hy.shape;refine yK (by simp) ?_;conv=>whnf
 refine bw hτ dH [.x 0,.x 2,.x 1,.x 3,.x 4,.x 5,.x 6,.x 7] (by kernel_rfl) (by kernel_rfl) ?_;conv=>whnf
 refine cE hw (Φ:=fun _ w' v w2=>cZ w2 (Nw (fun _=>False) w' w2) v ((ratio x1 x2))) (fun ρ w' r=>iG (Rel.old r hS) (hx.rel r hS) (by omega) (by omega)) ?_;rintro ρ wa1 v1 wb1 iv1 r he hw h_ hn;clear hx;replace hy:=hy.bq r hS he (mC h_);have hX:=hn.cQ (S:=fun _=>False) r.bm (mN h_);clear r;obtain⟨s1_0,s1_1,s1_2,s1_3,s1_4,s1_5,s1_6,s1_7,rfl⟩:=hX.shape;conv=>whnf
 refine cE hw (Φ:=fun _ w' v w2=>cZ w2 (Nw (fun _=>False) w' w2) v ((ratio y1 y2))) (fun ρ w' r=>iG (Rel.old r hS) (hy.rel r hS) (by omega) (by omega)) ?_;rintro ρ wa2 v2 wb2 iv2 r he hw h_ hn;clear hy;replace hX:=hX.bq r (bl w) he (mC h_);have hY:=hn.cQ (S:=fun _=>False) r.bm (mN h_);clear r;obtain⟨s2_0,s2_1,s2_2,s2_3,s2_4,s2_5,s2_6,s2_7,rfl⟩:=hY.shape;conv=>whnf
 refine cA (Φ:=fun _ w' v w2=>cZ w2 (Nw (Cv (fun _=>False) w.heap.size iv2) w' w2) v (-(ratio y1 y2))) (fun ρ w' r=>Dw (Rel.old r (bl w)) (hY.rel r (bl w))) ?_;rintro ρ wa3 v3 wb3 r he hb hn;replace hw:=hw.tr hb;replace hX:=hX.bq (iv':=(wa3.heap.size,wb3.heap.size)::iv2) r (bl w) he fun x hx=>aC _ hx;clear hY;have hM:=hn.old r.bm;clear r he hb hn;generalize (wa3.heap.size,wb3.heap.size)::iv2=iv3 at*
 obtain⟨s3_0,s3_1,s3_2,s3_3,s3_4,s3_5,s3_6,s3_7,rfl⟩:=hM.shape;conv=>whnf
 refine cE hw (Φ:=fun _ w' v w2=>cZ w2 (Nw (fun _=>False) w' w2) v ((ratio x1 x2)-(ratio y1 y2))) (fun ρ w' r=>(Rat.sub_eq_add_neg (ratio x1 x2) (ratio y1 y2))▸Bp (Rel.old r (bl w)) (hX.rel r (bl w)) (hM.rel r (bl w)) (by omega) (by omega)) ?_;rintro ρ wa4 v4 wb4 iv4 r he hw h_ hn;clear hX;clear hM;have hP:=hn.cQ (S:=fun _=>False) r.bm (mN h_);clear r he hn;obtain⟨s4_0,s4_1,s4_2,s4_3,s4_4,s4_5,s4_6,s4_7,rfl⟩:=hP.shape;conv=>whnf
 refine cE hw (Φ:=fun _ w' v w2=>cH w2 (Nw (fun _=>False) w' w2) v ((ratio x1 x2)-(ratio y1 y2))) (fun ρ w' r=>nV (Rel.old r (bl w)) (hP.rel r (bl w)) (by omega)) ?_;rintro ρ wa5 v5 wb5 iv5 r he hw h_ hn;clear hP;have hC:=hn.cQ (S:=fun _=>False) r.bm (mN h_);clear r he hn;obtain⟨s5_0,s5_1,s5_2,s5_3,s5_4,s5_5,s5_6,s5_7,rfl⟩:=hC.shape;conv=>whnf
 intro ρe we re;exact⟨_,rfl,hw.tr re.bs,hC.out re (bl w)⟩
theorem Fw{S:Nat->Prop}{w:World}{v u:Value}{f g:Rat}(hS:Old S w)(hf:cZ w S v f)(hg:cZ w S u g)(hlf:rl f<=10000000000)(hlg:rl g<=10000000000):
  dQ PG N.jS #[v,u] w (dU w fun v' w2=>v'= .int .i64 (rs (f-g))):=by
 have hw:cF w.heap.size w w:=cF.refl;have l1:=eo f;have l2:=eF f;have l3:=eo g;have l4:=eF g;have m0:=cL f.num g.den;have m1:=cL g.num f.den;replace hf:=hf.bz (S':=Cv S w.heap.size []) fun _ h=>.inl h;replace hg:=hg.bz (S':=Cv S w.heap.size []) fun _ h=>.inl h;obtain⟨b1,a1,n1,c1,b2,a2,n2,c2,rfl⟩:=hf.shape;obtain⟨b3,a3,n3,c3,b4,a4,n4,c4,rfl⟩:=hg.shape;have hfn:=hf.num;have hfd:=hf.den;clear hf;have hgn:=hg.num;have hgd:=hg.den;clear hg;refine lu (by simp) ?_;conv=>whnf
 refine bw hτ dH [.x 0,.x 1,.x 2,.x 3,.x 5,.x 6,.x 7,.x 8,.x 4,.x 9,.x 10,.x 11] (by kernel_rfl) (by kernel_rfl) ?_;conv=>whnf
 refine cE hw (Φ:=fun _ w' v w2=>dY w2 (Nw (fun _=>False) w' w2) v (f.num*(g.den:Int))) (fun ρ w' r=>fX (Rel.old r hS) (hfn.rel r hS) (hgd.rel r hS) (by omega) (by omega)) ?_;rintro ρ wa1 v1 wb1 iv1 r he hw h_ hn;clear hfn;replace hfd:=hfd.bq r hS he (mC h_);replace hgn:=hgn.bq r hS he (mC h_);clear hgd;have hA:=hn.cQ (S:=fun _=>False) r.bm (mN h_);clear r;obtain⟨s1_0,s1_1,s1_2,s1_3,rfl⟩:=hA.shape;conv=>whnf
 refine cE hw (Φ:=fun _ w' v w2=>dY w2 (Nw (fun _=>False) w' w2) v (g.num*(f.den:Int))) (fun ρ w' r=>fX (Rel.old r hS) (hgn.rel r hS) (hfd.rel r hS) (by omega) (by omega)) ?_;rintro ρ wa2 v2 wb2 iv2 r he hw h_ hn;clear hfd;clear hgn;replace hA:=hA.bq r (bl w) he (mC h_);have hB:=hn.cQ (S:=fun _=>False) r.bm (mN h_);clear r;obtain⟨s2_0,s2_1,s2_2,s2_3,rfl⟩:=hB.shape;conv=>whnf
 refine cE hw (Φ:=fun _ w' v w2=>v= .int .i64 (rs (f-g))) (fun ρ w' r=>(E5 f g)▸Dk (Rel.old r (bl w)) (hA.rel r (bl w)) (hB.rel r (bl w)) (by omega) (by omega)) ?_;rintro ρ wa3 v3 wb3 iv3 r he hw h_ rfl;clear hA;clear hB;clear r;conv=>whnf
 intro ρe we re;exact⟨_,rfl,hw.tr re.bs,rfl⟩
theorem EG{S:Nat->Prop}{w:World}{v u:Value}{x1 x2 y1 y2:Int}(hS:Old S w)(hx:fb w S v x1 x2)(hy:fb w S u y1 y2)(hl0:ln x1.natAbs<=100000)(hl1:ln x2.natAbs<=100000)(hl2:ln y1.natAbs<=100000)(hl3:ln y2.natAbs<=100000):
  dQ PG N.qu #[v,u] w (dU w fun v' w2=>v'= .int .i64 (rs ((ratio x1 x2)-(ratio y1 y2)))):=by
 have hw:cF w.heap.size w w:=cF.refl;have r1:=fY x1 x2;have r2:=fY y1 y2;have r3:=mR (ratio x1 x2) (ratio y1 y2);have r4:=jN (ratio x1 x2) (ratio y1 y2);have r5:=kA (ratio y1 y2);have r6:=uO (ratio x1 x2) (ratio y1 y2);replace hx:=hx.bz (S':=Cv S w.heap.size []) fun _ h=>.inl h;replace hy:=hy.bz (S':=Cv S w.heap.size []) fun _ h=>.inl h;obtain⟨b1,a1,n1,c1,b2,a2,n2,c2,rfl⟩:=hx.shape;obtain⟨b3,a3,n3,c3,b4,a4,n4,c4,rfl⟩:=hy.shape;refine yF (by simp) ?_;conv=>whnf
 refine bw hτ dH [.x 0,.x 2,.x 1,.x 3,.x 4,.x 5] (by kernel_rfl) (by kernel_rfl) ?_;conv=>whnf
 refine cE hw (Φ:=fun _ w' v w2=>cZ w2 (Nw (fun _=>False) w' w2) v ((ratio x1 x2))) (fun ρ w' r=>iG (Rel.old r hS) (hx.rel r hS) (by omega) (by omega)) ?_;rintro ρ wa1 v1 wb1 iv1 r he hw h_ hn;clear hx;replace hy:=hy.bq r hS he (mC h_);have hX:=hn.cQ (S:=fun _=>False) r.bm (mN h_);clear r;obtain⟨s1_0,s1_1,s1_2,s1_3,s1_4,s1_5,s1_6,s1_7,rfl⟩:=hX.shape;conv=>whnf
 refine cE hw (Φ:=fun _ w' v w2=>cZ w2 (Nw (fun _=>False) w' w2) v ((ratio y1 y2))) (fun ρ w' r=>iG (Rel.old r hS) (hy.rel r hS) (by omega) (by omega)) ?_;rintro ρ wa2 v2 wb2 iv2 r he hw h_ hn;clear hy;replace hX:=hX.bq r (bl w) he (mC h_);have hY:=hn.cQ (S:=fun _=>False) r.bm (mN h_);clear r;obtain⟨s2_0,s2_1,s2_2,s2_3,s2_4,s2_5,s2_6,s2_7,rfl⟩:=hY.shape;conv=>whnf
 refine cE hw (Φ:=fun _ w' v w2=>v= .int .i64 (rs ((ratio x1 x2)-(ratio y1 y2)))) (fun ρ w' r=>Fw (Rel.old r (bl w)) (hX.rel r (bl w)) (hY.rel r (bl w)) (by omega) (by omega)) ?_;rintro ρ wa3 v3 wb3 iv3 r he hw h_ rfl;clear hX;clear hY;clear r;conv=>whnf
 intro ρe we re;exact⟨_,rfl,hw.tr re.bs,rfl⟩
theorem tc{q:Rat}:rs q=0↔q=0:=by rw[rs,Int.sign_eq_zero_iff_zero,Rat.num_eq_zero]
theorem EH{S:Nat->Prop}{w:World}{v u:Value}{x1 x2 y1 y2:Int}(hS:Old S w)(hx:fb w S v x1 x2)(hy:fb w S u y1 y2)(hl0:ln x1.natAbs<=100000)(hl1:ln x2.natAbs<=100000)(hl2:ln y1.natAbs<=100000)(hl3:ln y2.natAbs<=100000):
  dQ PG N.qz #[v,u] w (dU w fun v' w2=>((ratio y1 y2)=0∧v'= .tuple #[yg,.int .i64 9])∨((ratio y1 y2)≠0∧∃q,v'= .tuple #[q,.int .i64 0]∧cH w2 (Nw (fun _=>False) w w2) q ((ratio x1 x2) / (ratio y1 y2)))):=by
 have hw:cF w.heap.size w w:=cF.refl;have r1:=fY x1 x2;have r2:=fY y1 y2;have r3:=mR (ratio x1 x2) (ratio y1 y2);have r4:=jN (ratio x1 x2) (ratio y1 y2);have r5:=kA (ratio y1 y2);have r6:=uO (ratio x1 x2) (ratio y1 y2);replace hx:=hx.bz (S':=Cv S w.heap.size []) fun _ h=>.inl h;replace hy:=hy.bz (S':=Cv S w.heap.size []) fun _ h=>.inl h;obtain⟨b1,a1,n1,c1,b2,a2,n2,c2,rfl⟩:=hx.shape;obtain⟨b3,a3,n3,c3,b4,a4,n4,c4,rfl⟩:=hy.shape;refine yJ (by simp) ?_;conv=>whnf
 refine bp (cE hw (Φ:=fun _ w' v w2=>cZ w2 (Nw (fun _=>False) w' w2) v ((ratio y1 y2))) (fun ρ w' r=>iG (Rel.old r hS) (hy.rel r hS) (by omega) (by omega)) ?_);rintro ρ wa1 v1 wb1 iv1 r he hw h_ hn;replace hx:=hx.bq r hS he (mC h_);clear hy;have hY:=hn.cQ (S:=fun _=>False) r.bm (mN h_);clear r;obtain⟨s1_0,s1_1,s1_2,s1_3,s1_4,s1_5,s1_6,s1_7,rfl⟩:=hY.shape;conv=>whnf
 refine bp (cE hw (Φ:=fun _ w' v w2=>v= .int .i64 (rs (ratio y1 y2))) (fun ρ w' r=>Es (Rel.old r (bl w)) (hY.rel r (bl w))) ?_);rintro ρ wa2 v2 wb2 iv2 r he hw h_ rfl;replace hx:=hx.bq r hS he (mC h_);replace hY:=hY.bq r (bl w) he (mC h_);clear r;conv=>whnf
 refine cW.mk (fun h=>?_) (fun h=>?_)
 ·have h:rs (ratio y1 y2)=0:=by simpa using h
  conv=>whnf
  intro ρe we re;exact⟨_,rfl,hw.tr re.bs,.inl ⟨tc.1 h,rfl⟩⟩
 have h:(ratio y1 y2)≠0:=fun e=>by rw[e]at h;exact absurd h (by decide)
 have r7:=F8 (ratio x1 x2) h;conv=>whnf
 refine bw hτ dH [.x 0,.x 2,.x 1,.x 3,.x 4,.x 5,.x 6] (by kernel_rfl) (by kernel_rfl) ?_;conv=>whnf
 refine cE hw (Φ:=fun _ w' v w2=>cZ w2 (Nw (fun _=>False) w' w2) v ((ratio x1 x2))) (fun ρ w' r=>iG (Rel.old r hS) (hx.rel r hS) (by omega) (by omega)) ?_;rintro ρ wa3 v3 wb3 iv3 r he hw h_ hn;clear hx;replace hY:=hY.bq r (bl w) he (mC h_);have hX:=hn.cQ (S:=fun _=>False) r.bm (mN h_);clear r;obtain⟨s3_0,s3_1,s3_2,s3_3,s3_4,s3_5,s3_6,s3_7,rfl⟩:=hX.shape;conv=>whnf
 refine cE hw (Φ:=fun _ w' v w2=>cZ w2 (Nw (fun _=>False) w' w2) v ((ratio x1 x2) / (ratio y1 y2))) (fun ρ w' r=>GZ (Rel.old r (bl w)) (hX.rel r (bl w)) (hY.rel r (bl w)) (by omega) (by omega) h) ?_;rintro ρ wa4 v4 wb4 iv4 r he hw h_ hn;clear hY;clear hX;have hP:=hn.cQ (S:=fun _=>False) r.bm (mN h_);clear r;obtain⟨s4_0,s4_1,s4_2,s4_3,s4_4,s4_5,s4_6,s4_7,rfl⟩:=hP.shape;conv=>whnf
 refine cE hw (Φ:=fun _ w' v w2=>cH w2 (Nw (fun _=>False) w' w2) v ((ratio x1 x2) / (ratio y1 y2))) (fun ρ w' r=>nV (Rel.old r (bl w)) (hP.rel r (bl w)) (by omega)) ?_;rintro ρ wa5 v5 wb5 iv5 r he hw h_ hn;clear hP;have hC:=hn.cQ (S:=fun _=>False) r.bm (mN h_);clear r;obtain⟨s5_0,s5_1,s5_2,s5_3,s5_4,s5_5,s5_6,s5_7,rfl⟩:=hC.shape;conv=>whnf
 intro ρe we re;exact⟨_,rfl,hw.tr re.bs,.inr ⟨h,_,rfl,hC.out re (bl w)⟩⟩
theorem EI{n:Int}(h1: -9223372036854775808<=n)(h2:n<=9223372036854775807):rl (n:Rat)<=2:=by
 have:=j2 h1 h2;unfold rl;rw[Rat.num_intCast,Rat.den_intCast];have:ln 1=1:=by decide
 omega
theorem Ao(n:Int)(w:World)(h1: -9223372036854775808<=n)(h2:n<=9223372036854775807):
  dQ PG N.sJ #[.int .i64 n] w (dU w fun v' w2=>cH w2 (Nw (fun _=>False) w w2) v' (n:Rat)):=by
 have hw:cF w.heap.size w w:=cF.refl;have hl:=EI h1 h2;refine uz (by simp) ?_;conv=>whnf
 refine bp (cE hw (Φ:=fun _ w' v w2=>cZ w2 (Nw (fun _=>False) w' w2) v (n)) (fun ρ w' r=>Et n w' h1 h2) ?_);rintro ρ wa1 v1 wb1 iv1 r he hw h_ hn;have hX:=hn.cQ (S:=fun _=>False) r.bm (mN h_);clear r;obtain⟨s1_0,s1_1,s1_2,s1_3,s1_4,s1_5,s1_6,s1_7,rfl⟩:=hX.shape;conv=>whnf
 refine bp (cE hw (Φ:=fun _ w' v w2=>cH w2 (Nw (fun _=>False) w' w2) v (n)) (fun ρ w' r=>nV (Rel.old r (bl w)) (hX.rel r (bl w)) (by omega)) ?_);rintro ρ wa2 v2 wb2 iv2 r he hw h_ hn;clear hX;have hC:=hn.cQ (S:=fun _=>False) r.bm (mN h_);clear r;obtain⟨s2_0,s2_1,s2_2,s2_3,s2_4,s2_5,s2_6,s2_7,rfl⟩:=hC.shape;conv=>whnf
 intro ρe we re;exact⟨_,rfl,hw.tr re.bs,hC.out re (bl w)⟩
theorem BB(a b:Int)(w:World)(h1a: -9223372036854775808<=a)(h2a:a<=9223372036854775807)(h1b: -9223372036854775808<=b)(h2b:b<=9223372036854775807):
  dQ PG N.sO #[.int .i64 a,.int .i64 b] w (dU w fun v' w2=>(b=0∧v'= .tuple #[yg,.int .i64 9])∨(b≠0∧∃q,v'= .tuple #[q,.int .i64 0]∧cH w2 (Nw (fun _=>False) w w2) q (Rat.divInt a b))):=by
 have hw:cF w.heap.size w w:=cF.refl;have ha:=j2 h1a h2a;have hb:=j2 h1b h2b;refine vE (by simp) ?_;conv=>whnf
 refine cW.mk (fun h=>?_) (fun h=>?_)
 ·have h:b=0:=by simpa using h
  conv=>whnf
  intro ρe we re;exact⟨_,rfl,hw.tr re.bs,.inl ⟨h,rfl⟩⟩
 have h:b≠0:=by simpa using h
 have hq:=jG (a:=a) h;conv=>whnf
 refine bp (cE hw (Φ:=fun _ w' v w2=>dY w2 (Nw (fun _=>False) w' w2) v a) (fun ρ w' r=>lV a w' h1a h2a) ?_);rintro ρ wa1 v1 wb1 iv1 r he hw h_ hn;have hA:=hn.cQ (S:=fun _=>False) r.bm (mN h_);clear r;obtain⟨s1_0,s1_1,s1_2,s1_3,rfl⟩:=hA.shape;conv=>whnf
 refine bp (cE hw (Φ:=fun _ w' v w2=>dY w2 (Nw (fun _=>False) w' w2) v b) (fun ρ w' r=>lV b w' h1b h2b) ?_);rintro ρ wa2 v2 wb2 iv2 r he hw h_ hn;replace hA:=hA.bq r (bl w) he (mC h_);have hB:=hn.cQ (S:=fun _=>False) r.bm (mN h_);clear r;obtain⟨s2_0,s2_1,s2_2,s2_3,rfl⟩:=hB.shape;conv=>whnf
 refine bp (cE hw (Φ:=fun _ w' v w2=>cZ w2 (Nw (fun _=>False) w' w2) v (Rat.divInt a b)) (fun ρ w' r=>rV (Rel.old r (bl w)) (hA.rel r (bl w)) (hB.rel r (bl w)) h (by omega) (by omega)) ?_);rintro ρ wa3 v3 wb3 iv3 r he hw h_ hn;clear hA;clear hB;have hP:=hn.cQ (S:=fun _=>False) r.bm (mN h_);clear r;obtain⟨s3_0,s3_1,s3_2,s3_3,s3_4,s3_5,s3_6,s3_7,rfl⟩:=hP.shape;conv=>whnf
 refine bp (cE hw (Φ:=fun _ w' v w2=>cH w2 (Nw (fun _=>False) w' w2) v (Rat.divInt a b)) (fun ρ w' r=>nV (Rel.old r (bl w)) (hP.rel r (bl w)) (by omega)) ?_);rintro ρ wa4 v4 wb4 iv4 r he hw h_ hn;clear hP;have hC:=hn.cQ (S:=fun _=>False) r.bm (mN h_);clear r;obtain⟨s4_0,s4_1,s4_2,s4_3,s4_4,s4_5,s4_6,s4_7,rfl⟩:=hC.shape;conv=>whnf
 intro ρe we re;exact⟨_,rfl,hw.tr re.bs,.inr ⟨h,_,rfl,hC.out re (bl w)⟩⟩
theorem AR(ad:Addr)(i j:Nat):(ad.add i).add j=ad.add (i+j):=by
 unfold Addr.add;split<;>split<;>simp_all<;>omega
def nF(w:World)(S:Nat->Prop)(v:Value)(q:Rat):Prop:=∃a b,fb w S v a b∧ratio a b=q∧ln a.natAbs<=100000∧ln b.natAbs<=100000
theorem nF.bu{S:Nat->Prop}{w w2:World}{v:Value}{q:Rat}(h:nF w S v q)(hk:∀g,S g->w2.heap[g]? =w.heap[g]?):nF w2 S v q:=by
 obtain⟨a,b,h1,h2⟩:=h;exact⟨a,b,h1.bu hk,h2⟩
theorem nF.shape{S:Nat->Prop}{w:World}{v:Value}{q:Rat}(h:nF w S v q):∃b a n c b2 a2 n2 c2,v= .agg #[.bool b,.slice a n c,.bool b2,.slice a2 n2 c2]:=by
 obtain⟨a,b,h1,_⟩:=h;exact h1.shape
theorem pE(q:Rat):ratio q.num q.den=q:=by rw[ratio,aL (ep q),Rat.num_divInt_den]
theorem cH.v{S:Nat->Prop}{w:World}{v:Value}{q:Rat}(h:cH w S v q)(hl:rl q<=100000):nF w S v q:=
 ⟨_,_,h.r,pE q,bH (eo q) hl,bH (eF q) hl⟩
section
variable{S S':Nat->Prop}{H:Hp}{nx:Nat}{iv iv':Iv}{B:Nat}{w w' w2:World}{ρ:Nat->Sx.dN}{v:Value}{q:Rat}
end
theorem D2{S:Nat->Prop}{w:World}{v u:Value}{p q:Rat}(hS:Old S w)(hp:nF w S v p)(hq:nF w S u q):dQ PG N.qv #[v,u] w (dU w fun v' w2=>cH w2 (Nw (fun _=>False) w w2) v' (p+q)):=by
 obtain⟨a,b,h1,rfl,h2,h3⟩:=hp;obtain⟨c,d,k1,rfl,k2,k3⟩:=hq;exact EC hS h1 k1 h2 h3 k2 k3
theorem yS{S:Nat->Prop}{w:World}{v u:Value}{p q:Rat}(hS:Old S w)(hp:nF w S v p)(hq:nF w S u q):dQ PG N.qw #[v,u] w (dU w fun v' w2=>cH w2 (Nw (fun _=>False) w w2) v' (p*q)):=by
 obtain⟨a,b,h1,rfl,h2,h3⟩:=hp;obtain⟨c,d,k1,rfl,k2,k3⟩:=hq;exact ED hS h1 k1 h2 h3 k2 k3
theorem D0{S:Nat->Prop}{w:World}{v u:Value}{p q:Rat}(hS:Old S w)(hp:nF w S v p)(hq:nF w S u q):dQ PG N.rA #[v,u] w (dU w fun v' w2=>cH w2 (Nw (fun _=>False) w w2) v' (p-q)):=by
 obtain⟨a,b,h1,rfl,h2,h3⟩:=hp;obtain⟨c,d,k1,rfl,k2,k3⟩:=hq;exact EF hS h1 k1 h2 h3 k2 k3
theorem yR{S:Nat->Prop}{w:World}{v u:Value}{p q:Rat}(hS:Old S w)(hp:nF w S v p)(hq:nF w S u q):dQ PG N.qu #[v,u] w (dU w fun v' _=>v'= .int .i64 (rs (p-q))):=by
 obtain⟨a,b,h1,rfl,h2,h3⟩:=hp;obtain⟨c,d,k1,rfl,k2,k3⟩:=hq;exact EG hS h1 k1 h2 h3 k2 k3
theorem Ff{S:Nat->Prop}{w:World}{v u:Value}{p q:Rat}(hS:Old S w)(hp:nF w S v p)(hq:nF w S u q):dQ PG N.qz #[v,u] w (dU w fun v' w2=>(q=0∧v'= .tuple #[yg,.int .i64 9])∨(q≠0∧∃r,v'= .tuple #[r,.int .i64 0]∧cH w2 (Nw (fun _=>False) w w2) r (p / q))):=by
 obtain⟨a,b,h1,rfl,h2,h3⟩:=hp;obtain⟨c,d,k1,rfl,k2,k3⟩:=hq;exact EH hS h1 k1 h2 h3 k2 k3
end Go.Ex
namespace Go.Ex
theorem F2(q:Rat):rs (-q)= -rs q:=by rw[rs,rs,Rat.neg_num,Int.sign_neg]
end Go.Ex
namespace Go.Ex
open Go Go.Sx Go.Proofs
def eN(w:World)(S:Nat->Prop)(v:Value)(k:Nat)(z:Int):Prop:=∃neg ls,qX w S v neg ls∧sg neg (val ls)=z∧ls.length<=k
theorem eN.bu{S:Nat->Prop}{w w2:World}{v:Value}{k:Nat}{z:Int}(h:eN w S v k z)(hk:∀g,S g->w2.heap[g]? =w.heap[g]?):eN w2 S v k z:=by
 obtain⟨n,l,h1,h2⟩:=h;exact⟨n,l,h1.bu hk,h2⟩
theorem eN.bz{S S':Nat->Prop}{w:World}{v:Value}{k:Nat}{z:Int}(h:eN w S v k z)(hk:∀g,S g->S' g):eN w S' v k z:=by
 obtain⟨n,l,h1,h2⟩:=h;exact⟨n,l,h1.bz hk,h2⟩
theorem eN.r{S:Nat->Prop}{w:World}{v:Value}{k:Nat}{z:Int}(h:eN w S v k z):gg w S v z:=by
 obtain⟨n,l,h1,h2,_⟩:=h;exact⟨n,l,h1,h2⟩
theorem eN.shape{S:Nat->Prop}{w:World}{v:Value}{k:Nat}{z:Int}(h:eN w S v k z):∃b a n c,v= .agg #[.bool b,.slice a n c]:=h.r.shape
theorem cU.l{S:Nat->Prop}{w:World}{v:Value}{k:Nat}{z:Int}(h:cU w S v z)(hk:ln z.natAbs<=k):eN w S v k z:=by
 obtain⟨l,h1,h2,h3⟩:=h;obtain⟨_,_,hl⟩:=h1;have:=dX hl.lm h2;rw[h3]at this;exact⟨_,l,⟨_,‹_›,hl⟩,by rw[h3,x5],by omega⟩
section
variable{S S':Nat->Prop}{H:Hp}{nx:Nat}{iv iv':Iv}{B:Nat}{w w' w2:World}{ρ:Nat->Sx.dN}{v:Value}{k:Nat}{z:Int}
theorem eN.rel(h:eN w (Cv S B iv) v k z)(r:Rel H nx iv B w ρ w')(hS:∀g,S g->g<B):eN w' (Cv S B iv) v k z:=h.bu fun _ hg=>Rel.same r hS hg
theorem eN.bq(h:eN w (Cv S B iv) v k z)(r:Rel H nx iv B w ρ w')(hS:∀g,S g->g<B)(he:Ext w' w2)(hm:∀p,p∈iv->p∈iv'):eN w2 (Cv S B iv') v k z:=
 ((h.rel r hS).bu fun g hg=>he.block g (Rel.old r hS g hg)).bz fun _ hg=>hg.mono hm
end
section
variable{S S':Nat->Prop}{H:Hp}{nx:Nat}{iv iv':Iv}{B:Nat}{w w' w2:World}{ρ:Nat->Sx.dN}{v:Value}{cs:List Int}
theorem dJ.rel(h:dJ w (Cv S B iv) v cs)(r:Rel H nx iv B w ρ w')(hS:∀g,S g->g<B):dJ w' (Cv S B iv) v cs:=dJ.bu h fun _ hg=>Rel.same r hS hg
theorem dJ.bq(h:dJ w (Cv S B iv) v cs)(r:Rel H nx iv B w ρ w')(hS:∀g,S g->g<B)(he:Ext w' w2)(hm:∀p,p∈iv->p∈iv'):dJ w2 (Cv S B iv') v cs:=
 (dJ.bu (h.rel r hS) fun g hg=>he.block g (Rel.old r hS g hg)).bz fun _ hg=>hg.mono hm
theorem dJ.cQ(h:dJ w2 (Nw (fun _=>False) w' w2) v cs)(hB:B<=w'.heap.size)(hm:(w'.heap.size,w2.heap.size)∈iv):dJ w2 (Cv S B iv) v cs:=dJ.bz h fun _ hg=>hg.cQ hB hm
end
def GC(b:Bool):Int:=if b then -1 else 1
theorem Fx(b:Bool):GC b=1∨GC b= -1:=by cases b<;>simp[GC]
theorem Ez(b:Bool)(n:Nat):GC b*(n:Int)=sg b n:=by cases b<;>simp[GC,sg]
theorem BM{S:Nat->Prop}{w:World}{v:Value}{neg:Bool}{ls:List Nat}(hS:Old S w)(h:qX w S v neg ls)(hl:ls.length<=40000000):
  dQ PG N.kC #[v] w (dU w fun v' w2=>dJ w2 (Nw (fun _=>False) w w2) v' (dO (GC neg) ls)):=by
 obtain⟨lv,rfl,hL⟩:=h;have hlm:=hL.lm;obtain⟨a,c,rfl,hc,hcell⟩:=hL.sl;refine rK (by simp) ?_;conv=>whnf
 cases neg with
 |true=>
  conv=>whnf
  refine⟨Nat×World,fun z=>⟨[(1,.o (.p 0 0)),(3,.o (.v (.int .i64 (-1)))),(4,.o (.w 1 (2*z.1))),(5,.o (.v (.int .i64 z.1)))],[(1,.vec T.int 1 ((dO (-1) (ls.take z.1)).map (Value.int .i64))),(0,.box T.Int [.v (.bool true),.v (.slice a ls.length c)])],2,[],z.2⟩,fun z=>ls.length-z.1,
   fun z=>cF w.heap.size w z.2∧z.1<=ls.length,?_,?_⟩
  ·intro ρ w' r
   exact⟨(0,w'),⟨r.bs,by simp⟩,Sub.nil 4 T.int 1 rfl (by simp[cO,SV.sc,At.sc,cJ]) r fun ρ1 r1=>
    Sub.gen [] r1 ⟨rfl,rfl,trivial⟩ ⟨rfl,rfl,rfl,rfl,trivial⟩ (by simp[cY,cN.scopd,At.sc]) (by simp[cO,SV.sc,At.sc]) (by rfl) (by simp)⟩
  rintro⟨i,w1⟩ ⟨hw,hi⟩;dsimp only at hw hi ⊢;have hln:((dO (-1) (ls.take i)).map (Value.int .i64)).length=2*i:=by rw[aK,fZ,aW];omega
  conv=>whnf
  refine cW.mk (fun h=>?_) (fun h=>?_)
  ·have h:i<ls.length:=by simpa using h
   obtain⟨x,hx⟩:∃x,ls[i]? =some x:=⟨_,aA h⟩
   have hx32:=hlm x (aD hx);obtain⟨ad,rfl,q1,q2⟩:=hcell i x hx;have htk:dO (-1) (ls.take (i+1))=dO (-1) (ls.take i)++[(-1)*((x % 65536:Nat):Int),(-1)*((x / 65536:Nat):Int)]:=by rw[List.take_add_one,hx,Option.toList_some,l5];rfl
   conv=>whnf
   refine⟨ad,rfl,⟨by omega,by omega⟩,?_⟩;conv=>whnf
   refine⟨.int .u32 x,fun ρ w' r=>?_,?_⟩
   ·rw[aB,aR];exact ig hS hw r q1 q2
   conv=>whnf
   refine⟨(x:Int),by rw[wrap64]<;>omega,?_⟩;conv=>whnf
   refine⟨by decide,((x % 65536:Nat):Int),rfl,?_⟩;conv=>whnf
   refine⟨(-1)*((x % 65536:Nat):Int),by rw[wrap64]<;>omega,?_⟩;conv=>whnf
   refine⟨by decide,((x / 65536:Nat):Int),by rw[show (x:Int).tdiv 65536=((x / 65536:Nat):Int)from rfl,wrap64]<;>omega,?_⟩;conv=>whnf
   refine⟨(-1)*((x / 65536:Nat):Int),by rw[wrap64]<;>omega,?_⟩;conv=>whnf
   refine .inl ?_;conv=>whnf
   refine⟨by rw[hln,aR],by omega,by unfold maxLen;omega,?_⟩;conv=>whnf
   refine⟨((i+1:Nat):Int),by rw[wrap64]<;>omega,?_⟩;conv=>whnf
   intro ρ3 w3 r3;have hm5:(dO (-1) (ls.take (i+1))).map (Value.int .i64)=(dO (-1) (ls.take i)).map (Value.int .i64)++[.int .i64 ((-1)*((x % 65536:Nat):Int)),.int .i64 ((-1)*((x / 65536:Nat):Int))]:=by
    rw[htk];simp
   exact⟨(i+1,w3),⟨hw.tr r3.bs,by dsimp only;omega⟩,Sub.gen [(1,3)] r3 ⟨by dsimp only;rw[hm5];rfl,rfl,trivial⟩ ⟨rfl,rfl,rfl,rfl,trivial⟩ (by simp[cY,cN.scopd,At.sc]) (by simp[cO,SV.sc,At.sc]) (by rfl) (fun lo hi h=>h),by dsimp only;omega⟩
  have h:i=ls.length:=by
   have:¬i<ls.length:=by simpa using h
   omega
  subst h;rw[ah]at hln ⊢;conv=>whnf
  intro ρe we re;have hrow:=re.yh (id:=1) (m:=2*ls.length) rfl (by rw[hln,aR]) (by decide);have hcols:=nW hrow (by rw[fZ]) (by unfold maxLen;omega);refine⟨_,rfl,hw.tr re.bs,dJ.bz hcols fun g hg=>.inr ?_⟩;have:=ownsRow.low hrow g hg;exact this
 |false=>
  conv=>whnf
  refine⟨Nat×World,fun z=>⟨[(1,.o (.p 0 0)),(3,.o (.v (.int .i64 (1)))),(4,.o (.w 1 (2*z.1))),(5,.o (.v (.int .i64 z.1)))],[(1,.vec T.int 1 ((dO (1) (ls.take z.1)).map (Value.int .i64))),(0,.box T.Int [.v (.bool false),.v (.slice a ls.length c)])],2,[],z.2⟩,fun z=>ls.length-z.1,
   fun z=>cF w.heap.size w z.2∧z.1<=ls.length,?_,?_⟩
  ·intro ρ w' r
   exact⟨(0,w'),⟨r.bs,by simp⟩,Sub.nil 4 T.int 1 rfl (by simp[cO,SV.sc,At.sc,cJ]) r fun ρ1 r1=>
    Sub.gen [] r1 ⟨rfl,rfl,trivial⟩ ⟨rfl,rfl,rfl,rfl,trivial⟩ (by simp[cY,cN.scopd,At.sc]) (by simp[cO,SV.sc,At.sc]) (by rfl) (by simp)⟩
  rintro⟨i,w1⟩ ⟨hw,hi⟩;dsimp only at hw hi ⊢;have hln:((dO (1) (ls.take i)).map (Value.int .i64)).length=2*i:=by rw[aK,fZ,aW];omega
  conv=>whnf
  refine cW.mk (fun h=>?_) (fun h=>?_)
  ·have h:i<ls.length:=by simpa using h
   obtain⟨x,hx⟩:∃x,ls[i]? =some x:=⟨_,aA h⟩
   have hx32:=hlm x (aD hx);obtain⟨ad,rfl,q1,q2⟩:=hcell i x hx;have htk:dO (1) (ls.take (i+1))=dO (1) (ls.take i)++[(1)*((x % 65536:Nat):Int),(1)*((x / 65536:Nat):Int)]:=by rw[List.take_add_one,hx,Option.toList_some,l5];rfl
   conv=>whnf
   refine⟨ad,rfl,⟨by omega,by omega⟩,?_⟩;conv=>whnf
   refine⟨.int .u32 x,fun ρ w' r=>?_,?_⟩
   ·rw[aB,aR];exact ig hS hw r q1 q2
   conv=>whnf
   refine⟨(x:Int),by rw[wrap64]<;>omega,?_⟩;conv=>whnf
   refine⟨by decide,((x % 65536:Nat):Int),rfl,?_⟩;conv=>whnf
   refine⟨(1)*((x % 65536:Nat):Int),by rw[wrap64]<;>omega,?_⟩;conv=>whnf
   refine⟨by decide,((x / 65536:Nat):Int),by rw[show (x:Int).tdiv 65536=((x / 65536:Nat):Int)from rfl,wrap64]<;>omega,?_⟩;conv=>whnf
   refine⟨(1)*((x / 65536:Nat):Int),by rw[wrap64]<;>omega,?_⟩;conv=>whnf
   refine .inl ?_;conv=>whnf
   refine⟨by rw[hln,aR],by omega,by unfold maxLen;omega,?_⟩;conv=>whnf
   refine⟨((i+1:Nat):Int),by rw[wrap64]<;>omega,?_⟩;conv=>whnf
   intro ρ3 w3 r3;have hm5:(dO (1) (ls.take (i+1))).map (Value.int .i64)=(dO (1) (ls.take i)).map (Value.int .i64)++[.int .i64 ((1)*((x % 65536:Nat):Int)),.int .i64 ((1)*((x / 65536:Nat):Int))]:=by
    rw[htk];simp
   exact⟨(i+1,w3),⟨hw.tr r3.bs,by dsimp only;omega⟩,Sub.gen [(1,3)] r3 ⟨by dsimp only;rw[hm5];rfl,rfl,trivial⟩ ⟨rfl,rfl,rfl,rfl,trivial⟩ (by simp[cY,cN.scopd,At.sc]) (by simp[cO,SV.sc,At.sc]) (by rfl) (fun lo hi h=>h),by dsimp only;omega⟩
  have h:i=ls.length:=by
   have:¬i<ls.length:=by simpa using h
   omega
  subst h;rw[ah]at hln ⊢;conv=>whnf
  intro ρe we re;have hrow:=re.yh (id:=1) (m:=2*ls.length) rfl (by rw[hln,aR]) (by decide);have hcols:=nW hrow (by rw[fZ]) (by unfold maxLen;omega);refine⟨_,rfl,hw.tr re.bs,dJ.bz hcols fun g hg=>.inr ?_⟩;have:=ownsRow.low hrow g hg;exact this
def wV(cs:List Int)(n:Nat)(z:Int):Prop:=cX cs=z∧cs.length<=n∧(∀c∈cs,-65535<=c∧c<=65535)∧(0<=z->∀c∈cs,0<=c)
theorem wW(s:Int){ls:List Nat}(h:val ls=0):∀c∈dO s ls,c=0:=fun c hc=>by
 induction ls with
 |nil=>cases hc
 |cons l r ih=>
  have h:l+4294967296*val r=0:=h;have h1:l=0:=by omega
  have h2:val r=0:=by omega
  subst h1;rw[dO]at hc;rcases List.mem_cons.1 hc with rfl|hc
  ·simp
  rcases List.mem_cons.1 hc with rfl|hc
  ·simp
  ·exact ih h2 hc
theorem eN.AQ{S:Nat->Prop}{w:World}{v:Value}{k:Nat}{z:Int}(h:eN w S v k z):∃b a ls c,v= .agg #[.bool b,.slice a ls.length c]∧cV w S (.slice a ls.length c) ls∧sg b (val ls)=z∧ls.length<=k:=by
 obtain⟨b,ls,⟨lv,rfl,hl⟩,hz,hk⟩:=h;obtain⟨a,c,rfl,_⟩:=hl.sl;exact⟨b,a,ls,c,rfl,hl,hz,hk⟩
theorem eN.ln{S:Nat->Prop}{w:World}{v:Value}{k:Nat}{z:Int}(h:eN w S v k z):ln z.natAbs<=k:=by
 obtain⟨b,a,ls,c,_,hl,hz,hk⟩:=h.AQ;rw[<-hz,pC];exact EB hl.lm hk
theorem eN.neg{S:Nat->Prop}{w:World}{lv:Value}{b:Bool}{k:Nat}{z:Int}(h:eN w S (.agg #[.bool b,lv]) k z):eN w S (.agg #[.bool (!b),lv]) k (-z):=by
 obtain⟨b,ls,⟨lv,e,hl⟩,hz,hk⟩:=h;simp only[Value.agg.injEq,Array.mk.injEq,List.cons.injEq,Value.bool.injEq,and_true]at e;obtain⟨rfl,rfl⟩:=e;refine⟨_,ls,⟨_,rfl,hl⟩,?_,hk⟩;rw[<-hz]
 cases b<;>simp[sg]
theorem eN.abs{S:Nat->Prop}{w:World}{lv:Value}{b:Bool}{k:Nat}{z:Int}(h:eN w S (.agg #[.bool b,lv]) k z):eN w S (.agg #[.bool false,lv]) k (z.natAbs:Int):=by
 obtain⟨b,ls,⟨lv,e,hl⟩,hz,hk⟩:=h;simp only[Value.agg.injEq,Array.mk.injEq,List.cons.injEq,Value.bool.injEq,and_true]at e;obtain⟨rfl,rfl⟩:=e;exact⟨_,ls,⟨_,rfl,hl⟩,by rw[<-hz,pC];rfl,hk⟩
theorem nY{S:Nat->Prop}{w:World}{v:Value}{k:Nat}{z:Int}(hS:Old S w)(h:eN w S v k z)(hk:k<=40000000):
  dQ PG N.kC #[v] w (dU w fun v' w2=>∃cs,dJ w2 (Nw (fun _=>False) w w2) v' cs∧wV cs (2*k) z):=by
 obtain⟨b,ls,hi,hz,hl⟩:=h;have hlm:Lm ls:=by obtain⟨_,_,h⟩:=hi;exact h.lm
 refine(BM hS hi (by omega)).mono fun _ w2 ⟨v2,e1,e2,e3⟩=>⟨v2,e1,e2,_,e3,by rw[xw,Ez,hz],by rw[fZ];omega,uT (Fx b) hlm,fun h0=>?_⟩
 cases b with
 |false=>exact fun c hc=>(s3 hlm c hc).1
 |true=>
  rw[Dd]at hz;exact fun c hc=>by rw[wW _ (show val ls=0 by omega) c hc];decide
theorem BN{S:Nat->Prop}{w:World}{v:Value}{cs:List Int}{n:Nat}{z:Int}(hS:Old S w)(h:dJ w S v cs)(hb:wV cs n z)(hn:n<=100000000):
  dQ PG N.iF #[v] w (dU w fun v' w2=>cU w2 (Nw (fun _=>False) w w2) v' z):=by
 have:=rX hS h (fun c hc=>by have:=hb.2.2.1 c hc;omega) (by have:=hb.2.1;omega);rw[hb.1]at this;exact this
theorem EJ{S:Nat->Prop}{w:World}{v:Value}{k:Nat}{x:Int}(hS:Old S w)(hx:eN w S v k x)(hk:k<=40000000):
  dQ PG N.xO #[v] w (dU w fun v' w2=>cU w2 (Nw (fun _=>False) w w2) v' x):=by
 have hw:cF w.heap.size w w:=cF.refl;replace hx:=hx.bz (S':=Cv S w.heap.size []) fun _ h=>.inl h;obtain⟨b1,a1,n1,c1,rfl⟩:=hx.shape;refine yL (by simp) ?_;conv=>whnf
 refine bp (cE hw (Φ:=fun _ w' v w2=>∃cs,dJ w2 (Nw (fun _=>False) w' w2) v cs∧wV cs (2*k) (x)) (fun ρ w' r=>nY (Rel.old r hS) (hx.rel r hS) (by omega)) ?_);rintro ρ wa1 v1 wb1 iv1 r he hw h_ ⟨cs,k1,bcs⟩;clear hx;have hc:=k1.cQ (S:=fun _=>False) r.bm (mN h_);clear r;clear k1;obtain⟨acs,ccs,rfl,lcs⟩:=hc.shape;conv=>whnf
 refine bp (cE hw (Φ:=fun _ w' v w2=>cU w2 (Nw (fun _=>False) w' w2) v (x)) (fun ρ w' r=>BN (Rel.old r (bl w)) (hc.rel r (bl w)) bcs (by omega)) ?_);rintro ρ wa2 v2 wb2 iv2 r he hw h_ hn;clear hc;have hC:=hn.cQ (S:=fun _=>False) r.bm (mN h_);clear r;obtain⟨s2_0,s2_1,s2_2,s2_3,rfl⟩:=hC.shape;conv=>whnf
 intro ρe we re;exact⟨_,rfl,hw.tr re.bs,hC.out re (bl w)⟩
theorem j4{S:Nat->Prop}{w:World}{v:Value}{k:Nat}{x:Int}(hS:Old S w)(hx:eN w S v k x)(hk:k<=40000000):
  dQ PG N.sH #[v] w (dU w fun v' w2=>cU w2 (Nw (fun _=>False) w w2) v' (-x)):=by
 have hw:cF w.heap.size w w:=cF.refl;replace hx:=hx.bz (S':=Cv S w.heap.size []) fun _ h=>.inl h;obtain⟨b1,a1,n1,c1,rfl⟩:=hx.shape;replace hx:=hx.neg;refine ux (by simp) ?_;conv=>whnf
 refine bp (cE hw (Φ:=fun _ w' v w2=>cU w2 (Nw (fun _=>False) w' w2) v (-x)) (fun ρ w' r=>EJ (Rel.old r hS) (hx.rel r hS) hk) ?_);rintro ρ wa1 v1 wb1 iv1 r he hw h_ hn;clear hx;have hC:=hn.cQ (S:=fun _=>False) r.bm (mN h_);clear r;obtain⟨s1_0,s1_1,s1_2,s1_3,rfl⟩:=hC.shape;conv=>whnf
 intro ρe we re;exact⟨_,rfl,hw.tr re.bs,hC.out re (bl w)⟩
theorem te{S:Nat->Prop}{w:World}{v:Value}{k:Nat}{x:Int}(hS:Old S w)(hx:eN w S v k x)(hk:k<=40000000):
  dQ PG N.u6 #[v] w (dU w fun v' w2=>cU w2 (Nw (fun _=>False) w w2) v' ((x.natAbs:Int))):=by
 have hw:cF w.heap.size w w:=cF.refl;replace hx:=hx.bz (S':=Cv S w.heap.size []) fun _ h=>.inl h;obtain⟨b1,a1,n1,c1,rfl⟩:=hx.shape;replace hx:=hx.abs;refine wK (by simp) ?_;conv=>whnf
 refine bp (cE hw (Φ:=fun _ w' v w2=>cU w2 (Nw (fun _=>False) w' w2) v ((x.natAbs:Int))) (fun ρ w' r=>EJ (Rel.old r hS) (hx.rel r hS) hk) ?_);rintro ρ wa1 v1 wb1 iv1 r he hw h_ hn;clear hx;have hC:=hn.cQ (S:=fun _=>False) r.bm (mN h_);clear r;obtain⟨s1_0,s1_1,s1_2,s1_3,rfl⟩:=hC.shape;conv=>whnf
 intro ρe we re;exact⟨_,rfl,hw.tr re.bs,hC.out re (bl w)⟩
theorem FR{S:Nat->Prop}{w:World}{v:Value}{cs:List Int}{i:Nat}(hS:Old S w)(h:dJ w S v cs):
  dQ PG N.zd #[v,.int .i64 i] w (dU w fun v' _=>v'= .int .i64 (cs.getD i 0)):=by
 obtain⟨a,c,rfl,hc⟩:=h.shape;refine zg (by simp) ?_;conv=>whnf
 refine cW.mk (fun hi=>?_) (fun hi=>?_)
 ·have hi:i<cs.length:=by simpa using hi
  obtain⟨x,hx⟩:∃x,cs[i]? =some x:=⟨_,aA hi⟩
  obtain⟨ad,rfl,q1,q2⟩:=h.load hx;conv=>whnf
  refine⟨ad,rfl,⟨by omega,by omega⟩,?_⟩;conv=>whnf
  refine⟨.int .i64 x,fun ρ w' r=>?_,?_⟩
  ·rw[aB];exact ig hS cF.refl r q1 q2
  conv=>whnf
  intro ρ w2 r;exact⟨_,rfl,r.bs,by rw[List.getD,hx];rfl⟩
 ·have hi:cs.length<=i:=by
   have:¬i<cs.length:=by simpa using hi
   omega
  conv=>whnf
  intro ρ w2 r;exact⟨_,rfl,r.bs,by rw[List.getD,List.getElem?_eq_none hi];rfl⟩
theorem val_zero{ls:List Nat}(h:∀x∈ls,x=0):val ls=0:=by
 induction ls with
 |nil=>rfl
 |cons l r ih=>rw[val,h l aH,ih fun x hx=>h x (aC _ hx)]
theorem FA{ls:List Nat}{x:Nat}(h:x∈ls)(hx:x≠0):0<val ls:=by
 induction ls with
 |nil=>cases h
 |cons l r ih=>
  rw[val];rcases List.mem_cons.1 h with rfl|h
  ·omega
  ·have:=ih h;omega
theorem fE{S:Nat->Prop}{w:World}{v:Value}{x:Int}(hS:Old S w)(hx:gg w S v x):
  dQ PG N.uY #[v] w (dU w fun v' _=>v'= .int .i64 x.sign):=by
 obtain⟨b,ls,⟨lv,rfl,h1⟩,hz⟩:=hx;obtain⟨a,c,rfl,_,ha⟩:=h1.sl;have hle1:=h1.le;refine wH (by simp) ?_;conv=>whnf
 refine⟨Nat×World,fun z=>⟨[(1,.o (.p 0 0)),(3,.o (.v (.int .i64 z.1)))],[(0,.box T.Int [.v (.bool b),.v (.slice a ls.length c)])],1,[],z.2⟩,fun z=>ls.length-z.1,
  fun z=>z.1<=ls.length∧cF w.heap.size w z.2∧∀x∈ls.take z.1,x=0,?_,?_⟩
 ·intro ρ w' r;exact⟨(0,w'),⟨by simp,r.bs,by simp⟩,Sub.gen [] r ⟨rfl,trivial⟩ ⟨rfl,rfl,trivial⟩ (by simp[cY,cN.scopd,At.sc]) (by simp[cO,SV.sc,At.sc]) (by rfl) (fun lo hi h=>h)⟩
 rintro⟨i,w1⟩ ⟨hi,hw,ht⟩;dsimp only at hi hw ht ⊢;conv=>whnf
 refine cW.mk (fun hib=>?_) (fun hib=>?_)
 ·have hib:i<ls.length:=by simpa using hib
  obtain⟨y,hy⟩:∃x,ls[i]? =some x:=⟨_,aA hib⟩
  obtain⟨ad,rfl,q1,q2⟩:=ha i y hy;conv=>whnf
  refine⟨ad,rfl,⟨by omega,by omega⟩,?_⟩;conv=>whnf
  refine⟨.int .u32 y,fun ρ w' r=>by rw[aB,aR];exact ig hS hw r q1 q2,?_⟩;conv=>whnf
  refine cW.mk (fun hne=>?_) (fun hne=>?_)
  ·have hne:y≠0:=fun h=>by rw[h]at hne;simp at hne
   have hp:=FA (aD hy) hne;conv=>whnf
   cases b with
   |true=>
    rw[Dd]at hz;conv=>whnf
    intro ρ w2 r;exact⟨_,rfl,hw.tr r.bs,by rw[bV (by omega)];rfl⟩
   |false=>
    rw[Fk]at hz;conv=>whnf
    intro ρ w2 r;exact⟨_,rfl,hw.tr r.bs,by rw[bW (by omega)];rfl⟩
  have hne:y=0:=by simpa using hne
  subst hne;have ht2:∀x∈ls.take (i+1),x=0:=fun x hx=>by
   rw[List.take_add_one,hy]at hx;rcases bT.1 hx with hx|hx
   ·exact ht x hx
   ·simpa using hx
  conv=>whnf
  refine⟨((i+1:Nat):Int),by rw[wrap64]<;>omega,?_⟩;conv=>whnf
  intro ρ3 w3 r3;exact⟨(i+1,w3),⟨hib,hw.tr r3.bs,ht2⟩,Sub.gen [] r3 ⟨rfl,trivial⟩ ⟨rfl,rfl,trivial⟩ (by simp[cY,cN.scopd,At.sc]) (by simp[cO,SV.sc,At.sc]) (by rfl) (fun lo hi h=>h),by dsimp only;omega⟩
 have hib:i=ls.length:=by
  have:¬i<ls.length:=by simpa using hib
  omega
 subst hib;rw[ah]at ht;conv=>whnf
 intro ρ w2 r;refine⟨_,rfl,hw.tr r.bs,?_⟩;rw[<-hz,val_zero ht]
 cases b<;>rfl
theorem wV.at{cs:List Int}{n:Nat}{z:Int}(h:wV cs n z)(i:Nat): -65535<=cs.getD i 0∧cs.getD i 0<=65535:=by
 rw[List.getD]
 cases hj:cs[i]? with
 |none=>simp
 |some d=>exact h.2.2.1 d (aD hj)
end Go.Ex
namespace Go.Sx
open Go Go.Ex Go.Proofs
theorem Rel.FB{H:Hp}{nx:Nat}{iv:Iv}{B:Nat}{w w':World}{ρ:Nat->Sx.dN}(r:Rel H nx iv B w ρ w'){id m:Nat}{cs:List Int}(h:cT H id=some (.vec T.int 1 (cs.map (Value.int .i64))))(hm:m=cs.length)(hl:m<=maxLen):
  ∃S',Old S' w'∧dJ w' S' ((SV.o (.w id m)).den ρ) cs:=by
 have hrow:=r.yh (m:=m) h (by rw[aK,hm,aR]) (by decide);exact⟨_,fun g hg=>(ownsRow.low hrow g hg).2,nW hrow hm hl⟩
end Go.Sx
namespace Go.Ex
open Go Go.Sx Go.Proofs
theorem kF{H:Hp}{nx:Nat}{iv:Iv}{B:Nat}{w w':World}{ρ:Nat->Sx.dN}(r:Rel H nx iv B w ρ w'){id m:Nat}{cs:List Int}{z:Int}(h:cT H id=some (.vec T.int 1 (cs.map (Value.int .i64))))(hm:m=cs.length)(hl:m<=100000000)
  (hb:∀c∈cs,-1152921504606846976<=c∧c<=1152921504606846976) (hz:cX cs=z):dQ PG N.iF #[(SV.o (.w id m)).den ρ] w' (dU w' fun v' w2=>cU w2 (Nw (fun _=>False) w' w2) v' z):=by
 subst hz;obtain⟨S',h1,h2⟩:=r.FB h hm (by unfold maxLen;omega);exact rX h1 h2 hb (by omega)
theorem vZ{S:Nat->Prop}{w:World}{v u:Value}{k l:Nat}{x y:Int}(hS:Old S w)(hx:eN w S v k x)(hy:eN w S u l y)(hk:k<=10000000)(hl:l<=10000000):
  dQ PG N.xM #[v,u] w (dU w fun v' w2=>cU w2 (Nw (fun _=>False) w w2) v' (x+y)):=by
 have hw:cF w.heap.size w w:=cF.refl;replace hx:=hx.bz (S':=Cv S w.heap.size []) fun _ h=>.inl h;replace hy:=hy.bz (S':=Cv S w.heap.size []) fun _ h=>.inl h;obtain⟨b1,a1,n1,c1,rfl⟩:=hx.shape;obtain⟨b2,a2,n2,c2,rfl⟩:=hy.shape;refine yE (by simp) ?_;conv=>whnf
 refine bw hτ dH [.x 0,.x 2,.x 1,.x 3,.x 4,.x 5] (by kernel_rfl) (by kernel_rfl) ?_;conv=>whnf
 refine cE hw (Φ:=fun _ w' v w2=>∃cs,dJ w2 (Nw (fun _=>False) w' w2) v cs∧wV cs (2*k) (x)) (fun ρ w' r=>nY (Rel.old r hS) (hx.rel r hS) (by omega)) ?_;rintro ρ wa1 v1 wb1 iv1 r he hw h_ ⟨ca,k1,bca⟩;clear hx;replace hy:=hy.bq r hS he (mC h_);have hca:=k1.cQ (S:=fun _=>False) r.bm (mN h_);clear r;clear k1;obtain⟨aca,cca,rfl,lca⟩:=hca.shape;conv=>whnf
 refine cE hw (Φ:=fun _ w' v w2=>∃cs,dJ w2 (Nw (fun _=>False) w' w2) v cs∧wV cs (2*l) (y)) (fun ρ w' r=>nY (Rel.old r hS) (hy.rel r hS) (by omega)) ?_;rintro ρ wa2 v2 wb2 iv2 r he hw h_ ⟨cb,k1,bcb⟩;clear hy;replace hca:=hca.bq r (bl w) he (mC h_);have hcb:=k1.cQ (S:=fun _=>False) r.bm (mN h_);clear r;clear k1;obtain⟨acb,ccb,rfl,lcb⟩:=hcb.shape;conv=>whnf
 refine⟨Nat×World×Iv,fun z=>⟨[(4,.o (.p 2 0)),(5,.o (.v (.slice aca ca.length cca))),(6,.o (.v (.slice acb cb.length ccb))),(7,.o (.w 3 z.1)),(8,.o (.v (.int .i64 z.1)))],[(3,.vec T.int 1 (((List.range z.1).map fun j=>ca.getD j 0+cb.getD j 0).map (Value.int .i64))),(2,.box T.Int [.v (.bool false),.v (.slice none 0 0)])],4,z.2.2,z.2.1⟩,fun z=>max ca.length cb.length-z.1,
  fun z=>z.1<=max ca.length cb.length∧cF w.heap.size w z.2.1∧dJ z.2.1 (Cv (fun _=>False) w.heap.size z.2.2) (.slice aca ca.length cca) ca∧dJ z.2.1 (Cv (fun _=>False) w.heap.size z.2.2) (.slice acb cb.length ccb) cb,?_,?_⟩
 ·intro ρ w' r
  exact⟨(0,w',iv2),⟨by simp,hw.tr r.bs,hca.rel r (bl w),hcb.rel r (bl w)⟩,Sub.nil 7 T.int 1 rfl (by simp[cO,SV.sc,At.sc,cJ]) r fun ρ1 r1=>
   Sub.gen [] r1 ⟨rfl,rfl,trivial⟩ ⟨rfl,rfl,rfl,rfl,rfl,trivial⟩ (by simp[cY,cN.scopd,At.sc]) (by simp[cO,SV.sc,At.sc]) (by rfl) (fun lo hi h=>h)⟩
 clear hw hca hcb;rintro⟨i,w1,iv⟩ ⟨hi,hw,hca,hcb⟩;dsimp only at hi hw hca hcb ⊢;have l1:=bca.2.1;have l2:=bcb.2.1;conv=>whnf
 refine cW.mk (fun hib=>?_) (fun hib=>?_)
 ·have hib:i<max ca.length cb.length:=by
   have:=aG hib;omega
  conv=>whnf
  have q1:=bca.at i;have q2:=bcb.at i;refine bp (cE hw (Φ:=fun _ w' v w2=>v= .int .i64 (ca.getD i 0)) (fun ρ w' r=>FR (Rel.old r (bl w)) (hca.rel r (bl w))) ?_);rintro ρ wa3 v3 wb3 iv3 r he hw h_ rfl;replace hca:=hca.bq r (bl w) he (mC h_);replace hcb:=hcb.bq r (bl w) he (mC h_);clear r;conv=>whnf
  refine bp (cE hw (Φ:=fun _ w' v w2=>v= .int .i64 (cb.getD i 0)) (fun ρ w' r=>FR (Rel.old r (bl w)) (hcb.rel r (bl w))) ?_);rintro ρ wa4 v4 wb4 iv4 r he hw h_ rfl;replace hca:=hca.bq r (bl w) he (mC h_);replace hcb:=hcb.bq r (bl w) he (mC h_);clear r;conv=>whnf
  refine⟨ca.getD i 0+cb.getD i 0,by rw[wrap64]<;>omega,?_⟩;conv=>whnf
  refine .inl ?_;conv=>whnf
  refine⟨by simp,by omega,by unfold maxLen;omega,?_⟩;conv=>whnf
  refine⟨((i+1:Nat):Int),by rw[wrap64]<;>omega,?_⟩;conv=>whnf
  intro ρ3 w3 r3;have hm5:((List.range (i+1)).map fun j=>ca.getD j 0+cb.getD j 0).map (Value.int .i64)=((List.range i).map fun j=>ca.getD j 0+cb.getD j 0).map (Value.int .i64)++[.int .i64 (ca.getD i 0+cb.getD i 0)]:=by
   rw[bf,List.map_append,List.map_append];rfl
  exact⟨(i+1,w3,_),⟨hib,hw.tr r3.bs,hca.rel r3 (bl w),hcb.rel r3 (bl w)⟩,Sub.gen [(3,5)] r3 ⟨by dsimp only;rw[hm5];rfl,rfl,trivial⟩ ⟨rfl,rfl,rfl,rfl,rfl,trivial⟩ (by simp[cY,cN.scopd,At.sc]) (by simp[cO,SV.sc,At.sc]) (by rfl) (fun lo hi h=>h),by dsimp only;omega⟩
 have hib:i=max ca.length cb.length:=by
  have:=aF hib;omega
 clear hca hcb;conv=>whnf
 generalize hcs:((List.range i).map fun j=>ca.getD j 0+cb.getD j 0)=cs;have hz:cX cs=x+y:=by
  rw[<-hcs,uR,uS,mT ca i (by omega),mT cb i (by omega),bca.1,bcb.1]
 have hlen:i=cs.length:=by rw[<-hcs];simp
 have hbd:∀c∈cs,-1152921504606846976<=c∧c<=1152921504606846976:=fun c hc=>by
  rw[<-hcs]at hc;obtain⟨j,_,rfl⟩:=aS.1 hc;have:=bca.at j;have:=bcb.at j;omega
 refine bp (cE hw (Φ:=fun _ w' v w2=>cU w2 (Nw (fun _=>False) w' w2) v (x+y)) (fun ρ w' r=>kF r rfl hlen (by omega) hbd hz) ?_);rintro ρ wa3 v3 wb3 iv3 r he hw h_ hn;have hC:=hn.cQ (S:=fun _=>False) r.bm (mN h_);clear r;obtain⟨s3_0,s3_1,s3_2,s3_3,rfl⟩:=hC.shape;conv=>whnf
 intro ρe we re;exact⟨_,rfl,hw.tr re.bs,hC.out re (bl w)⟩
theorem yj{S:Nat->Prop}{w:World}{v u:Value}{k l:Nat}{x y:Int}(hS:Old S w)(hx:eN w S v k x)(hy:eN w S u l y)(hk:k<=10000000)(hl:l<=10000000):
  dQ PG N.u5 #[v,u] w (dU w fun v' w2=>cU w2 (Nw (fun _=>False) w w2) v' (x-y)):=by
 have hly:=hy.ln;have hw:cF w.heap.size w w:=cF.refl;replace hx:=hx.bz (S':=Cv S w.heap.size []) fun _ h=>.inl h;replace hy:=hy.bz (S':=Cv S w.heap.size []) fun _ h=>.inl h;obtain⟨b1,a1,n1,c1,rfl⟩:=hx.shape;obtain⟨b2,a2,n2,c2,rfl⟩:=hy.shape;refine wJ (by simp) ?_;conv=>whnf
 refine bw hτ dH [.x 0,.x 1,.x 2,.x 3,.x 4] (by kernel_rfl) (by kernel_rfl) ?_;conv=>whnf
 refine cE hw (Φ:=fun _ w' v w2=>cU w2 (Nw (fun _=>False) w' w2) v (-y)) (fun ρ w' r=>j4 (Rel.old r hS) (hy.rel r hS) (by omega)) ?_;rintro ρ wa1 v1 wb1 iv1 r he hw h_ hn;replace hx:=hx.bq r hS he (mC h_);clear hy;have hm:=hn.cQ (S:=fun _=>False) r.bm (mN h_);clear r;obtain⟨s1_0,s1_1,s1_2,s1_3,rfl⟩:=hm.shape;conv=>whnf
 refine cE hw (Φ:=fun _ w' v w2=>cU w2 (Nw (fun _=>False) w' w2) v (x-y)) (fun ρ w' r=>?_) ?_
 ·have h:=vZ (Rel.old r hS) (hx.rel r hS) (((hm.rel r (bl w)).l (k:=l) (by rw[bh];exact hly)).bz fun g hg=>Cv.false hg) hk hl;rw[<-Int.sub_eq_add_neg]at h;exact h
 rintro ρ wa2 v2 wb2 iv2 r he hw h_ hn;clear hx;clear hm;have hC:=hn.cQ (S:=fun _=>False) r.bm (mN h_);clear r;obtain⟨s2_0,s2_1,s2_2,s2_3,rfl⟩:=hC.shape;conv=>whnf
 intro ρe we re;exact⟨_,rfl,hw.tr re.bs,hC.out re (bl w)⟩
theorem Ch{S:Nat->Prop}{w:World}{v u:Value}{k l:Nat}{x y:Int}(hS:Old S w)(hx:eN w S v k x)(hy:eN w S u l y)(hk:k<=10000000)(hl:l<=10000000):
  dQ PG N.pr #[v,u] w (dU w fun v' _=>v'= .int .i64 (x-y).sign):=by
 have hw:cF w.heap.size w w:=cF.refl;replace hx:=hx.bz (S':=Cv S w.heap.size []) fun _ h=>.inl h;replace hy:=hy.bz (S':=Cv S w.heap.size []) fun _ h=>.inl h;obtain⟨b1,a1,n1,c1,rfl⟩:=hx.shape;obtain⟨b2,a2,n2,c2,rfl⟩:=hy.shape;refine sn (by simp) ?_;conv=>whnf
 refine bp (cE hw (Φ:=fun _ w' v w2=>cU w2 (Nw (fun _=>False) w' w2) v (x-y)) (fun ρ w' r=>yj (Rel.old r hS) (hx.rel r hS) (hy.rel r hS) hk hl) ?_);rintro ρ wa1 v1 wb1 iv1 r he hw h_ hn;clear hx;clear hy;have hd:=hn.cQ (S:=fun _=>False) r.bm (mN h_);clear r;obtain⟨s1_0,s1_1,s1_2,s1_3,rfl⟩:=hd.shape;conv=>whnf
 refine bp (cE hw (Φ:=fun _ w' v w2=>v= .int .i64 (x-y).sign) (fun ρ w' r=>fE (Rel.old r (bl w)) (hd.rel r (bl w)).r) ?_);rintro ρ wa2 v2 wb2 iv2 r he hw h_ rfl;clear hd;clear r;conv=>whnf
 intro ρe we re;exact⟨_,rfl,hw.tr re.bs,rfl⟩
end Go.Ex
namespace Go.Ex
open Go Go.Sx Go.Proofs
theorem Ci{x y:Int}(hx: -65535<=x∧x<=65535)(hy: -65535<=y∧y<=65535):(x*y).natAbs<=4294836225:=by
 rw[Int.natAbs_mul];exact Nat.mul_le_mul (show x.natAbs<=65535 by omega) (show y.natAbs<=65535 by omega)
theorem xf{a b:List Int}{i k:Nat}(hk:k<=i+1)(h:i<k∨a.length<=k):fk a b i k=ef a b i:=by
 rcases h with h|h
 ·rw[ef,show i+1=k by omega]
 ·obtain⟨m,hm⟩:∃m,i+1=k+m:=⟨i+1-k,by omega⟩
  rw[ef,hm,An a b i k m h]
theorem gH{S:Nat->Prop}{w:World}{v u:Value}{k l:Nat}{x y:Int}(hS:Old S w)(hx:eN w S v k x)(hy:eN w S u l y)(hk:k<=10000000)(hl:l<=10000000):
  dQ PG N.uZ #[v,u] w (dU w fun v' w2=>cU w2 (Nw (fun _=>False) w w2) v' (x*y)):=by
 have hw:cF w.heap.size w w:=cF.refl;replace hx:=hx.bz (S':=Cv S w.heap.size []) fun _ h=>.inl h;replace hy:=hy.bz (S':=Cv S w.heap.size []) fun _ h=>.inl h;obtain⟨b1,a1,n1,c1,rfl⟩:=hx.shape;obtain⟨b2,a2,n2,c2,rfl⟩:=hy.shape;refine wI (by simp) ?_;conv=>whnf
 refine bw hτ dH [.x 0,.x 2,.x 1,.x 3,.x 4,.x 5] (by kernel_rfl) (by kernel_rfl) ?_;conv=>whnf
 refine cE hw (Φ:=fun _ w' v w2=>∃cs,dJ w2 (Nw (fun _=>False) w' w2) v cs∧wV cs (2*k) (x)) (fun ρ w' r=>nY (Rel.old r hS) (hx.rel r hS) (by omega)) ?_;rintro ρ wa1 v1 wb1 iv1 r he hw h_ ⟨ca,k1,bca⟩;clear hx;replace hy:=hy.bq r hS he (mC h_);have hca:=k1.cQ (S:=fun _=>False) r.bm (mN h_);clear r;clear k1;obtain⟨aca,cca,rfl,lca⟩:=hca.shape;conv=>whnf
 refine cE hw (Φ:=fun _ w' v w2=>∃cs,dJ w2 (Nw (fun _=>False) w' w2) v cs∧wV cs (2*l) (y)) (fun ρ w' r=>nY (Rel.old r hS) (hy.rel r hS) (by omega)) ?_;rintro ρ wa2 v2 wb2 iv2 r he hw h_ ⟨cb,k1,bcb⟩;clear hy;replace hca:=hca.bq r (bl w) he (mC h_);have hcb:=k1.cQ (S:=fun _=>False) r.bm (mN h_);clear r;clear k1;obtain⟨acb,ccb,rfl,lcb⟩:=hcb.shape;conv=>whnf
 have l1:=bca.2.1;have l2:=bcb.2.1
 refine⟨Nat×World,fun z=>⟨[(4,.o (.p 2 0)),(5,.o (.v (.slice aca ca.length cca))),(6,.o (.v (.slice acb cb.length ccb))),(7,.o (.w 3 z.1)),(8,.o (.v (.int .i64 ((z.1:Nat):Int))))],[(3,.vec T.int 1 (((List.range z.1).map (ef ca cb)).map (Value.int .i64))),(2,.box T.Int [.v (.bool false),.v (.slice none 0 0)])],4,iv2,z.2⟩,fun z=>ca.length+cb.length-z.1,
  fun z=>(z.1+1<=ca.length+cb.length∨z.1=0)∧cF w.heap.size w z.2∧dJ z.2 (Cv (fun _=>False) w.heap.size iv2) (.slice aca ca.length cca) ca∧dJ z.2 (Cv (fun _=>False) w.heap.size iv2) (.slice acb cb.length ccb) cb,?_,?_⟩
 ·intro ρ w' r
  exact⟨(0,w'),⟨by simp,hw.tr r.bs,hca.rel r (bl w),hcb.rel r (bl w)⟩,Sub.nil 7 T.int 1 rfl (by simp[cO,SV.sc,At.sc,cJ]) r fun ρ1 r1=>
   Sub.gen [] r1 ⟨rfl,rfl,trivial⟩ ⟨rfl,rfl,rfl,rfl,rfl,trivial⟩ (by simp[cY,cN.scopd,At.sc]) (by simp[cO,SV.sc,At.sc]) (by rfl) (fun lo hi h=>h)⟩
 clear hw hca hcb;rintro⟨i,w1⟩ ⟨hi,hw,hca,hcb⟩;dsimp only at hi hw hca hcb ⊢;conv=>whnf
 refine⟨((i+1:Nat):Int),by rw[wrap64]<;>omega,?_⟩;conv=>whnf
 refine⟨((ca.length+cb.length:Nat):Int),by rw[wrap64]<;>omega,?_⟩;conv=>whnf
 refine cW.mk (fun hib=>?_) (fun hib=>?_)
 ·have hib:i+1<ca.length+cb.length:=by
   have:=aG hib;omega
  conv=>whnf
  refine⟨(i:Int)-cb.length,by rw[wrap64]<;>omega,?_⟩;conv=>whnf
  refine⟨(i:Int)-cb.length+1,by rw[wrap64]<;>omega,?_⟩;conv=>whnf
  rw[show max 0 ((i:Int)-cb.length+1)=((i+1-cb.length:Nat):Int) by omega];obtain⟨k0,hk0⟩:∃k0,k0=i+1-cb.length:=⟨_,rfl⟩
  rw[<-hk0]
  refine⟨Nat×World,fun z=>⟨[(4,.o (.p 2 0)),(5,.o (.v (.slice aca ca.length cca))),(6,.o (.v (.slice acb cb.length ccb))),(7,.o (.w 3 i)),(8,.o (.v (.int .i64 ((i:Nat):Int)))),(9,.o (.v (.int .i64 (fk ca cb i z.1)))),(10,.o (.v (.int .i64 ((z.1:Nat):Int))))],[(3,.vec T.int 1 (((List.range i).map (ef ca cb)).map (Value.int .i64))),(2,.box T.Int [.v (.bool false),.v (.slice none 0 0)])],4,iv2,z.2⟩,fun z=>i+1-z.1,
   fun z=>k0<=z.1∧z.1<=i+1∧cF w.heap.size w z.2∧dJ z.2 (Cv (fun _=>False) w.heap.size iv2) (.slice aca ca.length cca) ca∧dJ z.2 (Cv (fun _=>False) w.heap.size iv2) (.slice acb cb.length ccb) cb,?_,?_⟩
  ·intro ρ w' r;refine⟨(k0,w'),⟨by simp,by dsimp only;omega,hw.tr r.bs,hca.rel r (bl w),hcb.rel r (bl w)⟩,Sub.gen [] r ⟨rfl,rfl,trivial⟩ ⟨rfl,rfl,rfl,rfl,rfl,?_,rfl,trivial⟩ (by simp[cY,cN.scopd,At.sc]) (by simp[cO,SV.sc,At.sc]) (by rfl) (fun lo hi h=>h)⟩;dsimp only
   rw[Am ca cb i k0 k0 (fun j hj=>by omega) (by omega) (aI _)];rfl
  clear hw hca hcb;rintro⟨j,w2⟩ ⟨hj0,hj1,hw,hca,hcb⟩;dsimp only at hj0 hj1 hw hca hcb ⊢;conv=>whnf
  refine cW.mk (fun hji=>?_) (fun hji=>?_)
  ·have hji:j<=i:=by
    have:=aG hji;omega
   conv=>whnf
   refine cW.mk (fun hja=>?_) (fun hja=>?_)
   ·have hja:j<ca.length:=by
     have:=aG hja;omega
    obtain⟨p,hp⟩:∃p,ca[j]? =some p:=⟨_,aA hja⟩
    obtain⟨q,hq⟩:∃q,cb[i-j]? =some q:=⟨_,aA (by omega)⟩
    obtain⟨ad,rfl,q1,q2⟩:=hca.load hp;obtain⟨ad2,rfl,q3,q4⟩:=hcb.load hq;have e1:ca.getD j 0=p:=by rw[List.getD,hp];rfl
    have e2:cb.getD (i-j) 0=q:=by rw[List.getD,hq];rfl
    have e3:fk ca cb i (j+1)=fk ca cb i j+p*q:=by rw[fk,e1,aQ hji,e2]
    have m1:=bca.at j;have m2:=bcb.at (i-j);rw[e1]at m1;rw[e2]at m2;have m3:=Ci m1 m2;have m4:=je (a:=ca) (b:=cb) (i:=i) bca.2.2.1 bcb.2.2.1 j;conv=>whnf
    refine bw hτ dH [.x 0,.x 1,.x 2,.x 3,.x 4,.x 5,.x 6,.x 7,.x 8,.x 9,.x 10,.x 11,.x 12,.x 13] (by kernel_rfl) (by kernel_rfl) ?_;conv=>whnf
    refine⟨ad,rfl,⟨by omega,by omega⟩,?_⟩;conv=>whnf
    refine⟨.int .i64 p,fun ρ w' r=>?_,?_⟩
    ·rw[aB,bo (w:=w2) (w2:=w') (by rw[cC];exact Rel.same (S:=fun _=>False) r (bl w) q1)];exact q2
    conv=>whnf
    refine⟨((i-j:Nat):Int),by rw[wrap64]<;>omega,?_⟩;conv=>whnf
    refine⟨ad2,rfl,⟨by omega,by omega⟩,?_⟩;conv=>whnf
    refine⟨.int .i64 q,fun ρ w' r=>?_,?_⟩
    ·rw[aB,bo (w:=w2) (w2:=w') (by rw[cC];exact Rel.same (S:=fun _=>False) r (bl w) q3)];exact q4
    conv=>whnf
    refine⟨p*q,by rw[wrap64]<;>omega,?_⟩;conv=>whnf
    refine⟨fk ca cb i (j+1),by rw[e3,wrap64]<;>omega,?_⟩;conv=>whnf
    refine⟨((j+1:Nat):Int),by rw[wrap64]<;>omega,?_⟩;conv=>whnf
    intro ρ3 w3 r3;exact⟨(j+1,w3),⟨by dsimp only;omega,by dsimp only;omega,hw.tr r3.bs,hca.rel r3 (bl w),hcb.rel r3 (bl w)⟩,Sub.gen [] r3 ⟨rfl,rfl,trivial⟩ ⟨rfl,rfl,rfl,rfl,rfl,rfl,rfl,trivial⟩ (by simp[cY,cN.scopd,At.sc]) (by simp[cO,SV.sc,At.sc]) (by rfl) (fun lo hi h=>h),by dsimp only;omega⟩
   have hja:ca.length<=j:=by
    have:=aF hja;omega
   rw[xf hj1 (.inr hja)];have m4:=je (a:=ca) (b:=cb) (i:=i) bca.2.2.1 bcb.2.2.1 (i+1);conv=>whnf
   refine .inl ?_;conv=>whnf
   refine⟨by simp,by omega,by unfold maxLen;omega,?_⟩;conv=>whnf
   refine⟨((i+1:Nat):Int),by rw[wrap64]<;>omega,?_⟩;conv=>whnf
   intro ρ3 w3 r3;have hm5:((List.range (i+1)).map (ef ca cb)).map (Value.int .i64)=((List.range i).map (ef ca cb)).map (Value.int .i64)++[.int .i64 (ef ca cb i)]:=by
    rw[bf,List.map_append,List.map_append];rfl
   exact⟨(i+1,w3),⟨.inl hib,hw.tr r3.bs,hca.rel r3 (bl w),hcb.rel r3 (bl w)⟩,Sub.gen [(3,5)] r3 ⟨by dsimp only;rw[hm5];rfl,rfl,trivial⟩ ⟨rfl,rfl,rfl,rfl,rfl,trivial⟩ (by simp[cY,cN.scopd,At.sc]) (by simp[cO,SV.sc,At.sc]) (by rfl) (fun lo hi h=>h),by dsimp only;omega⟩
  have hji:i<j:=by
   have:=aF hji;omega
  rw[xf hj1 (.inl hji)];have m4:=je (a:=ca) (b:=cb) (i:=i) bca.2.2.1 bcb.2.2.1 (i+1);conv=>whnf
  refine .inl ?_;conv=>whnf
  refine⟨by simp,by omega,by unfold maxLen;omega,?_⟩;conv=>whnf
  refine⟨((i+1:Nat):Int),by rw[wrap64]<;>omega,?_⟩;conv=>whnf
  intro ρ3 w3 r3;have hm5:((List.range (i+1)).map (ef ca cb)).map (Value.int .i64)=((List.range i).map (ef ca cb)).map (Value.int .i64)++[.int .i64 (ef ca cb i)]:=by
   rw[bf,List.map_append,List.map_append];rfl
  exact⟨(i+1,w3),⟨.inl hib,hw.tr r3.bs,hca.rel r3 (bl w),hcb.rel r3 (bl w)⟩,Sub.gen [(3,5)] r3 ⟨by dsimp only;rw[hm5];rfl,rfl,trivial⟩ ⟨rfl,rfl,rfl,rfl,rfl,trivial⟩ (by simp[cY,cN.scopd,At.sc]) (by simp[cO,SV.sc,At.sc]) (by rfl) (fun lo hi h=>h),by dsimp only;omega⟩
 have hib:ca.length+cb.length<=i+1:=by
  have:=aF hib;omega
 clear hca hcb;conv=>whnf
 generalize hcs:((List.range i).map (ef ca cb))=cs;have hz:cX cs=x*y:=by
  rw[<-hcs,uR,DS ca cb i hib,bca.1,bcb.1]
 have hlen:i=cs.length:=by rw[<-hcs];simp
 have hbd:∀c∈cs,-1152921504606846976<=c∧c<=1152921504606846976:=fun c hc=>by
  rw[<-hcs]at hc;obtain⟨j,hj,rfl⟩:=aS.1 hc;have hj:=List.mem_range.1 hj;have:=je (a:=ca) (b:=cb) (i:=j) bca.2.2.1 bcb.2.2.1 (j+1);rw[ef];omega
 refine bp (cE hw (Φ:=fun _ w' v w2=>cU w2 (Nw (fun _=>False) w' w2) v (x*y)) (fun ρ w' r=>kF r rfl hlen (by omega) hbd hz) ?_);rintro ρ wa3 v3 wb3 iv3 r he hw h_ hn;have hC:=hn.cQ (S:=fun _=>False) r.bm (mN h_);clear r;obtain⟨s3_0,s3_1,s3_2,s3_3,rfl⟩:=hC.shape;conv=>whnf
 intro ρe we re;exact⟨_,rfl,hw.tr re.bs,hC.out re (bl w)⟩
end Go.Ex
namespace Go.Ex
theorem CJ{b r r2 q X n c:Int}(h:X=b*q+r)(hr:r*65536+c=b*n+r2):c+65536*X=b*(n+65536*q)+r2:=by
 rw[h,Int.mul_add,Int.mul_add,Int.mul_left_comm b 65536 q];omega
theorem DH{x y Q R:Int}(hy:y≠0)(h:(x.natAbs:Int)=(y.natAbs:Int)*Q+R)(h0:0<=R)(h1:R<(y.natAbs:Int)):
  (if x<0∧0<R then(if (x<0)↔(y<0)then(Q+1)else -(Q+1))else(if (x<0)↔(y<0)then Q else -Q))=x / y∧(if x<0∧0<R then(y.natAbs:Int)-R else R)=x % y:=by
 have key:∀q r:Int,r+y*q=x->0<=r->r<(y.natAbs:Int)->q=x / y∧r=x % y:=by
  intro q r e1 e2 e3;have m:x % y=r:=by
   rw[<-e1,Int.add_mul_emod_self_left];rcases Int.lt_or_lt_of_ne hy with h|h
   ·rw[<-Int.emod_neg,Int.emod_eq_of_lt e2 (by omega)]
   ·exact Int.emod_eq_of_lt e2 (by omega)
  have d:=Int.mul_ediv_add_emod x y;rw[m]at d;exact⟨(Int.eq_of_mul_eq_mul_left hy (by omega)),m.symm⟩
 by_cases hx:x<0
 ·have ex:(x.natAbs:Int)= -x:=by omega
  by_cases hy':y<0
  ·have ey:(y.natAbs:Int)= -y:=by omega
   rw[ex,ey,Int.neg_mul]at h;by_cases hR:0<R
   ·rw[aQ (show x<0∧0<R from⟨hx,hR⟩),aQ (show x<0∧0<R from⟨hx,hR⟩),aQ (show (x<0)↔(y<0) by simp[hx,hy'])];exact key _ _ (by rw[Int.mul_add,Int.mul_one];omega) (by omega) (by omega)
   ·rw[aL (show ¬(x<0∧0<R) by omega),aL (show ¬(x<0∧0<R) by omega),aQ (show (x<0)↔(y<0) by simp[hx,hy'])];exact key _ _ (by omega) h0 h1
  ·have ey:(y.natAbs:Int)=y:=by omega
   rw[ex,ey]at h;have hn:¬((x<0)↔(y<0)):=by simp[hx,hy']
   by_cases hR:0<R
   ·rw[aQ (show x<0∧0<R from⟨hx,hR⟩),aQ (show x<0∧0<R from⟨hx,hR⟩),aL hn];exact key _ _ (by rw[Int.mul_neg,Int.mul_add,Int.mul_one];omega) (by omega) (by omega)
   ·rw[aL (show ¬(x<0∧0<R) by omega),aL (show ¬(x<0∧0<R) by omega),aL hn];exact key _ _ (by rw[Int.mul_neg];omega) h0 h1
 ·have ex:(x.natAbs:Int)=x:=by omega
  rw[aL (show ¬(x<0∧0<R) by omega),aL (show ¬(x<0∧0<R) by omega)];by_cases hy':y<0
  ·have ey:(y.natAbs:Int)= -y:=by omega
   rw[ex,ey,Int.neg_mul]at h;rw[aL (show ¬((x<0)↔(y<0)) by simp[hx,hy'])];exact key _ _ (by rw[Int.mul_neg];omega) h0 h1
  ·have ey:(y.natAbs:Int)=y:=by omega
   rw[ex,ey]at h;rw[aQ (show (x<0)↔(y<0) by simp[hx,hy'])];exact key _ _ (by omega) h0 h1
theorem ee(z:Int):(z<0∧z.sign= -1)∨(z=0∧z.sign=0)∨(0<z∧z.sign=1):=by
 rcases Int.lt_trichotomy z 0 with h|h|h
 ·exact .inl ⟨h,bV h⟩
 ·exact .inr (.inl ⟨h,by rw[h];rfl⟩)
 ·exact .inr (.inr ⟨h,bW h⟩)
end Go.Ex
