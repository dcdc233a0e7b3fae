/- Texts X48 to L11: lemmas, each with its conditions. -/
import Derived.Test.YtgkpbdkechfgmaaGreatP5
namespace Go.Ex
open Go Go.Sx Go.Proofs
variable{z:Int}{ls:List Nat}{i:Nat}{S:Nat->Prop}{O:Nat->Sx.dx}{a a2:Option Addr}{q:Rat}{u:Value}{w:World}
theorem aAM(n:Int):dS [n.tmod 65536,(n.tdiv 65536).tmod 65536,(n.tdiv 65536).tdiv 65536]=n:=by
 simp only[dS]
 have h1:=Int.mul_tdiv_add_tmod n 65536;have h2:=Int.mul_tdiv_add_tmod (n.tdiv 65536) 65536;omega
theorem kj(n:Int)(w:World)(h1: -9223372036854775808<=n)(h2:n<=9223372036854775807):
  eA PG N.FI #[.int .i64 n] w (eF w fun v w2=>dL w2 (Nf w w2) v n):=by
 refine FK (by simp) ?_;have b1:=wL n;have b2:=wL (n.tdiv 65536);have e1:=Int.mul_tdiv_add_tmod n 65536;have e2:=Int.mul_tdiv_add_tmod (n.tdiv 65536) 65536;have hsum:=aAM n;refine⟨by decide,n.tmod 65536,rfl,by decide,n.tdiv 65536,wo,by decide,_,rfl,by decide,n.tdiv 65536,wo,by decide,(n.tdiv 65536).tdiv 65536,wo,?_⟩;generalize n.tmod 65536=c0 at*
 generalize (n.tdiv 65536).tmod 65536=c1 at*
 generalize (n.tdiv 65536).tdiv 65536=c2 at*
 refine cF (cO (Φ:=fun _ w' v w2=>dL w2 (Nf w' w2) v n) (fun O w' r=>?_) ?_)
 ·rw[<-hsum];have ha:=r.qU (id:=1) (sz:=1) (n:=3) rfl rfl (by decide) (by intro u hu;simp at hu;rcases hu with rfl|rfl|rfl<;>rfl)
  exact wM (S:=fun g=>g=(O 1).g) (fun g hg=>by rw[hg];exact(r.low 1 _ rfl (r.nn 1 _ rfl (by intros;simp) (by simp))).2) (cs:=[c0,c1,c2]) ha (by
   intro c hc;simp at hc
   rcases hc with rfl|rfl|rfl<;>omega) (by simp)
 rintro O wa v1 wb r he hb hI;have hI:=hI.dB (S:=FF) r.cD (iv:=(wa.heap.size,wb.heap.size)::[]) aG;generalize (wa.heap.size,wb.heap.size)::[]=iv at*
 obtain⟨b,a,m,c,rfl⟩:=hI.shape;intro ρe we re;exact⟨_,rfl,hb.tr re.cQ,hI.out re (cC w)⟩
def jk(z:Int):Value:=if z.natAbs<1073741824 then .tuple #[.int .i64 z,.bool true]else .tuple #[.int .i64 0,.bool false]
theorem j9.GA{v:Value}(h:j9 w S v z):∃b a ls c,v= .agg #[.bool b,.slice a ls.length c]∧dQ w S (.slice a ls.length c) ls∧sg b (val ls)=z:=by
 obtain⟨b,ls,⟨lv,h1,h2⟩,h3⟩:=h;obtain⟨a,c,rfl,_⟩:=h2.sl;exact⟨b,a,ls,c,h1,h2,h3⟩
theorem NA{x:Nat}(h:ls[i]? =some x):wt i*x<=val ls:=by
 have hi:=(aD.1 h).1;have h1:=ef ls (i+1) hi;rw[dq h]at h1;omega
theorem aAg(h:0<i):4294967296<=wt i:=by
 obtain⟨k,rfl⟩:∃k,i=k+1:=⟨i-1,by omega⟩
 have:=yp k;rw[iw];omega
theorem nd{v:Value}(hS:Old S w)(hI:j9 w S v z):
  eA PG N.xP #[v] w (eF w fun v' _=>v'=jk z):=by
 obtain⟨b,a,ls,c,rfl,hL,hz⟩:=hI.GA;refine AX (by simp) ?_;have hlen:=hL.le
 refine⟨Nat×World,fun y=>⟨[(1,pP 0 0),(4,.o (.v (.int .i64 (val (ls.take y.1))))),(5,iZ y.1)],[(0,.box T.Int [.v (.bool b),.v (.slice a ls.length c)])],1,[],y.2⟩,fun y=>ls.length-y.1,
  fun y=>y.1<=ls.length∧eE w.heap.size w y.2∧val (ls.take y.1)<1073741824∧(∀j,0<j->j<y.1->ls[j]? =some 0),?_,?_⟩
 ·intro O w' r;exact⟨(0,w'),⟨by simp,r.cQ,by simp[val],by omega⟩,Sub.gn [] r⟩
 rintro⟨i,w1⟩ ⟨hi,hw,hv,h0⟩;dsimp only at hi hw hv h0 ⊢;refine dK.mk ?_ ?_<;>intro OC
 ·have OC:i<ls.length:=by simpa using OC
  obtain⟨a',c',e,_,Ov⟩:=hL.sl;injection e with e1 e2 e3;subst e1 e3;obtain⟨x,hx⟩:∃x,ls[i]? =some x:=⟨_,aB OC⟩
  have Ps:=hL.lm x (aC hx);obtain⟨ad,rfl,q1,q2⟩:=Ov i x hx;have PE:∀{H nx iv O w'},Rel H nx iv w.heap.size w1 O w'->w'.cell? (ad.add ((i:Int).toNat*1))=some (.int .u32 x):=fun r=>by
   rw[aE,aT];exact kV hS hw r q1 q2
  have hge:=NA hx;refine dK.mk ?_ ?_<;>intro hp
  ·have hp:0<i:=by
    have:(i:Int)>0:=aI hp;omega
   have hw1:=aAg hp;refine⟨ad,rfl,by omega,.int .u32 x,fun O w' r=>PE r,?_⟩;refine dK.mk ?_ ?_<;>intro OD
   ·have OD:x≠0:=by simpa using OD
    intro ρe we re;refine⟨_,rfl,hw.tr re.cQ,?_⟩;have:¬z.natAbs<1073741824:=by
     have:=Nat.mul_le_mul hw1 (show 1<=x by omega);rw[<-hz,so];omega
    show _=jk z;rw[jk,aJ this];rfl
   ·have OD:x=0:=by simpa using OD
    subst OD;refine⟨ad,rfl,by omega,.int .u32 0,fun O w' r=>PE r,?_⟩;have QR:val (ls.take (i+1))=val (ls.take i):=by rw[dq hx];omega
    have RK:val (ls.take (i+1))<1073741824:=by rw[QR];exact hv
    have h02:∀j,0<j->j<i+1->ls[j]? =some 0:=fun j h1 h2=>by
     rcases aP j i with h3|h3
     ·exact h0 j h1 h3
     ·have:j=i:=by omega
      rw[this];exact hx
    refine⟨ad,rfl,by omega,.int .u32 0,fun O w' r=>PE r,((0:Nat):Int),by decide,((val (ls.take (i+1)):Nat):Int),by rw[QR,wrap64]<;>omega,((i+1:Nat):Int),wo,?_⟩;intro ρ3 w3 r3;exact⟨(i+1,w3),⟨OC,hw.tr r3.cQ,RK,h02⟩,Sub.gn [] r3,by dsimp only;omega⟩
  ·have hp:i=0:=by
    have:¬((i:Int)>0):=aH hp;omega
   subst hp;refine⟨ad,rfl,by omega,.int .u32 x,fun O w' r=>PE r,?_⟩;refine dK.mk ?_ ?_<;>intro VZ
   ·have VZ:=aI VZ;intro ρe we re;refine⟨_,rfl,hw.tr re.cQ,?_⟩;have:¬z.natAbs<1073741824:=by
     rw[<-hz,so];rw[jR]at hge;omega
    show _=jk z;rw[jk,aJ this];rfl
   ·have VZ:=aH VZ;have QR:val (ls.take (0+1))=x:=by rw[dq hx];simp[val,jR]
    have RK:val (ls.take (0+1))<1073741824:=by rw[QR];omega
    have h02:∀j,0<j->j<0+1->ls[j]? =some 0:=fun j h1 h2=>by
     omega
    refine⟨ad,rfl,by omega,.int .u32 x,fun O w' r=>PE r,((x:Nat):Int),wo,((val (ls.take (0+1)):Nat):Int),by rw[QR,wrap64]<;>simp[val]<;>omega,((0+1:Nat):Int),wo,?_⟩;intro ρ3 w3 r3;exact⟨(0+1,w3),⟨OC,hw.tr r3.cQ,RK,h02⟩,Sub.gn [] r3,by dsimp only;omega⟩
 ·have OC:i=ls.length:=by
   have:¬i<ls.length:=by simpa using OC
   omega
  subst OC;rw[bD]at hv ⊢;have OU:z.natAbs<1073741824:=by rw[<-hz,so];exact hv
  cases b with
  |true=>
   refine⟨-(val ls:Int),wo,?_⟩;intro ρe we re;refine⟨_,rfl,hw.tr re.cQ,?_⟩;show _=jk z;rw[jk,if_pos OU,<-hz,LP];rfl
  |false=>
   intro ρe we re;refine⟨_,rfl,hw.tr re.cQ,?_⟩;show _=jk z;rw[jk,if_pos OU,<-hz,aAE];rfl
theorem Cc{a b:Int}(hb:b≠0):a.tdiv (b.sign*(Nat.gcd a.natAbs b.natAbs:Nat))=(Rat.divInt a b).num∧b.tdiv (b.sign*(Nat.gcd a.natAbs b.natAbs:Nat))=((Rat.divInt a b).den:Int):=by
 have hg:0<Nat.gcd a.natAbs b.natAbs:=bl _ (by omega);obtain⟨k,hk⟩:((Nat.gcd a.natAbs b.natAbs:Nat):Int) ∣ a:=by rw[<-Int.natAbs_dvd_natAbs];exact Nat.gcd_dvd_left _ _
 obtain⟨l,hl⟩:((Nat.gcd a.natAbs b.natAbs:Nat):Int) ∣ b:=by rw[<-Int.natAbs_dvd_natAbs];exact Nat.gcd_dvd_right _ _
 have hc:(b.gcd a:Int)=(Nat.gcd a.natAbs b.natAbs:Nat):=by rw[Int.gcd_comm];rfl
 have Vw:b.gcd a=Nat.gcd a.natAbs b.natAbs:=by rw[Int.gcd_comm];rfl
 rw[Rat.num_divInt,Rat.den_divInt,aJ hb,hc,Vw];generalize Nat.gcd a.natAbs b.natAbs=g at*
 have hgi:(g:Int)≠0:=by omega
 have hs:b.sign*b.sign=1:=by
  rcases Int.lt_or_gt_of_ne hb with h|h
  ·rw[bf h];rfl
  ·rw[bj h];rfl
 have Uo:b.sign≠0:=fun e=>by rw[e]at hs;simp at hs
 have OD:b.sign*g≠0:=Int.mul_ne_zero Uo hgi;have Pf:((b.natAbs / g:Nat):Int)=b.sign*l:=by
  rw[Int.natCast_ediv,show((b.natAbs:Nat):Int)=b.sign*b by
   rcases Int.lt_or_gt_of_ne hb with h|h
   ·rw[bf h];omega
   ·rw[bj h];omega]
  conv=>lhs;lhs;rhs;rw[hl]
  rw[show b.sign*(↑g*l)= ↑g*(b.sign*l) by rw[<-Int.mul_assoc,<-Int.mul_assoc,Int.mul_comm b.sign]];exact Int.mul_ediv_cancel_left _ hgi
 constructor
 ·rw[show b.sign*a / (g:Int)=b.sign*k by
   conv=>lhs;lhs;rhs;rw[hk]
   rw[show b.sign*(↑g*k)= ↑g*(b.sign*k) by rw[<-Int.mul_assoc,<-Int.mul_assoc,Int.mul_comm b.sign]]
   exact Int.mul_ediv_cancel_left _ hgi]
  conv=>lhs;lhs;rw[hk,show(g:Int)*k=(b.sign*g)*(b.sign*k) by
   rw[show (b.sign* ↑g)*(b.sign*k)=(b.sign*b.sign)*(↑g*k) by simp only[Int.mul_assoc,Int.mul_comm,Int.mul_left_comm],hs,Int.one_mul]]
  exact Int.mul_tdiv_cancel_left _ OD
 ·rw[Pf]
  conv=>lhs;lhs;rw[hl,show(g:Int)*l=(b.sign*g)*(b.sign*l) by
   rw[show (b.sign* ↑g)*(b.sign*l)=(b.sign*b.sign)*(↑g*l) by simp only[Int.mul_assoc,Int.mul_comm,Int.mul_left_comm],hs,Int.one_mul]]
  exact Int.mul_tdiv_cancel_left _ OD
theorem rC(a b:Int)(w:World)(ha:a.natAbs<4611686018427387904)(hb:b.natAbs<4611686018427387904)(UI:b≠0):
  eA PG N.tv #[.int .i64 a,.int .i64 b] w (eF w fun v w2=>cT w2 (Nf w w2) v (Rat.divInt a b)):=by
 refine xl (by simp) ?_;refine⟨-a,wo,-b,wo,?_⟩;conv=>whnf
 rw[show max a (-a)=(a.natAbs:Int) by omega,show max b (-b)=(b.natAbs:Int) by omega]
 refine⟨Nat×Nat×World,fun z=>⟨[(0,iZ a),(1,iZ b),(4,pP 0 0),(5,iZ z.1),(6,iZ z.2.1)],[(0,.box T.Rat [.v (.bool false),.v (.slice none 0 0),.v (.bool false),.v (.slice none 0 0)])],1,[],z.2.2⟩,fun z=>z.2.1,
  fun z=>eE w.heap.size w z.2.2∧Nat.gcd z.1 z.2.1=Nat.gcd a.natAbs b.natAbs∧z.1<4611686018427387904∧z.2.1<4611686018427387904,?_,?_⟩
 ·intro O w' r;exact⟨(a.natAbs,b.natAbs,w'),⟨r.cQ,rfl,ha,hb⟩,Sub.gn [] r⟩
 rintro⟨x,y,w1⟩ ⟨hw,hg,hx,hy⟩;dsimp only at hw hg hx hy ⊢;conv=>whnf
 refine dK.mk ?_ ?_<;>intro h
 ·have h:0<y:=by
   have:(y:Int)>0:=aI h;omega
  refine cM hτ df [.x 0,.x 1,.x 2,.x 3,.x 4,.x 5] (by kernel_rfl) (by kernel_rfl) ?_;have hm:=bu x h;refine⟨by omega,((x % y:Nat):Int),rfl,?_⟩;intro ρ3 w3 r3;exact⟨(y,x % y,w3),⟨hw.tr r3.cQ,by dsimp only;rw[<-hg,Nat.gcd_comm x y,Nat.gcd_rec y x,Nat.gcd_comm],hy,by dsimp only;omega⟩,Sub.gn [] r3,by dsimp only;omega⟩
 have h:y=0:=by
  have:¬(y:Int)>0:=aH h;omega
 subst h;rw[Nat.gcd_zero_right]at hg;have Qi:x≠0:=by rw[hg];exact Nat.pos_iff_ne_zero.1 (bl _ (by omega))
 obtain⟨hn,hd⟩:=Cc (a:=a) UI;rw[<-hg]at hn hd;have bn:(Rat.divInt a b).num.natAbs<=a.natAbs:=by rw[<-hn];exact Int.natAbs_tdiv_le_natAbs _ _
 have bd:((Rat.divInt a b).den:Int).natAbs<=b.natAbs:=by rw[<-hd];exact Int.natAbs_tdiv_le_natAbs _ _
 refine dK.mk ?_ ?_<;>intro Oe
 ·have Oe:=aI Oe;rw[bf Oe,Int.neg_one_mul]at hn hd;refine⟨-(x:Int),wo,?_⟩;refine cM hτ df [.x 0,.x 1,.x 2,.x 4,.x 5,.x 6,.x 3,.x 7,.x 8,.x 9] (by kernel_rfl) (by kernel_rfl) ?_;refine⟨by omega,(Rat.divInt a b).num,by rw[hn,wrap64]<;>omega,by omega,((Rat.divInt a b).den:Int),by rw[hd,wrap64]<;>omega,?_⟩;refine cO (Φ:=fun _ w' v w2=>dL w2 (Nf w' w2) v (Rat.divInt a b).num) (fun O w' r=>kj _ w' (by omega) (by omega)) ?_;rintro O wa v1 wb r he OQ hI;replace hw:=hw.tr OQ;have hN:=hI.dB (S:=FF) r.cD (iv:=(wa.heap.size,wb.heap.size)::[]) aG;generalize (wa.heap.size,wb.heap.size)::[]=iv at*
  obtain⟨b1,a1,m1,c1,rfl⟩:=hN.shape;refine cO (Φ:=fun _ w' v w2=>dL w2 (Nf w' w2) v ((Rat.divInt a b).den:Int)) (fun O w' r=>kj _ w' (by omega) (by omega)) ?_;rintro O wa v1 PJ r he OQ hI;replace hw:=hw.tr OQ;replace hN:=hN.cG (iv':=(wa.heap.size,PJ.heap.size)::iv) r (cC w) he fun x hx=>List.mem_cons_of_mem _ hx;have hD:=hI.dB (S:=FF) r.cD (iv:=(wa.heap.size,PJ.heap.size)::iv) aG;generalize (wa.heap.size,PJ.heap.size)::iv=OG at*
  obtain⟨b2,a2,m2,c2,rfl⟩:=hD.shape;exact rtn hw fun ρe we re=>(cT.of hN hD).out re (cC w)
 ·have Oe:=aH Oe;rw[bj (by omega),Int.one_mul]at hn hd;refine cM hτ df [.x 0,.x 1,.x 2,.x 4,.x 5,.x 6,.x 3,.x 7,.x 8,.x 9] (by kernel_rfl) (by kernel_rfl) ?_;refine⟨by omega,(Rat.divInt a b).num,by rw[hn,wrap64]<;>omega,by omega,((Rat.divInt a b).den:Int),by rw[hd,wrap64]<;>omega,?_⟩;refine cO (Φ:=fun _ w' v w2=>dL w2 (Nf w' w2) v (Rat.divInt a b).num) (fun O w' r=>kj _ w' (by omega) (by omega)) ?_;rintro O wa v1 wb r he OQ hI;replace hw:=hw.tr OQ;have hN:=hI.dB (S:=FF) r.cD (iv:=(wa.heap.size,wb.heap.size)::[]) aG;generalize (wa.heap.size,wb.heap.size)::[]=iv at*
  obtain⟨b1,a1,m1,c1,rfl⟩:=hN.shape;refine cO (Φ:=fun _ w' v w2=>dL w2 (Nf w' w2) v ((Rat.divInt a b).den:Int)) (fun O w' r=>kj _ w' (by omega) (by omega)) ?_;rintro O wa v1 PJ r he OQ hI;replace hw:=hw.tr OQ;replace hN:=hN.cG (iv':=(wa.heap.size,PJ.heap.size)::iv) r (cC w) he fun x hx=>List.mem_cons_of_mem _ hx;have hD:=hI.dB (S:=FF) r.cD (iv:=(wa.heap.size,PJ.heap.size)::iv) aG;generalize (wa.heap.size,PJ.heap.size)::iv=OG at*
  obtain⟨b2,a2,m2,c2,rfl⟩:=hD.shape;exact rtn hw fun ρe we re=>(cT.of hN hD).out re (cC w)
theorem ub(h:z.natAbs<1073741824):jk z= .tuple #[.int .i64 z,.bool true]:=if_pos h
theorem Dv{v:Value}{x y:Int}(hS:Old S w)(hx:j9 w S v x)(hy:j9 w S u y)(hxs:x.natAbs<1073741824)(hys:y.natAbs<1073741824)(Pe:y≠0):
  eA PG N.s3 #[v,u] w (eF w fun v' w2=>cT w2 (Nf w w2) v' (Rat.divInt x y)):=by
 have hw:=bR w;replace hx:=hx.cK (S':=Cv S w.heap.size []) fun _ h=>.inl h;replace hy:=hy.cK (S':=Cv S w.heap.size []) fun _ h=>.inl h;obtain⟨bx,ax,lx,cx,rfl⟩:=hx.shape;obtain⟨b2,ay,ly,cy,rfl⟩:=hy.shape;refine rk (by simp) ?_;refine cF (cE hw (fun _ w' v w2=>v= .tuple #[.int .i64 x,.bool true]) (fun O w' r=>(nd (Rel.old r hS) (hx.rel r hS)).mono fun e w2 ⟨v2,e1,e2,e3⟩=>⟨v2,e1,e2,by rw[e3,ub hxs]⟩) ?_);rintro O Pg v1 PS OJ r he hw h_ rfl;replace hx:=hx.cG r hS he (mC h_);replace hy:=hy.cG r hS he (mC h_);refine cF (cE hw (fun _ w' v w2=>v= .tuple #[.int .i64 y,.bool true]) (fun O w' r=>(nd (Rel.old r hS) (hy.rel r hS)).mono fun e w2 ⟨v2,e1,e2,e3⟩=>⟨v2,e1,e2,by rw[e3,ub hys]⟩) ?_);rintro O _ v1 _ OG r he hw h_ rfl;refine cF (cE hw (fun _ w' v w2=>cT w2 (Nf w' w2) v (Rat.divInt x y)) (fun O w' r=>rC x y w' (by omega) (by omega) Pe) ?_);rintro O _ _ _ iv r he hw h_ hI;have hR:=hI.dB (S:=FF) r.cD (mN h_);obtain⟨b1,a1,m1,c1,b3,a3,m3,c3,rfl⟩:=hR.shape;exact rtn hw fun ρe we re=>hR.out re (cC w)
theorem Ar(n:Int):Rat.divInt n 1=(n:Rat):=by
 have:=Rat.num_divInt_den (n:Rat);rw[Rat.num_intCast,Rat.den_intCast]at this;exact this
theorem jO(n:Int)(w:World)(hn:n.natAbs<1073741824):
  eA PG N.pr #[.int .i64 n] w (eF w fun v' w2=>cT w2 (Nf w w2) v' (n:Rat)):=by
 have hw:=bR w;refine qH (by simp) ?_;refine cF (cO (Φ:=fun _ w' v w2=>dL w2 (Nf w' w2) v n) (fun O w' r=>kj _ w' (by omega) (by omega)) ?_);rintro O wa v1 wb r he OQ hI;replace hw:=hw.tr OQ;have hN:=hI.dB (S:=FF) r.cD (iv:=(wa.heap.size,wb.heap.size)::[]) aG;generalize (wa.heap.size,wb.heap.size)::[]=iv at*
 obtain⟨b1,a1,m1,c1,rfl⟩:=hN.shape;refine cF (cO (Φ:=fun _ w' v w2=>dL w2 (Nf w' w2) v 1) (fun O w' r=>kj _ w' (by omega) (by omega)) ?_);rintro O wa v1 PJ r he OQ hI;replace hw:=hw.tr OQ;replace hN:=hN.cG (iv':=(wa.heap.size,PJ.heap.size)::iv) r (cC w) he fun x hx=>List.mem_cons_of_mem _ hx;have hD:=hI.dB (S:=FF) r.cD (iv:=(wa.heap.size,PJ.heap.size)::iv) aG;generalize (wa.heap.size,PJ.heap.size)::iv=OG at*
 obtain⟨b2,a2,m2,c2,rfl⟩:=hD.shape;refine cF (cE hw (fun _ w' v w2=>cT w2 (Nf w' w2) v (Rat.divInt n 1)) (fun O w' r=>Dv (Rel.old r (cC w)) (hN.rel r (cC w)).r (hD.rel r (cC w)).r hn (by decide) (by decide)) ?_);rintro O _ _ _ iv r he hw h_ hI;have hR:=hI.dB (S:=FF) r.cD (mN h_);obtain⟨b1,a1,m1,c1,b3,a3,m3,c3,rfl⟩:=hR.shape;rw[Ar]at hR;exact rtn hw fun ρe we re=>hR.out re (cC w)
theorem NB{v:Value}{n1 n2:Bool}{ms:List Nat}(hS:Old S w)(hx:uY w S v n1 ls)(hy:uY w S u n2 ms):
  eA PG N.mo #[v,u] w (eF w fun v' _=>v'= .bool (decide (n1=n2∧ls=ms))):=by
 obtain⟨lv,rfl,h1⟩:=hx;obtain⟨mv,rfl,h2⟩:=hy;obtain⟨a,c,rfl,_,ha⟩:=h1.sl;obtain⟨b,e,rfl,_,hb⟩:=h2.sl;have hle1:=h1.le;have Ub:=h2.le;have hw:=bR w;refine vV (by simp) ?_;refine dK.mk ?_ ?_<;>intro hn
 ·have hn:n1≠n2:=fun h=>by rw[h]at hn;simp at hn
  intro O w2 r;exact⟨_,rfl,r.cQ,by rw[bL (fun h=>hn h.1)];rfl⟩
 have hn:n1=n2:=by simpa using hn
 subst hn;refine dK.mk ?_ ?_<;>intro h
 ·have h:ls.length≠ms.length:=fun he=>by rw[he]at h;simp at h
  intro O w2 r;exact⟨_,rfl,r.cQ,by rw[bL (fun e=>h (by rw[e.2]))];rfl⟩
 have h:ls.length=ms.length:=by
  have:(ls.length:Int)=ms.length:=by simpa using h
  omega
 refine⟨Nat×World,fun z=>⟨[(2,pP 0 0),(3,pP 1 0),(5,iZ z.1)],[(1,.box T.Int [.v (.bool n1),.v (.slice b ms.length e)]),(0,.box T.Int [.v (.bool n1),.v (.slice a ls.length c)])],2,[],z.2⟩,fun z=>ls.length-z.1,
  fun z=>z.1<=ls.length∧eE w.heap.size w z.2∧ls.take z.1=ms.take z.1,?_,?_⟩
 ·intro O w' r;exact⟨(0,w'),⟨by simp,r.cQ,by simp⟩,Sub.gn [] r⟩
 rintro⟨i,w1⟩ ⟨hi,hw,ht⟩;dsimp only at hi hw ht ⊢;refine dK.mk ?_ ?_<;>intro OC
 ·have OC:i<ls.length:=by simpa using OC
  obtain⟨x,hx⟩:∃x,ls[i]? =some x:=⟨_,aB OC⟩
  obtain⟨y,hy⟩:∃x,ms[i]? =some x:=⟨_,aB (by omega)⟩
  obtain⟨ad,rfl,q1,q2⟩:=ha i x hx;obtain⟨ad2,rfl,q3,q4⟩:=hb i y hy;have Oa:∀{H nx iv O w'},Rel H nx iv w.heap.size w1 O w'->w'.cell? (ad.add ((i:Int).toNat*1))=some (.int .u32 x):=fun r=>by
   rw[aE,aT];exact kV hS hw r q1 q2
  have QP:∀{H nx iv O w'},Rel H nx iv w.heap.size w1 O w'->w'.cell? (ad2.add ((i:Int).toNat*1))=some (.int .u32 y):=fun r=>by
   rw[aE,aT];exact kV hS hw r q3 q4
  refine cM hτ df [.x 0,.x 1,.x 2,.x 3,.x 4,.x 5,.x 6,.x 7,.x 8,.x 9,.x 10] (by kernel_rfl) (by kernel_rfl) ?_;refine⟨ad,rfl,by omega,.int .u32 x,fun O w' r=>Oa r,ad2,rfl,by omega,.int .u32 y,fun O w' r=>QP r,?_⟩;refine dK.mk ?_ ?_<;>intro OD
  ·have OD:x≠y:=fun h=>by rw[h]at OD;simp at OD
   intro O w2 r;refine⟨_,rfl,hw.tr r.cQ,?_⟩
   rw[bL (fun e=>OD (by
    have:=e.2;rw[this,hy]at hx;injection hx with hx
    exact hx.symm))]
   rfl
  have OD:x=y:=by
   have:(x:Int)=y:=by simpa using OD
   omega
  subst OD;have SS:ls.take (i+1)=ms.take (i+1):=by rw[List.take_add_one,List.take_add_one,ht,hx,hy]
  refine⟨((i+1:Nat):Int),wo,?_⟩;intro ρ3 w3 r3;exact⟨(i+1,w3),⟨OC,hw.tr r3.cQ,SS⟩,Sub.gn [] r3,by dsimp only;omega⟩
 have OC:i=ls.length:=by
  have:¬i<ls.length:=by simpa using OC
  omega
 subst OC;rw[bD,h,bD]at ht;intro O w2 r;exact⟨_,rfl,hw.tr r.cQ,by rw[bX ⟨rfl,ht⟩];rfl⟩
theorem JX{a b:List Nat}(la:Lm a)(lb:Lm b)(na:Nz a)(nb:Nz b)(h:val a=val b):a=b:=by
 have:a.length=b.length:=by
  rcases bs a.length b.length with h1|h1|h1
  ·have:=ix la nb h1;omega
  ·exact h1
  ·have:=ix lb na h1;omega
 exact val_inj la lb this h
theorem Cd{v:Value}{x y:Int}(hS:Old S w)(hx:dL w S v x)(hy:dL w S u y):
  eA PG N.mo #[v,u] w (eF w fun v' _=>v'= .bool (decide (x=y))):=by
 obtain⟨ls,h1,h2,h3⟩:=hx;obtain⟨ms,k1,k2,k3⟩:=hy;have e:decide (decide (x<0)=decide (y<0)∧ls=ms)=decide (x=y):=by
  refine decide_eq_decide.2 ⟨fun ⟨e1,e2⟩=>?_,fun e1=>?_⟩
  ·have e1:=decide_eq_decide.1 e1;rw[e2]at h3;omega
  ·subst e1;obtain⟨_,_,l1⟩:=h1;obtain⟨_,_,l2⟩:=k1;exact⟨rfl,JX l1.lm l2.lm h2 k2 (by omega)⟩
 exact(NB hS h1 k1).mono fun _ w2 ⟨v2,e1,e2,e3⟩=>⟨v2,e1,e2,by rw[e3,e]⟩
theorem Ls{v:Value}{p:Rat}(hS:Old S w)(hx:cT w S v p)(hy:cT w S u q):
  eA PG N.zl #[v,u] w (eF w fun v' _=>v'= .bool (decide (p=q))):=by
 obtain⟨b1,a1,n1,c1,b2,a2,n2,c2,rfl⟩:=hx.shape;obtain⟨b3,a3,n3,c3,b4,a4,n4,c4,rfl⟩:=hy.shape;refine BI (by simp) ?_;refine cF (cO (Φ:=fun _ w' v w2=>v= .bool (decide (p.num=q.num))) (fun O w' r=>Cd (oS hS r) (hx.num.cJ fun g hg=>r.cQ.block g (hS g hg)) (hy.num.cJ fun g hg=>r.cQ.block g (hS g hg))) ?_);rintro O wa v1 wb r he hb rfl;have hw:=hb;generalize (wa.heap.size,wb.heap.size)::[]=iv at*
 refine dK.mk ?_ ?_<;>intro h
 ·have h:=aI h;refine cF (cE hw (fun _ w' v w2=>v= .bool (decide ((p.den:Int)=q.den))) (fun O w' r=>Cd (oS hS r) (hx.den.cJ (kS hw r hS)) (hy.den.cJ (kS hw r hS))) ?_);rintro O _ _ _ OG r he hw h_ rfl;intro ρe we re;refine⟨_,rfl,hw.tr re.cQ,?_⟩;have:decide (p=q)=decide ((p.den:Int)=q.den):=decide_eq_decide.2 ⟨fun e=>by rw[e],fun e=>Rat.ext h (by omega)⟩;rw[this];rfl
 ·have h:=aH h;intro ρe we re;refine⟨_,rfl,hw.tr re.cQ,?_⟩;rw[bL (fun e=>h (by rw[e]))];rfl
theorem sw{v:Value}{xs ys:List Rat}(hS:Old S w)(hx:cI w S v xs)(hy:cI w S u ys):
  eA PG N.pq #[v,u] w (eF w fun v' _=>v'= .bool (decide (xs=ys))):=by
 obtain⟨a,c,rfl,hc,hm⟩:=cY.shape hx;obtain⟨b,e,rfl,Vw,Un⟩:=cY.shape hy;unfold maxLen at hm Un;refine uF (by simp) ?_;refine dK.mk ?_ ?_<;>intro h
 ·have h:xs.length≠ys.length:=fun he=>by rw[he]at h;simp at h
  intro O w2 r;exact⟨_,rfl,r.cQ,by rw[bL (fun e=>h (by rw[e]))];rfl⟩
 have h:xs.length=ys.length:=by
  have:(xs.length:Int)=ys.length:=by simpa using h
  omega
 refine⟨Nat×World,fun z=>⟨[(0,sV a xs.length c),(1,sV b ys.length e),(5,iZ z.1)],[],0,[],z.2⟩,fun z=>xs.length-z.1,
  fun z=>z.1<=xs.length∧eE w.heap.size w z.2∧xs.take z.1=ys.take z.1,?_,?_⟩
 ·intro O w' r;exact⟨(0,w'),⟨by simp,r.cQ,by simp⟩,Sub.gn [] r⟩
 rintro⟨i,w1⟩ ⟨hi,hw,ht⟩;dsimp only at hi hw ht ⊢;refine dK.mk ?_ ?_<;>intro OC
 ·have OC:i<xs.length:=by simpa using OC
  obtain⟨x,PL⟩:∃x,xs[i]? =some x:=⟨_,aB OC⟩
  obtain⟨y,SJ⟩:∃x,ys[i]? =some x:=⟨_,aB (by omega)⟩
  obtain⟨ad2,cs2,rfl,Ql,-,PQ⟩:=cY.load hy SJ;obtain⟨p2,q2,r2,s2,t2,u2,v2,w2,rfl,Ql⟩:=Ql;obtain⟨ad,cs,rfl,hR,-,hl⟩:=cY.load hx PL;obtain⟨p1,q1,r1,s1,t1,u1,v1,w1,rfl,hR⟩:=hR;refine cM hτ df [.x 0,.x 1,.x 2,.x 3,.x 4,.x 5,.x 6,.x 7,.x 8,.x 9] (by kernel_rfl) (by kernel_rfl) ?_;refine⟨ad,rfl,by omega,[.bool p1,.slice q1 r1 s1,.bool t1,.slice u1 v1 w1],rfl,rdO hl hw hS,ad2,rfl,by omega,[.bool p2,.slice q2 r2 s2,.bool t2,.slice u2 v2 w2],rfl,rdO PQ hw hS,?_⟩;refine cE hw (fun _ w' v w2=>v= .bool (decide (x=y))) (fun O w' r=>Ls (oS hS r) (hR.cJ (kS hw r hS)) (Ql.cJ (kS hw r hS))) ?_;rintro O _ _ _ OG r he hw h_ rfl;refine dK.mk ?_ ?_<;>intro OD
  ·have OD:x≠y:=fun h=>by rw[h]at OD;simp at OD
   intro O w2 r;refine⟨_,rfl,hw.tr r.cQ,?_⟩
   rw[bL (fun e=>OD (by
    rw[e,SJ]at PL;injection PL with PL
    exact PL.symm))]
   rfl
  have OD:x=y:=by simpa using OD
  subst OD;have SS:xs.take (i+1)=ys.take (i+1):=by rw[List.take_add_one,List.take_add_one,ht,PL,SJ]
  refine⟨((i+1:Nat):Int),wo,?_⟩;intro ρ3 w3 r3;exact⟨(i+1,w3),⟨OC,hw.tr r3.cQ,SS⟩,Sub.gn [] r3,by dsimp only;omega⟩
 have OC:i=xs.length:=by
  have:¬i<xs.length:=by simpa using OC
  omega
 subst OC;rw[bD,h,bD]at ht;intro O w2 r;exact⟨_,rfl,hw.tr r.cQ,by rw[bX ht];rfl⟩
theorem cT.four{b b2:Bool}{n c n2 c2:Nat}(h:cT w S (.agg #[.bool b,.slice a n c,.bool b2,.slice a2 n2 c2]) q):Dt w S [.bool b,.slice a n c,.bool b2,.slice a2 n2 c2] (q.num,(q.den:Int)):=
 ⟨b,a,n,c,b2,a2,n2,c2,rfl,h.r⟩
theorem cT.qS{b b2:Bool}{n c n2 c2:Nat}(h:cT w S (.agg #[.bool b,.slice a n c,.bool b2,.slice a2 n2 c2]) q):iU w S [.bool b,.slice a n c,.bool b2,.slice a2 n2 c2] q:=
 ⟨b,a,n,c,b2,a2,n2,c2,rfl,h⟩
theorem Rel.lt{H:Hp}{nx:Nat}{iv:Iv}{B:Nat}{w':World}(r:Rel H nx iv B w O w'){id t:Nat}{cs:List At}(h:dF H id=some (.box t cs)):(O id).g<w'.heap.size:=(r.low id _ h (r.nn id _ h (by intros;simp) (by simp))).2
end Go.Ex
namespace Go.Ex
variable{cs:List Int}{ls:List Nat}{i:Nat}{f:Nat->Int}
def fo(f:Nat->Int):Nat->Int
 |0=>0
 |n+1=>f 0+65536*fo (fun i=>f (i+1)) n
theorem zh(f:Nat->Int)(n:Nat):dS ((List.range n).map f)=fo f n:=by
 induction n generalizing f with
 |zero=>rfl
 |succ n ih=>
  rw[List.range_succ_eq_map,List.map_cons,List.map_map,dS,fo,<-ih];rfl
theorem zi(f g:Nat->Int)(n:Nat):fo (fun i=>f i+g i) n=fo f n+fo g n:=by
 induction n generalizing f g with
 |zero=>rfl
 |succ n ih=>simp only[fo,ih];omega
theorem Gp(k:Int)(f:Nat->Int)(n:Nat):fo (fun i=>k*f i) n=k*fo f n:=by
 induction n generalizing f with
 |zero=>simp[fo]
 |succ n ih=>simp only[fo,ih,Int.mul_add];rw[Int.mul_left_comm]
theorem wk{n:Nat}(h:∀i,i<n->f i=0):fo f n=0:=by
 induction n generalizing f with
 |zero=>rfl
 |succ n ih=>rw[fo,h 0 (by omega),ih fun i hi=>h (i+1) (by omega)];rfl
theorem ph(a:List Int)(n:Nat)(h:a.length<=n):fo (fun i=>a.getD i 0) n=dS a:=by
 induction a generalizing n with
 |nil=>exact wk fun i _=>by simp
 |cons c r ih=>
  obtain⟨m,rfl⟩:∃m,n=m+1:=⟨n-1,by simp at h;omega⟩
  have e:=ih m (by simpa using h);rw[fo,dS,<-e];simp[List.getD]
def iT(a b:List Int)(i:Nat):Nat->Int
 |0=>0
 |k+1=>iT a b i k+a.getD k 0*(if k<=i then b.getD (i-k) 0 else 0)
def gL(a b:List Int)(i:Nat):Int:=iT a b i (i+1)
theorem Iy(b:List Int)(i k:Nat):iT [] b i k=0:=by
 induction k with
 |zero=>rfl
 |succ k ih=>rw[iT,ih];simp
theorem Gq(c:Int)(r b:List Int)(i k:Nat):iT (c::r) b (i+1) (k+1)=c*b.getD (i+1) 0+iT r b i k:=by
 induction k with
 |zero=>simp[iT]
 |succ k ih=>
  rw[iT,ih,iT];have e:(c::r).getD (k+1) 0=r.getD k 0:=by simp[List.getD]
  rw[e];have e2:(if k+1<=i+1 then b.getD (i+1-(k+1)) 0 else 0)=(if k<=i then b.getD (i-k) 0 else 0):=by
   by_cases h:k<=i
   ·rw[if_pos h,if_pos (by omega),show i+1-(k+1)=i-k by omega]
   ·rw[aJ h,aJ (by omega)]
  rw[e2,Int.add_assoc]
theorem FD(c:Int)(r b:List Int)(i:Nat):gL (c::r) b (i+1)=c*b.getD (i+1) 0+gL r b i:=Gq c r b i (i+1)
theorem FE(c:Int)(r b:List Int):gL (c::r) b 0=c*b.getD 0 0:=by simp[gL,iT]
theorem Ku(a b:List Int)(n:Nat)(h:a.length+b.length<=n+1):fo (gL a b) n=dS a*dS b:=by
 induction a generalizing n with
 |nil=>
  rw[show gL [] b=fun _=>(0:Int)from funext fun i=>Iy b i _,wk fun _ _=>rfl];simp[dS]
 |cons c r ih=>
  cases n with
  |zero=>
   have hb:b=[]:=List.eq_nil_of_length_eq_zero (by simp at h;omega);subst hb;simp[fo,dS]
  |succ m=>
   have e1:fo (gL (c::r) b) (m+1)=fo (fun i=>c*b.getD i 0) (m+1)+65536*fo (gL r b) m:=by
    have e2:fo (fun i=>gL (c::r) b (i+1)) m=fo (fun i=>c*b.getD (i+1) 0) m+fo (gL r b) m:=by
     rw[<-zi];congr 1
     funext i
     exact FD c r b i
    rw[fo,fo,e2,FE,Int.mul_add];omega
   have h':r.length+b.length<=m+1:=by simp at h;omega
   rw[e1,ih m h',Gp,ph b (m+1) (by omega),dS,Int.add_mul,Int.mul_assoc]
theorem Gr(a b:List Int)(i k k0:Nat)(h0:∀j,j<k0->b.length<=i-j)(hk:k0<=i+1)(h:k<=k0):iT a b i k=0:=by
 induction k with
 |zero=>rfl
 |succ k ih=>
  rw[iT,ih (by omega),if_pos (by omega)];have:b.getD (i-k) 0=0:=by rw[List.getD,List.getElem?_eq_none (h0 k (by omega))];rfl
  rw[this];simp
theorem Gs(a b:List Int)(i k m:Nat)(h:a.length<=k):iT a b i (k+m)=iT a b i k:=by
 induction m with
 |zero=>rfl
 |succ m ih=>
  rw[<-Nat.add_assoc,iT,ih];have:a.getD (k+m) 0=0:=by rw[List.getD,List.getElem?_eq_none (by omega)];rfl
  rw[this];simp
theorem mR{a b:List Int}(ha:∀x∈a,-65535<=x∧x<=65535)(hb:∀x∈b,-65535<=x∧x<=65535)(k:Nat):(iT a b i k).natAbs<=4294836225*k:=by
 have key:∀(l:List Int) (j:Nat),(∀x∈l,-65535<=x∧x<=65535)->(l.getD j 0).natAbs<=65535:=fun l j h=>by
  rw[List.getD]
  cases hj:l[j]? with
  |none=>simp
  |some d=>have:=h d (aC hj);simp;omega
 induction k with
 |zero=>simp[iT]
 |succ k ih=>
  rw[iT];have h1:=key a k ha;have h2:(if k<=i then b.getD (i-k) 0 else 0).natAbs<=65535:=by
   split
   ·exact key b _ hb
   ·simp
  have h3:=Nat.mul_le_mul h1 h2;rw[<-Int.natAbs_mul]at h3;generalize a.getD k 0*(if k<=i then b.getD (i-k) 0 else 0)=p at*
  omega
def eG(s:Int):List Nat->List Int
 |[]=>[]
 |l::r=>s*((l % 65536:Nat):Int)::s*((l / 65536:Nat):Int)::eG s r
theorem DI(s:Int)(ls:List Nat):dS (eG s ls)=s*(val ls:Int):=by
 induction ls with
 |nil=>simp[eG,dS,val]
 |cons l r ih=>
  rw[eG,dS,dS,ih,val];have e1:((l+4294967296*val r:Nat):Int)=((l % 65536:Nat):Int)+65536*((l / 65536:Nat):Int)+4294967296*((val r:Nat):Int):=by omega
  rw[e1,Int.mul_add,Int.mul_add,Int.mul_add];rw[Int.mul_left_comm 65536 s,Int.mul_left_comm s 65536,Int.mul_left_comm s 4294967296];omega
theorem ov(s:Int)(a b:List Nat):eG s (a++b)=eG s a++eG s b:=by
 induction a with
 |nil=>rfl
 |cons l r ih=>simp[eG,ih]
theorem iL(s:Int)(ls:List Nat):(eG s ls).length=2*ls.length:=by
 induction ls with
 |nil=>rfl
 |cons l r ih=>simp[eG,ih];omega
theorem zj{s:Int}(hs:s=1∨s= -1)(h:Lm ls):∀c∈eG s ls,-65535<=c∧c<=65535:=by
 induction ls with
 |nil=>intro c hc;cases hc
 |cons l r ih=>
  have hl:=h l aG;intro c hc;rw[eG]at hc;rcases List.mem_cons.1 hc with rfl|hc
  ·rcases hs with rfl|rfl<;>omega
  rcases List.mem_cons.1 hc with rfl|hc
  ·rcases hs with rfl|rfl<;>omega
  ·exact ih (fun x hx=>h x (List.mem_cons_of_mem _ hx)) c hc
theorem x6(h:Lm ls):∀c∈eG 1 ls,0<=c∧c<=65535:=fun c hc=>by
 induction ls with
 |nil=>cases hc
 |cons l r ih=>
  have hl:=h l aG;rw[eG]at hc;rcases List.mem_cons.1 hc with rfl|hc
  ·omega
  rcases List.mem_cons.1 hc with rfl|hc
  ·omega
  ·exact ih (fun x hx=>h x (List.mem_cons_of_mem _ hx)) hc
theorem FG{c:Int}(h:cs[i]? =some c):dS (cs.drop i)=c+65536*dS (cs.drop (i+1)):=by
 rw[List.drop_eq_getElem_cons (aD.1 h).1,dS];have:=(aD.1 h).2;rw[this]
end Go.Ex
namespace Go.Ex
open Go Go.Sx Go.Proofs
variable{x1 x2 y1 y2:Int}{ls:List Nat}{S:Nat->Prop}{p q:Rat}{u:Value}{w:World}
theorem Lz{k:Nat}(h:Lm ls)(hl:ls.length<=k):ln (val ls)<=k:=gB.2 (Nat.lt_of_lt_of_le (oB h) (yq hl))
theorem Cv.false{B:Nat}{iv:Iv}{g:Nat}(h:Cv FF B iv g):Cv S B iv g:=h.elim (fun h=>h.elim) .inr
theorem MA{v:Value}(hS:Old S w)(hx:iO w S v x1 x2)(hy:iO w S u y1 y2)(hl0:ln x1.natAbs<=100000)(Pz:ln x2.natAbs<=100000)(PQ:ln y1.natAbs<=100000)(R6:ln y2.natAbs<=100000):
  eA PG N.vK #[v,u] w (eF w fun v' w2=>cT w2 (Nf w w2) v' ((ratio x1 x2)+(ratio y1 y2))):=by
 have hw:=bR w;have r1:=iK x1 x2;have r2:=iK y1 y2;have r3:=oM (ratio x1 x2) (ratio y1 y2);have r4:=jE (ratio x1 x2) (ratio y1 y2);have r5:=lY (ratio y1 y2);have r6:=z7 (ratio x1 x2) (ratio y1 y2);replace hx:=hx.cK (S':=Cv S w.heap.size []) fun _ h=>.inl h;replace hy:=hy.cK (S':=Cv S w.heap.size []) fun _ h=>.inl h;obtain⟨b1,a1,n1,c1,b2,a2,n2,c2,rfl⟩:=hx.shape;obtain⟨b3,a3,n3,c3,b4,a4,n4,c4,rfl⟩:=hy.shape;refine DR (by simp) ?_;refine cM hτ df [.x 0,.x 2,.x 1,.x 3,.x 4,.x 5,.x 6] (by kernel_rfl) (by kernel_rfl) ?_;refine cE hw (fun _ w' v w2=>dW w2 (Nf w' w2) v ((ratio x1 x2))) (fun O w' r=>kK (Rel.old r hS) (hx.rel r hS) (by omega) (by omega)) ?_;rintro O _ _ _ OJ r he hw h_ hn;replace hy:=hy.cG r hS he (mC h_);have hX:=hn.dB (S:=FF) r.cD (mN h_);obtain⟨A0,A1,A2,A3,A4,A5,A6,A7,rfl⟩:=hX.shape;refine cE hw (fun _ w' v w2=>dW w2 (Nf w' w2) v ((ratio y1 y2))) (fun O w' r=>kK (Rel.old r hS) (hy.rel r hS) (by omega) (by omega)) ?_;rintro O _ _ _ OG r he hw h_ hn;replace hX:=hX.cG r (cC w) he (mC h_);have hY:=hn.dB (S:=FF) r.cD (mN h_);obtain⟨C0,C1,C2,C3,C4,C5,C6,C7,rfl⟩:=hY.shape;refine cE hw (fun _ w' v w2=>dW w2 (Nf w' w2) v ((ratio x1 x2)+(ratio y1 y2))) (fun O w' r=>IP (Rel.old r (cC w)) (hX.rel r (cC w)) (hY.rel r (cC w)) (by omega) (by omega)) ?_;rintro O _ _ _ ON r he hw h_ hn;have hP:=hn.dB (S:=FF) r.cD (mN h_);obtain⟨E0,E1,E2,E3,E4,E5,E6,E7,rfl⟩:=hP.shape;refine cE hw (fun _ w' v w2=>cT w2 (Nf w' w2) v ((ratio x1 x2)+(ratio y1 y2))) (fun O w' r=>rA (Rel.old r (cC w)) (hP.rel r (cC w)) (by omega)) ?_;rintro O _ _ _ OZ r he hw h_ hn;have hC:=hn.dB (S:=FF) r.cD (mN h_);obtain⟨F0,F1,F2,F3,F4,F5,F6,F7,rfl⟩:=hC.shape;exact rtn hw fun ρe we re=>hC.out re (cC w)
theorem MB{v:Value}(hS:Old S w)(hx:iO w S v x1 x2)(hy:iO w S u y1 y2)(hl0:ln x1.natAbs<=100000)(Pz:ln x2.natAbs<=100000)(PQ:ln y1.natAbs<=100000)(R6:ln y2.natAbs<=100000):
  eA PG N.vJ #[v,u] w (eF w fun v' w2=>cT w2 (Nf w w2) v' ((ratio x1 x2)*(ratio y1 y2))):=by
 have hw:=bR w;have r1:=iK x1 x2;have r2:=iK y1 y2;have r3:=oM (ratio x1 x2) (ratio y1 y2);have r4:=jE (ratio x1 x2) (ratio y1 y2);have r5:=lY (ratio y1 y2);have r6:=z7 (ratio x1 x2) (ratio y1 y2);replace hx:=hx.cK (S':=Cv S w.heap.size []) fun _ h=>.inl h;replace hy:=hy.cK (S':=Cv S w.heap.size []) fun _ h=>.inl h;obtain⟨b1,a1,n1,c1,b2,a2,n2,c2,rfl⟩:=hx.shape;obtain⟨b3,a3,n3,c3,b4,a4,n4,c4,rfl⟩:=hy.shape;refine DM (by simp) ?_;refine cM hτ df [.x 0,.x 2,.x 1,.x 3,.x 4,.x 5,.x 6] (by kernel_rfl) (by kernel_rfl) ?_;refine cE hw (fun _ w' v w2=>dW w2 (Nf w' w2) v ((ratio x1 x2))) (fun O w' r=>kK (Rel.old r hS) (hx.rel r hS) (by omega) (by omega)) ?_;rintro O _ _ _ OJ r he hw h_ hn;replace hy:=hy.cG r hS he (mC h_);have hX:=hn.dB (S:=FF) r.cD (mN h_);obtain⟨A0,A1,A2,A3,A4,A5,A6,A7,rfl⟩:=hX.shape;refine cE hw (fun _ w' v w2=>dW w2 (Nf w' w2) v ((ratio y1 y2))) (fun O w' r=>kK (Rel.old r hS) (hy.rel r hS) (by omega) (by omega)) ?_;rintro O _ _ _ OG r he hw h_ hn;replace hX:=hX.cG r (cC w) he (mC h_);have hY:=hn.dB (S:=FF) r.cD (mN h_);obtain⟨C0,C1,C2,C3,C4,C5,C6,C7,rfl⟩:=hY.shape;refine cE hw (fun _ w' v w2=>dW w2 (Nf w' w2) v ((ratio x1 x2)*(ratio y1 y2))) (fun O w' r=>Lu (Rel.old r (cC w)) (hX.rel r (cC w)) (hY.rel r (cC w)) (by omega) (by omega)) ?_;rintro O _ _ _ ON r he hw h_ hn;have hP:=hn.dB (S:=FF) r.cD (mN h_);obtain⟨E0,E1,E2,E3,E4,E5,E6,E7,rfl⟩:=hP.shape;refine cE hw (fun _ w' v w2=>cT w2 (Nf w' w2) v ((ratio x1 x2)*(ratio y1 y2))) (fun O w' r=>rA (Rel.old r (cC w)) (hP.rel r (cC w)) (by omega)) ?_;rintro O _ _ _ OZ r he hw h_ hn;have hC:=hn.dB (S:=FF) r.cD (mN h_);obtain⟨F0,F1,F2,F3,F4,F5,F6,F7,rfl⟩:=hC.shape;exact rtn hw fun ρe we re=>hC.out re (cC w)
theorem MC{v:Value}(hS:Old S w)(hx:iO w S v x1 x2)(hy:iO w S u y1 y2)(hl0:ln x1.natAbs<=100000)(Pz:ln x2.natAbs<=100000)(PQ:ln y1.natAbs<=100000)(R6:ln y2.natAbs<=100000):
  eA PG N.vN #[v,u] w (eF w fun v' w2=>cT w2 (Nf w w2) v' ((ratio x1 x2)-(ratio y1 y2))):=by
 have hw:=bR w;have r1:=iK x1 x2;have r2:=iK y1 y2;have r3:=oM (ratio x1 x2) (ratio y1 y2);have r4:=jE (ratio x1 x2) (ratio y1 y2);have r5:=lY (ratio y1 y2);have r6:=z7 (ratio x1 x2) (ratio y1 y2);replace hx:=hx.cK (S':=Cv S w.heap.size []) fun _ h=>.inl h;replace hy:=hy.cK (S':=Cv S w.heap.size []) fun _ h=>.inl h;obtain⟨b1,a1,n1,c1,b2,a2,n2,c2,rfl⟩:=hx.shape;obtain⟨b3,a3,n3,c3,b4,a4,n4,c4,rfl⟩:=hy.shape;refine DY (by simp) ?_;refine cM hτ df [.x 0,.x 2,.x 1,.x 3,.x 4,.x 5,.x 6,.x 7] (by kernel_rfl) (by kernel_rfl) ?_;refine cE hw (fun _ w' v w2=>dW w2 (Nf w' w2) v ((ratio x1 x2))) (fun O w' r=>kK (Rel.old r hS) (hx.rel r hS) (by omega) (by omega)) ?_;rintro O _ _ _ OJ r he hw h_ hn;replace hy:=hy.cG r hS he (mC h_);have hX:=hn.dB (S:=FF) r.cD (mN h_);obtain⟨A0,A1,A2,A3,A4,A5,A6,A7,rfl⟩:=hX.shape;refine cE hw (fun _ w' v w2=>dW w2 (Nf w' w2) v ((ratio y1 y2))) (fun O w' r=>kK (Rel.old r hS) (hy.rel r hS) (by omega) (by omega)) ?_;rintro O _ _ _ OG r he hw h_ hn;replace hX:=hX.cG r (cC w) he (mC h_);have hY:=hn.dB (S:=FF) r.cD (mN h_);obtain⟨C0,C1,C2,C3,C4,C5,C6,C7,rfl⟩:=hY.shape;refine cO (Φ:=fun _ w' v w2=>dW w2 (Nw (Cf w OG) w' w2) v (-(ratio y1 y2))) (fun O w' r=>Lt (Rel.old r (cC w)) (hY.rel r (cC w))) ?_;rintro O PH v3 PD r he hb hn;replace hw:=hw.tr hb;replace hX:=hX.cG (iv':=(PH.heap.size,PD.heap.size)::OG) r (cC w) he fun x hx=>List.mem_cons_of_mem _ hx;have hM:=hn.old r.cD;generalize (PH.heap.size,PD.heap.size)::OG=ON at*
 obtain⟨E0,E1,E2,E3,E4,E5,E6,E7,rfl⟩:=hM.shape;refine cE hw (fun _ w' v w2=>dW w2 (Nf w' w2) v ((ratio x1 x2)-(ratio y1 y2))) (fun O w' r=>(Rat.sub_eq_add_neg (ratio x1 x2) (ratio y1 y2))▸IP (Rel.old r (cC w)) (hX.rel r (cC w)) (hM.rel r (cC w)) (by omega) (by omega)) ?_;rintro O _ _ _ OZ r he hw h_ hn;have hP:=hn.dB (S:=FF) r.cD (mN h_);obtain⟨F0,F1,F2,F3,F4,F5,F6,F7,rfl⟩:=hP.shape;refine cE hw (fun _ w' v w2=>cT w2 (Nf w' w2) v ((ratio x1 x2)-(ratio y1 y2))) (fun O w' r=>rA (Rel.old r (cC w)) (hP.rel r (cC w)) (by omega)) ?_;rintro O _ _ _ PF r he hw h_ hn;have hC:=hn.dB (S:=FF) r.cD (mN h_);obtain⟨G0,G1,G2,G3,G4,G5,G6,G7,rfl⟩:=hC.shape;exact rtn hw fun ρe we re=>hC.out re (cC w)
theorem aAN{v:Value}{f g:Rat}(hS:Old S w)(hf:dW w S v f)(hg:dW w S u g)(hlf:rl f<=10000000000)(hlg:rl g<=10000000000):
  eA PG N.l6 #[v,u] w (eF w fun v' w2=>v'= .int .i64 (rs (f-g))):=by
 have hw:=bR w;have l1:=fm f;have l2:=fF f;have l3:=fm g;have l4:=fF g;have m0:=dA f.num g.den;have m1:=dA g.num f.den;replace hf:=hf.cK (S':=Cv S w.heap.size []) fun _ h=>.inl h;replace hg:=hg.cK (S':=Cv S w.heap.size []) fun _ h=>.inl h;obtain⟨b1,a1,n1,c1,b2,a2,n2,c2,rfl⟩:=hf.shape;obtain⟨b3,a3,n3,c3,b4,a4,n4,c4,rfl⟩:=hg.shape;have Tf:=hf.num;have QF:=hf.den;have SM:=hg.num;have Qu:=hg.den;refine pG (by simp) ?_;refine cM hτ df [.x 0,.x 1,.x 2,.x 3,.x 5,.x 6,.x 7,.x 8,.x 4,.x 9,.x 10,.x 11] (by kernel_rfl) (by kernel_rfl) ?_;refine cE hw (fun _ w' v w2=>eQ w2 (Nf w' w2) v (f.num*(g.den:Int))) (fun O w' r=>iH (Rel.old r hS) (Tf.rel r hS) (Qu.rel r hS) (by omega) (by omega)) ?_;rintro O _ _ _ OJ r he hw h_ hn;replace QF:=QF.cG r hS he (mC h_);replace SM:=SM.cG r hS he (mC h_);have hA:=hn.dB (S:=FF) r.cD (mN h_);obtain⟨A0,A1,A2,A3,rfl⟩:=hA.shape;refine cE hw (fun _ w' v w2=>eQ w2 (Nf w' w2) v (g.num*(f.den:Int))) (fun O w' r=>iH (Rel.old r hS) (SM.rel r hS) (QF.rel r hS) (by omega) (by omega)) ?_;rintro O _ _ _ OG r he hw h_ hn;replace hA:=hA.cG r (cC w) he (mC h_);have hB:=hn.dB (S:=FF) r.cD (mN h_);obtain⟨C0,C1,C2,C3,rfl⟩:=hB.shape;refine cE hw (fun _ w' v w2=>v= .int .i64 (rs (f-g))) (fun O w' r=>(Md f g)▸LS (Rel.old r (cC w)) (hA.rel r (cC w)) (hB.rel r (cC w)) (by omega) (by omega)) ?_;rintro O _ _ _ ON r he hw h_ rfl;exact rtn hw fun ρe we re=>rfl
theorem MD{v:Value}(hS:Old S w)(hx:iO w S v x1 x2)(hy:iO w S u y1 y2)(hl0:ln x1.natAbs<=100000)(Pz:ln x2.natAbs<=100000)(PQ:ln y1.natAbs<=100000)(R6:ln y2.natAbs<=100000):
  eA PG N.vI #[v,u] w (eF w fun v' w2=>v'= .int .i64 (rs ((ratio x1 x2)-(ratio y1 y2)))):=by
 have hw:=bR w;have r1:=iK x1 x2;have r2:=iK y1 y2;have r3:=oM (ratio x1 x2) (ratio y1 y2);have r4:=jE (ratio x1 x2) (ratio y1 y2);have r5:=lY (ratio y1 y2);have r6:=z7 (ratio x1 x2) (ratio y1 y2);replace hx:=hx.cK (S':=Cv S w.heap.size []) fun _ h=>.inl h;replace hy:=hy.cK (S':=Cv S w.heap.size []) fun _ h=>.inl h;obtain⟨b1,a1,n1,c1,b2,a2,n2,c2,rfl⟩:=hx.shape;obtain⟨b3,a3,n3,c3,b4,a4,n4,c4,rfl⟩:=hy.shape;refine DK (by simp) ?_;refine cM hτ df [.x 0,.x 2,.x 1,.x 3,.x 4,.x 5] (by kernel_rfl) (by kernel_rfl) ?_;refine cE hw (fun _ w' v w2=>dW w2 (Nf w' w2) v ((ratio x1 x2))) (fun O w' r=>kK (Rel.old r hS) (hx.rel r hS) (by omega) (by omega)) ?_;rintro O _ _ _ OJ r he hw h_ hn;replace hy:=hy.cG r hS he (mC h_);have hX:=hn.dB (S:=FF) r.cD (mN h_);obtain⟨A0,A1,A2,A3,A4,A5,A6,A7,rfl⟩:=hX.shape;refine cE hw (fun _ w' v w2=>dW w2 (Nf w' w2) v ((ratio y1 y2))) (fun O w' r=>kK (Rel.old r hS) (hy.rel r hS) (by omega) (by omega)) ?_;rintro O _ _ _ OG r he hw h_ hn;replace hX:=hX.cG r (cC w) he (mC h_);have hY:=hn.dB (S:=FF) r.cD (mN h_);obtain⟨C0,C1,C2,C3,C4,C5,C6,C7,rfl⟩:=hY.shape;refine cE hw (fun _ w' v w2=>v= .int .i64 (rs ((ratio x1 x2)-(ratio y1 y2)))) (fun O w' r=>aAN (Rel.old r (cC w)) (hX.rel r (cC w)) (hY.rel r (cC w)) (by omega) (by omega)) ?_;rintro O _ _ _ ON r he hw h_ rfl;exact rtn hw fun ρe we re=>rfl
theorem ky:rs q=0↔q=0:=by rw[rs,Int.sign_eq_zero_iff_zero,Rat.num_eq_zero]
theorem ME{v:Value}(hS:Old S w)(hx:iO w S v x1 x2)(hy:iO w S u y1 y2)(hl0:ln x1.natAbs<=100000)(Pz:ln x2.natAbs<=100000)(PQ:ln y1.natAbs<=100000)(R6:ln y2.natAbs<=100000):
  eA PG N.vL #[v,u] w (eF w fun v' w2=>((ratio y1 y2)=0∧v'= .tuple #[Ap,.int .i64 9])∨((ratio y1 y2)≠0∧∃q,v'= .tuple #[q,.int .i64 0]∧cT w2 (Nf w w2) q ((ratio x1 x2) / (ratio y1 y2)))):=by
 have hw:=bR w;have r1:=iK x1 x2;have r2:=iK y1 y2;have r3:=oM (ratio x1 x2) (ratio y1 y2);have r4:=jE (ratio x1 x2) (ratio y1 y2);have r5:=lY (ratio y1 y2);have r6:=z7 (ratio x1 x2) (ratio y1 y2);replace hx:=hx.cK (S':=Cv S w.heap.size []) fun _ h=>.inl h;replace hy:=hy.cK (S':=Cv S w.heap.size []) fun _ h=>.inl h;obtain⟨b1,a1,n1,c1,b2,a2,n2,c2,rfl⟩:=hx.shape;obtain⟨b3,a3,n3,c3,b4,a4,n4,c4,rfl⟩:=hy.shape;refine DU (by simp) ?_;refine cF (cE hw (fun _ w' v w2=>dW w2 (Nf w' w2) v ((ratio y1 y2))) (fun O w' r=>kK (Rel.old r hS) (hy.rel r hS) (by omega) (by omega)) ?_);rintro O _ _ _ OJ r he hw h_ hn;replace hx:=hx.cG r hS he (mC h_);have hY:=hn.dB (S:=FF) r.cD (mN h_);obtain⟨A0,A1,A2,A3,A4,A5,A6,A7,rfl⟩:=hY.shape;refine cF (cE hw (fun _ w' v w2=>v= .int .i64 (rs (ratio y1 y2))) (fun O w' r=>Mv (Rel.old r (cC w)) (hY.rel r (cC w))) ?_);rintro O _ _ _ OG r he hw h_ rfl;replace hx:=hx.cG r hS he (mC h_);replace hY:=hY.cG r (cC w) he (mC h_);refine dK.mk ?_ ?_<;>intro h
 ·have h:rs (ratio y1 y2)=0:=by simpa using h
  exact rtn hw fun ρe we re=>.inl ⟨ky.1 h,rfl⟩
 have h:(ratio y1 y2)≠0:=fun e=>by rw[e]at h;exact absurd h (by decide)
 have r7:=Ki (ratio x1 x2) h;refine cM hτ df [.x 0,.x 2,.x 1,.x 3,.x 4,.x 5,.x 6] (by kernel_rfl) (by kernel_rfl) ?_;refine cE hw (fun _ w' v w2=>dW w2 (Nf w' w2) v ((ratio x1 x2))) (fun O w' r=>kK (Rel.old r hS) (hx.rel r hS) (by omega) (by omega)) ?_;rintro O _ _ _ ON r he hw h_ hn;replace hY:=hY.cG r (cC w) he (mC h_);have hX:=hn.dB (S:=FF) r.cD (mN h_);obtain⟨C0,C1,C2,C3,C4,C5,C6,C7,rfl⟩:=hX.shape;refine cE hw (fun _ w' v w2=>dW w2 (Nf w' w2) v ((ratio x1 x2) / (ratio y1 y2))) (fun O w' r=>aAe (Rel.old r (cC w)) (hX.rel r (cC w)) (hY.rel r (cC w)) (by omega) (by omega) h) ?_;rintro O _ _ _ OZ r he hw h_ hn;have hP:=hn.dB (S:=FF) r.cD (mN h_);obtain⟨E0,E1,E2,E3,E4,E5,E6,E7,rfl⟩:=hP.shape;refine cE hw (fun _ w' v w2=>cT w2 (Nf w' w2) v ((ratio x1 x2) / (ratio y1 y2))) (fun O w' r=>rA (Rel.old r (cC w)) (hP.rel r (cC w)) (by omega)) ?_;rintro O _ _ _ PF r he hw h_ hn;have hC:=hn.dB (S:=FF) r.cD (mN h_);obtain⟨F0,F1,F2,F3,F4,F5,F6,F7,rfl⟩:=hC.shape;exact rtn hw fun ρe we re=>.inr ⟨h,_,rfl,hC.out re (cC w)⟩
theorem MF{n:Int}(h1: -9223372036854775808<=n)(h2:n<=9223372036854775807):rl (n:Rat)<=2:=by
 have:=lr h1 h2;unfold rl;rw[Rat.num_intCast,Rat.den_intCast];have:ln 1=1:=by decide
 omega
theorem Gt(n:Int)(w:World)(h1: -9223372036854775808<=n)(h2:n<=9223372036854775807):
  eA PG N.wz #[.int .i64 n] w (eF w fun v' w2=>cT w2 (Nf w w2) v' (n:Rat)):=by
 have hw:=bR w;have hl:=MF h1 h2;refine AF (by simp) ?_;refine cF (cE hw (fun _ w' v w2=>dW w2 (Nf w' w2) v (n)) (fun O w' r=>Mw n w' h1 h2) ?_);rintro O _ _ _ OJ r he hw h_ hn;have hX:=hn.dB (S:=FF) r.cD (mN h_);obtain⟨A0,A1,A2,A3,A4,A5,A6,A7,rfl⟩:=hX.shape;refine cF (cE hw (fun _ w' v w2=>cT w2 (Nf w' w2) v (n)) (fun O w' r=>rA (Rel.old r (cC w)) (hX.rel r (cC w)) (by omega)) ?_);rintro O _ _ _ OG r he hw h_ hn;have hC:=hn.dB (S:=FF) r.cD (mN h_);obtain⟨C0,C1,C2,C3,C4,C5,C6,C7,rfl⟩:=hC.shape;exact rtn hw fun ρe we re=>hC.out re (cC w)
theorem HE(a b:Int)(w:World)(h1a: -9223372036854775808<=a)(h2a:a<=9223372036854775807)(h1b: -9223372036854775808<=b)(h2b:b<=9223372036854775807):
  eA PG N.wv #[.int .i64 a,.int .i64 b] w (eF w fun v' w2=>(b=0∧v'= .tuple #[Ap,.int .i64 9])∨(b≠0∧∃q,v'= .tuple #[q,.int .i64 0]∧cT w2 (Nf w w2) q (Rat.divInt a b))):=by
 have hw:=bR w;have ha:=lr h1a h2a;have hb:=lr h1b h2b;refine AB (by simp) ?_;refine dK.mk ?_ ?_<;>intro h
 ·have h:b=0:=by simpa using h
  exact rtn hw fun ρe we re=>.inl ⟨h,rfl⟩
 have h:b≠0:=by simpa using h
 have hq:=jv (a:=a) h;refine cF (cE hw (fun _ w' v w2=>eQ w2 (Nf w' w2) v a) (fun O w' r=>oe a w' h1a h2a) ?_);rintro O _ _ _ OJ r he hw h_ hn;have hA:=hn.dB (S:=FF) r.cD (mN h_);obtain⟨A0,A1,A2,A3,rfl⟩:=hA.shape;refine cF (cE hw (fun _ w' v w2=>eQ w2 (Nf w' w2) v b) (fun O w' r=>oe b w' h1b h2b) ?_);rintro O _ _ _ OG r he hw h_ hn;replace hA:=hA.cG r (cC w) he (mC h_);have hB:=hn.dB (S:=FF) r.cD (mN h_);obtain⟨C0,C1,C2,C3,rfl⟩:=hB.shape;refine cF (cE hw (fun _ w' v w2=>dW w2 (Nf w' w2) v (Rat.divInt a b)) (fun O w' r=>wJ (Rel.old r (cC w)) (hA.rel r (cC w)) (hB.rel r (cC w)) h (by omega) (by omega)) ?_);rintro O _ _ _ ON r he hw h_ hn;have hP:=hn.dB (S:=FF) r.cD (mN h_);obtain⟨E0,E1,E2,E3,E4,E5,E6,E7,rfl⟩:=hP.shape;refine cF (cE hw (fun _ w' v w2=>cT w2 (Nf w' w2) v (Rat.divInt a b)) (fun O w' r=>rA (Rel.old r (cC w)) (hP.rel r (cC w)) (by omega)) ?_);rintro O _ _ _ OZ r he hw h_ hn;have hC:=hn.dB (S:=FF) r.cD (mN h_);obtain⟨F0,F1,F2,F3,F4,F5,F6,F7,rfl⟩:=hC.shape;exact rtn hw fun ρe we re=>.inr ⟨h,_,rfl,hC.out re (cC w)⟩
theorem MG(ad:Addr)(i j:Nat):(ad.add i).add j=ad.add (i+j):=by
 unfold Addr.add;split<;>split<;>simp_all<;>omega
def q9(w:World)(S:Nat->Prop)(v:Value)(q:Rat):Prop:=∃a b,iO w S v a b∧ratio a b=q∧ln a.natAbs<=100000∧ln b.natAbs<=100000
theorem q9.cJ{w2:World}{v:Value}(h:q9 w S v q)(hk:∀g,S g->w2.heap[g]? =w.heap[g]?):q9 w2 S v q:=by
 obtain⟨a,b,h1,h2⟩:=h;exact⟨a,b,h1.cJ hk,h2⟩
theorem q9.shape{v:Value}(h:q9 w S v q):∃b a n c b2 a2 n2 c2,v= .agg #[.bool b,.slice a n c,.bool b2,.slice a2 n2 c2]:=by
 obtain⟨a,b,h1,_⟩:=h;exact h1.shape
theorem om(q:Rat):ratio q.num q.den=q:=by rw[ratio,aJ (gK q),Rat.num_divInt_den]
theorem cT.v{v:Value}(h:cT w S v q)(hl:rl q<=100000):q9 w S v q:=
 ⟨_,_,h.r,om q,aX (fm q) hl,aX (fF q) hl⟩
section
variable{S S':Nat->Prop}{H:Hp}{nx:Nat}{iv iv':Iv}{B:Nat}{w w' w2:World}{O:Nat->Sx.dx}{v:Value}{q:Rat}
end
theorem Gu{v:Value}(hS:Old S w)(hp:q9 w S v p)(hq:q9 w S u q):eA PG N.vK #[v,u] w (eF w fun v' w2=>cT w2 (Nf w w2) v' (p+q)):=by
 obtain⟨a,b,h1,rfl,h2,h3⟩:=hp;obtain⟨c,d,k1,rfl,k2,k3⟩:=hq;exact MA hS h1 k1 h2 h3 k2 k3
theorem Aa{v:Value}(hS:Old S w)(hp:q9 w S v p)(hq:q9 w S u q):eA PG N.vJ #[v,u] w (eF w fun v' w2=>cT w2 (Nf w w2) v' (p*q)):=by
 obtain⟨a,b,h1,rfl,h2,h3⟩:=hp;obtain⟨c,d,k1,rfl,k2,k3⟩:=hq;exact MB hS h1 k1 h2 h3 k2 k3
theorem LG{v:Value}(hS:Old S w)(hp:q9 w S v p)(hq:q9 w S u q):eA PG N.vN #[v,u] w (eF w fun v' w2=>cT w2 (Nf w w2) v' (p-q)):=by
 obtain⟨a,b,h1,rfl,h2,h3⟩:=hp;obtain⟨c,d,k1,rfl,k2,k3⟩:=hq;exact MC hS h1 k1 h2 h3 k2 k3
theorem D6{v:Value}(hS:Old S w)(hp:q9 w S v p)(hq:q9 w S u q):eA PG N.vI #[v,u] w (eF w fun v' _=>v'= .int .i64 (rs (p-q))):=by
 obtain⟨a,b,h1,rfl,h2,h3⟩:=hp;obtain⟨c,d,k1,rfl,k2,k3⟩:=hq;exact MD hS h1 k1 h2 h3 k2 k3
theorem OA{v:Value}(hS:Old S w)(hp:q9 w S v p)(hq:q9 w S u q):eA PG N.vL #[v,u] w (eF w fun v' w2=>(q=0∧v'= .tuple #[Ap,.int .i64 9])∨(q≠0∧∃r,v'= .tuple #[r,.int .i64 0]∧cT w2 (Nf w w2) r (p / q))):=by
 obtain⟨a,b,h1,rfl,h2,h3⟩:=hp;obtain⟨c,d,k1,rfl,k2,k3⟩:=hq;exact ME hS h1 k1 h2 h3 k2 k3
end Go.Ex
namespace Go.Ex
theorem Nk(q:Rat):rs (-q)= -rs q:=by rw[rs,rs,Rat.neg_num,Int.sign_neg]
end Go.Ex
namespace Go.Ex
open Go Go.Sx Go.Proofs
variable{b:Bool}{x z:Int}{cs:List Int}{ls:List Nat}{S:Nat->Prop}{lv:Value}{w:World}
def fY(w:World)(S:Nat->Prop)(v:Value)(k:Nat)(z:Int):Prop:=∃neg ls,uY w S v neg ls∧sg neg (val ls)=z∧ls.length<=k
theorem fY.cJ{w2:World}{v:Value}{k:Nat}(h:fY w S v k z)(hk:∀g,S g->w2.heap[g]? =w.heap[g]?):fY w2 S v k z:=by
 obtain⟨n,l,h1,h2⟩:=h;exact⟨n,l,h1.cJ hk,h2⟩
theorem fY.cK{S':Nat->Prop}{v:Value}{k:Nat}(h:fY w S v k z)(hk:∀g,S g->S' g):fY w S' v k z:=by
 obtain⟨n,l,h1,h2⟩:=h;exact⟨n,l,h1.cK hk,h2⟩
theorem fY.r{v:Value}{k:Nat}(h:fY w S v k z):j9 w S v z:=by
 obtain⟨n,l,h1,h2,_⟩:=h;exact⟨n,l,h1,h2⟩
theorem fY.shape{v:Value}{k:Nat}(h:fY w S v k z):∃b a n c,v= .agg #[.bool b,.slice a n c]:=h.r.shape
theorem dL.l{v:Value}{k:Nat}(h:dL w S v z)(hk:ln z.natAbs<=k):fY w S v k z:=by
 obtain⟨l,h1,h2,h3⟩:=h;obtain⟨_,_,hl⟩:=h1;have:=eO hl.lm h2;rw[h3]at this;exact⟨_,l,⟨_,‹_›,hl⟩,by rw[h3,CT],by omega⟩
section
variable{S S':Nat->Prop}{H:Hp}{nx:Nat}{iv iv':Iv}{B:Nat}{w w' w2:World}{O:Nat->Sx.dx}{v:Value}{k:Nat}{z:Int}
theorem fY.rel(h:fY w (Cv S B iv) v k z)(r:Rel H nx iv B w O w')(hS:∀g,S g->g<B):fY w' (Cv S B iv) v k z:=h.cJ fun _ hg=>Rel.same r hS hg
theorem fY.cG(h:fY w (Cv S B iv) v k z)(r:Rel H nx iv B w O w')(hS:∀g,S g->g<B)(he:Ext w' w2)(hm:∀p,p∈iv->p∈iv'):fY w2 (Cv S B iv') v k z:=
 ((h.rel r hS).cJ fun g hg=>he.block g (Rel.old r hS g hg)).cK fun _ hg=>hg.mono hm
end
section
variable{S S':Nat->Prop}{H:Hp}{nx:Nat}{iv iv':Iv}{B:Nat}{w w' w2:World}{O:Nat->Sx.dx}{v:Value}{cs:List Int}
theorem eD.rel(h:eD w (Cv S B iv) v cs)(r:Rel H nx iv B w O w')(hS:∀g,S g->g<B):eD w' (Cv S B iv) v cs:=eD.cJ h fun _ hg=>Rel.same r hS hg
theorem eD.cG(h:eD w (Cv S B iv) v cs)(r:Rel H nx iv B w O w')(hS:∀g,S g->g<B)(he:Ext w' w2)(hm:∀p,p∈iv->p∈iv'):eD w2 (Cv S B iv') v cs:=
 (eD.cJ (h.rel r hS) fun g hg=>he.block g (Rel.old r hS g hg)).cK fun _ hg=>hg.mono hm
theorem eD.dB(h:eD w2 (Nf w' w2) v cs)(hB:B<=w'.heap.size)(hm:(w'.heap.size,w2.heap.size)∈iv):eD w2 (Cv S B iv) v cs:=eD.cK h fun _ hg=>hg.dB hB hm
end
def sgn(b:Bool):Int:=if b then -1 else 1
theorem aAO(b:Bool):sgn b=1∨sgn b= -1:=by cases b<;>simp[sgn]
theorem NC(b:Bool)(n:Nat):sgn b*(n:Int)=sg b n:=by cases b<;>simp[sgn,sg]
theorem HV{v:Value}{neg:Bool}(hS:Old S w)(h:uY w S v neg ls)(hl:ls.length<=40000000):
  eA PG N.mq #[v] w (eF w fun v' w2=>eD w2 (Nf w w2) v' (eG (sgn neg) ls)):=by
 obtain⟨lv,rfl,hL⟩:=h;have PO:=hL.lm;obtain⟨a,c,rfl,hc,Ov⟩:=hL.sl;refine vg (by simp) ?_
 cases neg with
 |true=>
  refine⟨Nat×World,fun z=>⟨[(1,pP 0 0),(3,.o (.v (.int .i64 (-1)))),(4,.o (.w 1 (2*z.1))),(5,iZ z.1)],[(1,.vec T.int 1 ((eG (-1) (ls.take z.1)).map (Value.int .i64))),(0,.box T.Int [.v (.bool true),.v (.slice a ls.length c)])],2,[],z.2⟩,fun z=>ls.length-z.1,
   fun z=>eE w.heap.size w z.2∧z.1<=ls.length,?_,?_⟩
  ·intro O w' r
   exact⟨(0,w'),⟨r.cQ,by simp⟩,Sub.nil 4 T.int 1 rfl (by simp[j8,SV.sc,At.sc,fa]) r fun ρ1 r1=>
    Sub.gn [] r1⟩
  rintro⟨i,w1⟩ ⟨hw,hi⟩;dsimp only at hw hi ⊢;have Rq:((eG (-1) (ls.take i)).map (Value.int .i64)).length=2*i:=by rw[aK,iL,aW];omega
  refine dK.mk ?_ ?_<;>intro h
  ·have h:i<ls.length:=by simpa using h
   obtain⟨x,hx⟩:∃x,ls[i]? =some x:=⟨_,aB h⟩
   have Ps:=PO x (aC hx);obtain⟨ad,rfl,q1,q2⟩:=Ov i x hx;have Tz:eG (-1) (ls.take (i+1))=eG (-1) (ls.take i)++[(-1)*((x % 65536:Nat):Int),(-1)*((x / 65536:Nat):Int)]:=by rw[List.take_add_one,hx,Option.toList_some,ov];rfl
   refine⟨ad,rfl,by omega,.int .u32 x,fun O w' r=>?_,?_⟩
   ·rw[aE,aT];exact kV hS hw r q1 q2
   refine⟨(x:Int),wo,by decide,((x % 65536:Nat):Int),rfl,(-1)*((x % 65536:Nat):Int),wo,by decide,((x / 65536:Nat):Int),by rw[show (x:Int).tdiv 65536=((x / 65536:Nat):Int)from rfl,wrap64]<;>omega,(-1)*((x / 65536:Nat):Int),wo,?_⟩;refine .inl ?_;refine⟨by rw[Rq,aT],by omega,by unfold maxLen;omega,((i+1:Nat):Int),wo,?_⟩;intro ρ3 w3 r3;have Sw:(eG (-1) (ls.take (i+1))).map (Value.int .i64)=(eG (-1) (ls.take i)).map (Value.int .i64)++[.int .i64 ((-1)*((x % 65536:Nat):Int)),.int .i64 ((-1)*((x / 65536:Nat):Int))]:=by
    rw[Tz];simp
   exact⟨(i+1,w3),⟨hw.tr r3.cQ,by dsimp only;omega⟩,Sub.gn [(1,3)] r3 ⟨by dsimp only;rw[Sw];rfl,rfl,trivial⟩,by dsimp only;omega⟩
  have h:i=ls.length:=by
   have:¬i<ls.length:=by simpa using h
   omega
  subst h;rw[bD]at Rq ⊢;intro ρe we re;have OE:=re.Du (id:=1) (m:=2*ls.length) rfl (by rw[Rq,aT]) (by decide);have Px:=rB OE (by rw[iL]) (by unfold maxLen;omega);refine⟨_,rfl,hw.tr re.cQ,eD.cK Px fun g hg=>.inr ?_⟩;have:=ownsRow.low OE g hg;exact this
 |false=>
  refine⟨Nat×World,fun z=>⟨[(1,pP 0 0),(3,.o (.v (.int .i64 (1)))),(4,.o (.w 1 (2*z.1))),(5,iZ z.1)],[(1,.vec T.int 1 ((eG (1) (ls.take z.1)).map (Value.int .i64))),(0,.box T.Int [.v (.bool false),.v (.slice a ls.length c)])],2,[],z.2⟩,fun z=>ls.length-z.1,
   fun z=>eE w.heap.size w z.2∧z.1<=ls.length,?_,?_⟩
  ·intro O w' r
   exact⟨(0,w'),⟨r.cQ,by simp⟩,Sub.nil 4 T.int 1 rfl (by simp[j8,SV.sc,At.sc,fa]) r fun ρ1 r1=>
    Sub.gn [] r1⟩
  rintro⟨i,w1⟩ ⟨hw,hi⟩;dsimp only at hw hi ⊢;have Rq:((eG (1) (ls.take i)).map (Value.int .i64)).length=2*i:=by rw[aK,iL,aW];omega
  refine dK.mk ?_ ?_<;>intro h
  ·have h:i<ls.length:=by simpa using h
   obtain⟨x,hx⟩:∃x,ls[i]? =some x:=⟨_,aB h⟩
   have Ps:=PO x (aC hx);obtain⟨ad,rfl,q1,q2⟩:=Ov i x hx;have Tz:eG (1) (ls.take (i+1))=eG (1) (ls.take i)++[(1)*((x % 65536:Nat):Int),(1)*((x / 65536:Nat):Int)]:=by rw[List.take_add_one,hx,Option.toList_some,ov];rfl
   refine⟨ad,rfl,by omega,.int .u32 x,fun O w' r=>?_,?_⟩
   ·rw[aE,aT];exact kV hS hw r q1 q2
   refine⟨(x:Int),wo,by decide,((x % 65536:Nat):Int),rfl,(1)*((x % 65536:Nat):Int),wo,by decide,((x / 65536:Nat):Int),by rw[show (x:Int).tdiv 65536=((x / 65536:Nat):Int)from rfl,wrap64]<;>omega,(1)*((x / 65536:Nat):Int),wo,?_⟩;refine .inl ?_;refine⟨by rw[Rq,aT],by omega,by unfold maxLen;omega,((i+1:Nat):Int),wo,?_⟩;intro ρ3 w3 r3;have Sw:(eG (1) (ls.take (i+1))).map (Value.int .i64)=(eG (1) (ls.take i)).map (Value.int .i64)++[.int .i64 ((1)*((x % 65536:Nat):Int)),.int .i64 ((1)*((x / 65536:Nat):Int))]:=by
    rw[Tz];simp
   exact⟨(i+1,w3),⟨hw.tr r3.cQ,by dsimp only;omega⟩,Sub.gn [(1,3)] r3 ⟨by dsimp only;rw[Sw];rfl,rfl,trivial⟩,by dsimp only;omega⟩
  have h:i=ls.length:=by
   have:¬i<ls.length:=by simpa using h
   omega
  subst h;rw[bD]at Rq ⊢;intro ρe we re;have OE:=re.Du (id:=1) (m:=2*ls.length) rfl (by rw[Rq,aT]) (by decide);have Px:=rB OE (by rw[iL]) (by unfold maxLen;omega);refine⟨_,rfl,hw.tr re.cQ,eD.cK Px fun g hg=>.inr ?_⟩;have:=ownsRow.low OE g hg;exact this
def BY(cs:List Int)(n:Nat)(z:Int):Prop:=dS cs=z∧cs.length<=n∧(∀c∈cs,-65535<=c∧c<=65535)∧(0<=z->∀c∈cs,0<=c)
theorem BZ(s:Int)(h:val ls=0):∀c∈eG s ls,c=0:=fun c hc=>by
 induction ls with
 |nil=>cases hc
 |cons l r ih=>
  have h:l+4294967296*val r=0:=h;have h1:l=0:=by omega
  have h2:val r=0:=by omega
  subst h1;rw[eG]at hc;rcases List.mem_cons.1 hc with rfl|hc
  ·simp
  rcases List.mem_cons.1 hc with rfl|hc
  ·simp
  ·exact ih h2 hc
theorem fY.GA{v:Value}{k:Nat}(h:fY w S v k z):∃b a ls c,v= .agg #[.bool b,.slice a ls.length c]∧dQ w S (.slice a ls.length c) ls∧sg b (val ls)=z∧ls.length<=k:=by
 obtain⟨b,ls,⟨lv,rfl,hl⟩,hz,hk⟩:=h;obtain⟨a,c,rfl,_⟩:=hl.sl;exact⟨b,a,ls,c,rfl,hl,hz,hk⟩
theorem fY.ln{v:Value}{k:Nat}(h:fY w S v k z):ln z.natAbs<=k:=by
 obtain⟨b,a,ls,c,_,hl,hz,hk⟩:=h.GA;rw[<-hz,so];exact Lz hl.lm hk
theorem fY.neg{k:Nat}(h:fY w S (.agg #[.bool b,lv]) k z):fY w S (.agg #[.bool (!b),lv]) k (-z):=by
 obtain⟨b,ls,⟨lv,e,hl⟩,hz,hk⟩:=h;simp only[Value.agg.injEq,Array.mk.injEq,List.cons.injEq,Value.bool.injEq,and_true]at e;obtain⟨rfl,rfl⟩:=e;refine⟨_,ls,⟨_,rfl,hl⟩,?_,hk⟩;rw[<-hz]
 cases b<;>simp[sg]
theorem fY.abs{k:Nat}(h:fY w S (.agg #[.bool b,lv]) k z):fY w S (.agg #[.bool false,lv]) k (z.natAbs:Int):=by
 obtain⟨b,ls,⟨lv,e,hl⟩,hz,hk⟩:=h;simp only[Value.agg.injEq,Array.mk.injEq,List.cons.injEq,Value.bool.injEq,and_true]at e;obtain⟨rfl,rfl⟩:=e;exact⟨_,ls,⟨_,rfl,hl⟩,by rw[<-hz,so];rfl,hk⟩
theorem rD{v:Value}{k:Nat}(hS:Old S w)(h:fY w S v k z)(hk:k<=40000000):
  eA PG N.mq #[v] w (eF w fun v' w2=>∃cs,eD w2 (Nf w w2) v' cs∧BY cs (2*k) z):=by
 obtain⟨b,ls,hi,hz,hl⟩:=h;have PO:Lm ls:=by obtain⟨_,_,h⟩:=hi;exact h.lm
 refine(HV hS hi (by omega)).mono fun _ w2 ⟨v2,e1,e2,e3⟩=>⟨v2,e1,e2,_,e3,by rw[DI,NC,hz],by rw[iL];omega,zj (aAO b) PO,fun h0=>?_⟩
 cases b with
 |false=>exact fun c hc=>(x6 PO c hc).1
 |true=>
  rw[LP]at hz;exact fun c hc=>by rw[BZ _ (show val ls=0 by omega) c hc];decide
theorem HW{v:Value}{n:Nat}(hS:Old S w)(h:eD w S v cs)(hb:BY cs n z)(hn:n<=100000000):
  eA PG N.kH #[v] w (eF w fun v' w2=>dL w2 (Nf w w2) v' z):=by
 have:=wM hS h (fun c hc=>by have:=hb.2.2.1 c hc;omega) (by have:=hb.2.1;omega);rw[hb.1]at this;exact this
theorem MH{v:Value}{k:Nat}(hS:Old S w)(hx:fY w S v k x)(hk:k<=40000000):
  eA PG N.CJ #[v] w (eF w fun v' w2=>dL w2 (Nf w w2) v' x):=by
 have hw:=bR w;replace hx:=hx.cK (S':=Cv S w.heap.size []) fun _ h=>.inl h;obtain⟨b1,a1,n1,c1,rfl⟩:=hx.shape;refine DX (by simp) ?_;refine cF (cE hw (fun _ w' v w2=>∃cs,eD w2 (Nf w' w2) v cs∧BY cs (2*k) (x)) (fun O w' r=>rD (Rel.old r hS) (hx.rel r hS) (by omega)) ?_);rintro O _ _ _ OJ r he hw h_ ⟨cs,k1,bcs⟩;have hc:=k1.dB (S:=FF) r.cD (mN h_);obtain⟨acs,ccs,rfl,lcs⟩:=hc.shape;refine cF (cE hw (fun _ w' v w2=>dL w2 (Nf w' w2) v (x)) (fun O w' r=>HW (Rel.old r (cC w)) (hc.rel r (cC w)) bcs (by omega)) ?_);rintro O _ _ _ OG r he hw h_ hn;have hC:=hn.dB (S:=FF) r.cD (mN h_);obtain⟨A0,A1,A2,A3,rfl⟩:=hC.shape;exact rtn hw fun ρe we re=>hC.out re (cC w)
theorem mA{v:Value}{k:Nat}(hS:Old S w)(hx:fY w S v k x)(hk:k<=40000000):
  eA PG N.xJ #[v] w (eF w fun v' w2=>dL w2 (Nf w w2) v' (-x)):=by
 have hw:=bR w;replace hx:=hx.cK (S':=Cv S w.heap.size []) fun _ h=>.inl h;obtain⟨b1,a1,n1,c1,rfl⟩:=hx.shape;replace hx:=hx.neg;refine AR (by simp) ?_;refine cF (cE hw (fun _ w' v w2=>dL w2 (Nf w' w2) v (-x)) (fun O w' r=>MH (Rel.old r hS) (hx.rel r hS) hk) ?_);rintro O _ _ _ OJ r he hw h_ hn;have hC:=hn.dB (S:=FF) r.cD (mN h_);obtain⟨A0,A1,A2,A3,rfl⟩:=hC.shape;exact rtn hw fun ρe we re=>hC.out re (cC w)
theorem yU{v:Value}{k:Nat}(hS:Old S w)(hx:fY w S v k x)(hk:k<=40000000):
  eA PG N.zq #[v] w (eF w fun v' w2=>dL w2 (Nf w w2) v' ((x.natAbs:Int))):=by
 have hw:=bR w;replace hx:=hx.cK (S':=Cv S w.heap.size []) fun _ h=>.inl h;obtain⟨b1,a1,n1,c1,rfl⟩:=hx.shape;replace hx:=hx.abs;refine BN (by simp) ?_;refine cF (cE hw (fun _ w' v w2=>dL w2 (Nf w' w2) v ((x.natAbs:Int))) (fun O w' r=>MH (Rel.old r hS) (hx.rel r hS) hk) ?_);rintro O _ _ _ OJ r he hw h_ hn;have hC:=hn.dB (S:=FF) r.cD (mN h_);obtain⟨A0,A1,A2,A3,rfl⟩:=hC.shape;exact rtn hw fun ρe we re=>hC.out re (cC w)
theorem NY{v:Value}{i:Nat}(hS:Old S w)(h:eD w S v cs):
  eA PG N.FJ #[v,.int .i64 i] w (eF w fun v' _=>v'= .int .i64 (cs.getD i 0)):=by
 obtain⟨a,c,rfl,hc⟩:=h.shape;refine FM (by simp) ?_;refine dK.mk ?_ ?_<;>intro hi
 ·have hi:i<cs.length:=by simpa using hi
  obtain⟨x,hx⟩:∃x,cs[i]? =some x:=⟨_,aB hi⟩
  obtain⟨ad,rfl,q1,q2⟩:=h.load hx;refine⟨ad,rfl,by omega,.int .i64 x,fun O w' r=>?_,?_⟩
  ·rw[aE];exact kV hS eE.refl r q1 q2
  intro O w2 r;exact⟨_,rfl,r.cQ,by rw[List.getD,hx];rfl⟩
 ·have hi:cs.length<=i:=by
   have:¬i<cs.length:=by simpa using hi
   omega
  intro O w2 r;exact⟨_,rfl,r.cQ,by rw[List.getD,List.getElem?_eq_none hi];rfl⟩
theorem val_zero(h:∀x∈ls,x=0):val ls=0:=by
 induction ls with
 |nil=>rfl
 |cons l r ih=>rw[val,h l aG,ih fun x hx=>h x (List.mem_cons_of_mem _ hx)]
theorem ND{x:Nat}(h:x∈ls)(hx:x≠0):0<val ls:=by
 induction ls with
 |nil=>cases h
 |cons l r ih=>
  rw[val];rcases List.mem_cons.1 h with rfl|h
  ·omega
  ·have:=ih h;omega
theorem ga{v:Value}(hS:Old S w)(hx:j9 w S v x):
  eA PG N.zn #[v] w (eF w fun v' _=>v'= .int .i64 x.sign):=by
 obtain⟨b,ls,⟨lv,rfl,h1⟩,hz⟩:=hx;obtain⟨a,c,rfl,_,ha⟩:=h1.sl;have hle1:=h1.le;refine BL (by simp) ?_
 refine⟨Nat×World,fun z=>⟨[(1,pP 0 0),(3,iZ z.1)],[(0,.box T.Int [.v (.bool b),.v (.slice a ls.length c)])],1,[],z.2⟩,fun z=>ls.length-z.1,
  fun z=>z.1<=ls.length∧eE w.heap.size w z.2∧∀x∈ls.take z.1,x=0,?_,?_⟩
 ·intro O w' r;exact⟨(0,w'),⟨by simp,r.cQ,by simp⟩,Sub.gn [] r⟩
 rintro⟨i,w1⟩ ⟨hi,hw,ht⟩;dsimp only at hi hw ht ⊢;refine dK.mk ?_ ?_<;>intro OC
 ·have OC:i<ls.length:=by simpa using OC
  obtain⟨y,hy⟩:∃x,ls[i]? =some x:=⟨_,aB OC⟩
  obtain⟨ad,rfl,q1,q2⟩:=ha i y hy;refine⟨ad,rfl,by omega,.int .u32 y,fun O w' r=>by rw[aE,aT];exact kV hS hw r q1 q2,?_⟩;refine dK.mk ?_ ?_<;>intro OD
  ·have OD:y≠0:=fun h=>by rw[h]at OD;simp at OD
   have hp:=ND (aC hy) OD
   cases b with
   |true=>
    rw[LP]at hz;intro O w2 r;exact⟨_,rfl,hw.tr r.cQ,by rw[bf (by omega)];rfl⟩
   |false=>
    rw[aAE]at hz;intro O w2 r;exact⟨_,rfl,hw.tr r.cQ,by rw[bj (by omega)];rfl⟩
  have OD:y=0:=by simpa using OD
  subst OD;have SS:∀x∈ls.take (i+1),x=0:=fun x hx=>by
   rw[List.take_add_one,hy]at hx;rcases bS.1 hx with hx|hx
   ·exact ht x hx
   ·simpa using hx
  refine⟨((i+1:Nat):Int),wo,?_⟩;intro ρ3 w3 r3;exact⟨(i+1,w3),⟨OC,hw.tr r3.cQ,SS⟩,Sub.gn [] r3,by dsimp only;omega⟩
 have OC:i=ls.length:=by
  have:¬i<ls.length:=by simpa using OC
  omega
 subst OC;rw[bD]at ht;intro O w2 r;refine⟨_,rfl,hw.tr r.cQ,?_⟩;rw[<-hz,val_zero ht]
 cases b<;>rfl
theorem BY.at{n:Nat}(h:BY cs n z)(i:Nat): -65535<=cs.getD i 0∧cs.getD i 0<=65535:=by
 rw[List.getD]
 cases hj:cs[i]? with
 |none=>simp
 |some d=>exact h.2.2.1 d (aC hj)
end Go.Ex
namespace Go.Sx
open Go Go.Ex Go.Proofs
variable{cs:List Int}{O:Nat->Sx.dx}
theorem Rel.NF{H:Hp}{nx:Nat}{iv:Iv}{B:Nat}{w w':World}(r:Rel H nx iv B w O w'){id m:Nat}(h:dF H id=some (.vec T.int 1 (cs.map (Value.int .i64))))(hm:m=cs.length)(hl:m<=maxLen):
  ∃S',Old S' w'∧eD w' S' ((SV.o (.w id m)).den O) cs:=by
 have OE:=r.Du (m:=m) h (by rw[aK,hm,aT]) (by decide);exact⟨_,fun g hg=>(ownsRow.low OE g hg).2,rB OE hm hl⟩
end Go.Sx
namespace Go.Ex
open Go Go.Sx Go.Proofs
variable{x y:Int}{cs:List Int}{S:Nat->Prop}{O:Nat->Sx.dx}{u:Value}{w:World}
theorem mx{H:Hp}{nx:Nat}{iv:Iv}{B:Nat}{w':World}(r:Rel H nx iv B w O w'){id m:Nat}{z:Int}(h:dF H id=some (.vec T.int 1 (cs.map (Value.int .i64))))(hm:m=cs.length)(hl:m<=100000000)
  (hb:∀c∈cs,-1152921504606846976<=c∧c<=1152921504606846976) (hz:dS cs=z):eA PG N.kH #[(SV.o (.w id m)).den O] w' (eF w' fun v' w2=>dL w2 (Nf w' w2) v' z):=by
 subst hz;obtain⟨S',h1,h2⟩:=r.NF h hm (by unfold maxLen;omega);exact wM h1 h2 hb (by omega)
theorem Au{v:Value}{k l:Nat}(hS:Old S w)(hx:fY w S v k x)(hy:fY w S u l y)(hk:k<=10000000)(hl:l<=10000000):
  eA PG N.CI #[v,u] w (eF w fun v' w2=>dL w2 (Nf w w2) v' (x+y)):=by
 have hw:=bR w;replace hx:=hx.cK (S':=Cv S w.heap.size []) fun _ h=>.inl h;replace hy:=hy.cK (S':=Cv S w.heap.size []) fun _ h=>.inl h;obtain⟨b1,a1,n1,c1,rfl⟩:=hx.shape;obtain⟨b2,a2,n2,c2,rfl⟩:=hy.shape;refine DV (by simp) ?_;refine cM hτ df [.x 0,.x 2,.x 1,.x 3,.x 4,.x 5] (by kernel_rfl) (by kernel_rfl) ?_;refine cE hw (fun _ w' v w2=>∃cs,eD w2 (Nf w' w2) v cs∧BY cs (2*k) (x)) (fun O w' r=>rD (Rel.old r hS) (hx.rel r hS) (by omega)) ?_;rintro O _ _ _ OJ r he hw h_ ⟨ca,k1,bca⟩;replace hy:=hy.cG r hS he (mC h_);have Ot:=k1.dB (S:=FF) r.cD (mN h_);obtain⟨aca,cca,rfl,lca⟩:=Ot.shape;refine cE hw (fun _ w' v w2=>∃cs,eD w2 (Nf w' w2) v cs∧BY cs (2*l) (y)) (fun O w' r=>rD (Rel.old r hS) (hy.rel r hS) (by omega)) ?_;rintro O _ _ _ OG r he hw h_ ⟨cb,k1,bcb⟩;replace Ot:=Ot.cG r (cC w) he (mC h_);have Pq:=k1.dB (S:=FF) r.cD (mN h_);obtain⟨acb,ccb,rfl,lcb⟩:=Pq.shape
 refine⟨Nat×World×Iv,fun z=>⟨[(4,pP 2 0),(5,sV aca ca.length cca),(6,sV acb cb.length ccb),(7,.o (.w 3 z.1)),(8,iZ z.1)],[(3,.vec T.int 1 (((List.range z.1).map fun j=>ca.getD j 0+cb.getD j 0).map (Value.int .i64))),(2,.box T.Int [.v (.bool false),.v (.slice none 0 0)])],4,z.2.2,z.2.1⟩,fun z=>max ca.length cb.length-z.1,
  fun z=>z.1<=max ca.length cb.length∧eE w.heap.size w z.2.1∧eD z.2.1 (Cf w z.2.2) (.slice aca ca.length cca) ca∧eD z.2.1 (Cf w z.2.2) (.slice acb cb.length ccb) cb,?_,?_⟩
 ·intro O w' r
  exact⟨(0,w',OG),⟨by simp,hw.tr r.cQ,Ot.rel r (cC w),Pq.rel r (cC w)⟩,Sub.nil 7 T.int 1 rfl (by simp[j8,SV.sc,At.sc,fa]) r fun ρ1 r1=>
   Sub.gn [] r1⟩
 rintro⟨i,w1,iv⟩ ⟨hi,hw,Ot,Pq⟩;dsimp only at hi hw Ot Pq ⊢;have l1:=bca.2.1;have l2:=bcb.2.1;refine dK.mk ?_ ?_<;>intro OC
 ·have OC:i<max ca.length cb.length:=by
   have:=aI OC;omega
  have q1:=bca.at i;have q2:=bcb.at i;refine cF (cE hw (fun _ w' v w2=>v= .int .i64 (ca.getD i 0)) (fun O w' r=>NY (Rel.old r (cC w)) (Ot.rel r (cC w))) ?_);rintro O PH v3 PD ON r he hw h_ rfl;replace Ot:=Ot.cG r (cC w) he (mC h_);replace Pq:=Pq.cG r (cC w) he (mC h_);refine cF (cE hw (fun _ w' v w2=>v= .int .i64 (cb.getD i 0)) (fun O w' r=>NY (Rel.old r (cC w)) (Pq.rel r (cC w))) ?_);rintro O _ _ _ OZ r he hw h_ rfl;replace Ot:=Ot.cG r (cC w) he (mC h_);replace Pq:=Pq.cG r (cC w) he (mC h_);refine⟨ca.getD i 0+cb.getD i 0,wo,?_⟩;refine .inl ?_;refine⟨by simp,by omega,by unfold maxLen;omega,((i+1:Nat):Int),wo,?_⟩;intro ρ3 w3 r3;have Sw:((List.range (i+1)).map fun j=>ca.getD j 0+cb.getD j 0).map (Value.int .i64)=((List.range i).map fun j=>ca.getD j 0+cb.getD j 0).map (Value.int .i64)++[.int .i64 (ca.getD i 0+cb.getD i 0)]:=by
   rw[bM,List.map_append,List.map_append];rfl
  exact⟨(i+1,w3,_),⟨OC,hw.tr r3.cQ,Ot.rel r3 (cC w),Pq.rel r3 (cC w)⟩,Sub.gn [(3,5)] r3 ⟨by dsimp only;rw[Sw];rfl,rfl,trivial⟩,by dsimp only;omega⟩
 have OC:i=max ca.length cb.length:=by
  have:=aH OC;omega
 generalize On:((List.range i).map fun j=>ca.getD j 0+cb.getD j 0)=cs;have hz:dS cs=x+y:=by
  rw[<-On,zh,zi,ph ca i (by omega),ph cb i (by omega),bca.1,bcb.1]
 have hlen:i=cs.length:=by rw[<-On];simp
 have OW:∀c∈cs,-1152921504606846976<=c∧c<=1152921504606846976:=fun c hc=>by
  rw[<-On]at hc;obtain⟨j,_,rfl⟩:=aU.1 hc;have:=bca.at j;have:=bcb.at j;omega
 refine cF (cE hw (fun _ w' v w2=>dL w2 (Nf w' w2) v (x+y)) (fun O w' r=>mx r rfl hlen (by omega) OW hz) ?_);rintro O _ _ _ ON r he hw h_ hn;have hC:=hn.dB (S:=FF) r.cD (mN h_);obtain⟨A0,A1,A2,A3,rfl⟩:=hC.shape;exact rtn hw fun ρe we re=>hC.out re (cC w)
theorem Dw{v:Value}{k l:Nat}(hS:Old S w)(hx:fY w S v k x)(hy:fY w S u l y)(hk:k<=10000000)(hl:l<=10000000):
  eA PG N.zt #[v,u] w (eF w fun v' w2=>dL w2 (Nf w w2) v' (x-y)):=by
 have QP:=hy.ln;have hw:=bR w;replace hx:=hx.cK (S':=Cv S w.heap.size []) fun _ h=>.inl h;replace hy:=hy.cK (S':=Cv S w.heap.size []) fun _ h=>.inl h;obtain⟨b1,a1,n1,c1,rfl⟩:=hx.shape;obtain⟨b2,a2,n2,c2,rfl⟩:=hy.shape;refine BO (by simp) ?_;refine cM hτ df [.x 0,.x 1,.x 2,.x 3,.x 4] (by kernel_rfl) (by kernel_rfl) ?_;refine cE hw (fun _ w' v w2=>dL w2 (Nf w' w2) v (-y)) (fun O w' r=>mA (Rel.old r hS) (hy.rel r hS) (by omega)) ?_;rintro O _ _ _ OJ r he hw h_ hn;replace hx:=hx.cG r hS he (mC h_);have hm:=hn.dB (S:=FF) r.cD (mN h_);obtain⟨A0,A1,A2,A3,rfl⟩:=hm.shape;refine cE hw (fun _ w' v w2=>dL w2 (Nf w' w2) v (x-y)) (fun O w' r=>?_) ?_
 ·have h:=Au (Rel.old r hS) (hx.rel r hS) (((hm.rel r (cC w)).l (k:=l) (by rw[bz];exact QP)).cK fun g hg=>Cv.false hg) hk hl;rw[<-Int.sub_eq_add_neg]at h;exact h
 rintro O _ _ _ OG r he hw h_ hn;have hC:=hn.dB (S:=FF) r.cD (mN h_);obtain⟨C0,C1,C2,C3,rfl⟩:=hC.shape;exact rtn hw fun ρe we re=>hC.out re (cC w)
theorem JZ{v:Value}{k l:Nat}(hS:Old S w)(hx:fY w S v k x)(hy:fY w S u l y)(hk:k<=10000000)(hl:l<=10000000):
  eA PG N.uA #[v,u] w (eF w fun v' _=>v'= .int .i64 (x-y).sign):=by
 have hw:=bR w;replace hx:=hx.cK (S':=Cv S w.heap.size []) fun _ h=>.inl h;replace hy:=hy.cK (S':=Cv S w.heap.size []) fun _ h=>.inl h;obtain⟨b1,a1,n1,c1,rfl⟩:=hx.shape;obtain⟨b2,a2,n2,c2,rfl⟩:=hy.shape;refine xt (by simp) ?_;refine cF (cE hw (fun _ w' v w2=>dL w2 (Nf w' w2) v (x-y)) (fun O w' r=>Dw (Rel.old r hS) (hx.rel r hS) (hy.rel r hS) hk hl) ?_);rintro O _ _ _ OJ r he hw h_ hn;have hd:=hn.dB (S:=FF) r.cD (mN h_);obtain⟨A0,A1,A2,A3,rfl⟩:=hd.shape;refine cF (cE hw (fun _ w' v w2=>v= .int .i64 (x-y).sign) (fun O w' r=>ga (Rel.old r (cC w)) (hd.rel r (cC w)).r) ?_);rintro O _ _ _ OG r he hw h_ rfl;exact rtn hw fun ρe we re=>rfl
end Go.Ex
namespace Go.Ex
open Go Go.Sx Go.Proofs
variable{S:Nat->Prop}
theorem Ja{x y:Int}(hx: -65535<=x∧x<=65535)(hy: -65535<=y∧y<=65535):(x*y).natAbs<=4294836225:=by
 rw[Int.natAbs_mul];exact Nat.mul_le_mul (show x.natAbs<=65535 by omega) (show y.natAbs<=65535 by omega)
theorem Ce{a b:List Int}{i k:Nat}(hk:k<=i+1)(h:i<k∨a.length<=k):iT a b i k=gL a b i:=by
 rcases h with h|h
 ·rw[gL,show i+1=k by omega]
 ·obtain⟨m,hm⟩:∃m,i+1=k+m:=⟨i+1-k,by omega⟩
  rw[gL,hm,Gs a b i k m h]
theorem iJ{w:World}{v u:Value}{k l:Nat}{x y:Int}(hS:Old S w)(hx:fY w S v k x)(hy:fY w S u l y)(hk:k<=10000000)(hl:l<=10000000):
  eA PG N.zo #[v,u] w (eF w fun v' w2=>dL w2 (Nf w w2) v' (x*y)):=by
 have hw:=bR w;replace hx:=hx.cK (S':=Cv S w.heap.size []) fun _ h=>.inl h;replace hy:=hy.cK (S':=Cv S w.heap.size []) fun _ h=>.inl h;obtain⟨b1,a1,n1,c1,rfl⟩:=hx.shape;obtain⟨b2,a2,n2,c2,rfl⟩:=hy.shape;refine BM (by simp) ?_;refine cM hτ df [.x 0,.x 2,.x 1,.x 3,.x 4,.x 5] (by kernel_rfl) (by kernel_rfl) ?_;refine cE hw (fun _ w' v w2=>∃cs,eD w2 (Nf w' w2) v cs∧BY cs (2*k) (x)) (fun O w' r=>rD (Rel.old r hS) (hx.rel r hS) (by omega)) ?_;rintro O _ _ _ OJ r he hw h_ ⟨ca,k1,bca⟩;replace hy:=hy.cG r hS he (mC h_);have Ot:=k1.dB (S:=FF) r.cD (mN h_);obtain⟨aca,cca,rfl,lca⟩:=Ot.shape;refine cE hw (fun _ w' v w2=>∃cs,eD w2 (Nf w' w2) v cs∧BY cs (2*l) (y)) (fun O w' r=>rD (Rel.old r hS) (hy.rel r hS) (by omega)) ?_;rintro O _ _ _ OG r he hw h_ ⟨cb,k1,bcb⟩;replace Ot:=Ot.cG r (cC w) he (mC h_);have Pq:=k1.dB (S:=FF) r.cD (mN h_);obtain⟨acb,ccb,rfl,lcb⟩:=Pq.shape;have l1:=bca.2.1;have l2:=bcb.2.1
 refine⟨Nat×World,fun z=>⟨[(4,pP 2 0),(5,sV aca ca.length cca),(6,sV acb cb.length ccb),(7,.o (.w 3 z.1)),(8,iN z.1)],[(3,.vec T.int 1 (((List.range z.1).map (gL ca cb)).map (Value.int .i64))),(2,.box T.Int [.v (.bool false),.v (.slice none 0 0)])],4,OG,z.2⟩,fun z=>ca.length+cb.length-z.1,
  fun z=>(z.1+1<=ca.length+cb.length∨z.1=0)∧eE w.heap.size w z.2∧eD z.2 (Cf w OG) (.slice aca ca.length cca) ca∧eD z.2 (Cf w OG) (.slice acb cb.length ccb) cb,?_,?_⟩
 ·intro O w' r
  exact⟨(0,w'),⟨by simp,hw.tr r.cQ,Ot.rel r (cC w),Pq.rel r (cC w)⟩,Sub.nil 7 T.int 1 rfl (by simp[j8,SV.sc,At.sc,fa]) r fun ρ1 r1=>
   Sub.gn [] r1⟩
 rintro⟨i,w1⟩ ⟨hi,hw,Ot,Pq⟩;dsimp only at hi hw Ot Pq ⊢;refine⟨((i+1:Nat):Int),wo,((ca.length+cb.length:Nat):Int),wo,?_⟩;refine dK.mk ?_ ?_<;>intro OC
 ·have OC:i+1<ca.length+cb.length:=by
   have:=aI OC;omega
  refine⟨(i:Int)-cb.length,wo,(i:Int)-cb.length+1,wo,?_⟩;conv=>whnf
  rw[show max 0 ((i:Int)-cb.length+1)=((i+1-cb.length:Nat):Int) by omega];obtain⟨k0,RA⟩:∃k0,k0=i+1-cb.length:=⟨_,rfl⟩
  rw[<-RA]
  refine⟨Nat×World,fun z=>⟨[(4,pP 2 0),(5,sV aca ca.length cca),(6,sV acb cb.length ccb),(7,.o (.w 3 i)),(8,iN i),(9,.o (.v (.int .i64 (iT ca cb i z.1)))),(10,iN z.1)],[(3,.vec T.int 1 (((List.range i).map (gL ca cb)).map (Value.int .i64))),(2,.box T.Int [.v (.bool false),.v (.slice none 0 0)])],4,OG,z.2⟩,fun z=>i+1-z.1,
   fun z=>k0<=z.1∧z.1<=i+1∧eE w.heap.size w z.2∧eD z.2 (Cf w OG) (.slice aca ca.length cca) ca∧eD z.2 (Cf w OG) (.slice acb cb.length ccb) cb,?_,?_⟩
  ·intro O w' r;refine⟨(k0,w'),⟨by simp,by dsimp only;omega,hw.tr r.cQ,Ot.rel r (cC w),Pq.rel r (cC w)⟩,Sub.gn [] r (hE:=⟨rfl,rfl,rfl,rfl,rfl,?_,rfl,trivial⟩)⟩;dsimp only
   rw[Gr ca cb i k0 k0 (fun j hj=>by omega) (by omega) (aF _)];rfl
  rintro⟨j,w2⟩ ⟨Ui,hj1,hw,Ot,Pq⟩;dsimp only at Ui hj1 hw Ot Pq ⊢;conv=>whnf
  refine dK.mk ?_ ?_<;>intro Ox
  ·have Ox:j<=i:=by
    have:=aI Ox;omega
   refine dK.mk ?_ ?_<;>intro hja
   ·have hja:j<ca.length:=by
     have:=aI hja;omega
    obtain⟨p,hp⟩:∃p,ca[j]? =some p:=⟨_,aB hja⟩
    obtain⟨q,hq⟩:∃q,cb[i-j]? =some q:=⟨_,aB (by omega)⟩
    obtain⟨ad,rfl,q1,q2⟩:=Ot.load hp;obtain⟨ad2,rfl,q3,q4⟩:=Pq.load hq;have e1:ca.getD j 0=p:=by rw[List.getD,hp];rfl
    have e2:cb.getD (i-j) 0=q:=by rw[List.getD,hq];rfl
    have e3:iT ca cb i (j+1)=iT ca cb i j+p*q:=by rw[iT,e1,if_pos Ox,e2]
    have m1:=bca.at j;have m2:=bcb.at (i-j);rw[e1]at m1;rw[e2]at m2;have m3:=Ja m1 m2;have m4:=mR (a:=ca) (b:=cb) (i:=i) bca.2.2.1 bcb.2.2.1 j;refine cM hτ df [.x 0,.x 1,.x 2,.x 3,.x 4,.x 5,.x 6,.x 7,.x 8,.x 9,.x 10,.x 11,.x 12,.x 13] (by kernel_rfl) (by kernel_rfl) ?_;refine⟨ad,rfl,by omega,.int .i64 p,fun O w' r=>?_,?_⟩
    ·rw[aE,cH (w:=w2) (w2:=w') (by rw[dN];exact Rel.same (S:=FF) r (cC w) q1)];exact q2
    refine⟨((i-j:Nat):Int),wo,ad2,rfl,by omega,.int .i64 q,fun O w' r=>?_,?_⟩
    ·rw[aE,cH (w:=w2) (w2:=w') (by rw[dN];exact Rel.same (S:=FF) r (cC w) q3)];exact q4
    refine⟨p*q,wo,iT ca cb i (j+1),by rw[e3,wrap64]<;>omega,((j+1:Nat):Int),wo,?_⟩;intro ρ3 w3 r3;exact⟨(j+1,w3),⟨by dsimp only;omega,by dsimp only;omega,hw.tr r3.cQ,Ot.rel r3 (cC w),Pq.rel r3 (cC w)⟩,Sub.gn [] r3,by dsimp only;omega⟩
   have hja:ca.length<=j:=by
    have:=aH hja;omega
   rw[Ce hj1 (.inr hja)];have m4:=mR (a:=ca) (b:=cb) (i:=i) bca.2.2.1 bcb.2.2.1 (i+1);refine .inl ?_;refine⟨by simp,by omega,by unfold maxLen;omega,((i+1:Nat):Int),wo,?_⟩;intro ρ3 w3 r3;have Sw:((List.range (i+1)).map (gL ca cb)).map (Value.int .i64)=((List.range i).map (gL ca cb)).map (Value.int .i64)++[.int .i64 (gL ca cb i)]:=by
    rw[bM,List.map_append,List.map_append];rfl
   exact⟨(i+1,w3),⟨.inl OC,hw.tr r3.cQ,Ot.rel r3 (cC w),Pq.rel r3 (cC w)⟩,Sub.gn [(3,5)] r3 ⟨by dsimp only;rw[Sw];rfl,rfl,trivial⟩,by dsimp only;omega⟩
  have Ox:i<j:=by
   have:=aH Ox;omega
  rw[Ce hj1 (.inl Ox)];have m4:=mR (a:=ca) (b:=cb) (i:=i) bca.2.2.1 bcb.2.2.1 (i+1);refine .inl ?_;refine⟨by simp,by omega,by unfold maxLen;omega,((i+1:Nat):Int),wo,?_⟩;intro ρ3 w3 r3;have Sw:((List.range (i+1)).map (gL ca cb)).map (Value.int .i64)=((List.range i).map (gL ca cb)).map (Value.int .i64)++[.int .i64 (gL ca cb i)]:=by
   rw[bM,List.map_append,List.map_append];rfl
  exact⟨(i+1,w3),⟨.inl OC,hw.tr r3.cQ,Ot.rel r3 (cC w),Pq.rel r3 (cC w)⟩,Sub.gn [(3,5)] r3 ⟨by dsimp only;rw[Sw];rfl,rfl,trivial⟩,by dsimp only;omega⟩
 have OC:ca.length+cb.length<=i+1:=by
  have:=aH OC;omega
 generalize On:((List.range i).map (gL ca cb))=cs;have hz:dS cs=x*y:=by
  rw[<-On,zh,Ku ca cb i OC,bca.1,bcb.1]
 have hlen:i=cs.length:=by rw[<-On];simp
 have OW:∀c∈cs,-1152921504606846976<=c∧c<=1152921504606846976:=fun c hc=>by
  rw[<-On]at hc;obtain⟨j,hj,rfl⟩:=aU.1 hc;have hj:=List.mem_range.1 hj;have:=mR (a:=ca) (b:=cb) (i:=j) bca.2.2.1 bcb.2.2.1 (j+1);rw[gL];omega
 refine cF (cE hw (fun _ w' v w2=>dL w2 (Nf w' w2) v (x*y)) (fun O w' r=>mx r rfl hlen (by omega) OW hz) ?_);rintro O _ _ _ ON r he hw h_ hn;have hC:=hn.dB (S:=FF) r.cD (mN h_);obtain⟨A0,A1,A2,A3,rfl⟩:=hC.shape;exact rtn hw fun ρe we re=>hC.out re (cC w)
end Go.Ex
namespace Go.Ex
theorem Ic{b r r2 q X n c:Int}(h:X=b*q+r)(hr:r*65536+c=b*n+r2):c+65536*X=b*(n+65536*q)+r2:=by
 rw[h,Int.mul_add,Int.mul_add,Int.mul_left_comm b 65536 q];omega
theorem Jx{x y Q R:Int}(hy:y≠0)(h:(x.natAbs:Int)=(y.natAbs:Int)*Q+R)(h0:0<=R)(h1:R<(y.natAbs:Int)):
  (if x<0∧0<R then(if (x<0)↔(y<0)then(Q+1)else -(Q+1))else(if (x<0)↔(y<0)then Q else -Q))=x / y∧(if x<0∧0<R then(y.natAbs:Int)-R else R)=x % y:=by
 have key:∀q r:Int,r+y*q=x->0<=r->r<(y.natAbs:Int)->q=x / y∧r=x % y:=by
  intro q r e1 e2 e3;have m:x % y=r:=by
   rw[<-e1,Int.add_mul_emod_self_left];rcases Int.lt_or_lt_of_ne hy with h|h
   ·rw[<-Int.emod_neg,Int.emod_eq_of_lt e2 (by omega)]
   ·exact Int.emod_eq_of_lt e2 (by omega)
  have d:=Int.mul_ediv_add_emod x y;rw[m]at d;exact⟨(Int.eq_of_mul_eq_mul_left hy (by omega)),m.symm⟩
 by_cases hx:x<0
 ·have ex:(x.natAbs:Int)= -x:=by omega
  by_cases hy':y<0
  ·have ey:(y.natAbs:Int)= -y:=by omega
   rw[ex,ey,Int.neg_mul]at h;by_cases hR:0<R
   ·rw[if_pos (show x<0∧0<R from⟨hx,hR⟩),if_pos (show x<0∧0<R from⟨hx,hR⟩),if_pos (show (x<0)↔(y<0) by simp[hx,hy'])];exact key _ _ (by rw[Int.mul_add,Int.mul_one];omega) (by omega) (by omega)
   ·rw[aJ (show ¬(x<0∧0<R) by omega),aJ (show ¬(x<0∧0<R) by omega),if_pos (show (x<0)↔(y<0) by simp[hx,hy'])];exact key _ _ (by omega) h0 h1
  ·have ey:(y.natAbs:Int)=y:=by omega
   rw[ex,ey]at h;have hn:¬((x<0)↔(y<0)):=by simp[hx,hy']
   by_cases hR:0<R
   ·rw[if_pos (show x<0∧0<R from⟨hx,hR⟩),if_pos (show x<0∧0<R from⟨hx,hR⟩),aJ hn];exact key _ _ (by rw[Int.mul_neg,Int.mul_add,Int.mul_one];omega) (by omega) (by omega)
   ·rw[aJ (show ¬(x<0∧0<R) by omega),aJ (show ¬(x<0∧0<R) by omega),aJ hn];exact key _ _ (by rw[Int.mul_neg];omega) h0 h1
 ·have ex:(x.natAbs:Int)=x:=by omega
  rw[aJ (show ¬(x<0∧0<R) by omega),aJ (show ¬(x<0∧0<R) by omega)];by_cases hy':y<0
  ·have ey:(y.natAbs:Int)= -y:=by omega
   rw[ex,ey,Int.neg_mul]at h;rw[aJ (show ¬((x<0)↔(y<0)) by simp[hx,hy'])];exact key _ _ (by rw[Int.mul_neg];omega) h0 h1
  ·have ey:(y.natAbs:Int)=y:=by omega
   rw[ex,ey]at h;rw[if_pos (show (x<0)↔(y<0) by simp[hx,hy'])];exact key _ _ (by omega) h0 h1
theorem gG(z:Int):(z<0∧z.sign= -1)∨(z=0∧z.sign=0)∨(0<z∧z.sign=1):=by
 rcases Int.lt_trichotomy z 0 with h|h|h
 ·exact .inl ⟨h,bf h⟩
 ·exact .inr (.inl ⟨h,by rw[h];rfl⟩)
 ·exact .inr (.inr ⟨h,bj h⟩)
end Go.Ex
