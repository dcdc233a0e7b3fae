/- Texts X46 to X59: lemmas, each with its conditions. -/
import Derived.Test.YtgkpbdkechfgmaaGreatP7
namespace Go.Ex
open Go Go.Sx Go.Proofs
variable{cs:List Int}{S:Nat->Prop}
theorem wV(n:Int):(n.tmod 65536<0->n % 65536=n.tmod 65536+65536)∧(¬n.tmod 65536<0->n % 65536=n.tmod 65536)∧ -65536<n.tmod 65536∧n.tmod 65536<65536:=by
 by_cases h:0<=n
 ·rw[Int.tmod_eq_emod_of_nonneg h];omega
 ·have h1:n.tmod 65536= -((-n) % 65536):=by
   have:n= -(-n):=by omega
   conv=>lhs;rw[this]
   rw[Int.neg_tmod,Int.tmod_eq_emod_of_nonneg (by omega)]
  rw[h1];omega
theorem Cq(n:Int):(n-n % 65536).tdiv 65536=n / 65536:=by
 have h:n-n % 65536=65536*(n / 65536):=by omega
 rw[h,Int.mul_tdiv_cancel_left _ (by decide)]
theorem Cr{w:World}{v:Value}(hS:Old S w)(h:eD w S v cs)(hb:∀c∈cs,-1152921504606846976<=c∧c<=1152921504606846976)(hl:cs.length<=1000000000):
  eG PG N.sE #[v] w (eL w fun v' w2=>∃o,v'= .tuple #[o,.int .i64 (db cs 0).2]∧w2.ownsRow w.heap.size T.int 1 o cs.length ((eJ (db cs 0).1).map (Value.int .i64))):=by
 obtain⟨a,c,rfl,hc⟩:=h.shape;refine wF (by simp) ?_
 refine⟨Nat×World,fun z=>⟨[(0,sV a cs.length c),(4,.o (.w 0 z.1)),(5,.o (.v (.int .i64 (db (cs.take z.1) 0).2))),(6,iZ z.1)],[(0,.vec T.int 1 ((eJ (db (cs.take z.1) 0).1).map (Value.int .i64)))],1,[],z.2⟩,fun z=>cs.length-z.1,
  fun z=>dq w.heap.size w z.2∧z.1<=cs.length,?_,?_⟩
 ·intro O w' r
  exact⟨(0,w'),⟨r.cU,by simp⟩,Sub.nil 4 T.int 1 rfl (by simp[kF,SV.sc,At.sc,fm]) r fun ρ1 r1=>
   Sub.gn [] r1⟩
 rintro⟨i,w1⟩ ⟨hw,hi⟩;dsimp only at hw hi ⊢;obtain⟨-,hdg,hlen⟩:=lE (cs.take i) 0;have Sd:((eJ (db (cs.take i) 0).1).map (Value.int .i64)).length=i:=by rw[aL,fI,hlen,ai];omega
 obtain⟨hk1,TG⟩:=kR (cs.take i) 0 (fun c hc=>hb c (List.mem_of_mem_take hc)) (by decide) (by decide);have hR:eD w1 S (.slice a cs.length c) cs:=eD.cJ h fun g hg=>hw.block g (hS g hg);refine dN.mk ?_ ?_<;>intro h
 ·have h:i<cs.length:=by simpa using h
  obtain⟨x,hx⟩:∃x,cs[i]? =some x:=⟨_,aA h⟩
  obtain⟨Sl,RG⟩:=hb x (aD hx);obtain⟨ad,rfl,q1,q2⟩:=hR.load hx;have UK:cs.take (i+1)=cs.take i++[x]:=by rw[List.take_add_one,hx];rfl
  have hsn:=DV (cs.take i) x 0;rw[<-UK]at hsn;generalize (db (cs.take i) 0).1=ds at*
  generalize (db (cs.take i) 0).2=k at*
  obtain⟨t1,t2,t3,t4⟩:=wV (x+k);have hem1:=Int.emod_nonneg (x+k) (show (65536:Int)≠0 by decide);have hem2:=Int.emod_lt_of_pos (x+k) (show (0:Int)<65536 by decide);refine⟨ad,rfl,by omega,.int .i64 x,fun O w' r=>?_,?_⟩
  ·rw[aF,cI (w:=w1) (w2:=w') (by rw[dC];exact Rel.same (S:=S) r hS (.inl q1))];exact q2
  refine⟨x+k,wo,by decide,(x+k).tmod 65536,rfl,?_⟩;refine dN.mk ?_ ?_<;>intro Qu
  ·have Qu:=t1 (aI Qu);refine⟨(x+k) % 65536,by rw[Qu,wrap64]<;>omega,x+k-(x+k) % 65536,wo,by decide,(x+k) / 65536,by rw[Cq,wrap64]<;>omega,?_⟩;refine .inl ?_;refine⟨by rw[Sd,aZ],by omega,by unfold maxLen;omega,((i+1:Nat):Int),wo,?_⟩;intro ρ3 w3 r3;have TE:(eJ (db (cs.take (i+1)) 0).1).map (Value.int .i64)=(eJ ds).map (Value.int .i64)++[.int .i64 ((x+k) % 65536)]:=by
    rw[hsn];simp[eJ,Int.toNat_of_nonneg hem1]
   have hk5:(db (cs.take (i+1)) 0).2=(x+k) / 65536:=by rw[hsn]
   exact⟨(i+1,w3),⟨hw.tr r3.cU,by dsimp only;omega⟩,Sub.gn [(0,2)] r3 ⟨by dsimp only;rw[TE];rfl,trivial⟩ ⟨rfl,rfl,by dsimp only;rw[hk5];rfl,rfl,trivial⟩,by dsimp only;omega⟩
  ·have Qu:=t2 (aH Qu);rw[<-Qu];refine⟨x+k-(x+k) % 65536,wo,by decide,(x+k) / 65536,by rw[Cq,wrap64]<;>omega,?_⟩;refine .inl ?_;refine⟨by rw[Sd,aZ],by omega,by unfold maxLen;omega,((i+1:Nat):Int),wo,?_⟩;intro ρ3 w3 r3;have TE:(eJ (db (cs.take (i+1)) 0).1).map (Value.int .i64)=(eJ ds).map (Value.int .i64)++[.int .i64 ((x+k) % 65536)]:=by
    rw[hsn];simp[eJ,Int.toNat_of_nonneg hem1]
   have hk5:(db (cs.take (i+1)) 0).2=(x+k) / 65536:=by rw[hsn]
   exact⟨(i+1,w3),⟨hw.tr r3.cU,by dsimp only;omega⟩,Sub.gn [(0,2)] r3 ⟨by dsimp only;rw[TE];rfl,trivial⟩ ⟨rfl,rfl,by dsimp only;rw[hk5];rfl,rfl,trivial⟩,by dsimp only;omega⟩
 ·have h:i=cs.length:=by
   have:¬i<cs.length:=by simpa using h
   omega
  subst h;rw[bF]at Sd ⊢;exact rtn hw fun ρe we re=>⟨_,rfl,re.EG (id:=0) rfl (by rw[Sd,aZ]) (by decide)⟩
end Go.Ex
namespace Go.Sx
open Go Go.Ex Go.Proofs
variable{ls:List Nat}{O:Nat->Sx.dw}
theorem Rel.MP{H:Hp}{nx:Nat}{iv:Iv}{B:Nat}{w w':World}(r:Rel H nx iv B w O w'){id t m:Nat}(h:dD H id=some (.vec t 1 (U ls)))(hm:m<=ls.length)(Pv:Lm ls)(hle:ls.length<=9223372036854775807):
  dV w' (fun g=>B<=g∧g<w'.heap.size) ((At.w id m).den O) (ls.take m):=by
 have PF:(ls.take m).length=m:=by rw[ai];omega
 rcases r.vec id t 1 _ h with⟨hn,hu⟩|⟨hn,spare,hb,hc,QS⟩
 ·have hl:ls=[]:=by cases ls with
   |nil=>rfl
   |cons a b=>simp[U]at hu
  subst hl;simp at hm;subst hm;have:(At.w id 0).den O= .slice none 0 0:=by simp[At.den,hn]
  rw[this];exact dV.nil _ _
 ·refine⟨Pv.take m,by rw[PF];omega,some ⟨(O id).g,0,none⟩,(O id).cap,by rw[PF];simp[At.den,hn],?_,fun j x hx=>⟨_,rfl,r.low id _ h hn,?_⟩⟩
  ·have h1:(U ls++spare).length=ls.length+spare.length:=by rw[List.length_append,gV]
   rw[PF];omega
  ·rw[List.getElem?_take]at hx;split at hx
   ·rw[dI,cell_of hb,aW,aK (by rw[gV];exact(aE.1 hx).1)];exact ub hx
   ·cases hx
end Go.Sx
namespace Go.Ex
open Go Go.Sx Go.Proofs
variable{ds ls:List Nat}{S:Nat->Prop}
theorem H9{n:Nat}(_hn:n<ls.length)(h0:ls[n]? =some 0):eA (ls.take (n+1))=eA (ls.take n):=by
 rw[List.take_add_one,h0];exact kh _
theorem Ha{n x:Nat}(h0:ls[n]? =some x)(hx:x≠0):eA (ls.take (n+1))=ls.take (n+1):=by
 rw[List.take_add_one,h0];exact oM _ hx
theorem GJ{w:World}{v:Value}(hS:Old S w)(h:eD w S v (eJ ds))(hd:Dg ds)(hl:ds.length<=1000000000):
  eG PG N.uQ #[v] w (eL w fun v' w2=>∃lv,v'= .agg #[.bool false,lv]∧dV w2 (Nf w w2) lv (eA (iL ds))):=by
 obtain⟨a,c,rfl,hc⟩:=h.shape;rw[fI]at hc h ⊢;refine yG (by simp) ?_
 refine⟨Nat×World,fun z=>match z.1 with
   |0=>⟨[(0,sV a ds.length c),(2,pP 0 0),(3,pP 1 0),(4,iZ 0)],[(1,.box T.Int [.v (.bool false),.v (.slice none 0 0)]),(0,.box T.Int [.v (.bool false),.v (.slice none 0 0)])],2,[],z.2⟩
   |k+1=>⟨[(0,sV a ds.length c),(2,pP 0 0),(3,pP 1 0),(4,.o (.v (.int .i64 ((2*(k+1):Nat):Int))))],[(2,.vec T.uint32 1 (U (pk ds (k+1)))),(1,.box T.Int [.v (.bool false),.w 2 (k+1)]),(0,.box T.Int [.v (.bool false),.v (.slice none 0 0)])],3,[],z.2⟩,
  fun z=>ds.length-z.1,fun z=>dq w.heap.size w z.2∧2*z.1<=ds.length+1,?_,?_⟩
 ·intro O w' r;exact⟨(0,w'),⟨r.cU,by simp⟩,Sub.gn [] r⟩
 rintro⟨k,w1⟩ ⟨hw,hi⟩;dsimp only at hw hi;have hR:eD w1 S (.slice a ds.length c) (eJ ds):=eD.cJ h fun g hg=>hw.block g (hS g hg)
 cases k with
 |zero=>
  refine dN.mk ?_ ?_<;>intro h1
  ·have h1:0<ds.length:=by
    have:=aI h1;omega
   obtain⟨d0,Sh⟩:∃x,ds[0]? =some x:=⟨_,aA h1⟩
   have hd0b:=hd d0 (aD Sh);have TO:ds.getD (2*0) 0=d0:=by show ds.getD 0 0=d0;rw[List.getD,Sh];rfl
   obtain⟨ad,rfl,q1,q2⟩:=hR.load (j:=0) (x:=(d0:Int)) (by rw[eJ,aM,Sh];rfl);refine⟨ad,rfl,by omega,.int .i64 (d0:Int),fun O w' r=>?_,?_⟩
   ·show w'.cell? (ad.add (0*1))=_;rw[cI (w:=w1) (w2:=w') (by rw[dC];exact Rel.same (S:=S) r hS (.inl q1))];exact q2
   refine⟨((0+1:Nat):Int),wo,?_⟩;refine dN.mk ?_ ?_<;>intro h2
   ·have h2:0+1<ds.length:=by
     have:=aI h2;omega
    obtain⟨d1,RW⟩:∃x,ds[0+1]? =some x:=⟨_,aA h2⟩
    have hd1b:=hd d1 (aD RW);have TQ:ds.getD (2*0+1) 0=d1:=by show ds.getD (0+1) 0=d1;rw[List.getD,RW];rfl
    obtain⟨_,Ox,q3,q4⟩:=hR.load (j:=0+1) (x:=(d1:Int)) (by rw[eJ,aM,RW];rfl);injection Ox with Ox;subst Ox;refine⟨((0+1:Nat):Int),wo,ad,rfl,by omega,.int .i64 (d1:Int),fun O w' r=>?_,?_⟩
    ·show w'.cell? (ad.add ((0+1)*1))=_;rw[cI (w:=w1) (w2:=w') (by rw[dC];exact Rel.same (S:=S) r hS (.inl q3))];exact q4
    refine⟨((65536*d1:Nat):Int),wo,((d0+65536*d1:Nat):Int),wo,?_⟩;have SU:=yZ ds 0;rw[TO,TQ]at SU;generalize d0+65536*d1=dd at*
    have hdd:dd<4294967296:=LL hd (0+1) dd (by rw[SU];simp);refine⟨(dd:Int),by rw[yP]<;>omega,?_⟩;refine .inl ?_;refine⟨by omega,by unfold maxLen;omega,((2*(0+1):Nat):Int),wo,?_⟩;intro ρ3 w3 r3;have hU:U (pk ds (0+1))=U (pk ds 0)++[.int .u32 (dd:Int)]:=by rw[SU];simp[U]
    exact⟨(0+1,w3),⟨hw.tr r3.cU,by dsimp only;omega⟩,Sub.gn [(2,3)] r3 ⟨by dsimp only;rw[hU];rfl,rfl,rfl,trivial⟩,by dsimp only;omega⟩
   ·have h2:0+1=ds.length:=by
     have:=aH h2;omega
    have TQ:ds.getD (2*0+1) 0=0:=by show ds.getD (0+1) 0=0;rw[List.getD,List.getElem?_eq_none (by omega)];rfl
    have SU:=yZ ds 0;rw[TO,TQ]at SU;obtain⟨dd,hdde⟩:∃dd,dd=d0:=⟨_,rfl⟩
    rw[<-hdde]at SU ⊢;have hdd:dd<4294967296:=by omega
    rw[show dd+65536*0=dd by omega]at SU;refine⟨(dd:Int),by rw[yP]<;>omega,?_⟩;refine .inl ?_;refine⟨by omega,by unfold maxLen;omega,((2*(0+1):Nat):Int),wo,?_⟩;intro ρ3 w3 r3;have hU:U (pk ds (0+1))=U (pk ds 0)++[.int .u32 (dd:Int)]:=by rw[SU];simp[U]
    exact⟨(0+1,w3),⟨hw.tr r3.cU,by dsimp only;omega⟩,Sub.gn [(2,3)] r3 ⟨by dsimp only;rw[hU];rfl,rfl,rfl,trivial⟩,by dsimp only;omega⟩
  ·have h1:ds=[]:=by
    have:=aH h1;exact List.eq_nil_of_length_eq_zero (by omega)
   subst h1;refine⟨World,fun z=>⟨[(2,pP 0 0),(3,pP 1 0),(6,iZ 0)],[(1,.box T.Int [.v (.bool false),.v (.slice none 0 0)]),(0,.box T.Int [.v (.bool false),.v (.slice none 0 0)])],2,[],z⟩,fun _=>0,fun z=>dq w.heap.size w z,?_,?_⟩
   ·intro O w' r;exact⟨w',hw.tr r.cU,Sub.gn [] r⟩
   intro w2 hw;dsimp only at hw ⊢;refine⟨⟨by decide,by decide,by decide⟩,none,0,0,by rfl,by rfl,by rfl,?_⟩;exact rtn hw fun ρe we re=>⟨_,rfl,dV.nil _ _⟩
 |succ k=>
  refine dN.mk ?_ ?_<;>intro h1
  ·have h1:(2*(k+1))<ds.length:=by
    have:=aI h1;omega
   obtain⟨d0,Sh⟩:∃x,ds[(2*(k+1))]? =some x:=⟨_,aA h1⟩
   have hd0b:=hd d0 (aD Sh);have TO:ds.getD (2*(k+1)) 0=d0:=by show ds.getD (2*(k+1)) 0=d0;rw[List.getD,Sh];rfl
   obtain⟨ad,rfl,q1,q2⟩:=hR.load (j:=(2*(k+1))) (x:=(d0:Int)) (by rw[eJ,aM,Sh];rfl);refine⟨ad,rfl,by omega,.int .i64 (d0:Int),fun O w' r=>?_,?_⟩
   ·show w'.cell? (ad.add ((2*(k+1))*1))=_;rw[cI (w:=w1) (w2:=w') (by rw[dC];exact Rel.same (S:=S) r hS (.inl q1))];exact q2
   refine⟨(((2*(k+1))+1:Nat):Int),wo,?_⟩;refine dN.mk ?_ ?_<;>intro h2
   ·have h2:(2*(k+1))+1<ds.length:=by
     have:=aI h2;omega
    obtain⟨d1,RW⟩:∃x,ds[(2*(k+1))+1]? =some x:=⟨_,aA h2⟩
    have hd1b:=hd d1 (aD RW);have TQ:ds.getD (2*(k+1)+1) 0=d1:=by show ds.getD ((2*(k+1))+1) 0=d1;rw[List.getD,RW];rfl
    obtain⟨_,Ox,q3,q4⟩:=hR.load (j:=(2*(k+1))+1) (x:=(d1:Int)) (by rw[eJ,aM,RW];rfl);injection Ox with Ox;subst Ox;refine⟨(((2*(k+1))+1:Nat):Int),wo,ad,rfl,by omega,.int .i64 (d1:Int),fun O w' r=>?_,?_⟩
    ·show w'.cell? (ad.add (((2*(k+1))+1)*1))=_;rw[cI (w:=w1) (w2:=w') (by rw[dC];exact Rel.same (S:=S) r hS (.inl q3))];exact q4
    refine⟨((65536*d1:Nat):Int),wo,((d0+65536*d1:Nat):Int),wo,?_⟩;have SU:=yZ ds (k+1);rw[TO,TQ]at SU;generalize d0+65536*d1=dd at*
    have hdd:dd<4294967296:=LL hd ((k+1)+1) dd (by rw[SU];simp);refine⟨(dd:Int),by rw[yP]<;>omega,?_⟩;refine .inl ?_;refine⟨by rw[gV,vX];omega,by omega,by unfold maxLen;omega,((2*((k+1)+1):Nat):Int),wo,?_⟩;intro ρ3 w3 r3;have hU:U (pk ds ((k+1)+1))=U (pk ds (k+1))++[.int .u32 (dd:Int)]:=by rw[SU];simp[U]
    exact⟨((k+1)+1,w3),⟨hw.tr r3.cU,by dsimp only;omega⟩,Sub.gn [(2,4)] r3 ⟨by dsimp only;rw[hU];rfl,rfl,rfl,trivial⟩,by dsimp only;omega⟩
   ·have h2:(2*(k+1))+1=ds.length:=by
     have:=aH h2;omega
    have TQ:ds.getD (2*(k+1)+1) 0=0:=by show ds.getD ((2*(k+1))+1) 0=0;rw[List.getD,List.getElem?_eq_none (by omega)];rfl
    have SU:=yZ ds (k+1);rw[TO,TQ]at SU;obtain⟨dd,hdde⟩:∃dd,dd=d0:=⟨_,rfl⟩
    rw[<-hdde]at SU ⊢;have hdd:dd<4294967296:=by omega
    rw[show dd+65536*0=dd by omega]at SU;refine⟨(dd:Int),by rw[yP]<;>omega,?_⟩;refine .inl ?_;refine⟨by rw[gV,vX];omega,by omega,by unfold maxLen;omega,((2*((k+1)+1):Nat):Int),wo,?_⟩;intro ρ3 w3 r3;have hU:U (pk ds ((k+1)+1))=U (pk ds (k+1))++[.int .u32 (dd:Int)]:=by rw[SU];simp[U]
    exact⟨((k+1)+1,w3),⟨hw.tr r3.cU,by dsimp only;omega⟩,Sub.gn [(2,4)] r3 ⟨by dsimp only;rw[hU];rfl,rfl,rfl,trivial⟩,by dsimp only;omega⟩
  ·have h1:ds.length<=2*(k+1):=by
    have:=aH h1;omega
   have hk:k+1=(ds.length+1) / 2:=by omega
   have SU:pk ds (k+1)=iL ds:=by rw[hk];exact LK ds
   have hlen:=vX ds (k+1);have Pv:=LL hd (k+1);rw[<-SU];obtain⟨ls,hls⟩:∃ls,ls=pk ds (k+1):=⟨_,rfl⟩
   rw[<-hls]at hlen Pv ⊢
   refine⟨by show(U (pk ds (k+1))).length=_;rw[<-hls,gV,hlen];simp,Nat×World,fun z=>⟨[(2,pP 0 0),(3,pP 1 0),(6,iZ z.1)],[(2,.vec T.uint32 1 (U ls)),(1,.box T.Int [.v (.bool false),.w 2 (k+1)]),(0,.box T.Int [.v (.bool false),.v (.slice none 0 0)])],3,[],z.2⟩,fun z=>z.1,
    fun z=>dq w.heap.size w z.2∧z.1<=k+1∧eA (ls.take z.1)=eA ls,?_,?_⟩
   ·intro O w' r;exact⟨(k+1,w'),⟨hw.tr r.cU,Nat.le_refl _,by dsimp only;rw[List.take_of_length_le (by omega)]⟩,Sub.gn [] r ⟨by dsimp only;rw[hls];rfl,rfl,rfl,trivial⟩⟩
   rintro⟨n,w2⟩ ⟨hw,hn,htr⟩;dsimp only at hw hn htr ⊢
   cases n with
   |zero=>
    refine⟨by rw[gV,hlen];simp,⟨by omega,by omega⟩,0,by rfl,?_⟩;intro ρe we re;refine⟨_,rfl,hw.tr re.cU,_,rfl,?_⟩;have:=re.MP (id:=2) (m:=0) rfl (aR _) Pv (by omega);rw[<-htr];exact this.cL fun g hg=>.inr hg
   |succ n=>
    obtain⟨x,hx⟩:∃x,ls[n]? =some x:=⟨_,aA (by omega)⟩
    refine dN.mk (fun hp=>?_) (fun hp=>absurd (aH hp) (by omega));refine⟨(n:Int),wo,by rw[gV,hlen];simp,by omega,.int .u32 (x:Int),by simpa using ub hx,?_⟩;refine dN.mk ?_ ?_<;>intro h0
    ·have h0:x=0:=by have:=eq_of_beq h0;omega
     subst h0;refine⟨(n:Int),wo,?_⟩;intro ρ3 w3 r3;exact⟨(n,w3),⟨hw.tr r3.cU,by dsimp only;omega,by dsimp only;rw[<-htr,H9 (by omega) hx]⟩,Sub.gn [] r3,by dsimp only;omega⟩
    ·have h0:x≠0:=fun e=>by rw[e]at h0;exact absurd h0 (by decide)
     refine⟨by rw[gV,hlen];simp,⟨by omega,by omega⟩,n+1,by rfl,?_⟩;intro ρe we re;refine⟨_,rfl,hw.tr re.cU,_,rfl,?_⟩;have:=re.MP (id:=2) (m:=n+1) rfl (by omega) Pv (by omega);rw[<-htr,Ha hx h0];exact this.cL fun g hg=>.inr hg
end Go.Ex
namespace Go.Ex
open Go Go.Sx Go.Proofs
variable{H:Hp}{z:Int}{iv:Iv}{cs:List Int}{b ds ls:List Nat}{xs:List Value}{B i nx:Nat}{S:Nat->Prop}{O:Nat->Sx.dw}{a a2:Option Addr}{q:Rat}{u:Value}{w w':World}
theorem uz{w2:World}{v v':Value}(hc:BG iv v)(r:Rel H nx iv B w O w')(RE:∀g,v'.ownBlock=some g->g<w2.heap.size∧(v.ownBlock=some g∨g=w'.heap.size)):
  ∀lo hi,(lo,hi)∈mD v'->hi<=w2.heap.size∧∀id b,dD H id=some b->(O id).nil=false->¬(lo<=(O id).g∧(O id).g<hi):=fun lo hi hm=>by
 obtain⟨hg,rfl⟩:=rQ.1 hm;obtain⟨h1,h2⟩:=RE _ hg;refine⟨by omega,fun id c hc' hn he=>?_⟩;rcases h2 with h2|h2
 ·exact hc.not r h2 id c hc' hn (by omega)
 ·have:=(r.low id c hc' hn).2;omega
theorem dV.out{w1:World}{v:Value}(h:dV w1 (Cv S w.heap.size iv) v ls)(r:Rel H nx iv w.heap.size w1 O w')(hS:Old S w):dV w' (Nw S w w') v ls:=
 (dV.rel h r hS).cL fun _ hg=>Cv.nw hg r
theorem I9{B' e sz m:Nat}{v:Value}(h:w.ownsRow B e sz v m xs)(hb:B'<=B):w.ownsRow B' e sz v m xs:=⟨h.1,h.2.imp id fun⟨g,cap,cur,k1,k2,k3⟩=>⟨g,cap,cur,k1,by omega,k3⟩⟩
theorem vA(a b:List Nat):eJ (a++b)=eJ a++eJ b:=by simp[eJ]
theorem rR{m:Nat}{v:Value}(h:w.ownsRow B T.int 1 v m (cs.map (Value.int .i64)))(hm:m=cs.length)(hl:m<=maxLen):eD w (fun g=>v.ownBlock=some g) v cs:=by
 subst hm;rcases h.2 with⟨rfl,h0⟩|⟨g,cap,cur,rfl,hb,hc,Uy,QS,PH,RM⟩
 ·have:cs=[]:=List.eq_nil_of_length_eq_zero h0;subst this;exact⟨by simp[maxLen],by simp,by simp,none,0,rfl,Nat.le_refl _,by simp⟩
 ·refine⟨hl,h.1,fun u hu=>by simp at hu;obtain⟨_,_,rfl⟩:=hu;rfl,_,cap,rfl,Uy,fun j u hu=>⟨_,rfl,rfl,?_⟩⟩;exact h.cells (g:=g) rfl j u hu
theorem Dg.append{a:List Nat}(ha:Dg a)(hb:Dg b):Dg (a++b):=fun x hx=>(bE.1 hx).elim (ha x) (hb x)
theorem x9(a b:List Nat):mG (a++b)=mG a+up a.length*mG b:=by
 unfold mG;rw[List.map_append,BW,aL]
theorem BI(hd:Dg ds):Nz (eA (iL ds))∧(val (eA (iL ds)):Int)=mG ds:=by
 obtain⟨h1,h2,_⟩:=zz ds hd;obtain⟨k1,k2,_⟩:=fJ (iL ds);exact⟨k2,by rw[k1,h1]⟩
theorem wW{v:Value}(hS:Old S w)(h:eD w S v cs)(hb:∀c∈cs,-1152921504606846976<=c∧c<=1152921504606846976)(hl:cs.length<=100000000):
  eG PG N.kT #[v] w (eL w fun v' w2=>dS w2 (Nf w w2) v' (dW cs)):=by
 obtain⟨a,c,rfl,hc⟩:=h.shape;obtain⟨Xa,hdg,S3⟩:=lE cs 0;obtain⟨hk1,TG⟩:=kR cs 0 hb (by decide) (by decide);rw[Int.add_zero]at Xa;refine wB (by simp) ?_;refine cH (cM (Φ:=fun _ w' v' w2=>∃o,v'= .tuple #[o,.int .i64 (db cs 0).2]∧w2.ownsRow w'.heap.size T.int 1 o cs.length ((eJ (db cs 0).1).map (Value.int .i64))) (fun O w' r=>Cr (oS hS r) (eD.cJ h fun g hg=>Rel.same (S:=S) r hS (.inl hg)) hb (by omega)) ?_);rintro O wa v1 wb r he hw ⟨o,rfl,OV⟩;have Q4:BG [(wa.heap.size,wb.heap.size)] o:=fun g hg=>⟨_,_,bL.2 rfl,(ownsRow.low OV g hg).1,(ownsRow.low OV g hg).2⟩
 replace OV:=I9 OV r.cG;generalize [(wa.heap.size,wb.heap.size)]=iv at*
 generalize hds:(db cs 0).1=ds at*
 generalize hk:(db cs 0).2=k at*
 obtain⟨ao,co,rfl,hco⟩:=fF OV;refine dN.mk ?_ ?_<;>intro Qu
 ·have Qu:=aI Qu;have hV:dW cs<0:=by
   have h1:=(zy hdg).2;rw[S3]at h1;have h2:=LJ cs.length;have h3:up cs.length*k<=up cs.length*(-1):=Int.mul_le_mul_of_nonneg_left (by omega) (by omega);omega
  obtain⟨Vp,Xb,hdl2⟩:=lE (cs.map (- ·)) 0;have QW:∀c∈cs.map (- ·),-1152921504606846976<=c∧c<=1152921504606846976:=fun c hc=>by
   obtain⟨x,hx,rfl⟩:=aV.1 hc;have:=hb x hx;omega
  obtain⟨hk1',hk2'⟩:=kR (cs.map (- ·)) 0 QW (by decide) (by decide);rw[Int.add_zero,HA,aL]at Vp;rw[aL]at hdl2;have Tx:0<=(db (cs.map (- ·)) 0).2:=by
   have h1:=(zy Xb).2;rw[hdl2]at h1;have h2:=LJ cs.length;apply Decidable.byContradiction;intro h3;have h4:up cs.length*(db (cs.map (- ·)) 0).2<=up cs.length*(-1):=Int.mul_le_mul_of_nonneg_left (by omega) (by omega);omega
  refine⟨Nat×World,fun z=>⟨[(0,sV a cs.length c),(2,pP 0 0),(3,sV ao cs.length co),(5,iZ z.1)],[(0,.box T.Int [.v (.bool false),.v (.slice none 0 0)])],1,iv,z.2⟩,fun z=>cs.length-z.1,
   fun z=>z.1<=cs.length∧dq w.heap.size w z.2∧z.2.ownsRow w.heap.size T.int 1 (.slice ao cs.length co) cs.length (((cs.take z.1).map (- ·)++(eJ ds).drop z.1).map (Value.int .i64)),?_,?_⟩
  ·intro O w' r;exact⟨(0,w'),⟨by simp,hw.tr r.cU,by simpa using gv OV Q4 r⟩,Sub.gn [] r⟩
  rintro⟨i,w1⟩ ⟨hi,hw,OV⟩;dsimp only at hi hw OV ⊢;have hR:eD w1 S (.slice a cs.length c) cs:=eD.cJ h fun g hg=>hw.block g (hS g hg);refine dN.mk ?_ ?_<;>intro OU
  ·have OU:i<cs.length:=by simpa using OU
   obtain⟨x,hx⟩:∃x,cs[i]? =some x:=⟨_,aA OU⟩
   obtain⟨Sl,RG⟩:=hb x (aD hx);obtain⟨ad,rfl,q1,q2⟩:=hR.load hx;obtain⟨go,WE⟩:∃g,ao=some ⟨g,0,none⟩:=by
    rcases OV.2 with⟨_,h0⟩|⟨g,cap,cur,e,_⟩
    ·omega
    ·injection e with e;exact⟨g,e⟩
   subst WE;refine⟨ad,rfl,by omega,.int .i64 x,fun O w' r=>?_,?_⟩
   ·rw[aF,cI (w:=w1) (w2:=w') (by rw[dC];exact Rel.same (S:=S) r hS (.inl q1))];exact q2
   refine⟨-x,wo,⟨go,0,none⟩,rfl,by omega,?_⟩;intro O w' r;have RO:=gv OV Q4 r;obtain⟨g',Qg,OZ,QB,Ot,PH⟩:=j1 (nv:=[.int .i64 (-x)]) RO rfl OU rfl (by decide);injection Qg with Qg;injection Qg with Qg;subst Qg;rw[ED (by rw[aL,List.length_append,aL,ai,List.length_drop,fI,S3];omega)]at QB;have Ox:(⟨go,0,none⟩:Addr).add ((i:Int).toNat*1)=⟨go,i*1,none⟩:=by rw[aF,dI,aW]
   have PR:=fun id b hb hn=>Q4.not r (b:=go) rfl id b hb hn;have hgoB:=(ownsRow.low OV go rfl).1;have hw':dq w.heap.size w (setCells w' ⟨go,i*1,none⟩ [.int .i64 (-x)]):=(hw.tr r.cU).tr (dq.grown Ot (fun g hg=>by injection hg with hg;subst hg;exact hgoB) r.cG);have hlist:(((cs.take i).map (- ·)++(eJ ds).drop i).map (Value.int .i64)).set i (.int .i64 (-x))=((cs.take (i+1)).map (- ·)++(eJ ds).drop (i+1)).map (Value.int .i64):=by
    rw[<-List.map_set];congr 1;have RK:((cs.take i).map (- ·)).length=i:=by rw[aL,ai];omega
    obtain⟨d,hd⟩:∃d,(eJ ds)[i]? =some d:=⟨_,aA (by rw[fI,S3];exact OU)⟩
    have Pg:(eJ ds).drop i=d::(eJ ds).drop (i+1):=by
     rw[List.drop_eq_getElem_cons (by rw[fI,S3];exact OU)];congr 1;have:=aA (l:=eJ ds) (i:=i) (by rw[fI,S3];exact OU);rw[hd]at this;injection this with this;exact this.symm
    rw[List.take_add_one,hx,List.map_append,Pg,List.set_append_right _ _ (by omega),RK,bK];simp
   refine⟨by rw[Ox],fun j hj=>by rw[Ox];exact OZ j hj,fun id b hb hn=>by rw[Ox];exact PR id b hb hn,fun w2 Oz=>?_⟩;have Oz:w2=setCells w' ⟨go,i*1,none⟩ [.int .i64 (-x)]:=by rw[Oz];exact congrArg (fun x=>setCells w' x _) Ox
   rw[<-Oz]at QB hw'
   erw [hlist]at QB
   refine⟨((i+1:Nat):Int),wo,?_⟩;intro ρ3 w3 r3;exact⟨(i+1,w3),⟨OU,hw'.tr r3.cU,gv QB Q4 r3⟩,Sub.gn [] r3,by dsimp only;omega⟩
  have OU:i=cs.length:=by
   have:¬i<cs.length:=by simpa using OU
   omega
  subst OU;rw[bF,List.drop_of_length_le (by rw[fI,S3];exact Nat.le_refl _),List.append_nil]at OV;refine⟨⟨by omega,by omega,by omega⟩,ao,cs.length,co,Fa ao co,by omega,by omega,?_⟩;refine cH (cM (Φ:=fun _ w' v' w2=>∃o,v'= .tuple #[o,.int .i64 (db (cs.map (- ·)) 0).2]∧w2.ownsRow w'.heap.size T.int 1 o cs.length ((eJ (db (cs.map (- ·)) 0).1).map (Value.int .i64))) (fun O w' r=>?_) ?_)
  ·have h8:=gv OV Q4 r;have h9:=rR h8 (by rw[aL]) (by unfold maxLen;omega);have h10:=Cr (fun g hg=>(ownsRow.low h8 g hg).2) h9 QW (by rw[aL];omega);rw[aL]at h10;exact h10
  rintro O wc v1 wd r he Om ⟨o2,rfl,PL⟩;have RB:BG ((wc.heap.size,wd.heap.size)::iv) o2:=fun g hg=>⟨_,_,aG,(ownsRow.low PL g hg).1,(ownsRow.low PL g hg).2⟩
  replace PL:=I9 PL r.cG;replace hw:=hw.tr Om;generalize (wc.heap.size,wd.heap.size)::iv=OX at*
  generalize hds2:(db (cs.map (- ·)) 0).1=ds2 at*
  generalize hkk2:(db (cs.map (- ·)) 0).2=k2 at*
  obtain⟨kn,rfl⟩:∃kn:Nat,k2=kn:=⟨k2.toNat,by omega⟩
  obtain⟨ao2,co2,rfl,hco2⟩:=fF PL;have ds2_len:ds2.length=cs.length:=hdl2;have ds2_dg:Dg ds2:=Xb;refine cH (cM (Φ:=fun _ w' v w2=>eD w2 (Nf w' w2) v (eJ (dM kn))) (fun O w' r=>by exact GI kn w' (by omega)) ?_);rintro O ws vs wt r he hb XK;have To:eD wt (Cf w ((ws.heap.size,wt.heap.size)::OX)) vs (eJ (dM kn)):=eD.cL XK fun g hg=>hg.dF r.cG aG;replace PL:=ownsRow.cJ (gv PL RB r) fun g hg=>he.block g (by have:=(ownsRow.low (gv PL RB r) g hg).2;exact this);replace RB:BG ((ws.heap.size,wt.heap.size)::OX) _:=RB.mono fun p hp=>aC _ hp;replace hw:=hw.tr hb;generalize (ws.heap.size,wt.heap.size)::OX=pC at*
  obtain⟨asp,csp,rfl,-⟩:=To.shape;rw[fI]at To ⊢;have Rc:=jg (n:=kn) (k:=4) (by omega);have hsd:=(lG kn).2
  refine .inr (sQ hτ (Nat.le_refl _) (xs:=(eJ ds2).map (Value.int .i64)) (news:=(eJ (dM kn)).map (Value.int .i64)) (m:=cs.length) (k:=(dM kn).length) (by rfl) (by rfl) (by decide) (by rfl) (by rfl) (fun O w' r=>⟨gv PL RB r,fun g hg=>RB.not r hg⟩) (by simp[eJ]) (by intro u hu;simp at hu;obtain⟨_,_,rfl⟩:=hu;rfl) (by unfold maxLen;omega) (by omega)
   (fun O w' r=>?_) (fun v' w2=>mD v') (fun O w' v' w2 r PH RE=>uz RB r RE) (fun O w' v' w2 r h5 h6 h7=>?_))
  ·obtain⟨_,_,_,a2,c2,e2,_,e3⟩:=To;injection e2 with e4 e5 e6;subst e4 e6
   cases asp with
   |none=>
    have h0:(dM kn).length=0:=by
     rcases bN (dM kn).length with h0|h0
     ·exact h0
     ·obtain⟨ad2,q1,_⟩:=e3 0 _ (aA (show 0<((eJ (dM kn)).map (Value.int .i64)).length by simp[eJ];exact h0))
      cases q1
    exact .inl ⟨csp,by rw[h0];rfl,h0⟩
   |some ad3=>
    refine .inr ⟨ad3,csp,rfl,fun j u hu=>?_⟩;obtain⟨ad2,q1,q2,q3⟩:=e3 j u hu;injection q1 with q1;subst q1;rw[cI (w:=wt) (w2:=w') (by rw[dC];exact Rel.same r (cF w) q2)];exact q3
  replace hw:dq w.heap.size w w2:=(hw.tr r.cU).tr (dq.grown h6 (fun g hg=>by
   have:=(ownsRow.low PL g hg).1;omega) r.cG)
  have hcat:(eJ ds2).map (Value.int .i64)++(eJ (dM kn)).map (Value.int .i64)=(eJ (ds2++dM kn)).map (Value.int .i64):=by rw[vA,List.map_append]
  rw[hcat]at h5;have Rp:cs.length+(dM kn).length=(eJ (ds2++dM kn)).length:=by rw[fI,List.length_append,ds2_len]
  have Vq:Dg (ds2++dM kn):=ds2_dg.append hsd;have QA:(ds2++dM kn).length<=1000000000:=by rw[List.length_append,ds2_len];omega
  obtain⟨a3,c3,rfl,-⟩:=fF h5;refine cH (cM (Φ:=fun _ w' v' w2=>∃lv,v'= .agg #[.bool false,lv]∧dV w2 (Nf w' w2) lv (eA (iL (ds2++dM kn)))) (fun O w' r=>?_) ?_)
  ·have h8:=gv h5 (BG.row _) r;have h9:=rR h8 Rp (by unfold maxLen;omega);have h10:=GJ (w:=w') (fun g hg=>(ownsRow.low h8 g hg).2) h9 Vq QA;exact h10
  rintro O wp v1 wq r he hb ⟨lv,rfl,hL⟩;have Xc:=hL.dF (S:=FF) r.cG (iv:=[(wp.heap.size,wq.heap.size)]) aG;have Xc:dV wq (Cf w ((wp.heap.size,wq.heap.size)::mD (.slice a3 (cs.length+(dM kn).length) c3))) lv (eA (iL (ds2++dM kn))):=hL.cL fun g hg=>hg.dF r.cG aG;replace hw:=hw.tr hb;generalize (wp.heap.size,wq.heap.size)::mD (.slice a3 (cs.length+(dM kn).length) c3)=ivq at*
  obtain⟨hnz,hvv⟩:=BI Vq;obtain⟨a4,n4,c4,rfl⟩:=Xc.shape;have hcv: -dW cs=mG (ds2++dM kn):=by rw[Vp,x9,(lG kn).1,ds2_len]
  obtain⟨pp,hpe,hpp⟩:=Xc.la;injection hpe with Vk hpe2 Vl;subst Vk hpe2 Vl;have hlenpos:0<pp.ls.length:=by
   rw[hpp];rcases bN (eA (iL (ds2++dM kn))).length with h0|h0
   ·rw[List.eq_nil_of_length_eq_zero h0]at hvv;simp[val]at hvv;omega
   ·exact h0
  intro ρe we re;refine⟨_,rfl,hw.tr re.cU,eA (iL (ds2++dM kn)),⟨_,?_,Xc.out re (cF w)⟩,hnz,?_⟩
  ·rw[bh hV];have:decide ((pp.ls.length:Int)>0)=true:=bh (by omega);rw[<-this];rfl
  ·have:((val (eA (iL (ds2++dM kn))):Nat):Int)= -dW cs:=by rw[hvv,hcv]
   omega
 ·have Qu:=aH Qu;obtain⟨kn,rfl⟩:∃kn:Nat,k=kn:=⟨k.toNat,by omega⟩
  have ds_len:ds.length=cs.length:=S3;have ds_dg:Dg ds:=hdg;refine cH (cM (Φ:=fun _ w' v w2=>eD w2 (Nf w' w2) v (eJ (dM kn))) (fun O w' r=>by exact GI kn w' (by omega)) ?_);rintro O ws vs wt r he hb XK;have To:eD wt (Cf w ((ws.heap.size,wt.heap.size)::iv)) vs (eJ (dM kn)):=eD.cL XK fun g hg=>hg.dF r.cG aG;replace OV:=ownsRow.cJ (gv OV Q4 r) fun g hg=>he.block g (by have:=(ownsRow.low (gv OV Q4 r) g hg).2;exact this);replace Q4:BG ((ws.heap.size,wt.heap.size)::iv) _:=Q4.mono fun p hp=>aC _ hp;replace hw:=hw.tr hb;generalize (ws.heap.size,wt.heap.size)::iv=pC at*
  obtain⟨asp,csp,rfl,-⟩:=To.shape;rw[fI]at To ⊢;have Rc:=jg (n:=kn) (k:=4) (by omega);have hsd:=(lG kn).2
  refine .inr (sQ hτ (Nat.le_refl _) (xs:=(eJ ds).map (Value.int .i64)) (news:=(eJ (dM kn)).map (Value.int .i64)) (m:=cs.length) (k:=(dM kn).length) (by rfl) (by rfl) (by decide) (by rfl) (by rfl) (fun O w' r=>⟨gv OV Q4 r,fun g hg=>Q4.not r hg⟩) (by simp[eJ]) (by intro u hu;simp at hu;obtain⟨_,_,rfl⟩:=hu;rfl) (by unfold maxLen;omega) (by omega)
   (fun O w' r=>?_) (fun v' w2=>mD v') (fun O w' v' w2 r PH RE=>uz Q4 r RE) (fun O w' v' w2 r h5 h6 h7=>?_))
  ·obtain⟨_,_,_,a2,c2,e2,_,e3⟩:=To;injection e2 with e4 e5 e6;subst e4 e6
   cases asp with
   |none=>
    have h0:(dM kn).length=0:=by
     rcases bN (dM kn).length with h0|h0
     ·exact h0
     ·obtain⟨ad2,q1,_⟩:=e3 0 _ (aA (show 0<((eJ (dM kn)).map (Value.int .i64)).length by simp[eJ];exact h0))
      cases q1
    exact .inl ⟨csp,by rw[h0];rfl,h0⟩
   |some ad3=>
    refine .inr ⟨ad3,csp,rfl,fun j u hu=>?_⟩;obtain⟨ad2,q1,q2,q3⟩:=e3 j u hu;injection q1 with q1;subst q1;rw[cI (w:=wt) (w2:=w') (by rw[dC];exact Rel.same r (cF w) q2)];exact q3
  replace hw:dq w.heap.size w w2:=(hw.tr r.cU).tr (dq.grown h6 (fun g hg=>by
   have:=(ownsRow.low OV g hg).1;omega) r.cG)
  have hcat:(eJ ds).map (Value.int .i64)++(eJ (dM kn)).map (Value.int .i64)=(eJ (ds++dM kn)).map (Value.int .i64):=by rw[vA,List.map_append]
  rw[hcat]at h5;have Rp:cs.length+(dM kn).length=(eJ (ds++dM kn)).length:=by rw[fI,List.length_append,ds_len]
  have Vq:Dg (ds++dM kn):=ds_dg.append hsd;have QA:(ds++dM kn).length<=1000000000:=by rw[List.length_append,ds_len];omega
  obtain⟨a3,c3,rfl,-⟩:=fF h5;refine cH (cM (Φ:=fun _ w' v' w2=>∃lv,v'= .agg #[.bool false,lv]∧dV w2 (Nf w' w2) lv (eA (iL (ds++dM kn)))) (fun O w' r=>?_) ?_)
  ·have h8:=gv h5 (BG.row _) r;have h9:=rR h8 Rp (by unfold maxLen;omega);have h10:=GJ (w:=w') (fun g hg=>(ownsRow.low h8 g hg).2) h9 Vq QA;exact h10
  rintro O wp v1 wq r he hb ⟨lv,rfl,hL⟩;have Xc:=hL.dF (S:=FF) r.cG (iv:=[(wp.heap.size,wq.heap.size)]) aG;have Xc:dV wq (Cf w ((wp.heap.size,wq.heap.size)::mD (.slice a3 (cs.length+(dM kn).length) c3))) lv (eA (iL (ds++dM kn))):=hL.cL fun g hg=>hg.dF r.cG aG;replace hw:=hw.tr hb;generalize (wp.heap.size,wq.heap.size)::mD (.slice a3 (cs.length+(dM kn).length) c3)=ivq at*
  obtain⟨hnz,hvv⟩:=BI Vq;obtain⟨a4,n4,c4,rfl⟩:=Xc.shape;intro ρe we re;have hcv:dW cs=mG (ds++dM kn):=by rw[Xa,x9,(lG kn).1,ds_len]
  refine⟨_,rfl,hw.tr re.cU,eA (iL (ds++dM kn)),⟨_,?_,Xc.out re (cF w)⟩,hnz,?_⟩
  ·have:¬dW cs<0:=by rw[hcv,<-hvv];omega
   rw[bP this];rfl
  ·rw[hcv,<-hvv];rfl
theorem aAW(n:Int):dW [n.tmod 65536,(n.tdiv 65536).tmod 65536,(n.tdiv 65536).tdiv 65536]=n:=by
 simp only[dW]
 have h1:=Int.mul_tdiv_add_tmod n 65536;have h2:=Int.mul_tdiv_add_tmod (n.tdiv 65536) 65536;omega
theorem mi(n:Int)(w:World)(h1: -9223372036854775808<=n)(h2:n<=9223372036854775807):
  eG PG N.FV #[.int .i64 n] w (eL w fun v w2=>dS w2 (Nf w w2) v n):=by
 refine FX (by simp) ?_;have b1:=wV n;have b2:=wV (n.tdiv 65536);have e1:=Int.mul_tdiv_add_tmod n 65536;have e2:=Int.mul_tdiv_add_tmod (n.tdiv 65536) 65536;have hsum:=aAW n;refine⟨by decide,n.tmod 65536,rfl,by decide,n.tdiv 65536,wo,by decide,_,rfl,by decide,n.tdiv 65536,wo,by decide,(n.tdiv 65536).tdiv 65536,wo,?_⟩;generalize n.tmod 65536=c0 at*
 generalize (n.tdiv 65536).tmod 65536=c1 at*
 generalize (n.tdiv 65536).tdiv 65536=c2 at*
 refine cH (cM (Φ:=fun _ w' v w2=>dS w2 (Nf w' w2) v n) (fun O w' r=>?_) ?_)
 ·rw[<-hsum];have ha:=r.wP (id:=1) (sz:=1) (n:=3) rfl rfl (by decide) (by intro u hu;simp at hu;rcases hu with rfl|rfl|rfl<;>rfl)
  exact wW (S:=fun g=>g=(O 1).g) (fun g hg=>by rw[hg];exact(r.low 1 _ rfl (r.nn 1 _ rfl (by intros;simp) (by simp))).2) (cs:=[c0,c1,c2]) ha (by
   intro c hc;simp at hc
   rcases hc with rfl|rfl|rfl<;>omega) (by simp)
 rintro O wa v1 wb r he hb hI;have hI:=hI.dF (S:=FF) r.cG (iv:=(wa.heap.size,wb.heap.size)::[]) aG;generalize (wa.heap.size,wb.heap.size)::[]=iv at*
 obtain⟨b,a,m,c,rfl⟩:=hI.shape;intro ρe we re;exact⟨_,rfl,hb.tr re.cU,hI.out re (cF w)⟩
def kD(z:Int):Value:=if z.natAbs<1073741824 then .tuple #[.int .i64 z,.bool true]else .tuple #[.int .i64 0,.bool false]
theorem jn.GK{v:Value}(h:jn w S v z):∃b a ls c,v= .agg #[.bool b,.slice a ls.length c]∧dV w S (.slice a ls.length c) ls∧sg b (val ls)=z:=by
 obtain⟨b,ls,⟨lv,h1,h2⟩,h3⟩:=h;obtain⟨a,c,rfl,_⟩:=h2.sl;exact⟨b,a,ls,c,h1,h2,h3⟩
theorem Nh{x:Nat}(h:ls[i]? =some x):wt i*x<=val ls:=by
 have hi:=(aE.1 h).1;have h1:=fC ls (i+1) hi;rw[dh h]at h1;omega
theorem aAi(h:0<i):4294967296<=wt i:=by
 obtain⟨k,rfl⟩:∃k,i=k+1:=⟨i-1,by omega⟩
 have:=zD k;rw[jQ];omega
theorem nu{v:Value}(hS:Old S w)(hI:jn w S v z):
  eG PG N.xV #[v] w (eL w fun v' _=>v'=kD z):=by
 obtain⟨b,a,ls,c,rfl,hL,hz⟩:=hI.GK;refine Ai (by simp) ?_;have hlen:=hL.le
 refine⟨Nat×World,fun y=>⟨[(1,pP 0 0),(4,.o (.v (.int .i64 (val (ls.take y.1))))),(5,iZ y.1)],[(0,.box T.Int [.v (.bool b),.v (.slice a ls.length c)])],1,[],y.2⟩,fun y=>ls.length-y.1,
  fun y=>y.1<=ls.length∧dq w.heap.size w y.2∧val (ls.take y.1)<1073741824∧(∀j,0<j->j<y.1->ls[j]? =some 0),?_,?_⟩
 ·intro O w' r;exact⟨(0,w'),⟨by simp,r.cU,by simp[val],by omega⟩,Sub.gn [] r⟩
 rintro⟨i,w1⟩ ⟨hi,hw,hv,h0⟩;dsimp only at hi hw hv h0 ⊢;refine dN.mk ?_ ?_<;>intro OU
 ·have OU:i<ls.length:=by simpa using OU
  obtain⟨a',c',e,_,PC⟩:=hL.sl;injection e with e1 e2 e3;subst e1 e3;obtain⟨x,hx⟩:∃x,ls[i]? =some x:=⟨_,aA OU⟩
  have QZ:=hL.lm x (aD hx);obtain⟨ad,rfl,q1,q2⟩:=PC i x hx;have Qr:∀{H nx iv O w'},Rel H nx iv w.heap.size w1 O w'->w'.cell? (ad.add ((i:Int).toNat*1))=some (.int .u32 x):=fun r=>by
   rw[aF,aZ];exact jY hS hw r q1 q2
  have hge:=Nh hx;refine dN.mk ?_ ?_<;>intro hp
  ·have hp:0<i:=by
    have:(i:Int)>0:=aI hp;omega
   have hw1:=aAi hp;refine⟨ad,rfl,by omega,.int .u32 x,fun O w' r=>Qr r,?_⟩;refine dN.mk ?_ ?_<;>intro OY
   ·have OY:x≠0:=by simpa using OY
    intro ρe we re;refine⟨_,rfl,hw.tr re.cU,?_⟩;have:¬z.natAbs<1073741824:=by
     have:=Nat.mul_le_mul hw1 (show 1<=x by omega);rw[<-hz,tF];omega
    show _=kD z;rw[kD,aJ this];rfl
   ·have OY:x=0:=by simpa using OY
    subst OY;refine⟨ad,rfl,by omega,.int .u32 0,fun O w' r=>Qr r,?_⟩;have Qv:val (ls.take (i+1))=val (ls.take i):=by rw[dh hx];omega
    have Rb:val (ls.take (i+1))<1073741824:=by rw[Qv];exact hv
    have h02:∀j,0<j->j<i+1->ls[j]? =some 0:=fun j h1 h2=>by
     rcases aS j i with h3|h3
     ·exact h0 j h1 h3
     ·have:j=i:=by omega
      rw[this];exact hx
    refine⟨ad,rfl,by omega,.int .u32 0,fun O w' r=>Qr r,((0:Nat):Int),by decide,((val (ls.take (i+1)):Nat):Int),by rw[Qv,wrap64]<;>omega,((i+1:Nat):Int),wo,?_⟩;intro ρ3 w3 r3;exact⟨(i+1,w3),⟨OU,hw.tr r3.cU,Rb,h02⟩,Sub.gn [] r3,by dsimp only;omega⟩
  ·have hp:i=0:=by
    have:¬((i:Int)>0):=aH hp;omega
   subst hp;refine⟨ad,rfl,by omega,.int .u32 x,fun O w' r=>Qr r,?_⟩;refine dN.mk ?_ ?_<;>intro XC
   ·have XC:=aI XC;intro ρe we re;refine⟨_,rfl,hw.tr re.cU,?_⟩;have:¬z.natAbs<1073741824:=by
     rw[<-hz,tF];rw[j9]at hge;omega
    show _=kD z;rw[kD,aJ this];rfl
   ·have XC:=aH XC;have Qv:val (ls.take (0+1))=x:=by rw[dh hx];simp[val,j9]
    have Rb:val (ls.take (0+1))<1073741824:=by rw[Qv];omega
    have h02:∀j,0<j->j<0+1->ls[j]? =some 0:=fun j h1 h2=>by
     omega
    refine⟨ad,rfl,by omega,.int .u32 x,fun O w' r=>Qr r,((x:Nat):Int),wo,((val (ls.take (0+1)):Nat):Int),by rw[Qv,wrap64]<;>simp[val]<;>omega,((0+1:Nat):Int),wo,?_⟩;intro ρ3 w3 r3;exact⟨(0+1,w3),⟨OU,hw.tr r3.cU,Rb,h02⟩,Sub.gn [] r3,by dsimp only;omega⟩
 ·have OU:i=ls.length:=by
   have:¬i<ls.length:=by simpa using OU
   omega
  subst OU;rw[bF]at hv ⊢;have PF:z.natAbs<1073741824:=by rw[<-hz,tF];exact hv
  cases b with
  |true=>
   refine⟨-(val ls:Int),wo,?_⟩;intro ρe we re;refine⟨_,rfl,hw.tr re.cU,?_⟩;show _=kD z;rw[kD,if_pos PF,<-hz,Lj];rfl
  |false=>
   intro ρe we re;refine⟨_,rfl,hw.tr re.cU,?_⟩;show _=kD z;rw[kD,if_pos PF,<-hz,aAP];rfl
theorem Cs{a b:Int}(hb:b≠0):a.tdiv (b.sign*(Nat.gcd a.natAbs b.natAbs:Nat))=(Rat.divInt a b).num∧b.tdiv (b.sign*(Nat.gcd a.natAbs b.natAbs:Nat))=((Rat.divInt a b).den:Int):=by
 have hg:0<Nat.gcd a.natAbs b.natAbs:=bq _ (by omega);obtain⟨k,hk⟩:((Nat.gcd a.natAbs b.natAbs:Nat):Int) ∣ a:=by rw[<-Int.natAbs_dvd_natAbs];exact Nat.gcd_dvd_left _ _
 obtain⟨l,hl⟩:((Nat.gcd a.natAbs b.natAbs:Nat):Int) ∣ b:=by rw[<-Int.natAbs_dvd_natAbs];exact Nat.gcd_dvd_right _ _
 have hc:(b.gcd a:Int)=(Nat.gcd a.natAbs b.natAbs:Nat):=by rw[Int.gcd_comm];rfl
 have VG:b.gcd a=Nat.gcd a.natAbs b.natAbs:=by rw[Int.gcd_comm];rfl
 rw[Rat.num_divInt,Rat.den_divInt,aJ hb,hc,VG];generalize Nat.gcd a.natAbs b.natAbs=g at*
 have hgi:(g:Int)≠0:=by omega
 have hs:b.sign*b.sign=1:=by
  rcases Int.lt_or_gt_of_ne hb with h|h
  ·rw[bl h];rfl
  ·rw[bp h];rfl
 have UG:b.sign≠0:=fun e=>by rw[e]at hs;simp at hs
 have OY:b.sign*g≠0:=Int.mul_ne_zero UG hgi;have QP:((b.natAbs / g:Nat):Int)=b.sign*l:=by
  rw[Int.natCast_ediv,show((b.natAbs:Nat):Int)=b.sign*b by
   rcases Int.lt_or_gt_of_ne hb with h|h
   ·rw[bl h];omega
   ·rw[bp h];omega]
  conv=>lhs;lhs;rhs;rw[hl]
  rw[show b.sign*(↑g*l)= ↑g*(b.sign*l) by rw[<-Int.mul_assoc,<-Int.mul_assoc,Int.mul_comm b.sign]];exact Int.mul_ediv_cancel_left _ hgi
 constructor
 ·rw[show b.sign*a / (g:Int)=b.sign*k by
   conv=>lhs;lhs;rhs;rw[hk]
   rw[show b.sign*(↑g*k)= ↑g*(b.sign*k) by rw[<-Int.mul_assoc,<-Int.mul_assoc,Int.mul_comm b.sign]]
   exact Int.mul_ediv_cancel_left _ hgi]
  conv=>lhs;lhs;rw[hk,show(g:Int)*k=(b.sign*g)*(b.sign*k) by
   rw[show (b.sign* ↑g)*(b.sign*k)=(b.sign*b.sign)*(↑g*k) by simp only[Int.mul_assoc,Int.mul_comm,Int.mul_left_comm],hs,Int.one_mul]]
  exact Int.mul_tdiv_cancel_left _ OY
 ·rw[QP]
  conv=>lhs;lhs;rw[hl,show(g:Int)*l=(b.sign*g)*(b.sign*l) by
   rw[show (b.sign* ↑g)*(b.sign*l)=(b.sign*b.sign)*(↑g*l) by simp only[Int.mul_assoc,Int.mul_comm,Int.mul_left_comm],hs,Int.one_mul]]
  exact Int.mul_tdiv_cancel_left _ OY
theorem rS(a b:Int)(w:World)(ha:a.natAbs<4611686018427387904)(hb:b.natAbs<4611686018427387904)(VD:b≠0):
  eG PG N.uJ #[.int .i64 a,.int .i64 b] w (eL w fun v w2=>dA w2 (Nf w w2) v (Rat.divInt a b)):=by
 refine xx (by simp) ?_;refine⟨-a,wo,-b,wo,?_⟩;conv=>whnf
 rw[show max a (-a)=(a.natAbs:Int) by omega,show max b (-b)=(b.natAbs:Int) by omega]
 refine⟨Nat×Nat×World,fun z=>⟨[(0,iZ a),(1,iZ b),(4,pP 0 0),(5,iZ z.1),(6,iZ z.2.1)],[(0,.box T.Rat [.v (.bool false),.v (.slice none 0 0),.v (.bool false),.v (.slice none 0 0)])],1,[],z.2.2⟩,fun z=>z.2.1,
  fun z=>dq w.heap.size w z.2.2∧Nat.gcd z.1 z.2.1=Nat.gcd a.natAbs b.natAbs∧z.1<4611686018427387904∧z.2.1<4611686018427387904,?_,?_⟩
 ·intro O w' r;exact⟨(a.natAbs,b.natAbs,w'),⟨r.cU,rfl,ha,hb⟩,Sub.gn [] r⟩
 rintro⟨x,y,w1⟩ ⟨hw,hg,hx,hy⟩;dsimp only at hw hg hx hy ⊢;conv=>whnf
 refine dN.mk ?_ ?_<;>intro h
 ·have h:0<y:=by
   have:(y:Int)>0:=aI h;omega
  refine cQ hτ dx [.x 0,.x 1,.x 2,.x 3,.x 4,.x 5] (by kernel_rfl) (by kernel_rfl) ?_;have hm:=cC x h;refine⟨by omega,((x % y:Nat):Int),rfl,?_⟩;intro ρ3 w3 r3;exact⟨(y,x % y,w3),⟨hw.tr r3.cU,by dsimp only;rw[<-hg,Nat.gcd_comm x y,Nat.gcd_rec y x,Nat.gcd_comm],hy,by dsimp only;omega⟩,Sub.gn [] r3,by dsimp only;omega⟩
 have h:y=0:=by
  have:¬(y:Int)>0:=aH h;omega
 subst h;rw[Nat.gcd_zero_right]at hg;have Rg:x≠0:=by rw[hg];exact Nat.pos_iff_ne_zero.1 (bq _ (by omega))
 obtain⟨hn,hd⟩:=Cs (a:=a) VD;rw[<-hg]at hn hd;have bn:(Rat.divInt a b).num.natAbs<=a.natAbs:=by rw[<-hn];exact Int.natAbs_tdiv_le_natAbs _ _
 have bd:((Rat.divInt a b).den:Int).natAbs<=b.natAbs:=by rw[<-hd];exact Int.natAbs_tdiv_le_natAbs _ _
 refine dN.mk ?_ ?_<;>intro Pa
 ·have Pa:=aI Pa;rw[bl Pa,Int.neg_one_mul]at hn hd;refine⟨-(x:Int),wo,?_⟩;refine cQ hτ dx [.x 0,.x 1,.x 2,.x 4,.x 5,.x 6,.x 3,.x 7,.x 8,.x 9] (by kernel_rfl) (by kernel_rfl) ?_;refine⟨by omega,(Rat.divInt a b).num,by rw[hn,wrap64]<;>omega,by omega,((Rat.divInt a b).den:Int),by rw[hd,wrap64]<;>omega,?_⟩;refine cM (Φ:=fun _ w' v w2=>dS w2 (Nf w' w2) v (Rat.divInt a b).num) (fun O w' r=>mi _ w' (by omega) (by omega)) ?_;rintro O wa v1 wb r he Om hI;replace hw:=hw.tr Om;have hN:=hI.dF (S:=FF) r.cG (iv:=(wa.heap.size,wb.heap.size)::[]) aG;generalize (wa.heap.size,wb.heap.size)::[]=iv at*
  obtain⟨b1,a1,m1,c1,rfl⟩:=hN.shape;refine cM (Φ:=fun _ w' v w2=>dS w2 (Nf w' w2) v ((Rat.divInt a b).den:Int)) (fun O w' r=>mi _ w' (by omega) (by omega)) ?_;rintro O wa v1 Pn r he Om hI;replace hw:=hw.tr Om;replace hN:=hN.cK (iv':=(wa.heap.size,Pn.heap.size)::iv) r (cF w) he fun x hx=>aC _ hx;have hD:=hI.dF (S:=FF) r.cG (iv:=(wa.heap.size,Pn.heap.size)::iv) aG;generalize (wa.heap.size,Pn.heap.size)::iv=OX at*
  obtain⟨b2,a2,m2,c2,rfl⟩:=hD.shape;exact rtn hw fun ρe we re=>(dA.of hN hD).out re (cF w)
 ·have Pa:=aH Pa;rw[bp (by omega),Int.one_mul]at hn hd;refine cQ hτ dx [.x 0,.x 1,.x 2,.x 4,.x 5,.x 6,.x 3,.x 7,.x 8,.x 9] (by kernel_rfl) (by kernel_rfl) ?_;refine⟨by omega,(Rat.divInt a b).num,by rw[hn,wrap64]<;>omega,by omega,((Rat.divInt a b).den:Int),by rw[hd,wrap64]<;>omega,?_⟩;refine cM (Φ:=fun _ w' v w2=>dS w2 (Nf w' w2) v (Rat.divInt a b).num) (fun O w' r=>mi _ w' (by omega) (by omega)) ?_;rintro O wa v1 wb r he Om hI;replace hw:=hw.tr Om;have hN:=hI.dF (S:=FF) r.cG (iv:=(wa.heap.size,wb.heap.size)::[]) aG;generalize (wa.heap.size,wb.heap.size)::[]=iv at*
  obtain⟨b1,a1,m1,c1,rfl⟩:=hN.shape;refine cM (Φ:=fun _ w' v w2=>dS w2 (Nf w' w2) v ((Rat.divInt a b).den:Int)) (fun O w' r=>mi _ w' (by omega) (by omega)) ?_;rintro O wa v1 Pn r he Om hI;replace hw:=hw.tr Om;replace hN:=hN.cK (iv':=(wa.heap.size,Pn.heap.size)::iv) r (cF w) he fun x hx=>aC _ hx;have hD:=hI.dF (S:=FF) r.cG (iv:=(wa.heap.size,Pn.heap.size)::iv) aG;generalize (wa.heap.size,Pn.heap.size)::iv=OX at*
  obtain⟨b2,a2,m2,c2,rfl⟩:=hD.shape;exact rtn hw fun ρe we re=>(dA.of hN hD).out re (cF w)
theorem vB(h:z.natAbs<1073741824):kD z= .tuple #[.int .i64 z,.bool true]:=if_pos h
theorem EH{v:Value}{x y:Int}(hS:Old S w)(hx:jn w S v x)(hy:jn w S u y)(hxs:x.natAbs<1073741824)(hys:y.natAbs<1073741824)(QH:y≠0):
  eG PG N.sf #[v,u] w (eL w fun v' w2=>dA w2 (Nf w w2) v' (Rat.divInt x y)):=by
 have hw:=bR w;replace hx:=hx.cL (S':=Cv S w.heap.size []) fun _ h=>.inl h;replace hy:=hy.cL (S':=Cv S w.heap.size []) fun _ h=>.inl h;obtain⟨bx,ax,lx,cx,rfl⟩:=hx.shape;obtain⟨b2,ay,ly,cy,rfl⟩:=hy.shape;refine sG (by simp) ?_;refine cH (cE hw (fun _ w' v w2=>v= .tuple #[.int .i64 x,.bool true]) (fun O w' r=>(nu (Rel.old r hS) (hx.rel r hS)).mono fun e w2 ⟨v2,e1,e2,e3⟩=>⟨v2,e1,e2,by rw[e3,vB hxs]⟩) ?_);rintro O QU v1 QJ Og r he hw h_ rfl;replace hx:=hx.cK r hS he (mC h_);replace hy:=hy.cK r hS he (mC h_);refine cH (cE hw (fun _ w' v w2=>v= .tuple #[.int .i64 y,.bool true]) (fun O w' r=>(nu (Rel.old r hS) (hy.rel r hS)).mono fun e w2 ⟨v2,e1,e2,e3⟩=>⟨v2,e1,e2,by rw[e3,vB hys]⟩) ?_);rintro O _ v1 _ OX r he hw h_ rfl;refine cH (cE hw (fun _ w' v w2=>dA w2 (Nf w' w2) v (Rat.divInt x y)) (fun O w' r=>rS x y w' (by omega) (by omega) QH) ?_);rintro O _ _ _ iv r he hw h_ hI;have hR:=hI.dF (S:=FF) r.cG (mN h_);obtain⟨b1,a1,m1,c1,b3,a3,m3,c3,rfl⟩:=hR.shape;exact rtn hw fun ρe we re=>hR.out re (cF w)
theorem BJ(n:Int):Rat.divInt n 1=(n:Rat):=by
 have:=Rat.num_divInt_den (n:Rat);rw[Rat.num_intCast,Rat.den_intCast]at this;exact this
theorem jz(n:Int)(w:World)(hn:n.natAbs<1073741824):
  eG PG N.qG #[.int .i64 n] w (eL w fun v' w2=>dA w2 (Nf w w2) v' (n:Rat)):=by
 have hw:=bR w;refine qT (by simp) ?_;refine cH (cM (Φ:=fun _ w' v w2=>dS w2 (Nf w' w2) v n) (fun O w' r=>mi _ w' (by omega) (by omega)) ?_);rintro O wa v1 wb r he Om hI;replace hw:=hw.tr Om;have hN:=hI.dF (S:=FF) r.cG (iv:=(wa.heap.size,wb.heap.size)::[]) aG;generalize (wa.heap.size,wb.heap.size)::[]=iv at*
 obtain⟨b1,a1,m1,c1,rfl⟩:=hN.shape;refine cH (cM (Φ:=fun _ w' v w2=>dS w2 (Nf w' w2) v 1) (fun O w' r=>mi _ w' (by omega) (by omega)) ?_);rintro O wa v1 Pn r he Om hI;replace hw:=hw.tr Om;replace hN:=hN.cK (iv':=(wa.heap.size,Pn.heap.size)::iv) r (cF w) he fun x hx=>aC _ hx;have hD:=hI.dF (S:=FF) r.cG (iv:=(wa.heap.size,Pn.heap.size)::iv) aG;generalize (wa.heap.size,Pn.heap.size)::iv=OX at*
 obtain⟨b2,a2,m2,c2,rfl⟩:=hD.shape;refine cH (cE hw (fun _ w' v w2=>dA w2 (Nf w' w2) v (Rat.divInt n 1)) (fun O w' r=>EH (Rel.old r (cF w)) (hN.rel r (cF w)).r (hD.rel r (cF w)).r hn (by decide) (by decide)) ?_);rintro O _ _ _ iv r he hw h_ hI;have hR:=hI.dF (S:=FF) r.cG (mN h_);obtain⟨b1,a1,m1,c1,b3,a3,m3,c3,rfl⟩:=hR.shape;rw[BJ]at hR;exact rtn hw fun ρe we re=>hR.out re (cF w)
theorem Ni{v:Value}{n1 n2:Bool}{ms:List Nat}(hS:Old S w)(hx:uq w S v n1 ls)(hy:uq w S u n2 ms):
  eG PG N.mx #[v,u] w (eL w fun v' _=>v'= .bool (decide (n1=n2∧ls=ms))):=by
 obtain⟨lv,rfl,h1⟩:=hx;obtain⟨mv,rfl,h2⟩:=hy;obtain⟨a,c,rfl,_,ha⟩:=h1.sl;obtain⟨b,e,rfl,_,hb⟩:=h2.sl;have hle1:=h1.le;have Ve:=h2.le;have hw:=bR w;refine vw (by simp) ?_;refine dN.mk ?_ ?_<;>intro hn
 ·have hn:n1≠n2:=fun h=>by rw[h]at hn;simp at hn
  intro O w2 r;exact⟨_,rfl,r.cU,by rw[bP (fun h=>hn h.1)];rfl⟩
 have hn:n1=n2:=by simpa using hn
 subst hn;refine dN.mk ?_ ?_<;>intro h
 ·have h:ls.length≠ms.length:=fun he=>by rw[he]at h;simp at h
  intro O w2 r;exact⟨_,rfl,r.cU,by rw[bP (fun e=>h (by rw[e.2]))];rfl⟩
 have h:ls.length=ms.length:=by
  have:(ls.length:Int)=ms.length:=by simpa using h
  omega
 refine⟨Nat×World,fun z=>⟨[(2,pP 0 0),(3,pP 1 0),(5,iZ z.1)],[(1,.box T.Int [.v (.bool n1),.v (.slice b ms.length e)]),(0,.box T.Int [.v (.bool n1),.v (.slice a ls.length c)])],2,[],z.2⟩,fun z=>ls.length-z.1,
  fun z=>z.1<=ls.length∧dq w.heap.size w z.2∧ls.take z.1=ms.take z.1,?_,?_⟩
 ·intro O w' r;exact⟨(0,w'),⟨by simp,r.cU,by simp⟩,Sub.gn [] r⟩
 rintro⟨i,w1⟩ ⟨hi,hw,ht⟩;dsimp only at hi hw ht ⊢;refine dN.mk ?_ ?_<;>intro OU
 ·have OU:i<ls.length:=by simpa using OU
  obtain⟨x,hx⟩:∃x,ls[i]? =some x:=⟨_,aA OU⟩
  obtain⟨y,hy⟩:∃x,ms[i]? =some x:=⟨_,aA (by omega)⟩
  obtain⟨ad,rfl,q1,q2⟩:=ha i x hx;obtain⟨ad2,rfl,q3,q4⟩:=hb i y hy;have PO:∀{H nx iv O w'},Rel H nx iv w.heap.size w1 O w'->w'.cell? (ad.add ((i:Int).toNat*1))=some (.int .u32 x):=fun r=>by
   rw[aF,aZ];exact jY hS hw r q1 q2
  have Qj:∀{H nx iv O w'},Rel H nx iv w.heap.size w1 O w'->w'.cell? (ad2.add ((i:Int).toNat*1))=some (.int .u32 y):=fun r=>by
   rw[aF,aZ];exact jY hS hw r q3 q4
  refine cQ hτ dx [.x 0,.x 1,.x 2,.x 3,.x 4,.x 5,.x 6,.x 7,.x 8,.x 9,.x 10] (by kernel_rfl) (by kernel_rfl) ?_;refine⟨ad,rfl,by omega,.int .u32 x,fun O w' r=>PO r,ad2,rfl,by omega,.int .u32 y,fun O w' r=>Qj r,?_⟩;refine dN.mk ?_ ?_<;>intro OY
  ·have OY:x≠y:=fun h=>by rw[h]at OY;simp at OY
   intro O w2 r;refine⟨_,rfl,hw.tr r.cU,?_⟩
   rw[bP (fun e=>OY (by
    have:=e.2;rw[this,hy]at hx;injection hx with hx
    exact hx.symm))]
   rfl
  have OY:x=y:=by
   have:(x:Int)=y:=by simpa using OY
   omega
  subst OY;have TX:ls.take (i+1)=ms.take (i+1):=by rw[List.take_add_one,List.take_add_one,ht,hx,hy]
  refine⟨((i+1:Nat):Int),wo,?_⟩;intro ρ3 w3 r3;exact⟨(i+1,w3),⟨OU,hw.tr r3.cU,TX⟩,Sub.gn [] r3,by dsimp only;omega⟩
 have OU:i=ls.length:=by
  have:¬i<ls.length:=by simpa using OU
  omega
 subst OU;rw[bF,h,bF]at ht;intro O w2 r;exact⟨_,rfl,hw.tr r.cU,by rw[bh ⟨rfl,ht⟩];rfl⟩
theorem Jr{a:List Nat}(la:Lm a)(lb:Lm b)(na:Nz a)(nb:Nz b)(h:val a=val b):a=b:=by
 have:a.length=b.length:=by
  rcases cA a.length b.length with h1|h1|h1
  ·have:=jR la nb h1;omega
  ·exact h1
  ·have:=jR lb na h1;omega
 exact val_inj la lb this h
theorem Ct{v:Value}{x y:Int}(hS:Old S w)(hx:dS w S v x)(hy:dS w S u y):
  eG PG N.mx #[v,u] w (eL w fun v' _=>v'= .bool (decide (x=y))):=by
 obtain⟨ls,h1,h2,h3⟩:=hx;obtain⟨ms,k1,k2,k3⟩:=hy;have e:decide (decide (x<0)=decide (y<0)∧ls=ms)=decide (x=y):=by
  refine decide_eq_decide.2 ⟨fun ⟨e1,e2⟩=>?_,fun e1=>?_⟩
  ·have e1:=decide_eq_decide.1 e1;rw[e2]at h3;omega
  ·subst e1;obtain⟨_,_,l1⟩:=h1;obtain⟨_,_,l2⟩:=k1;exact⟨rfl,Jr l1.lm l2.lm h2 k2 (by omega)⟩
 exact(Ni hS h1 k1).mono fun _ w2 ⟨v2,e1,e2,e3⟩=>⟨v2,e1,e2,by rw[e3,e]⟩
theorem MB{v:Value}{p:Rat}(hS:Old S w)(hx:dA w S v p)(hy:dA w S u q):
  eG PG N.AF #[v,u] w (eL w fun v' _=>v'= .bool (decide (p=q))):=by
 obtain⟨b1,a1,n1,c1,b2,a2,n2,c2,rfl⟩:=hx.shape;obtain⟨b3,a3,n3,c3,b4,a4,n4,c4,rfl⟩:=hy.shape;refine BZ (by simp) ?_;refine cH (cM (Φ:=fun _ w' v w2=>v= .bool (decide (p.num=q.num))) (fun O w' r=>Ct (oS hS r) (hx.num.cJ fun g hg=>r.cU.block g (hS g hg)) (hy.num.cJ fun g hg=>r.cU.block g (hS g hg))) ?_);rintro O wa v1 wb r he hb rfl;have hw:=hb;generalize (wa.heap.size,wb.heap.size)::[]=iv at*
 refine dN.mk ?_ ?_<;>intro h
 ·have h:=aI h;refine cH (cE hw (fun _ w' v w2=>v= .bool (decide ((p.den:Int)=q.den))) (fun O w' r=>Ct (oS hS r) (hx.den.cJ (kS hw r hS)) (hy.den.cJ (kS hw r hS))) ?_);rintro O _ _ _ OX r he hw h_ rfl;intro ρe we re;refine⟨_,rfl,hw.tr re.cU,?_⟩;have:decide (p=q)=decide ((p.den:Int)=q.den):=decide_eq_decide.2 ⟨fun e=>by rw[e],fun e=>Rat.ext h (by omega)⟩;rw[this];rfl
 ·have h:=aH h;intro ρe we re;refine⟨_,rfl,hw.tr re.cU,?_⟩;rw[bP (fun e=>h (by rw[e]))];rfl
theorem dA.four{b b2:Bool}{n c n2 c2:Nat}(h:dA w S (.agg #[.bool b,.slice a n c,.bool b2,.slice a2 n2 c2]) q):wQ w S [.bool b,.slice a n c,.bool b2,.slice a2 n2 c2] (q.num,(q.den:Int)):=
 ⟨b,a,n,c,b2,a2,n2,c2,rfl,h.r⟩
theorem dA.sH{b b2:Bool}{n c n2 c2:Nat}(h:dA w S (.agg #[.bool b,.slice a n c,.bool b2,.slice a2 n2 c2]) q):iz w S [.bool b,.slice a n c,.bool b2,.slice a2 n2 c2] q:=
 ⟨b,a,n,c,b2,a2,n2,c2,rfl,h⟩
theorem Rel.lt(r:Rel H nx iv B w O w'){id t:Nat}{cs:List At}(h:dD H id=some (.box t cs)):(O id).g<w'.heap.size:=(r.low id _ h (r.nn id _ h (by intros;simp) (by simp))).2
end Go.Ex
namespace Go.Ex
variable{cs:List Int}{ls:List Nat}{i:Nat}{f:Nat->Int}
def gB(f:Nat->Int):Nat->Int
 |0=>0
 |n+1=>f 0+65536*gB (fun i=>f (i+1)) n
theorem AB(f:Nat->Int)(n:Nat):dW ((List.range n).map f)=gB f n:=by
 induction n generalizing f with
 |zero=>rfl
 |succ n ih=>
  rw[List.range_succ_eq_map,List.map_cons,List.map_map,dW,gB,<-ih];rfl
theorem AD(f g:Nat->Int)(n:Nat):gB (fun i=>f i+g i) n=gB f n+gB g n:=by
 induction n generalizing f g with
 |zero=>rfl
 |succ n ih=>simp only[gB,ih];omega
theorem HC(k:Int)(f:Nat->Int)(n:Nat):gB (fun i=>k*f i) n=k*gB f n:=by
 induction n generalizing f with
 |zero=>simp[gB]
 |succ n ih=>simp only[gB,ih,Int.mul_add];rw[Int.mul_left_comm]
theorem xE{n:Nat}(h:∀i,i<n->f i=0):gB f n=0:=by
 induction n generalizing f with
 |zero=>rfl
 |succ n ih=>rw[gB,h 0 (by omega),ih fun i hi=>h (i+1) (by omega)];rfl
theorem qD(a:List Int)(n:Nat)(h:a.length<=n):gB (fun i=>a.getD i 0) n=dW a:=by
 induction a generalizing n with
 |nil=>exact xE fun i _=>by simp
 |cons c r ih=>
  obtain⟨m,rfl⟩:∃m,n=m+1:=⟨n-1,by simp at h;omega⟩
  have e:=ih m (by simpa using h);rw[gB,dW,<-e];simp[List.getD]
def iy(a b:List Int)(i:Nat):Nat->Int
 |0=>0
 |k+1=>iy a b i k+a.getD k 0*(if k<=i then b.getD (i-k) 0 else 0)
def gQ(a b:List Int)(i:Nat):Int:=iy a b i (i+1)
theorem JS(b:List Int)(i k:Nat):iy [] b i k=0:=by
 induction k with
 |zero=>rfl
 |succ k ih=>rw[iy,ih];simp
theorem HD(c:Int)(r b:List Int)(i k:Nat):iy (c::r) b (i+1) (k+1)=c*b.getD (i+1) 0+iy r b i k:=by
 induction k with
 |zero=>simp[iy]
 |succ k ih=>
  rw[iy,ih,iy];have e:(c::r).getD (k+1) 0=r.getD k 0:=by simp[List.getD]
  rw[e];have e2:(if k+1<=i+1 then b.getD (i+1-(k+1)) 0 else 0)=(if k<=i then b.getD (i-k) 0 else 0):=by
   by_cases h:k<=i
   ·rw[if_pos h,if_pos (by omega),show i+1-(k+1)=i-k by omega]
   ·rw[aJ h,aJ (by omega)]
  rw[e2,Int.add_assoc]
theorem FR(c:Int)(r b:List Int)(i:Nat):gQ (c::r) b (i+1)=c*b.getD (i+1) 0+gQ r b i:=HD c r b i (i+1)
theorem FT(c:Int)(r b:List Int):gQ (c::r) b 0=c*b.getD 0 0:=by simp[gQ,iy]
theorem LQ(a b:List Int)(n:Nat)(h:a.length+b.length<=n+1):gB (gQ a b) n=dW a*dW b:=by
 induction a generalizing n with
 |nil=>
  rw[show gQ [] b=fun _=>(0:Int)from funext fun i=>JS b i _,xE fun _ _=>rfl];simp[dW]
 |cons c r ih=>
  cases n with
  |zero=>
   have hb:b=[]:=List.eq_nil_of_length_eq_zero (by simp at h;omega);subst hb;simp[gB,dW]
  |succ m=>
   have e1:gB (gQ (c::r) b) (m+1)=gB (fun i=>c*b.getD i 0) (m+1)+65536*gB (gQ r b) m:=by
    have e2:gB (fun i=>gQ (c::r) b (i+1)) m=gB (fun i=>c*b.getD (i+1) 0) m+gB (gQ r b) m:=by
     rw[<-AD];congr 1
     funext i
     exact FR c r b i
    rw[gB,gB,e2,FT,Int.mul_add];omega
   have h':r.length+b.length<=m+1:=by simp at h;omega
   rw[e1,ih m h',HC,qD b (m+1) (by omega),dW,Int.add_mul,Int.mul_assoc]
theorem HE(a b:List Int)(i k k0:Nat)(h0:∀j,j<k0->b.length<=i-j)(hk:k0<=i+1)(h:k<=k0):iy a b i k=0:=by
 induction k with
 |zero=>rfl
 |succ k ih=>
  rw[iy,ih (by omega),if_pos (by omega)];have:b.getD (i-k) 0=0:=by rw[List.getD,List.getElem?_eq_none (h0 k (by omega))];rfl
  rw[this];simp
theorem HF(a b:List Int)(i k m:Nat)(h:a.length<=k):iy a b i (k+m)=iy a b i k:=by
 induction m with
 |zero=>rfl
 |succ m ih=>
  rw[<-Nat.add_assoc,iy,ih];have:a.getD (k+m) 0=0:=by rw[List.getD,List.getElem?_eq_none (by omega)];rfl
  rw[this];simp
theorem mS{a b:List Int}(ha:∀x∈a,-65535<=x∧x<=65535)(hb:∀x∈b,-65535<=x∧x<=65535)(k:Nat):(iy a b i k).natAbs<=4294836225*k:=by
 have key:∀(l:List Int) (j:Nat),(∀x∈l,-65535<=x∧x<=65535)->(l.getD j 0).natAbs<=65535:=fun l j h=>by
  rw[List.getD]
  cases hj:l[j]? with
  |none=>simp
  |some d=>have:=h d (aD hj);simp;omega
 induction k with
 |zero=>simp[iy]
 |succ k ih=>
  rw[iy];have h1:=key a k ha;have h2:(if k<=i then b.getD (i-k) 0 else 0).natAbs<=65535:=by
   split
   ·exact key b _ hb
   ·simp
  have h3:=Nat.mul_le_mul h1 h2;rw[<-Int.natAbs_mul]at h3;generalize a.getD k 0*(if k<=i then b.getD (i-k) 0 else 0)=p at*
  omega
def eH(s:Int):List Nat->List Int
 |[]=>[]
 |l::r=>s*((l % 65536:Nat):Int)::s*((l / 65536:Nat):Int)::eH s r
theorem DW(s:Int)(ls:List Nat):dW (eH s ls)=s*(val ls:Int):=by
 induction ls with
 |nil=>simp[eH,dW,val]
 |cons l r ih=>
  rw[eH,dW,dW,ih,val];have e1:((l+4294967296*val r:Nat):Int)=((l % 65536:Nat):Int)+65536*((l / 65536:Nat):Int)+4294967296*((val r:Nat):Int):=by omega
  rw[e1,Int.mul_add,Int.mul_add,Int.mul_add];rw[Int.mul_left_comm 65536 s,Int.mul_left_comm s 65536,Int.mul_left_comm s 4294967296];omega
theorem pF(s:Int)(a b:List Nat):eH s (a++b)=eH s a++eH s b:=by
 induction a with
 |nil=>rfl
 |cons l r ih=>simp[eH,ih]
theorem ij(s:Int)(ls:List Nat):(eH s ls).length=2*ls.length:=by
 induction ls with
 |nil=>rfl
 |cons l r ih=>simp[eH,ih];omega
theorem AE{s:Int}(hs:s=1∨s= -1)(h:Lm ls):∀c∈eH s ls,-65535<=c∧c<=65535:=by
 induction ls with
 |nil=>intro c hc;cases hc
 |cons l r ih=>
  have hl:=h l aG;intro c hc;rw[eH]at hc;rcases List.mem_cons.1 hc with rfl|hc
  ·rcases hs with rfl|rfl<;>omega
  rcases List.mem_cons.1 hc with rfl|hc
  ·rcases hs with rfl|rfl<;>omega
  ·exact ih (fun x hx=>h x (aC _ hx)) c hc
theorem xh(h:Lm ls):∀c∈eH 1 ls,0<=c∧c<=65535:=fun c hc=>by
 induction ls with
 |nil=>cases hc
 |cons l r ih=>
  have hl:=h l aG;rw[eH]at hc;rcases List.mem_cons.1 hc with rfl|hc
  ·omega
  rcases List.mem_cons.1 hc with rfl|hc
  ·omega
  ·exact ih (fun x hx=>h x (aC _ hx)) hc
theorem FU{c:Int}(h:cs[i]? =some c):dW (cs.drop i)=c+65536*dW (cs.drop (i+1)):=by
 rw[List.drop_eq_getElem_cons (aE.1 h).1,dW];have:=(aE.1 h).2;rw[this]
end Go.Ex
namespace Go.Ex
open Go Go.Sx Go.Proofs
variable{x1 x2 y1 y2:Int}{ls:List Nat}{S:Nat->Prop}{p q:Rat}{u:Value}{w:World}
theorem MQ{k:Nat}(h:Lm ls)(hl:ls.length<=k):ln (val ls)<=k:=gT.2 (Nat.lt_of_lt_of_le (oL h) (CC hl))
theorem Cv.false{B:Nat}{iv:Iv}{g:Nat}(h:Cv FF B iv g):Cv S B iv g:=h.elim (fun h=>h.elim) .inr
theorem MR{v:Value}(hS:Old S w)(hx:iP w S v x1 x2)(hy:iP w S u y1 y2)(hl0:ln x1.natAbs<=100000)(RK:ln x2.natAbs<=100000)(QA:ln y1.natAbs<=100000)(QL:ln y2.natAbs<=100000):
  eG PG N.ve #[v,u] w (eL w fun v' w2=>dA w2 (Nf w w2) v' ((ratio x1 x2)+(ratio y1 y2))):=by
 have hw:=bR w;have r1:=iK x1 x2;have r2:=iK y1 y2;have r3:=mw (ratio x1 x2) (ratio y1 y2);have r4:=ic (ratio x1 x2) (ratio y1 y2);have r5:=oZ (ratio y1 y2);have r6:=zp (ratio x1 x2) (ratio y1 y2);replace hx:=hx.cL (S':=Cv S w.heap.size []) fun _ h=>.inl h;replace hy:=hy.cL (S':=Cv S w.heap.size []) fun _ h=>.inl h;obtain⟨b1,a1,n1,c1,b2,a2,n2,c2,rfl⟩:=hx.shape;obtain⟨b3,a3,n3,c3,b4,a4,n4,c4,rfl⟩:=hy.shape;refine D7 (by simp) ?_;refine cQ hτ dx [.x 0,.x 2,.x 1,.x 3,.x 4,.x 5,.x 6] (by kernel_rfl) (by kernel_rfl) ?_;refine cE hw (fun _ w' v w2=>cZ w2 (Nf w' w2) v ((ratio x1 x2))) (fun O w' r=>ja (Rel.old r hS) (hx.rel r hS) (by omega) (by omega)) ?_;rintro O _ _ _ Og r he hw h_ hn;replace hy:=hy.cK r hS he (mC h_);have hX:=hn.dF (S:=FF) r.cG (mN h_);obtain⟨A0,A1,A2,A3,A4,A5,A6,A7,rfl⟩:=hX.shape;refine cE hw (fun _ w' v w2=>cZ w2 (Nf w' w2) v ((ratio y1 y2))) (fun O w' r=>ja (Rel.old r hS) (hy.rel r hS) (by omega) (by omega)) ?_;rintro O _ _ _ OX r he hw h_ hn;replace hX:=hX.cK r (cF w) he (mC h_);have hY:=hn.dF (S:=FF) r.cG (mN h_);obtain⟨C0,C1,C2,C3,C4,C5,C6,C7,rfl⟩:=hY.shape;refine cE hw (fun _ w' v w2=>cZ w2 (Nf w' w2) v ((ratio x1 x2)+(ratio y1 y2))) (fun O w' r=>EA (Rel.old r (cF w)) (hX.rel r (cF w)) (hY.rel r (cF w)) (by omega) (by omega)) ?_;rintro O _ _ _ Oh r he hw h_ hn;have hP:=hn.dF (S:=FF) r.cG (mN h_);obtain⟨E0,E1,E2,E3,E4,E5,E6,E7,rfl⟩:=hP.shape;refine cE hw (fun _ w' v w2=>dA w2 (Nf w' w2) v ((ratio x1 x2)+(ratio y1 y2))) (fun O w' r=>rO (Rel.old r (cF w)) (hP.rel r (cF w)) (by omega)) ?_;rintro O _ _ _ On r he hw h_ hn;have hC:=hn.dF (S:=FF) r.cG (mN h_);obtain⟨F0,F1,F2,F3,F4,F5,F6,F7,rfl⟩:=hC.shape;exact rtn hw fun ρe we re=>hC.out re (cF w)
theorem MS{v:Value}(hS:Old S w)(hx:iP w S v x1 x2)(hy:iP w S u y1 y2)(hl0:ln x1.natAbs<=100000)(RK:ln x2.natAbs<=100000)(QA:ln y1.natAbs<=100000)(QL:ln y2.natAbs<=100000):
  eG PG N.vZ #[v,u] w (eL w fun v' w2=>dA w2 (Nf w w2) v' ((ratio x1 x2)*(ratio y1 y2))):=by
 have hw:=bR w;have r1:=iK x1 x2;have r2:=iK y1 y2;have r3:=mw (ratio x1 x2) (ratio y1 y2);have r4:=ic (ratio x1 x2) (ratio y1 y2);have r5:=oZ (ratio y1 y2);have r6:=zp (ratio x1 x2) (ratio y1 y2);replace hx:=hx.cL (S':=Cv S w.heap.size []) fun _ h=>.inl h;replace hy:=hy.cL (S':=Cv S w.heap.size []) fun _ h=>.inl h;obtain⟨b1,a1,n1,c1,b2,a2,n2,c2,rfl⟩:=hx.shape;obtain⟨b3,a3,n3,c3,b4,a4,n4,c4,rfl⟩:=hy.shape;refine D4 (by simp) ?_;refine cQ hτ dx [.x 0,.x 2,.x 1,.x 3,.x 4,.x 5,.x 6] (by kernel_rfl) (by kernel_rfl) ?_;refine cE hw (fun _ w' v w2=>cZ w2 (Nf w' w2) v ((ratio x1 x2))) (fun O w' r=>ja (Rel.old r hS) (hx.rel r hS) (by omega) (by omega)) ?_;rintro O _ _ _ Og r he hw h_ hn;replace hy:=hy.cK r hS he (mC h_);have hX:=hn.dF (S:=FF) r.cG (mN h_);obtain⟨A0,A1,A2,A3,A4,A5,A6,A7,rfl⟩:=hX.shape;refine cE hw (fun _ w' v w2=>cZ w2 (Nf w' w2) v ((ratio y1 y2))) (fun O w' r=>ja (Rel.old r hS) (hy.rel r hS) (by omega) (by omega)) ?_;rintro O _ _ _ OX r he hw h_ hn;replace hX:=hX.cK r (cF w) he (mC h_);have hY:=hn.dF (S:=FF) r.cG (mN h_);obtain⟨C0,C1,C2,C3,C4,C5,C6,C7,rfl⟩:=hY.shape;refine cE hw (fun _ w' v w2=>cZ w2 (Nf w' w2) v ((ratio x1 x2)*(ratio y1 y2))) (fun O w' r=>BC (Rel.old r (cF w)) (hX.rel r (cF w)) (hY.rel r (cF w)) (by omega) (by omega)) ?_;rintro O _ _ _ Oh r he hw h_ hn;have hP:=hn.dF (S:=FF) r.cG (mN h_);obtain⟨E0,E1,E2,E3,E4,E5,E6,E7,rfl⟩:=hP.shape;refine cE hw (fun _ w' v w2=>dA w2 (Nf w' w2) v ((ratio x1 x2)*(ratio y1 y2))) (fun O w' r=>rO (Rel.old r (cF w)) (hP.rel r (cF w)) (by omega)) ?_;rintro O _ _ _ On r he hw h_ hn;have hC:=hn.dF (S:=FF) r.cG (mN h_);obtain⟨F0,F1,F2,F3,F4,F5,F6,F7,rfl⟩:=hC.shape;exact rtn hw fun ρe we re=>hC.out re (cF w)
theorem MT{v:Value}(hS:Old S w)(hx:iP w S v x1 x2)(hy:iP w S u y1 y2)(hl0:ln x1.natAbs<=100000)(RK:ln x2.natAbs<=100000)(QA:ln y1.natAbs<=100000)(QL:ln y2.natAbs<=100000):
  eG PG N.vh #[v,u] w (eL w fun v' w2=>dA w2 (Nf w w2) v' ((ratio x1 x2)-(ratio y1 y2))):=by
 have hw:=bR w;have r1:=iK x1 x2;have r2:=iK y1 y2;have r3:=mw (ratio x1 x2) (ratio y1 y2);have r4:=ic (ratio x1 x2) (ratio y1 y2);have r5:=oZ (ratio y1 y2);have r6:=zp (ratio x1 x2) (ratio y1 y2);replace hx:=hx.cL (S':=Cv S w.heap.size []) fun _ h=>.inl h;replace hy:=hy.cL (S':=Cv S w.heap.size []) fun _ h=>.inl h;obtain⟨b1,a1,n1,c1,b2,a2,n2,c2,rfl⟩:=hx.shape;obtain⟨b3,a3,n3,c3,b4,a4,n4,c4,rfl⟩:=hy.shape;refine Dc (by simp) ?_;refine cQ hτ dx [.x 0,.x 2,.x 1,.x 3,.x 4,.x 5,.x 6,.x 7] (by kernel_rfl) (by kernel_rfl) ?_;refine cE hw (fun _ w' v w2=>cZ w2 (Nf w' w2) v ((ratio x1 x2))) (fun O w' r=>ja (Rel.old r hS) (hx.rel r hS) (by omega) (by omega)) ?_;rintro O _ _ _ Og r he hw h_ hn;replace hy:=hy.cK r hS he (mC h_);have hX:=hn.dF (S:=FF) r.cG (mN h_);obtain⟨A0,A1,A2,A3,A4,A5,A6,A7,rfl⟩:=hX.shape;refine cE hw (fun _ w' v w2=>cZ w2 (Nf w' w2) v ((ratio y1 y2))) (fun O w' r=>ja (Rel.old r hS) (hy.rel r hS) (by omega) (by omega)) ?_;rintro O _ _ _ OX r he hw h_ hn;replace hX:=hX.cK r (cF w) he (mC h_);have hY:=hn.dF (S:=FF) r.cG (mN h_);obtain⟨C0,C1,C2,C3,C4,C5,C6,C7,rfl⟩:=hY.shape;refine cM (Φ:=fun _ w' v w2=>cZ w2 (Nw (Cf w OX) w' w2) v (-(ratio y1 y2))) (fun O w' r=>BB (Rel.old r (cF w)) (hY.rel r (cF w))) ?_;rintro O Pz v3 Px r he hb hn;replace hw:=hw.tr hb;replace hX:=hX.cK (iv':=(Pz.heap.size,Px.heap.size)::OX) r (cF w) he fun x hx=>aC _ hx;have hM:=hn.old r.cG;generalize (Pz.heap.size,Px.heap.size)::OX=Oh at*
 obtain⟨E0,E1,E2,E3,E4,E5,E6,E7,rfl⟩:=hM.shape;refine cE hw (fun _ w' v w2=>cZ w2 (Nf w' w2) v ((ratio x1 x2)-(ratio y1 y2))) (fun O w' r=>(Rat.sub_eq_add_neg (ratio x1 x2) (ratio y1 y2))▸EA (Rel.old r (cF w)) (hX.rel r (cF w)) (hM.rel r (cF w)) (by omega) (by omega)) ?_;rintro O _ _ _ On r he hw h_ hn;have hP:=hn.dF (S:=FF) r.cG (mN h_);obtain⟨F0,F1,F2,F3,F4,F5,F6,F7,rfl⟩:=hP.shape;refine cE hw (fun _ w' v w2=>dA w2 (Nf w' w2) v ((ratio x1 x2)-(ratio y1 y2))) (fun O w' r=>rO (Rel.old r (cF w)) (hP.rel r (cF w)) (by omega)) ?_;rintro O _ _ _ PN r he hw h_ hn;have hC:=hn.dF (S:=FF) r.cG (mN h_);obtain⟨G0,G1,G2,G3,G4,G5,G6,G7,rfl⟩:=hC.shape;exact rtn hw fun ρe we re=>hC.out re (cF w)
theorem aAX{v:Value}{f g:Rat}(hS:Old S w)(hf:cZ w S v f)(hg:cZ w S u g)(hlf:rl f<=10000000000)(hlg:rl g<=10000000000):
  eG PG N.l7 #[v,u] w (eL w fun v' w2=>v'= .int .i64 (rs (f-g))):=by
 have hw:=bR w;have l1:=gP f;have l2:=fY f;have l3:=gP g;have l4:=fY g;have m0:=dE f.num g.den;have m1:=dE g.num f.den;replace hf:=hf.cL (S':=Cv S w.heap.size []) fun _ h=>.inl h;replace hg:=hg.cL (S':=Cv S w.heap.size []) fun _ h=>.inl h;obtain⟨b1,a1,n1,c1,b2,a2,n2,c2,rfl⟩:=hf.shape;obtain⟨b3,a3,n3,c3,b4,a4,n4,c4,rfl⟩:=hg.shape;have Uf:=hf.num;have Q9:=hf.den;have Sq:=hg.num;have R4:=hg.den;refine pT (by simp) ?_;refine cQ hτ dx [.x 0,.x 1,.x 2,.x 3,.x 5,.x 6,.x 7,.x 8,.x 4,.x 9,.x 10,.x 11] (by kernel_rfl) (by kernel_rfl) ?_;refine cE hw (fun _ w' v w2=>e7 w2 (Nf w' w2) v (f.num*(g.den:Int))) (fun O w' r=>ig (Rel.old r hS) (Uf.rel r hS) (R4.rel r hS) (by omega) (by omega)) ?_;rintro O _ _ _ Og r he hw h_ hn;replace Q9:=Q9.cK r hS he (mC h_);replace Sq:=Sq.cK r hS he (mC h_);have hA:=hn.dF (S:=FF) r.cG (mN h_);obtain⟨A0,A1,A2,A3,rfl⟩:=hA.shape;refine cE hw (fun _ w' v w2=>e7 w2 (Nf w' w2) v (g.num*(f.den:Int))) (fun O w' r=>ig (Rel.old r hS) (Sq.rel r hS) (Q9.rel r hS) (by omega) (by omega)) ?_;rintro O _ _ _ OX r he hw h_ hn;replace hA:=hA.cK r (cF w) he (mC h_);have hB:=hn.dF (S:=FF) r.cG (mN h_);obtain⟨C0,C1,C2,C3,rfl⟩:=hB.shape;refine cE hw (fun _ w' v w2=>v= .int .i64 (rs (f-g))) (fun O w' r=>(Mw f g)▸Ln (Rel.old r (cF w)) (hA.rel r (cF w)) (hB.rel r (cF w)) (by omega) (by omega)) ?_;rintro O _ _ _ Oh r he hw h_ rfl;exact rtn hw fun ρe we re=>rfl
theorem MU{v:Value}(hS:Old S w)(hx:iP w S v x1 x2)(hy:iP w S u y1 y2)(hl0:ln x1.natAbs<=100000)(RK:ln x2.natAbs<=100000)(QA:ln y1.natAbs<=100000)(QL:ln y2.natAbs<=100000):
  eG PG N.vY #[v,u] w (eL w fun v' w2=>v'= .int .i64 (rs ((ratio x1 x2)-(ratio y1 y2)))):=by
 have hw:=bR w;have r1:=iK x1 x2;have r2:=iK y1 y2;have r3:=mw (ratio x1 x2) (ratio y1 y2);have r4:=ic (ratio x1 x2) (ratio y1 y2);have r5:=oZ (ratio y1 y2);have r6:=zp (ratio x1 x2) (ratio y1 y2);replace hx:=hx.cL (S':=Cv S w.heap.size []) fun _ h=>.inl h;replace hy:=hy.cL (S':=Cv S w.heap.size []) fun _ h=>.inl h;obtain⟨b1,a1,n1,c1,b2,a2,n2,c2,rfl⟩:=hx.shape;obtain⟨b3,a3,n3,c3,b4,a4,n4,c4,rfl⟩:=hy.shape;refine D2 (by simp) ?_;refine cQ hτ dx [.x 0,.x 2,.x 1,.x 3,.x 4,.x 5] (by kernel_rfl) (by kernel_rfl) ?_;refine cE hw (fun _ w' v w2=>cZ w2 (Nf w' w2) v ((ratio x1 x2))) (fun O w' r=>ja (Rel.old r hS) (hx.rel r hS) (by omega) (by omega)) ?_;rintro O _ _ _ Og r he hw h_ hn;replace hy:=hy.cK r hS he (mC h_);have hX:=hn.dF (S:=FF) r.cG (mN h_);obtain⟨A0,A1,A2,A3,A4,A5,A6,A7,rfl⟩:=hX.shape;refine cE hw (fun _ w' v w2=>cZ w2 (Nf w' w2) v ((ratio y1 y2))) (fun O w' r=>ja (Rel.old r hS) (hy.rel r hS) (by omega) (by omega)) ?_;rintro O _ _ _ OX r he hw h_ hn;replace hX:=hX.cK r (cF w) he (mC h_);have hY:=hn.dF (S:=FF) r.cG (mN h_);obtain⟨C0,C1,C2,C3,C4,C5,C6,C7,rfl⟩:=hY.shape;refine cE hw (fun _ w' v w2=>v= .int .i64 (rs ((ratio x1 x2)-(ratio y1 y2)))) (fun O w' r=>aAX (Rel.old r (cF w)) (hX.rel r (cF w)) (hY.rel r (cF w)) (by omega) (by omega)) ?_;rintro O _ _ _ Oh r he hw h_ rfl;exact rtn hw fun ρe we re=>rfl
theorem ya:rs q=0↔q=0:=by rw[rs,bm,Rat.num_eq_zero]
theorem MV{v:Value}(hS:Old S w)(hx:iP w S v x1 x2)(hy:iP w S u y1 y2)(hl0:ln x1.natAbs<=100000)(RK:ln x2.natAbs<=100000)(QA:ln y1.natAbs<=100000)(QL:ln y2.natAbs<=100000):
  eG PG N.vg #[v,u] w (eL w fun v' w2=>((ratio y1 y2)=0∧v'= .tuple #[MH,.int .i64 9])∨((ratio y1 y2)≠0∧∃q,v'= .tuple #[q,.int .i64 0]∧dA w2 (Nf w w2) q ((ratio x1 x2) / (ratio y1 y2)))):=by
 have hw:=bR w;have r1:=iK x1 x2;have r2:=iK y1 y2;have r3:=mw (ratio x1 x2) (ratio y1 y2);have r4:=ic (ratio x1 x2) (ratio y1 y2);have r5:=oZ (ratio y1 y2);have r6:=zp (ratio x1 x2) (ratio y1 y2);replace hx:=hx.cL (S':=Cv S w.heap.size []) fun _ h=>.inl h;replace hy:=hy.cL (S':=Cv S w.heap.size []) fun _ h=>.inl h;obtain⟨b1,a1,n1,c1,b2,a2,n2,c2,rfl⟩:=hx.shape;obtain⟨b3,a3,n3,c3,b4,a4,n4,c4,rfl⟩:=hy.shape;refine D9 (by simp) ?_;refine cH (cE hw (fun _ w' v w2=>cZ w2 (Nf w' w2) v ((ratio y1 y2))) (fun O w' r=>ja (Rel.old r hS) (hy.rel r hS) (by omega) (by omega)) ?_);rintro O _ _ _ Og r he hw h_ hn;replace hx:=hx.cK r hS he (mC h_);have hY:=hn.dF (S:=FF) r.cG (mN h_);obtain⟨A0,A1,A2,A3,A4,A5,A6,A7,rfl⟩:=hY.shape;refine cH (cE hw (fun _ w' v w2=>v= .int .i64 (rs (ratio y1 y2))) (fun O w' r=>uy (Rel.old r (cF w)) (hY.rel r (cF w))) ?_);rintro O _ _ _ OX r he hw h_ rfl;replace hx:=hx.cK r hS he (mC h_);replace hY:=hY.cK r (cF w) he (mC h_);refine dN.mk ?_ ?_<;>intro h
 ·have h:rs (ratio y1 y2)=0:=by simpa using h
  exact rtn hw fun ρe we re=>.inl ⟨ya.1 h,rfl⟩
 have h:(ratio y1 y2)≠0:=fun e=>by rw[e]at h;exact absurd h (by decide)
 have r7:=LD (ratio x1 x2) h;refine cQ hτ dx [.x 0,.x 2,.x 1,.x 3,.x 4,.x 5,.x 6] (by kernel_rfl) (by kernel_rfl) ?_;refine cE hw (fun _ w' v w2=>cZ w2 (Nf w' w2) v ((ratio x1 x2))) (fun O w' r=>ja (Rel.old r hS) (hx.rel r hS) (by omega) (by omega)) ?_;rintro O _ _ _ Oh r he hw h_ hn;replace hY:=hY.cK r (cF w) he (mC h_);have hX:=hn.dF (S:=FF) r.cG (mN h_);obtain⟨C0,C1,C2,C3,C4,C5,C6,C7,rfl⟩:=hX.shape;refine cE hw (fun _ w' v w2=>cZ w2 (Nf w' w2) v ((ratio x1 x2) / (ratio y1 y2))) (fun O w' r=>MA (Rel.old r (cF w)) (hX.rel r (cF w)) (hY.rel r (cF w)) (by omega) (by omega) h) ?_;rintro O _ _ _ On r he hw h_ hn;have hP:=hn.dF (S:=FF) r.cG (mN h_);obtain⟨E0,E1,E2,E3,E4,E5,E6,E7,rfl⟩:=hP.shape;refine cE hw (fun _ w' v w2=>dA w2 (Nf w' w2) v ((ratio x1 x2) / (ratio y1 y2))) (fun O w' r=>rO (Rel.old r (cF w)) (hP.rel r (cF w)) (by omega)) ?_;rintro O _ _ _ PN r he hw h_ hn;have hC:=hn.dF (S:=FF) r.cG (mN h_);obtain⟨F0,F1,F2,F3,F4,F5,F6,F7,rfl⟩:=hC.shape;exact rtn hw fun ρe we re=>.inr ⟨h,_,rfl,hC.out re (cF w)⟩
theorem MW{n:Int}(h1: -9223372036854775808<=n)(h2:n<=9223372036854775807):rl (n:Rat)<=2:=by
 have:=Ax h1 h2;unfold rl;rw[Rat.num_intCast,Rat.den_intCast];have:ln 1=1:=by decide
 omega
theorem HG(n:Int)(w:World)(h1: -9223372036854775808<=n)(h2:n<=9223372036854775807):
  eG PG N.xH #[.int .i64 n] w (eL w fun v' w2=>dA w2 (Nf w w2) v' (n:Rat)):=by
 have hw:=bR w;have hl:=MW h1 h2;refine AS (by simp) ?_;refine cH (cE hw (fun _ w' v w2=>cZ w2 (Nf w' w2) v (n)) (fun O w' r=>rP n w' h1 h2) ?_);rintro O _ _ _ Og r he hw h_ hn;have hX:=hn.dF (S:=FF) r.cG (mN h_);obtain⟨A0,A1,A2,A3,A4,A5,A6,A7,rfl⟩:=hX.shape;refine cH (cE hw (fun _ w' v w2=>dA w2 (Nf w' w2) v (n)) (fun O w' r=>rO (Rel.old r (cF w)) (hX.rel r (cF w)) (by omega)) ?_);rintro O _ _ _ OX r he hw h_ hn;have hC:=hn.dF (S:=FF) r.cG (mN h_);obtain⟨C0,C1,C2,C3,C4,C5,C6,C7,rfl⟩:=hC.shape;exact rtn hw fun ρe we re=>hC.out re (cF w)
theorem GL(ad:Addr)(i j:Nat):(ad.add i).add j=ad.add (i+j):=by
 unfold Addr.add;split<;>split<;>simp_all<;>omega
def qt(w:World)(S:Nat->Prop)(v:Value)(q:Rat):Prop:=∃a b,iP w S v a b∧ratio a b=q∧ln a.natAbs<=100000∧ln b.natAbs<=100000
theorem qt.cJ{w2:World}{v:Value}(h:qt w S v q)(hk:∀g,S g->w2.heap[g]? =w.heap[g]?):qt w2 S v q:=by
 obtain⟨a,b,h1,h2⟩:=h;exact⟨a,b,h1.cJ hk,h2⟩
theorem qt.shape{v:Value}(h:qt w S v q):∃b a n c b2 a2 n2 c2,v= .agg #[.bool b,.slice a n c,.bool b2,.slice a2 n2 c2]:=by
 obtain⟨a,b,h1,_⟩:=h;exact h1.shape
theorem oy(q:Rat):ratio q.num q.den=q:=by rw[ratio,aJ (iB q),Rat.num_divInt_den]
theorem dA.v{v:Value}(h:dA w S v q)(hl:rl q<=100000):qt w S v q:=
 ⟨_,_,h.r,oy q,aX (gP q) hl,aX (fY q) hl⟩
section
variable{S S':Nat->Prop}{H:Hp}{nx:Nat}{iv iv':Iv}{B:Nat}{w w' w2:World}{O:Nat->Sx.dw}{v:Value}{q:Rat}
end
theorem HH{v:Value}(hS:Old S w)(hp:qt w S v p)(hq:qt w S u q):eG PG N.ve #[v,u] w (eL w fun v' w2=>dA w2 (Nf w w2) v' (p+q)):=by
 obtain⟨a,b,h1,rfl,h2,h3⟩:=hp;obtain⟨c,d,k1,rfl,k2,k3⟩:=hq;exact MR hS h1 k1 h2 h3 k2 k3
theorem Am{v:Value}(hS:Old S w)(hp:qt w S v p)(hq:qt w S u q):eG PG N.vZ #[v,u] w (eL w fun v' w2=>dA w2 (Nf w w2) v' (p*q)):=by
 obtain⟨a,b,h1,rfl,h2,h3⟩:=hp;obtain⟨c,d,k1,rfl,k2,k3⟩:=hq;exact MS hS h1 k1 h2 h3 k2 k3
theorem La{v:Value}(hS:Old S w)(hp:qt w S v p)(hq:qt w S u q):eG PG N.vh #[v,u] w (eL w fun v' w2=>dA w2 (Nf w w2) v' (p-q)):=by
 obtain⟨a,b,h1,rfl,h2,h3⟩:=hp;obtain⟨c,d,k1,rfl,k2,k3⟩:=hq;exact MT hS h1 k1 h2 h3 k2 k3
theorem Dj{v:Value}(hS:Old S w)(hp:qt w S v p)(hq:qt w S u q):eG PG N.vY #[v,u] w (eL w fun v' _=>v'= .int .i64 (rs (p-q))):=by
 obtain⟨a,b,h1,rfl,h2,h3⟩:=hp;obtain⟨c,d,k1,rfl,k2,k3⟩:=hq;exact MU hS h1 k1 h2 h3 k2 k3
theorem aAO{v:Value}(hS:Old S w)(hp:qt w S v p)(hq:qt w S u q):eG PG N.vg #[v,u] w (eL w fun v' w2=>(q=0∧v'= .tuple #[MH,.int .i64 9])∨(q≠0∧∃r,v'= .tuple #[r,.int .i64 0]∧dA w2 (Nf w w2) r (p / q))):=by
 obtain⟨a,b,h1,rfl,h2,h3⟩:=hp;obtain⟨c,d,k1,rfl,k2,k3⟩:=hq;exact MV hS h1 k1 h2 h3 k2 k3
end Go.Ex
namespace Go.Ex
theorem aAD(q:Rat):rs (-q)= -rs q:=by rw[rs,rs,Rat.neg_num,Int.sign_neg]
end Go.Ex
namespace Go.Ex
open Go Go.Sx Go.Proofs
variable{b:Bool}{x z:Int}{cs:List Int}{ls:List Nat}{S:Nat->Prop}{lv:Value}{w:World}
def fh(w:World)(S:Nat->Prop)(v:Value)(k:Nat)(z:Int):Prop:=∃neg ls,uq w S v neg ls∧sg neg (val ls)=z∧ls.length<=k
theorem fh.cJ{w2:World}{v:Value}{k:Nat}(h:fh w S v k z)(hk:∀g,S g->w2.heap[g]? =w.heap[g]?):fh w2 S v k z:=by
 obtain⟨n,l,h1,h2⟩:=h;exact⟨n,l,h1.cJ hk,h2⟩
theorem fh.cL{S':Nat->Prop}{v:Value}{k:Nat}(h:fh w S v k z)(hk:∀g,S g->S' g):fh w S' v k z:=by
 obtain⟨n,l,h1,h2⟩:=h;exact⟨n,l,h1.cL hk,h2⟩
theorem fh.r{v:Value}{k:Nat}(h:fh w S v k z):jn w S v z:=by
 obtain⟨n,l,h1,h2,_⟩:=h;exact⟨n,l,h1,h2⟩
theorem fh.shape{v:Value}{k:Nat}(h:fh w S v k z):∃b a n c,v= .agg #[.bool b,.slice a n c]:=h.r.shape
theorem dS.l{v:Value}{k:Nat}(h:dS w S v z)(hk:ln z.natAbs<=k):fh w S v k z:=by
 obtain⟨l,h1,h2,h3⟩:=h;obtain⟨_,_,hl⟩:=h1;have:=eU hl.lm h2;rw[h3]at this;exact⟨_,l,⟨_,‹_›,hl⟩,by rw[h3,Cj],by omega⟩
section
variable{S S':Nat->Prop}{H:Hp}{nx:Nat}{iv iv':Iv}{B:Nat}{w w' w2:World}{O:Nat->Sx.dw}{v:Value}{k:Nat}{z:Int}
theorem fh.rel(h:fh w (Cv S B iv) v k z)(r:Rel H nx iv B w O w')(hS:∀g,S g->g<B):fh w' (Cv S B iv) v k z:=h.cJ fun _ hg=>Rel.same r hS hg
theorem fh.cK(h:fh w (Cv S B iv) v k z)(r:Rel H nx iv B w O w')(hS:∀g,S g->g<B)(he:Ext w' w2)(hm:∀p,p∈iv->p∈iv'):fh w2 (Cv S B iv') v k z:=
 ((h.rel r hS).cJ fun g hg=>he.block g (Rel.old r hS g hg)).cL fun _ hg=>hg.mono hm
end
section
variable{S S':Nat->Prop}{H:Hp}{nx:Nat}{iv iv':Iv}{B:Nat}{w w' w2:World}{O:Nat->Sx.dw}{v:Value}{cs:List Int}
theorem eD.rel(h:eD w (Cv S B iv) v cs)(r:Rel H nx iv B w O w')(hS:∀g,S g->g<B):eD w' (Cv S B iv) v cs:=eD.cJ h fun _ hg=>Rel.same r hS hg
theorem eD.cK(h:eD w (Cv S B iv) v cs)(r:Rel H nx iv B w O w')(hS:∀g,S g->g<B)(he:Ext w' w2)(hm:∀p,p∈iv->p∈iv'):eD w2 (Cv S B iv') v cs:=
 (eD.cJ (h.rel r hS) fun g hg=>he.block g (Rel.old r hS g hg)).cL fun _ hg=>hg.mono hm
theorem eD.dF(h:eD w2 (Nf w' w2) v cs)(hB:B<=w'.heap.size)(hm:(w'.heap.size,w2.heap.size)∈iv):eD w2 (Cv S B iv) v cs:=eD.cL h fun _ hg=>hg.dF hB hm
end
def sgn(b:Bool):Int:=if b then -1 else 1
theorem aAY(b:Bool):sgn b=1∨sgn b= -1:=by cases b<;>simp[sgn]
theorem Nj(b:Bool)(n:Nat):sgn b*(n:Int)=sg b n:=by cases b<;>simp[sgn,sg]
theorem Hb{v:Value}{neg:Bool}(hS:Old S w)(h:uq w S v neg ls)(hl:ls.length<=40000000):
  eG PG N.my #[v] w (eL w fun v' w2=>eD w2 (Nf w w2) v' (eH (sgn neg) ls)):=by
 obtain⟨lv,rfl,hL⟩:=h;have Pv:=hL.lm;obtain⟨a,c,rfl,hc,PC⟩:=hL.sl;refine wE (by simp) ?_
 cases neg with
 |true=>
  refine⟨Nat×World,fun z=>⟨[(1,pP 0 0),(3,.o (.v (.int .i64 (-1)))),(4,.o (.w 1 (2*z.1))),(5,iZ z.1)],[(1,.vec T.int 1 ((eH (-1) (ls.take z.1)).map (Value.int .i64))),(0,.box T.Int [.v (.bool true),.v (.slice a ls.length c)])],2,[],z.2⟩,fun z=>ls.length-z.1,
   fun z=>dq w.heap.size w z.2∧z.1<=ls.length,?_,?_⟩
  ·intro O w' r
   exact⟨(0,w'),⟨r.cU,by simp⟩,Sub.nil 4 T.int 1 rfl (by simp[kF,SV.sc,At.sc,fm]) r fun ρ1 r1=>
    Sub.gn [] r1⟩
  rintro⟨i,w1⟩ ⟨hw,hi⟩;dsimp only at hw hi ⊢;have Sd:((eH (-1) (ls.take i)).map (Value.int .i64)).length=2*i:=by rw[aL,ij,ai];omega
  refine dN.mk ?_ ?_<;>intro h
  ·have h:i<ls.length:=by simpa using h
   obtain⟨x,hx⟩:∃x,ls[i]? =some x:=⟨_,aA h⟩
   have QZ:=Pv x (aD hx);obtain⟨ad,rfl,q1,q2⟩:=PC i x hx;have UK:eH (-1) (ls.take (i+1))=eH (-1) (ls.take i)++[(-1)*((x % 65536:Nat):Int),(-1)*((x / 65536:Nat):Int)]:=by rw[List.take_add_one,hx,Option.toList_some,pF];rfl
   refine⟨ad,rfl,by omega,.int .u32 x,fun O w' r=>?_,?_⟩
   ·rw[aF,aZ];exact jY hS hw r q1 q2
   refine⟨(x:Int),wo,by decide,((x % 65536:Nat):Int),rfl,(-1)*((x % 65536:Nat):Int),wo,by decide,((x / 65536:Nat):Int),by rw[show (x:Int).tdiv 65536=((x / 65536:Nat):Int)from rfl,wrap64]<;>omega,(-1)*((x / 65536:Nat):Int),wo,?_⟩;refine .inl ?_;refine⟨by rw[Sd,aZ],by omega,by unfold maxLen;omega,((i+1:Nat):Int),wo,?_⟩;intro ρ3 w3 r3;have TE:(eH (-1) (ls.take (i+1))).map (Value.int .i64)=(eH (-1) (ls.take i)).map (Value.int .i64)++[.int .i64 ((-1)*((x % 65536:Nat):Int)),.int .i64 ((-1)*((x / 65536:Nat):Int))]:=by
    rw[UK];simp
   exact⟨(i+1,w3),⟨hw.tr r3.cU,by dsimp only;omega⟩,Sub.gn [(1,3)] r3 ⟨by dsimp only;rw[TE];rfl,rfl,trivial⟩,by dsimp only;omega⟩
  have h:i=ls.length:=by
   have:¬i<ls.length:=by simpa using h
   omega
  subst h;rw[bF]at Sd ⊢;intro ρe we re;have OV:=re.EG (id:=1) (m:=2*ls.length) rfl (by rw[Sd,aZ]) (by decide);have Pw:=rR OV (by rw[ij]) (by unfold maxLen;omega);refine⟨_,rfl,hw.tr re.cU,eD.cL Pw fun g hg=>.inr ?_⟩;have:=ownsRow.low OV g hg;exact this
 |false=>
  refine⟨Nat×World,fun z=>⟨[(1,pP 0 0),(3,.o (.v (.int .i64 (1)))),(4,.o (.w 1 (2*z.1))),(5,iZ z.1)],[(1,.vec T.int 1 ((eH (1) (ls.take z.1)).map (Value.int .i64))),(0,.box T.Int [.v (.bool false),.v (.slice a ls.length c)])],2,[],z.2⟩,fun z=>ls.length-z.1,
   fun z=>dq w.heap.size w z.2∧z.1<=ls.length,?_,?_⟩
  ·intro O w' r
   exact⟨(0,w'),⟨r.cU,by simp⟩,Sub.nil 4 T.int 1 rfl (by simp[kF,SV.sc,At.sc,fm]) r fun ρ1 r1=>
    Sub.gn [] r1⟩
  rintro⟨i,w1⟩ ⟨hw,hi⟩;dsimp only at hw hi ⊢;have Sd:((eH (1) (ls.take i)).map (Value.int .i64)).length=2*i:=by rw[aL,ij,ai];omega
  refine dN.mk ?_ ?_<;>intro h
  ·have h:i<ls.length:=by simpa using h
   obtain⟨x,hx⟩:∃x,ls[i]? =some x:=⟨_,aA h⟩
   have QZ:=Pv x (aD hx);obtain⟨ad,rfl,q1,q2⟩:=PC i x hx;have UK:eH (1) (ls.take (i+1))=eH (1) (ls.take i)++[(1)*((x % 65536:Nat):Int),(1)*((x / 65536:Nat):Int)]:=by rw[List.take_add_one,hx,Option.toList_some,pF];rfl
   refine⟨ad,rfl,by omega,.int .u32 x,fun O w' r=>?_,?_⟩
   ·rw[aF,aZ];exact jY hS hw r q1 q2
   refine⟨(x:Int),wo,by decide,((x % 65536:Nat):Int),rfl,(1)*((x % 65536:Nat):Int),wo,by decide,((x / 65536:Nat):Int),by rw[show (x:Int).tdiv 65536=((x / 65536:Nat):Int)from rfl,wrap64]<;>omega,(1)*((x / 65536:Nat):Int),wo,?_⟩;refine .inl ?_;refine⟨by rw[Sd,aZ],by omega,by unfold maxLen;omega,((i+1:Nat):Int),wo,?_⟩;intro ρ3 w3 r3;have TE:(eH (1) (ls.take (i+1))).map (Value.int .i64)=(eH (1) (ls.take i)).map (Value.int .i64)++[.int .i64 ((1)*((x % 65536:Nat):Int)),.int .i64 ((1)*((x / 65536:Nat):Int))]:=by
    rw[UK];simp
   exact⟨(i+1,w3),⟨hw.tr r3.cU,by dsimp only;omega⟩,Sub.gn [(1,3)] r3 ⟨by dsimp only;rw[TE];rfl,rfl,trivial⟩,by dsimp only;omega⟩
  have h:i=ls.length:=by
   have:¬i<ls.length:=by simpa using h
   omega
  subst h;rw[bF]at Sd ⊢;intro ρe we re;have OV:=re.EG (id:=1) (m:=2*ls.length) rfl (by rw[Sd,aZ]) (by decide);have Pw:=rR OV (by rw[ij]) (by unfold maxLen;omega);refine⟨_,rfl,hw.tr re.cU,eD.cL Pw fun g hg=>.inr ?_⟩;have:=ownsRow.low OV g hg;exact this
def Bh(cs:List Int)(n:Nat)(z:Int):Prop:=dW cs=z∧cs.length<=n∧(∀c∈cs,-65535<=c∧c<=65535)∧(0<=z->∀c∈cs,0<=c)
theorem Bi(s:Int)(h:val ls=0):∀c∈eH s ls,c=0:=fun c hc=>by
 induction ls with
 |nil=>cases hc
 |cons l r ih=>
  have h:l+4294967296*val r=0:=h;have h1:l=0:=by omega
  have h2:val r=0:=by omega
  subst h1;rw[eH]at hc;rcases List.mem_cons.1 hc with rfl|hc
  ·simp
  rcases List.mem_cons.1 hc with rfl|hc
  ·simp
  ·exact ih h2 hc
theorem fh.GK{v:Value}{k:Nat}(h:fh w S v k z):∃b a ls c,v= .agg #[.bool b,.slice a ls.length c]∧dV w S (.slice a ls.length c) ls∧sg b (val ls)=z∧ls.length<=k:=by
 obtain⟨b,ls,⟨lv,rfl,hl⟩,hz,hk⟩:=h;obtain⟨a,c,rfl,_⟩:=hl.sl;exact⟨b,a,ls,c,rfl,hl,hz,hk⟩
theorem fh.ln{v:Value}{k:Nat}(h:fh w S v k z):ln z.natAbs<=k:=by
 obtain⟨b,a,ls,c,_,hl,hz,hk⟩:=h.GK;rw[<-hz,tF];exact MQ hl.lm hk
theorem fh.neg{k:Nat}(h:fh w S (.agg #[.bool b,lv]) k z):fh w S (.agg #[.bool (!b),lv]) k (-z):=by
 obtain⟨b,ls,⟨lv,e,hl⟩,hz,hk⟩:=h;simp only[Value.agg.injEq,Array.mk.injEq,List.cons.injEq,Value.bool.injEq,and_true]at e;obtain⟨rfl,rfl⟩:=e;refine⟨_,ls,⟨_,rfl,hl⟩,?_,hk⟩;rw[<-hz]
 cases b<;>simp[sg]
theorem fh.abs{k:Nat}(h:fh w S (.agg #[.bool b,lv]) k z):fh w S (.agg #[.bool false,lv]) k (z.natAbs:Int):=by
 obtain⟨b,ls,⟨lv,e,hl⟩,hz,hk⟩:=h;simp only[Value.agg.injEq,Array.mk.injEq,List.cons.injEq,Value.bool.injEq,and_true]at e;obtain⟨rfl,rfl⟩:=e;exact⟨_,ls,⟨_,rfl,hl⟩,by rw[<-hz,tF];rfl,hk⟩
theorem rT{v:Value}{k:Nat}(hS:Old S w)(h:fh w S v k z)(hk:k<=40000000):
  eG PG N.my #[v] w (eL w fun v' w2=>∃cs,eD w2 (Nf w w2) v' cs∧Bh cs (2*k) z):=by
 obtain⟨b,ls,hi,hz,hl⟩:=h;have Pv:Lm ls:=by obtain⟨_,_,h⟩:=hi;exact h.lm
 refine(Hb hS hi (by omega)).mono fun _ w2 ⟨v2,e1,e2,e3⟩=>⟨v2,e1,e2,_,e3,by rw[DW,Nj,hz],by rw[ij];omega,AE (aAY b) Pv,fun h0=>?_⟩
 cases b with
 |false=>exact fun c hc=>(xh Pv c hc).1
 |true=>
  rw[Lj]at hz;exact fun c hc=>by rw[Bi _ (show val ls=0 by omega) c hc];decide
theorem Hc{v:Value}{n:Nat}(hS:Old S w)(h:eD w S v cs)(hb:Bh cs n z)(hn:n<=100000000):
  eG PG N.kT #[v] w (eL w fun v' w2=>dS w2 (Nf w w2) v' z):=by
 have:=wW hS h (fun c hc=>by have:=hb.2.2.1 c hc;omega) (by have:=hb.2.1;omega);rw[hb.1]at this;exact this
theorem MX{v:Value}{k:Nat}(hS:Old S w)(hx:fh w S v k x)(hk:k<=40000000):
  eG PG N.CW #[v] w (eL w fun v' w2=>dS w2 (Nf w w2) v' x):=by
 have hw:=bR w;replace hx:=hx.cL (S':=Cv S w.heap.size []) fun _ h=>.inl h;obtain⟨b1,a1,n1,c1,rfl⟩:=hx.shape;refine Db (by simp) ?_;refine cH (cE hw (fun _ w' v w2=>∃cs,eD w2 (Nf w' w2) v cs∧Bh cs (2*k) (x)) (fun O w' r=>rT (Rel.old r hS) (hx.rel r hS) (by omega)) ?_);rintro O _ _ _ Og r he hw h_ ⟨cs,k1,bcs⟩;have hc:=k1.dF (S:=FF) r.cG (mN h_);obtain⟨acs,ccs,rfl,lcs⟩:=hc.shape;refine cH (cE hw (fun _ w' v w2=>dS w2 (Nf w' w2) v (x)) (fun O w' r=>Hc (Rel.old r (cF w)) (hc.rel r (cF w)) bcs (by omega)) ?_);rintro O _ _ _ OX r he hw h_ hn;have hC:=hn.dF (S:=FF) r.cG (mN h_);obtain⟨A0,A1,A2,A3,rfl⟩:=hC.shape;exact rtn hw fun ρe we re=>hC.out re (cF w)
theorem oA{v:Value}{k:Nat}(hS:Old S w)(hx:fh w S v k x)(hk:k<=40000000):
  eG PG N.xR #[v] w (eL w fun v' w2=>dS w2 (Nf w w2) v' (-x)):=by
 have hw:=bR w;replace hx:=hx.cL (S':=Cv S w.heap.size []) fun _ h=>.inl h;obtain⟨b1,a1,n1,c1,rfl⟩:=hx.shape;replace hx:=hx.neg;refine Ae (by simp) ?_;refine cH (cE hw (fun _ w' v w2=>dS w2 (Nf w' w2) v (-x)) (fun O w' r=>MX (Rel.old r hS) (hx.rel r hS) hk) ?_);rintro O _ _ _ Og r he hw h_ hn;have hC:=hn.dF (S:=FF) r.cG (mN h_);obtain⟨A0,A1,A2,A3,rfl⟩:=hC.shape;exact rtn hw fun ρe we re=>hC.out re (cF w)
theorem ye{v:Value}{k:Nat}(hS:Old S w)(hx:fh w S v k x)(hk:k<=40000000):
  eG PG N.AK #[v] w (eL w fun v' w2=>dS w2 (Nf w w2) v' ((x.natAbs:Int))):=by
 have hw:=bR w;replace hx:=hx.cL (S':=Cv S w.heap.size []) fun _ h=>.inl h;obtain⟨b1,a1,n1,c1,rfl⟩:=hx.shape;replace hx:=hx.abs;refine B4 (by simp) ?_;refine cH (cE hw (fun _ w' v w2=>dS w2 (Nf w' w2) v ((x.natAbs:Int))) (fun O w' r=>MX (Rel.old r hS) (hx.rel r hS) hk) ?_);rintro O _ _ _ Og r he hw h_ hn;have hC:=hn.dF (S:=FF) r.cG (mN h_);obtain⟨A0,A1,A2,A3,rfl⟩:=hC.shape;exact rtn hw fun ρe we re=>hC.out re (cF w)
theorem OJ{v:Value}{i:Nat}(hS:Old S w)(h:eD w S v cs):
  eG PG N.FW #[v,.int .i64 i] w (eL w fun v' _=>v'= .int .i64 (cs.getD i 0)):=by
 obtain⟨a,c,rfl,hc⟩:=h.shape;refine FZ (by simp) ?_;refine dN.mk ?_ ?_<;>intro hi
 ·have hi:i<cs.length:=by simpa using hi
  obtain⟨x,hx⟩:∃x,cs[i]? =some x:=⟨_,aA hi⟩
  obtain⟨ad,rfl,q1,q2⟩:=h.load hx;refine⟨ad,rfl,by omega,.int .i64 x,fun O w' r=>?_,?_⟩
  ·rw[aF];exact jY hS dq.refl r q1 q2
  intro O w2 r;exact⟨_,rfl,r.cU,by rw[List.getD,hx];rfl⟩
 ·have hi:cs.length<=i:=by
   have:¬i<cs.length:=by simpa using hi
   omega
  intro O w2 r;exact⟨_,rfl,r.cU,by rw[List.getD,List.getElem?_eq_none hi];rfl⟩
theorem val_zero(h:∀x∈ls,x=0):val ls=0:=by
 induction ls with
 |nil=>rfl
 |cons l r ih=>rw[val,h l aG,ih fun x hx=>h x (aC _ hx)]
theorem Nk{x:Nat}(h:x∈ls)(hx:x≠0):0<val ls:=by
 induction ls with
 |nil=>cases h
 |cons l r ih=>
  rw[val];rcases List.mem_cons.1 h with rfl|h
  ·omega
  ·have:=ih h;omega
theorem gw{v:Value}(hS:Old S w)(hx:jn w S v x):
  eG PG N.AH #[v] w (eL w fun v' _=>v'= .int .i64 x.sign):=by
 obtain⟨b,ls,⟨lv,rfl,h1⟩,hz⟩:=hx;obtain⟨a,c,rfl,_,ha⟩:=h1.sl;have hle1:=h1.le;refine B2 (by simp) ?_
 refine⟨Nat×World,fun z=>⟨[(1,pP 0 0),(3,iZ z.1)],[(0,.box T.Int [.v (.bool b),.v (.slice a ls.length c)])],1,[],z.2⟩,fun z=>ls.length-z.1,
  fun z=>z.1<=ls.length∧dq w.heap.size w z.2∧∀x∈ls.take z.1,x=0,?_,?_⟩
 ·intro O w' r;exact⟨(0,w'),⟨by simp,r.cU,by simp⟩,Sub.gn [] r⟩
 rintro⟨i,w1⟩ ⟨hi,hw,ht⟩;dsimp only at hi hw ht ⊢;refine dN.mk ?_ ?_<;>intro OU
 ·have OU:i<ls.length:=by simpa using OU
  obtain⟨y,hy⟩:∃x,ls[i]? =some x:=⟨_,aA OU⟩
  obtain⟨ad,rfl,q1,q2⟩:=ha i y hy;refine⟨ad,rfl,by omega,.int .u32 y,fun O w' r=>by rw[aF,aZ];exact jY hS hw r q1 q2,?_⟩;refine dN.mk ?_ ?_<;>intro OY
  ·have OY:y≠0:=fun h=>by rw[h]at OY;simp at OY
   have hp:=Nk (aD hy) OY
   cases b with
   |true=>
    rw[Lj]at hz;intro O w2 r;exact⟨_,rfl,hw.tr r.cU,by rw[bl (by omega)];rfl⟩
   |false=>
    rw[aAP]at hz;intro O w2 r;exact⟨_,rfl,hw.tr r.cU,by rw[bp (by omega)];rfl⟩
  have OY:y=0:=by simpa using OY
  subst OY;have TX:∀x∈ls.take (i+1),x=0:=fun x hx=>by
   rw[List.take_add_one,hy]at hx;rcases bE.1 hx with hx|hx
   ·exact ht x hx
   ·simpa using hx
  refine⟨((i+1:Nat):Int),wo,?_⟩;intro ρ3 w3 r3;exact⟨(i+1,w3),⟨OU,hw.tr r3.cU,TX⟩,Sub.gn [] r3,by dsimp only;omega⟩
 have OU:i=ls.length:=by
  have:¬i<ls.length:=by simpa using OU
  omega
 subst OU;rw[bF]at ht;intro O w2 r;refine⟨_,rfl,hw.tr r.cU,?_⟩;rw[<-hz,val_zero ht]
 cases b<;>rfl
theorem Bh.at{n:Nat}(h:Bh cs n z)(i:Nat): -65535<=cs.getD i 0∧cs.getD i 0<=65535:=by
 rw[List.getD]
 cases hj:cs[i]? with
 |none=>simp
 |some d=>exact h.2.2.1 d (aD hj)
end Go.Ex
namespace Go.Sx
open Go Go.Ex Go.Proofs
variable{cs:List Int}{O:Nat->Sx.dw}
theorem Rel.Nl{H:Hp}{nx:Nat}{iv:Iv}{B:Nat}{w w':World}(r:Rel H nx iv B w O w'){id m:Nat}(h:dD H id=some (.vec T.int 1 (cs.map (Value.int .i64))))(hm:m=cs.length)(hl:m<=maxLen):
  ∃S',Old S' w'∧eD w' S' ((SV.o (.w id m)).den O) cs:=by
 have OV:=r.EG (m:=m) h (by rw[aL,hm,aZ]) (by decide);exact⟨_,fun g hg=>(ownsRow.low OV g hg).2,rR OV hm hl⟩
end Go.Sx
namespace Go.Ex
open Go Go.Sx Go.Proofs
variable{x y:Int}{cs:List Int}{S:Nat->Prop}{O:Nat->Sx.dw}{u:Value}{w:World}
theorem nC{H:Hp}{nx:Nat}{iv:Iv}{B:Nat}{w':World}(r:Rel H nx iv B w O w'){id m:Nat}{z:Int}(h:dD H id=some (.vec T.int 1 (cs.map (Value.int .i64))))(hm:m=cs.length)(hl:m<=100000000)
  (hb:∀c∈cs,-1152921504606846976<=c∧c<=1152921504606846976) (hz:dW cs=z):eG PG N.kT #[(SV.o (.w id m)).den O] w' (eL w' fun v' w2=>dS w2 (Nf w' w2) v' z):=by
 subst hz;obtain⟨S',h1,h2⟩:=r.Nl h hm (by unfold maxLen;omega);exact wW h1 h2 hb (by omega)
theorem BL{v:Value}{k l:Nat}(hS:Old S w)(hx:fh w S v k x)(hy:fh w S u l y)(hk:k<=10000000)(hl:l<=10000000):
  eG PG N.CV #[v,u] w (eL w fun v' w2=>dS w2 (Nf w w2) v' (x+y)):=by
 have hw:=bR w;replace hx:=hx.cL (S':=Cv S w.heap.size []) fun _ h=>.inl h;replace hy:=hy.cL (S':=Cv S w.heap.size []) fun _ h=>.inl h;obtain⟨b1,a1,n1,c1,rfl⟩:=hx.shape;obtain⟨b2,a2,n2,c2,rfl⟩:=hy.shape;refine Da (by simp) ?_;refine cQ hτ dx [.x 0,.x 2,.x 1,.x 3,.x 4,.x 5] (by kernel_rfl) (by kernel_rfl) ?_;refine cE hw (fun _ w' v w2=>∃cs,eD w2 (Nf w' w2) v cs∧Bh cs (2*k) (x)) (fun O w' r=>rT (Rel.old r hS) (hx.rel r hS) (by omega)) ?_;rintro O _ _ _ Og r he hw h_ ⟨ca,k1,bca⟩;replace hy:=hy.cK r hS he (mC h_);have Pc:=k1.dF (S:=FF) r.cG (mN h_);obtain⟨aca,cca,rfl,lca⟩:=Pc.shape;refine cE hw (fun _ w' v w2=>∃cs,eD w2 (Nf w' w2) v cs∧Bh cs (2*l) (y)) (fun O w' r=>rT (Rel.old r hS) (hy.rel r hS) (by omega)) ?_;rintro O _ _ _ OX r he hw h_ ⟨cb,k1,bcb⟩;replace Pc:=Pc.cK r (cF w) he (mC h_);have QT:=k1.dF (S:=FF) r.cG (mN h_);obtain⟨acb,ccb,rfl,lcb⟩:=QT.shape
 refine⟨Nat×World×Iv,fun z=>⟨[(4,pP 2 0),(5,sV aca ca.length cca),(6,sV acb cb.length ccb),(7,.o (.w 3 z.1)),(8,iZ z.1)],[(3,.vec T.int 1 (((List.range z.1).map fun j=>ca.getD j 0+cb.getD j 0).map (Value.int .i64))),(2,.box T.Int [.v (.bool false),.v (.slice none 0 0)])],4,z.2.2,z.2.1⟩,fun z=>max ca.length cb.length-z.1,
  fun z=>z.1<=max ca.length cb.length∧dq w.heap.size w z.2.1∧eD z.2.1 (Cf w z.2.2) (.slice aca ca.length cca) ca∧eD z.2.1 (Cf w z.2.2) (.slice acb cb.length ccb) cb,?_,?_⟩
 ·intro O w' r
  exact⟨(0,w',OX),⟨by simp,hw.tr r.cU,Pc.rel r (cF w),QT.rel r (cF w)⟩,Sub.nil 7 T.int 1 rfl (by simp[kF,SV.sc,At.sc,fm]) r fun ρ1 r1=>
   Sub.gn [] r1⟩
 rintro⟨i,w1,iv⟩ ⟨hi,hw,Pc,QT⟩;dsimp only at hi hw Pc QT ⊢;have l1:=bca.2.1;have l2:=bcb.2.1;refine dN.mk ?_ ?_<;>intro OU
 ·have OU:i<max ca.length cb.length:=by
   have:=aI OU;omega
  have q1:=bca.at i;have q2:=bcb.at i;refine cH (cE hw (fun _ w' v w2=>v= .int .i64 (ca.getD i 0)) (fun O w' r=>OJ (Rel.old r (cF w)) (Pc.rel r (cF w))) ?_);rintro O Pz v3 Px Oh r he hw h_ rfl;replace Pc:=Pc.cK r (cF w) he (mC h_);replace QT:=QT.cK r (cF w) he (mC h_);refine cH (cE hw (fun _ w' v w2=>v= .int .i64 (cb.getD i 0)) (fun O w' r=>OJ (Rel.old r (cF w)) (QT.rel r (cF w))) ?_);rintro O _ _ _ On r he hw h_ rfl;replace Pc:=Pc.cK r (cF w) he (mC h_);replace QT:=QT.cK r (cF w) he (mC h_);refine⟨ca.getD i 0+cb.getD i 0,wo,?_⟩;refine .inl ?_;refine⟨by simp,by omega,by unfold maxLen;omega,((i+1:Nat):Int),wo,?_⟩;intro ρ3 w3 r3;have TE:((List.range (i+1)).map fun j=>ca.getD j 0+cb.getD j 0).map (Value.int .i64)=((List.range i).map fun j=>ca.getD j 0+cb.getD j 0).map (Value.int .i64)++[.int .i64 (ca.getD i 0+cb.getD i 0)]:=by
   rw[bS,List.map_append,List.map_append];rfl
  exact⟨(i+1,w3,_),⟨OU,hw.tr r3.cU,Pc.rel r3 (cF w),QT.rel r3 (cF w)⟩,Sub.gn [(3,5)] r3 ⟨by dsimp only;rw[TE];rfl,rfl,trivial⟩,by dsimp only;omega⟩
 have OU:i=max ca.length cb.length:=by
  have:=aH OU;omega
 generalize PI:((List.range i).map fun j=>ca.getD j 0+cb.getD j 0)=cs;have hz:dW cs=x+y:=by
  rw[<-PI,AB,AD,qD ca i (by omega),qD cb i (by omega),bca.1,bcb.1]
 have hlen:i=cs.length:=by rw[<-PI];simp
 have Ow:∀c∈cs,-1152921504606846976<=c∧c<=1152921504606846976:=fun c hc=>by
  rw[<-PI]at hc;obtain⟨j,_,rfl⟩:=aV.1 hc;have:=bca.at j;have:=bcb.at j;omega
 refine cH (cE hw (fun _ w' v w2=>dS w2 (Nf w' w2) v (x+y)) (fun O w' r=>nC r rfl hlen (by omega) Ow hz) ?_);rintro O _ _ _ Oh r he hw h_ hn;have hC:=hn.dF (S:=FF) r.cG (mN h_);obtain⟨A0,A1,A2,A3,rfl⟩:=hC.shape;exact rtn hw fun ρe we re=>hC.out re (cF w)
theorem EI{v:Value}{k l:Nat}(hS:Old S w)(hx:fh w S v k x)(hy:fh w S u l y)(hk:k<=10000000)(hl:l<=10000000):
  eG PG N.AM #[v,u] w (eL w fun v' w2=>dS w2 (Nf w w2) v' (x-y)):=by
 have Qj:=hy.ln;have hw:=bR w;replace hx:=hx.cL (S':=Cv S w.heap.size []) fun _ h=>.inl h;replace hy:=hy.cL (S':=Cv S w.heap.size []) fun _ h=>.inl h;obtain⟨b1,a1,n1,c1,rfl⟩:=hx.shape;obtain⟨b2,a2,n2,c2,rfl⟩:=hy.shape;refine B5 (by simp) ?_;refine cQ hτ dx [.x 0,.x 1,.x 2,.x 3,.x 4] (by kernel_rfl) (by kernel_rfl) ?_;refine cE hw (fun _ w' v w2=>dS w2 (Nf w' w2) v (-y)) (fun O w' r=>oA (Rel.old r hS) (hy.rel r hS) (by omega)) ?_;rintro O _ _ _ Og r he hw h_ hn;replace hx:=hx.cK r hS he (mC h_);have hm:=hn.dF (S:=FF) r.cG (mN h_);obtain⟨A0,A1,A2,A3,rfl⟩:=hm.shape;refine cE hw (fun _ w' v w2=>dS w2 (Nf w' w2) v (x-y)) (fun O w' r=>?_) ?_
 ·have h:=BL (Rel.old r hS) (hx.rel r hS) (((hm.rel r (cF w)).l (k:=l) (by rw[Int.natAbs_neg];exact Qj)).cL fun g hg=>Cv.false hg) hk hl;rw[<-Int.sub_eq_add_neg]at h;exact h
 rintro O _ _ _ OX r he hw h_ hn;have hC:=hn.dF (S:=FF) r.cG (mN h_);obtain⟨C0,C1,C2,C3,rfl⟩:=hC.shape;exact rtn hw fun ρe we re=>hC.out re (cF w)
theorem Jt{v:Value}{k l:Nat}(hS:Old S w)(hx:fh w S v k x)(hy:fh w S u l y)(hk:k<=10000000)(hl:l<=10000000):
  eG PG N.uP #[v,u] w (eL w fun v' _=>v'= .int .i64 (x-y).sign):=by
 have hw:=bR w;replace hx:=hx.cL (S':=Cv S w.heap.size []) fun _ h=>.inl h;replace hy:=hy.cL (S':=Cv S w.heap.size []) fun _ h=>.inl h;obtain⟨b1,a1,n1,c1,rfl⟩:=hx.shape;obtain⟨b2,a2,n2,c2,rfl⟩:=hy.shape;refine yF (by simp) ?_;refine cH (cE hw (fun _ w' v w2=>dS w2 (Nf w' w2) v (x-y)) (fun O w' r=>EI (Rel.old r hS) (hx.rel r hS) (hy.rel r hS) hk hl) ?_);rintro O _ _ _ Og r he hw h_ hn;have hd:=hn.dF (S:=FF) r.cG (mN h_);obtain⟨A0,A1,A2,A3,rfl⟩:=hd.shape;refine cH (cE hw (fun _ w' v w2=>v= .int .i64 (x-y).sign) (fun O w' r=>gw (Rel.old r (cF w)) (hd.rel r (cF w)).r) ?_);rintro O _ _ _ OX r he hw h_ rfl;exact rtn hw fun ρe we re=>rfl
end Go.Ex
