/- Texts X46 to X58: lemmas, each with its conditions. -/
import Derived.Test.YtgkpbdkechfgmaaGreatP5
namespace Go.Ex
open Go Go.Sx Go.Proofs
variable{cs:List Int}{S:Nat->Prop}
theorem vg(n:Int):(n.tmod 65536<0->n % 65536=n.tmod 65536+65536)∧(¬n.tmod 65536<0->n % 65536=n.tmod 65536)∧ -65536<n.tmod 65536∧n.tmod 65536<65536:=by
 by_cases h:0<=n
 ·rw[Int.tmod_eq_emod_of_nonneg h];omega
 ·have h1:n.tmod 65536= -((-n) % 65536):=by
   have:n= -(-n):=by omega
   conv=>lhs;rw[this]
   rw[Int.neg_tmod,Int.tmod_eq_emod_of_nonneg (by omega)]
  rw[h1];omega
theorem Bp(n:Int):(n-n % 65536).tdiv 65536=n / 65536:=by
 have h:n-n % 65536=65536*(n / 65536):=by omega
 rw[h,Int.mul_tdiv_cancel_left _ (by decide)]
theorem Bq{w:World}{v:Value}(hS:Old S w)(h:dR w S v cs)(hb:∀c∈cs,-1152921504606846976<=c∧c<=1152921504606846976)(hl:cs.length<=1000000000):
  dx PG N.rT #[v] w (eH w fun v' w2=>∃o,v'= .tuple #[o,.int .i64 (dH cs 0).2]∧w2.ownsRow w.heap.size T.int 1 o cs.length ((dZ (dH cs 0).1).map (Value.int .i64))):=by
 obtain⟨a,c,rfl,hc⟩:=h.shape;refine vR (by simp) ?_
 refine⟨Nat×World,fun z=>⟨[(0,sV a cs.length c),(4,.o (.w 0 z.1)),(5,.o (.v (.int .i64 (dH (cs.take z.1) 0).2))),(6,iZ z.1)],[(0,.vec T.int 1 ((dZ (dH (cs.take z.1) 0).1).map (Value.int .i64)))],1,[],z.2⟩,fun z=>cs.length-z.1,
  fun z=>dT w.heap.size w z.2∧z.1<=cs.length,?_,?_⟩
 ·intro O w' r
  exact⟨(0,w'),⟨r.cL,by simp⟩,Sub.nil 4 T.int 1 rfl (by simp[l6,SV.sc,At.sc,iW]) r fun ρ1 r1=>
   Sub.gn [] r1⟩
 rintro⟨i,w1⟩ ⟨hw,hi⟩;dsimp only at hw hi ⊢;obtain⟨-,hdg,hlen⟩:=kg (cs.take i) 0;have SJ:((dZ (dH (cs.take i) 0).1).map (Value.int .i64)).length=i:=by rw[aL,ec,hlen,aZ];omega
 obtain⟨hk1,UK⟩:=jz (cs.take i) 0 (fun c hc=>hb c (bS hc)) (by decide) (by decide);have hR:dR w1 S (.slice a cs.length c) cs:=dR.cC h fun g hg=>hw.block g (hS g hg);refine dB.mk ?_ ?_<;>intro h
 ·have h:i<cs.length:=by simpa using h
  obtain⟨x,hx⟩:∃x,cs[i]? =some x:=⟨_,aB h⟩
  obtain⟨Rn,RZ⟩:=hb x (aE hx);obtain⟨ad,rfl,q1,q2⟩:=hR.load hx;have VX:cs.take (i+1)=cs.take i++[x]:=by rw[List.take_add_one,hx];rfl
  have hsn:=CO (cs.take i) x 0;rw[<-VX]at hsn;generalize (dH (cs.take i) 0).1=ds at*
  generalize (dH (cs.take i) 0).2=k at*
  obtain⟨t1,t2,t3,t4⟩:=vg (x+k);have hem1:=Int.emod_nonneg (x+k) (show (65536:Int)≠0 by decide);have hem2:=Int.emod_lt_of_pos (x+k) (show (0:Int)<65536 by decide);refine⟨ad,rfl,by omega,.int .i64 x,fun O w' r=>?_,?_⟩
  ·rw[aF,cJ (w:=w1) (w2:=w') (by rw[c9];exact Rel.same (S:=S) r hS (.inl q1))];exact q2
  refine⟨x+k,wo,by decide,(x+k).tmod 65536,rfl,?_⟩;refine dB.mk ?_ ?_<;>intro RB
  ·have RB:=t1 (aK RB);refine⟨(x+k) % 65536,by rw[RB,wrap64]<;>omega,x+k-(x+k) % 65536,wo,by decide,(x+k) / 65536,by rw[Bp,wrap64]<;>omega,?_⟩;refine .inl ?_;refine⟨by rw[SJ,aY],by omega,by unfold maxLen;omega,((i+1:Nat):Int),wo,?_⟩;intro ρ3 w3 r3;have TU:(dZ (dH (cs.take (i+1)) 0).1).map (Value.int .i64)=(dZ ds).map (Value.int .i64)++[.int .i64 ((x+k) % 65536)]:=by
    rw[hsn];simp[dZ,Int.toNat_of_nonneg hem1]
   have hk5:(dH (cs.take (i+1)) 0).2=(x+k) / 65536:=by rw[hsn]
   exact⟨(i+1,w3),⟨hw.tr r3.cL,by dsimp only;omega⟩,Sub.gn [(0,2)] r3 ⟨by dsimp only;rw[TU];rfl,trivial⟩ ⟨rfl,rfl,by dsimp only;rw[hk5];rfl,rfl,trivial⟩,by dsimp only;omega⟩
  ·have RB:=t2 (aH RB);rw[<-RB];refine⟨x+k-(x+k) % 65536,wo,by decide,(x+k) / 65536,by rw[Bp,wrap64]<;>omega,?_⟩;refine .inl ?_;refine⟨by rw[SJ,aY],by omega,by unfold maxLen;omega,((i+1:Nat):Int),wo,?_⟩;intro ρ3 w3 r3;have TU:(dZ (dH (cs.take (i+1)) 0).1).map (Value.int .i64)=(dZ ds).map (Value.int .i64)++[.int .i64 ((x+k) % 65536)]:=by
    rw[hsn];simp[dZ,Int.toNat_of_nonneg hem1]
   have hk5:(dH (cs.take (i+1)) 0).2=(x+k) / 65536:=by rw[hsn]
   exact⟨(i+1,w3),⟨hw.tr r3.cL,by dsimp only;omega⟩,Sub.gn [(0,2)] r3 ⟨by dsimp only;rw[TU];rfl,trivial⟩ ⟨rfl,rfl,by dsimp only;rw[hk5];rfl,rfl,trivial⟩,by dsimp only;omega⟩
 ·have h:i=cs.length:=by
   have:¬i<cs.length:=by simpa using h
   omega
  subst h;rw[bH]at SJ ⊢;exact rtn hw fun ρe we re=>⟨_,rfl,re.DI (id:=0) rfl (by rw[SJ,aY]) (by decide)⟩
end Go.Ex
namespace Go.Sx
open Go Go.Ex Go.Proofs
variable{ls:List Nat}{O:Nat->Sx.dL}
theorem Rel.LL{H:Hp}{nx:Nat}{iv:Iv}{B:Nat}{w w':World}(r:Rel H nx iv B w O w'){id t m:Nat}(h:cV H id=some (.vec t 1 (U ls)))(hm:m<=ls.length)(PN:Lm ls)(hle:ls.length<=9223372036854775807):
  cz w' (fun g=>B<=g∧g<w'.heap.size) ((At.w id m).den O) (ls.take m):=by
 have Ou:(ls.take m).length=m:=by rw[aZ];omega
 rcases r.vec id t 1 _ h with⟨hn,hu⟩|⟨hn,spare,hb,hc,QF⟩
 ·have hl:ls=[]:=by cases ls with
   |nil=>rfl
   |cons a b=>simp[U]at hu
  subst hl;simp at hm;subst hm;have:(At.w id 0).den O= .slice none 0 0:=by simp[At.den,hn]
  rw[this];exact cz.nil _ _
 ·refine⟨PN.take m,by rw[Ou];omega,some ⟨(O id).g,0,none⟩,(O id).cap,by rw[Ou];simp[At.den,hn],?_,fun j x hx=>⟨_,rfl,r.low id _ h hn,?_⟩⟩
  ·have h1:(U ls++spare).length=ls.length+spare.length:=by rw[List.length_append,gF]
   rw[Ou];omega
  ·rw[List.getElem?_take]at hx;split at hx
   ·rw[dA,cell_of hb,aV,aJ (by rw[gF];exact(aD.1 hx).1)];exact uF hx
   ·cases hx
end Go.Sx
namespace Go.Ex
open Go Go.Sx Go.Proofs
variable{ds ls:List Nat}{S:Nat->Prop}
theorem Gg{n:Nat}(_hn:n<ls.length)(h0:ls[n]? =some 0):dO (ls.take (n+1))=dO (ls.take n):=by
 rw[List.take_add_one,h0];exact kP _
theorem Gi{n x:Nat}(h0:ls[n]? =some x)(hx:x≠0):dO (ls.take (n+1))=ls.take (n+1):=by
 rw[List.take_add_one,h0];exact nZ _ hx
theorem FB{w:World}{v:Value}(hS:Old S w)(h:dR w S v (dZ ds))(hd:Dg ds)(hl:ds.length<=1000000000):
  dx PG N.tm #[v] w (eH w fun v' w2=>∃lv,v'= .agg #[.bool false,lv]∧cz w2 (Nf w w2) lv (dO (gZ ds))):=by
 obtain⟨a,c,rfl,hc⟩:=h.shape;rw[ec]at hc h ⊢;refine xO (by simp) ?_
 refine⟨Nat×World,fun z=>match z.1 with
   |0=>⟨[(0,sV a ds.length c),(2,pP 0 0),(3,pP 1 0),(4,iZ 0)],[(1,.box T.Int [.v (.bool false),.v (.slice none 0 0)]),(0,.box T.Int [.v (.bool false),.v (.slice none 0 0)])],2,[],z.2⟩
   |k+1=>⟨[(0,sV a ds.length c),(2,pP 0 0),(3,pP 1 0),(4,.o (.v (.int .i64 ((2*(k+1):Nat):Int))))],[(2,.vec T.uint32 1 (U (pk ds (k+1)))),(1,.box T.Int [.v (.bool false),.w 2 (k+1)]),(0,.box T.Int [.v (.bool false),.v (.slice none 0 0)])],3,[],z.2⟩,
  fun z=>ds.length-z.1,fun z=>dT w.heap.size w z.2∧2*z.1<=ds.length+1,?_,?_⟩
 ·intro O w' r;exact⟨(0,w'),⟨r.cL,by simp⟩,Sub.gn [] r⟩
 rintro⟨k,w1⟩ ⟨hw,hi⟩;dsimp only at hw hi;have hR:dR w1 S (.slice a ds.length c) (dZ ds):=dR.cC h fun g hg=>hw.block g (hS g hg)
 cases k with
 |zero=>
  refine dB.mk ?_ ?_<;>intro h1
  ·have h1:0<ds.length:=by
    have:=aK h1;omega
   obtain⟨d0,Sw⟩:∃x,ds[0]? =some x:=⟨_,aB h1⟩
   have hd0b:=hd d0 (aE Sw);have Sv:ds.getD (2*0) 0=d0:=by show ds.getD 0 0=d0;rw[List.getD,Sw];rfl
   obtain⟨ad,rfl,q1,q2⟩:=hR.load (j:=0) (x:=(d0:Int)) (by rw[dZ,aM,Sw];rfl);refine⟨ad,rfl,by omega,.int .i64 (d0:Int),fun O w' r=>?_,?_⟩
   ·show w'.cell? (ad.add (0*1))=_;rw[cJ (w:=w1) (w2:=w') (by rw[c9];exact Rel.same (S:=S) r hS (.inl q1))];exact q2
   refine⟨((0+1:Nat):Int),wo,?_⟩;refine dB.mk ?_ ?_<;>intro h2
   ·have h2:0+1<ds.length:=by
     have:=aK h2;omega
    obtain⟨d1,RM⟩:∃x,ds[0+1]? =some x:=⟨_,aB h2⟩
    have hd1b:=hd d1 (aE RM);have TA:ds.getD (2*0+1) 0=d1:=by show ds.getD (0+1) 0=d1;rw[List.getD,RM];rfl
    obtain⟨_,Om,q3,q4⟩:=hR.load (j:=0+1) (x:=(d1:Int)) (by rw[dZ,aM,RM];rfl);injection Om with Om;subst Om;refine⟨((0+1:Nat):Int),wo,ad,rfl,by omega,.int .i64 (d1:Int),fun O w' r=>?_,?_⟩
    ·show w'.cell? (ad.add ((0+1)*1))=_;rw[cJ (w:=w1) (w2:=w') (by rw[c9];exact Rel.same (S:=S) r hS (.inl q3))];exact q4
    refine⟨((65536*d1:Nat):Int),wo,((d0+65536*d1:Nat):Int),wo,?_⟩;have SQ:=xk ds 0;rw[Sv,TA]at SQ;generalize d0+65536*d1=dd at*
    have hdd:dd<4294967296:=KO hd (0+1) dd (by rw[SQ];simp);refine⟨(dd:Int),by rw[xX]<;>omega,?_⟩;refine .inl ?_;refine⟨by omega,by unfold maxLen;omega,((2*(0+1):Nat):Int),wo,?_⟩;intro ρ3 w3 r3;have hU:U (pk ds (0+1))=U (pk ds 0)++[.int .u32 (dd:Int)]:=by rw[SQ];simp[U]
    exact⟨(0+1,w3),⟨hw.tr r3.cL,by dsimp only;omega⟩,Sub.gn [(2,3)] r3 ⟨by dsimp only;rw[hU];rfl,rfl,rfl,trivial⟩,by dsimp only;omega⟩
   ·have h2:0+1=ds.length:=by
     have:=aH h2;omega
    have TA:ds.getD (2*0+1) 0=0:=by show ds.getD (0+1) 0=0;rw[List.getD,List.getElem?_eq_none (by omega)];rfl
    have SQ:=xk ds 0;rw[Sv,TA]at SQ;obtain⟨dd,hdde⟩:∃dd,dd=d0:=⟨_,rfl⟩
    rw[<-hdde]at SQ ⊢;have hdd:dd<4294967296:=by omega
    rw[show dd+65536*0=dd by omega]at SQ;refine⟨(dd:Int),by rw[xX]<;>omega,?_⟩;refine .inl ?_;refine⟨by omega,by unfold maxLen;omega,((2*(0+1):Nat):Int),wo,?_⟩;intro ρ3 w3 r3;have hU:U (pk ds (0+1))=U (pk ds 0)++[.int .u32 (dd:Int)]:=by rw[SQ];simp[U]
    exact⟨(0+1,w3),⟨hw.tr r3.cL,by dsimp only;omega⟩,Sub.gn [(2,3)] r3 ⟨by dsimp only;rw[hU];rfl,rfl,rfl,trivial⟩,by dsimp only;omega⟩
  ·have h1:ds=[]:=by
    have:=aH h1;exact List.eq_nil_of_length_eq_zero (by omega)
   subst h1;refine⟨World,fun z=>⟨[(2,pP 0 0),(3,pP 1 0),(6,iZ 0)],[(1,.box T.Int [.v (.bool false),.v (.slice none 0 0)]),(0,.box T.Int [.v (.bool false),.v (.slice none 0 0)])],2,[],z⟩,fun _=>0,fun z=>dT w.heap.size w z,?_,?_⟩
   ·intro O w' r;exact⟨w',hw.tr r.cL,Sub.gn [] r⟩
   intro w2 hw;dsimp only at hw ⊢;refine⟨⟨by decide,by decide,by decide⟩,none,0,0,by rfl,by rfl,by rfl,?_⟩;exact rtn hw fun ρe we re=>⟨_,rfl,cz.nil _ _⟩
 |succ k=>
  refine dB.mk ?_ ?_<;>intro h1
  ·have h1:(2*(k+1))<ds.length:=by
    have:=aK h1;omega
   obtain⟨d0,Sw⟩:∃x,ds[(2*(k+1))]? =some x:=⟨_,aB h1⟩
   have hd0b:=hd d0 (aE Sw);have Sv:ds.getD (2*(k+1)) 0=d0:=by show ds.getD (2*(k+1)) 0=d0;rw[List.getD,Sw];rfl
   obtain⟨ad,rfl,q1,q2⟩:=hR.load (j:=(2*(k+1))) (x:=(d0:Int)) (by rw[dZ,aM,Sw];rfl);refine⟨ad,rfl,by omega,.int .i64 (d0:Int),fun O w' r=>?_,?_⟩
   ·show w'.cell? (ad.add ((2*(k+1))*1))=_;rw[cJ (w:=w1) (w2:=w') (by rw[c9];exact Rel.same (S:=S) r hS (.inl q1))];exact q2
   refine⟨(((2*(k+1))+1:Nat):Int),wo,?_⟩;refine dB.mk ?_ ?_<;>intro h2
   ·have h2:(2*(k+1))+1<ds.length:=by
     have:=aK h2;omega
    obtain⟨d1,RM⟩:∃x,ds[(2*(k+1))+1]? =some x:=⟨_,aB h2⟩
    have hd1b:=hd d1 (aE RM);have TA:ds.getD (2*(k+1)+1) 0=d1:=by show ds.getD ((2*(k+1))+1) 0=d1;rw[List.getD,RM];rfl
    obtain⟨_,Om,q3,q4⟩:=hR.load (j:=(2*(k+1))+1) (x:=(d1:Int)) (by rw[dZ,aM,RM];rfl);injection Om with Om;subst Om;refine⟨(((2*(k+1))+1:Nat):Int),wo,ad,rfl,by omega,.int .i64 (d1:Int),fun O w' r=>?_,?_⟩
    ·show w'.cell? (ad.add (((2*(k+1))+1)*1))=_;rw[cJ (w:=w1) (w2:=w') (by rw[c9];exact Rel.same (S:=S) r hS (.inl q3))];exact q4
    refine⟨((65536*d1:Nat):Int),wo,((d0+65536*d1:Nat):Int),wo,?_⟩;have SQ:=xk ds (k+1);rw[Sv,TA]at SQ;generalize d0+65536*d1=dd at*
    have hdd:dd<4294967296:=KO hd ((k+1)+1) dd (by rw[SQ];simp);refine⟨(dd:Int),by rw[xX]<;>omega,?_⟩;refine .inl ?_;refine⟨by rw[gF,vC];omega,by omega,by unfold maxLen;omega,((2*((k+1)+1):Nat):Int),wo,?_⟩;intro ρ3 w3 r3;have hU:U (pk ds ((k+1)+1))=U (pk ds (k+1))++[.int .u32 (dd:Int)]:=by rw[SQ];simp[U]
    exact⟨((k+1)+1,w3),⟨hw.tr r3.cL,by dsimp only;omega⟩,Sub.gn [(2,4)] r3 ⟨by dsimp only;rw[hU];rfl,rfl,rfl,trivial⟩,by dsimp only;omega⟩
   ·have h2:(2*(k+1))+1=ds.length:=by
     have:=aH h2;omega
    have TA:ds.getD (2*(k+1)+1) 0=0:=by show ds.getD ((2*(k+1))+1) 0=0;rw[List.getD,List.getElem?_eq_none (by omega)];rfl
    have SQ:=xk ds (k+1);rw[Sv,TA]at SQ;obtain⟨dd,hdde⟩:∃dd,dd=d0:=⟨_,rfl⟩
    rw[<-hdde]at SQ ⊢;have hdd:dd<4294967296:=by omega
    rw[show dd+65536*0=dd by omega]at SQ;refine⟨(dd:Int),by rw[xX]<;>omega,?_⟩;refine .inl ?_;refine⟨by rw[gF,vC];omega,by omega,by unfold maxLen;omega,((2*((k+1)+1):Nat):Int),wo,?_⟩;intro ρ3 w3 r3;have hU:U (pk ds ((k+1)+1))=U (pk ds (k+1))++[.int .u32 (dd:Int)]:=by rw[SQ];simp[U]
    exact⟨((k+1)+1,w3),⟨hw.tr r3.cL,by dsimp only;omega⟩,Sub.gn [(2,4)] r3 ⟨by dsimp only;rw[hU];rfl,rfl,rfl,trivial⟩,by dsimp only;omega⟩
  ·have h1:ds.length<=2*(k+1):=by
    have:=aH h1;omega
   have hk:k+1=(ds.length+1) / 2:=by omega
   have SQ:pk ds (k+1)=gZ ds:=by rw[hk];exact KN ds
   have hlen:=vC ds (k+1);have PN:=KO hd (k+1);rw[<-SQ];obtain⟨ls,hls⟩:∃ls,ls=pk ds (k+1):=⟨_,rfl⟩
   rw[<-hls]at hlen PN ⊢
   refine⟨by show(U (pk ds (k+1))).length=_;rw[<-hls,gF,hlen];simp,Nat×World,fun z=>⟨[(2,pP 0 0),(3,pP 1 0),(6,iZ z.1)],[(2,.vec T.uint32 1 (U ls)),(1,.box T.Int [.v (.bool false),.w 2 (k+1)]),(0,.box T.Int [.v (.bool false),.v (.slice none 0 0)])],3,[],z.2⟩,fun z=>z.1,
    fun z=>dT w.heap.size w z.2∧z.1<=k+1∧dO (ls.take z.1)=dO ls,?_,?_⟩
   ·intro O w' r;exact⟨(k+1,w'),⟨hw.tr r.cL,Nat.le_refl _,by dsimp only;rw[List.take_of_length_le (by omega)]⟩,Sub.gn [] r ⟨by dsimp only;rw[hls];rfl,rfl,rfl,trivial⟩⟩
   rintro⟨n,w2⟩ ⟨hw,hn,htr⟩;dsimp only at hw hn htr ⊢
   cases n with
   |zero=>
    refine⟨by rw[gF,hlen];simp,⟨by omega,by omega⟩,0,by rfl,?_⟩;intro ρe we re;refine⟨_,rfl,hw.tr re.cL,_,rfl,?_⟩;have:=re.LL (id:=2) (m:=0) rfl (aS _) PN (by omega);rw[<-htr];exact this.cF fun g hg=>.inr hg
   |succ n=>
    obtain⟨x,hx⟩:∃x,ls[n]? =some x:=⟨_,aB (by omega)⟩
    refine dB.mk (fun hp=>?_) (fun hp=>absurd (aH hp) (by omega));refine⟨(n:Int),wo,by rw[gF,hlen];simp,by omega,.int .u32 (x:Int),by simpa using uF hx,?_⟩;refine dB.mk ?_ ?_<;>intro h0
    ·have h0:x=0:=by have:=eq_of_beq h0;omega
     subst h0;refine⟨(n:Int),wo,?_⟩;intro ρ3 w3 r3;exact⟨(n,w3),⟨hw.tr r3.cL,by dsimp only;omega,by dsimp only;rw[<-htr,Gg (by omega) hx]⟩,Sub.gn [] r3,by dsimp only;omega⟩
    ·have h0:x≠0:=fun e=>by rw[e]at h0;exact absurd h0 (by decide)
     refine⟨by rw[gF,hlen];simp,⟨by omega,by omega⟩,n+1,by rfl,?_⟩;intro ρe we re;refine⟨_,rfl,hw.tr re.cL,_,rfl,?_⟩;have:=re.LL (id:=2) (m:=n+1) rfl (by omega) PN (by omega);rw[<-htr,Gi hx h0];exact this.cF fun g hg=>.inr hg
end Go.Ex
namespace Go.Ex
open Go Go.Sx Go.Proofs
variable{H:Hp}{z:Int}{iv:Iv}{cs:List Int}{b ds ls:List Nat}{xs:List Value}{B i nx:Nat}{S:Nat->Prop}{O:Nat->Sx.dL}{a a2:Option Addr}{q:Rat}{u:Value}{w w':World}
theorem uW{w2:World}{v v':Value}(hc:Ge iv v)(r:Rel H nx iv B w O w')(RG:∀g,v'.ownBlock=some g->g<w2.heap.size∧(v.ownBlock=some g∨g=w'.heap.size)):
  ∀lo hi,(lo,hi)∈r9 v'->hi<=w2.heap.size∧∀id b,cV H id=some b->(O id).nil=false->¬(lo<=(O id).g∧(O id).g<hi):=fun lo hi hm=>by
 obtain⟨hg,rfl⟩:=Bn.1 hm;obtain⟨h1,h2⟩:=RG _ hg;refine⟨by omega,fun id c hc' hn he=>?_⟩;rcases h2 with h2|h2
 ·exact hc.not r h2 id c hc' hn (by omega)
 ·have:=(r.low id c hc' hn).2;omega
theorem cz.out{w1:World}{v:Value}(h:cz w1 (Cv S w.heap.size iv) v ls)(r:Rel H nx iv w.heap.size w1 O w')(hS:Old S w):cz w' (Nw S w w') v ls:=
 (cz.rel h r hS).cF fun _ hg=>Cv.nw hg r
theorem Hj{B' e sz m:Nat}{v:Value}(h:w.ownsRow B e sz v m xs)(hb:B'<=B):w.ownsRow B' e sz v m xs:=⟨h.1,h.2.imp id fun⟨g,cap,cur,k1,k2,k3⟩=>⟨g,cap,cur,k1,by omega,k3⟩⟩
theorem uX(a b:List Nat):dZ (a++b)=dZ a++dZ b:=by simp[dZ]
theorem qv{m:Nat}{v:Value}(h:w.ownsRow B T.int 1 v m (cs.map (Value.int .i64)))(hm:m=cs.length)(hl:m<=maxLen):dR w (fun g=>v.ownBlock=some g) v cs:=by
 subst hm;rcases h.2 with⟨rfl,h0⟩|⟨g,cap,cur,rfl,hb,hc,Vb,QF,Oj,RI⟩
 ·have:cs=[]:=List.eq_nil_of_length_eq_zero h0;subst this;exact⟨by simp[maxLen],by simp,by simp,none,0,rfl,Nat.le_refl _,by simp⟩
 ·refine⟨hl,h.1,fun u hu=>by simp at hu;obtain⟨_,_,rfl⟩:=hu;rfl,_,cap,rfl,Vb,fun j u hu=>⟨_,rfl,rfl,?_⟩⟩;exact h.cells (g:=g) rfl j u hu
theorem Dg.append{a:List Nat}(ha:Dg a)(hb:Dg b):Dg (a++b):=fun x hx=>(List.mem_append.1 hx).elim (ha x) (hb x)
theorem wZ(a b:List Nat):l9 (a++b)=l9 a+up a.length*l9 b:=by
 unfold l9;rw[List.map_append,AW,aL]
theorem AI(hd:Dg ds):Nz (dO (gZ ds))∧(val (dO (gZ ds)):Int)=l9 ds:=by
 obtain⟨h1,h2,_⟩:=zD ds hd;obtain⟨k1,k2,_⟩:=ef (gZ ds);exact⟨k2,by rw[k1,h1]⟩
theorem vh{v:Value}(hS:Old S w)(h:dR w S v cs)(hb:∀c∈cs,-1152921504606846976<=c∧c<=1152921504606846976)(hl:cs.length<=100000000):
  dx PG N.kA #[v] w (eH w fun v' w2=>cu w2 (Nf w w2) v' (dC cs)):=by
 obtain⟨a,c,rfl,hc⟩:=h.shape;obtain⟨Wh,hdg,Ro⟩:=kg cs 0;obtain⟨hk1,UK⟩:=jz cs 0 hb (by decide) (by decide);rw[Int.add_zero]at Wh;refine vN (by simp) ?_;refine cB (cI (Φ:=fun _ w' v' w2=>∃o,v'= .tuple #[o,.int .i64 (dH cs 0).2]∧w2.ownsRow w'.heap.size T.int 1 o cs.length ((dZ (dH cs 0).1).map (Value.int .i64))) (fun O w' r=>Bq (oS hS r) (dR.cC h fun g hg=>Rel.same (S:=S) r hS (.inl hg)) hb (by omega)) ?_);rintro O wa v1 wb r he hw ⟨o,rfl,OR⟩;have QP:Ge [(wa.heap.size,wb.heap.size)] o:=fun g hg=>⟨_,_,bF.2 rfl,(ownsRow.low OR g hg).1,(ownsRow.low OR g hg).2⟩
 replace OR:=Hj OR r.bz;generalize [(wa.heap.size,wb.heap.size)]=iv at*
 generalize WH:(dH cs 0).1=ds at*
 generalize hk:(dH cs 0).2=k at*
 obtain⟨ao,co,rfl,hco⟩:=ig OR;refine dB.mk ?_ ?_<;>intro RB
 ·have RB:=aK RB;have hV:dC cs<0:=by
   have h1:=(zC hdg).2;rw[Ro]at h1;have h2:=KM cs.length;have h3:up cs.length*k<=up cs.length*(-1):=Int.mul_le_mul_of_nonneg_left (by omega) (by omega);omega
  obtain⟨VC,Wi,hdl2⟩:=kg (cs.map (- ·)) 0;have Qn:∀c∈cs.map (- ·),-1152921504606846976<=c∧c<=1152921504606846976:=fun c hc=>by
   obtain⟨x,hx,rfl⟩:=aR.1 hc;have:=hb x hx;omega
  obtain⟨hk1',hk2'⟩:=jz (cs.map (- ·)) 0 Qn (by decide) (by decide);rw[Int.add_zero,GB,aL]at VC;rw[aL]at hdl2;have Ua:0<=(dH (cs.map (- ·)) 0).2:=by
   have h1:=(zC Wi).2;rw[hdl2]at h1;have h2:=KM cs.length;apply Decidable.byContradiction;intro h3;have h4:up cs.length*(dH (cs.map (- ·)) 0).2<=up cs.length*(-1):=Int.mul_le_mul_of_nonneg_left (by omega) (by omega);omega
  refine⟨Nat×World,fun z=>⟨[(0,sV a cs.length c),(2,pP 0 0),(3,sV ao cs.length co),(5,iZ z.1)],[(0,.box T.Int [.v (.bool false),.v (.slice none 0 0)])],1,iv,z.2⟩,fun z=>cs.length-z.1,
   fun z=>z.1<=cs.length∧dT w.heap.size w z.2∧z.2.ownsRow w.heap.size T.int 1 (.slice ao cs.length co) cs.length (((cs.take z.1).map (- ·)++(dZ ds).drop z.1).map (Value.int .i64)),?_,?_⟩
  ·intro O w' r;exact⟨(0,w'),⟨by simp,hw.tr r.cL,by simpa using jN OR QP r⟩,Sub.gn [] r⟩
  rintro⟨i,w1⟩ ⟨hi,hw,OR⟩;dsimp only at hi hw OR ⊢;have hR:dR w1 S (.slice a cs.length c) cs:=dR.cC h fun g hg=>hw.block g (hS g hg);refine dB.mk ?_ ?_<;>intro OQ
  ·have OQ:i<cs.length:=by simpa using OQ
   obtain⟨x,hx⟩:∃x,cs[i]? =some x:=⟨_,aB OQ⟩
   obtain⟨Rn,RZ⟩:=hb x (aE hx);obtain⟨ad,rfl,q1,q2⟩:=hR.load hx;obtain⟨go,hgo⟩:∃g,ao=some ⟨g,0,none⟩:=by
    rcases OR.2 with⟨_,h0⟩|⟨g,cap,cur,e,_⟩
    ·omega
    ·injection e with e;exact⟨g,e⟩
   subst hgo;refine⟨ad,rfl,by omega,.int .i64 x,fun O w' r=>?_,?_⟩
   ·rw[aF,cJ (w:=w1) (w2:=w') (by rw[c9];exact Rel.same (S:=S) r hS (.inl q1))];exact q2
   refine⟨-x,wo,⟨go,0,none⟩,rfl,by omega,?_⟩;intro O w' r;have SB:=jN OR QP r;obtain⟨g',R4,OV,QA,Oc,Oj⟩:=kC (nv:=[.int .i64 (-x)]) SB rfl OQ rfl (by decide);injection R4 with R4;injection R4 with R4;subst R4;rw[Ch (by rw[aL,List.length_append,aL,aZ,List.length_drop,ec,Ro];omega)]at QA;have Om:(⟨go,0,none⟩:Addr).add ((i:Int).toNat*1)=⟨go,i*1,none⟩:=by rw[aF,dA,aV]
   have Px:=fun id b hb hn=>QP.not r (b:=go) rfl id b hb hn;have hgoB:=(ownsRow.low OR go rfl).1;have hw':dT w.heap.size w (setCells w' ⟨go,i*1,none⟩ [.int .i64 (-x)]):=(hw.tr r.cL).tr (dT.grown Oc (fun g hg=>by injection hg with hg;subst hg;exact hgoB) r.bz);have hlist:(((cs.take i).map (- ·)++(dZ ds).drop i).map (Value.int .i64)).set i (.int .i64 (-x))=((cs.take (i+1)).map (- ·)++(dZ ds).drop (i+1)).map (Value.int .i64):=by
    rw[<-List.map_set];congr 1;have QT:((cs.take i).map (- ·)).length=i:=by rw[aL,aZ];omega
    obtain⟨d,hd⟩:∃d,(dZ ds)[i]? =some d:=⟨_,aB (by rw[ec,Ro];exact OQ)⟩
    have PM:(dZ ds).drop i=d::(dZ ds).drop (i+1):=by
     rw[List.drop_eq_getElem_cons (by rw[ec,Ro];exact OQ)];congr 1;have:=aB (l:=dZ ds) (i:=i) (by rw[ec,Ro];exact OQ);rw[hd]at this;injection this with this;exact this.symm
    rw[List.take_add_one,hx,List.map_append,PM,List.set_append_right _ _ (by omega),QT,bB];simp
   refine⟨by rw[Om],fun j hj=>by rw[Om];exact OV j hj,fun id b hb hn=>by rw[Om];exact Px id b hb hn,fun w2 PO=>?_⟩;have PO:w2=setCells w' ⟨go,i*1,none⟩ [.int .i64 (-x)]:=by rw[PO];exact congrArg (fun x=>setCells w' x _) Om
   rw[<-PO]at QA hw'
   erw [hlist]at QA
   refine⟨((i+1:Nat):Int),wo,?_⟩;intro ρ3 w3 r3;exact⟨(i+1,w3),⟨OQ,hw'.tr r3.cL,jN QA QP r3⟩,Sub.gn [] r3,by dsimp only;omega⟩
  have OQ:i=cs.length:=by
   have:¬i<cs.length:=by simpa using OQ
   omega
  subst OQ;rw[bH,List.drop_of_length_le (by rw[ec,Ro];exact Nat.le_refl _),List.append_nil]at OR;refine⟨⟨by omega,by omega,by omega⟩,ao,cs.length,co,Ea ao co,by omega,by omega,?_⟩;refine cB (cI (Φ:=fun _ w' v' w2=>∃o,v'= .tuple #[o,.int .i64 (dH (cs.map (- ·)) 0).2]∧w2.ownsRow w'.heap.size T.int 1 o cs.length ((dZ (dH (cs.map (- ·)) 0).1).map (Value.int .i64))) (fun O w' r=>?_) ?_)
  ·have h8:=jN OR QP r;have h9:=qv h8 (by rw[aL]) (by unfold maxLen;omega);have h10:=Bq (fun g hg=>(ownsRow.low h8 g hg).2) h9 Qn (by rw[aL];omega);rw[aL]at h10;exact h10
  rintro O wc v1 wd r he Og ⟨o2,rfl,Pb⟩;have Qk:Ge ((wc.heap.size,wd.heap.size)::iv) o2:=fun g hg=>⟨_,_,aG,(ownsRow.low Pb g hg).1,(ownsRow.low Pb g hg).2⟩
  replace Pb:=Hj Pb r.bz;replace hw:=hw.tr Og;generalize (wc.heap.size,wd.heap.size)::iv=OU at*
  generalize hds2:(dH (cs.map (- ·)) 0).1=ds2 at*
  generalize hkk2:(dH (cs.map (- ·)) 0).2=k2 at*
  obtain⟨kn,rfl⟩:∃kn:Nat,k2=kn:=⟨k2.toNat,by omega⟩
  obtain⟨ao2,co2,rfl,hco2⟩:=ig Pb;have ds2_len:ds2.length=cs.length:=hdl2;have ds2_dg:Dg ds2:=Wi;refine cB (cI (Φ:=fun _ w' v w2=>dR w2 (Nf w' w2) v (dZ (ct kn))) (fun O w' r=>by exact FA kn w' (by omega)) ?_);rintro O ws vs wt r he hb WM;have TV:dR wt (Cf w ((ws.heap.size,wt.heap.size)::OU)) vs (dZ (ct kn)):=dR.cF WM fun g hg=>hg.dD r.bz aG;replace Pb:=ownsRow.cC (jN Pb Qk r) fun g hg=>he.block g (by have:=(ownsRow.low (jN Pb Qk r) g hg).2;exact this);replace Qk:Ge ((ws.heap.size,wt.heap.size)::OU) _:=Qk.mono fun p hp=>aC _ hp;replace hw:=hw.tr hb;generalize (ws.heap.size,wt.heap.size)::OU=qW at*
  obtain⟨asp,csp,rfl,-⟩:=TV.shape;rw[ec]at TV ⊢;have SI:=jY (n:=kn) (k:=4) (by omega);have hsd:=(ki kn).2
  refine .inr (yE hτ (Nat.le_refl _) (xs:=(dZ ds2).map (Value.int .i64)) (news:=(dZ (ct kn)).map (Value.int .i64)) (m:=cs.length) (k:=(ct kn).length) (by rfl) (by rfl) (by decide) (by rfl) (by rfl) (fun O w' r=>⟨jN Pb Qk r,fun g hg=>Qk.not r hg⟩) (by simp[dZ]) (by intro u hu;simp at hu;obtain⟨_,_,rfl⟩:=hu;rfl) (by unfold maxLen;omega) (by omega)
   (fun O w' r=>?_) (fun v' w2=>r9 v') (fun O w' v' w2 r Oj RG=>uW Qk r RG) (fun O w' v' w2 r h5 h6 h7=>?_))
  ·obtain⟨_,_,_,a2,c2,e2,_,e3⟩:=TV;injection e2 with e4 e5 e6;subst e4 e6
   cases asp with
   |none=>
    have h0:(ct kn).length=0:=by
     rcases bJ (ct kn).length with h0|h0
     ·exact h0
     ·obtain⟨ad2,q1,_⟩:=e3 0 _ (aB (show 0<((dZ (ct kn)).map (Value.int .i64)).length by simp[dZ];exact h0))
      cases q1
    exact .inl ⟨csp,by rw[h0];rfl,h0⟩
   |some ad3=>
    refine .inr ⟨ad3,csp,rfl,fun j u hu=>?_⟩;obtain⟨ad2,q1,q2,q3⟩:=e3 j u hu;injection q1 with q1;subst q1;rw[cJ (w:=wt) (w2:=w') (by rw[c9];exact Rel.same r (bw w) q2)];exact q3
  replace hw:dT w.heap.size w w2:=(hw.tr r.cL).tr (dT.grown h6 (fun g hg=>by
   have:=(ownsRow.low Pb g hg).1;omega) r.bz)
  have hcat:(dZ ds2).map (Value.int .i64)++(dZ (ct kn)).map (Value.int .i64)=(dZ (ds2++ct kn)).map (Value.int .i64):=by rw[uX,List.map_append]
  rw[hcat]at h5;have RS:cs.length+(ct kn).length=(dZ (ds2++ct kn)).length:=by rw[ec,List.length_append,ds2_len]
  have VD:Dg (ds2++ct kn):=ds2_dg.append hsd;have Ps:(ds2++ct kn).length<=1000000000:=by rw[List.length_append,ds2_len];omega
  obtain⟨a3,c3,rfl,-⟩:=ig h5;refine cB (cI (Φ:=fun _ w' v' w2=>∃lv,v'= .agg #[.bool false,lv]∧cz w2 (Nf w' w2) lv (dO (gZ (ds2++ct kn)))) (fun O w' r=>?_) ?_)
  ·have h8:=jN h5 (Ge.row _) r;have h9:=qv h8 RS (by unfold maxLen;omega);have h10:=FB (w:=w') (fun g hg=>(ownsRow.low h8 g hg).2) h9 VD Ps;exact h10
  rintro O wp v1 wq r he hb ⟨lv,rfl,hL⟩;have Wj:=hL.dD (S:=FF) r.bz (iv:=[(wp.heap.size,wq.heap.size)]) aG;have Wj:cz wq (Cf w ((wp.heap.size,wq.heap.size)::r9 (.slice a3 (cs.length+(ct kn).length) c3))) lv (dO (gZ (ds2++ct kn))):=hL.cF fun g hg=>hg.dD r.bz aG;replace hw:=hw.tr hb;generalize (wp.heap.size,wq.heap.size)::r9 (.slice a3 (cs.length+(ct kn).length) c3)=ivq at*
  obtain⟨hnz,hvv⟩:=AI VD;obtain⟨a4,n4,c4,rfl⟩:=Wj.shape;have hcv: -dC cs=l9 (ds2++ct kn):=by rw[VC,wZ,(ki kn).1,ds2_len]
  obtain⟨pp,hpe,hpp⟩:=Wj.la;injection hpe with hpe1 hpe2 hpe3;subst hpe1 hpe2 hpe3;have hlenpos:0<pp.ls.length:=by
   rw[hpp];rcases bJ (dO (gZ (ds2++ct kn))).length with h0|h0
   ·rw[List.eq_nil_of_length_eq_zero h0]at hvv;simp[val]at hvv;omega
   ·exact h0
  intro ρe we re;refine⟨_,rfl,hw.tr re.cL,dO (gZ (ds2++ct kn)),⟨_,?_,Wj.out re (bw w)⟩,hnz,?_⟩
  ·rw[bU hV];have:decide ((pp.ls.length:Int)>0)=true:=bU (by omega);rw[<-this];rfl
  ·have:((val (dO (gZ (ds2++ct kn))):Nat):Int)= -dC cs:=by rw[hvv,hcv]
   omega
 ·have RB:=aH RB;obtain⟨kn,rfl⟩:∃kn:Nat,k=kn:=⟨k.toNat,by omega⟩
  have ds_len:ds.length=cs.length:=Ro;have ds_dg:Dg ds:=hdg;refine cB (cI (Φ:=fun _ w' v w2=>dR w2 (Nf w' w2) v (dZ (ct kn))) (fun O w' r=>by exact FA kn w' (by omega)) ?_);rintro O ws vs wt r he hb WM;have TV:dR wt (Cf w ((ws.heap.size,wt.heap.size)::iv)) vs (dZ (ct kn)):=dR.cF WM fun g hg=>hg.dD r.bz aG;replace OR:=ownsRow.cC (jN OR QP r) fun g hg=>he.block g (by have:=(ownsRow.low (jN OR QP r) g hg).2;exact this);replace QP:Ge ((ws.heap.size,wt.heap.size)::iv) _:=QP.mono fun p hp=>aC _ hp;replace hw:=hw.tr hb;generalize (ws.heap.size,wt.heap.size)::iv=qW at*
  obtain⟨asp,csp,rfl,-⟩:=TV.shape;rw[ec]at TV ⊢;have SI:=jY (n:=kn) (k:=4) (by omega);have hsd:=(ki kn).2
  refine .inr (yE hτ (Nat.le_refl _) (xs:=(dZ ds).map (Value.int .i64)) (news:=(dZ (ct kn)).map (Value.int .i64)) (m:=cs.length) (k:=(ct kn).length) (by rfl) (by rfl) (by decide) (by rfl) (by rfl) (fun O w' r=>⟨jN OR QP r,fun g hg=>QP.not r hg⟩) (by simp[dZ]) (by intro u hu;simp at hu;obtain⟨_,_,rfl⟩:=hu;rfl) (by unfold maxLen;omega) (by omega)
   (fun O w' r=>?_) (fun v' w2=>r9 v') (fun O w' v' w2 r Oj RG=>uW QP r RG) (fun O w' v' w2 r h5 h6 h7=>?_))
  ·obtain⟨_,_,_,a2,c2,e2,_,e3⟩:=TV;injection e2 with e4 e5 e6;subst e4 e6
   cases asp with
   |none=>
    have h0:(ct kn).length=0:=by
     rcases bJ (ct kn).length with h0|h0
     ·exact h0
     ·obtain⟨ad2,q1,_⟩:=e3 0 _ (aB (show 0<((dZ (ct kn)).map (Value.int .i64)).length by simp[dZ];exact h0))
      cases q1
    exact .inl ⟨csp,by rw[h0];rfl,h0⟩
   |some ad3=>
    refine .inr ⟨ad3,csp,rfl,fun j u hu=>?_⟩;obtain⟨ad2,q1,q2,q3⟩:=e3 j u hu;injection q1 with q1;subst q1;rw[cJ (w:=wt) (w2:=w') (by rw[c9];exact Rel.same r (bw w) q2)];exact q3
  replace hw:dT w.heap.size w w2:=(hw.tr r.cL).tr (dT.grown h6 (fun g hg=>by
   have:=(ownsRow.low OR g hg).1;omega) r.bz)
  have hcat:(dZ ds).map (Value.int .i64)++(dZ (ct kn)).map (Value.int .i64)=(dZ (ds++ct kn)).map (Value.int .i64):=by rw[uX,List.map_append]
  rw[hcat]at h5;have RS:cs.length+(ct kn).length=(dZ (ds++ct kn)).length:=by rw[ec,List.length_append,ds_len]
  have VD:Dg (ds++ct kn):=ds_dg.append hsd;have Ps:(ds++ct kn).length<=1000000000:=by rw[List.length_append,ds_len];omega
  obtain⟨a3,c3,rfl,-⟩:=ig h5;refine cB (cI (Φ:=fun _ w' v' w2=>∃lv,v'= .agg #[.bool false,lv]∧cz w2 (Nf w' w2) lv (dO (gZ (ds++ct kn)))) (fun O w' r=>?_) ?_)
  ·have h8:=jN h5 (Ge.row _) r;have h9:=qv h8 RS (by unfold maxLen;omega);have h10:=FB (w:=w') (fun g hg=>(ownsRow.low h8 g hg).2) h9 VD Ps;exact h10
  rintro O wp v1 wq r he hb ⟨lv,rfl,hL⟩;have Wj:=hL.dD (S:=FF) r.bz (iv:=[(wp.heap.size,wq.heap.size)]) aG;have Wj:cz wq (Cf w ((wp.heap.size,wq.heap.size)::r9 (.slice a3 (cs.length+(ct kn).length) c3))) lv (dO (gZ (ds++ct kn))):=hL.cF fun g hg=>hg.dD r.bz aG;replace hw:=hw.tr hb;generalize (wp.heap.size,wq.heap.size)::r9 (.slice a3 (cs.length+(ct kn).length) c3)=ivq at*
  obtain⟨hnz,hvv⟩:=AI VD;obtain⟨a4,n4,c4,rfl⟩:=Wj.shape;intro ρe we re;have hcv:dC cs=l9 (ds++ct kn):=by rw[Wh,wZ,(ki kn).1,ds_len]
  refine⟨_,rfl,hw.tr re.cL,dO (gZ (ds++ct kn)),⟨_,?_,Wj.out re (bw w)⟩,hnz,?_⟩
  ·have:¬dC cs<0:=by rw[hcv,<-hvv];omega
   rw[bE this];rfl
  ·rw[hcv,<-hvv];rfl
theorem No(n:Int):dC [n.tmod 65536,(n.tdiv 65536).tmod 65536,(n.tdiv 65536).tdiv 65536]=n:=by
 simp only[dC]
 have h1:=Int.mul_tdiv_add_tmod n 65536;have h2:=Int.mul_tdiv_add_tmod (n.tdiv 65536) 65536;omega
theorem oe(n:Int)(w:World)(h1: -9223372036854775808<=n)(h2:n<=9223372036854775807):
  dx PG N.EV #[.int .i64 n] w (eH w fun v w2=>cu w2 (Nf w w2) v n):=by
 refine EX (by simp) ?_;have b1:=vg n;have b2:=vg (n.tdiv 65536);have e1:=Int.mul_tdiv_add_tmod n 65536;have e2:=Int.mul_tdiv_add_tmod (n.tdiv 65536) 65536;have hsum:=No n;refine⟨by decide,n.tmod 65536,rfl,by decide,n.tdiv 65536,wo,by decide,_,rfl,by decide,n.tdiv 65536,wo,by decide,(n.tdiv 65536).tdiv 65536,wo,?_⟩;generalize n.tmod 65536=c0 at*
 generalize (n.tdiv 65536).tmod 65536=c1 at*
 generalize (n.tdiv 65536).tdiv 65536=c2 at*
 refine cB (cI (Φ:=fun _ w' v w2=>cu w2 (Nf w' w2) v n) (fun O w' r=>?_) ?_)
 ·rw[<-hsum];have ha:=r.DG (id:=1) (sz:=1) (n:=3) rfl rfl (by decide) (by intro u hu;simp at hu;rcases hu with rfl|rfl|rfl<;>rfl)
  exact vh (S:=fun g=>g=(O 1).g) (fun g hg=>by rw[hg];exact(r.low 1 _ rfl (r.nn 1 _ rfl (by intros;simp) (by simp))).2) (cs:=[c0,c1,c2]) ha (by
   intro c hc;simp at hc
   rcases hc with rfl|rfl|rfl<;>omega) (by simp)
 rintro O wa v1 wb r he hb hI;have hI:=hI.dD (S:=FF) r.bz (iv:=(wa.heap.size,wb.heap.size)::[]) aG;generalize (wa.heap.size,wb.heap.size)::[]=iv at*
 obtain⟨b,a,m,c,rfl⟩:=hI.shape;intro ρe we re;exact⟨_,rfl,hb.tr re.cL,hI.out re (bw w)⟩
def jg(z:Int):Value:=if z.natAbs<1073741824 then .tuple #[.int .i64 z,.bool true]else .tuple #[.int .i64 0,.bool false]
theorem j5.FC{v:Value}(h:j5 w S v z):∃b a ls c,v= .agg #[.bool b,.slice a ls.length c]∧cz w S (.slice a ls.length c) ls∧sg b (val ls)=z:=by
 obtain⟨b,ls,⟨lv,h1,h2⟩,h3⟩:=h;obtain⟨a,c,rfl,_⟩:=h2.sl;exact⟨b,a,ls,c,h1,h2,h3⟩
theorem M9{x:Nat}(h:ls[i]? =some x):wt i*x<=val ls:=by
 have hi:=(aD.1 h).1;have h1:=eX ls (i+1) hi;rw[dJ h]at h1;omega
theorem aAL(h:0<i):4294967296<=wt i:=by
 obtain⟨k,rfl⟩:∃k,i=k+1:=⟨i-1,by omega⟩
 have:=uo k;rw[il];omega
theorem nM{v:Value}(hS:Old S w)(hI:j5 w S v z):
  dx PG N.wX #[v] w (eH w fun v' _=>v'=jg z):=by
 obtain⟨b,a,ls,c,rfl,hL,hz⟩:=hI.FC;refine zd (by simp) ?_;have hlen:=hL.le
 refine⟨Nat×World,fun y=>⟨[(1,pP 0 0),(4,.o (.v (.int .i64 (val (ls.take y.1))))),(5,iZ y.1)],[(0,.box T.Int [.v (.bool b),.v (.slice a ls.length c)])],1,[],y.2⟩,fun y=>ls.length-y.1,
  fun y=>y.1<=ls.length∧dT w.heap.size w y.2∧val (ls.take y.1)<1073741824∧(∀j,0<j->j<y.1->ls[j]? =some 0),?_,?_⟩
 ·intro O w' r;exact⟨(0,w'),⟨by simp,r.cL,by simp[val],by omega⟩,Sub.gn [] r⟩
 rintro⟨i,w1⟩ ⟨hi,hw,hv,h0⟩;dsimp only at hi hw hv h0 ⊢;refine dB.mk ?_ ?_<;>intro OQ
 ·have OQ:i<ls.length:=by simpa using OQ
  obtain⟨a',c',e,_,Oz⟩:=hL.sl;injection e with e1 e2 e3;subst e1 e3;obtain⟨x,hx⟩:∃x,ls[i]? =some x:=⟨_,aB OQ⟩
  have QG:=hL.lm x (aE hx);obtain⟨ad,rfl,q1,q2⟩:=Oz i x hx;have Sb:∀{H nx iv O w'},Rel H nx iv w.heap.size w1 O w'->w'.cell? (ad.add ((i:Int).toNat*1))=some (.int .u32 x):=fun r=>by
   rw[aF,aY];exact jl hS hw r q1 q2
  have UO:=M9 hx;refine dB.mk ?_ ?_<;>intro hp
  ·have hp:0<i:=by
    have:(i:Int)>0:=aK hp;omega
   have hw1:=aAL hp;refine⟨ad,rfl,by omega,.int .u32 x,fun O w' r=>Sb r,?_⟩;refine dB.mk ?_ ?_<;>intro OS
   ·have OS:x≠0:=by simpa using OS
    intro ρe we re;refine⟨_,rfl,hw.tr re.cL,?_⟩;have:¬z.natAbs<1073741824:=by
     have:=Nat.mul_le_mul hw1 (show 1<=x by omega);rw[<-hz,se];omega
    show _=jg z;rw[jg,aI this];rfl
   ·have OS:x=0:=by simpa using OS
    subst OS;refine⟨ad,rfl,by omega,.int .u32 0,fun O w' r=>Sb r,?_⟩;have QU:val (ls.take (i+1))=val (ls.take i):=by rw[dJ hx];omega
    have RH:val (ls.take (i+1))<1073741824:=by rw[QU];exact hv
    have h02:∀j,0<j->j<i+1->ls[j]? =some 0:=fun j h1 h2=>by
     rcases aP j i with h3|h3
     ·exact h0 j h1 h3
     ·have:j=i:=by omega
      rw[this];exact hx
    refine⟨ad,rfl,by omega,.int .u32 0,fun O w' r=>Sb r,((0:Nat):Int),by decide,((val (ls.take (i+1)):Nat):Int),by rw[QU,wrap64]<;>omega,((i+1:Nat):Int),wo,?_⟩;intro ρ3 w3 r3;exact⟨(i+1,w3),⟨OQ,hw.tr r3.cL,RH,h02⟩,Sub.gn [] r3,by dsimp only;omega⟩
  ·have hp:i=0:=by
    have:¬((i:Int)>0):=aH hp;omega
   subst hp;refine⟨ad,rfl,by omega,.int .u32 x,fun O w' r=>Sb r,?_⟩;refine dB.mk ?_ ?_<;>intro WB
   ·have WB:=aK WB;intro ρe we re;refine⟨_,rfl,hw.tr re.cL,?_⟩;have:¬z.natAbs<1073741824:=by
     rw[<-hz,se];rw[jM]at UO;omega
    show _=jg z;rw[jg,aI this];rfl
   ·have WB:=aH WB;have QU:val (ls.take (0+1))=x:=by rw[dJ hx];simp[val,jM]
    have RH:val (ls.take (0+1))<1073741824:=by rw[QU];omega
    have h02:∀j,0<j->j<0+1->ls[j]? =some 0:=fun j h1 h2=>by
     omega
    refine⟨ad,rfl,by omega,.int .u32 x,fun O w' r=>Sb r,((x:Nat):Int),wo,((val (ls.take (0+1)):Nat):Int),by rw[QU,wrap64]<;>simp[val]<;>omega,((0+1:Nat):Int),wo,?_⟩;intro ρ3 w3 r3;exact⟨(0+1,w3),⟨OQ,hw.tr r3.cL,RH,h02⟩,Sub.gn [] r3,by dsimp only;omega⟩
 ·have OQ:i=ls.length:=by
   have:¬i<ls.length:=by simpa using OQ
   omega
  subst OQ;rw[bH]at hv ⊢;have Ou:z.natAbs<1073741824:=by rw[<-hz,se];exact hv
  cases b with
  |true=>
   refine⟨-(val ls:Int),wo,?_⟩;intro ρe we re;refine⟨_,rfl,hw.tr re.cL,?_⟩;show _=jg z;rw[jg,if_pos Ou,<-hz,Ku];rfl
  |false=>
   intro ρe we re;refine⟨_,rfl,hw.tr re.cL,?_⟩;show _=jg z;rw[jg,if_pos Ou,<-hz,Nj];rfl
theorem Br{a b:Int}(hb:b≠0):a.tdiv (b.sign*(Nat.gcd a.natAbs b.natAbs:Nat))=(Rat.divInt a b).num∧b.tdiv (b.sign*(Nat.gcd a.natAbs b.natAbs:Nat))=((Rat.divInt a b).den:Int):=by
 have hg:0<Nat.gcd a.natAbs b.natAbs:=bl _ (by omega);obtain⟨k,hk⟩:((Nat.gcd a.natAbs b.natAbs:Nat):Int) ∣ a:=by rw[<-Int.natAbs_dvd_natAbs];exact Nat.gcd_dvd_left _ _
 obtain⟨l,hl⟩:((Nat.gcd a.natAbs b.natAbs:Nat):Int) ∣ b:=by rw[<-Int.natAbs_dvd_natAbs];exact Nat.gcd_dvd_right _ _
 have hc:(b.gcd a:Int)=(Nat.gcd a.natAbs b.natAbs:Nat):=by rw[Int.gcd_comm];rfl
 have UH:b.gcd a=Nat.gcd a.natAbs b.natAbs:=by rw[Int.gcd_comm];rfl
 rw[Rat.num_divInt,Rat.den_divInt,aI hb,hc,UH];generalize Nat.gcd a.natAbs b.natAbs=g at*
 have Ve:(g:Int)≠0:=by omega
 have hs:b.sign*b.sign=1:=by
  rcases Int.lt_or_gt_of_ne hb with h|h
  ·rw[bg h];rfl
  ·rw[bh h];rfl
 have hs0:b.sign≠0:=fun e=>by rw[e]at hs;simp at hs
 have OS:b.sign*g≠0:=Int.mul_ne_zero hs0 Ve;have QM:((b.natAbs / g:Nat):Int)=b.sign*l:=by
  rw[Int.natCast_ediv,show((b.natAbs:Nat):Int)=b.sign*b by
   rcases Int.lt_or_gt_of_ne hb with h|h
   ·rw[bg h];omega
   ·rw[bh h];omega]
  conv=>lhs;lhs;rhs;rw[hl]
  rw[show b.sign*(↑g*l)= ↑g*(b.sign*l) by rw[<-Int.mul_assoc,<-Int.mul_assoc,Int.mul_comm b.sign]];exact Int.mul_ediv_cancel_left _ Ve
 constructor
 ·rw[show b.sign*a / (g:Int)=b.sign*k by
   conv=>lhs;lhs;rhs;rw[hk]
   rw[show b.sign*(↑g*k)= ↑g*(b.sign*k) by rw[<-Int.mul_assoc,<-Int.mul_assoc,Int.mul_comm b.sign]]
   exact Int.mul_ediv_cancel_left _ Ve]
  conv=>lhs;lhs;rw[hk,show(g:Int)*k=(b.sign*g)*(b.sign*k) by
   rw[show (b.sign* ↑g)*(b.sign*k)=(b.sign*b.sign)*(↑g*k) by simp only[Int.mul_assoc,Int.mul_comm,Int.mul_left_comm],hs,Int.one_mul]]
  exact Int.mul_tdiv_cancel_left _ OS
 ·rw[QM]
  conv=>lhs;lhs;rw[hl,show(g:Int)*l=(b.sign*g)*(b.sign*l) by
   rw[show (b.sign* ↑g)*(b.sign*l)=(b.sign*b.sign)*(↑g*l) by simp only[Int.mul_assoc,Int.mul_comm,Int.mul_left_comm],hs,Int.one_mul]]
  exact Int.mul_tdiv_cancel_left _ OS
theorem qw(a b:Int)(w:World)(ha:a.natAbs<4611686018427387904)(hb:b.natAbs<4611686018427387904)(hb0:b≠0):
  dx PG N.td #[.int .i64 a,.int .i64 b] w (eH w fun v w2=>cN w2 (Nf w w2) v (Rat.divInt a b)):=by
 refine xH (by simp) ?_;refine⟨-a,wo,-b,wo,?_⟩;conv=>whnf
 rw[show max a (-a)=(a.natAbs:Int) by omega,show max b (-b)=(b.natAbs:Int) by omega]
 refine⟨Nat×Nat×World,fun z=>⟨[(0,iZ a),(1,iZ b),(4,pP 0 0),(5,iZ z.1),(6,iZ z.2.1)],[(0,.box T.Rat [.v (.bool false),.v (.slice none 0 0),.v (.bool false),.v (.slice none 0 0)])],1,[],z.2.2⟩,fun z=>z.2.1,
  fun z=>dT w.heap.size w z.2.2∧Nat.gcd z.1 z.2.1=Nat.gcd a.natAbs b.natAbs∧z.1<4611686018427387904∧z.2.1<4611686018427387904,?_,?_⟩
 ·intro O w' r;exact⟨(a.natAbs,b.natAbs,w'),⟨r.cL,rfl,ha,hb⟩,Sub.gn [] r⟩
 rintro⟨x,y,w1⟩ ⟨hw,hg,hx,hy⟩;dsimp only at hw hg hx hy ⊢;conv=>whnf
 refine dB.mk ?_ ?_<;>intro h
 ·have h:0<y:=by
   have:(y:Int)>0:=aK h;omega
  refine cH hτ dN [.x 0,.x 1,.x 2,.x 3,.x 4,.x 5] (by kernel_rfl) (by kernel_rfl) ?_;have hm:=bq x h;refine⟨by omega,((x % y:Nat):Int),rfl,?_⟩;intro ρ3 w3 r3;exact⟨(y,x % y,w3),⟨hw.tr r3.cL,by dsimp only;rw[<-hg,Nat.gcd_comm x y,Nat.gcd_rec y x,Nat.gcd_comm],hy,by dsimp only;omega⟩,Sub.gn [] r3,by dsimp only;omega⟩
 have h:y=0:=by
  have:¬(y:Int)>0:=aH h;omega
 subst h;rw[Nat.gcd_zero_right]at hg;have Rh:x≠0:=by rw[hg];exact Nat.pos_iff_ne_zero.1 (bl _ (by omega))
 obtain⟨hn,hd⟩:=Br (a:=a) hb0;rw[<-hg]at hn hd;have bn:(Rat.divInt a b).num.natAbs<=a.natAbs:=by rw[<-hn];exact Int.natAbs_tdiv_le_natAbs _ _
 have bd:((Rat.divInt a b).den:Int).natAbs<=b.natAbs:=by rw[<-hd];exact Int.natAbs_tdiv_le_natAbs _ _
 refine dB.mk ?_ ?_<;>intro Oa
 ·have Oa:=aK Oa;rw[bg Oa,Int.neg_one_mul]at hn hd;refine⟨-(x:Int),wo,?_⟩;refine cH hτ dN [.x 0,.x 1,.x 2,.x 4,.x 5,.x 6,.x 3,.x 7,.x 8,.x 9] (by kernel_rfl) (by kernel_rfl) ?_;refine⟨by omega,(Rat.divInt a b).num,by rw[hn,wrap64]<;>omega,by omega,((Rat.divInt a b).den:Int),by rw[hd,wrap64]<;>omega,?_⟩;refine cI (Φ:=fun _ w' v w2=>cu w2 (Nf w' w2) v (Rat.divInt a b).num) (fun O w' r=>oe _ w' (by omega) (by omega)) ?_;rintro O wa v1 wb r he Og hI;replace hw:=hw.tr Og;have hN:=hI.dD (S:=FF) r.bz (iv:=(wa.heap.size,wb.heap.size)::[]) aG;generalize (wa.heap.size,wb.heap.size)::[]=iv at*
  obtain⟨b1,a1,m1,c1,rfl⟩:=hN.shape;refine cI (Φ:=fun _ w' v w2=>cu w2 (Nf w' w2) v ((Rat.divInt a b).den:Int)) (fun O w' r=>oe _ w' (by omega) (by omega)) ?_;rintro O wa v1 PR r he Og hI;replace hw:=hw.tr Og;replace hN:=hN.cD (iv':=(wa.heap.size,PR.heap.size)::iv) r (bw w) he fun x hx=>aC _ hx;have hD:=hI.dD (S:=FF) r.bz (iv:=(wa.heap.size,PR.heap.size)::iv) aG;generalize (wa.heap.size,PR.heap.size)::iv=OU at*
  obtain⟨b2,a2,m2,c2,rfl⟩:=hD.shape;exact rtn hw fun ρe we re=>(cN.of hN hD).out re (bw w)
 ·have Oa:=aH Oa;rw[bh (by omega),Int.one_mul]at hn hd;refine cH hτ dN [.x 0,.x 1,.x 2,.x 4,.x 5,.x 6,.x 3,.x 7,.x 8,.x 9] (by kernel_rfl) (by kernel_rfl) ?_;refine⟨by omega,(Rat.divInt a b).num,by rw[hn,wrap64]<;>omega,by omega,((Rat.divInt a b).den:Int),by rw[hd,wrap64]<;>omega,?_⟩;refine cI (Φ:=fun _ w' v w2=>cu w2 (Nf w' w2) v (Rat.divInt a b).num) (fun O w' r=>oe _ w' (by omega) (by omega)) ?_;rintro O wa v1 wb r he Og hI;replace hw:=hw.tr Og;have hN:=hI.dD (S:=FF) r.bz (iv:=(wa.heap.size,wb.heap.size)::[]) aG;generalize (wa.heap.size,wb.heap.size)::[]=iv at*
  obtain⟨b1,a1,m1,c1,rfl⟩:=hN.shape;refine cI (Φ:=fun _ w' v w2=>cu w2 (Nf w' w2) v ((Rat.divInt a b).den:Int)) (fun O w' r=>oe _ w' (by omega) (by omega)) ?_;rintro O wa v1 PR r he Og hI;replace hw:=hw.tr Og;replace hN:=hN.cD (iv':=(wa.heap.size,PR.heap.size)::iv) r (bw w) he fun x hx=>aC _ hx;have hD:=hI.dD (S:=FF) r.bz (iv:=(wa.heap.size,PR.heap.size)::iv) aG;generalize (wa.heap.size,PR.heap.size)::iv=OU at*
  obtain⟨b2,a2,m2,c2,rfl⟩:=hD.shape;exact rtn hw fun ρe we re=>(cN.of hN hD).out re (bw w)
theorem uY(h:z.natAbs<1073741824):jg z= .tuple #[.int .i64 z,.bool true]:=if_pos h
theorem DJ{v:Value}{x y:Int}(hS:Old S w)(hx:j5 w S v x)(hy:j5 w S u y)(hxs:x.natAbs<1073741824)(hys:y.natAbs<1073741824)(Pg:y≠0):
  dx PG N.sR #[v,u] w (eH w fun v' w2=>cN w2 (Nf w w2) v' (Rat.divInt x y)):=by
 have hw:=bR w;replace hx:=hx.cF (S':=Cv S w.heap.size []) fun _ h=>.inl h;replace hy:=hy.cF (S':=Cv S w.heap.size []) fun _ h=>.inl h;obtain⟨bx,ax,lx,cx,rfl⟩:=hx.shape;obtain⟨b2,ay,ly,cy,rfl⟩:=hy.shape;refine rV (by simp) ?_;refine cB (cE hw (fun _ w' v w2=>v= .tuple #[.int .i64 x,.bool true]) (fun O w' r=>(nM (Rel.old r hS) (hx.rel r hS)).mono fun e w2 ⟨v2,e1,e2,e3⟩=>⟨v2,e1,e2,by rw[e3,uY hxs]⟩) ?_);rintro O PV v1 PL OZ r he hw h_ rfl;replace hx:=hx.cD r hS he (mC h_);replace hy:=hy.cD r hS he (mC h_);refine cB (cE hw (fun _ w' v w2=>v= .tuple #[.int .i64 y,.bool true]) (fun O w' r=>(nM (Rel.old r hS) (hy.rel r hS)).mono fun e w2 ⟨v2,e1,e2,e3⟩=>⟨v2,e1,e2,by rw[e3,uY hys]⟩) ?_);rintro O _ v1 _ OU r he hw h_ rfl;refine cB (cE hw (fun _ w' v w2=>cN w2 (Nf w' w2) v (Rat.divInt x y)) (fun O w' r=>qw x y w' (by omega) (by omega) Pg) ?_);rintro O _ _ _ iv r he hw h_ hI;have hR:=hI.dD (S:=FF) r.bz (mN h_);obtain⟨b1,a1,m1,c1,b3,a3,m3,c3,rfl⟩:=hR.shape;exact rtn hw fun ρe we re=>hR.out re (bw w)
theorem Gj(n:Int):Rat.divInt n 1=(n:Rat):=by
 have:=Rat.num_divInt_den (n:Rat);rw[Rat.num_intCast,Rat.den_intCast]at this;exact this
theorem uV(n:Int)(w:World)(hn:n.natAbs<1073741824):
  dx PG N.wK #[.int .i64 n] w (eH w fun v' w2=>cN w2 (Nf w w2) v' (n:Rat)):=by
 have hw:=bR w;refine zT (by simp) ?_;refine cB (cI (Φ:=fun _ w' v w2=>cu w2 (Nf w' w2) v n) (fun O w' r=>oe _ w' (by omega) (by omega)) ?_);rintro O wa v1 wb r he Og hI;replace hw:=hw.tr Og;have hN:=hI.dD (S:=FF) r.bz (iv:=(wa.heap.size,wb.heap.size)::[]) aG;generalize (wa.heap.size,wb.heap.size)::[]=iv at*
 obtain⟨b1,a1,m1,c1,rfl⟩:=hN.shape;refine cB (cI (Φ:=fun _ w' v w2=>cu w2 (Nf w' w2) v 1) (fun O w' r=>oe _ w' (by omega) (by omega)) ?_);rintro O wa v1 PR r he Og hI;replace hw:=hw.tr Og;replace hN:=hN.cD (iv':=(wa.heap.size,PR.heap.size)::iv) r (bw w) he fun x hx=>aC _ hx;have hD:=hI.dD (S:=FF) r.bz (iv:=(wa.heap.size,PR.heap.size)::iv) aG;generalize (wa.heap.size,PR.heap.size)::iv=OU at*
 obtain⟨b2,a2,m2,c2,rfl⟩:=hD.shape;refine cB (cE hw (fun _ w' v w2=>cN w2 (Nf w' w2) v (Rat.divInt n 1)) (fun O w' r=>DJ (Rel.old r (bw w)) (hN.rel r (bw w)).r (hD.rel r (bw w)).r hn (by decide) (by decide)) ?_);rintro O _ _ _ iv r he hw h_ hI;have hR:=hI.dD (S:=FF) r.bz (mN h_);obtain⟨b1,a1,m1,c1,b3,a3,m3,c3,rfl⟩:=hR.shape;rw[Gj]at hR;exact rtn hw fun ρe we re=>hR.out re (bw w)
theorem Ma{v:Value}{n1 n2:Bool}{ms:List Nat}(hS:Old S w)(hx:uR w S v n1 ls)(hy:uR w S u n2 ms):
  dx PG N.me #[v,u] w (eH w fun v' _=>v'= .bool (decide (n1=n2∧ls=ms))):=by
 obtain⟨lv,rfl,h1⟩:=hx;obtain⟨mv,rfl,h2⟩:=hy;obtain⟨a,c,rfl,_,ha⟩:=h1.sl;obtain⟨b,e,rfl,_,hb⟩:=h2.sl;have hle1:=h1.le;have VA:=h2.le;have hw:=bR w;refine vL (by simp) ?_;refine dB.mk ?_ ?_<;>intro hn
 ·have hn:n1≠n2:=fun h=>by rw[h]at hn;simp at hn
  intro O w2 r;exact⟨_,rfl,r.cL,by rw[bE (fun h=>hn h.1)];rfl⟩
 have hn:n1=n2:=by simpa using hn
 subst hn;refine dB.mk ?_ ?_<;>intro h
 ·have h:ls.length≠ms.length:=fun he=>by rw[he]at h;simp at h
  intro O w2 r;exact⟨_,rfl,r.cL,by rw[bE (fun e=>h (by rw[e.2]))];rfl⟩
 have h:ls.length=ms.length:=by
  have:(ls.length:Int)=ms.length:=by simpa using h
  omega
 refine⟨Nat×World,fun z=>⟨[(2,pP 0 0),(3,pP 1 0),(5,iZ z.1)],[(1,.box T.Int [.v (.bool n1),.v (.slice b ms.length e)]),(0,.box T.Int [.v (.bool n1),.v (.slice a ls.length c)])],2,[],z.2⟩,fun z=>ls.length-z.1,
  fun z=>z.1<=ls.length∧dT w.heap.size w z.2∧ls.take z.1=ms.take z.1,?_,?_⟩
 ·intro O w' r;exact⟨(0,w'),⟨by simp,r.cL,by simp⟩,Sub.gn [] r⟩
 rintro⟨i,w1⟩ ⟨hi,hw,ht⟩;dsimp only at hi hw ht ⊢;refine dB.mk ?_ ?_<;>intro OQ
 ·have OQ:i<ls.length:=by simpa using OQ
  obtain⟨x,hx⟩:∃x,ls[i]? =some x:=⟨_,aB OQ⟩
  obtain⟨y,hy⟩:∃x,ms[i]? =some x:=⟨_,aB (by omega)⟩
  obtain⟨ad,rfl,q1,q2⟩:=ha i x hx;obtain⟨ad2,rfl,q3,q4⟩:=hb i y hy;have Pt:∀{H nx iv O w'},Rel H nx iv w.heap.size w1 O w'->w'.cell? (ad.add ((i:Int).toNat*1))=some (.int .u32 x):=fun r=>by
   rw[aF,aY];exact jl hS hw r q1 q2
  have Q3:∀{H nx iv O w'},Rel H nx iv w.heap.size w1 O w'->w'.cell? (ad2.add ((i:Int).toNat*1))=some (.int .u32 y):=fun r=>by
   rw[aF,aY];exact jl hS hw r q3 q4
  refine cH hτ dN [.x 0,.x 1,.x 2,.x 3,.x 4,.x 5,.x 6,.x 7,.x 8,.x 9,.x 10] (by kernel_rfl) (by kernel_rfl) ?_;refine⟨ad,rfl,by omega,.int .u32 x,fun O w' r=>Pt r,ad2,rfl,by omega,.int .u32 y,fun O w' r=>Q3 r,?_⟩;refine dB.mk ?_ ?_<;>intro OS
  ·have OS:x≠y:=fun h=>by rw[h]at OS;simp at OS
   intro O w2 r;refine⟨_,rfl,hw.tr r.cL,?_⟩
   rw[bE (fun e=>OS (by
    have:=e.2;rw[this,hy]at hx;injection hx with hx
    exact hx.symm))]
   rfl
  have OS:x=y:=by
   have:(x:Int)=y:=by simpa using OS
   omega
  subst OS;have TG:ls.take (i+1)=ms.take (i+1):=by rw[List.take_add_one,List.take_add_one,ht,hx,hy]
  refine⟨((i+1:Nat):Int),wo,?_⟩;intro ρ3 w3 r3;exact⟨(i+1,w3),⟨OQ,hw.tr r3.cL,TG⟩,Sub.gn [] r3,by dsimp only;omega⟩
 have OQ:i=ls.length:=by
  have:¬i<ls.length:=by simpa using OQ
  omega
 subst OQ;rw[bH,h,bH]at ht;intro O w2 r;exact⟨_,rfl,hw.tr r.cL,by rw[bU ⟨rfl,ht⟩];rfl⟩
theorem JA{a:List Nat}(la:Lm a)(lb:Lm b)(na:Nz a)(nb:Nz b)(h:val a=val b):a=b:=by
 have:a.length=b.length:=by
  rcases bp a.length b.length with h1|h1|h1
  ·have:=im la nb h1;omega
  ·exact h1
  ·have:=im lb na h1;omega
 exact val_inj la lb this h
theorem Bt{v:Value}{x y:Int}(hS:Old S w)(hx:cu w S v x)(hy:cu w S u y):
  dx PG N.me #[v,u] w (eH w fun v' _=>v'= .bool (decide (x=y))):=by
 obtain⟨ls,h1,h2,h3⟩:=hx;obtain⟨ms,k1,k2,k3⟩:=hy;have e:decide (decide (x<0)=decide (y<0)∧ls=ms)=decide (x=y):=by
  refine decide_eq_decide.2 ⟨fun ⟨e1,e2⟩=>?_,fun e1=>?_⟩
  ·have e1:=decide_eq_decide.1 e1;rw[e2]at h3;omega
  ·subst e1;obtain⟨_,_,l1⟩:=h1;obtain⟨_,_,l2⟩:=k1;exact⟨rfl,JA l1.lm l2.lm h2 k2 (by omega)⟩
 exact(Ma hS h1 k1).mono fun _ w2 ⟨v2,e1,e2,e3⟩=>⟨v2,e1,e2,by rw[e3,e]⟩
theorem LG{v:Value}{p:Rat}(hS:Old S w)(hx:cN w S v p)(hy:cN w S u q):
  dx PG N.zI #[v,u] w (eH w fun v' _=>v'= .bool (decide (p=q))):=by
 obtain⟨b1,a1,n1,c1,b2,a2,n2,c2,rfl⟩:=hx.shape;obtain⟨b3,a3,n3,c3,b4,a4,n4,c4,rfl⟩:=hy.shape;refine AZ (by simp) ?_;refine cB (cI (Φ:=fun _ w' v w2=>v= .bool (decide (p.num=q.num))) (fun O w' r=>Bt (oS hS r) (hx.num.cC fun g hg=>r.cL.block g (hS g hg)) (hy.num.cC fun g hg=>r.cL.block g (hS g hg))) ?_);rintro O wa v1 wb r he hb rfl;have hw:=hb;generalize (wa.heap.size,wb.heap.size)::[]=iv at*
 refine dB.mk ?_ ?_<;>intro h
 ·have h:=aK h;refine cB (cE hw (fun _ w' v w2=>v= .bool (decide ((p.den:Int)=q.den))) (fun O w' r=>Bt (oS hS r) (hx.den.cC (kS hw r hS)) (hy.den.cC (kS hw r hS))) ?_);rintro O _ _ _ OU r he hw h_ rfl;intro ρe we re;refine⟨_,rfl,hw.tr re.cL,?_⟩;have:decide (p=q)=decide ((p.den:Int)=q.den):=decide_eq_decide.2 ⟨fun e=>by rw[e],fun e=>Rat.ext h (by omega)⟩;rw[this];rfl
 ·have h:=aH h;intro ρe we re;refine⟨_,rfl,hw.tr re.cL,?_⟩;rw[bE (fun e=>h (by rw[e]))];rfl
theorem cN.four{b b2:Bool}{n c n2 c2:Nat}(h:cN w S (.agg #[.bool b,.slice a n c,.bool b2,.slice a2 n2 c2]) q):ve w S [.bool b,.slice a n c,.bool b2,.slice a2 n2 c2] (q.num,(q.den:Int)):=
 ⟨b,a,n,c,b2,a2,n2,c2,rfl,h.r⟩
theorem cN.uK{b b2:Bool}{n c n2 c2:Nat}(h:cN w S (.agg #[.bool b,.slice a n c,.bool b2,.slice a2 n2 c2]) q):jA w S [.bool b,.slice a n c,.bool b2,.slice a2 n2 c2] q:=
 ⟨b,a,n,c,b2,a2,n2,c2,rfl,h⟩
theorem Rel.lt(r:Rel H nx iv B w O w'){id t:Nat}{cs:List At}(h:cV H id=some (.box t cs)):(O id).g<w'.heap.size:=(r.low id _ h (r.nn id _ h (by intros;simp) (by simp))).2
end Go.Ex
namespace Go.Ex
variable{cs:List Int}{ls:List Nat}{i:Nat}{f:Nat->Int}
def fX(f:Nat->Int):Nat->Int
 |0=>0
 |n+1=>f 0+65536*fX (fun i=>f (i+1)) n
theorem zF(f:Nat->Int)(n:Nat):dC ((List.range n).map f)=fX f n:=by
 induction n generalizing f with
 |zero=>rfl
 |succ n ih=>
  rw[List.range_succ_eq_map,List.map_cons,List.map_map,dC,fX,<-ih];rfl
theorem zG(f g:Nat->Int)(n:Nat):fX (fun i=>f i+g i) n=fX f n+fX g n:=by
 induction n generalizing f g with
 |zero=>rfl
 |succ n ih=>simp only[fX,ih];omega
theorem GD(k:Int)(f:Nat->Int)(n:Nat):fX (fun i=>k*f i) n=k*fX f n:=by
 induction n generalizing f with
 |zero=>simp[fX]
 |succ n ih=>simp only[fX,ih,Int.mul_add];rw[Int.mul_left_comm]
theorem wI{n:Nat}(h:∀i,i<n->f i=0):fX f n=0:=by
 induction n generalizing f with
 |zero=>rfl
 |succ n ih=>rw[fX,h 0 (by omega),ih fun i hi=>h (i+1) (by omega)];rfl
theorem pT(a:List Int)(n:Nat)(h:a.length<=n):fX (fun i=>a.getD i 0) n=dC a:=by
 induction a generalizing n with
 |nil=>exact wI fun i _=>by simp
 |cons c r ih=>
  obtain⟨m,rfl⟩:∃m,n=m+1:=⟨n-1,by simp at h;omega⟩
  have e:=ih m (by simpa using h);rw[fX,dC,<-e];simp[List.getD]
def iQ(a b:List Int)(i:Nat):Nat->Int
 |0=>0
 |k+1=>iQ a b i k+a.getD k 0*(if k<=i then b.getD (i-k) 0 else 0)
def fw(a b:List Int)(i:Nat):Int:=iQ a b i (i+1)
theorem I5(b:List Int)(i k:Nat):iQ [] b i k=0:=by
 induction k with
 |zero=>rfl
 |succ k ih=>rw[iQ,ih];simp
theorem GF(c:Int)(r b:List Int)(i k:Nat):iQ (c::r) b (i+1) (k+1)=c*b.getD (i+1) 0+iQ r b i k:=by
 induction k with
 |zero=>simp[iQ]
 |succ k ih=>
  rw[iQ,ih,iQ];have e:(c::r).getD (k+1) 0=r.getD k 0:=by simp[List.getD]
  rw[e];have e2:(if k+1<=i+1 then b.getD (i+1-(k+1)) 0 else 0)=(if k<=i then b.getD (i-k) 0 else 0):=by
   by_cases h:k<=i
   ·rw[if_pos h,if_pos (by omega),show i+1-(k+1)=i-k by omega]
   ·rw[aI h,aI (by omega)]
  rw[e2,Int.add_assoc]
theorem ES(c:Int)(r b:List Int)(i:Nat):fw (c::r) b (i+1)=c*b.getD (i+1) 0+fw r b i:=GF c r b i (i+1)
theorem ET(c:Int)(r b:List Int):fw (c::r) b 0=c*b.getD 0 0:=by simp[fw,iQ]
theorem KV(a b:List Int)(n:Nat)(h:a.length+b.length<=n+1):fX (fw a b) n=dC a*dC b:=by
 induction a generalizing n with
 |nil=>
  rw[show fw [] b=fun _=>(0:Int)from funext fun i=>I5 b i _,wI fun _ _=>rfl];simp[dC]
 |cons c r ih=>
  cases n with
  |zero=>
   have hb:b=[]:=List.eq_nil_of_length_eq_zero (by simp at h;omega);subst hb;simp[fX,dC]
  |succ m=>
   have e1:fX (fw (c::r) b) (m+1)=fX (fun i=>c*b.getD i 0) (m+1)+65536*fX (fw r b) m:=by
    have e2:fX (fun i=>fw (c::r) b (i+1)) m=fX (fun i=>c*b.getD (i+1) 0) m+fX (fw r b) m:=by
     rw[<-zG];congr 1
     funext i
     exact ES c r b i
    rw[fX,fX,e2,ET,Int.mul_add];omega
   have h':r.length+b.length<=m+1:=by simp at h;omega
   rw[e1,ih m h',GD,pT b (m+1) (by omega),dC,Int.add_mul,Int.mul_assoc]
theorem GG(a b:List Int)(i k k0:Nat)(h0:∀j,j<k0->b.length<=i-j)(hk:k0<=i+1)(h:k<=k0):iQ a b i k=0:=by
 induction k with
 |zero=>rfl
 |succ k ih=>
  rw[iQ,ih (by omega),if_pos (by omega)];have:b.getD (i-k) 0=0:=by rw[List.getD,List.getElem?_eq_none (h0 k (by omega))];rfl
  rw[this];simp
theorem GH(a b:List Int)(i k m:Nat)(h:a.length<=k):iQ a b i (k+m)=iQ a b i k:=by
 induction m with
 |zero=>rfl
 |succ m ih=>
  rw[<-Nat.add_assoc,iQ,ih];have:a.getD (k+m) 0=0:=by rw[List.getD,List.getElem?_eq_none (by omega)];rfl
  rw[this];simp
theorem mB{a b:List Int}(ha:∀x∈a,-65535<=x∧x<=65535)(hb:∀x∈b,-65535<=x∧x<=65535)(k:Nat):(iQ a b i k).natAbs<=4294836225*k:=by
 have key:∀(l:List Int) (j:Nat),(∀x∈l,-65535<=x∧x<=65535)->(l.getD j 0).natAbs<=65535:=fun l j h=>by
  rw[List.getD]
  cases hj:l[j]? with
  |none=>simp
  |some d=>have:=h d (aE hj);simp;omega
 induction k with
 |zero=>simp[iQ]
 |succ k ih=>
  rw[iQ];have h1:=key a k ha;have h2:(if k<=i then b.getD (i-k) 0 else 0).natAbs<=65535:=by
   split
   ·exact key b _ hb
   ·simp
  have h3:=Nat.mul_le_mul h1 h2;rw[<-Int.natAbs_mul]at h3;generalize a.getD k 0*(if k<=i then b.getD (i-k) 0 else 0)=p at*
  omega
def dV(s:Int):List Nat->List Int
 |[]=>[]
 |l::r=>s*((l % 65536:Nat):Int)::s*((l / 65536:Nat):Int)::dV s r
theorem CR(s:Int)(ls:List Nat):dC (dV s ls)=s*(val ls:Int):=by
 induction ls with
 |nil=>simp[dV,dC,val]
 |cons l r ih=>
  rw[dV,dC,dC,ih,val];have e1:((l+4294967296*val r:Nat):Int)=((l % 65536:Nat):Int)+65536*((l / 65536:Nat):Int)+4294967296*((val r:Nat):Int):=by omega
  rw[e1,Int.mul_add,Int.mul_add,Int.mul_add];rw[Int.mul_left_comm 65536 s,Int.mul_left_comm s 65536,Int.mul_left_comm s 4294967296];omega
theorem o6(s:Int)(a b:List Nat):dV s (a++b)=dV s a++dV s b:=by
 induction a with
 |nil=>rfl
 |cons l r ih=>simp[dV,ih]
theorem iG(s:Int)(ls:List Nat):(dV s ls).length=2*ls.length:=by
 induction ls with
 |nil=>rfl
 |cons l r ih=>simp[dV,ih];omega
theorem zH{s:Int}(hs:s=1∨s= -1)(h:Lm ls):∀c∈dV s ls,-65535<=c∧c<=65535:=by
 induction ls with
 |nil=>intro c hc;cases hc
 |cons l r ih=>
  have hl:=h l aG;intro c hc;rw[dV]at hc;rcases List.mem_cons.1 hc with rfl|hc
  ·rcases hs with rfl|rfl<;>omega
  rcases List.mem_cons.1 hc with rfl|hc
  ·rcases hs with rfl|rfl<;>omega
  ·exact ih (fun x hx=>h x (aC _ hx)) c hc
theorem wx(h:Lm ls):∀c∈dV 1 ls,0<=c∧c<=65535:=fun c hc=>by
 induction ls with
 |nil=>cases hc
 |cons l r ih=>
  have hl:=h l aG;rw[dV]at hc;rcases List.mem_cons.1 hc with rfl|hc
  ·omega
  rcases List.mem_cons.1 hc with rfl|hc
  ·omega
  ·exact ih (fun x hx=>h x (aC _ hx)) hc
theorem EU{c:Int}(h:cs[i]? =some c):dC (cs.drop i)=c+65536*dC (cs.drop (i+1)):=by
 rw[List.drop_eq_getElem_cons (aD.1 h).1,dC];have:=(aD.1 h).2;rw[this]
end Go.Ex
namespace Go.Ex
open Go Go.Sx Go.Proofs
variable{x1 x2 y1 y2:Int}{ls:List Nat}{S:Nat->Prop}{p q:Rat}{u:Value}{w:World}
theorem LM{k:Nat}(h:Lm ls)(hl:ls.length<=k):ln (val ls)<=k:=gD.2 (Nat.lt_of_lt_of_le (nY h) (BI hl))
theorem Cv.false{B:Nat}{iv:Iv}{g:Nat}(h:Cv FF B iv g):Cv S B iv g:=h.elim (fun h=>h.elim) .inr
theorem LN{v:Value}(hS:Old S w)(hx:iD w S v x1 x2)(hy:iD w S u y1 y2)(hl0:ln x1.natAbs<=100000)(QT:ln x2.natAbs<=100000)(Ps:ln y1.natAbs<=100000)(QH:ln y2.natAbs<=100000):
  dx PG N.vG #[v,u] w (eH w fun v' w2=>cN w2 (Nf w w2) v' ((ratio x1 x2)+(ratio y1 y2))):=by
 have hw:=bR w;have r1:=gY x1 x2;have r2:=gY y1 y2;have r3:=lC (ratio x1 x2) (ratio y1 y2);have r4:=hJ (ratio x1 x2) (ratio y1 y2);have r5:=j9 (ratio y1 y2);have r6:=yu (ratio x1 x2) (ratio y1 y2);replace hx:=hx.cF (S':=Cv S w.heap.size []) fun _ h=>.inl h;replace hy:=hy.cF (S':=Cv S w.heap.size []) fun _ h=>.inl h;obtain⟨b1,a1,n1,c1,b2,a2,n2,c2,rfl⟩:=hx.shape;obtain⟨b3,a3,n3,c3,b4,a4,n4,c4,rfl⟩:=hy.shape;refine CY (by simp) ?_;refine cH hτ dN [.x 0,.x 2,.x 1,.x 3,.x 4,.x 5,.x 6] (by kernel_rfl) (by kernel_rfl) ?_;refine cE hw (fun _ w' v w2=>cP w2 (Nf w' w2) v ((ratio x1 x2))) (fun O w' r=>je (Rel.old r hS) (hx.rel r hS) (by omega) (by omega)) ?_;rintro O _ _ _ OZ r he hw h_ hn;replace hy:=hy.cD r hS he (mC h_);have hX:=hn.dD (S:=FF) r.bz (mN h_);obtain⟨A0,A1,A2,A3,A4,A5,A6,A7,rfl⟩:=hX.shape;refine cE hw (fun _ w' v w2=>cP w2 (Nf w' w2) v ((ratio y1 y2))) (fun O w' r=>je (Rel.old r hS) (hy.rel r hS) (by omega) (by omega)) ?_;rintro O _ _ _ OU r he hw h_ hn;replace hX:=hX.cD r (bw w) he (mC h_);have hY:=hn.dD (S:=FF) r.bz (mN h_);obtain⟨C0,C1,C2,C3,C4,C5,C6,C7,rfl⟩:=hY.shape;refine cE hw (fun _ w' v w2=>cP w2 (Nf w' w2) v ((ratio x1 x2)+(ratio y1 y2))) (fun O w' r=>DD (Rel.old r (bw w)) (hX.rel r (bw w)) (hY.rel r (bw w)) (by omega) (by omega)) ?_;rintro O _ _ _ Oi r he hw h_ hn;have hP:=hn.dD (S:=FF) r.bz (mN h_);obtain⟨E0,E1,E2,E3,E4,E5,E6,E7,rfl⟩:=hP.shape;refine cE hw (fun _ w' v w2=>cN w2 (Nf w' w2) v ((ratio x1 x2)+(ratio y1 y2))) (fun O w' r=>qu (Rel.old r (bw w)) (hP.rel r (bw w)) (by omega)) ?_;rintro O _ _ _ Ow r he hw h_ hn;have hC:=hn.dD (S:=FF) r.bz (mN h_);obtain⟨F0,F1,F2,F3,F4,F5,F6,F7,rfl⟩:=hC.shape;exact rtn hw fun ρe we re=>hC.out re (bw w)
theorem LO{v:Value}(hS:Old S w)(hx:iD w S v x1 x2)(hy:iD w S u y1 y2)(hl0:ln x1.natAbs<=100000)(QT:ln x2.natAbs<=100000)(Ps:ln y1.natAbs<=100000)(QH:ln y2.natAbs<=100000):
  dx PG N.vF #[v,u] w (eH w fun v' w2=>cN w2 (Nf w w2) v' ((ratio x1 x2)*(ratio y1 y2))):=by
 have hw:=bR w;have r1:=gY x1 x2;have r2:=gY y1 y2;have r3:=lC (ratio x1 x2) (ratio y1 y2);have r4:=hJ (ratio x1 x2) (ratio y1 y2);have r5:=j9 (ratio y1 y2);have r6:=yu (ratio x1 x2) (ratio y1 y2);replace hx:=hx.cF (S':=Cv S w.heap.size []) fun _ h=>.inl h;replace hy:=hy.cF (S':=Cv S w.heap.size []) fun _ h=>.inl h;obtain⟨b1,a1,n1,c1,b2,a2,n2,c2,rfl⟩:=hx.shape;obtain⟨b3,a3,n3,c3,b4,a4,n4,c4,rfl⟩:=hy.shape;refine CW (by simp) ?_;refine cH hτ dN [.x 0,.x 2,.x 1,.x 3,.x 4,.x 5,.x 6] (by kernel_rfl) (by kernel_rfl) ?_;refine cE hw (fun _ w' v w2=>cP w2 (Nf w' w2) v ((ratio x1 x2))) (fun O w' r=>je (Rel.old r hS) (hx.rel r hS) (by omega) (by omega)) ?_;rintro O _ _ _ OZ r he hw h_ hn;replace hy:=hy.cD r hS he (mC h_);have hX:=hn.dD (S:=FF) r.bz (mN h_);obtain⟨A0,A1,A2,A3,A4,A5,A6,A7,rfl⟩:=hX.shape;refine cE hw (fun _ w' v w2=>cP w2 (Nf w' w2) v ((ratio y1 y2))) (fun O w' r=>je (Rel.old r hS) (hy.rel r hS) (by omega) (by omega)) ?_;rintro O _ _ _ OU r he hw h_ hn;replace hX:=hX.cD r (bw w) he (mC h_);have hY:=hn.dD (S:=FF) r.bz (mN h_);obtain⟨C0,C1,C2,C3,C4,C5,C6,C7,rfl⟩:=hY.shape;refine cE hw (fun _ w' v w2=>cP w2 (Nf w' w2) v ((ratio x1 x2)*(ratio y1 y2))) (fun O w' r=>qF (Rel.old r (bw w)) (hX.rel r (bw w)) (hY.rel r (bw w)) (by omega) (by omega)) ?_;rintro O _ _ _ Oi r he hw h_ hn;have hP:=hn.dD (S:=FF) r.bz (mN h_);obtain⟨E0,E1,E2,E3,E4,E5,E6,E7,rfl⟩:=hP.shape;refine cE hw (fun _ w' v w2=>cN w2 (Nf w' w2) v ((ratio x1 x2)*(ratio y1 y2))) (fun O w' r=>qu (Rel.old r (bw w)) (hP.rel r (bw w)) (by omega)) ?_;rintro O _ _ _ Ow r he hw h_ hn;have hC:=hn.dD (S:=FF) r.bz (mN h_);obtain⟨F0,F1,F2,F3,F4,F5,F6,F7,rfl⟩:=hC.shape;exact rtn hw fun ρe we re=>hC.out re (bw w)
theorem LP{v:Value}(hS:Old S w)(hx:iD w S v x1 x2)(hy:iD w S u y1 y2)(hl0:ln x1.natAbs<=100000)(QT:ln x2.natAbs<=100000)(Ps:ln y1.natAbs<=100000)(QH:ln y2.natAbs<=100000):
  dx PG N.vI #[v,u] w (eH w fun v' w2=>cN w2 (Nf w w2) v' ((ratio x1 x2)-(ratio y1 y2))):=by
 have hw:=bR w;have r1:=gY x1 x2;have r2:=gY y1 y2;have r3:=lC (ratio x1 x2) (ratio y1 y2);have r4:=hJ (ratio x1 x2) (ratio y1 y2);have r5:=j9 (ratio y1 y2);have r6:=yu (ratio x1 x2) (ratio y1 y2);replace hx:=hx.cF (S':=Cv S w.heap.size []) fun _ h=>.inl h;replace hy:=hy.cF (S':=Cv S w.heap.size []) fun _ h=>.inl h;obtain⟨b1,a1,n1,c1,b2,a2,n2,c2,rfl⟩:=hx.shape;obtain⟨b3,a3,n3,c3,b4,a4,n4,c4,rfl⟩:=hy.shape;refine Ce (by simp) ?_;refine cH hτ dN [.x 0,.x 2,.x 1,.x 3,.x 4,.x 5,.x 6,.x 7] (by kernel_rfl) (by kernel_rfl) ?_;refine cE hw (fun _ w' v w2=>cP w2 (Nf w' w2) v ((ratio x1 x2))) (fun O w' r=>je (Rel.old r hS) (hx.rel r hS) (by omega) (by omega)) ?_;rintro O _ _ _ OZ r he hw h_ hn;replace hy:=hy.cD r hS he (mC h_);have hX:=hn.dD (S:=FF) r.bz (mN h_);obtain⟨A0,A1,A2,A3,A4,A5,A6,A7,rfl⟩:=hX.shape;refine cE hw (fun _ w' v w2=>cP w2 (Nf w' w2) v ((ratio y1 y2))) (fun O w' r=>je (Rel.old r hS) (hy.rel r hS) (by omega) (by omega)) ?_;rintro O _ _ _ OU r he hw h_ hn;replace hX:=hX.cD r (bw w) he (mC h_);have hY:=hn.dD (S:=FF) r.bz (mN h_);obtain⟨C0,C1,C2,C3,C4,C5,C6,C7,rfl⟩:=hY.shape;refine cI (Φ:=fun _ w' v w2=>cP w2 (Nw (Cf w OU) w' w2) v (-(ratio y1 y2))) (fun O w' r=>qE (Rel.old r (bw w)) (hY.rel r (bw w))) ?_;rintro O PX v3 PW r he hb hn;replace hw:=hw.tr hb;replace hX:=hX.cD (iv':=(PX.heap.size,PW.heap.size)::OU) r (bw w) he fun x hx=>aC _ hx;have hM:=hn.old r.bz;generalize (PX.heap.size,PW.heap.size)::OU=Oi at*
 obtain⟨E0,E1,E2,E3,E4,E5,E6,E7,rfl⟩:=hM.shape;refine cE hw (fun _ w' v w2=>cP w2 (Nf w' w2) v ((ratio x1 x2)-(ratio y1 y2))) (fun O w' r=>(Rat.sub_eq_add_neg (ratio x1 x2) (ratio y1 y2))▸DD (Rel.old r (bw w)) (hX.rel r (bw w)) (hM.rel r (bw w)) (by omega) (by omega)) ?_;rintro O _ _ _ Ow r he hw h_ hn;have hP:=hn.dD (S:=FF) r.bz (mN h_);obtain⟨F0,F1,F2,F3,F4,F5,F6,F7,rfl⟩:=hP.shape;refine cE hw (fun _ w' v w2=>cN w2 (Nf w' w2) v ((ratio x1 x2)-(ratio y1 y2))) (fun O w' r=>qu (Rel.old r (bw w)) (hP.rel r (bw w)) (by omega)) ?_;rintro O _ _ _ QO r he hw h_ hn;have hC:=hn.dD (S:=FF) r.bz (mN h_);obtain⟨G0,G1,G2,G3,G4,G5,G6,G7,rfl⟩:=hC.shape;exact rtn hw fun ρe we re=>hC.out re (bw w)
theorem Kb{v:Value}{f g:Rat}(hS:Old S w)(hf:cP w S v f)(hg:cP w S u g)(VO:rl f<=10000000000)(hlg:rl g<=10000000000):
  dx PG N.lJ #[v,u] w (eH w fun v' w2=>v'= .int .i64 (rs (f-g))):=by
 have hw:=bR w;have l1:=fu f;have l2:=fJ f;have l3:=fu g;have l4:=fJ g;have m0:=cX f.num g.den;have m1:=cX g.num f.den;replace hf:=hf.cF (S':=Cv S w.heap.size []) fun _ h=>.inl h;replace hg:=hg.cF (S':=Cv S w.heap.size []) fun _ h=>.inl h;obtain⟨b1,a1,n1,c1,b2,a2,n2,c2,rfl⟩:=hf.shape;obtain⟨b3,a3,n3,c3,b4,a4,n4,c4,rfl⟩:=hg.shape;have UI:=hf.num;have QV:=hf.den;have SY:=hg.num;have QD:=hg.den;refine oo (by simp) ?_;refine cH hτ dN [.x 0,.x 1,.x 2,.x 3,.x 5,.x 6,.x 7,.x 8,.x 4,.x 9,.x 10,.x 11] (by kernel_rfl) (by kernel_rfl) ?_;refine cE hw (fun _ w' v w2=>eB w2 (Nf w' w2) v (f.num*(g.den:Int))) (fun O w' r=>iE (Rel.old r hS) (UI.rel r hS) (QD.rel r hS) (by omega) (by omega)) ?_;rintro O _ _ _ OZ r he hw h_ hn;replace QV:=QV.cD r hS he (mC h_);replace SY:=SY.cD r hS he (mC h_);have hA:=hn.dD (S:=FF) r.bz (mN h_);obtain⟨A0,A1,A2,A3,rfl⟩:=hA.shape;refine cE hw (fun _ w' v w2=>eB w2 (Nf w' w2) v (g.num*(f.den:Int))) (fun O w' r=>iE (Rel.old r hS) (SY.rel r hS) (QV.rel r hS) (by omega) (by omega)) ?_;rintro O _ _ _ OU r he hw h_ hn;replace hA:=hA.cD r (bw w) he (mC h_);have hB:=hn.dD (S:=FF) r.bz (mN h_);obtain⟨C0,C1,C2,C3,rfl⟩:=hB.shape;refine cE hw (fun _ w' v w2=>v= .int .i64 (rs (f-g))) (fun O w' r=>(MD f g)▸Kx (Rel.old r (bw w)) (hA.rel r (bw w)) (hB.rel r (bw w)) (by omega) (by omega)) ?_;rintro O _ _ _ Oi r he hw h_ rfl;exact rtn hw fun ρe we re=>rfl
theorem LQ{v:Value}(hS:Old S w)(hx:iD w S v x1 x2)(hy:iD w S u y1 y2)(hl0:ln x1.natAbs<=100000)(QT:ln x2.natAbs<=100000)(Ps:ln y1.natAbs<=100000)(QH:ln y2.natAbs<=100000):
  dx PG N.vE #[v,u] w (eH w fun v' w2=>v'= .int .i64 (rs ((ratio x1 x2)-(ratio y1 y2)))):=by
 have hw:=bR w;have r1:=gY x1 x2;have r2:=gY y1 y2;have r3:=lC (ratio x1 x2) (ratio y1 y2);have r4:=hJ (ratio x1 x2) (ratio y1 y2);have r5:=j9 (ratio y1 y2);have r6:=yu (ratio x1 x2) (ratio y1 y2);replace hx:=hx.cF (S':=Cv S w.heap.size []) fun _ h=>.inl h;replace hy:=hy.cF (S':=Cv S w.heap.size []) fun _ h=>.inl h;obtain⟨b1,a1,n1,c1,b2,a2,n2,c2,rfl⟩:=hx.shape;obtain⟨b3,a3,n3,c3,b4,a4,n4,c4,rfl⟩:=hy.shape;refine CV (by simp) ?_;refine cH hτ dN [.x 0,.x 2,.x 1,.x 3,.x 4,.x 5] (by kernel_rfl) (by kernel_rfl) ?_;refine cE hw (fun _ w' v w2=>cP w2 (Nf w' w2) v ((ratio x1 x2))) (fun O w' r=>je (Rel.old r hS) (hx.rel r hS) (by omega) (by omega)) ?_;rintro O _ _ _ OZ r he hw h_ hn;replace hy:=hy.cD r hS he (mC h_);have hX:=hn.dD (S:=FF) r.bz (mN h_);obtain⟨A0,A1,A2,A3,A4,A5,A6,A7,rfl⟩:=hX.shape;refine cE hw (fun _ w' v w2=>cP w2 (Nf w' w2) v ((ratio y1 y2))) (fun O w' r=>je (Rel.old r hS) (hy.rel r hS) (by omega) (by omega)) ?_;rintro O _ _ _ OU r he hw h_ hn;replace hX:=hX.cD r (bw w) he (mC h_);have hY:=hn.dD (S:=FF) r.bz (mN h_);obtain⟨C0,C1,C2,C3,C4,C5,C6,C7,rfl⟩:=hY.shape;refine cE hw (fun _ w' v w2=>v= .int .i64 (rs ((ratio x1 x2)-(ratio y1 y2)))) (fun O w' r=>Kb (Rel.old r (bw w)) (hX.rel r (bw w)) (hY.rel r (bw w)) (by omega) (by omega)) ?_;rintro O _ _ _ Oi r he hw h_ rfl;exact rtn hw fun ρe we re=>rfl
theorem oN:rs q=0↔q=0:=by rw[rs,bu,Rat.num_eq_zero]
theorem LR{v:Value}(hS:Old S w)(hx:iD w S v x1 x2)(hy:iD w S u y1 y2)(hl0:ln x1.natAbs<=100000)(QT:ln x2.natAbs<=100000)(Ps:ln y1.natAbs<=100000)(QH:ln y2.natAbs<=100000):
  dx PG N.vH #[v,u] w (eH w fun v' w2=>((ratio y1 y2)=0∧v'= .tuple #[Gf,.int .i64 9])∨((ratio y1 y2)≠0∧∃q,v'= .tuple #[q,.int .i64 0]∧cN w2 (Nf w w2) q ((ratio x1 x2) / (ratio y1 y2)))):=by
 have hw:=bR w;have r1:=gY x1 x2;have r2:=gY y1 y2;have r3:=lC (ratio x1 x2) (ratio y1 y2);have r4:=hJ (ratio x1 x2) (ratio y1 y2);have r5:=j9 (ratio y1 y2);have r6:=yu (ratio x1 x2) (ratio y1 y2);replace hx:=hx.cF (S':=Cv S w.heap.size []) fun _ h=>.inl h;replace hy:=hy.cF (S':=Cv S w.heap.size []) fun _ h=>.inl h;obtain⟨b1,a1,n1,c1,b2,a2,n2,c2,rfl⟩:=hx.shape;obtain⟨b3,a3,n3,c3,b4,a4,n4,c4,rfl⟩:=hy.shape;refine Ca (by simp) ?_;refine cB (cE hw (fun _ w' v w2=>cP w2 (Nf w' w2) v ((ratio y1 y2))) (fun O w' r=>je (Rel.old r hS) (hy.rel r hS) (by omega) (by omega)) ?_);rintro O _ _ _ OZ r he hw h_ hn;replace hx:=hx.cD r hS he (mC h_);have hY:=hn.dD (S:=FF) r.bz (mN h_);obtain⟨A0,A1,A2,A3,A4,A5,A6,A7,rfl⟩:=hY.shape;refine cB (cE hw (fun _ w' v w2=>v= .int .i64 (rs (ratio y1 y2))) (fun O w' r=>qp (Rel.old r (bw w)) (hY.rel r (bw w))) ?_);rintro O _ _ _ OU r he hw h_ rfl;replace hx:=hx.cD r hS he (mC h_);replace hY:=hY.cD r (bw w) he (mC h_);refine dB.mk ?_ ?_<;>intro h
 ·have h:rs (ratio y1 y2)=0:=by simpa using h
  exact rtn hw fun ρe we re=>.inl ⟨oN.1 h,rfl⟩
 have h:(ratio y1 y2)≠0:=fun e=>by rw[e]at h;exact absurd h (by decide)
 have r7:=pN (ratio x1 x2) h;refine cH hτ dN [.x 0,.x 2,.x 1,.x 3,.x 4,.x 5,.x 6] (by kernel_rfl) (by kernel_rfl) ?_;refine cE hw (fun _ w' v w2=>cP w2 (Nf w' w2) v ((ratio x1 x2))) (fun O w' r=>je (Rel.old r hS) (hx.rel r hS) (by omega) (by omega)) ?_;rintro O _ _ _ Oi r he hw h_ hn;replace hY:=hY.cD r (bw w) he (mC h_);have hX:=hn.dD (S:=FF) r.bz (mN h_);obtain⟨C0,C1,C2,C3,C4,C5,C6,C7,rfl⟩:=hX.shape;refine cE hw (fun _ w' v w2=>cP w2 (Nf w' w2) v ((ratio x1 x2) / (ratio y1 y2))) (fun O w' r=>H4 (Rel.old r (bw w)) (hX.rel r (bw w)) (hY.rel r (bw w)) (by omega) (by omega) h) ?_;rintro O _ _ _ Ow r he hw h_ hn;have hP:=hn.dD (S:=FF) r.bz (mN h_);obtain⟨E0,E1,E2,E3,E4,E5,E6,E7,rfl⟩:=hP.shape;refine cE hw (fun _ w' v w2=>cN w2 (Nf w' w2) v ((ratio x1 x2) / (ratio y1 y2))) (fun O w' r=>qu (Rel.old r (bw w)) (hP.rel r (bw w)) (by omega)) ?_;rintro O _ _ _ QO r he hw h_ hn;have hC:=hn.dD (S:=FF) r.bz (mN h_);obtain⟨F0,F1,F2,F3,F4,F5,F6,F7,rfl⟩:=hC.shape;exact rtn hw fun ρe we re=>.inr ⟨h,_,rfl,hC.out re (bw w)⟩
theorem LS{n:Int}(h1: -9223372036854775808<=n)(h2:n<=9223372036854775807):rl (n:Rat)<=2:=by
 have:=uU h1 h2;unfold rl;rw[Rat.num_intCast,Rat.den_intCast];have:ln 1=1:=by decide
 omega
theorem GJ(n:Int)(w:World)(h1: -9223372036854775808<=n)(h2:n<=9223372036854775807):
  dx PG N.wN #[.int .i64 n] w (eH w fun v' w2=>cN w2 (Nf w w2) v' (n:Rat)):=by
 have hw:=bR w;have hl:=LS h1 h2;refine zW (by simp) ?_;refine cB (cE hw (fun _ w' v w2=>cP w2 (Nf w' w2) v (n)) (fun O w' r=>xo n w' h1 h2) ?_);rintro O _ _ _ OZ r he hw h_ hn;have hX:=hn.dD (S:=FF) r.bz (mN h_);obtain⟨A0,A1,A2,A3,A4,A5,A6,A7,rfl⟩:=hX.shape;refine cB (cE hw (fun _ w' v w2=>cN w2 (Nf w' w2) v (n)) (fun O w' r=>qu (Rel.old r (bw w)) (hX.rel r (bw w)) (by omega)) ?_);rintro O _ _ _ OU r he hw h_ hn;have hC:=hn.dD (S:=FF) r.bz (mN h_);obtain⟨C0,C1,C2,C3,C4,C5,C6,C7,rfl⟩:=hC.shape;exact rtn hw fun ρe we re=>hC.out re (bw w)
theorem Gd(a b:Int)(w:World)(h1a: -9223372036854775808<=a)(h2a:a<=9223372036854775807)(h1b: -9223372036854775808<=b)(h2b:b<=9223372036854775807):
  dx PG N.wL #[.int .i64 a,.int .i64 b] w (eH w fun v' w2=>(b=0∧v'= .tuple #[Gf,.int .i64 9])∨(b≠0∧∃q,v'= .tuple #[q,.int .i64 0]∧cN w2 (Nf w w2) q (Rat.divInt a b))):=by
 have hw:=bR w;have ha:=uU h1a h2a;have hb:=uU h1b h2b;refine zU (by simp) ?_;refine dB.mk ?_ ?_<;>intro h
 ·have h:b=0:=by simpa using h
  exact rtn hw fun ρe we re=>.inl ⟨h,rfl⟩
 have h:b≠0:=by simpa using h
 have hq:=jr (a:=a) h;refine cB (cE hw (fun _ w' v w2=>eB w2 (Nf w' w2) v a) (fun O w' r=>oV a w' h1a h2a) ?_);rintro O _ _ _ OZ r he hw h_ hn;have hA:=hn.dD (S:=FF) r.bz (mN h_);obtain⟨A0,A1,A2,A3,rfl⟩:=hA.shape;refine cB (cE hw (fun _ w' v w2=>eB w2 (Nf w' w2) v b) (fun O w' r=>oV b w' h1b h2b) ?_);rintro O _ _ _ OU r he hw h_ hn;replace hA:=hA.cD r (bw w) he (mC h_);have hB:=hn.dD (S:=FF) r.bz (mN h_);obtain⟨C0,C1,C2,C3,rfl⟩:=hB.shape;refine cB (cE hw (fun _ w' v w2=>cP w2 (Nf w' w2) v (Rat.divInt a b)) (fun O w' r=>vY (Rel.old r (bw w)) (hA.rel r (bw w)) (hB.rel r (bw w)) h (by omega) (by omega)) ?_);rintro O _ _ _ Oi r he hw h_ hn;have hP:=hn.dD (S:=FF) r.bz (mN h_);obtain⟨E0,E1,E2,E3,E4,E5,E6,E7,rfl⟩:=hP.shape;refine cB (cE hw (fun _ w' v w2=>cN w2 (Nf w' w2) v (Rat.divInt a b)) (fun O w' r=>qu (Rel.old r (bw w)) (hP.rel r (bw w)) (by omega)) ?_);rintro O _ _ _ Ow r he hw h_ hn;have hC:=hn.dD (S:=FF) r.bz (mN h_);obtain⟨F0,F1,F2,F3,F4,F5,F6,F7,rfl⟩:=hC.shape;exact rtn hw fun ρe we re=>.inr ⟨h,_,rfl,hC.out re (bw w)⟩
theorem FD(ad:Addr)(i j:Nat):(ad.add i).add j=ad.add (i+j):=by
 unfold Addr.add;split<;>split<;>simp_all<;>omega
def qR(w:World)(S:Nat->Prop)(v:Value)(q:Rat):Prop:=∃a b,iD w S v a b∧ratio a b=q∧ln a.natAbs<=100000∧ln b.natAbs<=100000
theorem qR.cC{w2:World}{v:Value}(h:qR w S v q)(hk:∀g,S g->w2.heap[g]? =w.heap[g]?):qR w2 S v q:=by
 obtain⟨a,b,h1,h2⟩:=h;exact⟨a,b,h1.cC hk,h2⟩
theorem qR.shape{v:Value}(h:qR w S v q):∃b a n c b2 a2 n2 c2,v= .agg #[.bool b,.slice a n c,.bool b2,.slice a2 n2 c2]:=by
 obtain⟨a,b,h1,_⟩:=h;exact h1.shape
theorem sf(q:Rat):ratio q.num q.den=q:=by rw[ratio,aI (gR q),Rat.num_divInt_den]
theorem cN.v{v:Value}(h:cN w S v q)(hl:rl q<=100000):qR w S v q:=
 ⟨_,_,h.r,sf q,aW (fu q) hl,aW (fJ q) hl⟩
section
variable{S S':Nat->Prop}{H:Hp}{nx:Nat}{iv iv':Iv}{B:Nat}{w w' w2:World}{O:Nat->Sx.dL}{v:Value}{q:Rat}
end
theorem Cn{v:Value}(hS:Old S w)(hp:qR w S v p)(hq:qR w S u q):dx PG N.vG #[v,u] w (eH w fun v' w2=>cN w2 (Nf w w2) v' (p+q)):=by
 obtain⟨a,b,h1,rfl,h2,h3⟩:=hp;obtain⟨c,d,k1,rfl,k2,k3⟩:=hq;exact LN hS h1 k1 h2 h3 k2 k3
theorem zl{v:Value}(hS:Old S w)(hp:qR w S v p)(hq:qR w S u q):dx PG N.vF #[v,u] w (eH w fun v' w2=>cN w2 (Nf w w2) v' (p*q)):=by
 obtain⟨a,b,h1,rfl,h2,h3⟩:=hp;obtain⟨c,d,k1,rfl,k2,k3⟩:=hq;exact LO hS h1 k1 h2 h3 k2 k3
theorem Ki{v:Value}(hS:Old S w)(hp:qR w S v p)(hq:qR w S u q):dx PG N.vI #[v,u] w (eH w fun v' w2=>cN w2 (Nf w w2) v' (p-q)):=by
 obtain⟨a,b,h1,rfl,h2,h3⟩:=hp;obtain⟨c,d,k1,rfl,k2,k3⟩:=hq;exact LP hS h1 k1 h2 h3 k2 k3
theorem GK{v:Value}(hS:Old S w)(hp:qR w S v p)(hq:qR w S u q):dx PG N.vE #[v,u] w (eH w fun v' _=>v'= .int .i64 (rs (p-q))):=by
 obtain⟨a,b,h1,rfl,h2,h3⟩:=hp;obtain⟨c,d,k1,rfl,k2,k3⟩:=hq;exact LQ hS h1 k1 h2 h3 k2 k3
theorem Nh{v:Value}(hS:Old S w)(hp:qR w S v p)(hq:qR w S u q):dx PG N.vH #[v,u] w (eH w fun v' w2=>(q=0∧v'= .tuple #[Gf,.int .i64 9])∨(q≠0∧∃r,v'= .tuple #[r,.int .i64 0]∧cN w2 (Nf w w2) r (p / q))):=by
 obtain⟨a,b,h1,rfl,h2,h3⟩:=hp;obtain⟨c,d,k1,rfl,k2,k3⟩:=hq;exact LR hS h1 k1 h2 h3 k2 k3
end Go.Ex
namespace Go.Ex
theorem NM(q:Rat):rs (-q)= -rs q:=by rw[rs,rs,Rat.neg_num,Int.sign_neg]
end Go.Ex
namespace Go.Ex
open Go Go.Sx Go.Proofs
variable{b:Bool}{x z:Int}{cs:List Int}{ls:List Nat}{S:Nat->Prop}{lv:Value}{w:World}
def fQ(w:World)(S:Nat->Prop)(v:Value)(k:Nat)(z:Int):Prop:=∃neg ls,uR w S v neg ls∧sg neg (val ls)=z∧ls.length<=k
theorem fQ.cC{w2:World}{v:Value}{k:Nat}(h:fQ w S v k z)(hk:∀g,S g->w2.heap[g]? =w.heap[g]?):fQ w2 S v k z:=by
 obtain⟨n,l,h1,h2⟩:=h;exact⟨n,l,h1.cC hk,h2⟩
theorem fQ.cF{S':Nat->Prop}{v:Value}{k:Nat}(h:fQ w S v k z)(hk:∀g,S g->S' g):fQ w S' v k z:=by
 obtain⟨n,l,h1,h2⟩:=h;exact⟨n,l,h1.cF hk,h2⟩
theorem fQ.r{v:Value}{k:Nat}(h:fQ w S v k z):j5 w S v z:=by
 obtain⟨n,l,h1,h2,_⟩:=h;exact⟨n,l,h1,h2⟩
theorem fQ.shape{v:Value}{k:Nat}(h:fQ w S v k z):∃b a n c,v= .agg #[.bool b,.slice a n c]:=h.r.shape
theorem cu.l{v:Value}{k:Nat}(h:cu w S v z)(hk:ln z.natAbs<=k):fQ w S v k z:=by
 obtain⟨l,h1,h2,h3⟩:=h;obtain⟨_,_,hl⟩:=h1;have:=eA hl.lm h2;rw[h3]at this;exact⟨_,l,⟨_,‹_›,hl⟩,by rw[h3,Bf],by omega⟩
section
variable{S S':Nat->Prop}{H:Hp}{nx:Nat}{iv iv':Iv}{B:Nat}{w w' w2:World}{O:Nat->Sx.dL}{v:Value}{k:Nat}{z:Int}
theorem fQ.rel(h:fQ w (Cv S B iv) v k z)(r:Rel H nx iv B w O w')(hS:∀g,S g->g<B):fQ w' (Cv S B iv) v k z:=h.cC fun _ hg=>Rel.same r hS hg
theorem fQ.cD(h:fQ w (Cv S B iv) v k z)(r:Rel H nx iv B w O w')(hS:∀g,S g->g<B)(he:Ext w' w2)(hm:∀p,p∈iv->p∈iv'):fQ w2 (Cv S B iv') v k z:=
 ((h.rel r hS).cC fun g hg=>he.block g (Rel.old r hS g hg)).cF fun _ hg=>hg.mono hm
end
section
variable{S S':Nat->Prop}{H:Hp}{nx:Nat}{iv iv':Iv}{B:Nat}{w w' w2:World}{O:Nat->Sx.dL}{v:Value}{cs:List Int}
theorem dR.rel(h:dR w (Cv S B iv) v cs)(r:Rel H nx iv B w O w')(hS:∀g,S g->g<B):dR w' (Cv S B iv) v cs:=dR.cC h fun _ hg=>Rel.same r hS hg
theorem dR.cD(h:dR w (Cv S B iv) v cs)(r:Rel H nx iv B w O w')(hS:∀g,S g->g<B)(he:Ext w' w2)(hm:∀p,p∈iv->p∈iv'):dR w2 (Cv S B iv') v cs:=
 (dR.cC (h.rel r hS) fun g hg=>he.block g (Rel.old r hS g hg)).cF fun _ hg=>hg.mono hm
theorem dR.dD(h:dR w2 (Nf w' w2) v cs)(hB:B<=w'.heap.size)(hm:(w'.heap.size,w2.heap.size)∈iv):dR w2 (Cv S B iv) v cs:=dR.cF h fun _ hg=>hg.dD hB hm
end
def Ny(b:Bool):Int:=if b then -1 else 1
theorem Np(b:Bool):Ny b=1∨Ny b= -1:=by cases b<;>simp[Ny]
theorem Mc(b:Bool)(n:Nat):Ny b*(n:Int)=sg b n:=by cases b<;>simp[Ny,sg]
theorem Gk{v:Value}{neg:Bool}(hS:Old S w)(h:uR w S v neg ls)(hl:ls.length<=40000000):
  dx PG N.mg #[v] w (eH w fun v' w2=>dR w2 (Nf w w2) v' (dV (Ny neg) ls)):=by
 obtain⟨lv,rfl,hL⟩:=h;have PN:=hL.lm;obtain⟨a,c,rfl,hc,Oz⟩:=hL.sl;refine vQ (by simp) ?_
 cases neg with
 |true=>
  refine⟨Nat×World,fun z=>⟨[(1,pP 0 0),(3,.o (.v (.int .i64 (-1)))),(4,.o (.w 1 (2*z.1))),(5,iZ z.1)],[(1,.vec T.int 1 ((dV (-1) (ls.take z.1)).map (Value.int .i64))),(0,.box T.Int [.v (.bool true),.v (.slice a ls.length c)])],2,[],z.2⟩,fun z=>ls.length-z.1,
   fun z=>dT w.heap.size w z.2∧z.1<=ls.length,?_,?_⟩
  ·intro O w' r
   exact⟨(0,w'),⟨r.cL,by simp⟩,Sub.nil 4 T.int 1 rfl (by simp[l6,SV.sc,At.sc,iW]) r fun ρ1 r1=>
    Sub.gn [] r1⟩
  rintro⟨i,w1⟩ ⟨hw,hi⟩;dsimp only at hw hi ⊢;have SJ:((dV (-1) (ls.take i)).map (Value.int .i64)).length=2*i:=by rw[aL,iG,aZ];omega
  refine dB.mk ?_ ?_<;>intro h
  ·have h:i<ls.length:=by simpa using h
   obtain⟨x,hx⟩:∃x,ls[i]? =some x:=⟨_,aB h⟩
   have QG:=PN x (aE hx);obtain⟨ad,rfl,q1,q2⟩:=Oz i x hx;have VX:dV (-1) (ls.take (i+1))=dV (-1) (ls.take i)++[(-1)*((x % 65536:Nat):Int),(-1)*((x / 65536:Nat):Int)]:=by rw[List.take_add_one,hx,Option.toList_some,o6];rfl
   refine⟨ad,rfl,by omega,.int .u32 x,fun O w' r=>?_,?_⟩
   ·rw[aF,aY];exact jl hS hw r q1 q2
   refine⟨(x:Int),wo,by decide,((x % 65536:Nat):Int),rfl,(-1)*((x % 65536:Nat):Int),wo,by decide,((x / 65536:Nat):Int),by rw[show (x:Int).tdiv 65536=((x / 65536:Nat):Int)from rfl,wrap64]<;>omega,(-1)*((x / 65536:Nat):Int),wo,?_⟩;refine .inl ?_;refine⟨by rw[SJ,aY],by omega,by unfold maxLen;omega,((i+1:Nat):Int),wo,?_⟩;intro ρ3 w3 r3;have TU:(dV (-1) (ls.take (i+1))).map (Value.int .i64)=(dV (-1) (ls.take i)).map (Value.int .i64)++[.int .i64 ((-1)*((x % 65536:Nat):Int)),.int .i64 ((-1)*((x / 65536:Nat):Int))]:=by
    rw[VX];simp
   exact⟨(i+1,w3),⟨hw.tr r3.cL,by dsimp only;omega⟩,Sub.gn [(1,3)] r3 ⟨by dsimp only;rw[TU];rfl,rfl,trivial⟩,by dsimp only;omega⟩
  have h:i=ls.length:=by
   have:¬i<ls.length:=by simpa using h
   omega
  subst h;rw[bH]at SJ ⊢;intro ρe we re;have OR:=re.DI (id:=1) (m:=2*ls.length) rfl (by rw[SJ,aY]) (by decide);have Q1:=qv OR (by rw[iG]) (by unfold maxLen;omega);refine⟨_,rfl,hw.tr re.cL,dR.cF Q1 fun g hg=>.inr ?_⟩;have:=ownsRow.low OR g hg;exact this
 |false=>
  refine⟨Nat×World,fun z=>⟨[(1,pP 0 0),(3,.o (.v (.int .i64 (1)))),(4,.o (.w 1 (2*z.1))),(5,iZ z.1)],[(1,.vec T.int 1 ((dV (1) (ls.take z.1)).map (Value.int .i64))),(0,.box T.Int [.v (.bool false),.v (.slice a ls.length c)])],2,[],z.2⟩,fun z=>ls.length-z.1,
   fun z=>dT w.heap.size w z.2∧z.1<=ls.length,?_,?_⟩
  ·intro O w' r
   exact⟨(0,w'),⟨r.cL,by simp⟩,Sub.nil 4 T.int 1 rfl (by simp[l6,SV.sc,At.sc,iW]) r fun ρ1 r1=>
    Sub.gn [] r1⟩
  rintro⟨i,w1⟩ ⟨hw,hi⟩;dsimp only at hw hi ⊢;have SJ:((dV (1) (ls.take i)).map (Value.int .i64)).length=2*i:=by rw[aL,iG,aZ];omega
  refine dB.mk ?_ ?_<;>intro h
  ·have h:i<ls.length:=by simpa using h
   obtain⟨x,hx⟩:∃x,ls[i]? =some x:=⟨_,aB h⟩
   have QG:=PN x (aE hx);obtain⟨ad,rfl,q1,q2⟩:=Oz i x hx;have VX:dV (1) (ls.take (i+1))=dV (1) (ls.take i)++[(1)*((x % 65536:Nat):Int),(1)*((x / 65536:Nat):Int)]:=by rw[List.take_add_one,hx,Option.toList_some,o6];rfl
   refine⟨ad,rfl,by omega,.int .u32 x,fun O w' r=>?_,?_⟩
   ·rw[aF,aY];exact jl hS hw r q1 q2
   refine⟨(x:Int),wo,by decide,((x % 65536:Nat):Int),rfl,(1)*((x % 65536:Nat):Int),wo,by decide,((x / 65536:Nat):Int),by rw[show (x:Int).tdiv 65536=((x / 65536:Nat):Int)from rfl,wrap64]<;>omega,(1)*((x / 65536:Nat):Int),wo,?_⟩;refine .inl ?_;refine⟨by rw[SJ,aY],by omega,by unfold maxLen;omega,((i+1:Nat):Int),wo,?_⟩;intro ρ3 w3 r3;have TU:(dV (1) (ls.take (i+1))).map (Value.int .i64)=(dV (1) (ls.take i)).map (Value.int .i64)++[.int .i64 ((1)*((x % 65536:Nat):Int)),.int .i64 ((1)*((x / 65536:Nat):Int))]:=by
    rw[VX];simp
   exact⟨(i+1,w3),⟨hw.tr r3.cL,by dsimp only;omega⟩,Sub.gn [(1,3)] r3 ⟨by dsimp only;rw[TU];rfl,rfl,trivial⟩,by dsimp only;omega⟩
  have h:i=ls.length:=by
   have:¬i<ls.length:=by simpa using h
   omega
  subst h;rw[bH]at SJ ⊢;intro ρe we re;have OR:=re.DI (id:=1) (m:=2*ls.length) rfl (by rw[SJ,aY]) (by decide);have Q1:=qv OR (by rw[iG]) (by unfold maxLen;omega);refine⟨_,rfl,hw.tr re.cL,dR.cF Q1 fun g hg=>.inr ?_⟩;have:=ownsRow.low OR g hg;exact this
def Ao(cs:List Int)(n:Nat)(z:Int):Prop:=dC cs=z∧cs.length<=n∧(∀c∈cs,-65535<=c∧c<=65535)∧(0<=z->∀c∈cs,0<=c)
theorem Ap(s:Int)(h:val ls=0):∀c∈dV s ls,c=0:=fun c hc=>by
 induction ls with
 |nil=>cases hc
 |cons l r ih=>
  have h:l+4294967296*val r=0:=h;have h1:l=0:=by omega
  have h2:val r=0:=by omega
  subst h1;rw[dV]at hc;rcases List.mem_cons.1 hc with rfl|hc
  ·simp
  rcases List.mem_cons.1 hc with rfl|hc
  ·simp
  ·exact ih h2 hc
theorem fQ.FC{v:Value}{k:Nat}(h:fQ w S v k z):∃b a ls c,v= .agg #[.bool b,.slice a ls.length c]∧cz w S (.slice a ls.length c) ls∧sg b (val ls)=z∧ls.length<=k:=by
 obtain⟨b,ls,⟨lv,rfl,hl⟩,hz,hk⟩:=h;obtain⟨a,c,rfl,_⟩:=hl.sl;exact⟨b,a,ls,c,rfl,hl,hz,hk⟩
theorem fQ.ln{v:Value}{k:Nat}(h:fQ w S v k z):ln z.natAbs<=k:=by
 obtain⟨b,a,ls,c,_,hl,hz,hk⟩:=h.FC;rw[<-hz,se];exact LM hl.lm hk
theorem fQ.neg{k:Nat}(h:fQ w S (.agg #[.bool b,lv]) k z):fQ w S (.agg #[.bool (!b),lv]) k (-z):=by
 obtain⟨b,ls,⟨lv,e,hl⟩,hz,hk⟩:=h;simp only[Value.agg.injEq,Array.mk.injEq,List.cons.injEq,Value.bool.injEq,and_true]at e;obtain⟨rfl,rfl⟩:=e;refine⟨_,ls,⟨_,rfl,hl⟩,?_,hk⟩;rw[<-hz]
 cases b<;>simp[sg]
theorem fQ.abs{k:Nat}(h:fQ w S (.agg #[.bool b,lv]) k z):fQ w S (.agg #[.bool false,lv]) k (z.natAbs:Int):=by
 obtain⟨b,ls,⟨lv,e,hl⟩,hz,hk⟩:=h;simp only[Value.agg.injEq,Array.mk.injEq,List.cons.injEq,Value.bool.injEq,and_true]at e;obtain⟨rfl,rfl⟩:=e;exact⟨_,ls,⟨_,rfl,hl⟩,by rw[<-hz,se];rfl,hk⟩
theorem qz{v:Value}{k:Nat}(hS:Old S w)(h:fQ w S v k z)(hk:k<=40000000):
  dx PG N.mg #[v] w (eH w fun v' w2=>∃cs,dR w2 (Nf w w2) v' cs∧Ao cs (2*k) z):=by
 obtain⟨b,ls,hi,hz,hl⟩:=h;have PN:Lm ls:=by obtain⟨_,_,h⟩:=hi;exact h.lm
 refine(Gk hS hi (by omega)).mono fun _ w2 ⟨v2,e1,e2,e3⟩=>⟨v2,e1,e2,_,e3,by rw[CR,Mc,hz],by rw[iG];omega,zH (Np b) PN,fun h0=>?_⟩
 cases b with
 |false=>exact fun c hc=>(wx PN c hc).1
 |true=>
  rw[Ku]at hz;exact fun c hc=>by rw[Ap _ (show val ls=0 by omega) c hc];decide
theorem Gl{v:Value}{n:Nat}(hS:Old S w)(h:dR w S v cs)(hb:Ao cs n z)(hn:n<=100000000):
  dx PG N.kA #[v] w (eH w fun v' w2=>cu w2 (Nf w w2) v' z):=by
 have:=vh hS h (fun c hc=>by have:=hb.2.2.1 c hc;omega) (by have:=hb.2.1;omega);rw[hb.1]at this;exact this
theorem LU{v:Value}{k:Nat}(hS:Old S w)(hx:fQ w S v k x)(hk:k<=40000000):
  dx PG N.B5 #[v] w (eH w fun v' w2=>cu w2 (Nf w w2) v' x):=by
 have hw:=bR w;replace hx:=hx.cF (S':=Cv S w.heap.size []) fun _ h=>.inl h;obtain⟨b1,a1,n1,c1,rfl⟩:=hx.shape;refine Cd (by simp) ?_;refine cB (cE hw (fun _ w' v w2=>∃cs,dR w2 (Nf w' w2) v cs∧Ao cs (2*k) (x)) (fun O w' r=>qz (Rel.old r hS) (hx.rel r hS) (by omega)) ?_);rintro O _ _ _ OZ r he hw h_ ⟨cs,k1,bcs⟩;have hc:=k1.dD (S:=FF) r.bz (mN h_);obtain⟨acs,ccs,rfl,lcs⟩:=hc.shape;refine cB (cE hw (fun _ w' v w2=>cu w2 (Nf w' w2) v (x)) (fun O w' r=>Gl (Rel.old r (bw w)) (hc.rel r (bw w)) bcs (by omega)) ?_);rintro O _ _ _ OU r he hw h_ hn;have hC:=hn.dD (S:=FF) r.bz (mN h_);obtain⟨A0,A1,A2,A3,rfl⟩:=hC.shape;exact rtn hw fun ρe we re=>hC.out re (bw w)
theorem nN{v:Value}{k:Nat}(hS:Old S w)(hx:fQ w S v k x)(hk:k<=40000000):
  dx PG N.wT #[v] w (eH w fun v' w2=>cu w2 (Nf w w2) v' (-x)):=by
 have hw:=bR w;replace hx:=hx.cF (S':=Cv S w.heap.size []) fun _ h=>.inl h;obtain⟨b1,a1,n1,c1,rfl⟩:=hx.shape;replace hx:=hx.neg;refine z6 (by simp) ?_;refine cB (cE hw (fun _ w' v w2=>cu w2 (Nf w' w2) v (-x)) (fun O w' r=>LU (Rel.old r hS) (hx.rel r hS) hk) ?_);rintro O _ _ _ OZ r he hw h_ hn;have hC:=hn.dD (S:=FF) r.bz (mN h_);obtain⟨A0,A1,A2,A3,rfl⟩:=hC.shape;exact rtn hw fun ρe we re=>hC.out re (bw w)
theorem xq{v:Value}{k:Nat}(hS:Old S w)(hx:fQ w S v k x)(hk:k<=40000000):
  dx PG N.zN #[v] w (eH w fun v' w2=>cu w2 (Nf w w2) v' ((x.natAbs:Int))):=by
 have hw:=bR w;replace hx:=hx.cF (S':=Cv S w.heap.size []) fun _ h=>.inl h;obtain⟨b1,a1,n1,c1,rfl⟩:=hx.shape;replace hx:=hx.abs;refine Ad (by simp) ?_;refine cB (cE hw (fun _ w' v w2=>cu w2 (Nf w' w2) v ((x.natAbs:Int))) (fun O w' r=>LU (Rel.old r hS) (hx.rel r hS) hk) ?_);rintro O _ _ _ OZ r he hw h_ hn;have hC:=hn.dD (S:=FF) r.bz (mN h_);obtain⟨A0,A1,A2,A3,rfl⟩:=hC.shape;exact rtn hw fun ρe we re=>hC.out re (bw w)
theorem Mz{v:Value}{i:Nat}(hS:Old S w)(h:dR w S v cs):
  dx PG N.EW #[v,.int .i64 i] w (eH w fun v' _=>v'= .int .i64 (cs.getD i 0)):=by
 obtain⟨a,c,rfl,hc⟩:=h.shape;refine EZ (by simp) ?_;refine dB.mk ?_ ?_<;>intro hi
 ·have hi:i<cs.length:=by simpa using hi
  obtain⟨x,hx⟩:∃x,cs[i]? =some x:=⟨_,aB hi⟩
  obtain⟨ad,rfl,q1,q2⟩:=h.load hx;refine⟨ad,rfl,by omega,.int .i64 x,fun O w' r=>?_,?_⟩
  ·rw[aF];exact jl hS dT.refl r q1 q2
  intro O w2 r;exact⟨_,rfl,r.cL,by rw[List.getD,hx];rfl⟩
 ·have hi:cs.length<=i:=by
   have:¬i<cs.length:=by simpa using hi
   omega
  intro O w2 r;exact⟨_,rfl,r.cL,by rw[List.getD,List.getElem?_eq_none hi];rfl⟩
theorem val_zero(h:∀x∈ls,x=0):val ls=0:=by
 induction ls with
 |nil=>rfl
 |cons l r ih=>rw[val,h l aG,ih fun x hx=>h x (aC _ hx)]
theorem Md{x:Nat}(h:x∈ls)(hx:x≠0):0<val ls:=by
 induction ls with
 |nil=>cases h
 |cons l r ih=>
  rw[val];rcases List.mem_cons.1 h with rfl|h
  ·omega
  ·have:=ih h;omega
theorem gN{v:Value}(hS:Old S w)(hx:j5 w S v x):
  dx PG N.zK #[v] w (eH w fun v' _=>v'= .int .i64 x.sign):=by
 obtain⟨b,ls,⟨lv,rfl,h1⟩,hz⟩:=hx;obtain⟨a,c,rfl,_,ha⟩:=h1.sl;have hle1:=h1.le;refine Ab (by simp) ?_
 refine⟨Nat×World,fun z=>⟨[(1,pP 0 0),(3,iZ z.1)],[(0,.box T.Int [.v (.bool b),.v (.slice a ls.length c)])],1,[],z.2⟩,fun z=>ls.length-z.1,
  fun z=>z.1<=ls.length∧dT w.heap.size w z.2∧∀x∈ls.take z.1,x=0,?_,?_⟩
 ·intro O w' r;exact⟨(0,w'),⟨by simp,r.cL,by simp⟩,Sub.gn [] r⟩
 rintro⟨i,w1⟩ ⟨hi,hw,ht⟩;dsimp only at hi hw ht ⊢;refine dB.mk ?_ ?_<;>intro OQ
 ·have OQ:i<ls.length:=by simpa using OQ
  obtain⟨y,hy⟩:∃x,ls[i]? =some x:=⟨_,aB OQ⟩
  obtain⟨ad,rfl,q1,q2⟩:=ha i y hy;refine⟨ad,rfl,by omega,.int .u32 y,fun O w' r=>by rw[aF,aY];exact jl hS hw r q1 q2,?_⟩;refine dB.mk ?_ ?_<;>intro OS
  ·have OS:y≠0:=fun h=>by rw[h]at OS;simp at OS
   have hp:=Md (aE hy) OS
   cases b with
   |true=>
    rw[Ku]at hz;intro O w2 r;exact⟨_,rfl,hw.tr r.cL,by rw[bg (by omega)];rfl⟩
   |false=>
    rw[Nj]at hz;intro O w2 r;exact⟨_,rfl,hw.tr r.cL,by rw[bh (by omega)];rfl⟩
  have OS:y=0:=by simpa using OS
  subst OS;have TG:∀x∈ls.take (i+1),x=0:=fun x hx=>by
   rw[List.take_add_one,hy]at hx;rcases List.mem_append.1 hx with hx|hx
   ·exact ht x hx
   ·simpa using hx
  refine⟨((i+1:Nat):Int),wo,?_⟩;intro ρ3 w3 r3;exact⟨(i+1,w3),⟨OQ,hw.tr r3.cL,TG⟩,Sub.gn [] r3,by dsimp only;omega⟩
 have OQ:i=ls.length:=by
  have:¬i<ls.length:=by simpa using OQ
  omega
 subst OQ;rw[bH]at ht;intro O w2 r;refine⟨_,rfl,hw.tr r.cL,?_⟩;rw[<-hz,val_zero ht]
 cases b<;>rfl
end Go.Ex
