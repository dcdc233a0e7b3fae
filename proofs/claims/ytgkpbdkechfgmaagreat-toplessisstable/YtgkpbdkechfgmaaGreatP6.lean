/- Texts X46 to X58: lemmas, each with its conditions. -/
import Derived.Test.YtgkpbdkechfgmaaGreatP5
namespace Go.Ex
open Go Go.Sx Go.Proofs
variable{U:List Int}{S:Nat->Prop}
theorem vg(n:Int):(n.tmod 65536<0->n % 65536=n.tmod 65536+65536)/\(¬n.tmod 65536<0->n % 65536=n.tmod 65536)/\ -65536<n.tmod 65536/\n.tmod 65536<65536:=by
 by_cases h:0<=n
 ·rw[Int.tmod_eq_emod_of_nonneg h];omega
 ·have I:n.tmod 65536= -((-n) % 65536):=by
   have:n= -(-n):=by omega
   conv=>lhs;rw[this]
   rw[Int.neg_tmod,Int.tmod_eq_emod_of_nonneg (by omega)]
  rw[I];omega
theorem Bp(n:Int):(n-n % 65536).tdiv 65536=n / 65536:=by
 have h:n-n % 65536=65536*(n / 65536):=by omega
 rw[h,Int.mul_tdiv_cancel_left _ (by decide)]
theorem Bq{w:World}{v:Value}(F:Old S w)(h:dR w S v U)(hb:∀c∈U,-1152921504606846976<=c/\c<=1152921504606846976)(hl:U.length<=1000000000):
  dx PG F'.rT #[v] w (eH w fun v' V=>∃o,v'= .tuple #[o,.int .i64 (dH U 0).2]/\V.ownsRow w.heap.size T.int 1 o U.length ((dZ (dH U 0).1).map (Value.int .i64))):=by
 obtain⟨a,c,rfl,hc⟩:=h.shape;refine vR (by simp) ?_
 refine⟨Nat×World,fun z=>⟨[(0,sV a U.length c),(4,.o (.w 0 z.1)),(5,.o (.v (.int .i64 (dH (U.take z.1) 0).2))),(6,iZ z.1)],[(0,.vec T.int 1 ((dZ (dH (U.take z.1) 0).1).map (Value.int .i64)))],1,[],z.2⟩,fun z=>U.length-z.1,
  fun z=>dT w.heap.size w z.2/\z.1<=U.length,?_,?_⟩
 ·intro O J r
  exact⟨(0,J),⟨r.cL,by simp⟩,Sub.nil 4 T.int 1 rfl (by simp[l5,SV.sc,At.sc,iW]) r fun In r1=>
   Sub.gn [] r1⟩
 rintro⟨i,w1⟩ ⟨Y,D⟩;dsimp only at Y D ⊢;obtain⟨-,hdg,hlen⟩:=kf (U.take i) 0;have SL:((dZ (dH (U.take i) 0).1).map (Value.int .i64)).length=i:=by rw[aL,ec,hlen,aZ];omega
 obtain⟨hk1,UX⟩:=jy (U.take i) 0 (fun c hc=>hb c (bS hc)) (by decide) (by decide);have hR:dR w1 S (.slice a U.length c) U:=dR.cC h fun g G=>Y.block g (F g G);refine dB.mk ?_ ?_<;>intro h
 ·have h:i<U.length:=by simpa using h
  obtain⟨x,L⟩:∃x,U[i]? =some x:=⟨_,aB h⟩
  obtain⟨Ro,R1⟩:=hb x (aE L);obtain⟨ad,rfl,q1,q2⟩:=hR.load L;have Vh:U.take (i+1)=U.take i++[x]:=by rw[List.take_add_one,L];rfl
  have hsn:=CO (U.take i) x 0;rw[<-Vh]at hsn;generalize (dH (U.take i) 0).1=ds at*
  generalize (dH (U.take i) 0).2=k at*
  obtain⟨t1,t2,t3,t4⟩:=vg (x+k);have hem1:=Int.emod_nonneg (x+k) (show (65536:Int)≠0 by decide);have hem2:=Int.emod_lt_of_pos (x+k) (show (0:Int)<65536 by decide);refine⟨ad,rfl,by omega,.int .i64 x,fun O J r=>?_,?_⟩
  ·rw[aF,cJ (w:=w1) (V:=J) (by rw[c9];exact Rel.same (S:=S) r F (.inl q1))];exact q2
  refine⟨x+k,wo,by decide,(x+k).tmod 65536,rfl,?_⟩;refine dB.mk ?_ ?_<;>intro RD
  ·have RD:=t1 (aK RD);refine⟨(x+k) % 65536,by rw[RD,wrap64]<;>omega,x+k-(x+k) % 65536,wo,by decide,(x+k) / 65536,by rw[Bp,wrap64]<;>omega,?_⟩;refine .inl ?_;refine⟨by rw[SL,aY],by omega,by unfold maxLen;omega,((i+1:Nat):Int),wo,?_⟩;intro IR w3 K;have Td:(dZ (dH (U.take (i+1)) 0).1).map (Value.int .i64)=(dZ ds).map (Value.int .i64)++[.int .i64 ((x+k) % 65536)]:=by
    rw[hsn];simp[dZ,Int.toNat_of_nonneg hem1]
   have hk5:(dH (U.take (i+1)) 0).2=(x+k) / 65536:=by rw[hsn]
   exact⟨(i+1,w3),⟨Y.tr K.cL,by dsimp only;omega⟩,Sub.gn [(0,2)] K ⟨by dsimp only;rw[Td];rfl,trivial⟩ ⟨rfl,rfl,by dsimp only;rw[hk5];rfl,rfl,trivial⟩,by dsimp only;omega⟩
  ·have RD:=t2 (aH RD);rw[<-RD];refine⟨x+k-(x+k) % 65536,wo,by decide,(x+k) / 65536,by rw[Bp,wrap64]<;>omega,?_⟩;refine .inl ?_;refine⟨by rw[SL,aY],by omega,by unfold maxLen;omega,((i+1:Nat):Int),wo,?_⟩;intro IR w3 K;have Td:(dZ (dH (U.take (i+1)) 0).1).map (Value.int .i64)=(dZ ds).map (Value.int .i64)++[.int .i64 ((x+k) % 65536)]:=by
    rw[hsn];simp[dZ,Int.toNat_of_nonneg hem1]
   have hk5:(dH (U.take (i+1)) 0).2=(x+k) / 65536:=by rw[hsn]
   exact⟨(i+1,w3),⟨Y.tr K.cL,by dsimp only;omega⟩,Sub.gn [(0,2)] K ⟨by dsimp only;rw[Td];rfl,trivial⟩ ⟨rfl,rfl,by dsimp only;rw[hk5];rfl,rfl,trivial⟩,by dsimp only;omega⟩
 ·have h:i=U.length:=by
   have:¬i<U.length:=by simpa using h
   omega
  subst h;rw[bH]at SL ⊢;exact rtn Y fun GT we re=>⟨_,rfl,re.DI (id:=0) rfl (by rw[SL,aY]) (by decide)⟩
end Go.Ex
namespace Go.Sx
open Go Go.Ex Go.Proofs
variable{ls:List Nat}{O:Nat->Sx.dL}
theorem Rel.LL{H:Hp}{nx:Nat}{iv:Iv}{B:Nat}{w J:World}(r:Rel H nx iv B w O J){id t m:Nat}(h:cV H id=some (.vec t 1 (E8 ls)))(hm:m<=ls.length)(PO:Lm ls)(hle:ls.length<=9223372036854775807):
  cz J (fun g=>B<=g/\g<J.heap.size) ((At.w id m).den O) (ls.take m):=by
 have Ou:(ls.take m).length=m:=by rw[aZ];omega
 rcases r.vec id t 1 _ h with⟨Z,hu⟩|⟨Z,spare,hb,hc,QF⟩
 ·have hl:ls=[]:=by cases ls with
   |nil=>rfl
   |cons a b=>simp[E8]at hu
  subst hl;simp at hm;subst hm;have:(At.w id 0).den O= .slice none 0 0:=by simp[At.den,Z]
  rw[this];exact cz.nil _ _
 ·refine⟨PO.take m,by rw[Ou];omega,some ⟨(O id).g,0,none⟩,(O id).cap,by rw[Ou];simp[At.den,Z],?_,fun j x L=>⟨_,rfl,r.low id _ h Z,?_⟩⟩
  ·have I:(E8 ls++spare).length=ls.length+spare.length:=by rw[List.length_append,gF]
   rw[Ou];omega
  ·rw[List.getElem?_take]at L;split at L
   ·rw[dA,cell_of hb,aV,aJ (by rw[gF];exact(aD.1 L).1)];exact uF L
   ·cases L
end Go.Sx
namespace Go.Ex
open Go Go.Sx Go.Proofs
variable{ds ls:List Nat}{S:Nat->Prop}
theorem Gg{n:Nat}(_hn:n<ls.length)(h0:ls[n]? =some 0):dO (ls.take (n+1))=dO (ls.take n):=by
 rw[List.take_add_one,h0];exact kO _
theorem Gi{n x:Nat}(h0:ls[n]? =some x)(L:x≠0):dO (ls.take (n+1))=ls.take (n+1):=by
 rw[List.take_add_one,h0];exact nZ _ L
theorem FB{w:World}{v:Value}(F:Old S w)(h:dR w S v (dZ ds))(hd:Dg ds)(hl:ds.length<=1000000000):
  dx PG F'.tm #[v] w (eH w fun v' V=>∃lv,v'= .agg #[.bool false,lv]/\cz V (Nf w V) lv (dO (gZ ds))):=by
 obtain⟨a,c,rfl,hc⟩:=h.shape;rw[ec]at hc h ⊢;refine xO (by simp) ?_
 refine⟨Nat×World,fun z=>match z.1 with
   |0=>⟨[(0,sV a ds.length c),(2,pP 0 0),(3,pP 1 0),(4,iZ 0)],[(1,.box T.Int [.v (.bool false),.v (.slice none 0 0)]),(0,.box T.Int [.v (.bool false),.v (.slice none 0 0)])],2,[],z.2⟩
   |k+1=>⟨[(0,sV a ds.length c),(2,pP 0 0),(3,pP 1 0),(4,.o (.v (.int .i64 ((2*(k+1):Nat):Int))))],[(2,.vec T.uint32 1 (E8 (pk ds (k+1)))),(1,.box T.Int [.v (.bool false),.w 2 (k+1)]),(0,.box T.Int [.v (.bool false),.v (.slice none 0 0)])],3,[],z.2⟩,
  fun z=>ds.length-z.1,fun z=>dT w.heap.size w z.2/\2*z.1<=ds.length+1,?_,?_⟩
 ·intro O J r;exact⟨(0,J),⟨r.cL,by simp⟩,Sub.gn [] r⟩
 rintro⟨k,w1⟩ ⟨Y,D⟩;dsimp only at Y D;have hR:dR w1 S (.slice a ds.length c) (dZ ds):=dR.cC h fun g G=>Y.block g (F g G)
 cases k with
 |zero=>
  refine dB.mk ?_ ?_<;>intro I
  ·have I:0<ds.length:=by
    have:=aK I;omega
   obtain⟨d0,TC⟩:∃x,ds[0]? =some x:=⟨_,aB I⟩
   have hd0b:=hd d0 (aE TC);have TB:ds.getD (2*0) 0=d0:=by show ds.getD 0 0=d0;rw[List.getD,TC];rfl
   obtain⟨ad,rfl,q1,q2⟩:=hR.load (j:=0) (x:=(d0:Int)) (by rw[dZ,aM,TC];rfl);refine⟨ad,rfl,by omega,.int .i64 (d0:Int),fun O J r=>?_,?_⟩
   ·show J.cell? (ad.add (0*1))=_;rw[cJ (w:=w1) (V:=J) (by rw[c9];exact Rel.same (S:=S) r F (.inl q1))];exact q2
   refine⟨((0+1:Nat):Int),wo,?_⟩;refine dB.mk ?_ ?_<;>intro X
   ·have X:0+1<ds.length:=by
     have:=aK X;omega
    obtain⟨d1,RO⟩:∃x,ds[0+1]? =some x:=⟨_,aB X⟩
    have hd1b:=hd d1 (aE RO);have TE:ds.getD (2*0+1) 0=d1:=by show ds.getD (0+1) 0=d1;rw[List.getD,RO];rfl
    obtain⟨_,Om,q3,q4⟩:=hR.load (j:=0+1) (x:=(d1:Int)) (by rw[dZ,aM,RO];rfl);injection Om with Om;subst Om;refine⟨((0+1:Nat):Int),wo,ad,rfl,by omega,.int .i64 (d1:Int),fun O J r=>?_,?_⟩
    ·show J.cell? (ad.add ((0+1)*1))=_;rw[cJ (w:=w1) (V:=J) (by rw[c9];exact Rel.same (S:=S) r F (.inl q3))];exact q4
    refine⟨((65536*d1:Nat):Int),wo,((d0+65536*d1:Nat):Int),wo,?_⟩;have SS:=xk ds 0;rw[TB,TE]at SS;generalize d0+65536*d1=dd at*
    have hdd:dd<4294967296:=KO hd (0+1) dd (by rw[SS];simp);refine⟨(dd:Int),by rw[xX]<;>omega,?_⟩;refine .inl ?_;refine⟨by omega,by unfold maxLen;omega,((2*(0+1):Nat):Int),wo,?_⟩;intro IR w3 K;have hU:E8 (pk ds (0+1))=E8 (pk ds 0)++[.int .u32 (dd:Int)]:=by rw[SS];simp[E8]
    exact⟨(0+1,w3),⟨Y.tr K.cL,by dsimp only;omega⟩,Sub.gn [(2,3)] K ⟨by dsimp only;rw[hU];rfl,rfl,rfl,trivial⟩,by dsimp only;omega⟩
   ·have X:0+1=ds.length:=by
     have:=aH X;omega
    have TE:ds.getD (2*0+1) 0=0:=by show ds.getD (0+1) 0=0;rw[List.getD,List.getElem?_eq_none (by omega)];rfl
    have SS:=xk ds 0;rw[TB,TE]at SS;obtain⟨dd,hdde⟩:∃dd,dd=d0:=⟨_,rfl⟩
    rw[<-hdde]at SS ⊢;have hdd:dd<4294967296:=by omega
    rw[show dd+65536*0=dd by omega]at SS;refine⟨(dd:Int),by rw[xX]<;>omega,?_⟩;refine .inl ?_;refine⟨by omega,by unfold maxLen;omega,((2*(0+1):Nat):Int),wo,?_⟩;intro IR w3 K;have hU:E8 (pk ds (0+1))=E8 (pk ds 0)++[.int .u32 (dd:Int)]:=by rw[SS];simp[E8]
    exact⟨(0+1,w3),⟨Y.tr K.cL,by dsimp only;omega⟩,Sub.gn [(2,3)] K ⟨by dsimp only;rw[hU];rfl,rfl,rfl,trivial⟩,by dsimp only;omega⟩
  ·have I:ds=[]:=by
    have:=aH I;exact List.eq_nil_of_length_eq_zero (by omega)
   subst I;refine⟨World,fun z=>⟨[(2,pP 0 0),(3,pP 1 0),(6,iZ 0)],[(1,.box T.Int [.v (.bool false),.v (.slice none 0 0)]),(0,.box T.Int [.v (.bool false),.v (.slice none 0 0)])],2,[],z⟩,fun _=>0,fun z=>dT w.heap.size w z,?_,?_⟩
   ·intro O J r;exact⟨J,Y.tr r.cL,Sub.gn [] r⟩
   intro V Y;dsimp only at Y ⊢;refine⟨⟨by decide,by decide,by decide⟩,none,0,0,by rfl,by rfl,by rfl,?_⟩;exact rtn Y fun GT we re=>⟨_,rfl,cz.nil _ _⟩
 |succ k=>
  refine dB.mk ?_ ?_<;>intro I
  ·have I:(2*(k+1))<ds.length:=by
    have:=aK I;omega
   obtain⟨d0,TC⟩:∃x,ds[(2*(k+1))]? =some x:=⟨_,aB I⟩
   have hd0b:=hd d0 (aE TC);have TB:ds.getD (2*(k+1)) 0=d0:=by show ds.getD (2*(k+1)) 0=d0;rw[List.getD,TC];rfl
   obtain⟨ad,rfl,q1,q2⟩:=hR.load (j:=(2*(k+1))) (x:=(d0:Int)) (by rw[dZ,aM,TC];rfl);refine⟨ad,rfl,by omega,.int .i64 (d0:Int),fun O J r=>?_,?_⟩
   ·show J.cell? (ad.add ((2*(k+1))*1))=_;rw[cJ (w:=w1) (V:=J) (by rw[c9];exact Rel.same (S:=S) r F (.inl q1))];exact q2
   refine⟨(((2*(k+1))+1:Nat):Int),wo,?_⟩;refine dB.mk ?_ ?_<;>intro X
   ·have X:(2*(k+1))+1<ds.length:=by
     have:=aK X;omega
    obtain⟨d1,RO⟩:∃x,ds[(2*(k+1))+1]? =some x:=⟨_,aB X⟩
    have hd1b:=hd d1 (aE RO);have TE:ds.getD (2*(k+1)+1) 0=d1:=by show ds.getD ((2*(k+1))+1) 0=d1;rw[List.getD,RO];rfl
    obtain⟨_,Om,q3,q4⟩:=hR.load (j:=(2*(k+1))+1) (x:=(d1:Int)) (by rw[dZ,aM,RO];rfl);injection Om with Om;subst Om;refine⟨(((2*(k+1))+1:Nat):Int),wo,ad,rfl,by omega,.int .i64 (d1:Int),fun O J r=>?_,?_⟩
    ·show J.cell? (ad.add (((2*(k+1))+1)*1))=_;rw[cJ (w:=w1) (V:=J) (by rw[c9];exact Rel.same (S:=S) r F (.inl q3))];exact q4
    refine⟨((65536*d1:Nat):Int),wo,((d0+65536*d1:Nat):Int),wo,?_⟩;have SS:=xk ds (k+1);rw[TB,TE]at SS;generalize d0+65536*d1=dd at*
    have hdd:dd<4294967296:=KO hd ((k+1)+1) dd (by rw[SS];simp);refine⟨(dd:Int),by rw[xX]<;>omega,?_⟩;refine .inl ?_;refine⟨by rw[gF,vC];omega,by omega,by unfold maxLen;omega,((2*((k+1)+1):Nat):Int),wo,?_⟩;intro IR w3 K;have hU:E8 (pk ds ((k+1)+1))=E8 (pk ds (k+1))++[.int .u32 (dd:Int)]:=by rw[SS];simp[E8]
    exact⟨((k+1)+1,w3),⟨Y.tr K.cL,by dsimp only;omega⟩,Sub.gn [(2,4)] K ⟨by dsimp only;rw[hU];rfl,rfl,rfl,trivial⟩,by dsimp only;omega⟩
   ·have X:(2*(k+1))+1=ds.length:=by
     have:=aH X;omega
    have TE:ds.getD (2*(k+1)+1) 0=0:=by show ds.getD ((2*(k+1))+1) 0=0;rw[List.getD,List.getElem?_eq_none (by omega)];rfl
    have SS:=xk ds (k+1);rw[TB,TE]at SS;obtain⟨dd,hdde⟩:∃dd,dd=d0:=⟨_,rfl⟩
    rw[<-hdde]at SS ⊢;have hdd:dd<4294967296:=by omega
    rw[show dd+65536*0=dd by omega]at SS;refine⟨(dd:Int),by rw[xX]<;>omega,?_⟩;refine .inl ?_;refine⟨by rw[gF,vC];omega,by omega,by unfold maxLen;omega,((2*((k+1)+1):Nat):Int),wo,?_⟩;intro IR w3 K;have hU:E8 (pk ds ((k+1)+1))=E8 (pk ds (k+1))++[.int .u32 (dd:Int)]:=by rw[SS];simp[E8]
    exact⟨((k+1)+1,w3),⟨Y.tr K.cL,by dsimp only;omega⟩,Sub.gn [(2,4)] K ⟨by dsimp only;rw[hU];rfl,rfl,rfl,trivial⟩,by dsimp only;omega⟩
  ·have I:ds.length<=2*(k+1):=by
    have:=aH I;omega
   have R:k+1=(ds.length+1) / 2:=by omega
   have SS:pk ds (k+1)=gZ ds:=by rw[R];exact KN ds
   have hlen:=vC ds (k+1);have PO:=KO hd (k+1);rw[<-SS];obtain⟨ls,hls⟩:∃ls,ls=pk ds (k+1):=⟨_,rfl⟩
   rw[<-hls]at hlen PO ⊢
   refine⟨by show(E8 (pk ds (k+1))).length=_;rw[<-hls,gF,hlen];simp,Nat×World,fun z=>⟨[(2,pP 0 0),(3,pP 1 0),(6,iZ z.1)],[(2,.vec T.uint32 1 (E8 ls)),(1,.box T.Int [.v (.bool false),.w 2 (k+1)]),(0,.box T.Int [.v (.bool false),.v (.slice none 0 0)])],3,[],z.2⟩,fun z=>z.1,
    fun z=>dT w.heap.size w z.2/\z.1<=k+1/\dO (ls.take z.1)=dO ls,?_,?_⟩
   ·intro O J r;exact⟨(k+1,J),⟨Y.tr r.cL,Nat.le_refl _,by dsimp only;rw[List.take_of_length_le (by omega)]⟩,Sub.gn [] r ⟨by dsimp only;rw[hls];rfl,rfl,rfl,trivial⟩⟩
   rintro⟨n,V⟩ ⟨Y,Z,htr⟩;dsimp only at Y Z htr ⊢
   cases n with
   |zero=>
    refine⟨by rw[gF,hlen];simp,⟨by omega,by omega⟩,0,by rfl,?_⟩;intro GT we re;refine⟨_,rfl,Y.tr re.cL,_,rfl,?_⟩;have:=re.LL (id:=2) (m:=0) rfl (aS _) PO (by omega);rw[<-htr];exact this.cF fun g G=>.inr G
   |succ n=>
    obtain⟨x,L⟩:∃x,ls[n]? =some x:=⟨_,aB (by omega)⟩
    refine dB.mk (fun hp=>?_) (fun hp=>absurd (aH hp) (by omega));refine⟨(n:Int),wo,by rw[gF,hlen];simp,by omega,.int .u32 (x:Int),by simpa using uF L,?_⟩;refine dB.mk ?_ ?_<;>intro h0
    ·have h0:x=0:=by have:=eq_of_beq h0;omega
     subst h0;refine⟨(n:Int),wo,?_⟩;intro IR w3 K;exact⟨(n,w3),⟨Y.tr K.cL,by dsimp only;omega,by dsimp only;rw[<-htr,Gg (by omega) L]⟩,Sub.gn [] K,by dsimp only;omega⟩
    ·have h0:x≠0:=fun e=>by rw[e]at h0;exact absurd h0 (by decide)
     refine⟨by rw[gF,hlen];simp,⟨by omega,by omega⟩,n+1,by rfl,?_⟩;intro GT we re;refine⟨_,rfl,Y.tr re.cL,_,rfl,?_⟩;have:=re.LL (id:=2) (m:=n+1) rfl (by omega) PO (by omega);rw[<-htr,Gi L h0];exact this.cF fun g G=>.inr G
end Go.Ex
namespace Go.Ex
open Go Go.Sx Go.Proofs
variable{H:Hp}{z:Int}{iv:Iv}{U:List Int}{b ds ls:List Nat}{xs:List Value}{B i nx:Nat}{S:Nat->Prop}{O:Nat->Sx.dL}{a a2:Option Addr}{q:Rat}{u:Value}{w J:World}
theorem uW{V:World}{v v':Value}(hc:Ge iv v)(r:Rel H nx iv B w O J)(RI:∀g,v'.ownBlock=some g->g<V.heap.size/\(v.ownBlock=some g\/g=J.heap.size)):
  ∀lo D,(lo,D)∈r9 v'->D<=V.heap.size/\∀id b,cV H id=some b->(O id).nil=false->¬(lo<=(O id).g/\(O id).g<D):=fun lo D hm=>by
 obtain⟨G,rfl⟩:=Bn.1 hm;obtain⟨I,X⟩:=RI _ G;refine⟨by omega,fun id c hc' Z W=>?_⟩;rcases X with X|X
 ·exact hc.not r X id c hc' Z (by omega)
 ·have:=(r.low id c hc' Z).2;omega
theorem cz.out{w1:World}{v:Value}(h:cz w1 (Cv S w.heap.size iv) v ls)(r:Rel H nx iv w.heap.size w1 O J)(F:Old S w):cz J (Nw S w J) v ls:=
 (cz.rel h r F).cF fun _ G=>Cv.nw G r
theorem Hj{B' e sz m:Nat}{v:Value}(h:w.ownsRow B e sz v m xs)(hb:B'<=B):w.ownsRow B' e sz v m xs:=⟨h.1,h.2.imp id fun⟨g,cap,cur,k1,k2,k3⟩=>⟨g,cap,cur,k1,by omega,k3⟩⟩
theorem uX(a b:List Nat):dZ (a++b)=dZ a++dZ b:=by simp[dZ]
theorem qv{m:Nat}{v:Value}(h:w.ownsRow B T.int 1 v m (U.map (Value.int .i64)))(hm:m=U.length)(hl:m<=maxLen):dR w (fun g=>v.ownBlock=some g) v U:=by
 subst hm;rcases h.2 with⟨rfl,h0⟩|⟨g,cap,cur,rfl,hb,hc,Vl,QF,Oj,RK⟩
 ·have:U=[]:=List.eq_nil_of_length_eq_zero h0;subst this;exact⟨by simp[maxLen],by simp,by simp,none,0,rfl,Nat.le_refl _,by simp⟩
 ·refine⟨hl,h.1,fun u hu=>by simp at hu;obtain⟨_,_,rfl⟩:=hu;rfl,_,cap,rfl,Vl,fun j u hu=>⟨_,rfl,rfl,?_⟩⟩;exact h.cells (g:=g) rfl j u hu
theorem Dg.append{a:List Nat}(ha:Dg a)(hb:Dg b):Dg (a++b):=fun x L=>(List.mem_append.1 L).elim (ha x) (hb x)
theorem wZ(a b:List Nat):l8 (a++b)=l8 a+up a.length*l8 b:=by
 unfold l8;rw[List.map_append,AW,aL]
theorem AI(hd:Dg ds):Nz (dO (gZ ds))/\(val (dO (gZ ds)):Int)=l8 ds:=by
 obtain⟨I,X,_⟩:=zD ds hd;obtain⟨k1,k2,_⟩:=ef (gZ ds);exact⟨k2,by rw[k1,I]⟩
theorem vh{v:Value}(F:Old S w)(h:dR w S v U)(hb:∀c∈U,-1152921504606846976<=c/\c<=1152921504606846976)(hl:U.length<=100000000):
  dx PG F'.jz #[v] w (eH w fun v' V=>cu V (Nf w V) v' (dC U)):=by
 obtain⟨a,c,rfl,hc⟩:=h.shape;obtain⟨Wr,hdg,Rq⟩:=kf U 0;obtain⟨hk1,UX⟩:=jy U 0 hb (by decide) (by decide);rw[Int.add_zero]at Wr;refine vN (by simp) ?_;refine cB (cG (Id:=fun _ J v' V=>∃o,v'= .tuple #[o,.int .i64 (dH U 0).2]/\V.ownsRow J.heap.size T.int 1 o U.length ((dZ (dH U 0).1).map (Value.int .i64))) (fun O J r=>Bq (oS F r) (dR.cC h fun g G=>Rel.same (S:=S) r F (.inl G)) hb (by omega)) ?_);rintro O wa v1 wb r W Y ⟨o,rfl,OR⟩;have QP:Ge [(wa.heap.size,wb.heap.size)] o:=fun g G=>⟨_,_,bF.2 rfl,(ownsRow.low OR g G).1,(ownsRow.low OR g G).2⟩
 replace OR:=Hj OR r.bz;generalize [(wa.heap.size,wb.heap.size)]=iv at*
 generalize WS:(dH U 0).1=ds at*
 generalize R:(dH U 0).2=k at*
 obtain⟨ao,co,rfl,hco⟩:=ig OR;refine dB.mk ?_ ?_<;>intro RD
 ·have RD:=aK RD;have hV:dC U<0:=by
   have I:=(zC hdg).2;rw[Rq]at I;have X:=KM U.length;have N:up U.length*k<=up U.length*(-1):=Int.mul_le_mul_of_nonneg_left (by omega) (by omega);omega
  obtain⟨VM,Ws,hdl2⟩:=kf (U.map (- ·)) 0;have Qo:∀c∈U.map (- ·),-1152921504606846976<=c/\c<=1152921504606846976:=fun c hc=>by
   obtain⟨x,L,rfl⟩:=aR.1 hc;have:=hb x L;omega
  obtain⟨hk1',hk2'⟩:=jy (U.map (- ·)) 0 Qo (by decide) (by decide);rw[Int.add_zero,GB,aL]at VM;rw[aL]at hdl2;have Um:0<=(dH (U.map (- ·)) 0).2:=by
   have I:=(zC Ws).2;rw[hdl2]at I;have X:=KM U.length;apply Decidable.byContradiction;intro N;have h4:up U.length*(dH (U.map (- ·)) 0).2<=up U.length*(-1):=Int.mul_le_mul_of_nonneg_left (by omega) (by omega);omega
  refine⟨Nat×World,fun z=>⟨[(0,sV a U.length c),(2,pP 0 0),(3,sV ao U.length co),(5,iZ z.1)],[(0,.box T.Int [.v (.bool false),.v (.slice none 0 0)])],1,iv,z.2⟩,fun z=>U.length-z.1,
   fun z=>z.1<=U.length/\dT w.heap.size w z.2/\z.2.ownsRow w.heap.size T.int 1 (.slice ao U.length co) U.length (((U.take z.1).map (- ·)++(dZ ds).drop z.1).map (Value.int .i64)),?_,?_⟩
  ·intro O J r;exact⟨(0,J),⟨by simp,Y.tr r.cL,by simpa using jN OR QP r⟩,Sub.gn [] r⟩
  rintro⟨i,w1⟩ ⟨D,Y,OR⟩;dsimp only at D Y OR ⊢;have hR:dR w1 S (.slice a U.length c) U:=dR.cC h fun g G=>Y.block g (F g G);refine dB.mk ?_ ?_<;>intro OQ
  ·have OQ:i<U.length:=by simpa using OQ
   obtain⟨x,L⟩:∃x,U[i]? =some x:=⟨_,aB OQ⟩
   obtain⟨Ro,R1⟩:=hb x (aE L);obtain⟨ad,rfl,q1,q2⟩:=hR.load L;obtain⟨go,hgo⟩:∃g,ao=some ⟨g,0,none⟩:=by
    rcases OR.2 with⟨_,h0⟩|⟨g,cap,cur,e,_⟩
    ·omega
    ·injection e with e;exact⟨g,e⟩
   subst hgo;refine⟨ad,rfl,by omega,.int .i64 x,fun O J r=>?_,?_⟩
   ·rw[aF,cJ (w:=w1) (V:=J) (by rw[c9];exact Rel.same (S:=S) r F (.inl q1))];exact q2
   refine⟨-x,wo,⟨go,0,none⟩,rfl,by omega,?_⟩;intro O J r;have SC:=jN OR QP r;obtain⟨g',R6,OV,QA,Oc,Oj⟩:=kA (nv:=[.int .i64 (-x)]) SC rfl OQ rfl (by decide);injection R6 with R6;injection R6 with R6;subst R6;rw[Ch (by rw[aL,List.length_append,aL,aZ,List.length_drop,ec,Rq];omega)]at QA;have Om:(⟨go,0,none⟩:Addr).add ((i:Int).toNat*1)=⟨go,i*1,none⟩:=by rw[aF,dA,aV]
   have Px:=fun id b hb Z=>QP.not r (b:=go) rfl id b hb Z;have hgoB:=(ownsRow.low OR go rfl).1;have hw':dT w.heap.size w (setCells J ⟨go,i*1,none⟩ [.int .i64 (-x)]):=(Y.tr r.cL).tr (dT.grown Oc (fun g G=>by injection G with G;subst G;exact hgoB) r.bz);have hlist:(((U.take i).map (- ·)++(dZ ds).drop i).map (Value.int .i64)).set i (.int .i64 (-x))=((U.take (i+1)).map (- ·)++(dZ ds).drop (i+1)).map (Value.int .i64):=by
    rw[<-List.map_set];congr 1;have QT:((U.take i).map (- ·)).length=i:=by rw[aL,aZ];omega
    obtain⟨d,hd⟩:∃d,(dZ ds)[i]? =some d:=⟨_,aB (by rw[ec,Rq];exact OQ)⟩
    have PN:(dZ ds).drop i=d::(dZ ds).drop (i+1):=by
     rw[List.drop_eq_getElem_cons (by rw[ec,Rq];exact OQ)];congr 1;have:=aB (l:=dZ ds) (i:=i) (by rw[ec,Rq];exact OQ);rw[hd]at this;injection this with this;exact this.symm
    rw[List.take_add_one,L,List.map_append,PN,List.set_append_right _ _ (by omega),QT,bB];simp
   refine⟨by rw[Om],fun j hj=>by rw[Om];exact OV j hj,fun id b hb Z=>by rw[Om];exact Px id b hb Z,fun V PR=>?_⟩;have PR:V=setCells J ⟨go,i*1,none⟩ [.int .i64 (-x)]:=by rw[PR];exact congrArg (fun x=>setCells J x _) Om
   rw[<-PR]at QA hw'
   erw [hlist]at QA
   refine⟨((i+1:Nat):Int),wo,?_⟩;intro IR w3 K;exact⟨(i+1,w3),⟨OQ,hw'.tr K.cL,jN QA QP K⟩,Sub.gn [] K,by dsimp only;omega⟩
  have OQ:i=U.length:=by
   have:¬i<U.length:=by simpa using OQ
   omega
  subst OQ;rw[bH,List.drop_of_length_le (by rw[ec,Rq];exact Nat.le_refl _),List.append_nil]at OR;refine⟨⟨by omega,by omega,by omega⟩,ao,U.length,co,Ea ao co,by omega,by omega,?_⟩;refine cB (cG (Id:=fun _ J v' V=>∃o,v'= .tuple #[o,.int .i64 (dH (U.map (- ·)) 0).2]/\V.ownsRow J.heap.size T.int 1 o U.length ((dZ (dH (U.map (- ·)) 0).1).map (Value.int .i64))) (fun O J r=>?_) ?_)
  ·have h8:=jN OR QP r;have h9:=qv h8 (by rw[aL]) (by unfold maxLen;omega);have h10:=Bq (fun g G=>(ownsRow.low h8 g G).2) h9 Qo (by rw[aL];omega);rw[aL]at h10;exact h10
  rintro O wc v1 wd r W Og ⟨o2,rfl,Pc⟩;have Ql:Ge ((wc.heap.size,wd.heap.size)::iv) o2:=fun g G=>⟨_,_,aG,(ownsRow.low Pc g G).1,(ownsRow.low Pc g G).2⟩
  replace Pc:=Hj Pc r.bz;replace Y:=Y.tr Og;generalize (wc.heap.size,wd.heap.size)::iv=OU at*
  generalize hds2:(dH (U.map (- ·)) 0).1=ds2 at*
  generalize hkk2:(dH (U.map (- ·)) 0).2=k2 at*
  obtain⟨kn,rfl⟩:∃kn:Nat,k2=kn:=⟨k2.toNat,by omega⟩
  obtain⟨ao2,co2,rfl,hco2⟩:=ig Pc;have ds2_len:ds2.length=U.length:=hdl2;have ds2_dg:Dg ds2:=Ws;refine cB (cG (Id:=fun _ J v V=>dR V (Nf J V) v (dZ (ct kn))) (fun O J r=>by exact FA kn J (by omega)) ?_);rintro O ws vs wt r W hb WX;have Te:dR wt (Cf w ((ws.heap.size,wt.heap.size)::OU)) vs (dZ (ct kn)):=dR.cF WX fun g G=>G.dD r.bz aG;replace Pc:=ownsRow.cC (jN Pc Ql r) fun g G=>W.block g (by have:=(ownsRow.low (jN Pc Ql r) g G).2;exact this);replace Ql:Ge ((ws.heap.size,wt.heap.size)::OU) _:=Ql.mono fun p hp=>aC _ hp;replace Y:=Y.tr hb;generalize (ws.heap.size,wt.heap.size)::OU=qW at*
  obtain⟨asp,csp,rfl,-⟩:=Te.shape;rw[ec]at Te ⊢;have SJ:=jY (n:=kn) (k:=4) (by omega);have hsd:=(kh kn).2
  refine .inr (yE hτ (Nat.le_refl _) (xs:=(dZ ds2).map (Value.int .i64)) (news:=(dZ (ct kn)).map (Value.int .i64)) (m:=U.length) (k:=(ct kn).length) (by rfl) (by rfl) (by decide) (by rfl) (by rfl) (fun O J r=>⟨jN Pc Ql r,fun g G=>Ql.not r G⟩) (by simp[dZ]) (by intro u hu;simp at hu;obtain⟨_,_,rfl⟩:=hu;rfl) (by unfold maxLen;omega) (by omega)
   (fun O J r=>?_) (fun v' V=>r9 v') (fun O J v' V r Oj RI=>uW Ql r RI) (fun O J v' V r h5 h6 h7=>?_))
  ·obtain⟨_,_,_,a2,c2,e2,_,e3⟩:=Te;injection e2 with e4 e5 e6;subst e4 e6
   cases asp with
   |none=>
    have h0:(ct kn).length=0:=by
     rcases bJ (ct kn).length with h0|h0
     ·exact h0
     ·obtain⟨ad2,q1,_⟩:=e3 0 _ (aB (show 0<((dZ (ct kn)).map (Value.int .i64)).length by simp[dZ];exact h0))
      cases q1
    exact .inl ⟨csp,by rw[h0];rfl,h0⟩
   |some ad3=>
    refine .inr ⟨ad3,csp,rfl,fun j u hu=>?_⟩;obtain⟨ad2,q1,q2,q3⟩:=e3 j u hu;injection q1 with q1;subst q1;rw[cJ (w:=wt) (V:=J) (by rw[c9];exact Rel.same r (bw w) q2)];exact q3
  replace Y:dT w.heap.size w V:=(Y.tr r.cL).tr (dT.grown h6 (fun g G=>by
   have:=(ownsRow.low Pc g G).1;omega) r.bz)
  have hcat:(dZ ds2).map (Value.int .i64)++(dZ (ct kn)).map (Value.int .i64)=(dZ (ds2++ct kn)).map (Value.int .i64):=by rw[uX,List.map_append]
  rw[hcat]at h5;have RU:U.length+(ct kn).length=(dZ (ds2++ct kn)).length:=by rw[ec,List.length_append,ds2_len]
  have VN:Dg (ds2++ct kn):=ds2_dg.append hsd;have Ps:(ds2++ct kn).length<=1000000000:=by rw[List.length_append,ds2_len];omega
  obtain⟨a3,c3,rfl,-⟩:=ig h5;refine cB (cG (Id:=fun _ J v' V=>∃lv,v'= .agg #[.bool false,lv]/\cz V (Nf J V) lv (dO (gZ (ds2++ct kn)))) (fun O J r=>?_) ?_)
  ·have h8:=jN h5 (Ge.row _) r;have h9:=qv h8 RU (by unfold maxLen;omega);have h10:=FB (w:=J) (fun g G=>(ownsRow.low h8 g G).2) h9 VN Ps;exact h10
  rintro O wp v1 wq r W hb ⟨lv,rfl,hL⟩;have Wt:=hL.dD (S:=FF) r.bz (iv:=[(wp.heap.size,wq.heap.size)]) aG;have Wt:cz wq (Cf w ((wp.heap.size,wq.heap.size)::r9 (.slice a3 (U.length+(ct kn).length) c3))) lv (dO (gZ (ds2++ct kn))):=hL.cF fun g G=>G.dD r.bz aG;replace Y:=Y.tr hb;generalize (wp.heap.size,wq.heap.size)::r9 (.slice a3 (U.length+(ct kn).length) c3)=ivq at*
  obtain⟨hnz,hvv⟩:=AI VN;obtain⟨a4,n4,c4,rfl⟩:=Wt.shape;have hcv: -dC U=l8 (ds2++ct kn):=by rw[VM,wZ,(kh kn).1,ds2_len]
  obtain⟨pp,hpe,hpp⟩:=Wt.la;injection hpe with hpe1 hpe2 hpe3;subst hpe1 hpe2 hpe3;have hlenpos:0<pp.ls.length:=by
   rw[hpp];rcases bJ (dO (gZ (ds2++ct kn))).length with h0|h0
   ·rw[List.eq_nil_of_length_eq_zero h0]at hvv;simp[val]at hvv;omega
   ·exact h0
  intro GT we re;refine⟨_,rfl,Y.tr re.cL,dO (gZ (ds2++ct kn)),⟨_,?_,Wt.out re (bw w)⟩,hnz,?_⟩
  ·rw[bU hV];have:decide ((pp.ls.length:Int)>0)=true:=bU (by omega);rw[<-this];rfl
  ·have:((val (dO (gZ (ds2++ct kn))):Nat):Int)= -dC U:=by rw[hvv,hcv]
   omega
 ·have RD:=aH RD;obtain⟨kn,rfl⟩:∃kn:Nat,k=kn:=⟨k.toNat,by omega⟩
  have ds_len:ds.length=U.length:=Rq;have ds_dg:Dg ds:=hdg;refine cB (cG (Id:=fun _ J v V=>dR V (Nf J V) v (dZ (ct kn))) (fun O J r=>by exact FA kn J (by omega)) ?_);rintro O ws vs wt r W hb WX;have Te:dR wt (Cf w ((ws.heap.size,wt.heap.size)::iv)) vs (dZ (ct kn)):=dR.cF WX fun g G=>G.dD r.bz aG;replace OR:=ownsRow.cC (jN OR QP r) fun g G=>W.block g (by have:=(ownsRow.low (jN OR QP r) g G).2;exact this);replace QP:Ge ((ws.heap.size,wt.heap.size)::iv) _:=QP.mono fun p hp=>aC _ hp;replace Y:=Y.tr hb;generalize (ws.heap.size,wt.heap.size)::iv=qW at*
  obtain⟨asp,csp,rfl,-⟩:=Te.shape;rw[ec]at Te ⊢;have SJ:=jY (n:=kn) (k:=4) (by omega);have hsd:=(kh kn).2
  refine .inr (yE hτ (Nat.le_refl _) (xs:=(dZ ds).map (Value.int .i64)) (news:=(dZ (ct kn)).map (Value.int .i64)) (m:=U.length) (k:=(ct kn).length) (by rfl) (by rfl) (by decide) (by rfl) (by rfl) (fun O J r=>⟨jN OR QP r,fun g G=>QP.not r G⟩) (by simp[dZ]) (by intro u hu;simp at hu;obtain⟨_,_,rfl⟩:=hu;rfl) (by unfold maxLen;omega) (by omega)
   (fun O J r=>?_) (fun v' V=>r9 v') (fun O J v' V r Oj RI=>uW QP r RI) (fun O J v' V r h5 h6 h7=>?_))
  ·obtain⟨_,_,_,a2,c2,e2,_,e3⟩:=Te;injection e2 with e4 e5 e6;subst e4 e6
   cases asp with
   |none=>
    have h0:(ct kn).length=0:=by
     rcases bJ (ct kn).length with h0|h0
     ·exact h0
     ·obtain⟨ad2,q1,_⟩:=e3 0 _ (aB (show 0<((dZ (ct kn)).map (Value.int .i64)).length by simp[dZ];exact h0))
      cases q1
    exact .inl ⟨csp,by rw[h0];rfl,h0⟩
   |some ad3=>
    refine .inr ⟨ad3,csp,rfl,fun j u hu=>?_⟩;obtain⟨ad2,q1,q2,q3⟩:=e3 j u hu;injection q1 with q1;subst q1;rw[cJ (w:=wt) (V:=J) (by rw[c9];exact Rel.same r (bw w) q2)];exact q3
  replace Y:dT w.heap.size w V:=(Y.tr r.cL).tr (dT.grown h6 (fun g G=>by
   have:=(ownsRow.low OR g G).1;omega) r.bz)
  have hcat:(dZ ds).map (Value.int .i64)++(dZ (ct kn)).map (Value.int .i64)=(dZ (ds++ct kn)).map (Value.int .i64):=by rw[uX,List.map_append]
  rw[hcat]at h5;have RU:U.length+(ct kn).length=(dZ (ds++ct kn)).length:=by rw[ec,List.length_append,ds_len]
  have VN:Dg (ds++ct kn):=ds_dg.append hsd;have Ps:(ds++ct kn).length<=1000000000:=by rw[List.length_append,ds_len];omega
  obtain⟨a3,c3,rfl,-⟩:=ig h5;refine cB (cG (Id:=fun _ J v' V=>∃lv,v'= .agg #[.bool false,lv]/\cz V (Nf J V) lv (dO (gZ (ds++ct kn)))) (fun O J r=>?_) ?_)
  ·have h8:=jN h5 (Ge.row _) r;have h9:=qv h8 RU (by unfold maxLen;omega);have h10:=FB (w:=J) (fun g G=>(ownsRow.low h8 g G).2) h9 VN Ps;exact h10
  rintro O wp v1 wq r W hb ⟨lv,rfl,hL⟩;have Wt:=hL.dD (S:=FF) r.bz (iv:=[(wp.heap.size,wq.heap.size)]) aG;have Wt:cz wq (Cf w ((wp.heap.size,wq.heap.size)::r9 (.slice a3 (U.length+(ct kn).length) c3))) lv (dO (gZ (ds++ct kn))):=hL.cF fun g G=>G.dD r.bz aG;replace Y:=Y.tr hb;generalize (wp.heap.size,wq.heap.size)::r9 (.slice a3 (U.length+(ct kn).length) c3)=ivq at*
  obtain⟨hnz,hvv⟩:=AI VN;obtain⟨a4,n4,c4,rfl⟩:=Wt.shape;intro GT we re;have hcv:dC U=l8 (ds++ct kn):=by rw[Wr,wZ,(kh kn).1,ds_len]
  refine⟨_,rfl,Y.tr re.cL,dO (gZ (ds++ct kn)),⟨_,?_,Wt.out re (bw w)⟩,hnz,?_⟩
  ·have:¬dC U<0:=by rw[hcv,<-hvv];omega
   rw[bE this];rfl
  ·rw[hcv,<-hvv];rfl
theorem No(n:Int):dC [n.tmod 65536,(n.tdiv 65536).tmod 65536,(n.tdiv 65536).tdiv 65536]=n:=by
 simp only[dC]
 have I:=Int.mul_tdiv_add_tmod n 65536;have X:=Int.mul_tdiv_add_tmod (n.tdiv 65536) 65536;omega
theorem oe(n:Int)(w:World)(I: -9223372036854775808<=n)(X:n<=9223372036854775807):
  dx PG F'.EV #[.int .i64 n] w (eH w fun v V=>cu V (Nf w V) v n):=by
 refine EX (by simp) ?_;have b1:=vg n;have b2:=vg (n.tdiv 65536);have e1:=Int.mul_tdiv_add_tmod n 65536;have e2:=Int.mul_tdiv_add_tmod (n.tdiv 65536) 65536;have hsum:=No n;refine⟨by decide,n.tmod 65536,rfl,by decide,n.tdiv 65536,wo,by decide,_,rfl,by decide,n.tdiv 65536,wo,by decide,(n.tdiv 65536).tdiv 65536,wo,?_⟩;generalize n.tmod 65536=c0 at*
 generalize (n.tdiv 65536).tmod 65536=c1 at*
 generalize (n.tdiv 65536).tdiv 65536=c2 at*
 refine cB (cG (Id:=fun _ J v V=>cu V (Nf J V) v n) (fun O J r=>?_) ?_)
 ·rw[<-hsum];have ha:=r.DG (id:=1) (sz:=1) (n:=3) rfl rfl (by decide) (by intro u hu;simp at hu;rcases hu with rfl|rfl|rfl<;>rfl)
  exact vh (S:=fun g=>g=(O 1).g) (fun g G=>by rw[G];exact(r.low 1 _ rfl (r.nn 1 _ rfl (by intros;simp) (by simp))).2) (U:=[c0,c1,c2]) ha (by
   intro c hc;simp at hc
   rcases hc with rfl|rfl|rfl<;>omega) (by simp)
 rintro O wa v1 wb r W hb hI;have hI:=hI.dD (S:=FF) r.bz (iv:=(wa.heap.size,wb.heap.size)::[]) aG;generalize (wa.heap.size,wb.heap.size)::[]=iv at*
 obtain⟨b,a,m,c,rfl⟩:=hI.shape;intro GT we re;exact⟨_,rfl,hb.tr re.cL,hI.out re (bw w)⟩
def jg(z:Int):Value:=if z.natAbs<1073741824 then .tuple #[.int .i64 z,.bool true]else .tuple #[.int .i64 0,.bool false]
theorem j5.FC{v:Value}(h:j5 w S v z):∃b a ls c,v= .agg #[.bool b,.slice a ls.length c]/\cz w S (.slice a ls.length c) ls/\sg b (val ls)=z:=by
 obtain⟨b,ls,⟨lv,I,X⟩,N⟩:=h;obtain⟨a,c,rfl,_⟩:=X.sl;exact⟨b,a,ls,c,I,X,N⟩
theorem M9{x:Nat}(h:ls[i]? =some x):wt i*x<=val ls:=by
 have D:=(aD.1 h).1;have I:=eX ls (i+1) D;rw[dJ h]at I;omega
theorem aAL(h:0<i):4294967296<=wt i:=by
 obtain⟨k,rfl⟩:∃k,i=k+1:=⟨i-1,by omega⟩
 have:=uo k;rw[il];omega
theorem nM{v:Value}(F:Old S w)(hI:j5 w S v z):
  dx PG F'.wX #[v] w (eH w fun v' _=>v'=jg z):=by
 obtain⟨b,a,ls,c,rfl,hL,hz⟩:=hI.FC;refine zd (by simp) ?_;have hlen:=hL.le
 refine⟨Nat×World,fun y=>⟨[(1,pP 0 0),(4,.o (.v (.int .i64 (val (ls.take y.1))))),(5,iZ y.1)],[(0,.box T.Int [.v (.bool b),.v (.slice a ls.length c)])],1,[],y.2⟩,fun y=>ls.length-y.1,
  fun y=>y.1<=ls.length/\dT w.heap.size w y.2/\val (ls.take y.1)<1073741824/\(∀j,0<j->j<y.1->ls[j]? =some 0),?_,?_⟩
 ·intro O J r;exact⟨(0,J),⟨by simp,r.cL,by simp[val],by omega⟩,Sub.gn [] r⟩
 rintro⟨i,w1⟩ ⟨D,Y,hv,h0⟩;dsimp only at D Y hv h0 ⊢;refine dB.mk ?_ ?_<;>intro OQ
 ·have OQ:i<ls.length:=by simpa using OQ
  obtain⟨a',c',e,_,Oz⟩:=hL.sl;injection e with e1 e2 e3;subst e1 e3;obtain⟨x,L⟩:∃x,ls[i]? =some x:=⟨_,aB OQ⟩
  have QG:=hL.lm x (aE L);obtain⟨ad,rfl,q1,q2⟩:=Oz i x L;have Sf:∀{H nx iv O J},Rel H nx iv w.heap.size w1 O J->J.cell? (ad.add ((i:Int).toNat*1))=some (.int .u32 x):=fun r=>by
   rw[aF,aY];exact jl F Y r q1 q2
  have Ub:=M9 L;refine dB.mk ?_ ?_<;>intro hp
  ·have hp:0<i:=by
    have:(i:Int)>0:=aK hp;omega
   have hw1:=aAL hp;refine⟨ad,rfl,by omega,.int .u32 x,fun O J r=>Sf r,?_⟩;refine dB.mk ?_ ?_<;>intro OS
   ·have OS:x≠0:=by simpa using OS
    intro GT we re;refine⟨_,rfl,Y.tr re.cL,?_⟩;have:¬z.natAbs<1073741824:=by
     have:=Nat.mul_le_mul hw1 (show 1<=x by omega);rw[<-hz,se];omega
    show _=jg z;rw[jg,aI this];rfl
   ·have OS:x=0:=by simpa using OS
    subst OS;refine⟨ad,rfl,by omega,.int .u32 0,fun O J r=>Sf r,?_⟩;have QU:val (ls.take (i+1))=val (ls.take i):=by rw[dJ L];omega
    have RJ:val (ls.take (i+1))<1073741824:=by rw[QU];exact hv
    have h02:∀j,0<j->j<i+1->ls[j]? =some 0:=fun j I X=>by
     rcases aP j i with N|N
     ·exact h0 j I N
     ·have:j=i:=by omega
      rw[this];exact L
    refine⟨ad,rfl,by omega,.int .u32 0,fun O J r=>Sf r,((0:Nat):Int),by decide,((val (ls.take (i+1)):Nat):Int),by rw[QU,wrap64]<;>omega,((i+1:Nat):Int),wo,?_⟩;intro IR w3 K;exact⟨(i+1,w3),⟨OQ,Y.tr K.cL,RJ,h02⟩,Sub.gn [] K,by dsimp only;omega⟩
  ·have hp:i=0:=by
    have:¬((i:Int)>0):=aH hp;omega
   subst hp;refine⟨ad,rfl,by omega,.int .u32 x,fun O J r=>Sf r,?_⟩;refine dB.mk ?_ ?_<;>intro WM
   ·have WM:=aK WM;intro GT we re;refine⟨_,rfl,Y.tr re.cL,?_⟩;have:¬z.natAbs<1073741824:=by
     rw[<-hz,se];rw[jM]at Ub;omega
    show _=jg z;rw[jg,aI this];rfl
   ·have WM:=aH WM;have QU:val (ls.take (0+1))=x:=by rw[dJ L];simp[val,jM]
    have RJ:val (ls.take (0+1))<1073741824:=by rw[QU];omega
    have h02:∀j,0<j->j<0+1->ls[j]? =some 0:=fun j I X=>by
     omega
    refine⟨ad,rfl,by omega,.int .u32 x,fun O J r=>Sf r,((x:Nat):Int),wo,((val (ls.take (0+1)):Nat):Int),by rw[QU,wrap64]<;>simp[val]<;>omega,((0+1:Nat):Int),wo,?_⟩;intro IR w3 K;exact⟨(0+1,w3),⟨OQ,Y.tr K.cL,RJ,h02⟩,Sub.gn [] K,by dsimp only;omega⟩
 ·have OQ:i=ls.length:=by
   have:¬i<ls.length:=by simpa using OQ
   omega
  subst OQ;rw[bH]at hv ⊢;have Ou:z.natAbs<1073741824:=by rw[<-hz,se];exact hv
  cases b with
  |true=>
   refine⟨-(val ls:Int),wo,?_⟩;intro GT we re;refine⟨_,rfl,Y.tr re.cL,?_⟩;show _=jg z;rw[jg,if_pos Ou,<-hz,Ku];rfl
  |false=>
   intro GT we re;refine⟨_,rfl,Y.tr re.cL,?_⟩;show _=jg z;rw[jg,if_pos Ou,<-hz,Nj];rfl
theorem Br{a b:Int}(hb:b≠0):a.tdiv (b.sign*(Nat.gcd a.natAbs b.natAbs:Nat))=(Rat.divInt a b).num/\b.tdiv (b.sign*(Nat.gcd a.natAbs b.natAbs:Nat))=((Rat.divInt a b).den:Int):=by
 have G:0<Nat.gcd a.natAbs b.natAbs:=bl _ (by omega);obtain⟨k,R⟩:((Nat.gcd a.natAbs b.natAbs:Nat):Int) ∣ a:=by rw[<-Int.natAbs_dvd_natAbs];exact Nat.gcd_dvd_left _ _
 obtain⟨l,hl⟩:((Nat.gcd a.natAbs b.natAbs:Nat):Int) ∣ b:=by rw[<-Int.natAbs_dvd_natAbs];exact Nat.gcd_dvd_right _ _
 have hc:(b.gcd a:Int)=(Nat.gcd a.natAbs b.natAbs:Nat):=by rw[Int.gcd_comm];rfl
 have UT:b.gcd a=Nat.gcd a.natAbs b.natAbs:=by rw[Int.gcd_comm];rfl
 rw[Rat.num_divInt,Rat.den_divInt,aI hb,hc,UT];generalize Nat.gcd a.natAbs b.natAbs=g at*
 have Vo:(g:Int)≠0:=by omega
 have hs:b.sign*b.sign=1:=by
  rcases Int.lt_or_gt_of_ne hb with h|h
  ·rw[bg h];rfl
  ·rw[bh h];rfl
 have hs0:b.sign≠0:=fun e=>by rw[e]at hs;simp at hs
 have OS:b.sign*g≠0:=Int.mul_ne_zero hs0 Vo;have QM:((b.natAbs / g:Nat):Int)=b.sign*l:=by
  rw[Int.natCast_ediv,show((b.natAbs:Nat):Int)=b.sign*b by
   rcases Int.lt_or_gt_of_ne hb with h|h
   ·rw[bg h];omega
   ·rw[bh h];omega]
  conv=>lhs;lhs;rhs;rw[hl]
  rw[show b.sign*(↑g*l)= ↑g*(b.sign*l) by rw[<-Int.mul_assoc,<-Int.mul_assoc,Int.mul_comm b.sign]];exact Int.mul_ediv_cancel_left _ Vo
 constructor
 ·rw[show b.sign*a / (g:Int)=b.sign*k by
   conv=>lhs;lhs;rhs;rw[R]
   rw[show b.sign*(↑g*k)= ↑g*(b.sign*k) by rw[<-Int.mul_assoc,<-Int.mul_assoc,Int.mul_comm b.sign]]
   exact Int.mul_ediv_cancel_left _ Vo]
  conv=>lhs;lhs;rw[R,show(g:Int)*k=(b.sign*g)*(b.sign*k) by
   rw[show (b.sign* ↑g)*(b.sign*k)=(b.sign*b.sign)*(↑g*k) by simp only[Int.mul_assoc,Int.mul_comm,Int.mul_left_comm],hs,Int.one_mul]]
  exact Int.mul_tdiv_cancel_left _ OS
 ·rw[QM]
  conv=>lhs;lhs;rw[hl,show(g:Int)*l=(b.sign*g)*(b.sign*l) by
   rw[show (b.sign* ↑g)*(b.sign*l)=(b.sign*b.sign)*(↑g*l) by simp only[Int.mul_assoc,Int.mul_comm,Int.mul_left_comm],hs,Int.one_mul]]
  exact Int.mul_tdiv_cancel_left _ OS
theorem qw(a b:Int)(w:World)(ha:a.natAbs<4611686018427387904)(hb:b.natAbs<4611686018427387904)(hb0:b≠0):
  dx PG F'.td #[.int .i64 a,.int .i64 b] w (eH w fun v V=>cN V (Nf w V) v (Rat.divInt a b)):=by
 refine xH (by simp) ?_;refine⟨-a,wo,-b,wo,?_⟩;conv=>whnf
 rw[show max a (-a)=(a.natAbs:Int) by omega,show max b (-b)=(b.natAbs:Int) by omega]
 refine⟨Nat×Nat×World,fun z=>⟨[(0,iZ a),(1,iZ b),(4,pP 0 0),(5,iZ z.1),(6,iZ z.2.1)],[(0,.box T.Rat [.v (.bool false),.v (.slice none 0 0),.v (.bool false),.v (.slice none 0 0)])],1,[],z.2.2⟩,fun z=>z.2.1,
  fun z=>dT w.heap.size w z.2.2/\Nat.gcd z.1 z.2.1=Nat.gcd a.natAbs b.natAbs/\z.1<4611686018427387904/\z.2.1<4611686018427387904,?_,?_⟩
 ·intro O J r;exact⟨(a.natAbs,b.natAbs,J),⟨r.cL,rfl,ha,hb⟩,Sub.gn [] r⟩
 rintro⟨x,y,w1⟩ ⟨Y,G,L,hy⟩;dsimp only at Y G L hy ⊢;conv=>whnf
 refine dB.mk ?_ ?_<;>intro h
 ·have h:0<y:=by
   have:(y:Int)>0:=aK h;omega
  refine cI hτ dN [.x 0,.x 1,.x 2,.x 3,.x 4,.x 5] (by kernel_rfl) (by kernel_rfl) ?_;have hm:=bq x h;refine⟨by omega,((x % y:Nat):Int),rfl,?_⟩;intro IR w3 K;exact⟨(y,x % y,w3),⟨Y.tr K.cL,by dsimp only;rw[<-G,Nat.gcd_comm x y,Nat.gcd_rec y x,Nat.gcd_comm],hy,by dsimp only;omega⟩,Sub.gn [] K,by dsimp only;omega⟩
 have h:y=0:=by
  have:¬(y:Int)>0:=aH h;omega
 subst h;rw[Nat.gcd_zero_right]at G;have Ri:x≠0:=by rw[G];exact Nat.pos_iff_ne_zero.1 (bl _ (by omega))
 obtain⟨Z,hd⟩:=Br (a:=a) hb0;rw[<-G]at Z hd;have bn:(Rat.divInt a b).num.natAbs<=a.natAbs:=by rw[<-Z];exact Int.natAbs_tdiv_le_natAbs _ _
 have bd:((Rat.divInt a b).den:Int).natAbs<=b.natAbs:=by rw[<-hd];exact Int.natAbs_tdiv_le_natAbs _ _
 refine dB.mk ?_ ?_<;>intro Oa
 ·have Oa:=aK Oa;rw[bg Oa,Int.neg_one_mul]at Z hd;refine⟨-(x:Int),wo,?_⟩;refine cI hτ dN [.x 0,.x 1,.x 2,.x 4,.x 5,.x 6,.x 3,.x 7,.x 8,.x 9] (by kernel_rfl) (by kernel_rfl) ?_;refine⟨by omega,(Rat.divInt a b).num,by rw[Z,wrap64]<;>omega,by omega,((Rat.divInt a b).den:Int),by rw[hd,wrap64]<;>omega,?_⟩;refine cG (Id:=fun _ J v V=>cu V (Nf J V) v (Rat.divInt a b).num) (fun O J r=>oe _ J (by omega) (by omega)) ?_;rintro O wa v1 wb r W Og hI;replace Y:=Y.tr Og;have hN:=hI.dD (S:=FF) r.bz (iv:=(wa.heap.size,wb.heap.size)::[]) aG;generalize (wa.heap.size,wb.heap.size)::[]=iv at*
  obtain⟨b1,a1,m1,c1,rfl⟩:=hN.shape;refine cG (Id:=fun _ J v V=>cu V (Nf J V) v ((Rat.divInt a b).den:Int)) (fun O J r=>oe _ J (by omega) (by omega)) ?_;rintro O wa v1 PT r W Og hI;replace Y:=Y.tr Og;replace hN:=hN.cD (E:=(wa.heap.size,PT.heap.size)::iv) r (bw w) W fun x L=>aC _ L;have hD:=hI.dD (S:=FF) r.bz (iv:=(wa.heap.size,PT.heap.size)::iv) aG;generalize (wa.heap.size,PT.heap.size)::iv=OU at*
  obtain⟨b2,a2,m2,c2,rfl⟩:=hD.shape;exact rtn Y fun GT we re=>(cN.of hN hD).out re (bw w)
 ·have Oa:=aH Oa;rw[bh (by omega),Int.one_mul]at Z hd;refine cI hτ dN [.x 0,.x 1,.x 2,.x 4,.x 5,.x 6,.x 3,.x 7,.x 8,.x 9] (by kernel_rfl) (by kernel_rfl) ?_;refine⟨by omega,(Rat.divInt a b).num,by rw[Z,wrap64]<;>omega,by omega,((Rat.divInt a b).den:Int),by rw[hd,wrap64]<;>omega,?_⟩;refine cG (Id:=fun _ J v V=>cu V (Nf J V) v (Rat.divInt a b).num) (fun O J r=>oe _ J (by omega) (by omega)) ?_;rintro O wa v1 wb r W Og hI;replace Y:=Y.tr Og;have hN:=hI.dD (S:=FF) r.bz (iv:=(wa.heap.size,wb.heap.size)::[]) aG;generalize (wa.heap.size,wb.heap.size)::[]=iv at*
  obtain⟨b1,a1,m1,c1,rfl⟩:=hN.shape;refine cG (Id:=fun _ J v V=>cu V (Nf J V) v ((Rat.divInt a b).den:Int)) (fun O J r=>oe _ J (by omega) (by omega)) ?_;rintro O wa v1 PT r W Og hI;replace Y:=Y.tr Og;replace hN:=hN.cD (E:=(wa.heap.size,PT.heap.size)::iv) r (bw w) W fun x L=>aC _ L;have hD:=hI.dD (S:=FF) r.bz (iv:=(wa.heap.size,PT.heap.size)::iv) aG;generalize (wa.heap.size,PT.heap.size)::iv=OU at*
  obtain⟨b2,a2,m2,c2,rfl⟩:=hD.shape;exact rtn Y fun GT we re=>(cN.of hN hD).out re (bw w)
theorem uY(h:z.natAbs<1073741824):jg z= .tuple #[.int .i64 z,.bool true]:=if_pos h
theorem DJ{v:Value}{x y:Int}(F:Old S w)(L:j5 w S v x)(hy:j5 w S u y)(hxs:x.natAbs<1073741824)(hys:y.natAbs<1073741824)(Ph:y≠0):
  dx PG F'.sR #[v,u] w (eH w fun v' V=>cN V (Nf w V) v' (Rat.divInt x y)):=by
 have Y:=bR w;replace L:=L.cF (S':=Cv S w.heap.size []) fun _ h=>.inl h;replace hy:=hy.cF (S':=Cv S w.heap.size []) fun _ h=>.inl h;obtain⟨bx,ax,lx,cx,rfl⟩:=L.shape;obtain⟨b2,ay,ly,cy,rfl⟩:=hy.shape;refine rV (by simp) ?_;refine cB (cE Y (fun _ J v V=>v= .tuple #[.int .i64 x,.bool true]) (fun O J r=>(nM (Rel.old r F) (L.rel r F)).mono fun e V ⟨v2,e1,e2,e3⟩=>⟨v2,e1,e2,by rw[e3,uY hxs]⟩) ?_);rintro O PQ v1 PE OZ r W Y h_ rfl;replace L:=L.cD r F W (mC h_);replace hy:=hy.cD r F W (mC h_);refine cB (cE Y (fun _ J v V=>v= .tuple #[.int .i64 y,.bool true]) (fun O J r=>(nM (Rel.old r F) (hy.rel r F)).mono fun e V ⟨v2,e1,e2,e3⟩=>⟨v2,e1,e2,by rw[e3,uY hys]⟩) ?_);rintro O _ v1 _ OU r W Y h_ rfl;refine cB (cE Y (fun _ J v V=>cN V (Nf J V) v (Rat.divInt x y)) (fun O J r=>qw x y J (by omega) (by omega) Ph) ?_);rintro O _ _ _ iv r W Y h_ hI;have hR:=hI.dD (S:=FF) r.bz (mN h_);obtain⟨b1,a1,m1,c1,b3,a3,m3,c3,rfl⟩:=hR.shape;exact rtn Y fun GT we re=>hR.out re (bw w)
theorem Gj(n:Int):Rat.divInt n 1=(n:Rat):=by
 have:=Rat.num_divInt_den (n:Rat);rw[Rat.num_intCast,Rat.den_intCast]at this;exact this
theorem uV(n:Int)(w:World)(Z:n.natAbs<1073741824):
  dx PG F'.wK #[.int .i64 n] w (eH w fun v' V=>cN V (Nf w V) v' (n:Rat)):=by
 have Y:=bR w;refine zT (by simp) ?_;refine cB (cG (Id:=fun _ J v V=>cu V (Nf J V) v n) (fun O J r=>oe _ J (by omega) (by omega)) ?_);rintro O wa v1 wb r W Og hI;replace Y:=Y.tr Og;have hN:=hI.dD (S:=FF) r.bz (iv:=(wa.heap.size,wb.heap.size)::[]) aG;generalize (wa.heap.size,wb.heap.size)::[]=iv at*
 obtain⟨b1,a1,m1,c1,rfl⟩:=hN.shape;refine cB (cG (Id:=fun _ J v V=>cu V (Nf J V) v 1) (fun O J r=>oe _ J (by omega) (by omega)) ?_);rintro O wa v1 PT r W Og hI;replace Y:=Y.tr Og;replace hN:=hN.cD (E:=(wa.heap.size,PT.heap.size)::iv) r (bw w) W fun x L=>aC _ L;have hD:=hI.dD (S:=FF) r.bz (iv:=(wa.heap.size,PT.heap.size)::iv) aG;generalize (wa.heap.size,PT.heap.size)::iv=OU at*
 obtain⟨b2,a2,m2,c2,rfl⟩:=hD.shape;refine cB (cE Y (fun _ J v V=>cN V (Nf J V) v (Rat.divInt n 1)) (fun O J r=>DJ (Rel.old r (bw w)) (hN.rel r (bw w)).r (hD.rel r (bw w)).r Z (by decide) (by decide)) ?_);rintro O _ _ _ iv r W Y h_ hI;have hR:=hI.dD (S:=FF) r.bz (mN h_);obtain⟨b1,a1,m1,c1,b3,a3,m3,c3,rfl⟩:=hR.shape;rw[Gj]at hR;exact rtn Y fun GT we re=>hR.out re (bw w)
theorem Ma{v:Value}{n1 n2:Bool}{ms:List Nat}(F:Old S w)(L:uR w S v n1 ls)(hy:uR w S u n2 ms):
  dx PG F'.mc #[v,u] w (eH w fun v' _=>v'= .bool (decide (n1=n2/\ls=ms))):=by
 obtain⟨lv,rfl,I⟩:=L;obtain⟨mv,rfl,X⟩:=hy;obtain⟨a,c,rfl,_,ha⟩:=I.sl;obtain⟨b,e,rfl,_,hb⟩:=X.sl;have hle1:=I.le;have VK:=X.le;have Y:=bR w;refine vL (by simp) ?_;refine dB.mk ?_ ?_<;>intro Z
 ·have Z:n1≠n2:=fun h=>by rw[h]at Z;simp at Z
  intro O V r;exact⟨_,rfl,r.cL,by rw[bE (fun h=>Z h.1)];rfl⟩
 have Z:n1=n2:=by simpa using Z
 subst Z;refine dB.mk ?_ ?_<;>intro h
 ·have h:ls.length≠ms.length:=fun W=>by rw[W]at h;simp at h
  intro O V r;exact⟨_,rfl,r.cL,by rw[bE (fun e=>h (by rw[e.2]))];rfl⟩
 have h:ls.length=ms.length:=by
  have:(ls.length:Int)=ms.length:=by simpa using h
  omega
 refine⟨Nat×World,fun z=>⟨[(2,pP 0 0),(3,pP 1 0),(5,iZ z.1)],[(1,.box T.Int [.v (.bool n1),.v (.slice b ms.length e)]),(0,.box T.Int [.v (.bool n1),.v (.slice a ls.length c)])],2,[],z.2⟩,fun z=>ls.length-z.1,
  fun z=>z.1<=ls.length/\dT w.heap.size w z.2/\ls.take z.1=ms.take z.1,?_,?_⟩
 ·intro O J r;exact⟨(0,J),⟨by simp,r.cL,by simp⟩,Sub.gn [] r⟩
 rintro⟨i,w1⟩ ⟨D,Y,ht⟩;dsimp only at D Y ht ⊢;refine dB.mk ?_ ?_<;>intro OQ
 ·have OQ:i<ls.length:=by simpa using OQ
  obtain⟨x,L⟩:∃x,ls[i]? =some x:=⟨_,aB OQ⟩
  obtain⟨y,hy⟩:∃x,ms[i]? =some x:=⟨_,aB (by omega)⟩
  obtain⟨ad,rfl,q1,q2⟩:=ha i x L;obtain⟨ad2,rfl,q3,q4⟩:=hb i y hy;have Pt:∀{H nx iv O J},Rel H nx iv w.heap.size w1 O J->J.cell? (ad.add ((i:Int).toNat*1))=some (.int .u32 x):=fun r=>by
   rw[aF,aY];exact jl F Y r q1 q2
  have Q3:∀{H nx iv O J},Rel H nx iv w.heap.size w1 O J->J.cell? (ad2.add ((i:Int).toNat*1))=some (.int .u32 y):=fun r=>by
   rw[aF,aY];exact jl F Y r q3 q4
  refine cI hτ dN [.x 0,.x 1,.x 2,.x 3,.x 4,.x 5,.x 6,.x 7,.x 8,.x 9,.x 10] (by kernel_rfl) (by kernel_rfl) ?_;refine⟨ad,rfl,by omega,.int .u32 x,fun O J r=>Pt r,ad2,rfl,by omega,.int .u32 y,fun O J r=>Q3 r,?_⟩;refine dB.mk ?_ ?_<;>intro OS
  ·have OS:x≠y:=fun h=>by rw[h]at OS;simp at OS
   intro O V r;refine⟨_,rfl,Y.tr r.cL,?_⟩
   rw[bE (fun e=>OS (by
    have:=e.2;rw[this,hy]at L;injection L with L
    exact L.symm))]
   rfl
  have OS:x=y:=by
   have:(x:Int)=y:=by simpa using OS
   omega
  subst OS;have TL:ls.take (i+1)=ms.take (i+1):=by rw[List.take_add_one,List.take_add_one,ht,L,hy]
  refine⟨((i+1:Nat):Int),wo,?_⟩;intro IR w3 K;exact⟨(i+1,w3),⟨OQ,Y.tr K.cL,TL⟩,Sub.gn [] K,by dsimp only;omega⟩
 have OQ:i=ls.length:=by
  have:¬i<ls.length:=by simpa using OQ
  omega
 subst OQ;rw[bH,h,bH]at ht;intro O V r;exact⟨_,rfl,Y.tr r.cL,by rw[bU ⟨rfl,ht⟩];rfl⟩
theorem JA{a:List Nat}(la:Lm a)(lb:Lm b)(na:Nz a)(nb:Nz b)(h:val a=val b):a=b:=by
 have:a.length=b.length:=by
  rcases bp a.length b.length with I|I|I
  ·have:=im la nb I;omega
  ·exact I
  ·have:=im lb na I;omega
 exact val_inj la lb this h
theorem Bt{v:Value}{x y:Int}(F:Old S w)(L:cu w S v x)(hy:cu w S u y):
  dx PG F'.mc #[v,u] w (eH w fun v' _=>v'= .bool (decide (x=y))):=by
 obtain⟨ls,I,X,N⟩:=L;obtain⟨ms,k1,k2,k3⟩:=hy;have e:decide (decide (x<0)=decide (y<0)/\ls=ms)=decide (x=y):=by
  refine decide_eq_decide.2 ⟨fun ⟨e1,e2⟩=>?_,fun e1=>?_⟩
  ·have e1:=decide_eq_decide.1 e1;rw[e2]at N;omega
  ·subst e1;obtain⟨_,_,l1⟩:=I;obtain⟨_,_,l2⟩:=k1;exact⟨rfl,JA l1.lm l2.lm X k2 (by omega)⟩
 exact(Ma F I k1).mono fun _ V ⟨v2,e1,e2,e3⟩=>⟨v2,e1,e2,by rw[e3,e]⟩
theorem LG{v:Value}{p:Rat}(F:Old S w)(L:cN w S v p)(hy:cN w S u q):
  dx PG F'.zI #[v,u] w (eH w fun v' _=>v'= .bool (decide (p=q))):=by
 obtain⟨b1,a1,n1,c1,b2,a2,n2,c2,rfl⟩:=L.shape;obtain⟨b3,a3,n3,c3,b4,a4,n4,c4,rfl⟩:=hy.shape;refine AZ (by simp) ?_;refine cB (cG (Id:=fun _ J v V=>v= .bool (decide (p.num=q.num))) (fun O J r=>Bt (oS F r) (L.num.cC fun g G=>r.cL.block g (F g G)) (hy.num.cC fun g G=>r.cL.block g (F g G))) ?_);rintro O wa v1 wb r W hb rfl;have Y:=hb;generalize (wa.heap.size,wb.heap.size)::[]=iv at*
 refine dB.mk ?_ ?_<;>intro h
 ·have h:=aK h;refine cB (cE Y (fun _ J v V=>v= .bool (decide ((p.den:Int)=q.den))) (fun O J r=>Bt (oS F r) (L.den.cC (kS Y r F)) (hy.den.cC (kS Y r F))) ?_);rintro O _ _ _ OU r W Y h_ rfl;intro GT we re;refine⟨_,rfl,Y.tr re.cL,?_⟩;have:decide (p=q)=decide ((p.den:Int)=q.den):=decide_eq_decide.2 ⟨fun e=>by rw[e],fun e=>Rat.ext h (by omega)⟩;rw[this];rfl
 ·have h:=aH h;intro GT we re;refine⟨_,rfl,Y.tr re.cL,?_⟩;rw[bE (fun e=>h (by rw[e]))];rfl
theorem cN.four{b b2:Bool}{n c n2 c2:Nat}(h:cN w S (.agg #[.bool b,.slice a n c,.bool b2,.slice a2 n2 c2]) q):ve w S [.bool b,.slice a n c,.bool b2,.slice a2 n2 c2] (q.num,(q.den:Int)):=
 ⟨b,a,n,c,b2,a2,n2,c2,rfl,h.r⟩
theorem cN.uK{b b2:Bool}{n c n2 c2:Nat}(h:cN w S (.agg #[.bool b,.slice a n c,.bool b2,.slice a2 n2 c2]) q):jA w S [.bool b,.slice a n c,.bool b2,.slice a2 n2 c2] q:=
 ⟨b,a,n,c,b2,a2,n2,c2,rfl,h⟩
theorem Rel.lt(r:Rel H nx iv B w O J){id t:Nat}{U:List At}(h:cV H id=some (.box t U)):(O id).g<J.heap.size:=(r.low id _ h (r.nn id _ h (by intros;simp) (by simp))).2
end Go.Ex
namespace Go.Ex
variable{U:List Int}{ls:List Nat}{i:Nat}{f:Nat->Int}
def fX(f:Nat->Int):Nat->Int
 |0=>0
 |n+1=>f 0+65536*fX (fun i=>f (i+1)) n
theorem zF(f:Nat->Int)(n:Nat):dC ((List.range n).map f)=fX f n:=by
 induction n generalizing f with
 |zero=>rfl
 |succ n ih=>
  rw[List.range_succ_eq_map,List.map_cons,List.map_map,dC,fX,<-ih];rfl
theorem zG(f g:Nat->Int)(n:Nat):fX (fun i=>f i+g i) n=fX f n+fX g n:=by
 induction n generalizing f g with
 |zero=>rfl
 |succ n ih=>simp only[fX,ih];omega
theorem GD(k:Int)(f:Nat->Int)(n:Nat):fX (fun i=>k*f i) n=k*fX f n:=by
 induction n generalizing f with
 |zero=>simp[fX]
 |succ n ih=>simp only[fX,ih,Int.mul_add];rw[Int.mul_left_comm]
theorem wI{n:Nat}(h:∀i,i<n->f i=0):fX f n=0:=by
 induction n generalizing f with
 |zero=>rfl
 |succ n ih=>rw[fX,h 0 (by omega),ih fun i D=>h (i+1) (by omega)];rfl
theorem pT(a:List Int)(n:Nat)(h:a.length<=n):fX (fun i=>a.getD i 0) n=dC a:=by
 induction a generalizing n with
 |nil=>exact wI fun i _=>by simp
 |cons c r ih=>
  obtain⟨m,rfl⟩:∃m,n=m+1:=⟨n-1,by simp at h;omega⟩
  have e:=ih m (by simpa using h);rw[fX,dC,<-e];simp[List.getD]
def iQ(a b:List Int)(i:Nat):Nat->Int
 |0=>0
 |k+1=>iQ a b i k+a.getD k 0*(if k<=i then b.getD (i-k) 0 else 0)
def fw(a b:List Int)(i:Nat):Int:=iQ a b i (i+1)
theorem I5(b:List Int)(i k:Nat):iQ [] b i k=0:=by
 induction k with
 |zero=>rfl
 |succ k ih=>rw[iQ,ih];simp
theorem GF(c:Int)(r b:List Int)(i k:Nat):iQ (c::r) b (i+1) (k+1)=c*b.getD (i+1) 0+iQ r b i k:=by
 induction k with
 |zero=>simp[iQ]
 |succ k ih=>
  rw[iQ,ih,iQ];have e:(c::r).getD (k+1) 0=r.getD k 0:=by simp[List.getD]
  rw[e];have e2:(if k+1<=i+1 then b.getD (i+1-(k+1)) 0 else 0)=(if k<=i then b.getD (i-k) 0 else 0):=by
   by_cases h:k<=i
   ·rw[if_pos h,if_pos (by omega),show i+1-(k+1)=i-k by omega]
   ·rw[aI h,aI (by omega)]
  rw[e2,Int.add_assoc]
theorem ES(c:Int)(r b:List Int)(i:Nat):fw (c::r) b (i+1)=c*b.getD (i+1) 0+fw r b i:=GF c r b i (i+1)
theorem ET(c:Int)(r b:List Int):fw (c::r) b 0=c*b.getD 0 0:=by simp[fw,iQ]
theorem KV(a b:List Int)(n:Nat)(h:a.length+b.length<=n+1):fX (fw a b) n=dC a*dC b:=by
 induction a generalizing n with
 |nil=>
  rw[show fw [] b=fun _=>(0:Int)from funext fun i=>I5 b i _,wI fun _ _=>rfl];simp[dC]
 |cons c r ih=>
  cases n with
  |zero=>
   have hb:b=[]:=List.eq_nil_of_length_eq_zero (by simp at h;omega);subst hb;simp[fX,dC]
  |succ m=>
   have e1:fX (fw (c::r) b) (m+1)=fX (fun i=>c*b.getD i 0) (m+1)+65536*fX (fw r b) m:=by
    have e2:fX (fun i=>fw (c::r) b (i+1)) m=fX (fun i=>c*b.getD (i+1) 0) m+fX (fw r b) m:=by
     rw[<-zG];congr 1
     funext i
     exact ES c r b i
    rw[fX,fX,e2,ET,Int.mul_add];omega
   have h':r.length+b.length<=m+1:=by simp at h;omega
   rw[e1,ih m h',GD,pT b (m+1) (by omega),dC,Int.add_mul,Int.mul_assoc]
theorem GG(a b:List Int)(i k k0:Nat)(h0:∀j,j<k0->b.length<=i-j)(R:k0<=i+1)(h:k<=k0):iQ a b i k=0:=by
 induction k with
 |zero=>rfl
 |succ k ih=>
  rw[iQ,ih (by omega),if_pos (by omega)];have:b.getD (i-k) 0=0:=by rw[List.getD,List.getElem?_eq_none (h0 k (by omega))];rfl
  rw[this];simp
theorem GH(a b:List Int)(i k m:Nat)(h:a.length<=k):iQ a b i (k+m)=iQ a b i k:=by
 induction m with
 |zero=>rfl
 |succ m ih=>
  rw[<-Nat.add_assoc,iQ,ih];have:a.getD (k+m) 0=0:=by rw[List.getD,List.getElem?_eq_none (by omega)];rfl
  rw[this];simp
theorem mA{a b:List Int}(ha:∀x∈a,-65535<=x/\x<=65535)(hb:∀x∈b,-65535<=x/\x<=65535)(k:Nat):(iQ a b i k).natAbs<=4294836225*k:=by
 have key:∀(l:List Int) (j:Nat),(∀x∈l,-65535<=x/\x<=65535)->(l.getD j 0).natAbs<=65535:=fun l j h=>by
  rw[List.getD]
  cases hj:l[j]? with
  |none=>simp
  |some d=>have:=h d (aE hj);simp;omega
 induction k with
 |zero=>simp[iQ]
 |succ k ih=>
  rw[iQ];have I:=key a k ha;have X:(if k<=i then b.getD (i-k) 0 else 0).natAbs<=65535:=by
   split
   ·exact key b _ hb
   ·simp
  have N:=Nat.mul_le_mul I X;rw[<-Int.natAbs_mul]at N;generalize a.getD k 0*(if k<=i then b.getD (i-k) 0 else 0)=p at*
  omega
def dV(s:Int):List Nat->List Int
 |[]=>[]
 |l::r=>s*((l % 65536:Nat):Int)::s*((l / 65536:Nat):Int)::dV s r
theorem CR(s:Int)(ls:List Nat):dC (dV s ls)=s*(val ls:Int):=by
 induction ls with
 |nil=>simp[dV,dC,val]
 |cons l r ih=>
  rw[dV,dC,dC,ih,val];have e1:((l+4294967296*val r:Nat):Int)=((l % 65536:Nat):Int)+65536*((l / 65536:Nat):Int)+4294967296*((val r:Nat):Int):=by omega
  rw[e1,Int.mul_add,Int.mul_add,Int.mul_add];rw[Int.mul_left_comm 65536 s,Int.mul_left_comm s 65536,Int.mul_left_comm s 4294967296];omega
theorem o6(s:Int)(a b:List Nat):dV s (a++b)=dV s a++dV s b:=by
 induction a with
 |nil=>rfl
 |cons l r ih=>simp[dV,ih]
theorem iG(s:Int)(ls:List Nat):(dV s ls).length=2*ls.length:=by
 induction ls with
 |nil=>rfl
 |cons l r ih=>simp[dV,ih];omega
theorem zH{s:Int}(hs:s=1\/s= -1)(h:Lm ls):∀c∈dV s ls,-65535<=c/\c<=65535:=by
 induction ls with
 |nil=>intro c hc;cases hc
 |cons l r ih=>
  have hl:=h l aG;intro c hc;rw[dV]at hc;rcases List.mem_cons.1 hc with rfl|hc
  ·rcases hs with rfl|rfl<;>omega
  rcases List.mem_cons.1 hc with rfl|hc
  ·rcases hs with rfl|rfl<;>omega
  ·exact ih (fun x L=>h x (aC _ L)) c hc
theorem wx(h:Lm ls):∀c∈dV 1 ls,0<=c/\c<=65535:=fun c hc=>by
 induction ls with
 |nil=>cases hc
 |cons l r ih=>
  have hl:=h l aG;rw[dV]at hc;rcases List.mem_cons.1 hc with rfl|hc
  ·omega
  rcases List.mem_cons.1 hc with rfl|hc
  ·omega
  ·exact ih (fun x L=>h x (aC _ L)) hc
theorem EU{c:Int}(h:U[i]? =some c):dC (U.drop i)=c+65536*dC (U.drop (i+1)):=by
 rw[List.drop_eq_getElem_cons (aD.1 h).1,dC];have:=(aD.1 h).2;rw[this]
end Go.Ex
namespace Go.Ex
open Go Go.Sx Go.Proofs
variable{x1 x2 y1 y2:Int}{ls:List Nat}{S:Nat->Prop}{p q:Rat}{u:Value}{w:World}
theorem LM{k:Nat}(h:Lm ls)(hl:ls.length<=k):ln (val ls)<=k:=gD.2 (Nat.lt_of_lt_of_le (nY h) (BI hl))
theorem Cv.false{B:Nat}{iv:Iv}{g:Nat}(h:Cv FF B iv g):Cv S B iv g:=h.elim (fun h=>h.elim) .inr
theorem LN{v:Value}(F:Old S w)(L:iD w S v x1 x2)(hy:iD w S u y1 y2)(hl0:ln x1.natAbs<=100000)(QT:ln x2.natAbs<=100000)(Ps:ln y1.natAbs<=100000)(QH:ln y2.natAbs<=100000):
  dx PG F'.vG #[v,u] w (eH w fun v' V=>cN V (Nf w V) v' ((ratio x1 x2)+(ratio y1 y2))):=by
 have Y:=bR w;have r1:=gY x1 x2;have r2:=gY y1 y2;have K:=lA (ratio x1 x2) (ratio y1 y2);have r4:=hJ (ratio x1 x2) (ratio y1 y2);have r5:=j9 (ratio y1 y2);have r6:=yu (ratio x1 x2) (ratio y1 y2);replace L:=L.cF (S':=Cv S w.heap.size []) fun _ h=>.inl h;replace hy:=hy.cF (S':=Cv S w.heap.size []) fun _ h=>.inl h;obtain⟨b1,a1,n1,c1,b2,a2,n2,c2,rfl⟩:=L.shape;obtain⟨b3,a3,n3,c3,b4,a4,n4,c4,rfl⟩:=hy.shape;refine CY (by simp) ?_;refine cI hτ dN [.x 0,.x 2,.x 1,.x 3,.x 4,.x 5,.x 6] (by kernel_rfl) (by kernel_rfl) ?_;refine cE Y (fun _ J v V=>cP V (Nf J V) v ((ratio x1 x2))) (fun O J r=>je (Rel.old r F) (L.rel r F) (by omega) (by omega)) ?_;rintro O _ _ _ OZ r W Y h_ Z;replace hy:=hy.cD r F W (mC h_);have hX:=Z.dD (S:=FF) r.bz (mN h_);obtain⟨A0,A1,A2,A3,A4,A5,A6,A7,rfl⟩:=hX.shape;refine cE Y (fun _ J v V=>cP V (Nf J V) v ((ratio y1 y2))) (fun O J r=>je (Rel.old r F) (hy.rel r F) (by omega) (by omega)) ?_;rintro O _ _ _ OU r W Y h_ Z;replace hX:=hX.cD r (bw w) W (mC h_);have hY:=Z.dD (S:=FF) r.bz (mN h_);obtain⟨C0,C1,C2,C3,C4,C5,C6,C7,rfl⟩:=hY.shape;refine cE Y (fun _ J v V=>cP V (Nf J V) v ((ratio x1 x2)+(ratio y1 y2))) (fun O J r=>DD (Rel.old r (bw w)) (hX.rel r (bw w)) (hY.rel r (bw w)) (by omega) (by omega)) ?_;rintro O _ _ _ Oi r W Y h_ Z;have hP:=Z.dD (S:=FF) r.bz (mN h_);obtain⟨E0,E1,E2,E3,E4,E5,E6,E7,rfl⟩:=hP.shape;refine cE Y (fun _ J v V=>cN V (Nf J V) v ((ratio x1 x2)+(ratio y1 y2))) (fun O J r=>qu (Rel.old r (bw w)) (hP.rel r (bw w)) (by omega)) ?_;rintro O _ _ _ Ow r W Y h_ Z;have hC:=Z.dD (S:=FF) r.bz (mN h_);obtain⟨F0,F1,F2,F3,F4,F5,F6,F7,rfl⟩:=hC.shape;exact rtn Y fun GT we re=>hC.out re (bw w)
theorem LO{v:Value}(F:Old S w)(L:iD w S v x1 x2)(hy:iD w S u y1 y2)(hl0:ln x1.natAbs<=100000)(QT:ln x2.natAbs<=100000)(Ps:ln y1.natAbs<=100000)(QH:ln y2.natAbs<=100000):
  dx PG F'.vF #[v,u] w (eH w fun v' V=>cN V (Nf w V) v' ((ratio x1 x2)*(ratio y1 y2))):=by
 have Y:=bR w;have r1:=gY x1 x2;have r2:=gY y1 y2;have K:=lA (ratio x1 x2) (ratio y1 y2);have r4:=hJ (ratio x1 x2) (ratio y1 y2);have r5:=j9 (ratio y1 y2);have r6:=yu (ratio x1 x2) (ratio y1 y2);replace L:=L.cF (S':=Cv S w.heap.size []) fun _ h=>.inl h;replace hy:=hy.cF (S':=Cv S w.heap.size []) fun _ h=>.inl h;obtain⟨b1,a1,n1,c1,b2,a2,n2,c2,rfl⟩:=L.shape;obtain⟨b3,a3,n3,c3,b4,a4,n4,c4,rfl⟩:=hy.shape;refine CW (by simp) ?_;refine cI hτ dN [.x 0,.x 2,.x 1,.x 3,.x 4,.x 5,.x 6] (by kernel_rfl) (by kernel_rfl) ?_;refine cE Y (fun _ J v V=>cP V (Nf J V) v ((ratio x1 x2))) (fun O J r=>je (Rel.old r F) (L.rel r F) (by omega) (by omega)) ?_;rintro O _ _ _ OZ r W Y h_ Z;replace hy:=hy.cD r F W (mC h_);have hX:=Z.dD (S:=FF) r.bz (mN h_);obtain⟨A0,A1,A2,A3,A4,A5,A6,A7,rfl⟩:=hX.shape;refine cE Y (fun _ J v V=>cP V (Nf J V) v ((ratio y1 y2))) (fun O J r=>je (Rel.old r F) (hy.rel r F) (by omega) (by omega)) ?_;rintro O _ _ _ OU r W Y h_ Z;replace hX:=hX.cD r (bw w) W (mC h_);have hY:=Z.dD (S:=FF) r.bz (mN h_);obtain⟨C0,C1,C2,C3,C4,C5,C6,C7,rfl⟩:=hY.shape;refine cE Y (fun _ J v V=>cP V (Nf J V) v ((ratio x1 x2)*(ratio y1 y2))) (fun O J r=>qF (Rel.old r (bw w)) (hX.rel r (bw w)) (hY.rel r (bw w)) (by omega) (by omega)) ?_;rintro O _ _ _ Oi r W Y h_ Z;have hP:=Z.dD (S:=FF) r.bz (mN h_);obtain⟨E0,E1,E2,E3,E4,E5,E6,E7,rfl⟩:=hP.shape;refine cE Y (fun _ J v V=>cN V (Nf J V) v ((ratio x1 x2)*(ratio y1 y2))) (fun O J r=>qu (Rel.old r (bw w)) (hP.rel r (bw w)) (by omega)) ?_;rintro O _ _ _ Ow r W Y h_ Z;have hC:=Z.dD (S:=FF) r.bz (mN h_);obtain⟨F0,F1,F2,F3,F4,F5,F6,F7,rfl⟩:=hC.shape;exact rtn Y fun GT we re=>hC.out re (bw w)
theorem LP{v:Value}(F:Old S w)(L:iD w S v x1 x2)(hy:iD w S u y1 y2)(hl0:ln x1.natAbs<=100000)(QT:ln x2.natAbs<=100000)(Ps:ln y1.natAbs<=100000)(QH:ln y2.natAbs<=100000):
  dx PG F'.vI #[v,u] w (eH w fun v' V=>cN V (Nf w V) v' ((ratio x1 x2)-(ratio y1 y2))):=by
 have Y:=bR w;have r1:=gY x1 x2;have r2:=gY y1 y2;have K:=lA (ratio x1 x2) (ratio y1 y2);have r4:=hJ (ratio x1 x2) (ratio y1 y2);have r5:=j9 (ratio y1 y2);have r6:=yu (ratio x1 x2) (ratio y1 y2);replace L:=L.cF (S':=Cv S w.heap.size []) fun _ h=>.inl h;replace hy:=hy.cF (S':=Cv S w.heap.size []) fun _ h=>.inl h;obtain⟨b1,a1,n1,c1,b2,a2,n2,c2,rfl⟩:=L.shape;obtain⟨b3,a3,n3,c3,b4,a4,n4,c4,rfl⟩:=hy.shape;refine Ce (by simp) ?_;refine cI hτ dN [.x 0,.x 2,.x 1,.x 3,.x 4,.x 5,.x 6,.x 7] (by kernel_rfl) (by kernel_rfl) ?_;refine cE Y (fun _ J v V=>cP V (Nf J V) v ((ratio x1 x2))) (fun O J r=>je (Rel.old r F) (L.rel r F) (by omega) (by omega)) ?_;rintro O _ _ _ OZ r W Y h_ Z;replace hy:=hy.cD r F W (mC h_);have hX:=Z.dD (S:=FF) r.bz (mN h_);obtain⟨A0,A1,A2,A3,A4,A5,A6,A7,rfl⟩:=hX.shape;refine cE Y (fun _ J v V=>cP V (Nf J V) v ((ratio y1 y2))) (fun O J r=>je (Rel.old r F) (hy.rel r F) (by omega) (by omega)) ?_;rintro O _ _ _ OU r W Y h_ Z;replace hX:=hX.cD r (bw w) W (mC h_);have hY:=Z.dD (S:=FF) r.bz (mN h_);obtain⟨C0,C1,C2,C3,C4,C5,C6,C7,rfl⟩:=hY.shape;refine cG (Id:=fun _ J v V=>cP V (Nw (Cf w OU) J V) v (-(ratio y1 y2))) (fun O J r=>qE (Rel.old r (bw w)) (hY.rel r (bw w))) ?_;rintro O PY v3 PX r W hb Z;replace Y:=Y.tr hb;replace hX:=hX.cD (E:=(PY.heap.size,PX.heap.size)::OU) r (bw w) W fun x L=>aC _ L;have hM:=Z.old r.bz;generalize (PY.heap.size,PX.heap.size)::OU=Oi at*
 obtain⟨E0,E1,E2,E3,E4,E5,E6,E7,rfl⟩:=hM.shape;refine cE Y (fun _ J v V=>cP V (Nf J V) v ((ratio x1 x2)-(ratio y1 y2))) (fun O J r=>(Rat.sub_eq_add_neg (ratio x1 x2) (ratio y1 y2))▸DD (Rel.old r (bw w)) (hX.rel r (bw w)) (hM.rel r (bw w)) (by omega) (by omega)) ?_;rintro O _ _ _ Ow r W Y h_ Z;have hP:=Z.dD (S:=FF) r.bz (mN h_);obtain⟨F0,F1,F2,F3,F4,F5,F6,F7,rfl⟩:=hP.shape;refine cE Y (fun _ J v V=>cN V (Nf J V) v ((ratio x1 x2)-(ratio y1 y2))) (fun O J r=>qu (Rel.old r (bw w)) (hP.rel r (bw w)) (by omega)) ?_;rintro O _ _ _ QO r W Y h_ Z;have hC:=Z.dD (S:=FF) r.bz (mN h_);obtain⟨G0,G1,G2,G3,G4,G5,G6,G7,rfl⟩:=hC.shape;exact rtn Y fun GT we re=>hC.out re (bw w)
theorem Kb{v:Value}{f g:Rat}(F:Old S w)(hf:cP w S v f)(G:cP w S u g)(VY:rl f<=10000000000)(hlg:rl g<=10000000000):
  dx PG F'.lI #[v,u] w (eH w fun v' V=>v'= .int .i64 (rs (f-g))):=by
 have Y:=bR w;have l1:=fu f;have l2:=fJ f;have l3:=fu g;have l4:=fJ g;have m0:=cX f.num g.den;have m1:=cX g.num f.den;replace hf:=hf.cF (S':=Cv S w.heap.size []) fun _ h=>.inl h;replace G:=G.cF (S':=Cv S w.heap.size []) fun _ h=>.inl h;obtain⟨b1,a1,n1,c1,b2,a2,n2,c2,rfl⟩:=hf.shape;obtain⟨b3,a3,n3,c3,b4,a4,n4,c4,rfl⟩:=G.shape;have UU:=hf.num;have QV:=hf.den;have S1:=G.num;have QD:=G.den;refine oo (by simp) ?_;refine cI hτ dN [.x 0,.x 1,.x 2,.x 3,.x 5,.x 6,.x 7,.x 8,.x 4,.x 9,.x 10,.x 11] (by kernel_rfl) (by kernel_rfl) ?_;refine cE Y (fun _ J v V=>eB V (Nf J V) v (f.num*(g.den:Int))) (fun O J r=>iE (Rel.old r F) (UU.rel r F) (QD.rel r F) (by omega) (by omega)) ?_;rintro O _ _ _ OZ r W Y h_ Z;replace QV:=QV.cD r F W (mC h_);replace S1:=S1.cD r F W (mC h_);have hA:=Z.dD (S:=FF) r.bz (mN h_);obtain⟨A0,A1,A2,A3,rfl⟩:=hA.shape;refine cE Y (fun _ J v V=>eB V (Nf J V) v (g.num*(f.den:Int))) (fun O J r=>iE (Rel.old r F) (S1.rel r F) (QV.rel r F) (by omega) (by omega)) ?_;rintro O _ _ _ OU r W Y h_ Z;replace hA:=hA.cD r (bw w) W (mC h_);have hB:=Z.dD (S:=FF) r.bz (mN h_);obtain⟨C0,C1,C2,C3,rfl⟩:=hB.shape;refine cE Y (fun _ J v V=>v= .int .i64 (rs (f-g))) (fun O J r=>(MD f g)▸Kx (Rel.old r (bw w)) (hA.rel r (bw w)) (hB.rel r (bw w)) (by omega) (by omega)) ?_;rintro O _ _ _ Oi r W Y h_ rfl;exact rtn Y fun GT we re=>rfl
theorem LQ{v:Value}(F:Old S w)(L:iD w S v x1 x2)(hy:iD w S u y1 y2)(hl0:ln x1.natAbs<=100000)(QT:ln x2.natAbs<=100000)(Ps:ln y1.natAbs<=100000)(QH:ln y2.natAbs<=100000):
  dx PG F'.vE #[v,u] w (eH w fun v' V=>v'= .int .i64 (rs ((ratio x1 x2)-(ratio y1 y2)))):=by
 have Y:=bR w;have r1:=gY x1 x2;have r2:=gY y1 y2;have K:=lA (ratio x1 x2) (ratio y1 y2);have r4:=hJ (ratio x1 x2) (ratio y1 y2);have r5:=j9 (ratio y1 y2);have r6:=yu (ratio x1 x2) (ratio y1 y2);replace L:=L.cF (S':=Cv S w.heap.size []) fun _ h=>.inl h;replace hy:=hy.cF (S':=Cv S w.heap.size []) fun _ h=>.inl h;obtain⟨b1,a1,n1,c1,b2,a2,n2,c2,rfl⟩:=L.shape;obtain⟨b3,a3,n3,c3,b4,a4,n4,c4,rfl⟩:=hy.shape;refine CV (by simp) ?_;refine cI hτ dN [.x 0,.x 2,.x 1,.x 3,.x 4,.x 5] (by kernel_rfl) (by kernel_rfl) ?_;refine cE Y (fun _ J v V=>cP V (Nf J V) v ((ratio x1 x2))) (fun O J r=>je (Rel.old r F) (L.rel r F) (by omega) (by omega)) ?_;rintro O _ _ _ OZ r W Y h_ Z;replace hy:=hy.cD r F W (mC h_);have hX:=Z.dD (S:=FF) r.bz (mN h_);obtain⟨A0,A1,A2,A3,A4,A5,A6,A7,rfl⟩:=hX.shape;refine cE Y (fun _ J v V=>cP V (Nf J V) v ((ratio y1 y2))) (fun O J r=>je (Rel.old r F) (hy.rel r F) (by omega) (by omega)) ?_;rintro O _ _ _ OU r W Y h_ Z;replace hX:=hX.cD r (bw w) W (mC h_);have hY:=Z.dD (S:=FF) r.bz (mN h_);obtain⟨C0,C1,C2,C3,C4,C5,C6,C7,rfl⟩:=hY.shape;refine cE Y (fun _ J v V=>v= .int .i64 (rs ((ratio x1 x2)-(ratio y1 y2)))) (fun O J r=>Kb (Rel.old r (bw w)) (hX.rel r (bw w)) (hY.rel r (bw w)) (by omega) (by omega)) ?_;rintro O _ _ _ Oi r W Y h_ rfl;exact rtn Y fun GT we re=>rfl
theorem oN:rs q=0↔q=0:=by rw[rs,bu,Rat.num_eq_zero]
theorem LR{v:Value}(F:Old S w)(L:iD w S v x1 x2)(hy:iD w S u y1 y2)(hl0:ln x1.natAbs<=100000)(QT:ln x2.natAbs<=100000)(Ps:ln y1.natAbs<=100000)(QH:ln y2.natAbs<=100000):
  dx PG F'.vH #[v,u] w (eH w fun v' V=>((ratio y1 y2)=0/\v'= .tuple #[Gf,.int .i64 9])\/((ratio y1 y2)≠0/\∃q,v'= .tuple #[q,.int .i64 0]/\cN V (Nf w V) q ((ratio x1 x2) / (ratio y1 y2)))):=by
 have Y:=bR w;have r1:=gY x1 x2;have r2:=gY y1 y2;have K:=lA (ratio x1 x2) (ratio y1 y2);have r4:=hJ (ratio x1 x2) (ratio y1 y2);have r5:=j9 (ratio y1 y2);have r6:=yu (ratio x1 x2) (ratio y1 y2);replace L:=L.cF (S':=Cv S w.heap.size []) fun _ h=>.inl h;replace hy:=hy.cF (S':=Cv S w.heap.size []) fun _ h=>.inl h;obtain⟨b1,a1,n1,c1,b2,a2,n2,c2,rfl⟩:=L.shape;obtain⟨b3,a3,n3,c3,b4,a4,n4,c4,rfl⟩:=hy.shape;refine Ca (by simp) ?_;refine cB (cE Y (fun _ J v V=>cP V (Nf J V) v ((ratio y1 y2))) (fun O J r=>je (Rel.old r F) (hy.rel r F) (by omega) (by omega)) ?_);rintro O _ _ _ OZ r W Y h_ Z;replace L:=L.cD r F W (mC h_);have hY:=Z.dD (S:=FF) r.bz (mN h_);obtain⟨A0,A1,A2,A3,A4,A5,A6,A7,rfl⟩:=hY.shape;refine cB (cE Y (fun _ J v V=>v= .int .i64 (rs (ratio y1 y2))) (fun O J r=>qp (Rel.old r (bw w)) (hY.rel r (bw w))) ?_);rintro O _ _ _ OU r W Y h_ rfl;replace L:=L.cD r F W (mC h_);replace hY:=hY.cD r (bw w) W (mC h_);refine dB.mk ?_ ?_<;>intro h
 ·have h:rs (ratio y1 y2)=0:=by simpa using h
  exact rtn Y fun GT we re=>.inl ⟨oN.1 h,rfl⟩
 have h:(ratio y1 y2)≠0:=fun e=>by rw[e]at h;exact absurd h (by decide)
 have r7:=pN (ratio x1 x2) h;refine cI hτ dN [.x 0,.x 2,.x 1,.x 3,.x 4,.x 5,.x 6] (by kernel_rfl) (by kernel_rfl) ?_;refine cE Y (fun _ J v V=>cP V (Nf J V) v ((ratio x1 x2))) (fun O J r=>je (Rel.old r F) (L.rel r F) (by omega) (by omega)) ?_;rintro O _ _ _ Oi r W Y h_ Z;replace hY:=hY.cD r (bw w) W (mC h_);have hX:=Z.dD (S:=FF) r.bz (mN h_);obtain⟨C0,C1,C2,C3,C4,C5,C6,C7,rfl⟩:=hX.shape;refine cE Y (fun _ J v V=>cP V (Nf J V) v ((ratio x1 x2) / (ratio y1 y2))) (fun O J r=>H4 (Rel.old r (bw w)) (hX.rel r (bw w)) (hY.rel r (bw w)) (by omega) (by omega) h) ?_;rintro O _ _ _ Ow r W Y h_ Z;have hP:=Z.dD (S:=FF) r.bz (mN h_);obtain⟨E0,E1,E2,E3,E4,E5,E6,E7,rfl⟩:=hP.shape;refine cE Y (fun _ J v V=>cN V (Nf J V) v ((ratio x1 x2) / (ratio y1 y2))) (fun O J r=>qu (Rel.old r (bw w)) (hP.rel r (bw w)) (by omega)) ?_;rintro O _ _ _ QO r W Y h_ Z;have hC:=Z.dD (S:=FF) r.bz (mN h_);obtain⟨F0,F1,F2,F3,F4,F5,F6,F7,rfl⟩:=hC.shape;exact rtn Y fun GT we re=>.inr ⟨h,_,rfl,hC.out re (bw w)⟩
theorem LS{n:Int}(I: -9223372036854775808<=n)(X:n<=9223372036854775807):rl (n:Rat)<=2:=by
 have:=uU I X;unfold rl;rw[Rat.num_intCast,Rat.den_intCast];have:ln 1=1:=by decide
 omega
theorem GJ(n:Int)(w:World)(I: -9223372036854775808<=n)(X:n<=9223372036854775807):
  dx PG F'.wN #[.int .i64 n] w (eH w fun v' V=>cN V (Nf w V) v' (n:Rat)):=by
 have Y:=bR w;have hl:=LS I X;refine zW (by simp) ?_;refine cB (cE Y (fun _ J v V=>cP V (Nf J V) v (n)) (fun O J r=>xo n J I X) ?_);rintro O _ _ _ OZ r W Y h_ Z;have hX:=Z.dD (S:=FF) r.bz (mN h_);obtain⟨A0,A1,A2,A3,A4,A5,A6,A7,rfl⟩:=hX.shape;refine cB (cE Y (fun _ J v V=>cN V (Nf J V) v (n)) (fun O J r=>qu (Rel.old r (bw w)) (hX.rel r (bw w)) (by omega)) ?_);rintro O _ _ _ OU r W Y h_ Z;have hC:=Z.dD (S:=FF) r.bz (mN h_);obtain⟨C0,C1,C2,C3,C4,C5,C6,C7,rfl⟩:=hC.shape;exact rtn Y fun GT we re=>hC.out re (bw w)
theorem Gd(a b:Int)(w:World)(h1a: -9223372036854775808<=a)(h2a:a<=9223372036854775807)(h1b: -9223372036854775808<=b)(h2b:b<=9223372036854775807):
  dx PG F'.wL #[.int .i64 a,.int .i64 b] w (eH w fun v' V=>(b=0/\v'= .tuple #[Gf,.int .i64 9])\/(b≠0/\∃q,v'= .tuple #[q,.int .i64 0]/\cN V (Nf w V) q (Rat.divInt a b))):=by
 have Y:=bR w;have ha:=uU h1a h2a;have hb:=uU h1b h2b;refine zU (by simp) ?_;refine dB.mk ?_ ?_<;>intro h
 ·have h:b=0:=by simpa using h
  exact rtn Y fun GT we re=>.inl ⟨h,rfl⟩
 have h:b≠0:=by simpa using h
 have hq:=jq (a:=a) h;refine cB (cE Y (fun _ J v V=>eB V (Nf J V) v a) (fun O J r=>oV a J h1a h2a) ?_);rintro O _ _ _ OZ r W Y h_ Z;have hA:=Z.dD (S:=FF) r.bz (mN h_);obtain⟨A0,A1,A2,A3,rfl⟩:=hA.shape;refine cB (cE Y (fun _ J v V=>eB V (Nf J V) v b) (fun O J r=>oV b J h1b h2b) ?_);rintro O _ _ _ OU r W Y h_ Z;replace hA:=hA.cD r (bw w) W (mC h_);have hB:=Z.dD (S:=FF) r.bz (mN h_);obtain⟨C0,C1,C2,C3,rfl⟩:=hB.shape;refine cB (cE Y (fun _ J v V=>cP V (Nf J V) v (Rat.divInt a b)) (fun O J r=>vY (Rel.old r (bw w)) (hA.rel r (bw w)) (hB.rel r (bw w)) h (by omega) (by omega)) ?_);rintro O _ _ _ Oi r W Y h_ Z;have hP:=Z.dD (S:=FF) r.bz (mN h_);obtain⟨E0,E1,E2,E3,E4,E5,E6,E7,rfl⟩:=hP.shape;refine cB (cE Y (fun _ J v V=>cN V (Nf J V) v (Rat.divInt a b)) (fun O J r=>qu (Rel.old r (bw w)) (hP.rel r (bw w)) (by omega)) ?_);rintro O _ _ _ Ow r W Y h_ Z;have hC:=Z.dD (S:=FF) r.bz (mN h_);obtain⟨F0,F1,F2,F3,F4,F5,F6,F7,rfl⟩:=hC.shape;exact rtn Y fun GT we re=>.inr ⟨h,_,rfl,hC.out re (bw w)⟩
theorem FD(ad:Addr)(i j:Nat):(ad.add i).add j=ad.add (i+j):=by
 unfold Addr.add;split<;>split<;>simp_all<;>omega
def qR(w:World)(S:Nat->Prop)(v:Value)(q:Rat):Prop:=∃a b,iD w S v a b/\ratio a b=q/\ln a.natAbs<=100000/\ln b.natAbs<=100000
theorem qR.cC{V:World}{v:Value}(h:qR w S v q)(R:∀g,S g->V.heap[g]? =w.heap[g]?):qR V S v q:=by
 obtain⟨a,b,I,X⟩:=h;exact⟨a,b,I.cC R,X⟩
theorem qR.shape{v:Value}(h:qR w S v q):∃b a n c b2 a2 n2 c2,v= .agg #[.bool b,.slice a n c,.bool b2,.slice a2 n2 c2]:=by
 obtain⟨a,b,I,_⟩:=h;exact I.shape
theorem sf(q:Rat):ratio q.num q.den=q:=by rw[ratio,aI (gR q),Rat.num_divInt_den]
theorem cN.v{v:Value}(h:cN w S v q)(hl:rl q<=100000):qR w S v q:=
 ⟨_,_,h.r,sf q,aW (fu q) hl,aW (fJ q) hl⟩
section
variable{S S':Nat->Prop}{H:Hp}{nx:Nat}{iv E:Iv}{B:Nat}{w J V:World}{O:Nat->Sx.dL}{v:Value}{q:Rat}
end
theorem Cn{v:Value}(F:Old S w)(hp:qR w S v p)(hq:qR w S u q):dx PG F'.vG #[v,u] w (eH w fun v' V=>cN V (Nf w V) v' (p+q)):=by
 obtain⟨a,b,I,rfl,X,N⟩:=hp;obtain⟨c,d,k1,rfl,k2,k3⟩:=hq;exact LN F I k1 X N k2 k3
theorem zl{v:Value}(F:Old S w)(hp:qR w S v p)(hq:qR w S u q):dx PG F'.vF #[v,u] w (eH w fun v' V=>cN V (Nf w V) v' (p*q)):=by
 obtain⟨a,b,I,rfl,X,N⟩:=hp;obtain⟨c,d,k1,rfl,k2,k3⟩:=hq;exact LO F I k1 X N k2 k3
theorem Ki{v:Value}(F:Old S w)(hp:qR w S v p)(hq:qR w S u q):dx PG F'.vI #[v,u] w (eH w fun v' V=>cN V (Nf w V) v' (p-q)):=by
 obtain⟨a,b,I,rfl,X,N⟩:=hp;obtain⟨c,d,k1,rfl,k2,k3⟩:=hq;exact LP F I k1 X N k2 k3
theorem GK{v:Value}(F:Old S w)(hp:qR w S v p)(hq:qR w S u q):dx PG F'.vE #[v,u] w (eH w fun v' _=>v'= .int .i64 (rs (p-q))):=by
 obtain⟨a,b,I,rfl,X,N⟩:=hp;obtain⟨c,d,k1,rfl,k2,k3⟩:=hq;exact LQ F I k1 X N k2 k3
theorem Nh{v:Value}(F:Old S w)(hp:qR w S v p)(hq:qR w S u q):dx PG F'.vH #[v,u] w (eH w fun v' V=>(q=0/\v'= .tuple #[Gf,.int .i64 9])\/(q≠0/\∃r,v'= .tuple #[r,.int .i64 0]/\cN V (Nf w V) r (p / q))):=by
 obtain⟨a,b,I,rfl,X,N⟩:=hp;obtain⟨c,d,k1,rfl,k2,k3⟩:=hq;exact LR F I k1 X N k2 k3
end Go.Ex
namespace Go.Ex
theorem NM(q:Rat):rs (-q)= -rs q:=by rw[rs,rs,Rat.neg_num,Int.sign_neg]
end Go.Ex
namespace Go.Ex
open Go Go.Sx Go.Proofs
variable{b:Bool}{x z:Int}{U:List Int}{ls:List Nat}{S:Nat->Prop}{lv:Value}{w:World}
def fQ(w:World)(S:Nat->Prop)(v:Value)(k:Nat)(z:Int):Prop:=∃neg ls,uR w S v neg ls/\sg neg (val ls)=z/\ls.length<=k
theorem fQ.cC{V:World}{v:Value}{k:Nat}(h:fQ w S v k z)(R:∀g,S g->V.heap[g]? =w.heap[g]?):fQ V S v k z:=by
 obtain⟨n,l,I,X⟩:=h;exact⟨n,l,I.cC R,X⟩
theorem fQ.cF{S':Nat->Prop}{v:Value}{k:Nat}(h:fQ w S v k z)(R:∀g,S g->S' g):fQ w S' v k z:=by
 obtain⟨n,l,I,X⟩:=h;exact⟨n,l,I.cF R,X⟩
theorem fQ.r{v:Value}{k:Nat}(h:fQ w S v k z):j5 w S v z:=by
 obtain⟨n,l,I,X,_⟩:=h;exact⟨n,l,I,X⟩
theorem fQ.shape{v:Value}{k:Nat}(h:fQ w S v k z):∃b a n c,v= .agg #[.bool b,.slice a n c]:=h.r.shape
theorem cu.l{v:Value}{k:Nat}(h:cu w S v z)(R:ln z.natAbs<=k):fQ w S v k z:=by
 obtain⟨l,I,X,N⟩:=h;obtain⟨_,_,hl⟩:=I;have:=eA hl.lm X;rw[N]at this;exact⟨_,l,⟨_,‹_›,hl⟩,by rw[N,Bf],by omega⟩
section
variable{S S':Nat->Prop}{H:Hp}{nx:Nat}{iv E:Iv}{B:Nat}{w J V:World}{O:Nat->Sx.dL}{v:Value}{k:Nat}{z:Int}
theorem fQ.rel(h:fQ w (Cv S B iv) v k z)(r:Rel H nx iv B w O J)(F:∀g,S g->g<B):fQ J (Cv S B iv) v k z:=h.cC fun _ G=>Rel.same r F G
theorem fQ.cD(h:fQ w (Cv S B iv) v k z)(r:Rel H nx iv B w O J)(F:∀g,S g->g<B)(W:Ext J V)(hm:∀p,p∈iv->p∈E):fQ V (Cv S B E) v k z:=
 ((h.rel r F).cC fun g G=>W.block g (Rel.old r F g G)).cF fun _ G=>G.mono hm
end
section
variable{S S':Nat->Prop}{H:Hp}{nx:Nat}{iv E:Iv}{B:Nat}{w J V:World}{O:Nat->Sx.dL}{v:Value}{U:List Int}
theorem dR.rel(h:dR w (Cv S B iv) v U)(r:Rel H nx iv B w O J)(F:∀g,S g->g<B):dR J (Cv S B iv) v U:=dR.cC h fun _ G=>Rel.same r F G
theorem dR.cD(h:dR w (Cv S B iv) v U)(r:Rel H nx iv B w O J)(F:∀g,S g->g<B)(W:Ext J V)(hm:∀p,p∈iv->p∈E):dR V (Cv S B E) v U:=
 (dR.cC (h.rel r F) fun g G=>W.block g (Rel.old r F g G)).cF fun _ G=>G.mono hm
theorem dR.dD(h:dR V (Nf J V) v U)(hB:B<=J.heap.size)(hm:(J.heap.size,V.heap.size)∈iv):dR V (Cv S B iv) v U:=dR.cF h fun _ G=>G.dD hB hm
end
def Ny(b:Bool):Int:=if b then -1 else 1
theorem Np(b:Bool):Ny b=1\/Ny b= -1:=by cases b<;>simp[Ny]
theorem Mc(b:Bool)(n:Nat):Ny b*(n:Int)=sg b n:=by cases b<;>simp[Ny,sg]
theorem Gk{v:Value}{neg:Bool}(F:Old S w)(h:uR w S v neg ls)(hl:ls.length<=40000000):
  dx PG F'.mf #[v] w (eH w fun v' V=>dR V (Nf w V) v' (dV (Ny neg) ls)):=by
 obtain⟨lv,rfl,hL⟩:=h;have PO:=hL.lm;obtain⟨a,c,rfl,hc,Oz⟩:=hL.sl;refine vQ (by simp) ?_
 cases neg with
 |true=>
  refine⟨Nat×World,fun z=>⟨[(1,pP 0 0),(3,.o (.v (.int .i64 (-1)))),(4,.o (.w 1 (2*z.1))),(5,iZ z.1)],[(1,.vec T.int 1 ((dV (-1) (ls.take z.1)).map (Value.int .i64))),(0,.box T.Int [.v (.bool true),.v (.slice a ls.length c)])],2,[],z.2⟩,fun z=>ls.length-z.1,
   fun z=>dT w.heap.size w z.2/\z.1<=ls.length,?_,?_⟩
  ·intro O J r
   exact⟨(0,J),⟨r.cL,by simp⟩,Sub.nil 4 T.int 1 rfl (by simp[l5,SV.sc,At.sc,iW]) r fun In r1=>
    Sub.gn [] r1⟩
  rintro⟨i,w1⟩ ⟨Y,D⟩;dsimp only at Y D ⊢;have SL:((dV (-1) (ls.take i)).map (Value.int .i64)).length=2*i:=by rw[aL,iG,aZ];omega
  refine dB.mk ?_ ?_<;>intro h
  ·have h:i<ls.length:=by simpa using h
   obtain⟨x,L⟩:∃x,ls[i]? =some x:=⟨_,aB h⟩
   have QG:=PO x (aE L);obtain⟨ad,rfl,q1,q2⟩:=Oz i x L;have Vh:dV (-1) (ls.take (i+1))=dV (-1) (ls.take i)++[(-1)*((x % 65536:Nat):Int),(-1)*((x / 65536:Nat):Int)]:=by rw[List.take_add_one,L,Option.toList_some,o6];rfl
   refine⟨ad,rfl,by omega,.int .u32 x,fun O J r=>?_,?_⟩
   ·rw[aF,aY];exact jl F Y r q1 q2
   refine⟨(x:Int),wo,by decide,((x % 65536:Nat):Int),rfl,(-1)*((x % 65536:Nat):Int),wo,by decide,((x / 65536:Nat):Int),by rw[show (x:Int).tdiv 65536=((x / 65536:Nat):Int)from rfl,wrap64]<;>omega,(-1)*((x / 65536:Nat):Int),wo,?_⟩;refine .inl ?_;refine⟨by rw[SL,aY],by omega,by unfold maxLen;omega,((i+1:Nat):Int),wo,?_⟩;intro IR w3 K;have Td:(dV (-1) (ls.take (i+1))).map (Value.int .i64)=(dV (-1) (ls.take i)).map (Value.int .i64)++[.int .i64 ((-1)*((x % 65536:Nat):Int)),.int .i64 ((-1)*((x / 65536:Nat):Int))]:=by
    rw[Vh];simp
   exact⟨(i+1,w3),⟨Y.tr K.cL,by dsimp only;omega⟩,Sub.gn [(1,3)] K ⟨by dsimp only;rw[Td];rfl,rfl,trivial⟩,by dsimp only;omega⟩
  have h:i=ls.length:=by
   have:¬i<ls.length:=by simpa using h
   omega
  subst h;rw[bH]at SL ⊢;intro GT we re;have OR:=re.DI (id:=1) (m:=2*ls.length) rfl (by rw[SL,aY]) (by decide);have Q1:=qv OR (by rw[iG]) (by unfold maxLen;omega);refine⟨_,rfl,Y.tr re.cL,dR.cF Q1 fun g G=>.inr ?_⟩;have:=ownsRow.low OR g G;exact this
 |false=>
  refine⟨Nat×World,fun z=>⟨[(1,pP 0 0),(3,.o (.v (.int .i64 (1)))),(4,.o (.w 1 (2*z.1))),(5,iZ z.1)],[(1,.vec T.int 1 ((dV (1) (ls.take z.1)).map (Value.int .i64))),(0,.box T.Int [.v (.bool false),.v (.slice a ls.length c)])],2,[],z.2⟩,fun z=>ls.length-z.1,
   fun z=>dT w.heap.size w z.2/\z.1<=ls.length,?_,?_⟩
  ·intro O J r
   exact⟨(0,J),⟨r.cL,by simp⟩,Sub.nil 4 T.int 1 rfl (by simp[l5,SV.sc,At.sc,iW]) r fun In r1=>
    Sub.gn [] r1⟩
  rintro⟨i,w1⟩ ⟨Y,D⟩;dsimp only at Y D ⊢;have SL:((dV (1) (ls.take i)).map (Value.int .i64)).length=2*i:=by rw[aL,iG,aZ];omega
  refine dB.mk ?_ ?_<;>intro h
  ·have h:i<ls.length:=by simpa using h
   obtain⟨x,L⟩:∃x,ls[i]? =some x:=⟨_,aB h⟩
   have QG:=PO x (aE L);obtain⟨ad,rfl,q1,q2⟩:=Oz i x L;have Vh:dV (1) (ls.take (i+1))=dV (1) (ls.take i)++[(1)*((x % 65536:Nat):Int),(1)*((x / 65536:Nat):Int)]:=by rw[List.take_add_one,L,Option.toList_some,o6];rfl
   refine⟨ad,rfl,by omega,.int .u32 x,fun O J r=>?_,?_⟩
   ·rw[aF,aY];exact jl F Y r q1 q2
   refine⟨(x:Int),wo,by decide,((x % 65536:Nat):Int),rfl,(1)*((x % 65536:Nat):Int),wo,by decide,((x / 65536:Nat):Int),by rw[show (x:Int).tdiv 65536=((x / 65536:Nat):Int)from rfl,wrap64]<;>omega,(1)*((x / 65536:Nat):Int),wo,?_⟩;refine .inl ?_;refine⟨by rw[SL,aY],by omega,by unfold maxLen;omega,((i+1:Nat):Int),wo,?_⟩;intro IR w3 K;have Td:(dV (1) (ls.take (i+1))).map (Value.int .i64)=(dV (1) (ls.take i)).map (Value.int .i64)++[.int .i64 ((1)*((x % 65536:Nat):Int)),.int .i64 ((1)*((x / 65536:Nat):Int))]:=by
    rw[Vh];simp
   exact⟨(i+1,w3),⟨Y.tr K.cL,by dsimp only;omega⟩,Sub.gn [(1,3)] K ⟨by dsimp only;rw[Td];rfl,rfl,trivial⟩,by dsimp only;omega⟩
  have h:i=ls.length:=by
   have:¬i<ls.length:=by simpa using h
   omega
  subst h;rw[bH]at SL ⊢;intro GT we re;have OR:=re.DI (id:=1) (m:=2*ls.length) rfl (by rw[SL,aY]) (by decide);have Q1:=qv OR (by rw[iG]) (by unfold maxLen;omega);refine⟨_,rfl,Y.tr re.cL,dR.cF Q1 fun g G=>.inr ?_⟩;have:=ownsRow.low OR g G;exact this
def Ao(U:List Int)(n:Nat)(z:Int):Prop:=dC U=z/\U.length<=n/\(∀c∈U,-65535<=c/\c<=65535)/\(0<=z->∀c∈U,0<=c)
theorem Ap(s:Int)(h:val ls=0):∀c∈dV s ls,c=0:=fun c hc=>by
 induction ls with
 |nil=>cases hc
 |cons l r ih=>
  have h:l+4294967296*val r=0:=h;have I:l=0:=by omega
  have X:val r=0:=by omega
  subst I;rw[dV]at hc;rcases List.mem_cons.1 hc with rfl|hc
  ·simp
  rcases List.mem_cons.1 hc with rfl|hc
  ·simp
  ·exact ih X hc
theorem fQ.FC{v:Value}{k:Nat}(h:fQ w S v k z):∃b a ls c,v= .agg #[.bool b,.slice a ls.length c]/\cz w S (.slice a ls.length c) ls/\sg b (val ls)=z/\ls.length<=k:=by
 obtain⟨b,ls,⟨lv,rfl,hl⟩,hz,R⟩:=h;obtain⟨a,c,rfl,_⟩:=hl.sl;exact⟨b,a,ls,c,rfl,hl,hz,R⟩
theorem fQ.ln{v:Value}{k:Nat}(h:fQ w S v k z):ln z.natAbs<=k:=by
 obtain⟨b,a,ls,c,_,hl,hz,R⟩:=h.FC;rw[<-hz,se];exact LM hl.lm R
theorem fQ.neg{k:Nat}(h:fQ w S (.agg #[.bool b,lv]) k z):fQ w S (.agg #[.bool (!b),lv]) k (-z):=by
 obtain⟨b,ls,⟨lv,e,hl⟩,hz,R⟩:=h;simp only[Value.agg.injEq,Array.mk.injEq,List.cons.injEq,Value.bool.injEq,and_true]at e;obtain⟨rfl,rfl⟩:=e;refine⟨_,ls,⟨_,rfl,hl⟩,?_,R⟩;rw[<-hz]
 cases b<;>simp[sg]
theorem fQ.abs{k:Nat}(h:fQ w S (.agg #[.bool b,lv]) k z):fQ w S (.agg #[.bool false,lv]) k (z.natAbs:Int):=by
 obtain⟨b,ls,⟨lv,e,hl⟩,hz,R⟩:=h;simp only[Value.agg.injEq,Array.mk.injEq,List.cons.injEq,Value.bool.injEq,and_true]at e;obtain⟨rfl,rfl⟩:=e;exact⟨_,ls,⟨_,rfl,hl⟩,by rw[<-hz,se];rfl,R⟩
theorem qz{v:Value}{k:Nat}(F:Old S w)(h:fQ w S v k z)(R:k<=40000000):
  dx PG F'.mf #[v] w (eH w fun v' V=>∃U,dR V (Nf w V) v' U/\Ao U (2*k) z):=by
 obtain⟨b,ls,D,hz,hl⟩:=h;have PO:Lm ls:=by obtain⟨_,_,h⟩:=D;exact h.lm
 refine(Gk F D (by omega)).mono fun _ V ⟨v2,e1,e2,e3⟩=>⟨v2,e1,e2,_,e3,by rw[CR,Mc,hz],by rw[iG];omega,zH (Np b) PO,fun h0=>?_⟩
 cases b with
 |false=>exact fun c hc=>(wx PO c hc).1
 |true=>
  rw[Ku]at hz;exact fun c hc=>by rw[Ap _ (show val ls=0 by omega) c hc];decide
theorem Gl{v:Value}{n:Nat}(F:Old S w)(h:dR w S v U)(hb:Ao U n z)(Z:n<=100000000):
  dx PG F'.jz #[v] w (eH w fun v' V=>cu V (Nf w V) v' z):=by
 have:=vh F h (fun c hc=>by have:=hb.2.2.1 c hc;omega) (by have:=hb.2.1;omega);rw[hb.1]at this;exact this
theorem LU{v:Value}{k:Nat}(F:Old S w)(L:fQ w S v k x)(R:k<=40000000):
  dx PG F'.B5 #[v] w (eH w fun v' V=>cu V (Nf w V) v' x):=by
 have Y:=bR w;replace L:=L.cF (S':=Cv S w.heap.size []) fun _ h=>.inl h;obtain⟨b1,a1,n1,c1,rfl⟩:=L.shape;refine Cd (by simp) ?_;refine cB (cE Y (fun _ J v V=>∃U,dR V (Nf J V) v U/\Ao U (2*k) (x)) (fun O J r=>qz (Rel.old r F) (L.rel r F) (by omega)) ?_);rintro O _ _ _ OZ r W Y h_ ⟨U,k1,bcs⟩;have hc:=k1.dD (S:=FF) r.bz (mN h_);obtain⟨acs,ccs,rfl,lcs⟩:=hc.shape;refine cB (cE Y (fun _ J v V=>cu V (Nf J V) v (x)) (fun O J r=>Gl (Rel.old r (bw w)) (hc.rel r (bw w)) bcs (by omega)) ?_);rintro O _ _ _ OU r W Y h_ Z;have hC:=Z.dD (S:=FF) r.bz (mN h_);obtain⟨A0,A1,A2,A3,rfl⟩:=hC.shape;exact rtn Y fun GT we re=>hC.out re (bw w)
theorem nN{v:Value}{k:Nat}(F:Old S w)(L:fQ w S v k x)(R:k<=40000000):
  dx PG F'.wT #[v] w (eH w fun v' V=>cu V (Nf w V) v' (-x)):=by
 have Y:=bR w;replace L:=L.cF (S':=Cv S w.heap.size []) fun _ h=>.inl h;obtain⟨b1,a1,n1,c1,rfl⟩:=L.shape;replace L:=L.neg;refine z6 (by simp) ?_;refine cB (cE Y (fun _ J v V=>cu V (Nf J V) v (-x)) (fun O J r=>LU (Rel.old r F) (L.rel r F) R) ?_);rintro O _ _ _ OZ r W Y h_ Z;have hC:=Z.dD (S:=FF) r.bz (mN h_);obtain⟨A0,A1,A2,A3,rfl⟩:=hC.shape;exact rtn Y fun GT we re=>hC.out re (bw w)
theorem xq{v:Value}{k:Nat}(F:Old S w)(L:fQ w S v k x)(R:k<=40000000):
  dx PG F'.zN #[v] w (eH w fun v' V=>cu V (Nf w V) v' ((x.natAbs:Int))):=by
 have Y:=bR w;replace L:=L.cF (S':=Cv S w.heap.size []) fun _ h=>.inl h;obtain⟨b1,a1,n1,c1,rfl⟩:=L.shape;replace L:=L.abs;refine Ad (by simp) ?_;refine cB (cE Y (fun _ J v V=>cu V (Nf J V) v ((x.natAbs:Int))) (fun O J r=>LU (Rel.old r F) (L.rel r F) R) ?_);rintro O _ _ _ OZ r W Y h_ Z;have hC:=Z.dD (S:=FF) r.bz (mN h_);obtain⟨A0,A1,A2,A3,rfl⟩:=hC.shape;exact rtn Y fun GT we re=>hC.out re (bw w)
theorem Mz{v:Value}{i:Nat}(F:Old S w)(h:dR w S v U):
  dx PG F'.EW #[v,.int .i64 i] w (eH w fun v' _=>v'= .int .i64 (U.getD i 0)):=by
 obtain⟨a,c,rfl,hc⟩:=h.shape;refine EZ (by simp) ?_;refine dB.mk ?_ ?_<;>intro D
 ·have D:i<U.length:=by simpa using D
  obtain⟨x,L⟩:∃x,U[i]? =some x:=⟨_,aB D⟩
  obtain⟨ad,rfl,q1,q2⟩:=h.load L;refine⟨ad,rfl,by omega,.int .i64 x,fun O J r=>?_,?_⟩
  ·rw[aF];exact jl F dT.refl r q1 q2
  intro O V r;exact⟨_,rfl,r.cL,by rw[List.getD,L];rfl⟩
 ·have D:U.length<=i:=by
   have:¬i<U.length:=by simpa using D
   omega
  intro O V r;exact⟨_,rfl,r.cL,by rw[List.getD,List.getElem?_eq_none D];rfl⟩
theorem val_zero(h:∀x∈ls,x=0):val ls=0:=by
 induction ls with
 |nil=>rfl
 |cons l r ih=>rw[val,h l aG,ih fun x L=>h x (aC _ L)]
theorem Md{x:Nat}(h:x∈ls)(L:x≠0):0<val ls:=by
 induction ls with
 |nil=>cases h
 |cons l r ih=>
  rw[val];rcases List.mem_cons.1 h with rfl|h
  ·omega
  ·have:=ih h;omega
theorem gN{v:Value}(F:Old S w)(L:j5 w S v x):
  dx PG F'.zK #[v] w (eH w fun v' _=>v'= .int .i64 x.sign):=by
 obtain⟨b,ls,⟨lv,rfl,I⟩,hz⟩:=L;obtain⟨a,c,rfl,_,ha⟩:=I.sl;have hle1:=I.le;refine Ab (by simp) ?_
 refine⟨Nat×World,fun z=>⟨[(1,pP 0 0),(3,iZ z.1)],[(0,.box T.Int [.v (.bool b),.v (.slice a ls.length c)])],1,[],z.2⟩,fun z=>ls.length-z.1,
  fun z=>z.1<=ls.length/\dT w.heap.size w z.2/\∀x∈ls.take z.1,x=0,?_,?_⟩
 ·intro O J r;exact⟨(0,J),⟨by simp,r.cL,by simp⟩,Sub.gn [] r⟩
 rintro⟨i,w1⟩ ⟨D,Y,ht⟩;dsimp only at D Y ht ⊢;refine dB.mk ?_ ?_<;>intro OQ
 ·have OQ:i<ls.length:=by simpa using OQ
  obtain⟨y,hy⟩:∃x,ls[i]? =some x:=⟨_,aB OQ⟩
  obtain⟨ad,rfl,q1,q2⟩:=ha i y hy;refine⟨ad,rfl,by omega,.int .u32 y,fun O J r=>by rw[aF,aY];exact jl F Y r q1 q2,?_⟩;refine dB.mk ?_ ?_<;>intro OS
  ·have OS:y≠0:=fun h=>by rw[h]at OS;simp at OS
   have hp:=Md (aE hy) OS
   cases b with
   |true=>
    rw[Ku]at hz;intro O V r;exact⟨_,rfl,Y.tr r.cL,by rw[bg (by omega)];rfl⟩
   |false=>
    rw[Nj]at hz;intro O V r;exact⟨_,rfl,Y.tr r.cL,by rw[bh (by omega)];rfl⟩
  have OS:y=0:=by simpa using OS
  subst OS;have TL:∀x∈ls.take (i+1),x=0:=fun x L=>by
   rw[List.take_add_one,hy]at L;rcases List.mem_append.1 L with L|L
   ·exact ht x L
   ·simpa using L
  refine⟨((i+1:Nat):Int),wo,?_⟩;intro IR w3 K;exact⟨(i+1,w3),⟨OQ,Y.tr K.cL,TL⟩,Sub.gn [] K,by dsimp only;omega⟩
 have OQ:i=ls.length:=by
  have:¬i<ls.length:=by simpa using OQ
  omega
 subst OQ;rw[bH]at ht;intro O V r;refine⟨_,rfl,Y.tr r.cL,?_⟩;rw[<-hz,val_zero ht]
 cases b<;>rfl
end Go.Ex
