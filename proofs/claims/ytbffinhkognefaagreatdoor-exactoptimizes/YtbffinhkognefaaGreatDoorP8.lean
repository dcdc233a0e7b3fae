/- Texts X46 to X58: lemmas, each with its conditions. -/
import Derived.Test.YtbffinhkognefaaGreatDoorP7
set_option linter.defProp false
namespace Go.Ex
open Go Go.Sx Go.Proofs
variable{cs:List Int}{S:Nat->Prop}
def xa(n:Int):(n.tmod 65536<0->n % 65536=n.tmod 65536+65536)/\(¬n.tmod 65536<0->n % 65536=n.tmod 65536)/\ -65536<n.tmod 65536/\n.tmod 65536<65536:=by
 by_cases h:0<=n
 .rw[Int.tmod_eq_emod_of_nonneg h];omega
 .have Y:n.tmod 65536= -((-n) % 65536):=by
   have:n= -(-n):=by omega
   conv=>lhs;rw[this]
   rw[Int.neg_tmod,Int.tmod_eq_emod_of_nonneg be]
  rw[Y];omega
def DY(n:Int):(n-n % 65536).tdiv 65536=n / 65536:=by
 have h:n-n % 65536=65536*(n / 65536):=by omega
 rw[h,Int.mul_tdiv_cancel_left _ bv]
def DZ{w:World}{v:Value}(G:Old S w)(h:eM w S v cs)(N:∀c∈cs,-1152921504606846976<=c/\c<=1152921504606846976)(hl:cs.length<=1000000000):
  eH PG Fd.th #[v] w (eV w λv' F=>∃o,v'= .tuple #[o,iV (dy cs 0).2]/\F.ownsRow w.heap.size T.int 1 o cs.length ((eW (dy cs 0).1).map (Value.int .i64))):=by
 obtain⟨a,c,rfl,hc⟩:=h.shape;refine xO ce ?_
 refine⟨Nat×World,λz=>⟨[(0,sV a cs.length c),(4,.o (.w 0 z.1)),(5,.o (.v (iV (dy (cs.take z.1) 0).2))),(6,iZ z.1)],[(0,.vec T.int 1 ((eW (dy (cs.take z.1) 0).1).map (Value.int .i64)))],1,[],z.2⟩,λz=>cs.length-z.1,
  λz=>Bq w z.2/\z.1<=cs.length,?_,?_⟩
 .intro O J r
  exact⟨(0,J),⟨r.cg,ce⟩,Sub.nil 4 T.int 1 rfl (by simp[kN,SV.sc,At.sc,ff]) r λI9 r1=>
   sbgn [] r1⟩
 rintro⟨i,w1⟩ ⟨W,R⟩;dsimp only at W R ⊢;obtain⟨-,hdg,hlen⟩:=mS (cs.take i) 0;have TY:((eW (dy (cs.take i) 0).1).map (Value.int .i64)).length=i:=by rw[aO,fE,hlen,bI];omega
 obtain⟨hk1,TX⟩:=kz (cs.take i) 0 (λc hc=>N c (List.mem_of_mem_take hc)) bv bv;have hR:eM w1 S (.slice a cs.length c) cs:=eM.cW h λg V=>W.block g (G g V);apply bS<;>intro h
 .have h:=dL h;obtain⟨x,Z⟩:=gO cs i;obtain⟨SS,Q5⟩:=N x (aG Z);obtain⟨ad,rfl,q1,q2⟩:=hR.load Z;have Uz:cs.take (i+1)=cs.take i++[x]:=by rw[bH,Z];rfl
  have hsn:=Dx (cs.take i) x 0;rw[<-Uz]at hsn;generalize (dy (cs.take i) 0).1=ds at*
  generalize (dy (cs.take i) 0).2=k at*
  obtain⟨t1,t2,t3,t4⟩:=xa (x+k);have hem1:=Int.emod_nonneg (x+k) (show (65536:Int)≠0 by decide);have hem2:=Int.emod_lt_of_pos (x+k) (show (0:Int)<65536 by decide);refine⟨ad,rfl,be,iV x,λO J r=>?_,?_⟩
  .rw[aI,cZ (w:=w1) (F:=J) (by rw[da];exact rls (S:=S) r G (.inl q1))];exact q2
  refine⟨x+k,wo,bv,(x+k).tmod 65536,rfl,?_⟩;apply bS<;>intro Rv
  .have Rv:=t1 (aK Rv);refine⟨(x+k) % 65536,by rw[Rv,wrap64]<;>omega,x+k-(x+k) % 65536,wo,bv,(x+k) / 65536,by rw[DY,wrap64]<;>omega,?_⟩;refine .inl ?_;refine⟨by rw[TY,ah],be,mx,((i+1:Nat):Int),wo,?_⟩;intro I8 w3 r3;have UW:(eW (dy (cs.take (i+1)) 0).1).map (Value.int .i64)=(eW ds).map (Value.int .i64)++[iV ((x+k) % 65536)]:=by
    rw[hsn];simp[eW,Int.toNat_of_nonneg hem1]
   have hk5:(dy (cs.take (i+1)) 0).2=(x+k) / 65536:=by rw[hsn]
   exact⟨(i+1,w3),⟨W.tr r3.cg,by dsimp only;omega⟩,sbgn [(0,2)] r3 ⟨by dsimp only;rw[UW];rfl,trivial⟩ ⟨rfl,rfl,by dsimp only;rw[hk5];rfl,rfl,trivial⟩,by dsimp only;omega⟩
  .have Rv:=t2 (aL Rv);rw[<-Rv];refine⟨x+k-(x+k) % 65536,wo,bv,(x+k) / 65536,by rw[DY,wrap64]<;>omega,?_⟩;refine .inl ?_;refine⟨by rw[TY,ah],be,mx,((i+1:Nat):Int),wo,?_⟩;intro I8 w3 r3;have UW:(eW (dy (cs.take (i+1)) 0).1).map (Value.int .i64)=(eW ds).map (Value.int .i64)++[iV ((x+k) % 65536)]:=by
    rw[hsn];simp[eW,Int.toNat_of_nonneg hem1]
   have hk5:(dy (cs.take (i+1)) 0).2=(x+k) / 65536:=by rw[hsn]
   exact⟨(i+1,w3),⟨W.tr r3.cg,by dsimp only;omega⟩,sbgn [(0,2)] r3 ⟨by dsimp only;rw[UW];rfl,trivial⟩ ⟨rfl,rfl,by dsimp only;rw[hk5];rfl,rfl,trivial⟩,by dsimp only;omega⟩
 .have h:i=cs.length:=by
   have:¬i<cs.length:=by simpa using h
   omega
  subst h;rw[bE]at TY ⊢;exact rtn W λGE we re=>⟨_,rfl,re.Eb (id:=0) rfl (by rw[TY,ah]) bv⟩
end Go.Ex
namespace Go.Sx
open Go Go.Ex Go.Proofs
variable{ls:List Nat}{O:Nat->Sx.eD}
def Rel.Mq{H:Hp}{nx:Nat}{iv:Iv}{B:Nat}{w J:World}(r:Rel H nx iv B w O J){id t m:Nat}(h:dT H id=some (.vec t 1 (F8 ls)))(hm:m<=ls.length)(Qi:Lm ls)(hle:ls.length<=9223372036854775807):
  dW J (λg=>B<=g/\g<J.heap.size) ((At.w id m).den O) (ls.take m):=by
 have QU:(ls.take m).length=m:=by rw[bI];omega
 rcases r.vec id t 1 _ h with⟨E,hu⟩|⟨E,spare,N,hc,RE⟩
 .have hl:ls=[]:=by cases ls with
   |nil=>rfl
   |cons a b=>simp[F8]at hu
  subst hl;simp at hm;subst hm;have:(At.w id 0).den O=nls:=by simp[At.den,E]
  rw[this];exact dW.nil _ _
 .refine⟨Qi.take m,by rw[QU];omega,some ⟨(O id).g,0,none⟩,(O id).cap,by rw[QU];simp[At.den,E],?_,λj x Z=>⟨_,rfl,r.low id _ h E,?_⟩⟩
  .have Y:(F8 ls++spare).length=ls.length+spare.length:=by rw[aU,gG]
   rw[QU];omega
  .rw[List.getElem?_take]at Z;split at Z
   .rw[dD,cell_of N,aV,aN (by rw[gG];exact(aH.1 Z).1)];exact tq Z
   .cases Z
end Go.Sx
namespace Go.Ex
open Go Go.Sx Go.Proofs
section
variable{ds ls:List Nat}{S:Nat->Prop}
def IG{n:Nat}(_hn:n<ls.length)(h0:ls[n]? =some 0):eK (ls.take (n+1))=eK (ls.take n):=by
 rw[bH,h0];exact lZ _
def IH{n x:Nat}(h0:ls[n]? =some x)(Z:x≠0):eK (ls.take (n+1))=ls.take (n+1):=by
 rw[bH,h0];exact pY _ Z
def Gm{w:World}{v:Value}(G:Old S w)(h:eM w S v (eW ds))(hd:Dg ds)(hl:ds.length<=1000000000):
  eH PG Fd.wB #[v] w (eV w λv' F=>∃lv,v'= .agg #[.bool false,lv]/\dW F (Nf w F) lv (eK (iL ds))):=by
 obtain⟨a,c,rfl,hc⟩:=h.shape;rw[fE]at hc h ⊢;refine yn ce ?_
 refine⟨Nat×World,λz=>match z.1 with
   |0=>⟨[(0,sV a ds.length c),(2,pP 0 0),(3,pP 1 0),(4,iZ 0)],[(1,.box T.Int [.v (.bool false),.v nls]),(0,.box T.Int [.v (.bool false),.v nls])],2,[],z.2⟩
   |k+1=>⟨[(0,sV a ds.length c),(2,pP 0 0),(3,pP 1 0),(4,.o (.v (iV ((2*(k+1):Nat):Int))))],[(2,.vec T.uint32 1 (F8 (pk ds (k+1)))),(1,.box T.Int [.v (.bool false),.w 2 (k+1)]),(0,.box T.Int [.v (.bool false),.v nls])],3,[],z.2⟩,
  λz=>ds.length-z.1,λz=>Bq w z.2/\2*z.1<=ds.length+1,?_,?_⟩
 .intro O J r;exact⟨(0,J),⟨r.cg,ce⟩,sbgn [] r⟩
 rintro⟨k,w1⟩ ⟨W,R⟩;dsimp only at W R;have hR:eM w1 S (.slice a ds.length c) (eW ds):=eM.cW h λg V=>W.block g (G g V)
 cases k with
 |zero=>
  apply bS<;>intro Y
  .have Y:0<ds.length:=by
    have:=aK Y;omega
   obtain⟨d0,hd0⟩:=gO ds 0;have hd0b:=hd d0 (aG hd0);have VX:ds.getD (2*0) 0=d0:=by show ds.getD 0 0=d0;rw[List.getD,hd0];rfl
   obtain⟨ad,rfl,q1,q2⟩:=hR.load (j:=0) (x:=(d0:Int)) (by rw[eW,aS,hd0];rfl);refine⟨ad,rfl,be,iV (d0:Int),λO J r=>?_,?_⟩
   .show J.cell? (ad.add (0*1))=_;rw[cZ (w:=w1) (F:=J) (by rw[da];exact rls (S:=S) r G (.inl q1))];exact q2
   refine inc 0 ?_;apply bS<;>intro I
   .have I:0+1<ds.length:=by
     have:=aK I;omega
    obtain⟨d1,Rd⟩:=gO ds (0+1);have hd1b:=hd d1 (aG Rd);have Tc:ds.getD (2*0+1) 0=d1:=by show ds.getD (0+1) 0=d1;rw[List.getD,Rd];rfl
    obtain⟨_,QQ,q3,q4⟩:=hR.load (j:=0+1) (x:=(d1:Int)) (by rw[eW,aS,Rd];rfl);injection QQ with QQ;subst QQ;refine⟨((0+1:Nat):Int),wo,ad,rfl,be,iV (d1:Int),λO J r=>?_,?_⟩
    .show J.cell? (ad.add ((0+1)*1))=_;rw[cZ (w:=w1) (F:=J) (by rw[da];exact rls (S:=S) r G (.inl q3))];exact q4
    refine⟨((65536*d1:Nat):Int),wo,((d0+65536*d1:Nat):Int),wo,?_⟩;have UI:=zK ds 0;rw[VX,Tc]at UI;generalize d0+65536*d1=dd at*
    have hdd:dd<4294967296:=MC hd (0+1) dd (by rw[UI];simp);refine⟨(dd:Int),by rw[jF]<;>omega,?_⟩;refine .inl ?_;refine⟨be,mx,((2*(0+1):Nat):Int),wo,?_⟩;intro I8 w3 r3;have hU:F8 (pk ds (0+1))=F8 (pk ds 0)++[.int .u32 (dd:Int)]:=by rw[UI];simp[F8]
    exact⟨(0+1,w3),⟨W.tr r3.cg,by dsimp only;omega⟩,sbgn [(2,3)] r3 ⟨by dsimp only;rw[hU];rfl,rfl,rfl,trivial⟩,by dsimp only;omega⟩
   .have I:0+1=ds.length:=by
     have:=aL I;omega
    have Tc:ds.getD (2*0+1) 0=0:=by show ds.getD (0+1) 0=0;rw[List.getD,List.getElem?_eq_none be];rfl
    have UI:=zK ds 0;rw[VX,Tc]at UI;obtain⟨dd,hdde⟩:∃dd,dd=d0:=⟨_,rfl⟩
    rw[<-hdde]at UI ⊢;have hdd:dd<4294967296:=by omega
    rw[show dd+65536*0=dd by omega]at UI;refine⟨(dd:Int),by rw[jF]<;>omega,?_⟩;refine .inl ?_;refine⟨be,mx,((2*(0+1):Nat):Int),wo,?_⟩;intro I8 w3 r3;have hU:F8 (pk ds (0+1))=F8 (pk ds 0)++[.int .u32 (dd:Int)]:=by rw[UI];simp[F8]
    exact⟨(0+1,w3),⟨W.tr r3.cg,by dsimp only;omega⟩,sbgn [(2,3)] r3 ⟨by dsimp only;rw[hU];rfl,rfl,rfl,trivial⟩,by dsimp only;omega⟩
  .have Y:ds=[]:=by
    have:=aL Y;exact List.eq_nil_of_length_eq_zero be
   subst Y;refine⟨World,λz=>⟨[(2,pP 0 0),(3,pP 1 0),(6,iZ 0)],[(1,.box T.Int [.v (.bool false),.v nls]),(0,.box T.Int [.v (.bool false),.v nls])],2,[],z⟩,λ_=>0,λz=>Bq w z,?_,?_⟩
   .intro O J r;exact⟨J,W.tr r.cg,sbgn [] r⟩
   intro F W;dsimp only at W ⊢;refine⟨⟨bv,bv,bv⟩,none,0,0,d8,d8,d8,?_⟩;exact rtn W λGE we re=>⟨_,rfl,dW.nil _ _⟩
 |succ k=>
  apply bS<;>intro Y
  .have Y:(2*(k+1))<ds.length:=by
    have:=aK Y;omega
   obtain⟨d0,hd0⟩:=gO ds ((2*(k+1)));have hd0b:=hd d0 (aG hd0);have VX:ds.getD (2*(k+1)) 0=d0:=by show ds.getD (2*(k+1)) 0=d0;rw[List.getD,hd0];rfl
   obtain⟨ad,rfl,q1,q2⟩:=hR.load (j:=(2*(k+1))) (x:=(d0:Int)) (by rw[eW,aS,hd0];rfl);refine⟨ad,rfl,be,iV (d0:Int),λO J r=>?_,?_⟩
   .show J.cell? (ad.add ((2*(k+1))*1))=_;rw[cZ (w:=w1) (F:=J) (by rw[da];exact rls (S:=S) r G (.inl q1))];exact q2
   refine⟨(((2*(k+1))+1:Nat):Int),wo,?_⟩;apply bS<;>intro I
   .have I:(2*(k+1))+1<ds.length:=by
     have:=aK I;omega
    obtain⟨d1,Rd⟩:=gO ds ((2*(k+1))+1);have hd1b:=hd d1 (aG Rd);have Tc:ds.getD (2*(k+1)+1) 0=d1:=by show ds.getD ((2*(k+1))+1) 0=d1;rw[List.getD,Rd];rfl
    obtain⟨_,QQ,q3,q4⟩:=hR.load (j:=(2*(k+1))+1) (x:=(d1:Int)) (by rw[eW,aS,Rd];rfl);injection QQ with QQ;subst QQ;refine⟨(((2*(k+1))+1:Nat):Int),wo,ad,rfl,be,iV (d1:Int),λO J r=>?_,?_⟩
    .show J.cell? (ad.add (((2*(k+1))+1)*1))=_;rw[cZ (w:=w1) (F:=J) (by rw[da];exact rls (S:=S) r G (.inl q3))];exact q4
    refine⟨((65536*d1:Nat):Int),wo,((d0+65536*d1:Nat):Int),wo,?_⟩;have UI:=zK ds (k+1);rw[VX,Tc]at UI;generalize d0+65536*d1=dd at*
    have hdd:dd<4294967296:=MC hd ((k+1)+1) dd (by rw[UI];simp);refine⟨(dd:Int),by rw[jF]<;>omega,?_⟩;refine .inl ?_;refine⟨by rw[gG,xC];omega,be,mx,((2*((k+1)+1):Nat):Int),wo,?_⟩;intro I8 w3 r3;have hU:F8 (pk ds ((k+1)+1))=F8 (pk ds (k+1))++[.int .u32 (dd:Int)]:=by rw[UI];simp[F8]
    exact⟨((k+1)+1,w3),⟨W.tr r3.cg,by dsimp only;omega⟩,sbgn [(2,4)] r3 ⟨by dsimp only;rw[hU];rfl,rfl,rfl,trivial⟩,by dsimp only;omega⟩
   .have I:(2*(k+1))+1=ds.length:=by
     have:=aL I;omega
    have Tc:ds.getD (2*(k+1)+1) 0=0:=by show ds.getD ((2*(k+1))+1) 0=0;rw[List.getD,List.getElem?_eq_none be];rfl
    have UI:=zK ds (k+1);rw[VX,Tc]at UI;obtain⟨dd,hdde⟩:∃dd,dd=d0:=⟨_,rfl⟩
    rw[<-hdde]at UI ⊢;have hdd:dd<4294967296:=by omega
    rw[show dd+65536*0=dd by omega]at UI;refine⟨(dd:Int),by rw[jF]<;>omega,?_⟩;refine .inl ?_;refine⟨by rw[gG,xC];omega,be,mx,((2*((k+1)+1):Nat):Int),wo,?_⟩;intro I8 w3 r3;have hU:F8 (pk ds ((k+1)+1))=F8 (pk ds (k+1))++[.int .u32 (dd:Int)]:=by rw[UI];simp[F8]
    exact⟨((k+1)+1,w3),⟨W.tr r3.cg,by dsimp only;omega⟩,sbgn [(2,4)] r3 ⟨by dsimp only;rw[hU];rfl,rfl,rfl,trivial⟩,by dsimp only;omega⟩
  .have Y:ds.length<=2*(k+1):=by
    have:=aL Y;omega
   have K:k+1=(ds.length+1) / 2:=by omega
   have UI:pk ds (k+1)=iL ds:=by rw[K];exact MB ds
   have hlen:=xC ds (k+1);have Qi:=MC hd (k+1);rw[<-UI];obtain⟨ls,hls⟩:∃ls,ls=pk ds (k+1):=⟨_,rfl⟩
   rw[<-hls]at hlen Qi ⊢
   refine⟨by show(F8 (pk ds (k+1))).length=_;rw[<-hls,gG,hlen];simp,Nat×World,λz=>⟨[(2,pP 0 0),(3,pP 1 0),(6,iZ z.1)],[(2,.vec T.uint32 1 (F8 ls)),(1,.box T.Int [.v (.bool false),.w 2 (k+1)]),(0,.box T.Int [.v (.bool false),.v nls])],3,[],z.2⟩,λz=>z.1,
    λz=>Bq w z.2/\z.1<=k+1/\eK (ls.take z.1)=eK ls,?_,?_⟩
   .intro O J r;exact⟨(k+1,J),⟨W.tr r.cg,lr,by dsimp only;rw[List.take_of_length_le be]⟩,sbgn [] r ⟨by dsimp only;rw[hls];rfl,rfl,rfl,trivial⟩⟩
   rintro⟨n,F⟩ ⟨W,E,htr⟩;dsimp only at W E htr ⊢
   cases n with
   |zero=>
    refine⟨by rw[gG,hlen];simp,⟨be,be⟩,0,d8,?_⟩;intro GE we re;refine⟨_,rfl,W.tr re.cg,_,rfl,?_⟩;have:=re.Mq (id:=2) (m:=0) rfl (aZ _) Qi be;rw[<-htr];exact this.cU λg V=>.inr V
   |succ n=>
    obtain⟨x,Z⟩:=gO ls n;refine wj.mk (λhp=>?_) (λhp=>absurd (aL hp) be);refine⟨(n:Int),wo,by rw[gG,hlen];simp,be,.int .u32 (x:Int),by simpa using tq Z,?_⟩;apply bS<;>intro h0
    .have h0:x=0:=by have:=eq_of_beq h0;omega
     subst h0;refine⟨(n:Int),wo,?_⟩;intro I8 w3 r3;exact⟨(n,w3),⟨W.tr r3.cg,by dsimp only;omega,by dsimp only;rw[<-htr,IG be Z]⟩,sbgn [] r3,by dsimp only;omega⟩
    .have h0:x≠0:=λe=>by rw[e]at h0;exact absurd h0 bv
     refine⟨by rw[gG,hlen];simp,⟨be,be⟩,n+1,d8,?_⟩;intro GE we re;refine⟨_,rfl,W.tr re.cg,_,rfl,?_⟩;have:=re.Mq (id:=2) (m:=n+1) rfl be Qi be;rw[<-htr,IH Z h0];exact this.cU λg V=>.inr V
end
variable{H:Hp}{z:Int}{iv:Iv}{cs:List Int}{a b ds ls:List Nat}{xs:List Value}{B nx:Nat}{S:Nat->Prop}{O:Nat->Sx.eD}{u v:Value}{w:World}
def wV{J F:World}{v':Value}(hc:wh iv v)(r:Rel H nx iv B w O J)(SQ:∀g,v'.ownBlock=some g->g<F.heap.size/\(v.ownBlock=some g\/g=J.heap.size)):
  ∀lo R,(lo,R)∈e9 v'->R<=F.heap.size/\∀id b,dT H id=some b->(O id).nil=false->¬(lo<=(O id).g/\(O id).g<R):=λlo R hm=>by
 obtain⟨V,rfl⟩:=kG.1 hm;obtain⟨Y,I⟩:=SQ _ V;refine⟨be,λid c hc' E L=>?_⟩;rcases I with I|I
 .exact hc.not r I id c hc' E be
 .have:=(r.low id c hc' E).2;omega
def dW.out{w1 J:World}(h:dW w1 (Cv S w.heap.size iv) v ls)(r:Rel H nx iv w.heap.size w1 O J)(G:Old S w):dW J (Nw S w J) v ls:=
 (dW.rel h r G).cU λ_ V=>Cv.nw V r
def JT{B' e sz m:Nat}(h:w.ownsRow B e sz v m xs)(N:B'<=B):w.ownsRow B' e sz v m xs:=⟨h.1,h.2.imp id λ⟨g,cap,cur,k1,k2,k3⟩=>⟨g,cap,cur,k1,be,k3⟩⟩
def wW(a b:List Nat):eW (a++b)=eW a++eW b:=by simp[eW]
def tJ{m:Nat}(h:w.ownsRow B T.int 1 v m (cs.map (Value.int .i64)))(hm:m=cs.length)(hl:m<=maxLen):eM w (λg=>v.ownBlock=some g) v cs:=by
 subst hm;rcases h.2 with⟨rfl,h0⟩|⟨g,cap,cur,rfl,N,hc,SJ,RE,QG,RX⟩
 .have:cs=[]:=List.eq_nil_of_length_eq_zero h0;subst this;exact⟨by simp[maxLen],ce,ce,none,0,rfl,lr,ce⟩
 .refine⟨hl,h.1,λu hu=>by simp at hu;obtain⟨_,_,rfl⟩:=hu;rfl,_,cap,rfl,SJ,λj u hu=>⟨_,rfl,rfl,?_⟩⟩;exact h.cells (g:=g) rfl j u hu
def Dg.append(ha:Dg a)(N:Dg b):Dg (a++b):=λx Z=>(az.1 Z).elim (ha x) (N x)
def yQ(a b:List Nat):nP (a++b)=nP a+up a.length*nP b:=by
 unfold nP;rw[bp,CB,aO]
def B7(hd:Dg ds):Nz (eK (iL ds))/\(val (eK (iL ds)):Int)=nP ds:=by
 obtain⟨Y,I,_⟩:=AT ds hd;obtain⟨k1,k2,_⟩:=fH (iL ds);exact⟨k2,by rw[k1,Y]⟩
def xc(G:Old S w)(h:eM w S v cs)(N:∀c∈cs,-1152921504606846976<=c/\c<=1152921504606846976)(hl:cs.length<=100000000):
  eH PG Fd.lA #[v] w (eV w λv' F=>dV F (Nf w F) v' (dh cs)):=by
 obtain⟨a,c,rfl,hc⟩:=h.shape;obtain⟨hspec,hdg,S7⟩:=mS cs 0;obtain⟨hk1,TX⟩:=kz cs 0 N bv bv;rw[Int.add_zero]at hspec;refine xK ce ?_;refine cS (cR (GT:=λ_ J v' F=>∃o,v'= .tuple #[o,iV (dy cs 0).2]/\F.ownsRow J.heap.size T.int 1 o cs.length ((eW (dy cs 0).1).map (Value.int .i64))) (λO J r=>DZ (oS G r) (eM.cW h λg V=>rls (S:=S) r G (.inl V)) N be) ?_);rintro O wa v1 wb r L W ⟨o,rfl,Pm⟩;have Ri:wh [(wa.heap.size,wb.heap.size)] o:=λg V=>⟨_,_,aY.2 rfl,(ownsRow.low Pm g V).1,(ownsRow.low Pm g V).2⟩
 replace Pm:=JT Pm r.cY;generalize [(wa.heap.size,wb.heap.size)]=iv at*
 generalize hds:(dy cs 0).1=ds at*
 generalize K:(dy cs 0).2=k at*
 obtain⟨ao,co,rfl,hco⟩:=eZ Pm;apply bS<;>intro Rv
 .have Rv:=aK Rv;have hV:dh cs<0:=by
   have Y:=(AS hdg).2;rw[S7]at Y;have I:=MA cs.length;have h3:up cs.length*k<=up cs.length*(-1):=Int.mul_le_mul_of_nonneg_left be be;omega
  obtain⟨YI,hdg2',hdl2⟩:=mS (cs.map (- ·)) 0;have QZ:∀c∈cs.map (- ·),-1152921504606846976<=c/\c<=1152921504606846976:=λc hc=>by
   obtain⟨x,Z,rfl⟩:=bA.1 hc;have:=N x Z;omega
  obtain⟨hk1',hk2'⟩:=kz (cs.map (- ·)) 0 QZ bv bv;rw[Int.add_zero,H5,aO]at YI;rw[aO]at hdl2;have Sp:0<=(dy (cs.map (- ·)) 0).2:=by
   have Y:=(AS hdg2').2;rw[hdl2]at Y;have I:=MA cs.length;apply Decidable.byContradiction;intro h3;have h4:up cs.length*(dy (cs.map (- ·)) 0).2<=up cs.length*(-1):=Int.mul_le_mul_of_nonneg_left be be;omega
  refine⟨Nat×World,λz=>⟨[(0,sV a cs.length c),(2,pP 0 0),(3,sV ao cs.length co),(5,iZ z.1)],[(0,.box T.Int [.v (.bool false),.v nls])],1,iv,z.2⟩,λz=>cs.length-z.1,
   λz=>z.1<=cs.length/\Bq w z.2/\z.2.ownsRow w.heap.size T.int 1 (.slice ao cs.length co) cs.length (((cs.take z.1).map (- ·)++(eW ds).drop z.1).map (Value.int .i64)),?_,?_⟩
  .intro O J r;exact⟨(0,J),⟨ce,W.tr r.cg,by simpa using fW Pm Ri r⟩,sbgn [] r⟩
  rintro⟨i,w1⟩ ⟨R,W,Pm⟩;dsimp only at R W Pm ⊢;have hR:eM w1 S (.slice a cs.length c) cs:=eM.cW h λg V=>W.block g (G g V);apply bS<;>intro Pk
  .have Pk:=dL Pk;obtain⟨x,Z⟩:=gO cs i;obtain⟨SS,Q5⟩:=N x (aG Z);obtain⟨ad,rfl,q1,q2⟩:=hR.load Z;obtain⟨go,Ye⟩:∃g,ao=some ⟨g,0,none⟩:=by
    rcases Pm.2 with⟨_,h0⟩|⟨g,cap,cur,e,_⟩
    .omega
    .injection e with e;exact⟨g,e⟩
   subst Ye;refine⟨ad,rfl,be,iV x,λO J r=>?_,?_⟩
   .rw[aI,cZ (w:=w1) (F:=J) (by rw[da];exact rls (S:=S) r G (.inl q1))];exact q2
   refine⟨-x,wo,⟨go,0,none⟩,rfl,be,?_⟩;intro O J r;have To:=fW Pm Ri r;obtain⟨g',Sa,QK,RC,QR,QG⟩:=ml (nv:=[iV (-x)]) To rfl Pk rfl bv;injection Sa with Sa;injection Sa with Sa;subst Sa;rw[Ea (by rw[aO,aU,aO,bI,List.length_drop,fE,S7];omega)]at RC;have QQ:(⟨go,0,none⟩:Addr).add ((i:Int).toNat*1)=⟨go,i*1,none⟩:=by rw[aI,dD,aV]
   have Qe:=λid b N E=>Ri.not r (b:=go) rfl id b N E;have hgoB:=(ownsRow.low Pm go rfl).1;have hw':Bq w (setCells J ⟨go,i*1,none⟩ [iV (-x)]):=(W.tr r.cg).tr (Bel.grown QR (λg V=>by injection V with V;subst V;exact hgoB) r.cY);have hlist:(((cs.take i).map (- ·)++(eW ds).drop i).map (Value.int .i64)).set i (iV (-x))=((cs.take (i+1)).map (- ·)++(eW ds).drop (i+1)).map (Value.int .i64):=by
    rw[<-List.map_set];congr 1;have Ta:((cs.take i).map (- ·)).length=i:=by rw[aO,bI];omega
    obtain⟨d,hd⟩:∃d,(eW ds)[i]? =some d:=⟨_,aE (by rw[fE,S7];exact Pk)⟩
    have RS:(eW ds).drop i=d::(eW ds).drop (i+1):=by
     rw[List.drop_eq_getElem_cons (by rw[fE,S7];exact Pk)];congr 1;have:=aE (l:=eW ds) (i:=i) (by rw[fE,S7];exact Pk);rw[hd]at this;injection this with this;exact this.symm
    rw[bH,Z,bp,RS,List.set_append_right _ _ be,Ta,bV];simp
   refine⟨by rw[QQ],λj hj=>by rw[QQ];exact QK j hj,λid b N E=>by rw[QQ];exact Qe id b N E,λF RK=>?_⟩;have RK:F=setCells J ⟨go,i*1,none⟩ [iV (-x)]:=by rw[RK];exact congrArg (λx=>setCells J x _) QQ
   rw[<-RK]at RC hw'
   erw [hlist]at RC
   refine inc i ?_;intro I8 w3 r3;exact⟨(i+1,w3),⟨Pk,hw'.tr r3.cg,fW RC Ri r3⟩,sbgn [] r3,dec Pk⟩
  have Pk:i=cs.length:=by
   have:¬i<cs.length:=by simpa using Pk
   omega
  subst Pk;rw[bE,List.drop_of_length_le (by rw[fE,S7];exact ae _),List.append_nil]at Pm;refine⟨⟨be,be,be⟩,ao,cs.length,co,GC ao co,be,be,?_⟩;refine cS (cR (GT:=λ_ J v' F=>∃o,v'= .tuple #[o,iV (dy (cs.map (- ·)) 0).2]/\F.ownsRow J.heap.size T.int 1 o cs.length ((eW (dy (cs.map (- ·)) 0).1).map (Value.int .i64))) (λO J r=>?_) ?_)
  .have h8:=fW Pm Ri r;have h9:=tJ h8 (by rw[aO]) mx;have h10:=DZ (λg V=>(ownsRow.low h8 g V).2) h9 QZ (by rw[aO];omega);rw[aO]at h10;exact h10
  rintro O wc v1 wd r L QB ⟨o2,rfl,Q2⟩;have Sg:wh ((wc.heap.size,wd.heap.size)::iv) o2:=λg V=>⟨_,_,aF,(ownsRow.low Q2 g V).1,(ownsRow.low Q2 g V).2⟩
  replace Q2:=JT Q2 r.cY;replace W:=W.tr QB;generalize (wc.heap.size,wd.heap.size)::iv=iv2 at*
  generalize hds2:(dy (cs.map (- ·)) 0).1=ds2 at*
  generalize hkk2:(dy (cs.map (- ·)) 0).2=k2 at*
  obtain⟨kn,rfl⟩:∃kn:Nat,k2=kn:=⟨k2.toNat,be⟩
  obtain⟨ao2,co2,rfl,hco2⟩:=eZ Q2;have ds2_len:ds2.length=cs.length:=hdl2;have ds2_dg:Dg ds2:=hdg2';refine cS (cR (GT:=λ_ J v F=>eM F (Nf J F) v (eW (dY kn))) (λO J r=>by exact Gl kn J be) ?_);rintro O ws vs wt r L N hsp;have Vv:eM wt (Cf w ((ws.heap.size,wt.heap.size)::iv2)) vs (eW (dY kn)):=eM.cU hsp λg V=>V.ef r.cY aF;replace Q2:=ownsRow.cW (fW Q2 Sg r) λg V=>L.block g (by have:=(ownsRow.low (fW Q2 Sg r) g V).2;exact this);replace Sg:wh ((ws.heap.size,wt.heap.size)::iv2) _:=Sg.mono λp hp=>aD _ hp;replace W:=W.tr N;generalize (ws.heap.size,wt.heap.size)::iv2=oB at*
  obtain⟨asp,csp,rfl,-⟩:=Vv.shape;rw[fE]at Vv ⊢;have UA:=kF (n:=kn) (k:=4) be;have hsd:=(mU kn).2
  refine .inr (iC hτ lr (xs:=(eW ds2).map (Value.int .i64)) (news:=(eW (dY kn)).map (Value.int .i64)) (m:=cs.length) (k:=(dY kn).length) d8 d8 bv d8 d8 (λO J r=>⟨fW Q2 Sg r,λg V=>Sg.not r V⟩) (by simp[eW]) (by intro u hu;simp at hu;obtain⟨_,_,rfl⟩:=hu;rfl) mx be
   (λO J r=>?_) (λv' F=>e9 v') (λO J v' F r QG SQ=>wV Sg r SQ) (λO J v' F r h5 h6 h7=>?_))
  .obtain⟨_,_,_,a2,c2,e2,_,e3⟩:=Vv;injection e2 with e4 e5 e6;subst e4 e6
   cases asp with
   |none=>
    have h0:(dY kn).length=0:=by
     rcases bB (dY kn).length with h0|h0
     .exact h0
     .obtain⟨ad2,q1,_⟩:=e3 0 _ (aE (show 0<((eW (dY kn)).map (Value.int .i64)).length by simp[eW];exact h0))
      cases q1
    exact .inl ⟨csp,by rw[h0];rfl,h0⟩
   |some ad3=>
    refine .inr ⟨ad3,csp,rfl,λj u hu=>?_⟩;obtain⟨ad2,q1,q2,q3⟩:=e3 j u hu;injection q1 with q1;subst q1;rw[cZ (w:=wt) (F:=J) (by rw[da];exact rls r oF q2)];exact q3
  replace W:Bq w F:=(W.tr r.cg).tr (Bel.grown h6 (λg V=>by
   have:=(ownsRow.low Q2 g V).1;omega) r.cY)
  have hcat:(eW ds2).map (Value.int .i64)++(eW (dY kn)).map (Value.int .i64)=(eW (ds2++dY kn)).map (Value.int .i64):=by rw[wW,bp]
  rw[hcat]at h5;have Td:cs.length+(dY kn).length=(eW (ds2++dY kn)).length:=by rw[fE,aU,ds2_len]
  have YJ:Dg (ds2++dY kn):=ds2_dg.append hsd;have Qn:(ds2++dY kn).length<=1000000000:=by rw[aU,ds2_len];omega
  obtain⟨a3,c3,rfl,-⟩:=eZ h5;refine cS (cR (GT:=λ_ J v' F=>∃lv,v'= .agg #[.bool false,lv]/\dW F (Nf J F) lv (eK (iL (ds2++dY kn)))) (λO J r=>?_) ?_)
  .have h8:=fW h5 (wh.row _) r;have h9:=tJ h8 Td mx;have h10:=Gm (w:=J) (λg V=>(ownsRow.low h8 g V).2) h9 YJ Qn;exact h10
  rintro O wp v1 wq r L N ⟨lv,rfl,hL⟩;have XB:=hL.ef (S:=FF) r.cY (iv:=[(wp.heap.size,wq.heap.size)]) aF;have XB:dW wq (Cf w ((wp.heap.size,wq.heap.size)::e9 (.slice a3 (cs.length+(dY kn).length) c3))) lv (eK (iL (ds2++dY kn))):=hL.cU λg V=>V.ef r.cY aF;replace W:=W.tr N;generalize (wp.heap.size,wq.heap.size)::e9 (.slice a3 (cs.length+(dY kn).length) c3)=ivq at*
  obtain⟨hnz,hvv⟩:=B7 YJ;obtain⟨a4,n4,c4,rfl⟩:=XB.shape;have Xr: -dh cs=nP (ds2++dY kn):=by rw[YI,yQ,(mU kn).1,ds2_len]
  obtain⟨pp,XW,hpp⟩:=XB.la;injection XW with Vt ZL Vu;subst Vt ZL Vu;have hlenpos:0<pp.ls.length:=by
   rw[hpp];rcases bB (eK (iL (ds2++dY kn))).length with h0|h0
   .rw[List.eq_nil_of_length_eq_zero h0]at hvv;simp[val]at hvv;omega
   .exact h0
  intro GE we re;refine⟨_,rfl,W.tr re.cg,eK (iL (ds2++dY kn)),⟨_,?_,XB.out re oF⟩,hnz,?_⟩
  .rw[bY hV];have:decide ((pp.ls.length:Int)>0)=true:=bY be;rw[<-this];rfl
  .have:((val (eK (iL (ds2++dY kn))):Nat):Int)= -dh cs:=by rw[hvv,Xr]
   omega
 .have Rv:=aL Rv;obtain⟨kn,rfl⟩:∃kn:Nat,k=kn:=⟨k.toNat,be⟩
  have ds_len:ds.length=cs.length:=S7;have ds_dg:Dg ds:=hdg;refine cS (cR (GT:=λ_ J v F=>eM F (Nf J F) v (eW (dY kn))) (λO J r=>by exact Gl kn J be) ?_);rintro O ws vs wt r L N hsp;have Vv:eM wt (Cf w ((ws.heap.size,wt.heap.size)::iv)) vs (eW (dY kn)):=eM.cU hsp λg V=>V.ef r.cY aF;replace Pm:=ownsRow.cW (fW Pm Ri r) λg V=>L.block g (by have:=(ownsRow.low (fW Pm Ri r) g V).2;exact this);replace Ri:wh ((ws.heap.size,wt.heap.size)::iv) _:=Ri.mono λp hp=>aD _ hp;replace W:=W.tr N;generalize (ws.heap.size,wt.heap.size)::iv=oB at*
  obtain⟨asp,csp,rfl,-⟩:=Vv.shape;rw[fE]at Vv ⊢;have UA:=kF (n:=kn) (k:=4) be;have hsd:=(mU kn).2
  refine .inr (iC hτ lr (xs:=(eW ds).map (Value.int .i64)) (news:=(eW (dY kn)).map (Value.int .i64)) (m:=cs.length) (k:=(dY kn).length) d8 d8 bv d8 d8 (λO J r=>⟨fW Pm Ri r,λg V=>Ri.not r V⟩) (by simp[eW]) (by intro u hu;simp at hu;obtain⟨_,_,rfl⟩:=hu;rfl) mx be
   (λO J r=>?_) (λv' F=>e9 v') (λO J v' F r QG SQ=>wV Ri r SQ) (λO J v' F r h5 h6 h7=>?_))
  .obtain⟨_,_,_,a2,c2,e2,_,e3⟩:=Vv;injection e2 with e4 e5 e6;subst e4 e6
   cases asp with
   |none=>
    have h0:(dY kn).length=0:=by
     rcases bB (dY kn).length with h0|h0
     .exact h0
     .obtain⟨ad2,q1,_⟩:=e3 0 _ (aE (show 0<((eW (dY kn)).map (Value.int .i64)).length by simp[eW];exact h0))
      cases q1
    exact .inl ⟨csp,by rw[h0];rfl,h0⟩
   |some ad3=>
    refine .inr ⟨ad3,csp,rfl,λj u hu=>?_⟩;obtain⟨ad2,q1,q2,q3⟩:=e3 j u hu;injection q1 with q1;subst q1;rw[cZ (w:=wt) (F:=J) (by rw[da];exact rls r oF q2)];exact q3
  replace W:Bq w F:=(W.tr r.cg).tr (Bel.grown h6 (λg V=>by
   have:=(ownsRow.low Pm g V).1;omega) r.cY)
  have hcat:(eW ds).map (Value.int .i64)++(eW (dY kn)).map (Value.int .i64)=(eW (ds++dY kn)).map (Value.int .i64):=by rw[wW,bp]
  rw[hcat]at h5;have Td:cs.length+(dY kn).length=(eW (ds++dY kn)).length:=by rw[fE,aU,ds_len]
  have YJ:Dg (ds++dY kn):=ds_dg.append hsd;have Qn:(ds++dY kn).length<=1000000000:=by rw[aU,ds_len];omega
  obtain⟨a3,c3,rfl,-⟩:=eZ h5;refine cS (cR (GT:=λ_ J v' F=>∃lv,v'= .agg #[.bool false,lv]/\dW F (Nf J F) lv (eK (iL (ds++dY kn)))) (λO J r=>?_) ?_)
  .have h8:=fW h5 (wh.row _) r;have h9:=tJ h8 Td mx;have h10:=Gm (w:=J) (λg V=>(ownsRow.low h8 g V).2) h9 YJ Qn;exact h10
  rintro O wp v1 wq r L N ⟨lv,rfl,hL⟩;have XB:=hL.ef (S:=FF) r.cY (iv:=[(wp.heap.size,wq.heap.size)]) aF;have XB:dW wq (Cf w ((wp.heap.size,wq.heap.size)::e9 (.slice a3 (cs.length+(dY kn).length) c3))) lv (eK (iL (ds++dY kn))):=hL.cU λg V=>V.ef r.cY aF;replace W:=W.tr N;generalize (wp.heap.size,wq.heap.size)::e9 (.slice a3 (cs.length+(dY kn).length) c3)=ivq at*
  obtain⟨hnz,hvv⟩:=B7 YJ;obtain⟨a4,n4,c4,rfl⟩:=XB.shape;intro GE we re;have Xr:dh cs=nP (ds++dY kn):=by rw[hspec,yQ,(mU kn).1,ds_len]
  refine⟨_,rfl,W.tr re.cg,eK (iL (ds++dY kn)),⟨_,?_,XB.out re oF⟩,hnz,?_⟩
  .have:¬dh cs<0:=by rw[Xr,<-hvv];omega
   rw[bD this];rfl
  .rw[Xr,<-hvv];rfl
def aAJ(n:Int):dh [n.tmod 65536,(n.tdiv 65536).tmod 65536,(n.tdiv 65536).tdiv 65536]=n:=by
 simp only[dh]
 have Y:=Int.mul_tdiv_add_tmod n 65536;have I:=Int.mul_tdiv_add_tmod (n.tdiv 65536) 65536;omega
def mL(n:Int)(w:World)(Y: -9223372036854775808<=n)(I:n<=9223372036854775807):
  eH PG Fd.Fw #[iV n] w (eV w λv F=>dV F (Nf w F) v n):=by
 refine Fz ce ?_;have b1:=xa n;have b2:=xa (n.tdiv 65536);have e1:=Int.mul_tdiv_add_tmod n 65536;have e2:=Int.mul_tdiv_add_tmod (n.tdiv 65536) 65536;have WU:=aAJ n;refine⟨bv,n.tmod 65536,rfl,bv,n.tdiv 65536,wo,bv,_,rfl,bv,n.tdiv 65536,wo,bv,(n.tdiv 65536).tdiv 65536,wo,?_⟩;generalize n.tmod 65536=c0 at*
 generalize (n.tdiv 65536).tmod 65536=c1 at*
 generalize (n.tdiv 65536).tdiv 65536=c2 at*
 refine cS (cR (GT:=λ_ J v F=>dV F (Nf J F) v n) (λO J r=>?_) ?_)
 .rw[<-WU];have ha:=r.jt (id:=1) (sz:=1) (n:=3) rfl rfl bv (by intro u hu;simp at hu;rcases hu with rfl|rfl|rfl<;>rfl)
  exact xc (S:=λg=>g=(O 1).g) (λg V=>by rw[V];exact(r.low 1 _ rfl (r.nn 1 _ rfl (by intros;simp) ce)).2) (cs:=[c0,c1,c2]) ha (by
   intro c hc;simp at hc
   rcases hc with rfl|rfl|rfl<;>omega) ce
 rintro O wa v1 wb r L N hI;have hI:=hI.ef (S:=FF) r.cY (iv:=(wa.heap.size,wb.heap.size)::[]) aF;generalize (wa.heap.size,wb.heap.size)::[]=iv at*
 obtain⟨b,a,m,c,rfl⟩:=hI.shape;intro GE we re;exact⟨_,rfl,N.tr re.cg,hI.out re oF⟩
def kc(z:Int):Value:=if z.natAbs<1073741824 then .tuple #[iV z,.bool true]else .tuple #[iV 0,.bool false]
def j3.BH(h:j3 w S v z):∃b a ls c,v= .agg #[.bool b,.slice a ls.length c]/\dW w S (.slice a ls.length c) ls/\sg b (val ls)=z:=by
 obtain⟨b,ls,⟨lv,Y,I⟩,h3⟩:=h;obtain⟨a,c,rfl,_⟩:=I.sl;exact⟨b,a,ls,c,Y,I,h3⟩
def OQ{i x:Nat}(h:ls[i]? =some x):wt i*x<=val ls:=by
 have R:=(aH.1 h).1;have Y:=fC ls (i+1) R;rw[eF h]at Y;omega
def aBD{i:Nat}(h:0<i):4294967296<=wt i:=by
 obtain⟨k,rfl⟩:∃k,i=k+1:=⟨i-1,be⟩
 have:=zg k;rw[jY];omega
def pH(G:Old S w)(hI:j3 w S v z):
  eH PG Fd.yI #[v] w (eV w λv' _=>v'=kc z):=by
 obtain⟨b,a,ls,c,rfl,hL,hz⟩:=hI.BH;refine Az ce ?_;have hlen:=hL.le
 refine⟨Nat×World,λy=>⟨[(1,pP 0 0),(4,.o (.v (iV (val (ls.take y.1))))),(5,iZ y.1)],[(0,.box T.Int [.v (.bool b),.v (.slice a ls.length c)])],1,[],y.2⟩,λy=>ls.length-y.1,
  λy=>y.1<=ls.length/\Bq w y.2/\val (ls.take y.1)<1073741824/\(∀j,0<j->j<y.1->ls[j]? =some 0),?_,?_⟩
 .intro O J r;exact⟨(0,J),⟨ce,r.cg,by simp[val],be⟩,sbgn [] r⟩
 rintro⟨i,w1⟩ ⟨R,W,hv,h0⟩;dsimp only at R W hv h0 ⊢;apply bS<;>intro Pk
 .have Pk:=dL Pk;obtain⟨a',c',e,_,Px⟩:=hL.sl;injection e with e1 e2 e3;subst e1 e3;obtain⟨x,Z⟩:=gO ls i;have Re:=hL.lm x (aG Z);obtain⟨ad,rfl,q1,q2⟩:=Px i x Z;have SU:∀{H nx iv O J},Rel H nx iv w.heap.size w1 O J->J.cell? (ad.add ((i:Int).toNat*1))=some (.int .u32 x):=λr=>by
   rw[aI,ah];exact gF G W r q1 q2
  have Ud:=OQ Z;apply bS<;>intro hp
  .have hp:0<i:=by
    have:(i:Int)>0:=aK hp;omega
   have hw1:=aBD hp;refine⟨ad,rfl,be,.int .u32 x,λO J r=>SU r,?_⟩;apply bS<;>intro Po
   .have Po:x≠0:=by simpa using Po
    intro GE we re;refine⟨_,rfl,W.tr re.cg,?_⟩;have:¬z.natAbs<1073741824:=by
     have:=Nat.mul_le_mul hw1 (show 1<=x by omega);rw[<-hz,oN];omega
    show _=kc z;rw[kc,aJ this];rfl
   .have Po:x=0:=by simpa using Po
    subst Po;refine⟨ad,rfl,be,.int .u32 0,λO J r=>SU r,?_⟩;have Vf:val (ls.take (i+1))=val (ls.take i):=by rw[eF Z];omega
    have S5:val (ls.take (i+1))<1073741824:=by rw[Vf];exact hv
    have h02:∀j,0<j->j<i+1->ls[j]? =some 0:=λj Y I=>by
     rcases aW j i with h3|h3
     .exact h0 j Y h3
     .have:j=i:=by omega
      rw[this];exact Z
    refine⟨ad,rfl,be,.int .u32 0,λO J r=>SU r,((0:Nat):Int),bv,((val (ls.take (i+1)):Nat):Int),by rw[Vf,wrap64]<;>omega,((i+1:Nat):Int),wo,?_⟩;intro I8 w3 r3;exact⟨(i+1,w3),⟨Pk,W.tr r3.cg,S5,h02⟩,sbgn [] r3,dec Pk⟩
  .have hp:i=0:=by
    have:¬((i:Int)>0):=aL hp;omega
   subst hp;refine⟨ad,rfl,be,.int .u32 x,λO J r=>SU r,?_⟩;apply bS<;>intro ZQ
   .have ZQ:=aK ZQ;intro GE we re;refine⟨_,rfl,W.tr re.cg,?_⟩;have:¬z.natAbs<1073741824:=by
     rw[<-hz,oN];rw[jm]at Ud;omega
    show _=kc z;rw[kc,aJ this];rfl
   .have ZQ:=aL ZQ;have Vf:val (ls.take (0+1))=x:=by rw[eF Z];simp[val,jm]
    have S5:val (ls.take (0+1))<1073741824:=by rw[Vf];omega
    have h02:∀j,0<j->j<0+1->ls[j]? =some 0:=λj Y I=>by
     omega
    refine⟨ad,rfl,be,.int .u32 x,λO J r=>SU r,((x:Nat):Int),wo,((val (ls.take (0+1)):Nat):Int),by rw[Vf,wrap64]<;>simp[val]<;>omega,((0+1:Nat):Int),wo,?_⟩;intro I8 w3 r3;exact⟨(0+1,w3),⟨Pk,W.tr r3.cg,S5,h02⟩,sbgn [] r3,by dsimp only;omega⟩
 .have Pk:i=ls.length:=by
   have:¬i<ls.length:=by simpa using Pk
   omega
  subst Pk;rw[bE]at hv ⊢;have QU:z.natAbs<1073741824:=by rw[<-hz,oN];exact hv
  cases b with
  |true=>
   refine⟨-(val ls:Int),wo,?_⟩;intro GE we re;refine⟨_,rfl,W.tr re.cg,?_⟩;show _=kc z;rw[kc,aM QU,<-hz,KO];rfl
  |false=>
   intro GE we re;refine⟨_,rfl,W.tr re.cg,?_⟩;show _=kc z;rw[kc,aM QU,<-hz,PY];rfl
def D3{a b:Int}(N:b≠0):a.tdiv (b.sign*(Nat.gcd a.natAbs b.natAbs:Nat))=(Rat.divInt a b).num/\b.tdiv (b.sign*(Nat.gcd a.natAbs b.natAbs:Nat))=((Rat.divInt a b).den:Int):=by
 have V:0<Nat.gcd a.natAbs b.natAbs:=cK _ be;obtain⟨k,K⟩:((Nat.gcd a.natAbs b.natAbs:Nat):Int) ∣ a:=by rw[<-Int.natAbs_dvd_natAbs];exact Nat.gcd_dvd_left _ _
 obtain⟨l,hl⟩:((Nat.gcd a.natAbs b.natAbs:Nat):Int) ∣ b:=by rw[<-Int.natAbs_dvd_natAbs];exact Nat.gcd_dvd_right _ _
 have hc:(b.gcd a:Int)=(Nat.gcd a.natAbs b.natAbs:Nat):=by rw[Int.gcd_comm];rfl
 have SN:b.gcd a=Nat.gcd a.natAbs b.natAbs:=by rw[Int.gcd_comm];rfl
 rw[Rat.num_divInt,Rat.den_divInt,aJ N,hc,SN];generalize Nat.gcd a.natAbs b.natAbs=g at*
 have hgi:(g:Int)≠0:=by omega
 have hs:b.sign*b.sign=1:=by
  rcases Int.lt_or_gt_of_ne N with h|h
  .rw[cG h];rfl
  .rw[cJ h];rfl
 have hs0:b.sign≠0:=λe=>by rw[e]at hs;simp at hs
 have Po:b.sign*g≠0:=Int.mul_ne_zero hs0 hgi;have TR:((b.natAbs / g:Nat):Int)=b.sign*l:=by
  rw[Int.natCast_ediv,show((b.natAbs:Nat):Int)=b.sign*b by
   rcases Int.lt_or_gt_of_ne N with h|h
   .rw[cG h];omega
   .rw[cJ h];omega]
  conv=>lhs;lhs;rhs;rw[hl]
  rw[show b.sign*(↑g*l)= ↑g*(b.sign*l) by rw[<-Int.mul_assoc,<-Int.mul_assoc,Int.mul_comm b.sign]];exact Int.mul_ediv_cancel_left _ hgi
 constructor
 .rw[show b.sign*a / (g:Int)=b.sign*k by
   conv=>lhs;lhs;rhs;rw[K]
   rw[show b.sign*(↑g*k)= ↑g*(b.sign*k) by rw[<-Int.mul_assoc,<-Int.mul_assoc,Int.mul_comm b.sign]]
   exact Int.mul_ediv_cancel_left _ hgi]
  conv=>lhs;lhs;rw[K,show(g:Int)*k=(b.sign*g)*(b.sign*k) by
   rw[show (b.sign* ↑g)*(b.sign*k)=(b.sign*b.sign)*(↑g*k) by simp only[Int.mul_assoc,Int.mul_comm,Int.mul_left_comm],hs,Int.one_mul]]
  exact Int.mul_tdiv_cancel_left _ Po
 .rw[TR]
  conv=>lhs;lhs;rw[hl,show(g:Int)*l=(b.sign*g)*(b.sign*l) by
   rw[show (b.sign* ↑g)*(b.sign*l)=(b.sign*b.sign)*(↑g*l) by simp only[Int.mul_assoc,Int.mul_comm,Int.mul_left_comm],hs,Int.one_mul]]
  exact Int.mul_tdiv_cancel_left _ Po
def tK(a b:Int)(w:World)(ha:a.natAbs<4611686018427387904)(N:b.natAbs<4611686018427387904)(Ti:b≠0):
  eH PG Fd.vt #[iV a,iV b] w (eV w λv F=>dH F (Nf w F) v (Rat.divInt a b)):=by
 refine yg ce ?_;refine⟨-a,wo,-b,wo,?_⟩;conv=>whnf
 rw[show max a (-a)=(a.natAbs:Int) by omega,show max b (-b)=(b.natAbs:Int) by omega]
 refine⟨Nat×Nat×World,λz=>⟨[(0,iZ a),(1,iZ b),(4,pP 0 0),(5,iZ z.1),(6,iZ z.2.1)],[(0,.box T.Rat [.v (.bool false),.v nls,.v (.bool false),.v nls])],1,[],z.2.2⟩,λz=>z.2.1,
  λz=>Bq w z.2.2/\Nat.gcd z.1 z.2.1=Nat.gcd a.natAbs b.natAbs/\z.1<4611686018427387904/\z.2.1<4611686018427387904,?_,?_⟩
 .intro O J r;exact⟨(a.natAbs,b.natAbs,J),⟨r.cg,rfl,ha,N⟩,sbgn [] r⟩
 rintro⟨x,y,w1⟩ ⟨W,V,Z,hy⟩;dsimp only at W V Z hy ⊢;conv=>whnf
 apply bS<;>intro h
 .have h:0<y:=by
   have:(y:Int)>0:=aK h;omega
  refine dP (idO 6) ?_;have hm:=cL x h;refine⟨be,((x % y:Nat):Int),rfl,?_⟩;intro I8 w3 r3;exact⟨(y,x % y,w3),⟨W.tr r3.cg,by dsimp only;rw[<-V,Nat.gcd_comm x y,Nat.gcd_rec y x,Nat.gcd_comm],hy,by dsimp only;omega⟩,sbgn [] r3,by dsimp only;omega⟩
 have h:y=0:=by
  have:¬(y:Int)>0:=aL h;omega
 subst h;rw[Nat.gcd_zero_right]at V;have RI:x≠0:=by rw[V];exact Nat.pos_iff_ne_zero.1 (cK _ be)
 obtain⟨E,hd⟩:=D3 (a:=a) Ti;rw[<-V]at E hd;have bn:(Rat.divInt a b).num.natAbs<=a.natAbs:=by rw[<-E];exact Int.natAbs_tdiv_le_natAbs _ _
 have bd:((Rat.divInt a b).den:Int).natAbs<=b.natAbs:=by rw[<-hd];exact Int.natAbs_tdiv_le_natAbs _ _
 apply bS<;>intro Sw
 .have Sw:=aK Sw;rw[cG Sw,Int.neg_one_mul]at E hd;refine⟨-(x:Int),wo,?_⟩;refine dP [.x 0,.x 1,.x 2,.x 4,.x 5,.x 6,.x 3,.x 7,.x 8,.x 9] ?_;refine⟨be,(Rat.divInt a b).num,by rw[E,wrap64]<;>omega,be,((Rat.divInt a b).den:Int),by rw[hd,wrap64]<;>omega,?_⟩;refine cR (GT:=λ_ J v F=>dV F (Nf J F) v (Rat.divInt a b).num) (λO J r=>mL _ J be be) ?_;rintro O wa v1 wb r L QB hI;replace W:=W.tr QB;have hN:=hI.ef (S:=FF) r.cY (iv:=(wa.heap.size,wb.heap.size)::[]) aF;generalize (wa.heap.size,wb.heap.size)::[]=iv at*
  obtain⟨b1,a1,m1,c1,rfl⟩:=hN.shape;refine cR (GT:=λ_ J v F=>dV F (Nf J F) v ((Rat.divInt a b).den:Int)) (λO J r=>mL _ J be be) ?_;rintro O wa v1 QP r L QB hI;replace W:=W.tr QB;replace hN:=hN.cV (A:=(wa.heap.size,QP.heap.size)::iv) r oF L λx Z=>aD _ Z;have hD:=hI.ef (S:=FF) r.cY (iv:=(wa.heap.size,QP.heap.size)::iv) aF;generalize (wa.heap.size,QP.heap.size)::iv=iv2 at*
  obtain⟨b2,a2,m2,c2,rfl⟩:=hD.shape;exact rtn W λGE we re=>(dH.of hN hD).out re oF
 .have Sw:=aL Sw;rw[cJ be,Int.one_mul]at E hd;refine dP [.x 0,.x 1,.x 2,.x 4,.x 5,.x 6,.x 3,.x 7,.x 8,.x 9] ?_;refine⟨be,(Rat.divInt a b).num,by rw[E,wrap64]<;>omega,be,((Rat.divInt a b).den:Int),by rw[hd,wrap64]<;>omega,?_⟩;refine cR (GT:=λ_ J v F=>dV F (Nf J F) v (Rat.divInt a b).num) (λO J r=>mL _ J be be) ?_;rintro O wa v1 wb r L QB hI;replace W:=W.tr QB;have hN:=hI.ef (S:=FF) r.cY (iv:=(wa.heap.size,wb.heap.size)::[]) aF;generalize (wa.heap.size,wb.heap.size)::[]=iv at*
  obtain⟨b1,a1,m1,c1,rfl⟩:=hN.shape;refine cR (GT:=λ_ J v F=>dV F (Nf J F) v ((Rat.divInt a b).den:Int)) (λO J r=>mL _ J be be) ?_;rintro O wa v1 QP r L QB hI;replace W:=W.tr QB;replace hN:=hN.cV (A:=(wa.heap.size,QP.heap.size)::iv) r oF L λx Z=>aD _ Z;have hD:=hI.ef (S:=FF) r.cY (iv:=(wa.heap.size,QP.heap.size)::iv) aF;generalize (wa.heap.size,QP.heap.size)::iv=iv2 at*
  obtain⟨b2,a2,m2,c2,rfl⟩:=hD.shape;exact rtn W λGE we re=>(dH.of hN hD).out re oF
def wX(h:z.natAbs<1073741824):kc z= .tuple #[iV z,.bool true]:=aM h
def Ec{x y:Int}(G:Old S w)(Z:j3 w S v x)(hy:j3 w S u y)(Xh:x.natAbs<1073741824)(hys:y.natAbs<1073741824)(Sk:y≠0):
  eH PG Fd.uS #[v,u] w (eV w λv' F=>dH F (Nf w F) v' (Rat.divInt x y)):=by
 have W:=bR w;replace Z:=Z.cU (S':=Cv S w.heap.size []) λ_ h=>.inl h;replace hy:=hy.cU (S':=Cv S w.heap.size []) λ_ h=>.inl h;obtain⟨bx,ax,lx,cx,rfl⟩:=Z.shape;obtain⟨b2,ay,ly,cy,rfl⟩:=hy.shape;refine tk ce ?_;refine cS (cE W (pE (.tuple #[iV x,.bool true])) (λO J r=>(pH (rlo r G) (Z.rel r G)).mono λe F ⟨v2,e1,e2,e3⟩=>⟨v2,e1,e2,by rw[e3,wX Xh]⟩) ?_);rintro O QJ v1 QH Pt r L W h_ rfl;replace Z:=Z.cV r G L (mC h_);replace hy:=hy.cV r G L (mC h_);refine cS (cE W (pE (.tuple #[iV y,.bool true])) (λO J r=>(pH (rlo r G) (hy.rel r G)).mono λe F ⟨v2,e1,e2,e3⟩=>⟨v2,e1,e2,by rw[e3,wX hys]⟩) ?_);rintro O _ v1 _ iv2 r L W h_ rfl;refine cS (cE W (pR dH (Rat.divInt x y)) (λO J r=>tK x y J be be Sk) ?_);rintro O _ _ _ iv r L W h_ hI;have hR:=hI.cU (nw r h_);obtain⟨b1,a1,m1,c1,b3,a3,m3,c3,rfl⟩:=hR.shape;exact rtn W λGE we re=>hR.out re oF
def B8(n:Int):Rat.divInt n 1=(n:Rat):=by
 have:=Rat.num_divInt_den (n:Rat);rw[Rat.num_intCast,Rat.den_intCast]at this;exact this
def fZ(n:Int)(w:World)(E:n.natAbs<1073741824):
  eH PG Fd.rZ #[iV n] w (eV w λv' F=>dH F (Nf w F) v' (n:Rat)):=by
 have W:=bR w;refine sA ce ?_;refine cS (cR (GT:=λ_ J v F=>dV F (Nf J F) v n) (λO J r=>mL _ J be be) ?_);rintro O wa v1 wb r L QB hI;replace W:=W.tr QB;have hN:=hI.ef (S:=FF) r.cY (iv:=(wa.heap.size,wb.heap.size)::[]) aF;generalize (wa.heap.size,wb.heap.size)::[]=iv at*
 obtain⟨b1,a1,m1,c1,rfl⟩:=hN.shape;refine cS (cR (GT:=λ_ J v F=>dV F (Nf J F) v 1) (λO J r=>mL _ J be be) ?_);rintro O wa v1 QP r L QB hI;replace W:=W.tr QB;replace hN:=hN.cV (A:=(wa.heap.size,QP.heap.size)::iv) r oF L λx Z=>aD _ Z;have hD:=hI.ef (S:=FF) r.cY (iv:=(wa.heap.size,QP.heap.size)::iv) aF;generalize (wa.heap.size,QP.heap.size)::iv=iv2 at*
 obtain⟨b2,a2,m2,c2,rfl⟩:=hD.shape;refine cS (cE W (pR dH (Rat.divInt n 1)) (λO J r=>Ec (rlo r oF) (hN.rel r oF).r (hD.rel r oF).r E bv bv) ?_);rintro O _ _ _ iv r L W h_ hI;have hR:=hI.cU (nw r h_);obtain⟨b1,a1,m1,c1,b3,a3,m3,c3,rfl⟩:=hR.shape;rw[B8]at hR;exact rtn W λGE we re=>hR.out re oF
def OR{n1 n2:Bool}{ms:List Nat}(G:Old S w)(Z:wM w S v n1 ls)(hy:wM w S u n2 ms):
  eH PG Fd.oJ #[v,u] w (eV w λv' _=>v'= .bool (decide (n1=n2/\ls=ms))):=by
 obtain⟨lv,rfl,Y⟩:=Z;obtain⟨mv,rfl,I⟩:=hy;obtain⟨a,c,rfl,_,ha⟩:=Y.sl;obtain⟨b,e,rfl,_,N⟩:=I.sl;have hle1:=Y.le;have Xx:=I.le;have W:=bR w;refine xG ce ?_;apply bS<;>intro E
 .have E:n1≠n2:=λh=>by rw[h]at E;simp at E
  intro O F r;exact⟨_,rfl,r.cg,by rw[bD (λh=>E h.1)];rfl⟩
 have E:n1=n2:=by simpa using E
 subst E;apply bS<;>intro h
 .have h:ls.length≠ms.length:=λL=>by rw[L]at h;simp at h
  intro O F r;exact⟨_,rfl,r.cg,by rw[bD (λe=>h (by rw[e.2]))];rfl⟩
 have h:ls.length=ms.length:=by
  have:(ls.length:Int)=ms.length:=by simpa using h
  omega
 refine⟨Nat×World,λz=>⟨[(2,pP 0 0),(3,pP 1 0),(5,iZ z.1)],[(1,.box T.Int [.v (.bool n1),.v (.slice b ms.length e)]),(0,.box T.Int [.v (.bool n1),.v (.slice a ls.length c)])],2,[],z.2⟩,λz=>ls.length-z.1,
  λz=>z.1<=ls.length/\Bq w z.2/\ls.take z.1=ms.take z.1,?_,?_⟩
 .intro O J r;exact⟨(0,J),⟨ce,r.cg,ce⟩,sbgn [] r⟩
 rintro⟨i,w1⟩ ⟨R,W,ht⟩;dsimp only at R W ht ⊢;apply bS<;>intro Pk
 .have Pk:=dL Pk;obtain⟨x,Z⟩:=gO ls i;obtain⟨y,hy⟩:=gO ms i;obtain⟨ad,rfl,q1,q2⟩:=ha i x Z;obtain⟨ad2,rfl,q3,q4⟩:=N i y hy;have RA:∀{H nx iv O J},Rel H nx iv w.heap.size w1 O J->J.cell? (ad.add ((i:Int).toNat*1))=some (.int .u32 x):=λr=>by
   rw[aI,ah];exact gF G W r q1 q2
  have RZ:∀{H nx iv O J},Rel H nx iv w.heap.size w1 O J->J.cell? (ad2.add ((i:Int).toNat*1))=some (.int .u32 y):=λr=>by
   rw[aI,ah];exact gF G W r q3 q4
  refine dP (idO 11) ?_;refine⟨ad,rfl,be,.int .u32 x,λO J r=>RA r,ad2,rfl,be,.int .u32 y,λO J r=>RZ r,?_⟩;apply bS<;>intro Po
  .have Po:x≠y:=λh=>by rw[h]at Po;simp at Po
   intro O F r;refine⟨_,rfl,W.tr r.cg,?_⟩
   rw[bD (λe=>Po (by
    have:=e.2;rw[this,hy]at Z;injection Z with Z
    exact Z.symm))]
   rfl
  have Po:x=y:=by
   have:(x:Int)=y:=by simpa using Po
   omega
  subst Po;have WC:ls.take (i+1)=ms.take (i+1):=by rw[bH,bH,ht,Z,hy]
  refine inc i ?_;intro I8 w3 r3;exact⟨(i+1,w3),⟨Pk,W.tr r3.cg,WC⟩,sbgn [] r3,dec Pk⟩
 have Pk:i=ls.length:=by
  have:¬i<ls.length:=by simpa using Pk
  omega
 subst Pk;rw[bE,h,bE]at ht;intro O F r;exact⟨_,rfl,W.tr r.cg,by rw[bY ⟨rfl,ht⟩];rfl⟩
def Ko(la:Lm a)(lb:Lm b)(na:Nz a)(nb:Nz b)(h:val a=val b):a=b:=by
 have:a.length=b.length:=by
  rcases cO a.length b.length with Y|Y|Y
  .have:=jZ la nb Y;omega
  .exact Y
  .have:=jZ lb na Y;omega
 exact val_inj la lb this h
def mf{x y:Int}(G:Old S w)(Z:dV w S v x)(hy:dV w S u y):
  eH PG Fd.oJ #[v,u] w (eV w λv' _=>v'= .bool (decide (x=y))):=by
 obtain⟨ls,Y,I,h3⟩:=Z;obtain⟨ms,k1,k2,k3⟩:=hy;have e:decide (decide (x<0)=decide (y<0)/\ls=ms)=decide (x=y):=by
  refine decide_eq_decide.2 ⟨λ⟨e1,e2⟩=>?_,λe1=>?_⟩
  .have e1:=decide_eq_decide.1 e1;rw[e2]at h3;omega
  .subst e1;obtain⟨_,_,l1⟩:=Y;obtain⟨_,_,l2⟩:=k1;exact⟨rfl,Ko l1.lm l2.lm I k2 be⟩
 exact(OR G Y k1).mono λ_ F ⟨v2,e1,e2,e3⟩=>⟨v2,e1,e2,by rw[e3,e]⟩
def aAK{p q:Rat}(G:Old S w)(Z:dH w S v p)(hy:dH w S u q):
  eH PG Fd.uT #[v,u] w (eV w λv' _=>v'= .bool (decide (p=q))):=by
 obtain⟨b1,a1,n1,c1,b2,a2,n2,c2,rfl⟩:=Z.shape;obtain⟨b3,a3,n3,c3,b4,a4,n4,c4,rfl⟩:=hy.shape;refine tm ce ?_;refine cS (cR (GT:=λ_ J v F=>v= .bool (decide (p.num=q.num))) (λO J r=>mf (oS G r) (Z.num.cW λg V=>r.cg.block g (G g V)) (hy.num.cW λg V=>r.cg.block g (G g V))) ?_);rintro O wa v1 wb r L N rfl;have W:=N;generalize (wa.heap.size,wb.heap.size)::[]=iv at*
 apply bS<;>intro h
 .have h:=aK h;refine cS (cE W (pE (.bool (decide ((p.den:Int)=q.den)))) (λO J r=>mf (oS G r) (Z.den.cW (kS W r G)) (hy.den.cW (kS W r G))) ?_);rintro O _ _ _ iv2 r L W h_ rfl;intro GE we re;refine⟨_,rfl,W.tr re.cg,?_⟩;have:decide (p=q)=decide ((p.den:Int)=q.den):=decide_eq_decide.2 ⟨λe=>by rw[e],λe=>Rat.ext h be⟩;rw[this];rfl
 .have h:=aL h;intro GE we re;refine⟨_,rfl,W.tr re.cg,?_⟩;rw[bD (λe=>h (by rw[e]))];rfl
def B9{xs ys:List Rat}(G:Old S w)(Z:cd w S v xs)(hy:cd w S u ys):
  eH PG Fd.r8 #[v,u] w (eV w λv' _=>v'= .bool (decide (xs=ys))):=by
 obtain⟨a,c,rfl,hc,hm⟩:=dK.shape Z;obtain⟨b,e,rfl,SN,VI⟩:=dK.shape hy;unfold maxLen at hm VI;refine wG ce ?_;apply bS<;>intro h
 .have h:xs.length≠ys.length:=λL=>by rw[L]at h;simp at h
  intro O F r;exact⟨_,rfl,r.cg,by rw[bD (λe=>h (by rw[e]))];rfl⟩
 have h:xs.length=ys.length:=by
  have:(xs.length:Int)=ys.length:=by simpa using h
  omega
 refine⟨Nat×World,λz=>⟨[(0,sV a xs.length c),(1,sV b ys.length e),(5,iZ z.1)],[],0,[],z.2⟩,λz=>xs.length-z.1,
  λz=>z.1<=xs.length/\Bq w z.2/\xs.take z.1=ys.take z.1,?_,?_⟩
 .intro O J r;exact⟨(0,J),⟨ce,r.cg,ce⟩,sbgn [] r⟩
 rintro⟨i,w1⟩ ⟨R,W,ht⟩;dsimp only at R W ht ⊢;apply bS<;>intro Pk
 .have Pk:=dL Pk;obtain⟨x,QY⟩:=gO xs i;obtain⟨y,R5⟩:=gO ys i;obtain⟨ad2,cs2,rfl,Ty,-,Qn⟩:=dK.load hy R5;obtain⟨p2,q2,r2,s2,t2,u2,v2,F,rfl,Ty⟩:=Ty;obtain⟨ad,cs,rfl,hR,-,hl⟩:=dK.load Z QY;obtain⟨p1,q1,r1,s1,t1,u1,v1,w1,rfl,hR⟩:=hR;refine dP (idO 10) ?_;refine⟨ad,rfl,be,rC p1 q1 r1 s1 t1 u1 v1 w1,rfl,rdO hl W G,ad2,rfl,be,rC p2 q2 r2 s2 t2 u2 v2 F,rfl,rdO Qn W G,?_⟩;refine cE W (pE (.bool (decide (x=y)))) (λO J r=>aAK (oS G r) (hR.cW (kS W r G)) (Ty.cW (kS W r G))) ?_;rintro O _ _ _ iv2 r L W h_ rfl;apply bS<;>intro Po
  .have Po:x≠y:=λh=>by rw[h]at Po;simp at Po
   intro O F r;refine⟨_,rfl,W.tr r.cg,?_⟩
   rw[bD (λe=>Po (by
    rw[e,R5]at QY;injection QY with QY
    exact QY.symm))]
   rfl
  have Po:x=y:=by simpa using Po
  subst Po;have WC:xs.take (i+1)=ys.take (i+1):=by rw[bH,bH,ht,QY,R5]
  refine inc i ?_;intro I8 w3 r3;exact⟨(i+1,w3),⟨Pk,W.tr r3.cg,WC⟩,sbgn [] r3,dec Pk⟩
 have Pk:i=xs.length:=by
  have:¬i<xs.length:=by simpa using Pk
  omega
 subst Pk;rw[bE,h,bE]at ht;intro O F r;exact⟨_,rfl,W.tr r.cg,by rw[bY ht];rfl⟩
def Gn{xs ys:List (List Rat)}(G:Old S w)(Z:dX w S v xs)(hy:dX w S u ys):
  eH PG Fd.qS #[v,u] w (eV w λv' _=>v'= .bool (decide (xs=ys))):=by
 obtain⟨a,c,rfl,hc,hm⟩:=dG.shape Z;obtain⟨b,e,rfl,SN,VI⟩:=dG.shape hy;unfold maxLen at hm VI;refine uX ce ?_;apply bS<;>intro h
 .have h:xs.length≠ys.length:=λL=>by rw[L]at h;simp at h
  intro O F r;exact⟨_,rfl,r.cg,by rw[bD (λe=>h (by rw[e]))];rfl⟩
 have h:xs.length=ys.length:=by
  have:(xs.length:Int)=ys.length:=by simpa using h
  omega
 refine⟨Nat×World,λz=>⟨[(0,sV a xs.length c),(1,sV b ys.length e),(5,iZ z.1)],[],0,[],z.2⟩,λz=>xs.length-z.1,
  λz=>z.1<=xs.length/\Bq w z.2/\xs.take z.1=ys.take z.1,?_,?_⟩
 .intro O J r;exact⟨(0,J),⟨ce,r.cg,ce⟩,sbgn [] r⟩
 rintro⟨i,w1⟩ ⟨R,W,ht⟩;dsimp only at R W ht ⊢;apply bS<;>intro Pk
 .have Pk:=dL Pk;obtain⟨x,QY⟩:=gO xs i;obtain⟨y,R5⟩:=gO ys i;obtain⟨ad,u1,rfl,hR,k1,l1⟩:=dG.load Z QY;obtain⟨ad2,u2,rfl,Ty,k2,l2⟩:=dG.load hy R5;obtain⟨p1,q1,rfl,-⟩:=dK.shape hR;obtain⟨p2,q2,rfl,-⟩:=dK.shape Ty;refine dP (idO 10) ?_;refine⟨ad,rfl,be,.slice p1 x.length q1,rd1 l1 W (G _ k1),ad2,rfl,be,.slice p2 y.length q2,rd1 l2 W (G _ k2),?_⟩;refine cE W (pE (.bool (decide (x=y)))) (λO J r=>B9 (oS G r) (cd.cW hR (kS W r G)) (cd.cW Ty (kS W r G))) ?_;rintro O _ _ _ iv2 r L W h_ rfl;apply bS<;>intro Po
  .have Po:x≠y:=λh=>by rw[h]at Po;simp at Po
   intro O F r;refine⟨_,rfl,W.tr r.cg,?_⟩
   rw[bD (λe=>Po (by
    rw[e,R5]at QY;injection QY with QY
    exact QY.symm))]
   rfl
  have Po:x=y:=by simpa using Po
  subst Po;have WC:xs.take (i+1)=ys.take (i+1):=by rw[bH,bH,ht,QY,R5]
  refine inc i ?_;intro I8 w3 r3;exact⟨(i+1,w3),⟨Pk,W.tr r3.cg,WC⟩,sbgn [] r3,dec Pk⟩
 have Pk:i=xs.length:=by
  have:¬i<xs.length:=by simpa using Pk
  omega
 subst Pk;rw[bE,h,bE]at ht;intro O F r;exact⟨_,rfl,W.tr r.cg,by rw[bY ht];rfl⟩
abbrev Head:=Bool×Option Addr×Nat×Nat
def Ox:List (List (Int×Int)):=[[(1,1),(2,1)],[(2,1),(4,1)]]
def awB:List (Int×Int):=[(3,1),(6,1)]
def aAL:CR Ox awB=0:=by decide +kernel
def aAM:dF (oT (dS Ox) (awB.map dC)) (dM Ox)=([[1,2,3,1,0],[0,0,0,-2,1]],[0]):=by decide +kernel
def Mr:(∀r∈Ox,ue r)/\ue awB:=by unfold ue;decide +kernel
def aBE:Ht (oT (dS Ox) (awB.map dC)) 2:=by unfold Ht;decide +kernel
def aB2:gj [[1,2,3,1,0],[0,0,0,-2,1]] [0] 2 1=[3,0]:=by decide +kernel
def aB3:du [[1,2,3,1,0],[0,0,0,-2,1]] [0] 2 2=[[-2,1]]:=by decide +kernel
def OS{r:Nat}(h:BK (2*100*100:Int).natAbs r):r=141:=by
 have Y:=h.1;have I:=h.2;have e:(2*100*100:Int).natAbs=20000:=by decide
 rw[e]at Y I;rcases cO r 141 with h3|h3|h3
 .have:=Nat.mul_le_mul (show r+1<=141 by omega) (show r+1<=141 by omega);omega
 .exact h3
 .have:=Nat.mul_le_mul (show 142<=r by omega) (show 142<=r by omega);omega
def aAN:LF (ratio (Rat.divInt 141 100).num (Rat.divInt 141 100).den)=⟨#[49,52,49,47,49,48,48]⟩:=by decide +kernel
def OT(h:z.natAbs<4294967296):ln z.natAbs<=10000000000:=aR (gn.2 (show z.natAbs<4294967296^1 by omega)) bv
def Kq(G:Old S w)(Z:j3 w S v (-7))(hy:j3 w S u 2):
  eH PG Fd.pf #[v,u] w (eV w λv' F=>∃q r,v'= .tuple #[q,r,iV 0]/\dV F (Nf w F) q (-4)/\dV F (Nf w F) r 1):=
 (GH G Z hy (OT bv) (OT bv)).mono λ_ F ⟨v2,e1,e2,e3⟩=>⟨v2,e1,e2,e3.elim (λh=>absurd h.1 bv) λh=>h.2⟩
def Ms(w:World):
  eH PG Fd.lf #[iV 2,iV 100] w (eV w λv' F=>∃q,v'= .tuple #[q,iV 0]/\dH F (Nf w F) q (Rat.divInt 141 100)):=
 (BQ 2 100 w bv bv bv bv).mono λ_ F ⟨v2,e1,e2,e3⟩=>⟨v2,e1,e2,e3.elim (λh=>absurd h.1 bv) λ⟨_,r,q,Y,I,h3⟩=>⟨q,I,by
  rw[OS Y]at h3
  exact h3⟩⟩
def Mt(G:Old S w)(h:dQ w S v Ox)(hu:dJ w S u awB):
  eH PG Fd.rY #[v,u] w (eV w λv' F=>∃vx vk,v'= .tuple #[.agg #[iV 0,vx,vk,nls],iV 0]/\cd F (Nf w F) vx [3,0]/\dX F (Nf w F) vk [[-2,1]]):=
 (IF (h0:=2) G h hu λ_=>⟨Mr.1,Mr.2,aBE,bv,bv⟩).mono λ_ F ⟨v2,e1,e2,e3⟩=>⟨v2,e1,e2,by
  rcases e3 with h|⟨_,s,rfl,Fn,pv,hA,h⟩
  .exact absurd aAL h.1
  .rw[aAM]at hA;injection hA with hA hp;subst hA hp;rcases h with⟨j,vp,Y,I,h3,_⟩|⟨vx,vk,_,rfl,I,h3⟩
   .have:j=1:=by
     have:j<2:=I;have:1<=j:=Y;omega
    subst this;exact absurd (show dR [[1,2,3,1,0],[0,0,0,-2,1]] 1 2=0 by decide +kernel) h3
   .refine⟨vx,vk,rfl,?_,?_⟩
    .have:=aB2;rw[<-this];exact I
    .have:=aB3;rw[<-this]
     exact h3⟩
def Kr(G:Old S w)(h:dH w S v (Rat.divInt 141 100)):
  eH PG Fd.pg #[v] w (eV w λv' _=>v'= .string ⟨#[49,52,49,47,49,48,48]⟩):=by
 have:=Gg G h.r (OT (by decide +kernel)) (OT (by decide +kernel)) (by decide +kernel) (by decide +kernel);rw[aAN]at this;exact this
end Go.Ex
namespace Go.Sx
open Go Go.Ex Go.Proofs
variable{S':Nat->Prop}{O:Nat->Sx.eD}
def Rel.Mu{α:Type}{P:World->(Nat->Prop)->List Value->α->Prop}{H:Hp}{nx:Nat}{iv:Iv}{B:Nat}{w J:World}(r:Rel H nx iv B w O J){id t:Nat}{u0 u1 u2 u3 u4 u5 u6 u7:Value}{x y:α}
  (h:dT H id=some (.box t [.v u0,.v u1,.v u2,.v u3,.v u4,.v u5,.v u6,.v u7])) (Y:∀u∈[u0,u1,u2,u3,u4,u5,u6,u7],u.oneCell'=true) (p1:P J S' [u0,u1,u2,u3] x) (p2:P J S' [u4,u5,u6,u7] y) (V:S' (O id).g):
  dK P J S' (.slice (some ⟨(O id).g,0,none⟩) 2 2) [x,y]:=
 ⟨[[u0,u1,u2,u3],[u4,u5,u6,u7]],(r.jt (sz:=4) (n:=2) h rfl (by simp[maxLen]) (λu hu=>by
  simp only[List.mem_cons,List.not_mem_nil,or_false]at hu
  rcases hu with rfl|rfl|rfl|rfl|rfl|rfl|rfl|rfl<;>exact Y _ (by simp[At.den]))).cU (λg Sa=>by rw[Sa];exact V),rfl,ce,λj cs z k1 k2=>by
  match j with
  |0=>simp at k1 k2;subst k1 k2;exact p1
  |1=>simp at k1 k2;subst k1 k2;exact p2
  |j+2=>simp at k1⟩
end Go.Sx
namespace Go.Ex
open Go Go.Sx Go.Proofs
variable{S:Nat->Prop}{O:Nat->Sx.eD}{a a2:Option Addr}{q:Rat}{w:World}
def dH.four{b b2:Bool}{n c n2 c2:Nat}(h:dH w S (.agg #[.bool b,.slice a n c,.bool b2,.slice a2 n2 c2]) q):yr w S (rC b a n c b2 a2 n2 c2) (q.num,(q.den:Int)):=
 ⟨b,a,n,c,b2,a2,n2,c2,rfl,h.r⟩
def dH.pG{b b2:Bool}{n c n2 c2:Nat}(h:dH w S (.agg #[.bool b,.slice a n c,.bool b2,.slice a2 n2 c2]) q):jV w S (rC b a n c b2 a2 n2 c2) q:=
 ⟨b,a,n,c,b2,a2,n2,c2,rfl,h⟩
def Rel.lt{H:Hp}{nx:Nat}{iv:Iv}{B:Nat}{J:World}(r:Rel H nx iv B w O J){id t:Nat}{cs:List At}(h:dT H id=some (.box t cs)):(O id).g<J.heap.size:=(r.low id _ h (r.nn id _ h (by intros;simp) ce)).2
def EX(w:World):eH PG Fd.xx #[] w (eV w λv' _=>v'= .bool true):=by
 have W:=bR w;refine Al ce ?_;refine cS (cE W (pR dV (-7)) (λO J r=>JD _ J bv bv) ?_);rintro O _ _ _ Pt r L W h_ E;have hA:=E.cU (nw r h_);clear r;obtain⟨A0,A1,A2,A3,rfl⟩:=hA.shape;refine cS (cE W (pR dV 2) (λO J r=>JD _ J bv bv) ?_);rintro O _ _ _ iv2 r L W h_ E;replace hA:=hA.cV r oF L (mC h_);have hB:=E.cU (nw r h_);clear r;obtain⟨C0,C1,C2,C3,rfl⟩:=hB.shape;refine cS (cE W (λ_ J v F=>∃q r,v= .tuple #[q,r,iV 0]/\dV F (Nf J F) q (-4)/\dV F (Nf J F) r 1) (λO J r=>Kq (rlo r oF) (hA.rel r oF).r (hB.rel r oF).r) ?_);rintro O _ _ _ Ps r L W h_ ⟨q,rr,rfl,k1,k2⟩;clear hA;clear hB;have hq:=k1.cU (nw r h_);have hr:=k2.cU (nw r h_);clear r;obtain⟨s3_0a,s3_0b,s3_0c,s3_0d,rfl⟩:=hq.shape;obtain⟨s3_1a,s3_1b,s3_1c,s3_1d,rfl⟩:=hr.shape;refine cS (cE W (λ_ J v F=>∃q,v= .tuple #[q,iV 0]/\dH F (Nf J F) q (Rat.divInt 141 100)) (λO J r=>Ms J) ?_);rintro O _ _ _ QA r L W h_ ⟨f,rfl,k1⟩;replace hq:=hq.cV r oF L (mC h_);replace hr:=hr.cV r oF L (mC h_);have hf:=k1.cU (nw r h_);clear r;obtain⟨s4_0a,s4_0b,s4_0c,s4_0d,s4_0e,s4_0f,s4_0g,s4_0h,rfl⟩:=hf.shape;refine cS (cE W (pR dH ((1:Int):Rat)) (λO J r=>fZ 1 J bv) ?_);rintro O _ _ _ QE r L W h_ E;replace hq:=hq.cV r oF L (mC h_);replace hr:=hr.cV r oF L (mC h_);replace hf:=hf.cV r oF L (mC h_);have RI:=E.cU (nw r h_);clear r;obtain⟨E0,E1,E2,E3,E4,E5,E6,E7,rfl⟩:=RI.shape;refine cS (cE W (pR dH ((2:Int):Rat)) (λO J r=>fZ 2 J bv) ?_);rintro O _ _ _ Q8 r L W h_ E;replace hq:=hq.cV r oF L (mC h_);replace hr:=hr.cV r oF L (mC h_);replace hf:=hf.cV r oF L (mC h_);replace RI:=RI.cV r oF L (mC h_);have SS:=E.cU (nw r h_);clear r;obtain⟨F0,F1,F2,F3,F4,F5,F6,F7,rfl⟩:=SS.shape;refine cS (cE W (pR dH ((2:Int):Rat)) (λO J r=>fZ 2 J bv) ?_);rintro O _ _ _ RJ r L W h_ E;replace hq:=hq.cV r oF L (mC h_);replace hr:=hr.cV r oF L (mC h_);replace hf:=hf.cV r oF L (mC h_);replace RI:=RI.cV r oF L (mC h_);replace SS:=SS.cV r oF L (mC h_);have Q5:=E.cU (nw r h_);clear r;obtain⟨G0,G1,G2,G3,G4,G5,G6,G7,rfl⟩:=Q5.shape;refine cS (cE W (pR dH ((4:Int):Rat)) (λO J r=>fZ 4 J bv) ?_);rintro O _ _ _ Sl r L W h_ E;replace hq:=hq.cV r oF L (mC h_);replace hr:=hr.cV r oF L (mC h_);replace hf:=hf.cV r oF L (mC h_);replace RI:=RI.cV r oF L (mC h_);replace SS:=SS.cV r oF L (mC h_);replace Q5:=Q5.cV r oF L (mC h_);have Wr:=E.cU (nw r h_);clear r;obtain⟨I0,I1,I2,I3,I4,I5,I6,I7,rfl⟩:=Wr.shape;refine cS (cE W (pR dH ((3:Int):Rat)) (λO J r=>fZ 3 J bv) ?_);rintro O _ _ _ Ui r L W h_ E;replace hq:=hq.cV r oF L (mC h_);replace hr:=hr.cV r oF L (mC h_);replace hf:=hf.cV r oF L (mC h_);replace RI:=RI.cV r oF L (mC h_);replace SS:=SS.cV r oF L (mC h_);replace Q5:=Q5.cV r oF L (mC h_);replace Wr:=Wr.cV r oF L (mC h_);have YK:=E.cU (nw r h_);clear r;obtain⟨J0,J1,J2,J3,J4,J5,J6,J7,rfl⟩:=YK.shape;refine cS (cE W (pR dH ((6:Int):Rat)) (λO J r=>fZ 6 J bv) ?_);rintro O _ _ _ Uj r L W h_ E;replace hq:=hq.cV r oF L (mC h_);replace hr:=hr.cV r oF L (mC h_);replace hf:=hf.cV r oF L (mC h_);replace RI:=RI.cV r oF L (mC h_);replace SS:=SS.cV r oF L (mC h_);replace Q5:=Q5.cV r oF L (mC h_);replace Wr:=Wr.cV r oF L (mC h_);replace YK:=YK.cV r oF L (mC h_);have hx5:=E.cU (nw r h_);clear r;obtain⟨N0,N1,N2,N3,N4,N5,N6,N7,rfl⟩:=hx5.shape;refine cS (cE W (λ_ J v F=>∃vx vk,v= .tuple #[.agg #[iV 0,vx,vk,nls],iV 0]/\cd F (Nf J F) vx [3,0]/\dX F (Nf J F) vk [[-2,1]]) (λO J r=>?_) ?_)
 .have f0:=(RI.rel r oF).four.cU (S':=λg=>g<J.heap.size) λg V=>rlo r oF g V;have f1:=(SS.rel r oF).four.cU (S':=λg=>g<J.heap.size) λg V=>rlo r oF g V;have f2:=(Q5.rel r oF).four.cU (S':=λg=>g<J.heap.size) λg V=>rlo r oF g V;have f3:=(Wr.rel r oF).four.cU (S':=λg=>g<J.heap.size) λg V=>rlo r oF g V;have f4:=(YK.rel r oF).four.cU (S':=λg=>g<J.heap.size) λg V=>rlo r oF g V;have f5:=(hx5.rel r oF).four.cU (S':=λg=>g<J.heap.size) λg V=>rlo r oF g V;have r0:=r.Mu (id:=3) rfl (by simp[Value.oneCell']) f0 f1 (Rel.lt r rfl);have r1:=r.Mu (id:=4) rfl (by simp[Value.oneCell']) f2 f3 (Rel.lt r rfl);have r2:=r.Mu (id:=6) rfl (by simp[Value.oneCell']) f4 f5 (Rel.lt r rfl);refine Mt (S:=λg=>g<J.heap.size) (λg V=>V) ?_ r2;refine⟨[.slice (some ⟨(O 3).g,0,none⟩) 2 2,.slice (some ⟨(O 4).g,0,none⟩) 2 2],(r.jt (id:=5) (sz:=1) (n:=2) rfl rfl (by simp[maxLen]) (λu hu=>by simp at hu;rcases hu with rfl|rfl<;>rfl)).cU (λg V=>by rw[V];exact Rel.lt r rfl),rfl,λi u x k1 k2=>?_⟩
  match i with
  |0=>simp[Ox]at k1 k2;subst k1 k2;exact r0
  |1=>simp[Ox]at k1 k2;subst k1 k2;exact r1
  |i+2=>simp at k1
 rintro O _ _ _ Wn r L W h_ ⟨vx,vk,rfl,k1,k2⟩;replace hq:=hq.cV r oF L (mC h_);replace hr:=hr.cV r oF L (mC h_);replace hf:=hf.cV r oF L (mC h_);clear RI;clear SS;clear Q5;clear Wr;clear YK;clear hx5;have UZ:=cd.cU k1 (nw r h_);have SL:=dX.cU k2 (nw r h_);clear r;clear k1 k2;obtain⟨sx_a,sx_c,rfl,-⟩:=dK.shape UZ;obtain⟨sk_a,sk_c,rfl,-⟩:=dG.shape SL;refine dP (idO 27) ?_;refine cE W (pR dV (-4)) (λO J r=>mL _ J bv bv) ?_;rintro O _ _ _ ZF r L W h_ E;replace hq:=hq.cV r oF L (mC h_);replace hr:=hr.cV r oF L (mC h_);replace hf:=hf.cV r oF L (mC h_);replace UZ:=cd.cV UZ r oF L (mC h_);replace SL:=dX.cV SL r oF L (mC h_);have h4:=E.cU (nw r h_);clear r;obtain⟨O0,O1,O2,O3,rfl⟩:=h4.shape;refine cE W (pE (.bool true)) (λO J r=>mf (rlo r oF) (hq.rel r oF) (h4.rel r oF)) ?_;rintro O _ _ _ ZG r L W h_ rfl;clear hq;replace hr:=hr.cV r oF L (mC h_);replace hf:=hf.cV r oF L (mC h_);replace UZ:=cd.cV UZ r oF L (mC h_);replace SL:=dX.cV SL r oF L (mC h_);clear h4;clear r;refine cE W (pR dV 1) (λO J r=>mL _ J bv bv) ?_;rintro O _ _ _ iv14 r L W h_ E;replace hr:=hr.cV r oF L (mC h_);replace hf:=hf.cV r oF L (mC h_);replace UZ:=cd.cV UZ r oF L (mC h_);replace SL:=dX.cV SL r oF L (mC h_);have Y:=E.cU (nw r h_);clear r;obtain⟨P0,P1,P2,P3,rfl⟩:=Y.shape;refine cE W (pE (.bool true)) (λO J r=>mf (rlo r oF) (hr.rel r oF) (Y.rel r oF)) ?_;rintro O _ _ _ iv15 r L W h_ rfl;clear hr;replace hf:=hf.cV r oF L (mC h_);replace UZ:=cd.cV UZ r oF L (mC h_);replace SL:=dX.cV SL r oF L (mC h_);clear Y;clear r;refine cE W (pE (.string ⟨#[49,52,49,47,49,48,48]⟩)) (λO J r=>Kr (rlo r oF) (hf.rel r oF)) ?_;rintro O _ _ _ iv16 r L W h_ rfl;clear hf;replace UZ:=cd.cV UZ r oF L (mC h_);replace SL:=dX.cV SL r oF L (mC h_);clear r;refine dP (idO 21) ?_;refine cE W (pR dH ((3:Int):Rat)) (λO J r=>fZ 3 J bv) ?_;rintro O _ _ _ iv17 r L W h_ E;replace UZ:=cd.cV UZ r oF L (mC h_);replace SL:=dX.cV SL r oF L (mC h_);have RI:=E.cU (nw r h_);clear r;obtain⟨T0,T1,T2,T3,T4,T5,T6,T7,rfl⟩:=RI.shape;refine cE W (pR dH ((0:Int):Rat)) (λO J r=>fZ 0 J bv) ?_;rintro O _ _ _ iv18 r L W h_ E;replace UZ:=cd.cV UZ r oF L (mC h_);replace SL:=dX.cV SL r oF L (mC h_);replace RI:=RI.cV r oF L (mC h_);have SS:=E.cU (nw r h_);clear r;obtain⟨U0,U1,U2,U3,U4,U5,U6,U7,rfl⟩:=SS.shape;refine cE W (pE (.bool true)) (λO J r=>?_) ?_
 .have f0:=(RI.rel r oF).pG.cU (S':=λg=>g<J.heap.size) λg V=>rlo r oF g V;have f1:=(SS.rel r oF).pG.cU (S':=λg=>g<J.heap.size) λg V=>rlo r oF g V;have r0:=r.Mu (id:=8) rfl (by simp[Value.oneCell']) f0 f1 (Rel.lt r rfl);exact B9 (xs:=[3,0]) (ys:=[3,0]) (λg V=>V) (cd.cU (cd.rel UZ r oF) λg V=>rlo r oF g V) r0
 rintro O _ _ _ iv19 r L W h_ rfl;clear UZ;replace SL:=dX.cV SL r oF L (mC h_);clear RI;clear SS;clear r;refine cE W (pR dH ((-2:Int):Rat)) (λO J r=>fZ (-2) J bv) ?_;rintro O _ _ _ iv20 r L W h_ E;replace SL:=dX.cV SL r oF L (mC h_);have RI:=E.cU (nw r h_);clear r;obtain⟨V0,V1,V2,V3,V4,V5,V6,V7,rfl⟩:=RI.shape;refine cE W (pR dH ((1:Int):Rat)) (λO J r=>fZ 1 J bv) ?_;rintro O _ _ _ iv21 r L W h_ E;replace SL:=dX.cV SL r oF L (mC h_);replace RI:=RI.cV r oF L (mC h_);have SS:=E.cU (nw r h_);clear r;obtain⟨W0,W1,W2,W3,W4,W5,W6,W7,rfl⟩:=SS.shape;refine cE W (pE (.bool true)) (λO J r=>?_) ?_
 .have f0:=(RI.rel r oF).pG.cU (S':=λg=>g<J.heap.size) λg V=>rlo r oF g V;have f1:=(SS.rel r oF).pG.cU (S':=λg=>g<J.heap.size) λg V=>rlo r oF g V;have r0:=r.Mu (id:=9) rfl (by simp[Value.oneCell']) f0 f1 (Rel.lt r rfl);refine Gn (xs:=[[-2,1]]) (ys:=[[-2,1]]) (λg V=>V) (dX.cU (dX.rel SL r oF) λg V=>rlo r oF g V) ?_;refine⟨[.slice (some ⟨(O 9).g,0,none⟩) 2 2],(r.jt (id:=10) (sz:=1) (n:=1) rfl rfl (by simp[maxLen]) (λu hu=>by simp at hu;subst hu;rfl)).cU (λg V=>by rw[V];exact Rel.lt r rfl),rfl,λi u x k1 k2=>?_⟩
  match i with
  |0=>simp at k1 k2;subst k1 k2;exact r0
  |i+1=>simp at k1
 rintro O _ _ _ iv22 r L W h_ rfl;clear SL;clear RI;clear SS;clear r;exact rtn W λGE we re=>rfl
end Go.Ex
namespace Go.Ex
variable{cs:List Int}{ls:List Nat}{f:Nat->Int}
def fq(f:Nat->Int):Nat->Int
 |0=>0
 |n+1=>f 0+65536*fq (λi=>f (i+1)) n
def AU(f:Nat->Int)(n:Nat):dh ((List.range n).map f)=fq f n:=by
 induction n generalizing f with
 |zero=>rfl
 |succ n ih=>
  rw[List.range_succ_eq_map,List.map_cons,List.map_map,dh,fq,<-ih];rfl
def AV(f g:Nat->Int)(n:Nat):fq (λi=>f i+g i) n=fq f n+fq g n:=by
 induction n generalizing f g with
 |zero=>rfl
 |succ n ih=>simp only[fq,ih];omega
def H7(k:Int)(f:Nat->Int)(n:Nat):fq (λi=>k*f i) n=k*fq f n:=by
 induction n generalizing f with
 |zero=>simp[fq]
 |succ n ih=>simp only[fq,ih,Int.mul_add];rw[Int.mul_left_comm]
def xw{n:Nat}(h:∀i,i<n->f i=0):fq f n=0:=by
 induction n generalizing f with
 |zero=>rfl
 |succ n ih=>rw[fq,h 0 be,ih λi R=>h (i+1) be];rfl
def rR(a:List Int)(n:Nat)(h:a.length<=n):fq (λi=>a.getD i 0) n=dh a:=by
 induction a generalizing n with
 |nil=>exact xw λi _=>by simp
 |cons c r ih=>
  obtain⟨m,rfl⟩:∃m,n=m+1:=⟨n-1,by simp at h;omega⟩
  have e:=ih m (by simpa using h);rw[fq,dh,<-e];simp[List.getD]
def jG(a b:List Int)(i:Nat):Nat->Int
 |0=>0
 |k+1=>jG a b i k+a.getD k 0*(if k<=i then b.getD (i-k) 0 else 0)
def gS(a b:List Int)(i:Nat):Int:=jG a b i (i+1)
def KI(b:List Int)(i k:Nat):jG [] b i k=0:=by
 induction k with
 |zero=>rfl
 |succ k ih=>rw[jG,ih];simp
def H8(c:Int)(r b:List Int)(i k:Nat):jG (c::r) b (i+1) (k+1)=c*b.getD (i+1) 0+jG r b i k:=by
 induction k with
 |zero=>simp[jG]
 |succ k ih=>
  rw[jG,ih,jG];have e:(c::r).getD (k+1) 0=r.getD k 0:=by simp[List.getD]
  rw[e];have e2:(if k+1<=i+1 then b.getD (i+1-(k+1)) 0 else 0)=(if k<=i then b.getD (i-k) 0 else 0):=by
   by_cases h:k<=i
   .rw[aM h,aM be,show i+1-(k+1)=i-k by omega]
   .rw[aJ h,aJ be]
  rw[e2,Int.add_assoc]
def Fq(c:Int)(r b:List Int)(i:Nat):gS (c::r) b (i+1)=c*b.getD (i+1) 0+gS r b i:=H8 c r b i (i+1)
def Fs(c:Int)(r b:List Int):gS (c::r) b 0=c*b.getD 0 0:=by simp[gS,jG]
def ME(a b:List Int)(n:Nat)(h:a.length+b.length<=n+1):fq (gS a b) n=dh a*dh b:=by
 induction a generalizing n with
 |nil=>
  rw[show gS [] b=λ_=>(0:Int)from funext λi=>KI b i _,xw λ_ _=>rfl];simp[dh]
 |cons c r ih=>
  cases n with
  |zero=>
   have N:b=[]:=List.eq_nil_of_length_eq_zero (by simp at h;omega);subst N;simp[fq,dh]
  |succ m=>
   have e1:fq (gS (c::r) b) (m+1)=fq (λi=>c*b.getD i 0) (m+1)+65536*fq (gS r b) m:=by
    have e2:fq (λi=>gS (c::r) b (i+1)) m=fq (λi=>c*b.getD (i+1) 0) m+fq (gS r b) m:=by
     rw[<-AV];congr 1
     funext i
     exact Fq c r b i
    rw[fq,fq,e2,Fs,Int.mul_add];omega
   have h':r.length+b.length<=m+1:=by simp at h;omega
   rw[e1,ih m h',H7,rR b (m+1) be,dh,Int.add_mul,Int.mul_assoc]
def H9(a b:List Int)(i k k0:Nat)(h0:∀j,j<k0->b.length<=i-j)(K:k0<=i+1)(h:k<=k0):jG a b i k=0:=by
 induction k with
 |zero=>rfl
 |succ k ih=>
  rw[jG,ih be,aM be];have:b.getD (i-k) 0=0:=by rw[List.getD,List.getElem?_eq_none (h0 k be)];rfl
  rw[this];simp
def Ha(a b:List Int)(i k m:Nat)(h:a.length<=k):jG a b i (k+m)=jG a b i k:=by
 induction m with
 |zero=>rfl
 |succ m ih=>
  rw[<-Nat.add_assoc,jG,ih];have:a.getD (k+m) 0=0:=by rw[List.getD,List.getElem?_eq_none be];rfl
  rw[this];simp
def nW{a b:List Int}{i:Nat}(ha:∀x∈a,-65535<=x/\x<=65535)(N:∀x∈b,-65535<=x/\x<=65535)(k:Nat):(jG a b i k).natAbs<=4294836225*k:=by
 have key:∀(l:List Int) (j:Nat),(∀x∈l,-65535<=x/\x<=65535)->(l.getD j 0).natAbs<=65535:=λl j h=>by
  rw[List.getD]
  cases hj:l[j]? with
  |none=>simp
  |some d=>have:=h d (aG hj);simp;omega
 induction k with
 |zero=>simp[jG]
 |succ k ih=>
  rw[jG];have Y:=key a k ha;have I:(if k<=i then b.getD (i-k) 0 else 0).natAbs<=65535:=by
   split
   .exact key b _ N
   .simp
  have h3:=Nat.mul_le_mul Y I;rw[<-Int.natAbs_mul]at h3;generalize a.getD k 0*(if k<=i then b.getD (i-k) 0 else 0)=p at*
  omega
def eS(s:Int):List Nat->List Int
 |[]=>[]
 |l::r=>s*((l % 65536:Nat):Int)::s*((l / 65536:Nat):Int)::eS s r
def Dy(s:Int)(ls:List Nat):dh (eS s ls)=s*(val ls:Int):=by
 induction ls with
 |nil=>simp[eS,dh,val]
 |cons l r ih=>
  rw[eS,dh,dh,ih,val];have e1:((l+4294967296*val r:Nat):Int)=((l % 65536:Nat):Int)+65536*((l / 65536:Nat):Int)+4294967296*((val r:Nat):Int):=by omega
  rw[e1,Int.mul_add,Int.mul_add,Int.mul_add];rw[Int.mul_left_comm 65536 s,Int.mul_left_comm s 65536,Int.mul_left_comm s 4294967296];omega
def qR(s:Int)(a b:List Nat):eS s (a++b)=eS s a++eS s b:=by
 induction a with
 |nil=>rfl
 |cons l r ih=>simp[eS,ih]
def iu(s:Int)(ls:List Nat):(eS s ls).length=2*ls.length:=by
 induction ls with
 |nil=>rfl
 |cons l r ih=>simp[eS,ih];omega
def AW{s:Int}(hs:s=1\/s= -1)(h:Lm ls):∀c∈eS s ls,-65535<=c/\c<=65535:=by
 induction ls with
 |nil=>intro c hc;cases hc
 |cons l r ih=>
  have hl:=h l aF;intro c hc;rw[eS]at hc;rcases List.mem_cons.1 hc with rfl|hc
  .rcases hs with rfl|rfl<;>omega
  rcases List.mem_cons.1 hc with rfl|hc
  .rcases hs with rfl|rfl<;>omega
  .exact ih (λx Z=>h x (aD _ Z)) c hc
def yY(h:Lm ls):∀c∈eS 1 ls,0<=c/\c<=65535:=λc hc=>by
 induction ls with
 |nil=>cases hc
 |cons l r ih=>
  have hl:=h l aF;rw[eS]at hc;rcases List.mem_cons.1 hc with rfl|hc
  .omega
  rcases List.mem_cons.1 hc with rfl|hc
  .omega
  .exact ih (λx Z=>h x (aD _ Z)) hc
def Ft{i:Nat}{c:Int}(h:cs[i]? =some c):dh (cs.drop i)=c+65536*dh (cs.drop (i+1)):=by
 rw[List.drop_eq_getElem_cons (aH.1 h).1,dh];have:=(aH.1 h).2;rw[this]
end Go.Ex
namespace Go.Ex
open Go Go.Sx Go.Proofs
variable{ls:List Nat}{S:Nat->Prop}{q:Rat}{v:Value}{w:World}
def Mv{k:Nat}(h:Lm ls)(hl:ls.length<=k):ln (val ls)<=k:=gn.2 (Nat.lt_of_lt_of_le (pX h) (FQ hl))
def Cv.false{B:Nat}{iv:Iv}{g:Nat}(h:Cv FF B iv g):Cv S B iv g:=h.elim (λh=>h.elim) .inr
def ud{u:Value}{f g:Rat}(G:Old S w)(hf:cw w S v f)(V:cw w S u g)(hlf:rl f<=10000000000)(hlg:rl g<=10000000000):
  eH PG Fd.nB #[v,u] w (eV w λv' F=>v'=iV (rs (f-g))):=by
 have W:=bR w;have l1:=fg f;have l2:=fD f;have l3:=fg g;have l4:=fD g;have m0:=dO f.num g.den;have m1:=dO g.num f.den;replace hf:=hf.cU (S':=Cv S w.heap.size []) λ_ h=>.inl h;replace V:=V.cU (S':=Cv S w.heap.size []) λ_ h=>.inl h;obtain⟨b1,a1,n1,c1,b2,a2,n2,c2,rfl⟩:=hf.shape;obtain⟨b3,a3,n3,c3,b4,a4,n4,c4,rfl⟩:=V.shape;have UQ:=hf.num;have Qx:=hf.den;have Uy:=V.num;have Sq:=V.den;refine ql ce ?_;refine dP [.x 0,.x 1,.x 2,.x 3,.x 5,.x 6,.x 7,.x 8,.x 4,.x 9,.x 10,.x 11] ?_;refine cE W (pR eP (f.num*(g.den:Int))) (λO J r=>gW (rlo r G) (UQ.rel r G) (Sq.rel r G) be be) ?_;rintro O _ _ _ Pt r L W h_ E;replace Qx:=Qx.cV r G L (mC h_);replace Uy:=Uy.cV r G L (mC h_);have hA:=E.cU (nw r h_);obtain⟨A0,A1,A2,A3,rfl⟩:=hA.shape;refine cE W (pR eP (g.num*(f.den:Int))) (λO J r=>gW (rlo r G) (Uy.rel r G) (Qx.rel r G) be be) ?_;rintro O _ _ _ iv2 r L W h_ E;replace hA:=hA.cV r oF L (mC h_);have hB:=E.cU (nw r h_);obtain⟨C0,C1,C2,C3,rfl⟩:=hB.shape;refine cE W (pE (iV (rs (f-g)))) (λO J r=>(Na f g)▸BG (rlo r oF) (hA.rel r oF) (hB.rel r oF) be be) ?_;rintro O _ _ _ Ps r L W h_ rfl;exact rtn W λGE we re=>rfl
def kZ:rs q=0↔q=0:=by rw[rs,bj,Rat.num_eq_zero]
def Mw{n:Int}(Y: -9223372036854775808<=n)(I:n<=9223372036854775807):rl (n:Rat)<=2:=by
 have:=wR Y I;unfold rl;rw[Rat.num_intCast,Rat.den_intCast];have:ln 1=1:=by decide
 omega
def BU(n:Int)(w:World)(Y: -9223372036854775808<=n)(I:n<=9223372036854775807):
  eH PG Fd.xz #[iV n] w (eV w λv' F=>dH F (Nf w F) v' (n:Rat)):=by
 have W:=bR w;have hl:=Mw Y I;refine Ap ce ?_;refine cS (cE W (pR cw (n)) (λO J r=>iI n J Y I) ?_);rintro O _ _ _ Pt r L W h_ E;have hX:=E.cU (nw r h_);obtain⟨A0,A1,A2,A3,A4,A5,A6,A7,rfl⟩:=hX.shape;refine cS (cE W (pR dH (n)) (λO J r=>zN (rlo r oF) (hX.rel r oF) be) ?_);rintro O _ _ _ iv2 r L W h_ E;have hC:=E.cU (nw r h_);obtain⟨C0,C1,C2,C3,C4,C5,C6,C7,rfl⟩:=hC.shape;exact rtn W λGE we re=>hC.out re oF
def xd:List (Head×Head)->List Value
 |[]=>[]
 |k::r=>.bool k.1.1:: .slice k.1.2.1 k.1.2.2.1 k.1.2.2.2:: .bool k.2.1:: .slice k.2.2.1 k.2.2.2.1 k.2.2.2.2::xd r
def Bb:∀{ks:List (Head×Head)} {i:Nat} {k:Head×Head},ks[i]? =some k->(xd ks)[i*4+1]? =some (.slice k.1.2.1 k.1.2.2.1 k.1.2.2.2)/\(xd ks)[i*4+3]? =some (.slice k.2.2.1 k.2.2.2.1 k.2.2.2.2)
 |[],i,k,h=>by simp at h
 |k0::r,0,k,h=>by injection h with h;subst h;exact⟨rfl,rfl⟩
 |k0::r,i+1,k,h=>by
  have:=Bb (ks:=r) (i:=i) (k:=k) (by simpa using h);rw[show (i+1)*4+1=(i*4+1)+4 by omega,show(i+1)*4+3=(i*4+3)+4 by omega];exact this
def Bd(ad:Addr)(i j:Nat):(ad.add i).add j=ad.add (i+j):=by
 unfold Addr.add;split<;>split<;>simp_all<;>omega
def wY{ks:List (Head×Head)}(G:Old S w)(h:fT w S 4 v (xd ks) ks.length):
  eH PG Fd.rV #[v] w (eV w λv' _=>v'= .bool (decide (∀k∈ks,k.1.2.2.1<=3/\k.2.2.2.1<=3))):=by
 obtain⟨h0,Y,I,a,c,rfl,h3,h4⟩:=h;unfold maxLen at h0;refine Ak ce ?_
 refine⟨Nat×World,λz=>⟨[(0,sV a ks.length c),(3,iZ z.1)],[],0,[],z.2⟩,λz=>ks.length-z.1,
  λz=>z.1<=ks.length/\Bq w z.2/\∀k∈ks.take z.1,k.1.2.2.1<=3/\k.2.2.2.1<=3,?_,?_⟩
 .intro O J r;exact⟨(0,J),⟨ce,r.cg,ce⟩,sbgn [] r⟩
 rintro⟨i,w1⟩ ⟨R,W,ht⟩;dsimp only at R W ht ⊢;apply bS<;>intro Pk
 .have Pk:=dL Pk;obtain⟨k,K⟩:=gO ks i;obtain⟨g1,g2⟩:=Bb K;obtain⟨ad,rfl,q1,q2⟩:=h4 _ _ g1;obtain⟨ad2,e2,q3,q4⟩:=h4 _ _ g2;injection e2 with e2;subst e2;have SU:∀{H nx iv O J} (j:Nat) (u:Value),w.cell? (ad.add (i*4+j))=some u->Rel H nx iv w.heap.size w1 O J->J.cell? (ad.add ((i:Int).toNat*4+j))=some u:=λ{H nx iv O J} j u hu r=>by
   rw[aI,cZ (w:=w) (F:=J) (by rw[da];exact(W.tr r.cg).block _ (G _ q1))];exact hu
  refine⟨ad,rfl,be,.slice k.1.2.1 k.1.2.2.1 k.1.2.2.2,λO J r=>?_,?_⟩
  .simp only[Bd];exact SU 1 _ q2 r
  apply bS<;>intro V
  .have V:3<k.1.2.2.1:=by
    have:=aK V;omega
   intro O F r;refine⟨_,rfl,W.tr r.cg,?_⟩;rw[bD (λe=>by have:=(e k (aG K)).1;omega)];rfl
  have V:k.1.2.2.1<=3:=by
   have:=aL V;omega
  refine⟨ad,rfl,be,.slice k.2.2.1 k.2.2.2.1 k.2.2.2.2,λO J r=>?_,?_⟩
  .simp only[Bd];exact SU 3 _ q4 r
  apply bS<;>intro Qv
  .have Qv:3<k.2.2.2.1:=by
    have:=aK Qv;omega
   intro O F r;refine⟨_,rfl,W.tr r.cg,?_⟩;rw[bD (λe=>by have:=(e k (aG K)).2;omega)];rfl
  have Qv:k.2.2.2.1<=3:=by
   have:=aL Qv;omega
  have WC:∀k∈ks.take (i+1),k.1.2.2.1<=3/\k.2.2.2.1<=3:=λk' h'=>by
   rw[bH,K]at h';rcases az.1 h' with h'|h'
   .exact ht k' h'
   .simp at h';rw[h'];exact⟨V,Qv⟩
  refine inc i ?_;intro I8 w3 r3;exact⟨(i+1,w3),⟨Pk,W.tr r3.cg,WC⟩,sbgn [] r3,dec Pk⟩
 have Pk:i=ks.length:=by
  have:¬i<ks.length:=by simpa using Pk
  omega
 subst Pk;rw[bE]at ht;intro O F r;exact⟨_,rfl,W.tr r.cg,by rw[bY ht];rfl⟩
def aAP(w:World)(S:Nat->Prop)(v:Value)(q:Rat):Prop:=∃a b,ke w S v a b/\ratio a b=q/\ln a.natAbs<=100000/\ln b.natAbs<=100000
def aAP.shape(h:aAP w S v q):∃b a n c b2 a2 n2 c2,v= .agg #[.bool b,.slice a n c,.bool b2,.slice a2 n2 c2]:=by
 obtain⟨a,b,Y,_⟩:=h;exact Y.shape
def nK(q:Rat):ratio q.num q.den=q:=by rw[ratio,aJ (gQ q),Rat.num_divInt_den]
section
variable{S S':Nat->Prop}{H:Hp}{nx:Nat}{iv A:Iv}{B:Nat}{w J F:World}{O:Nat->Sx.eD}{v:Value}{q:Rat}
end
end Go.Ex
namespace Go.Ex
def PJ(q:Rat):rs (-q)= -rs q:=by rw[rs,rs,Rat.neg_num,Int.sign_neg]
end Go.Ex
namespace Go.Ex
open Go Go.Sx Go.Proofs
variable{b:Bool}{x z:Int}{cs:List Int}{ls:List Nat}{S:Nat->Prop}{lv v:Value}{w:World}
def fV(w:World)(S:Nat->Prop)(v:Value)(k:Nat)(z:Int):Prop:=∃neg ls,wM w S v neg ls/\sg neg (val ls)=z/\ls.length<=k
def fV.cW{F:World}{k:Nat}(h:fV w S v k z)(K:∀g,S g->F.heap[g]? =w.heap[g]?):fV F S v k z:=by
 obtain⟨n,l,Y,I⟩:=h;exact⟨n,l,Y.cW K,I⟩
def fV.cU{S':Nat->Prop}{k:Nat}(h:fV w S v k z)(K:∀g,S g->S' g):fV w S' v k z:=by
 obtain⟨n,l,Y,I⟩:=h;exact⟨n,l,Y.cU K,I⟩
def fV.r{k:Nat}(h:fV w S v k z):j3 w S v z:=by
 obtain⟨n,l,Y,I,_⟩:=h;exact⟨n,l,Y,I⟩
def fV.up{k k':Nat}(h:fV w S v k z)(K:k<=k'):fV w S v k' z:=by
 obtain⟨n,l,Y,I,h3⟩:=h;exact⟨n,l,Y,I,be⟩
def fV.shape{k:Nat}(h:fV w S v k z):∃b a n c,v= .agg #[.bool b,.slice a n c]:=h.r.shape
def dV.l{k:Nat}(h:dV w S v z)(K:ln z.natAbs<=k):fV w S v k z:=by
 obtain⟨l,Y,I,h3⟩:=h;obtain⟨_,_,hl⟩:=Y;have:=eE hl.lm I;rw[h3]at this;exact⟨_,l,⟨_,‹_›,hl⟩,by rw[h3,DN],be⟩
section
variable{S S':Nat->Prop}{H:Hp}{nx:Nat}{iv A:Iv}{B:Nat}{w J F:World}{O:Nat->Sx.eD}{v:Value}{k:Nat}{z:Int}
def fV.rel(h:fV w (Cv S B iv) v k z)(r:Rel H nx iv B w O J)(G:∀g,S g->g<B):fV J (Cv S B iv) v k z:=h.cW λ_ V=>rls r G V
def fV.cV(h:fV w (Cv S B iv) v k z)(r:Rel H nx iv B w O J)(G:∀g,S g->g<B)(L:Ext J F)(hm:∀p,p∈iv->p∈A):fV F (Cv S B A) v k z:=
 ((h.rel r G).cW λg V=>L.block g (rlo r G g V)).cU λ_ V=>V.mono hm
end
section
variable{S S':Nat->Prop}{H:Hp}{nx:Nat}{iv A:Iv}{B:Nat}{w J F:World}{O:Nat->Sx.eD}{v:Value}{cs:List Int}
def eM.rel(h:eM w (Cv S B iv) v cs)(r:Rel H nx iv B w O J)(G:∀g,S g->g<B):eM J (Cv S B iv) v cs:=eM.cW h λ_ V=>rls r G V
def eM.cV(h:eM w (Cv S B iv) v cs)(r:Rel H nx iv B w O J)(G:∀g,S g->g<B)(L:Ext J F)(hm:∀p,p∈iv->p∈A):eM F (Cv S B A) v cs:=
 (eM.cW (h.rel r G) λg V=>L.block g (rlo r G g V)).cU λ_ V=>V.mono hm
def eM.ef(h:eM F (Nf J F) v cs)(hB:B<=J.heap.size)(hm:(J.heap.size,F.heap.size)∈iv):eM F (Cv S B iv) v cs:=eM.cU h λ_ V=>V.ef hB hm
end
def sgn(b:Bool):Int:=if b then -1 else 1
def aAO(b:Bool):sgn b=1\/sgn b= -1:=by cases b<;>simp[sgn]
def OU(b:Bool)(n:Nat):sgn b*(n:Int)=sg b n:=by cases b<;>simp[sgn,sg]
def II{neg:Bool}(G:Old S w)(h:wM w S v neg ls)(hl:ls.length<=40000000):
  eH PG Fd.oK #[v] w (eV w λv' F=>eM F (Nf w F) v' (eS (sgn neg) ls)):=by
 obtain⟨lv,rfl,hL⟩:=h;have Qi:=hL.lm;obtain⟨a,c,rfl,hc,Px⟩:=hL.sl;refine xQ ce ?_
 cases neg with
 |true=>
  refine⟨Nat×World,λz=>⟨[(1,pP 0 0),(3,.o (.v (iV (-1)))),(4,.o (.w 1 (2*z.1))),(5,iZ z.1)],[(1,.vec T.int 1 ((eS (-1) (ls.take z.1)).map (Value.int .i64))),(0,.box T.Int [.v (.bool true),.v (.slice a ls.length c)])],2,[],z.2⟩,λz=>ls.length-z.1,
   λz=>Bq w z.2/\z.1<=ls.length,?_,?_⟩
  .intro O J r
   exact⟨(0,J),⟨r.cg,ce⟩,Sub.nil 4 T.int 1 rfl (by simp[kN,SV.sc,At.sc,ff]) r λI9 r1=>
    sbgn [] r1⟩
  rintro⟨i,w1⟩ ⟨W,R⟩;dsimp only at W R ⊢;have TY:((eS (-1) (ls.take i)).map (Value.int .i64)).length=2*i:=by rw[aO,iu,bI];omega
  apply bS<;>intro h
  .have h:=dL h;obtain⟨x,Z⟩:=gO ls i;have Re:=Qi x (aG Z);obtain⟨ad,rfl,q1,q2⟩:=Px i x Z;have Uz:eS (-1) (ls.take (i+1))=eS (-1) (ls.take i)++[(-1)*((x % 65536:Nat):Int),(-1)*((x / 65536:Nat):Int)]:=by rw[bH,Z,Option.toList_some,qR];rfl
   refine⟨ad,rfl,be,.int .u32 x,λO J r=>?_,?_⟩
   .rw[aI,ah];exact gF G W r q1 q2
   refine⟨(x:Int),wo,bv,((x % 65536:Nat):Int),rfl,(-1)*((x % 65536:Nat):Int),wo,bv,((x / 65536:Nat):Int),by rw[show (x:Int).tdiv 65536=((x / 65536:Nat):Int)from rfl,wrap64]<;>omega,(-1)*((x / 65536:Nat):Int),wo,?_⟩;refine .inl ?_;refine⟨by rw[TY,ah],be,mx,((i+1:Nat):Int),wo,?_⟩;intro I8 w3 r3;have UW:(eS (-1) (ls.take (i+1))).map (Value.int .i64)=(eS (-1) (ls.take i)).map (Value.int .i64)++[iV ((-1)*((x % 65536:Nat):Int)),iV ((-1)*((x / 65536:Nat):Int))]:=by
    rw[Uz];simp
   exact⟨(i+1,w3),⟨W.tr r3.cg,by dsimp only;omega⟩,sbgn [(1,3)] r3 ⟨by dsimp only;rw[UW];rfl,rfl,trivial⟩,by dsimp only;omega⟩
  have h:i=ls.length:=by
   have:¬i<ls.length:=by simpa using h
   omega
  subst h;rw[bE]at TY ⊢;intro GE we re;have Pm:=re.Eb (id:=1) (m:=2*ls.length) rfl (by rw[TY,ah]) bv;have TP:=tJ Pm (by rw[iu]) mx;refine⟨_,rfl,W.tr re.cg,eM.cU TP λg V=>.inr ?_⟩;have:=ownsRow.low Pm g V;exact this
 |false=>
  refine⟨Nat×World,λz=>⟨[(1,pP 0 0),(3,.o (.v (iV (1)))),(4,.o (.w 1 (2*z.1))),(5,iZ z.1)],[(1,.vec T.int 1 ((eS (1) (ls.take z.1)).map (Value.int .i64))),(0,.box T.Int [.v (.bool false),.v (.slice a ls.length c)])],2,[],z.2⟩,λz=>ls.length-z.1,
   λz=>Bq w z.2/\z.1<=ls.length,?_,?_⟩
  .intro O J r
   exact⟨(0,J),⟨r.cg,ce⟩,Sub.nil 4 T.int 1 rfl (by simp[kN,SV.sc,At.sc,ff]) r λI9 r1=>
    sbgn [] r1⟩
  rintro⟨i,w1⟩ ⟨W,R⟩;dsimp only at W R ⊢;have TY:((eS (1) (ls.take i)).map (Value.int .i64)).length=2*i:=by rw[aO,iu,bI];omega
  apply bS<;>intro h
  .have h:=dL h;obtain⟨x,Z⟩:=gO ls i;have Re:=Qi x (aG Z);obtain⟨ad,rfl,q1,q2⟩:=Px i x Z;have Uz:eS (1) (ls.take (i+1))=eS (1) (ls.take i)++[(1)*((x % 65536:Nat):Int),(1)*((x / 65536:Nat):Int)]:=by rw[bH,Z,Option.toList_some,qR];rfl
   refine⟨ad,rfl,be,.int .u32 x,λO J r=>?_,?_⟩
   .rw[aI,ah];exact gF G W r q1 q2
   refine⟨(x:Int),wo,bv,((x % 65536:Nat):Int),rfl,(1)*((x % 65536:Nat):Int),wo,bv,((x / 65536:Nat):Int),by rw[show (x:Int).tdiv 65536=((x / 65536:Nat):Int)from rfl,wrap64]<;>omega,(1)*((x / 65536:Nat):Int),wo,?_⟩;refine .inl ?_;refine⟨by rw[TY,ah],be,mx,((i+1:Nat):Int),wo,?_⟩;intro I8 w3 r3;have UW:(eS (1) (ls.take (i+1))).map (Value.int .i64)=(eS (1) (ls.take i)).map (Value.int .i64)++[iV ((1)*((x % 65536:Nat):Int)),iV ((1)*((x / 65536:Nat):Int))]:=by
    rw[Uz];simp
   exact⟨(i+1,w3),⟨W.tr r3.cg,by dsimp only;omega⟩,sbgn [(1,3)] r3 ⟨by dsimp only;rw[UW];rfl,rfl,trivial⟩,by dsimp only;omega⟩
  have h:i=ls.length:=by
   have:¬i<ls.length:=by simpa using h
   omega
  subst h;rw[bE]at TY ⊢;intro GE we re;have Pm:=re.Eb (id:=1) (m:=2*ls.length) rfl (by rw[TY,ah]) bv;have TP:=tJ Pm (by rw[iu]) mx;refine⟨_,rfl,W.tr re.cg,eM.cU TP λg V=>.inr ?_⟩;have:=ownsRow.low Pm g V;exact this
def CS(cs:List Int)(n:Nat)(z:Int):Prop:=dh cs=z/\cs.length<=n/\(∀c∈cs,-65535<=c/\c<=65535)/\(0<=z->∀c∈cs,0<=c)
def CT(s:Int)(h:val ls=0):∀c∈eS s ls,c=0:=λc hc=>by
 induction ls with
 |nil=>cases hc
 |cons l r ih=>
  have h:l+4294967296*val r=0:=h;have Y:l=0:=by omega
  have I:val r=0:=by omega
  subst Y;rw[eS]at hc;rcases List.mem_cons.1 hc with rfl|hc
  .simp
  rcases List.mem_cons.1 hc with rfl|hc
  .simp
  .exact ih I hc
def fV.BH{k:Nat}(h:fV w S v k z):∃b a ls c,v= .agg #[.bool b,.slice a ls.length c]/\dW w S (.slice a ls.length c) ls/\sg b (val ls)=z/\ls.length<=k:=by
 obtain⟨b,ls,⟨lv,rfl,hl⟩,hz,K⟩:=h;obtain⟨a,c,rfl,_⟩:=hl.sl;exact⟨b,a,ls,c,rfl,hl,hz,K⟩
def fV.ln{k:Nat}(h:fV w S v k z):ln z.natAbs<=k:=by
 obtain⟨b,a,ls,c,_,hl,hz,K⟩:=h.BH;rw[<-hz,oN];exact Mv hl.lm K
def fV.neg{k:Nat}(h:fV w S (.agg #[.bool b,lv]) k z):fV w S (.agg #[.bool (!b),lv]) k (-z):=by
 obtain⟨b,ls,⟨lv,e,hl⟩,hz,K⟩:=h;simp only[Value.agg.injEq,Array.mk.injEq,List.cons.injEq,Value.bool.injEq,and_true]at e;obtain⟨rfl,rfl⟩:=e;refine⟨_,ls,⟨_,rfl,hl⟩,?_,K⟩;rw[<-hz]
 cases b<;>simp[sg]
def fV.abs{k:Nat}(h:fV w S (.agg #[.bool b,lv]) k z):fV w S (.agg #[.bool false,lv]) k (z.natAbs:Int):=by
 obtain⟨b,ls,⟨lv,e,hl⟩,hz,K⟩:=h;simp only[Value.agg.injEq,Array.mk.injEq,List.cons.injEq,Value.bool.injEq,and_true]at e;obtain⟨rfl,rfl⟩:=e;exact⟨_,ls,⟨_,rfl,hl⟩,by rw[<-hz,oN];rfl,K⟩
def tL{k:Nat}(G:Old S w)(h:fV w S v k z)(K:k<=40000000):
  eH PG Fd.oK #[v] w (eV w λv' F=>∃cs,eM F (Nf w F) v' cs/\CS cs (2*k) z):=by
 obtain⟨b,ls,R,hz,hl⟩:=h;have Qi:Lm ls:=by obtain⟨_,_,h⟩:=R;exact h.lm
 refine(II G R be).mono λ_ F ⟨v2,e1,e2,e3⟩=>⟨v2,e1,e2,_,e3,by rw[Dy,OU,hz],by rw[iu];omega,AW (aAO b) Qi,λh0=>?_⟩
 cases b with
 |false=>exact λc hc=>(yY Qi c hc).1
 |true=>
  rw[KO]at hz;exact λc hc=>by rw[CT _ (show val ls=0 by omega) c hc];decide
def IJ{n:Nat}(G:Old S w)(h:eM w S v cs)(N:CS cs n z)(E:n<=100000000):
  eH PG Fd.lA #[v] w (eV w λv' F=>dV F (Nf w F) v' z):=by
 have:=xc G h (λc hc=>by have:=N.2.2.1 c hc;omega) (by have:=N.2.1;omega);rw[N.1]at this;exact this
def My{k:Nat}(G:Old S w)(Z:fV w S v k x)(K:k<=40000000):
  eH PG Fd.DJ #[v] w (eV w λv' F=>dV F (Nf w F) v' x):=by
 have W:=bR w;replace Z:=Z.cU (S':=Cv S w.heap.size []) λ_ h=>.inl h;obtain⟨b1,a1,n1,c1,rfl⟩:=Z.shape;refine EG ce ?_;refine cS (cE W (λ_ J v F=>∃cs,eM F (Nf J F) v cs/\CS cs (2*k) (x)) (λO J r=>tL (rlo r G) (Z.rel r G) be) ?_);rintro O _ _ _ Pt r L W h_ ⟨cs,k1,bcs⟩;have hc:=k1.cU (nw r h_);obtain⟨acs,ccs,rfl,lcs⟩:=hc.shape;refine cS (cE W (pR dV (x)) (λO J r=>IJ (rlo r oF) (hc.rel r oF) bcs be) ?_);rintro O _ _ _ iv2 r L W h_ E;have hC:=E.cU (nw r h_);obtain⟨A0,A1,A2,A3,rfl⟩:=hC.shape;exact rtn W λGE we re=>hC.out re oF
def nM{k:Nat}(G:Old S w)(Z:fV w S v k x)(K:k<=40000000):
  eH PG Fd.yA #[v] w (eV w λv' F=>dV F (Nf w F) v' (-x)):=by
 have W:=bR w;replace Z:=Z.cU (S':=Cv S w.heap.size []) λ_ h=>.inl h;obtain⟨b1,a1,n1,c1,rfl⟩:=Z.shape;replace Z:=Z.neg;refine Aq ce ?_;refine cS (cE W (pR dV (-x)) (λO J r=>My (rlo r G) (Z.rel r G) K) ?_);rintro O _ _ _ Pt r L W h_ E;have hC:=E.cU (nw r h_);obtain⟨A0,A1,A2,A3,rfl⟩:=hC.shape;exact rtn W λGE we re=>hC.out re oF
def zR{k:Nat}(G:Old S w)(Z:fV w S v k x)(K:k<=40000000):
  eH PG Fd.Ae #[v] w (eV w λv' F=>dV F (Nf w F) v' ((x.natAbs:Int))):=by
 have W:=bR w;replace Z:=Z.cU (S':=Cv S w.heap.size []) λ_ h=>.inl h;obtain⟨b1,a1,n1,c1,rfl⟩:=Z.shape;replace Z:=Z.abs;refine CI ce ?_;refine cS (cE W (pR dV ((x.natAbs:Int))) (λO J r=>My (rlo r G) (Z.rel r G) K) ?_);rintro O _ _ _ Pt r L W h_ E;have hC:=E.cU (nw r h_);obtain⟨A0,A1,A2,A3,rfl⟩:=hC.shape;exact rtn W λGE we re=>hC.out re oF
def Oy{i:Nat}(G:Old S w)(h:eM w S v cs):
  eH PG Fd.Fx #[v,iV i] w (eV w λv' _=>v'=iV (cs.getD i 0)):=by
 obtain⟨a,c,rfl,hc⟩:=h.shape;refine GB ce ?_;apply bS<;>intro R
 .have R:=dL R;obtain⟨x,Z⟩:=gO cs i;obtain⟨ad,rfl,q1,q2⟩:=h.load Z;refine⟨ad,rfl,be,iV x,λO J r=>?_,?_⟩
  .rw[aI];exact gF G Bel.refl r q1 q2
  intro O F r;exact⟨_,rfl,r.cg,by rw[List.getD,Z];rfl⟩
 .have R:cs.length<=i:=by
   have:¬i<cs.length:=by simpa using R
   omega
  intro O F r;exact⟨_,rfl,r.cg,by rw[List.getD,List.getElem?_eq_none R];rfl⟩
def val_zero(h:∀x∈ls,x=0):val ls=0:=by
 induction ls with
 |nil=>rfl
 |cons l r ih=>rw[val,h l aF,ih λx Z=>h x (aD _ Z)]
def OV{x:Nat}(h:x∈ls)(Z:x≠0):0<val ls:=by
 induction ls with
 |nil=>cases h
 |cons l r ih=>
  rw[val];rcases List.mem_cons.1 h with rfl|h
  .omega
  .have:=ih h;omega
def iB(G:Old S w)(Z:j3 w S v x):
  eH PG Fd.Ac #[v] w (eV w λv' _=>v'=iV x.sign):=by
 obtain⟨b,ls,⟨lv,rfl,Y⟩,hz⟩:=Z;obtain⟨a,c,rfl,_,ha⟩:=Y.sl;have hle1:=Y.le;refine CF ce ?_
 refine⟨Nat×World,λz=>⟨[(1,pP 0 0),(3,iZ z.1)],[(0,.box T.Int [.v (.bool b),.v (.slice a ls.length c)])],1,[],z.2⟩,λz=>ls.length-z.1,
  λz=>z.1<=ls.length/\Bq w z.2/\∀x∈ls.take z.1,x=0,?_,?_⟩
 .intro O J r;exact⟨(0,J),⟨ce,r.cg,ce⟩,sbgn [] r⟩
 rintro⟨i,w1⟩ ⟨R,W,ht⟩;dsimp only at R W ht ⊢;apply bS<;>intro Pk
 .have Pk:=dL Pk;obtain⟨y,hy⟩:=gO ls i;obtain⟨ad,rfl,q1,q2⟩:=ha i y hy;refine⟨ad,rfl,be,.int .u32 y,λO J r=>by rw[aI,ah];exact gF G W r q1 q2,?_⟩;apply bS<;>intro Po
  .have Po:y≠0:=λh=>by rw[h]at Po;simp at Po
   have hp:=OV (aG hy) Po
   cases b with
   |true=>
    rw[KO]at hz;intro O F r;exact⟨_,rfl,W.tr r.cg,by rw[cG be];rfl⟩
   |false=>
    rw[PY]at hz;intro O F r;exact⟨_,rfl,W.tr r.cg,by rw[cJ be];rfl⟩
  have Po:y=0:=by simpa using Po
  subst Po;have WC:∀x∈ls.take (i+1),x=0:=λx Z=>by
   rw[bH,hy]at Z;rcases az.1 Z with Z|Z
   .exact ht x Z
   .simpa using Z
  refine inc i ?_;intro I8 w3 r3;exact⟨(i+1,w3),⟨Pk,W.tr r3.cg,WC⟩,sbgn [] r3,dec Pk⟩
 have Pk:i=ls.length:=by
  have:¬i<ls.length:=by simpa using Pk
  omega
 subst Pk;rw[bE]at ht;intro O F r;refine⟨_,rfl,W.tr r.cg,?_⟩;rw[<-hz,val_zero ht]
 cases b<;>rfl
end Go.Ex
