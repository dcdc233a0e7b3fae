/- Texts X59 to X62: lemmas, each with its conditions. -/
import Derived.Test.YtbffinhkognefaaGreatDoorP8
set_option linter.defProp false
namespace Go.Ex
open Go Go.Sx Go.Proofs
variable{cs:List Int}
def CS.at{n:Nat}{z:Int}(h:CS cs n z)(i:Nat): -65535<=cs.getD i 0/\cs.getD i 0<=65535:=by
 rw[List.getD]
 cases hj:cs[i]? with
 |none=>simp
 |some d=>exact h.2.2.1 d (aG hj)
end Go.Ex
namespace Go.Sx
open Go Go.Ex Go.Proofs
variable{cs:List Int}{O:Nat->Sx.eD}
def Rel.OW{H:Hp}{nx:Nat}{iv:Iv}{B:Nat}{w J:World}(r:Rel H nx iv B w O J){id m:Nat}(h:dT H id=some (.vec T.int 1 (cs.map (Value.int .i64))))(hm:m=cs.length)(hl:m<=maxLen):
  ∃S',Old S' J/\eM J S' ((SV.o (.w id m)).den O) cs:=by
 have Pm:=r.Eb (m:=m) h (by rw[aO,hm,ah]) bv;exact⟨_,λg V=>(ownsRow.low Pm g V).2,tJ Pm hm hl⟩
end Go.Sx
namespace Go.Ex
open Go Go.Sx Go.Proofs
section
variable{y:Int}{cs:List Int}{k l:Nat}{S:Nat->Prop}{O:Nat->Sx.eD}{u v:Value}{w:World}
def oU{H:Hp}{nx:Nat}{iv:Iv}{B:Nat}{J:World}(r:Rel H nx iv B w O J){id m:Nat}{z:Int}(h:dT H id=some (.vec T.int 1 (cs.map (Value.int .i64))))(hm:m=cs.length)(hl:m<=100000000)
  (N:∀c∈cs,-1152921504606846976<=c/\c<=1152921504606846976) (hz:dh cs=z):eH PG Fd.lA #[(SV.o (.w id m)).den O] J (eV J λv' F=>dV F (Nf J F) v' z):=by
 subst hz;obtain⟨S',Y,I⟩:=r.OW h hm mx;exact xc Y I N be
def Be{x:Int}(G:Old S w)(Z:fV w S v k x)(hy:fV w S u l y)(K:k<=10000000)(hl:l<=10000000):
  eH PG Fd.DK #[v,u] w (eV w λv' F=>dV F (Nf w F) v' (x+y)):=by
 have W:=bR w;replace Z:=Z.cU (S':=Cv S w.heap.size []) λ_ h=>.inl h;replace hy:=hy.cU (S':=Cv S w.heap.size []) λ_ h=>.inl h;obtain⟨b1,a1,n1,c1,rfl⟩:=Z.shape;obtain⟨b2,a2,n2,c2,rfl⟩:=hy.shape;refine EH ce ?_;refine dP [.x 0,.x 2,.x 1,.x 3,.x 4,.x 5] ?_;refine cE W (λ_ J v F=>∃cs,eM F (Nf J F) v cs/\CS cs (2*k) (x)) (λO J r=>tL (rlo r G) (Z.rel r G) be) ?_;rintro O _ _ _ Pt r L W h_ ⟨ca,k1,bca⟩;replace hy:=hy.cV r G L (mC h_);have Qc:=k1.cU (nw r h_);obtain⟨aca,cca,rfl,lca⟩:=Qc.shape;refine cE W (λ_ J v F=>∃cs,eM F (Nf J F) v cs/\CS cs (2*l) (y)) (λO J r=>tL (rlo r G) (hy.rel r G) be) ?_;rintro O _ _ _ iv2 r L W h_ ⟨cb,k1,bcb⟩;replace Qc:=Qc.cV r oF L (mC h_);have Qz:=k1.cU (nw r h_);obtain⟨acb,ccb,rfl,lcb⟩:=Qz.shape
 refine⟨Nat×World×Iv,λz=>⟨[(4,pP 2 0),(5,sV aca ca.length cca),(6,sV acb cb.length ccb),(7,.o (.w 3 z.1)),(8,iZ z.1)],[(3,.vec T.int 1 (((List.range z.1).map λj=>ca.getD j 0+cb.getD j 0).map (Value.int .i64))),(2,.box T.Int [.v (.bool false),.v nls])],4,z.2.2,z.2.1⟩,λz=>max ca.length cb.length-z.1,
  λz=>z.1<=max ca.length cb.length/\Bq w z.2.1/\eM z.2.1 (Cf w z.2.2) (.slice aca ca.length cca) ca/\eM z.2.1 (Cf w z.2.2) (.slice acb cb.length ccb) cb,?_,?_⟩
 .intro O J r
  exact⟨(0,J,iv2),⟨ce,W.tr r.cg,Qc.rel r oF,Qz.rel r oF⟩,Sub.nil 7 T.int 1 rfl (by simp[kN,SV.sc,At.sc,ff]) r λI9 r1=>
   sbgn [] r1⟩
 rintro⟨i,w1,iv⟩ ⟨R,W,Qc,Qz⟩;dsimp only at R W Qc Qz ⊢;have l1:=bca.2.1;have l2:=bcb.2.1;apply bS<;>intro Pk
 .have Pk:i<max ca.length cb.length:=by
   have:=aK Pk;omega
  have q1:=bca.at i;have q2:=bcb.at i;refine cS (cE W (pE (iV (ca.getD i 0))) (λO J r=>Oy (rlo r oF) (Qc.rel r oF)) ?_);rintro O Qh v3 Q7 Ps r L W h_ rfl;replace Qc:=Qc.cV r oF L (mC h_);replace Qz:=Qz.cV r oF L (mC h_);refine cS (cE W (pE (iV (cb.getD i 0))) (λO J r=>Oy (rlo r oF) (Qz.rel r oF)) ?_);rintro O _ _ _ QA r L W h_ rfl;replace Qc:=Qc.cV r oF L (mC h_);replace Qz:=Qz.cV r oF L (mC h_);refine⟨ca.getD i 0+cb.getD i 0,wo,?_⟩;refine .inl ?_;refine⟨ce,be,mx,((i+1:Nat):Int),wo,?_⟩;intro I8 w3 r3;have UW:((List.range (i+1)).map λj=>ca.getD j 0+cb.getD j 0).map (Value.int .i64)=((List.range i).map λj=>ca.getD j 0+cb.getD j 0).map (Value.int .i64)++[iV (ca.getD i 0+cb.getD i 0)]:=by
   rw[bu,bp,bp];rfl
  exact⟨(i+1,w3,_),⟨Pk,W.tr r3.cg,Qc.rel r3 oF,Qz.rel r3 oF⟩,sbgn [(3,5)] r3 ⟨by dsimp only;rw[UW];rfl,rfl,trivial⟩,dec Pk⟩
 have Pk:i=max ca.length cb.length:=by
  have:=aL Pk;omega
 generalize QX:((List.range i).map λj=>ca.getD j 0+cb.getD j 0)=cs;have hz:dh cs=x+y:=by
  rw[<-QX,AU,AV,rR ca i be,rR cb i be,bca.1,bcb.1]
 have hlen:i=cs.length:=by rw[<-QX];simp
 have TJ:∀c∈cs,-1152921504606846976<=c/\c<=1152921504606846976:=λc hc=>by
  rw[<-QX]at hc;obtain⟨j,_,rfl⟩:=bA.1 hc;have:=bca.at j;have:=bcb.at j;omega
 refine cS (cE W (pR dV (x+y)) (λO J r=>oU r rfl hlen be TJ hz) ?_);rintro O _ _ _ Ps r L W h_ E;have hC:=E.cU (nw r h_);obtain⟨A0,A1,A2,A3,rfl⟩:=hC.shape;exact rtn W λGE we re=>hC.out re oF
def Ed{x:Int}(G:Old S w)(Z:fV w S v k x)(hy:fV w S u l y)(K:k<=10000000)(hl:l<=10000000):
  eH PG Fd.Af #[v,u] w (eV w λv' F=>dV F (Nf w F) v' (x-y)):=by
 have RZ:=hy.ln;have W:=bR w;replace Z:=Z.cU (S':=Cv S w.heap.size []) λ_ h=>.inl h;replace hy:=hy.cU (S':=Cv S w.heap.size []) λ_ h=>.inl h;obtain⟨b1,a1,n1,c1,rfl⟩:=Z.shape;obtain⟨b2,a2,n2,c2,rfl⟩:=hy.shape;refine CJ ce ?_;refine dP (idO 5) ?_;refine cE W (pR dV (-y)) (λO J r=>nM (rlo r G) (hy.rel r G) be) ?_;rintro O _ _ _ Pt r L W h_ E;replace Z:=Z.cV r G L (mC h_);have hm:=E.cU (nw r h_);obtain⟨A0,A1,A2,A3,rfl⟩:=hm.shape;refine cE W (pR dV (x-y)) (λO J r=>?_) ?_
 .have h:=Be (rlo r G) (Z.rel r G) (((hm.rel r oF).l (k:=l) (by rw[cP];exact RZ)).cU λg V=>Cv.false V) K hl;rw[<-Int.sub_eq_add_neg]at h;exact h
 rintro O _ _ _ iv2 r L W h_ E;have hC:=E.cU (nw r h_);obtain⟨C0,C1,C2,C3,rfl⟩:=hC.shape;exact rtn W λGE we re=>hC.out re oF
def Ks{x:Int}(G:Old S w)(Z:fV w S v k x)(hy:fV w S u l y)(K:k<=10000000)(hl:l<=10000000):
  eH PG Fd.wD #[v,u] w (eV w λv' _=>v'=iV (x-y).sign):=by
 have W:=bR w;replace Z:=Z.cU (S':=Cv S w.heap.size []) λ_ h=>.inl h;replace hy:=hy.cU (S':=Cv S w.heap.size []) λ_ h=>.inl h;obtain⟨b1,a1,n1,c1,rfl⟩:=Z.shape;obtain⟨b2,a2,n2,c2,rfl⟩:=hy.shape;refine yp ce ?_;refine cS (cE W (pR dV (x-y)) (λO J r=>Ed (rlo r G) (Z.rel r G) (hy.rel r G) K hl) ?_);rintro O _ _ _ Pt r L W h_ E;have hd:=E.cU (nw r h_);obtain⟨A0,A1,A2,A3,rfl⟩:=hd.shape;refine cS (cE W (pE (iV (x-y).sign)) (λO J r=>iB (rlo r oF) (hd.rel r oF).r) ?_);rintro O _ _ _ iv2 r L W h_ rfl;exact rtn W λGE we re=>rfl
end
variable{a:Act}{FS next:Act->World->Prop}{la lx:Array Bool}{E8:Array Bool->World->Prop}{Q:Exit->Act->World->Prop}{b i j:Nat}{S:Nat->Prop}{oi:Oper}{X:Sem Next}{v:Value}{w:World}{C9:World->Prop}
def Kt{x y:Int}(Z: -65535<=x/\x<=65535)(hy: -65535<=y/\y<=65535):(x*y).natAbs<=4294836225:=by
 rw[Int.natAbs_mul];exact Nat.mul_le_mul (show x.natAbs<=65535 by omega) (show y.natAbs<=65535 by omega)
def D4{a b:List Int}{k:Nat}(K:k<=i+1)(h:i<k\/a.length<=k):jG a b i k=gS a b i:=by
 rcases h with h|h
 .rw[gS,show i+1=k by omega]
 .obtain⟨m,hm⟩:∃m,i+1=k+m:=⟨i+1-k,be⟩
  rw[gS,hm,Ha a b i k m h]
def im{u:Value}{k l:Nat}{x y:Int}(G:Old S w)(Z:fV w S v k x)(hy:fV w S u l y)(K:k<=10000000)(hl:l<=10000000):
  eH PG Fd.Ad #[v,u] w (eV w λv' F=>dV F (Nf w F) v' (x*y)):=by
 have W:=bR w;replace Z:=Z.cU (S':=Cv S w.heap.size []) λ_ h=>.inl h;replace hy:=hy.cU (S':=Cv S w.heap.size []) λ_ h=>.inl h;obtain⟨b1,a1,n1,c1,rfl⟩:=Z.shape;obtain⟨b2,a2,n2,c2,rfl⟩:=hy.shape;refine CG ce ?_;refine dP [.x 0,.x 2,.x 1,.x 3,.x 4,.x 5] ?_;refine cE W (λ_ J v F=>∃cs,eM F (Nf J F) v cs/\CS cs (2*k) (x)) (λO J r=>tL (rlo r G) (Z.rel r G) be) ?_;rintro O _ _ _ Pt r L W h_ ⟨ca,k1,bca⟩;replace hy:=hy.cV r G L (mC h_);have Qc:=k1.cU (nw r h_);obtain⟨aca,cca,rfl,lca⟩:=Qc.shape;refine cE W (λ_ J v F=>∃cs,eM F (Nf J F) v cs/\CS cs (2*l) (y)) (λO J r=>tL (rlo r G) (hy.rel r G) be) ?_;rintro O _ _ _ iv2 r L W h_ ⟨cb,k1,bcb⟩;replace Qc:=Qc.cV r oF L (mC h_);have Qz:=k1.cU (nw r h_);obtain⟨acb,ccb,rfl,lcb⟩:=Qz.shape;have l1:=bca.2.1;have l2:=bcb.2.1
 refine⟨Nat×World,λz=>⟨[(4,pP 2 0),(5,sV aca ca.length cca),(6,sV acb cb.length ccb),(7,.o (.w 3 z.1)),(8,iN z.1)],[(3,.vec T.int 1 (((List.range z.1).map (gS ca cb)).map (Value.int .i64))),(2,.box T.Int [.v (.bool false),.v nls])],4,iv2,z.2⟩,λz=>ca.length+cb.length-z.1,
  λz=>(z.1+1<=ca.length+cb.length\/z.1=0)/\Bq w z.2/\eM z.2 (Cf w iv2) (.slice aca ca.length cca) ca/\eM z.2 (Cf w iv2) (.slice acb cb.length ccb) cb,?_,?_⟩
 .intro O J r
  exact⟨(0,J),⟨ce,W.tr r.cg,Qc.rel r oF,Qz.rel r oF⟩,Sub.nil 7 T.int 1 rfl (by simp[kN,SV.sc,At.sc,ff]) r λI9 r1=>
   sbgn [] r1⟩
 rintro⟨i,w1⟩ ⟨R,W,Qc,Qz⟩;dsimp only at R W Qc Qz ⊢;refine⟨((i+1:Nat):Int),wo,((ca.length+cb.length:Nat):Int),wo,?_⟩;apply bS<;>intro Pk
 .have Pk:i+1<ca.length+cb.length:=by
   have:=aK Pk;omega
  refine⟨(i:Int)-cb.length,wo,(i:Int)-cb.length+1,wo,?_⟩;conv=>whnf
  rw[show max 0 ((i:Int)-cb.length+1)=((i+1-cb.length:Nat):Int) by omega];obtain⟨k0,Sp⟩:∃k0,k0=i+1-cb.length:=⟨_,rfl⟩
  rw[<-Sp]
  refine⟨Nat×World,λz=>⟨[(4,pP 2 0),(5,sV aca ca.length cca),(6,sV acb cb.length ccb),(7,.o (.w 3 i)),(8,iN i),(9,.o (.v (iV (jG ca cb i z.1)))),(10,iN z.1)],[(3,.vec T.int 1 (((List.range i).map (gS ca cb)).map (Value.int .i64))),(2,.box T.Int [.v (.bool false),.v nls])],4,iv2,z.2⟩,λz=>i+1-z.1,
   λz=>k0<=z.1/\z.1<=i+1/\Bq w z.2/\eM z.2 (Cf w iv2) (.slice aca ca.length cca) ca/\eM z.2 (Cf w iv2) (.slice acb cb.length ccb) cb,?_,?_⟩
  .intro O J r;refine⟨(k0,J),⟨ce,by dsimp only;omega,W.tr r.cg,Qc.rel r oF,Qz.rel r oF⟩,sbgn [] r (hE:=⟨rfl,rfl,rfl,rfl,rfl,?_,rfl,trivial⟩)⟩;dsimp only
   rw[H9 ca cb i k0 k0 (λj hj=>be) be lr];rfl
  rintro⟨j,F⟩ ⟨Yg,hj1,W,Qc,Qz⟩;dsimp only at Yg hj1 W Qc Qz ⊢;conv=>whnf
  apply bS<;>intro Qd
  .have Qd:j<=i:=by
    have:=aK Qd;omega
   apply bS<;>intro Za
   .have Za:j<ca.length:=by
     have:=aK Za;omega
    obtain⟨p,hp⟩:=gO ca j;obtain⟨q,hq⟩:=gO cb (i-j);obtain⟨ad,rfl,q1,q2⟩:=Qc.load hp;obtain⟨ad2,rfl,q3,q4⟩:=Qz.load hq;have e1:ca.getD j 0=p:=by rw[List.getD,hp];rfl
    have e2:cb.getD (i-j) 0=q:=by rw[List.getD,hq];rfl
    have e3:jG ca cb i (j+1)=jG ca cb i j+p*q:=by rw[jG,e1,aM Qd,e2]
    have m1:=bca.at j;have m2:=bcb.at (i-j);rw[e1]at m1;rw[e2]at m2;have m3:=Kt m1 m2;have m4:=nW (a:=ca) (b:=cb) (i:=i) bca.2.2.1 bcb.2.2.1 j;refine dP (idO 14) ?_;refine⟨ad,rfl,be,iV p,λO J r=>?_,?_⟩
    .rw[aI,cZ (w:=F) (F:=J) (by rw[da];exact rls (S:=FF) r oF q1)];exact q2
    refine⟨((i-j:Nat):Int),wo,ad2,rfl,be,iV q,λO J r=>?_,?_⟩
    .rw[aI,cZ (w:=F) (F:=J) (by rw[da];exact rls (S:=FF) r oF q3)];exact q4
    refine⟨p*q,wo,jG ca cb i (j+1),by rw[e3,wrap64]<;>omega,((j+1:Nat):Int),wo,?_⟩;intro I8 w3 r3;exact⟨(j+1,w3),⟨by dsimp only;omega,by dsimp only;omega,W.tr r3.cg,Qc.rel r3 oF,Qz.rel r3 oF⟩,sbgn [] r3,by dsimp only;omega⟩
   have Za:ca.length<=j:=by
    have:=aL Za;omega
   rw[D4 hj1 (.inr Za)];have m4:=nW (a:=ca) (b:=cb) (i:=i) bca.2.2.1 bcb.2.2.1 (i+1);refine .inl ?_;refine⟨ce,be,mx,((i+1:Nat):Int),wo,?_⟩;intro I8 w3 r3;have UW:((List.range (i+1)).map (gS ca cb)).map (Value.int .i64)=((List.range i).map (gS ca cb)).map (Value.int .i64)++[iV (gS ca cb i)]:=by
    rw[bu,bp,bp];rfl
   exact⟨(i+1,w3),⟨.inl Pk,W.tr r3.cg,Qc.rel r3 oF,Qz.rel r3 oF⟩,sbgn [(3,5)] r3 ⟨by dsimp only;rw[UW];rfl,rfl,trivial⟩,by dsimp only;omega⟩
  have Qd:i<j:=by
   have:=aL Qd;omega
  rw[D4 hj1 (.inl Qd)];have m4:=nW (a:=ca) (b:=cb) (i:=i) bca.2.2.1 bcb.2.2.1 (i+1);refine .inl ?_;refine⟨ce,be,mx,((i+1:Nat):Int),wo,?_⟩;intro I8 w3 r3;have UW:((List.range (i+1)).map (gS ca cb)).map (Value.int .i64)=((List.range i).map (gS ca cb)).map (Value.int .i64)++[iV (gS ca cb i)]:=by
   rw[bu,bp,bp];rfl
  exact⟨(i+1,w3),⟨.inl Pk,W.tr r3.cg,Qc.rel r3 oF,Qz.rel r3 oF⟩,sbgn [(3,5)] r3 ⟨by dsimp only;rw[UW];rfl,rfl,trivial⟩,by dsimp only;omega⟩
 have Pk:ca.length+cb.length<=i+1:=by
  have:=aL Pk;omega
 generalize QX:((List.range i).map (gS ca cb))=cs;have hz:dh cs=x*y:=by
  rw[<-QX,AU,ME ca cb i Pk,bca.1,bcb.1]
 have hlen:i=cs.length:=by rw[<-QX];simp
 have TJ:∀c∈cs,-1152921504606846976<=c/\c<=1152921504606846976:=λc hc=>by
  rw[<-QX]at hc;obtain⟨j,hj,rfl⟩:=bA.1 hc;have hj:=List.mem_range.1 hj;have:=nW (a:=ca) (b:=cb) (i:=j) bca.2.2.1 bcb.2.2.1 (j+1);rw[gS];omega
 refine cS (cE W (pR dV (x*y)) (λO J r=>oU r rfl hlen be TJ hz) ?_);rintro O _ _ _ Ps r L W h_ E;have hC:=E.cU (nw r h_);obtain⟨A0,A1,A2,A3,rfl⟩:=hC.shape;exact rtn W λGE we re=>hC.out re oF
section
variable{P:Program}{ops:Array Oper}{Q:Exit->Act->World->Prop}{md:Region.Mode}
def Kz{oj:Oper}(hj:ops[j]? =some oj)(Sh:oi.apart ops oj=true)
  (hsi:∀cs b,oi.op≠ .select cs b) (hsj:∀cs b,oj.op≠ .select cs b)
  (hQ:∀c a w,Q (.panic c) (a.put oi.dst v) w->Q (.panic c) a w)
  (hy:Region.wanted oi (yielded ops a.tmps)=true/\execOp a.eval oi=X) (h:wpOp P ops Q j FS (a.put oi.dst v) w):
  wpOp P ops Q j (λa' J=>(Region.wanted oi (yielded ops a'.tmps)=true/\execOp a'.eval oi=X)/\FS (a'.put oi.dst v) J) a w:=by
 obtain⟨Y,I,h3⟩:=Oper.apart_spec Sh;have cW:∀(a:Act),(Region.wanted oi (yielded ops a.tmps)=true/\execOp a.eval oi=X)->∀u,(Region.wanted oi (yielded ops (a.put oj.dst u).tmps)=true/\execOp (a.put oj.dst u).eval oi=X):=λa hy u=>
  ⟨(wanted_put oi a oj.dst u h3).trans hy.1,(execOp_put oi hsi a oj.dst u h3).trans hy.2⟩
 have keepD:∀d:Deferred,(Region.wanted oi (yielded ops ({a with defers:=d::a.defers}:Act).tmps)=true/\execOp ({a with defers:=d::a.defers}:Act).eval oi=X):=λd=>hy;unfold wpOp at*
 simp only[hj]at*
 rw[wanted_put oj a oi.dst v Y]at h;split
 .rename_i W;simp only[W,if_true]at h;rcases h with h|⟨VB,XT⟩
  case inr=>exact .inr ⟨by unfold Oper.asks at *;rw[execOp_put oj hsj a oi.dst v Y]at VB;exact VB,XT⟩
  refine .inl ?_;unfold Oper.wp at*
  rw[execOp_put oj hsj a oi.dst v Y]at h;generalize (execOp a.eval oj).run P w=r at*
  cases r with
  |ok n J=>
   cases n<;>simp only[Oper.upon]at h ⊢
   case value u=>exact⟨cW a hy u,by rw[<-Act.put_comm a v u I];exact h⟩
   case skip=>exact⟨cW a hy _,by rw[<-Act.put_comm a v undef I];exact h⟩
   case defer d=>
    refine⟨cW ({a with defers:=d::a.defers}:Act) (keepD d) undef,?_⟩;rw[<-Act.put_comm _ v undef I,<-Act.put_defers];exact h
   case enter f args=>
    refine Calls.mono h λe w'' L=>?_
    cases e with
    |returned u=>exact⟨cW a hy u,by rw[<-Act.put_comm a v u I];exact L⟩
    |panicked c=>exact hQ _ _ _ L
    |outgrown=>exact L
   case row row args=>exact Rows.mono h λu w'' L=>⟨cW a hy u,by rw[<-Act.put_comm a v u I];exact L⟩
  |halt x J=>
   cases x<;>simp only[Oper.upon]at h ⊢
   case panic u=>exact hQ _ _ _ h
 .rename_i W;simp only[W]at h;exact⟨cW a hy _,by rw[<-Act.put_comm a v undef I];exact h⟩
def s9(P:Program)(md:Region.Mode)(ops:Array Oper)(Q:Exit->Act->World->Prop)(E8:Array Bool->World->Prop):Nat->Array Bool->Act->World->Prop
 |0,lx,a,w=>E8 lx w/\Region.ready md ops lx=[]/\Q .normal a w
 |fuel+1,lx,a,w=>E8 lx w/\(Region.ready md ops lx=[]->Q .normal a w)/\∀i∈Region.ready md ops lx,wpOp P ops Q i (λa' J=>s9 P md ops Q E8 fuel (lx.setIfInBounds i true) a' J) a w
def Bo{E8:Array Bool->World->Prop}:∀(fuel:Nat) (lx:Array Bool) (a:Act) (w:World),s9 P md ops Q E8 fuel lx a w->wpAny P md ops Q fuel lx a w
 |0,_,_,_,h=>h.2
 |fuel+1,_,_,_,h=>⟨h.2.1,λi R=>wpOp_mono (λ_ _ h'=>Bo fuel _ _ _ h') (h.2.2 i R)⟩
def lY{E8 A8:Array Bool->World->Prop}(hIJ:∀lx w,E8 lx w->A8 lx w):∀(fuel:Nat) (lx:Array Bool) (a:Act) (w:World),s9 P md ops Q E8 fuel lx a w->s9 P md ops Q A8 fuel lx a w
 |0,_,_,_,h=>⟨hIJ _ _ h.1,h.2⟩
 |fuel+1,_,_,_,h=>⟨hIJ _ _ h.1,h.2.1,λi R=>wpOp_mono (λ_ _ h'=>lY hIJ fuel _ _ _ h') (h.2.2 i R)⟩
def Gv(hI:E8 lx w)(hr:Region.ready md ops lx=[])(h:Q .normal a w):∀fuel,s9 P md ops Q E8 fuel lx a w
 |0=>⟨hI,hr,h⟩
 |_+1=>⟨hI,λ_=>h,by rw[hr];simp⟩
def oW(ops:Array Oper)(b:Nat)(lx:Array Bool):Prop:=∀(k:Nat) o,tb b k=true->ops[k]? =some o->qq o.op=false->lx.getD k false=false
def jw(R:ops[i]? =some oi)(hR:qq oi.op=true):oW ops b (lx.setIfInBounds i true)↔oW ops b lx:=by
 have key:∀(k:Nat) o,ops[k]? =some o->qq o.op=false->(lx.setIfInBounds i true).getD k false=lx.getD k false:=λk o ho hr=>by
  have:i≠k:=λe=>by subst e;rw[R]at ho;injection ho with ho;subst ho;rw[hR]at hr;cases hr
  exact Go.getD_set_ne false this
 exact⟨λh k o Y I h3=>by rw[<-key k o I h3];exact h k o Y I h3,λh k o Y I h3=>by rw[key k o I h3];exact h k o Y I h3⟩
def wZ(R:ops[i]? =some oi)(hR:qq oi.op=true)(Q6:∀(j:Nat) (o:Oper) cs b,ops[j]? =some o->o.op≠ .select cs b)
  (hQ:∀c a w,Q (.panic c) (a.put oi.dst v) w->Q (.panic c) a w) (Qt:∀j,tb b j=true->∃oj e,ops[j]? =some oj/\e∈oj.after/\Region.binds md e=true/\(e.on=i\/tb b e.on=true))
  (hY:∀w,C9 w->X.run P w= .ok (.value v) w) (hI:∀lx w,E8 (lx.setIfInBounds i true) w->E8 lx w):
  ∀(fuel:Nat) (lx:Array Bool) (a:Act) (w:World),(∀j,tb b j=true->lx.getD j false=false)->
   (∀j oj,ops[j]? =some oj->j≠i->lx.getD j true=false->tb b j=false->oi.apart ops oj=true)->
   i∈Region.ready md ops lx->(Region.wanted oi (yielded ops a.tmps)=true/\execOp a.eval oi=X)->
   s9 P md ops Q (λlx w=>E8 lx w/\(oW ops b lx->C9 w)) fuel (lx.setIfInBounds i true) (a.put oi.dst v) w->s9 P md ops Q E8 (fuel+1) lx a w:=by
 intro fuel;have run:∀(lx:Array Bool) (a:Act) (w:World),(∀j,tb b j=true->lx.getD j false=false)->(Region.wanted oi (yielded ops a.tmps)=true/\execOp a.eval oi=X)->(E8 (lx.setIfInBounds i true) w/\(oW ops b (lx.setIfInBounds i true)->C9 w))->
   ∀FS:Act->World->Prop,FS (a.put oi.dst v) w->wpOp P ops Q i FS a w:=λlx a w Pu hy hH FS hK=>by
  have hYw:=hH.2 ((jw R hR).2 λk o Y _ _=>Pu k Y);unfold wpOp;simp only[R,hy.1,if_true]
  refine .inl ?_;unfold Oper.wp;rw[hy.2,hY w hYw];exact hK
 induction fuel with
 |zero=>
  intro lx a w Pu _ hr hy H;refine⟨hI _ _ H.1.1,λh=>(by rw[h]at hr;cases hr),λj hj=>?_⟩;by_cases Qd:j=i
  .subst Qd;exact run lx a w Pu hy H.1 _ (lY (λ_ _ h=>h.1) 0 _ _ _ H)
  .have:=ready_mono hj Qd;rw[H.2.1]at this
   cases this
 |succ fuel ih=>
  intro lx a w Pu Rs hr hy H;refine⟨hI _ _ H.1.1,λh=>(by rw[h]at hr;cases hr),λj hj=>?_⟩;by_cases Qd:j=i
  .subst Qd;exact run lx a w Pu hy H.1 _ (lY (λ_ _ h=>h.1) (fuel+1) _ _ _ H)
  .have Y:=H.2.2 j (ready_mono hj Qd);obtain⟨XU,oj,Su,Qp⟩:=mem_ready.1 hj;have Qe:tb b j=false:=by
    cases N:tb b j with
    |false=>rfl
    |true=>
     exfalso;obtain⟨oj',e,UN,L,WT,Wy⟩:=Qt j N;rw[Su]at UN;injection UN with UN;subst UN;have Y:=Qp e L WT;rcases Wy with heq|QZ
     .have h0:=(mem_ready.1 hr).1;rw[heq]at Y;rcases aW i lx.size with h'|h'
      .simp[h']at h0 Y;rw[h0]at Y;cases Y
      .simp[Array.getElem?_eq_none h']at Y
     .rw[Pu _ QZ]at Y;cases Y
   have I:=Kz Su (Rs j oj Su Qd XU Qe) (λcs b=>Q6 i oi cs b R) (λcs b=>Q6 j oj cs b Su) hQ hy Y;have hbl':∀k,tb b k=true->(lx.setIfInBounds j true).getD k false=false:=λk K=>by
    rw[Go.getD_set_ne false (λe=>(by subst e;rw[Qe]at K;cases K))];exact Pu k K
   have Vj:∀k ok,ops[k]? =some ok->k≠i->(lx.setIfInBounds j true).getD k true=false->tb b k=false->oi.apart ops ok=true:=λk ok K VC XM Tu=>by
    refine Rs k ok K VC ?_ Tu;by_cases Up:j=k
    .subst Up;exact XU
    .rw[Go.getD_set_ne true Up]at XM;exact XM
   refine wpOp_mono (λa' J h3=>?_) I;refine ih (lx.setIfInBounds j true) a' J hbl' Vj (ready_mono hr (Ne.symm Qd)) h3.1 ?_;rw[Array.setIfInBounds_comm _ _ Qd];exact h3.2
end
structure Gh where
 u:Nat
 d:Nat
 T:Nat
 b:Nat
def Ek(τ:nO)(B:Nat):List Gh->Env->Hp->Nat->Iv->World->Prop->Prop
 |[],_,_,_,_,_,FS=>FS
 |g::r,l,H,nx,iv,w,FS=>match fj l g.u with
  |some su=>Cg τ B g.T su H nx iv w (λv=>fj l g.d=some v/\Ek τ B r l H nx iv w FS)
  |none=>False
inductive Tg where
 |nil
 |x (i:Nat) (t:Tg)
 |two (i:Nat) (t:Tg) (j:Nat) (u:Tg)
 |three (i:Nat) (t:Tg) (j:Nat) (u:Tg) (k:Nat) (v:Tg)
 |ld (i b:Nat) (t:Tg)
 |Bk (id:Nat) (t:Tg)
def D8(j:Nat):List Gh->List Gh
 |[]=>[]
 |g::r=>match tb g.b j with
  |true=>D8 j r
  |false=>g::D8 j r
def stepG(τ:nO)(B:Nat)(rd:Bool)(A':List Gh)(j:Nat)(l:Env)(H:Hp)(nx:Nat)(iv:Iv)(w:World)(FS:List Gh->Prop):Prop:=match rd with
 |true=>FS A'
 |false=>Ek τ B (D8 j A') l H nx iv w (FS (D8 j A'))
def Gw(ops:Array Oper)(m i:Nat)(oi:Oper)(b:Nat):List Oper->Nat->Bool
 |[],_=>true
 |oj::r,j=>(Nat.beq j i||tb m j||tb b j||oi.apart ops oj)&&Gw ops m i oi b r (j+1)
def JV(m i u d:Nat):List Oper->Nat->Bool
 |[],_=>true
 |oj::r,j=>(tb m j||match oj.dst with
   |none=>true
   |some e=> !Nat.beq e u&&(Nat.beq j i|| !Nat.beq e d))&&JV m i u d r (j+1)
def NL(o:Oper):Option (Nat×Nat×Nat):=match o with
 |⟨some d,.load T (.tmp u),_,_,_,none⟩=>some (d,T,u)
 |_=>none
def nN(ops:Array Oper):Tg->Array Bool->Bool
 | .nil,lx=>(Region.ready .any ops lx).isEmpty
 | .x i t,lx=>match ops[i]? with
  |none=>false
  |some o=>(Region.ready .any ops lx).contains i&&((Region.ready .any ops lx).all (λj=>Nat.beq j i)||JY o.op&&o.guard.isNone&&Gw ops (jK lx.toList 0) i o (Bs (jK lx.toList 0) i ops.toList 0 0) ops.toList 0)&&nN ops t (lx.setIfInBounds i true)
 | .two i t j u,lx=>match Region.ready .any ops lx with
  |[a,b]=>Nat.beq a i&&(Nat.beq b j&&(nN ops t (lx.setIfInBounds i true)&&nN ops u (lx.setIfInBounds j true)))
  |_=>false
 | .three i t j u k v,lx=>match Region.ready .any ops lx with
  |[a,b,c]=>Nat.beq a i&&(Nat.beq b j&&(Nat.beq c k&&(nN ops t (lx.setIfInBounds i true)&&(nN ops u (lx.setIfInBounds j true)&&nN ops v (lx.setIfInBounds k true)))))
  |_=>false
 | .ld i b t,lx=>match ops[i]? with
  |none=>false
  |some o=>match NL o with
   |none=>false
   |some (d,_,u)=>(Region.ready .any ops lx).contains i&&Nat.beq b (Bs (jK lx.toList 0) i ops.toList 0 0)&&Gw ops (jK lx.toList 0) i o b ops.toList 0&&JV (jK lx.toList 0) i u d ops.toList 0&&nN ops t (lx.setIfInBounds i true)
 | .Bk _ t,lx=>nN ops t lx
section
variable{P:Program}{τ:nO}{ops:Array Oper}{B n nx:Nat}{l:Env}{H:Hp}{iv:Iv}{w J:World}{O:Nat->Sx.eD}{a:Act}
def yS(hτ:fk P τ)(sat:Sat n l H nx iv B w O a J){FS:Prop}:∀(A':List Gh),Ek τ B A' l H nx iv w FS->
  FS/\∀g∈A',∃su sv,fj l g.u=some su/\fj l g.d=some sv/\(Instr.loadAt g.T (su.den O)).run P J= .ok (sv.den O) J
 |[],h=>⟨h,λg V=>by cases V⟩
 |g::r,h=>by
  unfold Ek at h;split at h
  .rename_i su hsu;obtain⟨v,⟨Y,I⟩,hv,Py⟩:=pV hτ sat.rel (sat.sc _ _ hsu) h;obtain⟨h3,h4⟩:=yS hτ sat r I;refine⟨h3,λg' V=>?_⟩;rcases List.mem_cons.1 V with rfl|V
   .exact⟨su,v,hsu,Y,Py J sat.rel⟩
   .exact h4 g' V
  .exact h.elim
def tM{j:Nat}{g:Gh}:∀{A':List Gh},g∈A'->tb g.b j=false->g∈D8 j A'
 |g'::r,h,N=>by
  unfold D8;rcases List.mem_cons.1 h with rfl|h
  .rw[N];exact aF
  .split
   .exact tM h N
   .exact aD _ (tM h N)
abbrev Zh:=Gh×Value×Value
def Yz(P:Program)(z:Zh)(w:World):Prop:=(Instr.loadAt z.1.T z.2.1).run P w= .ok z.2.2 w
structure GOk(ops:Array Oper)(la:Array Bool)(a:Act)(z:Zh):Prop where
 u:a.tmps[z.1.u]? =some z.2.1
 d:a.tmps[z.1.d]? =some z.2.2
 no:∀(j:Nat) oj,ops[j]? =some oj->la.getD j false=false->oj.dst≠some z.1.u/\oj.dst≠some z.1.d
def GOk.step{z:Zh}{oj:Oper}{x:Value}(h:GOk ops la a z)(hj:ops[j]? =some oj)(hl:la.getD j false=false):GOk ops (la.setIfInBounds j true) (a.put oj.dst x) z:=by
 obtain⟨Y,I⟩:=h.no j oj hj hl;refine⟨se Y h.u,se I h.d,λk ok K hlk=>h.no k ok K ?_⟩;by_cases Up:j=k
 .subst Up;exact hl
 .rwa [Go.getD_set_ne false Up]at hlk
def IZ(P:Program)(ops:Array Oper)(E9:List Zh)(lx:Array Bool)(w:World):Prop:=∀z∈E9,oW ops z.1.b lx->Yz P z w
def wg(h:i∈Region.ready .any ops la):la.getD i false=false:=by
 have:=(ew.1 h).1;rw[bJ,this];rfl
def qQ{o:Oper}(ho:ops[i]? =some o)(hl:la[i]? =some false)(h:oW ops b (la.setIfInBounds i true)):oW ops b la/\(qq o.op=false->tb b i=false):=by
 refine⟨λk ok Y I h3=>?_,λhR=>?_⟩
 .by_cases hik:i=k
  .subst hik;rw[bJ,hl];rfl
  .rw[<-Go.getD_set_ne false hik];exact h k ok Y I h3
 .cases N:tb b i with
  |false=>rfl
  |true=>
   have:=h i o N ho hR;have R:=(bG.1 hl).1;rw[bJ,Array.getElem?_setIfInBounds_self_of_lt R]at this
   cases this
end
section
variable{P:Program}{τ:nO}{ops:Array Oper}{B n nx:Nat}{l:Env}{H:Hp}{iv:Iv}{w J:World}{O:Nat->Sx.eD}{a:Act}
def ui{m i b:Nat}{oi:Oper}:∀(l:List Oper) (k:Nat),Gw ops m i oi b l k=true->∀(j:Nat) oj,l[j]? =some oj->k+j≠i->tb m (k+j)=false->tb b (k+j)=false->oi.apart ops oj=true
 |[],_,_,j,oj,h,_,_,_=>by cases h
 |o::r,k,h,j,oj,hj,Y,I,h3=>by
  simp only[Gw,bM,Bool.or_eq_true]at h
  cases j with
  |zero=>
   injection hj with hj;subst hj;rcases h.1 with((h4|h4)|h4)|h4
   .exact absurd (bz h4) Y
   .rw[cM]at I;rw[I]at h4;cases h4
   .rw[cM]at h3;rw[h3]at h4;cases h4
   .exact h4
  |succ j=>
   have e:k+(j+1)=k+1+j:=by omega
   rw[e]at Y I h3;exact ui r (k+1) h.2 j oj (by simpa using hj) Y I h3
def Bp{m i u d:Nat}:∀(l:List Oper) (k:Nat),JV m i u d l k=true->∀(j:Nat) oj,l[j]? =some oj->tb m (k+j)=false->oj.dst≠some u/\(k+j≠i->oj.dst≠some d)
 |[],_,_,j,oj,h,_=>by cases h
 |o::r,k,h,j,oj,hj,I=>by
  simp only[JV,bM,Bool.or_eq_true]at h
  cases j with
  |zero=>
   injection hj with hj;subst hj;rcases h.1 with h4|h4
   .rw[cM]at I;rw[I]at h4;cases h4
   .cases ho:o.dst with
    |none=>exact⟨ce,ce⟩
    |some e=>
     rw[ho]at h4;simp only[bM,Bool.not_eq_true',Bool.or_eq_true]at h4;refine⟨λhh=>?_,λPo hh=>?_⟩
     .injection hh with hh;subst hh;have:=h4.1;simp at this
     .injection hh with hh;subst hh;rcases h4.2 with h5|h5
      .exact Po (bz h5)
      .simp at h5
  |succ j=>
   have e:k+(j+1)=k+1+j:=by omega
   rw[e]at I ⊢;exact Bp r (k+1) h.2 j oj (by simpa using hj) I
def LB{o:Oper}{d T u:Nat}(h:NL o=some (d,T,u)):o.dst=some d/\o.op= .load T (.tmp u)/\o.guard=none:=by
 unfold NL at h;split at h
 .injection h with h;injection h with Y I;injection I with I h3;subst Y I h3;exact⟨rfl,rfl,rfl⟩
 .cases h
end
def CX(P:Program)(τ:nO)(B:Nat)(all:List Oper):Tg->List Gh->Env->Hp->Nat->Iv->World->KT->Prop
 | .nil,_,l,H,nx,iv,w,FS=>FS l H nx iv w
 | .x i t,A',l,H,nx,iv,w,FS=>zU all i (λo=>kO (qq o.op||El o.op) P τ B all o l H nx iv w (λl' H' Pv A J=>stepG τ B (qq o.op) A' i l' H' Pv A J (λG'=>CX P τ B all t G' l' H' Pv A J FS)))
 | .two i t j u,A',l,H,nx,iv,w,FS=>zU all i (λo=>kO (qq o.op||El o.op) P τ B all o l H nx iv w (λl' H' Pv A J=>stepG τ B (qq o.op) A' i l' H' Pv A J (λG'=>CX P τ B all t G' l' H' Pv A J FS)))/\
   zU all j (λo=>kO (qq o.op||El o.op) P τ B all o l H nx iv w (λl' H' Pv A J=>stepG τ B (qq o.op) A' j l' H' Pv A J (λG'=>CX P τ B all u G' l' H' Pv A J FS)))
 | .three i t j u k v,A',l,H,nx,iv,w,FS=>zU all i (λo=>kO (qq o.op||El o.op) P τ B all o l H nx iv w (λl' H' Pv A J=>stepG τ B (qq o.op) A' i l' H' Pv A J (λG'=>CX P τ B all t G' l' H' Pv A J FS)))/\
   (zU all j (λo=>kO (qq o.op||El o.op) P τ B all o l H nx iv w (λl' H' Pv A J=>stepG τ B (qq o.op) A' j l' H' Pv A J (λG'=>CX P τ B all u G' l' H' Pv A J FS)))/\
   zU all k (λo=>kO (qq o.op||El o.op) P τ B all o l H nx iv w (λl' H' Pv A J=>stepG τ B (qq o.op) A' k l' H' Pv A J (λG'=>CX P τ B all v G' l' H' Pv A J FS))))
 | .ld i b t,A',l,H,nx,iv,w,FS=>zU all i (λo=>match NL o with
  |some (d,T,u)=>match fj l u with
   |some su=>Cg τ B T su H nx iv w (λv=>CX P τ B all t (⟨u,d,T,b⟩::A') ((d,v)::l) H nx iv w FS)
   |none=>False
  |none=>False)
 | .Bk id t,A',l,H,nx,iv,w,FS=>∃H' b,dT H id=some b/\b≠ .dead/\z7 H H'/\Gx id H'=true/\∀O J,Rel H nx iv B w O J->(O id).nil=false/\∃l',(∀u v,fj l' u=some v->v.sc nx/\∃v',fj l u=some v'/\v'.den O=v.den O)/\CX P τ B all t A' l' H' nx (((O id).g,(O id).g+1)::iv) J FS
section
variable{P:Program}{τ:nO}{ops:Array Oper}{B n nx:Nat}{l:Env}{H:Hp}{iv:Iv}{w J:World}{O:Nat->Sx.eD}{a:Act}
def aAV(hτ:fk P τ){o:Oper}(ho:ops[i]? =some o)(hd:∀d,o.dst=some d->d<n){FS:KT}
  (Y:kO (qq o.op||El o.op) P τ B ops.toList o l H nx iv w FS) (sat:Sat n l H nx iv B w O a J)
  (E:∀l' H' Pv A F F' x w3,FS l' H' Pv A F->Sat n l' H' Pv A B F F' (a.put o.dst x) w3->(qq o.op=true->w3=J)->next (a.put o.dst x) w3):
  wpOp P ops Q i next a J:=by
 unfold kO at Y;refine xh ho ?_;rcases pK sat Y with⟨W,l1,I,sat1⟩|⟨W,l1,I,sat1⟩
 .refine .inl ⟨W,?_⟩
  cases hR:qq o.op with
  |true=>
   rw[hR]at I;obtain⟨v,hK,Rq,Py⟩:=(nT hτ I sat1 hR).resolve_right (λhh=>by have:=hh.1;simp at this);obtain⟨l2,h3,sat2⟩:=kj sat1 hK hd Rq;exact oC (Py J (.inr sat1.rel)) (E _ _ _ _ _ _ _ _ h3 sat2 λ_=>rfl)
  |false=>
   have nr:∀w3:World,qq o.op=true->w3=J:=λw3 h=>by rw[hR]at h;cases h
   cases hA:El o.op with
   |true=>
    obtain⟨b,v,mk,obj,hK,TJ,N,hv,Yj,RU,UK⟩:=pL hτ I sat1 hA;have Qs:Rel ((nx,b)::H) (nx+1) iv B w (Sx.iy O nx ⟨J.heap.size,0,false⟩) (J.alloc obj):=
     sat1.rel.push b _ rfl rfl rfl ce (λk K=>heap_alloc_old _ _ K) (λ_=>⟨lr,ce⟩) (RU _ _ (heap_alloc_new _ _)) N
    obtain⟨l2,h3,sat2⟩:=kj (sat1.next Qs (Nat.le_succ _) (λid RR=>iU id RR)) hK hd hv;rw[Yj]at sat2;exact oC (v:=mk J.heap.size) (F:=J.alloc obj) (UK J) (E _ _ _ _ _ _ _ _ h3 sat2 (by rw[hR];exact λh=>by cases h))
   |false=>
    refine uA hτ I sat1 λv H' Pv A F F' w3 hK sat2 hv=>?_;obtain⟨l2,h3,sat3⟩:=kj sat2 hK hd hv;exact E _ _ _ _ _ _ _ _ h3 sat3 (by rw[hR];exact λh=>by cases h)
 .obtain⟨l2,h4,sat3⟩:=kj sat1 I hd trivial;exact .inr ⟨W,E _ _ _ _ _ _ _ _ h4 sat3 λ_=>rfl⟩
def xg(hτ:fk P τ){o:Oper}{A':List Gh}{E9:List Zh}(ho:ops[i]? =some o)(hd:∀d,o.dst=some d->d<n)(hr:i∈Region.ready .any ops la){FS:Env->Hp->Nat->Iv->World->List Gh->Prop}
  (Y:kO (qq o.op||El o.op) P τ B ops.toList o l H nx iv w (λl' H' Pv A J=>stepG τ B (qq o.op) A' i l' H' Pv A J (FS l' H' Pv A J))) (sat:Sat n l H nx iv B w O a J)
  (hG:∀z∈E9,oW ops z.1.b la->z.1∈A') (hZ:∀z∈E9,GOk ops la a z) (hI:IZ P ops E9 la J)
  (E:∀l' H' Pv A F F' x w3 G',FS l' H' Pv A F G'->Sat n l' H' Pv A B F F' (a.put o.dst x) w3->(∀z∈E9,oW ops z.1.b (la.setIfInBounds i true)->z.1∈G')->(∀z∈E9,GOk ops (la.setIfInBounds i true) (a.put o.dst x) z)->IZ P ops E9 (la.setIfInBounds i true) w3->next (a.put o.dst x) w3):
  wpOp P ops Q i next a J:=by
 have hl:=(ew.1 hr).1;refine aAV hτ ho hd Y sat λl' H' Pv A F F' x w3 hK sat2 W=>?_;have hZ2:∀z∈E9,GOk ops (la.setIfInBounds i true) (a.put o.dst x) z:=λz hz=>(hZ z hz).step ho (wg hr)
 cases hR:qq o.op with
 |true=>
  rw[hR]at hK;have W:=W hR;subst W;refine E _ _ _ _ _ _ _ _ A' hK sat2 (λz hz h=>hG z hz (qQ ho hl h).1) hZ2 λz hz h=>hI z hz (qQ ho hl h).1
 |false=>
  rw[hR]at hK;obtain⟨I,h3⟩:=yS hτ sat2 _ hK;refine E _ _ _ _ _ _ _ _ _ I sat2 (λz hz h=>?_) hZ2 λz hz h=>?_
  .obtain⟨k1,k2⟩:=qQ ho hl h;exact tM (hG z hz k1) (k2 hR)
  .obtain⟨k1,k2⟩:=qQ ho hl h;obtain⟨su,sv,e1,e2,e3⟩:=h3 z.1 (tM (hG z hz k1) (k2 hR));have h4:=sat2.env _ _ e1;have h5:=sat2.env _ _ e2;rw[(hZ2 z hz).u]at h4;rw[(hZ2 z hz).d]at h5;injection h4 with h4;injection h5 with h5;unfold Yz;rw[h4,h5];exact e3
def jl(hτ:fk P τ)(QK:∀(j:Nat) o,ops[j]? =some o->∀d,o.dst=some d->d<n)(Q6:∀(j:Nat) (o:Oper) cs b,ops[j]? =some o->o.op≠ .select cs b){FS:KT}{Q0:Act->World->Prop}
  (hQ:∀l' H' Pv A F F' a' w3,FS l' H' Pv A F->Sat n l' H' Pv A B F F' a' w3->Q0 a' w3):
  ∀(t:Tg) (fuel:Nat) (la:Array Bool) (l:Env) (H:Hp) (nx:Nat) (iv:Iv) (w:World) (O:Nat->Sx.eD) (a:Act) (J:World) (A':List Gh) (E9:List Zh),Oz la<=fuel->la.size=ops.size->nN ops t la=true->CX P τ B ops.toList t A' l H nx iv w FS->Sat n l H nx iv B w O a J->
   (∀z∈E9,oW ops z.1.b la->z.1∈A')->(∀z∈E9,GOk ops la a z)->IZ P ops E9 la J->s9 P .any ops (QN Q0) (IZ P ops E9) fuel la a J
 | .nil,fuel,la,l,H,nx,iv,w,O,a,J,A',E9,_,_,hc,h,s,hG,hZ,hI=>by
  simp only[nN,List.isEmpty_iff]at hc;exact Gv hI hc ⟨rfl,hQ _ _ _ _ _ _ _ _ h s⟩ fuel
 | .x i t,fuel,la,l,H,nx,iv,w,O,a,J,A',E9,hf,hz,hc,h,s,hG,hZ,hI=>by
  unfold nN at hc;obtain⟨o,ho,Y⟩:=ix h;rw[bT]at ho;simp only[ho,bM,Bool.or_eq_true]at hc;obtain⟨⟨c1,c2⟩,c3⟩:=hc;have c1:i∈Region.ready .any ops la:=by simpa using c1
  obtain⟨YR,-⟩:=ew.1 c1;have XM:=mO YR;obtain⟨f,rfl⟩:∃f,fuel=f+1:=⟨fuel-1,be⟩
  have Vi:(la.setIfInBounds i true).size=ops.size:=by rw[bw,hz]
  rcases c2 with c2|⟨⟨hP,Sq⟩,c4⟩
  .refine⟨hI,λh0=>(by rw[h0]at c1;cases c1),λj hj=>?_⟩;have Qd:j=i:=ed (List.all_eq_true.1 c2 j hj);subst Qd;exact xg hτ ho (QK j o ho) c1 Y s hG hZ hI λ_ _ _ _ _ _ _ _ G' K hs YN YO YP=>jl hτ QK Q6 hQ t f _ _ _ _ _ _ _ _ _ G' E9 be Vi c3 K hs YN YO YP
  .have hR:qq o.op=true:=by
    unfold JY at hP;split at hP
    .cases hP
    .exact hP
   have hm:=yu la;have N:=oZ (ops:=ops) (m:=jK la.toList 0) (i:=i) ops.toList 0 0 (λn o E=>by rw[aV];rwa [bT]at E) (λj hj=>by rw[uu]at hj;cases hj);generalize Bs (jK la.toList 0) i ops.toList 0 0=b at*
   have VX:o.guard=none:=by simpa using Sq
   unfold kO uv at Y;rw[VX]at Y;rw[hR]at Y;obtain⟨v,hK,Rq,Py⟩:=(nT hτ Y s hR).resolve_right (λhh=>by have:=hh.1;simp at this);obtain⟨l2,h3,sat2⟩:=kj s hK (QK i o ho) Rq
   try rw[hR]at h3
   have W:Region.wanted o (yielded ops a.tmps)=true:=by simp[Region.wanted,VX]
   refine wZ (v:=v.den O) (b:=b) (C9:=λ_=>True) (X:=execOp a.eval o) ho hR Q6 (λc a w hq=>absurd hq.1 ce) (λj hj=>(N j hj).2.2) (λw3 _=>Py w3 (.inl hP)) (λlx w h z hz ha=>h z hz ((jw ho hR).2 ha))
    f la a J (λj hj=>(hm j).symm.trans (N j hj).1) (λj oj Su Qd hl K=>ui ops.toList 0 c4 j oj (by rw[bT];exact Su) be (by
     have hj:=(bG.1 Su).1
     rw[aV,hm,oX be false true];exact hl) (by rw[aV];exact K)) c1 ⟨W,rfl⟩ ?_
   refine lY (λlx w h=>⟨h,λ_=>trivial⟩) _ _ _ _ ?_;exact jl hτ QK Q6 hQ t f _ _ _ _ _ _ _ _ _ A' E9 be Vi c3 h3 sat2 (λz hz h=>hG z hz ((jw ho hR).1 h)) (λz hz=>(hZ z hz).step ho (wg c1)) (λz hz h=>hI z hz ((jw ho hR).1 h))
 | .two i t k u,fuel,la,l,H,nx,iv,w,O,a,J,A',E9,hf,hz,hc,h,s,hG,hZ,hI=>by
  simp only[nN]at hc;split at hc
  .rename_i x y hr;simp only[bM]at hc;obtain⟨c1,c2,c3,c4⟩:=hc;have Z:=bz c1;have hy:=bz c2;subst Z;subst hy;obtain⟨Y,I⟩:=h;obtain⟨o1,UR,Y⟩:=ix Y;obtain⟨o2,RD,I⟩:=ix I;rw[bT]at UR RD;have VG:x∈Region.ready .any ops la:=by rw[hr];simp
   have VI:y∈Region.ready .any ops la:=by rw[hr];simp
   have u1:=mO (ew.1 VG).1;have u2:=mO (ew.1 VI).1;obtain⟨f,rfl⟩:∃f,fuel=f+1:=⟨fuel-1,be⟩
   refine⟨hI,λh0=>(by rw[hr]at h0;cases h0),λj hj=>?_⟩;rw[hr,List.mem_cons,aY]at hj;rcases hj with rfl|rfl
   .exact xg hτ UR (QK _ o1 UR) VG Y s hG hZ hI λ_ _ _ _ _ _ _ _ G' K hs YN YO YP=>jl hτ QK Q6 hQ t f _ _ _ _ _ _ _ _ _ G' E9 be (by rw[bw,hz]) c3 K hs YN YO YP
   .exact xg hτ RD (QK _ o2 RD) VI I s hG hZ hI λ_ _ _ _ _ _ _ _ G' K hs YN YO YP=>jl hτ QK Q6 hQ u f _ _ _ _ _ _ _ _ _ G' E9 be (by rw[bw,hz]) c4 K hs YN YO YP
  .cases hc
 | .three i t k u m v,fuel,la,l,H,nx,iv,w,O,a,J,A',E9,hf,hz,hc,h,s,hG,hZ,hI=>by
  simp only[nN]at hc;split at hc
  .rename_i x y z9 hr;simp only[bM]at hc;obtain⟨c1,c2,c6,c3,c4,c5⟩:=hc;have Z:=bz c1;have hy:=bz c2;have hz9:=bz c6;subst Z;subst hy;subst hz9;obtain⟨Y,I,h3⟩:=h;obtain⟨o1,UR,Y⟩:=ix Y;obtain⟨o2,RD,I⟩:=ix I;obtain⟨o3,WA,h3⟩:=ix h3;rw[bT]at UR RD WA;have VG:x∈Region.ready .any ops la:=by rw[hr];simp
   have VI:y∈Region.ready .any ops la:=by rw[hr];simp
   have hm3:z9∈Region.ready .any ops la:=by rw[hr];simp
   have u1:=mO (ew.1 VG).1;have u2:=mO (ew.1 VI).1;have u3:=mO (ew.1 hm3).1;obtain⟨f,rfl⟩:∃f,fuel=f+1:=⟨fuel-1,be⟩
   refine⟨hI,λh0=>(by rw[hr]at h0;cases h0),λj hj=>?_⟩;rw[hr,List.mem_cons,List.mem_cons,aY]at hj;rcases hj with rfl|rfl|rfl
   .exact xg hτ UR (QK _ o1 UR) VG Y s hG hZ hI λ_ _ _ _ _ _ _ _ G' K hs YN YO YP=>jl hτ QK Q6 hQ t f _ _ _ _ _ _ _ _ _ G' E9 be (by rw[bw,hz]) c3 K hs YN YO YP
   .exact xg hτ RD (QK _ o2 RD) VI I s hG hZ hI λ_ _ _ _ _ _ _ _ G' K hs YN YO YP=>jl hτ QK Q6 hQ u f _ _ _ _ _ _ _ _ _ G' E9 be (by rw[bw,hz]) c4 K hs YN YO YP
   .exact xg hτ WA (QK _ o3 WA) hm3 h3 s hG hZ hI λ_ _ _ _ _ _ _ _ G' K hs YN YO YP=>jl hτ QK Q6 hQ v f _ _ _ _ _ _ _ _ _ G' E9 be (by rw[bw,hz]) c5 K hs YN YO YP
  .cases hc
 | .ld i b t,fuel,la,l,H,nx,iv,w,O,a,J,A',E9,hf,hz,hc,h,s,hG,hZ,hI=>by
  unfold nN at hc;obtain⟨o,ho,Y⟩:=ix h;rw[bT]at ho;simp only[ho]at hc
  cases SU:NL o with
  |none=>rw[SU]at hc;cases hc
  |some q=>
   obtain⟨d,T,u⟩:=q;rw[SU]at hc Y;simp only[bM]at hc;obtain⟨⟨⟨⟨c1,c2⟩,c4⟩,c5⟩,c3⟩:=hc;obtain⟨e1,e2,e3⟩:=LB SU;have c1:i∈Region.ready .any ops la:=by simpa using c1
   obtain⟨YR,-⟩:=ew.1 c1;have XM:=mO YR;obtain⟨f,rfl⟩:∃f,fuel=f+1:=⟨fuel-1,be⟩
   have Vi:(la.setIfInBounds i true).size=ops.size:=by rw[bw,hz]
   have hR:qq o.op=true:=by rw[e2];rfl
   have hm:=yu la;have N:=oZ (ops:=ops) (m:=jK la.toList 0) (i:=i) ops.toList 0 0 (λn o E=>by rw[aV];rwa [bT]at E) (λj hj=>by rw[uu]at hj;cases hj);rw[<-bz c2]at N
   cases hsu:fj l u with
   |none=>simp only[hsu]at Y
   |some su=>
    simp only[hsu]at Y;obtain⟨v,hK,Rq,Py⟩:=pV hτ s.rel (s.sc _ _ hsu) Y;have hau:=s.env _ _ hsu;have YQ:=QK i o ho d e1;have sat2:Sat n ((d,v)::l) H nx iv B w O (a.put o.dst (v.den O)) J:=by rw[e1];exact s.put YQ Rq
    have W:Region.wanted o (yielded ops a.tmps)=true:=by simp[Region.wanted,e3]
    have TB:a.eval (.tmp u)=su.den O:=by rw[Act.eval,bJ,hau];rfl
    have hui:tb (jK la.toList 0) i=false:=by rw[hm];exact wg c1
    have Tu:=Bp ops.toList 0 c5;refine wZ (v:=v.den O) (b:=b) (C9:=Yz P (⟨u,d,T,b⟩,su.den O,v.den O)) (X:=execOp a.eval o) ho hR Q6 (λc a w hq=>absurd hq.1 ce) (λj hj=>(N j hj).2.2) (λw3 hY=>?_) (λlx w h z hz ha=>h z hz ((jw ho hR).2 ha))
     f la a J (λj hj=>(hm j).symm.trans (N j hj).1) (λj oj Su Qd hl K=>ui ops.toList 0 c4 j oj (by rw[bT];exact Su) be (by
      have hj:=(bG.1 Su).1
      rw[aV,hm,oX be false true];exact hl) (by rw[aV];exact K)) c1 ⟨W,rfl⟩ ?_
    .unfold Yz at hY;obtain⟨dst,op,ty,pos,after,guard⟩:=o;simp only at e2;subst e2;simp only[execOp,TB]
     exact mm hY
    .refine lY (E8:=IZ P ops ((⟨u,d,T,b⟩,su.den O,v.den O)::E9)) (λlx w h=>⟨λz hz=>h z (aD _ hz),h _ aF⟩) _ _ _ _ ?_;refine jl hτ QK Q6 hQ t f _ _ _ _ _ _ _ _ _ (⟨u,d,T,b⟩::A') ((⟨u,d,T,b⟩,su.den O,v.den O)::E9) be Vi c3 hK sat2 (λz hz h=>?_) (λz hz=>?_) (λz hz h=>?_)
     .rcases List.mem_cons.1 hz with rfl|hz
      .exact aF
      .exact aD _ (hG z hz ((jw ho hR).1 h))
     .rcases List.mem_cons.1 hz with rfl|hz
      .have h7:=(Tu i o (by rw[bT];exact ho) (by rw[aV];exact hui)).1;refine⟨se h7 hau,?_,λj oj Su Tt=>?_⟩
       .rw[e1];show(a.tmps.setIfInBounds d _)[d]? =_;rw[Array.getElem?_setIfInBounds_self_of_lt (by rw[s.size];exact YQ)]
       .have Qd:i≠j:=λe=>by
         subst e;have R:=(bG.1 YR).1;rw[bJ,Array.getElem?_setIfInBounds_self_of_lt R]at Tt
         cases Tt
        rw[Go.getD_set_ne false Qd]at Tt;obtain⟨k1,k2⟩:=Tu j oj (by rw[bT];exact Su) (by rw[aV,hm];exact Tt);exact⟨k1,k2 be⟩
      .exact(hZ z hz).step ho (wg c1)
     .rcases List.mem_cons.1 hz with rfl|hz
      .exact Py J s.rel
      .exact hI z hz ((jw ho hR).1 h)
 | .Bk id t,fuel,la,l,H,nx,iv,w,O,a,J,A',E9,hf,hz,hc,h,s,hG,hZ,hI=>by
  obtain⟨H',b,RR,hd,hs,ho,h⟩:=h;obtain⟨E,l',hl,h⟩:=h _ _ s.rel;exact jl hτ QK Q6 hQ t fuel la l' H' nx _ J O a J A' E9 hf hz hc h ⟨s.rel.free RR hd E hs ho,s.size,s.defers,λu v hv=>by obtain⟨-,v',Y,I⟩:=hl u v hv;rw[<-I];exact s.env u v' Y,λu v hv=>(hl u v hv).1⟩ hG hZ hI
def fA(hτ:fk P τ)(hm:P.follows .mixedOrders=true){FS:KT}(t:Tg)(hs:Region.noSelect ops=true)(hc:nN ops t (Array.replicate ops.size false)=true)
  (h:CX P τ B ops.toList t [] l H nx iv w FS):pM P B ops l H nx iv w FS:=by
 refine⟨λn O a J QK sat Q hQ id=>?_⟩;refine wp_mono (Q':=Q) (c:=.region id ops true) (wp_region_any (Q:=QN (Q .normal)) hm (Bo (E8:=IZ P ops []) _ _ _ _ ?_)) (λe a w hq=>by obtain⟨rfl,hq⟩:=hq;exact hq);refine jl (Q0:=Q .normal) hτ (λj o ho d hd=>?_) (Region.noSelect_spec hs) hQ t _ _ _ _ _ _ _ O _ _ [] [] ?_ ce hc h ⟨sat.rel.drew,sat.size,sat.defers,sat.env,sat.sc⟩ (λz hz=>by cases hz) (λz hz=>by cases hz) (λz hz=>by cases hz)
 .have:=List.all_eq_true.1 QK o (aG (by rw[bT];exact ho));rw[hd]at this;have h5:d+1<=n:=by simpa [Nat.blt]using this
  exact h5
 .unfold Oz;refine aR List.countP_le_length ?_;simp
end
end Go.Ex
namespace Go.Ex
def Jo{b r r2 q X n c:Int}(h:X=b*q+r)(hr:r*65536+c=b*n+r2):c+65536*X=b*(n+65536*q)+r2:=by
 rw[h,Int.mul_add,Int.mul_add,Int.mul_left_comm b 65536 q];omega
def LV{x y Q F9:Int}(hy:y≠0)(h:(x.natAbs:Int)=(y.natAbs:Int)*Q+F9)(h0:0<=F9)(Y:F9<(y.natAbs:Int)):
  (if x<0/\0<F9 then(if (x<0)↔(y<0)then(Q+1)else -(Q+1))else(if (x<0)↔(y<0)then Q else -Q))=x / y/\(if x<0/\0<F9 then(y.natAbs:Int)-F9 else F9)=x % y:=by
 have key:∀q r:Int,r+y*q=x->0<=r->r<(y.natAbs:Int)->q=x / y/\r=x % y:=by
  intro q r e1 e2 e3;have m:x % y=r:=by
   rw[<-e1,Int.add_mul_emod_self_left];rcases Int.lt_or_lt_of_ne hy with h|h
   .rw[<-Int.emod_neg,Int.emod_eq_of_lt e2 be]
   .exact Int.emod_eq_of_lt e2 be
  have d:=Int.mul_ediv_add_emod x y;rw[m]at d;exact⟨(Int.eq_of_mul_eq_mul_left hy be),m.symm⟩
 by_cases Z:x<0
 .have ex:(x.natAbs:Int)= -x:=by omega
  by_cases hy':y<0
  .have ey:(y.natAbs:Int)= -y:=by omega
   rw[ex,ey,Int.neg_mul]at h;by_cases hR:0<F9
   .rw[aM (show x<0/\0<F9 from⟨Z,hR⟩),aM (show x<0/\0<F9 from⟨Z,hR⟩),aM (show (x<0)↔(y<0) by simp[Z,hy'])];exact key _ _ (by rw[Int.mul_add,Int.mul_one];omega) be be
   .rw[aJ (show ¬(x<0/\0<F9) by omega),aJ (show ¬(x<0/\0<F9) by omega),aM (show (x<0)↔(y<0) by simp[Z,hy'])];exact key _ _ be h0 Y
  .have ey:(y.natAbs:Int)=y:=by omega
   rw[ex,ey]at h;have E:¬((x<0)↔(y<0)):=by simp[Z,hy']
   by_cases hR:0<F9
   .rw[aM (show x<0/\0<F9 from⟨Z,hR⟩),aM (show x<0/\0<F9 from⟨Z,hR⟩),aJ E];exact key _ _ (by rw[Int.mul_neg,Int.mul_add,Int.mul_one];omega) be be
   .rw[aJ (show ¬(x<0/\0<F9) by omega),aJ (show ¬(x<0/\0<F9) by omega),aJ E];exact key _ _ (by rw[Int.mul_neg];omega) h0 Y
 .have ex:(x.natAbs:Int)=x:=by omega
  rw[aJ (show ¬(x<0/\0<F9) by omega),aJ (show ¬(x<0/\0<F9) by omega)];by_cases hy':y<0
  .have ey:(y.natAbs:Int)= -y:=by omega
   rw[ex,ey,Int.neg_mul]at h;rw[aJ (show ¬((x<0)↔(y<0)) by simp[Z,hy'])];exact key _ _ (by rw[Int.mul_neg];omega) h0 Y
  .have ey:(y.natAbs:Int)=y:=by omega
   rw[ex,ey]at h;rw[aM (show (x<0)↔(y<0) by simp[Z,hy'])];exact key _ _ be h0 Y
def gK(z:Int):(z<0/\z.sign= -1)\/(z=0/\z.sign=0)\/(0<z/\z.sign=1):=by
 rcases Int.lt_trichotomy z 0 with h|h|h
 .exact .inl ⟨h,cG h⟩
 .exact .inr (.inl ⟨h,by rw[h];rfl⟩)
 .exact .inr (.inr ⟨h,cJ h⟩)
end Go.Ex
namespace Go.Ex
open Go Go.Sx Go.Proofs
variable{y:Int}{Q:List Int}{k l:Nat}{S:Nat->Prop}{u v:Value}{w:World}
def NA:Value:=.agg #[.bool false,nls]
def dV.nil(w:World)(S:Nat->Prop):dV w S (.agg #[.bool false,nls]) 0:=⟨[],⟨_,rfl,dW.nil _ _⟩,λx h=>by simp at h,rfl⟩
def aB4(h:∀c∈Q,0<=c/\c<=65535):0<=dh Q:=by
 induction Q with
 |nil=>exact Int.le_refl _
 |cons c r ih=>
  have Y:=h c aF;have I:=ih λx Z=>h x (aD _ Z);rw[dh];omega
def Bf{n:Int}(h:0<=n)(I:n<4294967296):ln n.natAbs<=1:=gn.2 (by show n.natAbs<4294967296^1;omega)
def Ku{x:Int}(G:Old S w)(Z:fV w S v k x)(hy:fV w S u l y)(K:k<=1000000)(hl:l<=1000000):
  eH PG Fd.pj #[v,u] w (eV w λv' F=>(y=0/\v'= .tuple #[NA,NA,iV 9])\/(y≠0/\∃q r,v'= .tuple #[q,r,iV 0]/\dV F (Nf w F) q (x / y)/\dV F (Nf w F) r (x % y))):=by
 have W:=bR w;replace Z:=Z.cU (S':=Cv S w.heap.size []) λ_ h=>.inl h;replace hy:=hy.cU (S':=Cv S w.heap.size []) λ_ h=>.inl h;obtain⟨b1,a1,n1,c1,rfl⟩:=Z.shape;obtain⟨b2,a2,n2,c2,rfl⟩:=hy.shape;refine yi ce ?_;have RZ:=hy.ln;refine cS (cE W (pE (iV y.sign)) (λO J r=>iB (rlo r G) (hy.rel r G).r) ?_);rintro O _ _ _ Pt r L W h_ rfl;replace Z:=Z.cV r G L (mC h_);replace hy:=hy.cV r G L (mC h_);apply bS<;>intro Sk
 .have Sk:y=0:=by rcases gK y with h|h|h<;>simp[h]at Sk ⊢
  exact rtn W λGE we re=>.inl ⟨Sk,rfl⟩
 have Sk:y≠0:=λe=>by rw[e]at Sk;simp at Sk
 refine dP [.x 0,.x 3,.p 5,.x 1,.x 2,.x 4,.x 5,.x 6,.x 7] ?_;refine cE W (pR dV ((x.natAbs:Int))) (λO J r=>zR (rlo r G) (Z.rel r G) be) ?_;rintro O _ _ _ iv2 r L W h_ E;replace Z:=Z.cV r G L (mC h_);replace hy:=hy.cV r G L (mC h_);have UZ:=E.cU (nw r h_);obtain⟨A0,A1,A2,A3,rfl⟩:=UZ.shape;have RA:=Z.ln;refine cE W (λ_ J v F=>∃cs,eM F (Nf J F) v cs/\CS cs (2*k) ((x.natAbs:Int))) (λO J r=>tL (rlo r oF) ((UZ.rel r oF).l (k:=k) (by rw[Int.natAbs_natCast];exact RA)) be) ?_;rintro O _ _ _ Ps r L W h_ ⟨ca,k1,bca⟩;replace Z:=Z.cV r G L (mC h_);replace hy:=hy.cV r G L (mC h_);have Qc:=k1.cU (nw r h_);obtain⟨aca,cca,rfl,lca⟩:=Qc.shape;refine cE W (pR dV ((y.natAbs:Int))) (λO J r=>zR (rlo r G) (hy.rel r G) be) ?_;rintro O _ _ _ QA r L W h_ E;replace Z:=Z.cV r G L (mC h_);replace hy:=hy.cV r G L (mC h_);replace Qc:=Qc.cV r oF L (mC h_);have QB:=E.cU (nw r h_);obtain⟨C0,C1,C2,C3,rfl⟩:=QB.shape;generalize hB:(y.natAbs:Int)=B at*
 have l1:=bca.2.1;have hB0:0<B:=by omega
 have lB:ln B.natAbs<=l:=by rw[<-hB,Int.natAbs_natCast];exact RZ
 refine⟨(ca.length:Int)-1,wo,Nat×List Int×Int×(Bool×Option Addr×Nat×Nat)×World×Iv,λz=>⟨[(2,pP 0 0),(3,pP 1 0),(4,pP 2 0),(5,pP 3 0),(6,iZ 0),(7,sV aca ca.length cca),(8,pP 4 0),(9,.o (.w 6 z.2.1.length)),(10,pP 5 0),(11,.o (.v (iV ((z.1:Int)-1))))],[(6,.vec T.int 1 (z.2.1.map (Value.int .i64))),(5,.box T.Int [.v (.bool z.2.2.2.1.1),.v (.slice z.2.2.2.1.2.1 z.2.2.2.1.2.2.1 z.2.2.2.1.2.2.2)]),(4,.box T.Int [.v (.bool C0),.v (.slice C1 C2 C3)]),(3,.box T.Int [.v (.bool false),.v nls]),(2,.box T.Int [.v (.bool false),.v nls]),(1,.box T.Int [.v (.bool b2),.v (.slice a2 n2 c2)]),(0,.box T.Int [.v (.bool b1),.v (.slice a1 n1 c1)])],7,z.2.2.2.2.2,z.2.2.2.2.1⟩,λz=>z.1,
  λz=>z.1<=ca.length/\z.2.1.length+z.1=ca.length/\(∀c∈z.2.1,0<=c/\c<=65535)/\dh (ca.drop z.1)=B*dh z.2.1+z.2.2.1/\0<=z.2.2.1/\z.2.2.1<B/\Bq w z.2.2.2.2.1/\fV z.2.2.2.2.1 (Cv S w.heap.size z.2.2.2.2.2) (.agg #[.bool b1,.slice a1 n1 c1]) k x/\fV z.2.2.2.2.1 (Cv S w.heap.size z.2.2.2.2.2) (.agg #[.bool b2,.slice a2 n2 c2]) l y/\eM z.2.2.2.2.1 (Cf w z.2.2.2.2.2) (.slice aca ca.length cca) ca/\dV z.2.2.2.2.1 (Cf w z.2.2.2.2.2) (.agg #[.bool C0,.slice C1 C2 C3]) B/\dV z.2.2.2.2.1 (Cf w z.2.2.2.2.2) (.agg #[.bool z.2.2.2.1.1,.slice z.2.2.2.1.2.1 z.2.2.2.1.2.2.1 z.2.2.2.1.2.2.2]) z.2.2.1,?_,?_⟩
 .intro O J r
  exact⟨(ca.length,[],0,(false,none,0,0),J,QA),⟨lr,ce,ce,by simp[dh],Int.le_refl _,hB0,W.tr r.cg,Z.rel r G,hy.rel r G,Qc.rel r oF,QB.rel r oF,dV.nil _ _⟩,Sub.nil 9 T.int 1 rfl (by simp[kN,SV.sc,At.sc]) r λI9 r1=>
   sbgn [] r1⟩
 rintro⟨j,Q,F9,⟨br,ar,nr,cr⟩,w1,iv⟩ ⟨hj,hQ,hd,hv,XG,VM,W,Z,hy,Qc,QB,hr⟩;dsimp only at hj hQ hd hv XG VM W Z hy Qc QB hr ⊢;apply bS<;>intro Pk
 .obtain⟨i,rfl⟩:∃i,j=i+1:=⟨j-1,by have:(j:Int)-1≥0:=aK Pk;omega⟩
  rw[show ((i+1:Nat):Int)-1=(i:Int) by omega];obtain⟨d,Rd⟩:=gO ca i;have hd0:=bca.2.2.1 d (aG Rd);have RS:=bca.2.2.2 be d (aG Rd);have lR:ln F9.natAbs<=l:=aR (fK be) lB;have lU:ln (65536:Int).natAbs<=1:=by decide
  have m1:=dO F9 65536;have m2:=Bf (n:=d) RS be;have m3:=jN (F9*65536) d;refine dP [.x 0,.x 3,.x 4,.x 5,.x 6,.x 1,.x 2,.x 7,.x 8,.x 9] ?_;obtain⟨ad,Vw,q1,q2⟩:=Qc.load Rd;refine⟨ad,Vw,be,iV d,λO J r=>?_,?_⟩
  .rw[aI,cZ (w:=w1) (F:=J) (by rw[da];exact rls (S:=FF) r oF q1)];exact q2
  refine cE W (pR dV (65536)) (λO J r=>mL _ J bv bv) ?_;rintro O VZ v5 Ut QE r L W h_ E;replace Z:=Z.cV r G L (mC h_);replace hy:=hy.cV r G L (mC h_);replace Qc:=Qc.cV r oF L (mC h_);replace QB:=QB.cV r oF L (mC h_);replace hr:=hr.cV r oF L (mC h_);have hu:=E.cU (nw r h_);obtain⟨E0,E1,E2,E3,rfl⟩:=hu.shape;refine cE W (pR dV (F9*65536)) (λO J r=>im (rlo r oF) ((hr.rel r oF).l (k:=1000001) be) ((hu.rel r oF).l (k:=1000001) be) be be) ?_;rintro O Uu v6 Uv Q8 r L W h_ E;replace Z:=Z.cV r G L (mC h_);replace hy:=hy.cV r G L (mC h_);replace Qc:=Qc.cV r oF L (mC h_);replace QB:=QB.cV r oF L (mC h_);have hp:=E.cU (nw r h_);obtain⟨F0,F1,F2,F3,rfl⟩:=hp.shape;refine cE W (pR dV (d)) (λO J r=>mL _ J be be) ?_;rintro O Wd v7 We RJ r L W h_ E;replace Z:=Z.cV r G L (mC h_);replace hy:=hy.cV r G L (mC h_);replace Qc:=Qc.cV r oF L (mC h_);replace QB:=QB.cV r oF L (mC h_);replace hp:=hp.cV r oF L (mC h_);have hdd:=E.cU (nw r h_);obtain⟨G0,G1,G2,G3,rfl⟩:=hdd.shape;refine cE W (pR dV (F9*65536+d)) (λO J r=>Be (rlo r oF) ((hp.rel r oF).l (k:=1000002) be) ((hdd.rel r oF).l (k:=1000002) be) be be) ?_;rintro O wa8 v8 wb8 Sl r L W h_ E;replace Z:=Z.cV r G L (mC h_);replace hy:=hy.cV r G L (mC h_);replace Qc:=Qc.cV r oF L (mC h_);replace QB:=QB.cV r oF L (mC h_);have hr:=E.cU (nw r h_);obtain⟨I0,I1,I2,I3,rfl⟩:=hr.shape;generalize Ty:F9*65536+d=R2 at*
  have hR20:0<=R2:=by omega
  have hR21:R2<65536*B:=by omega
  refine⟨Nat×Nat×Nat×World×Iv,λz=>⟨[(2,pP 0 0),(3,pP 1 0),(4,pP 2 0),(5,pP 3 0),(6,iZ 0),(7,sV aca ca.length cca),(8,pP 4 0),(9,.o (.w 6 Q.length)),(10,pP 5 0),(11,.o (.v (iV ((i:Int))))),(12,iN z.1),(13,iN z.2.2.1)],[(6,.vec T.int 1 (Q.map (Value.int .i64))),(5,.box T.Int [.v (.bool I0),.v (.slice I1 I2 I3)]),(4,.box T.Int [.v (.bool C0),.v (.slice C1 C2 C3)]),(3,.box T.Int [.v (.bool false),.v nls]),(2,.box T.Int [.v (.bool false),.v nls]),(1,.box T.Int [.v (.bool b2),.v (.slice a2 n2 c2)]),(0,.box T.Int [.v (.bool b1),.v (.slice a1 n1 c1)])],7,z.2.2.2.2,z.2.2.2.1⟩,λz=>z.2.1,
   λz=>z.2.2.1=2^z.2.1 / 2/\z.1+2^z.2.1<=65536/\((z.1:Nat):Int)*B<=R2/\R2<((z.1+2^z.2.1:Nat):Int)*B/\Bq w z.2.2.2.1/\fV z.2.2.2.1 (Cv S w.heap.size z.2.2.2.2) (.agg #[.bool b1,.slice a1 n1 c1]) k x/\fV z.2.2.2.1 (Cv S w.heap.size z.2.2.2.2) (.agg #[.bool b2,.slice a2 n2 c2]) l y/\eM z.2.2.2.1 (Cf w z.2.2.2.2) (.slice aca ca.length cca) ca/\dV z.2.2.2.1 (Cf w z.2.2.2.2) (.agg #[.bool C0,.slice C1 C2 C3]) B/\dV z.2.2.2.1 (Cf w z.2.2.2.2) (.agg #[.bool I0,.slice I1 I2 I3]) R2,?_,?_⟩
  .intro O J r
   exact⟨(0,16,32768,J,Sl),⟨by show 32768=2^16 / 2;decide,by show 0+2^16<=65536;decide,by dsimp only;omega,by dsimp only;rw[show ((0+2^16:Nat):Int)=65536 from rfl];exact hR21,W.tr r.cg,Z.rel r G,hy.rel r G,Qc.rel r oF,QB.rel r oF,hr.rel r oF⟩,
    sbgn [] r⟩
  rintro⟨n,e,bit,w5,iv⟩ ⟨Wb,Si,Tv,Ym,W,Z,hy,Qc,QB,hr⟩;dsimp only at Wb Si Tv Ym W Z hy Qc QB hr ⊢;apply bS<;>intro Ws
  .have Ws:0<2^e / 2:=by have:((bit:Nat):Int)>0:=aK Ws;omega
   obtain⟨f,rfl⟩:∃f,e=f+1:=by
    cases e with
    |zero=>exact absurd Ws bv
    |succ f=>exact⟨f,rfl⟩
   have e1:2^(f+1)=2*2^f:=by rw[Nat.pow_succ];omega
   have e2:2^(f+1) / 2=2^f:=by omega
   obtain rfl:bit=2^f:=by omega
   rw[e1]at Si Ym;have hp0:=cI f;generalize hp:2^f=p at*
   have m4:=Bf (n:=((n+p:Nat):Int)) be be;have m5:=dO B ((n+p:Nat):Int);have m6:ln R2.natAbs<=l+1:=by
    refine aR (fK (b:=((65536:Int)*B).natAbs) be) ?_;have:=dO 65536 B;omega
   refine dP [.x 0,.x 1,.x 2,.x 3,.x 6,.x 4,.x 5,.x 7,.x 8] ?_;refine⟨((n+p:Nat):Int),wo,?_⟩;refine cE W (pR dV (((n+p:Nat):Int))) (λO J r=>mL _ J be be) ?_;rintro O Tk v9 Tl Ui r L W h_ E;replace Z:=Z.cV r G L (mC h_);replace hy:=hy.cV r G L (mC h_);replace Qc:=Qc.cV r oF L (mC h_);replace QB:=QB.cV r oF L (mC h_);replace hr:=hr.cV r oF L (mC h_);have hu:=E.cU (nw r h_);obtain⟨J0,J1,J2,J3,rfl⟩:=hu.shape;refine cE W (pR dV (B*((n+p:Nat):Int))) (λO J r=>im (rlo r oF) ((QB.rel r oF).l (k:=1000001) be) ((hu.rel r oF).l (k:=1000001) be) be be) ?_;rintro O UE v10 UF Uj r L W h_ E;replace Z:=Z.cV r G L (mC h_);replace hy:=hy.cV r G L (mC h_);replace Qc:=Qc.cV r oF L (mC h_);replace QB:=QB.cV r oF L (mC h_);replace hr:=hr.cV r oF L (mC h_);have Rz:=E.cU (nw r h_);obtain⟨N0,N1,N2,N3,rfl⟩:=Rz.shape;refine cE W (pE (iV (B*((n+p:Nat):Int)-R2).sign)) (λO J r=>Ks (rlo r oF) ((Rz.rel r oF).l (k:=1000001) be) ((hr.rel r oF).l (k:=1000001) be) be be) ?_;rintro O wa11 v11 wb11 Wn r L W h_ rfl;replace Z:=Z.cV r G L (mC h_);replace hy:=hy.cV r G L (mC h_);replace Qc:=Qc.cV r oF L (mC h_);replace QB:=QB.cV r oF L (mC h_);replace hr:=hr.cV r oF L (mC h_);have hs:=gK (B*((n+p:Nat):Int)-R2);apply bS<;>intro hle
   .have hle:=aK hle;have Xx:((n+p:Nat):Int)*B<=R2:=by rw[Int.mul_comm];omega
    refine⟨((n+p:Nat):Int),wo,bv,((2^f / 2:Nat):Int),by rw[hp,show((p:Nat):Int).tdiv 2=((p / 2:Nat):Int)from rfl,wrap64]<;>omega,?_⟩;intro I8 w3 r3;exact⟨(n+p,f,2^f / 2,w3,_),⟨rfl,by dsimp only;omega,Xx,by dsimp only;rw[hp,show n+p+p=n+2*p by omega];exact Ym,W.tr r3.cg,Z.rel r3 G,hy.rel r3 G,Qc.rel r3 oF,QB.rel r3 oF,hr.rel r3 oF⟩,sbgn [] r3,by dsimp only;omega⟩
   have hle:=aL hle;have Xx:R2<((n+p:Nat):Int)*B:=by rw[Int.mul_comm];omega
   refine⟨bv,((2^f / 2:Nat):Int),by rw[hp,show((p:Nat):Int).tdiv 2=((p / 2:Nat):Int)from rfl,wrap64]<;>omega,?_⟩;intro I8 w3 r3;exact⟨(n,f,2^f / 2,w3,_),⟨rfl,by dsimp only;omega,Tv,by dsimp only;rw[hp];exact Xx,W.tr r3.cg,Z.rel r3 G,hy.rel r3 G,Qc.rel r3 oF,QB.rel r3 oF,hr.rel r3 oF⟩,sbgn [] r3,by dsimp only;omega⟩
  have Ws:¬0<2^e / 2:=by have:¬((bit:Nat):Int)>0:=aL Ws;omega
  obtain rfl:e=0:=by
   cases e with
   |zero=>rfl
   |succ f=>exact absurd (show 0<2^(f+1) / 2 by rw[Nat.pow_succ];have:=cI f;omega) Ws
  rw[show n+2^0=n+1 from rfl]at Si Ym;rw[Int.natCast_add,Int.add_mul]at Ym;rw[Int.mul_comm]at Tv;rw[Int.mul_comm]at Ym;have m4:=Bf (n:=((n:Nat):Int)) be be;have m5:=dO B ((n:Nat):Int);have m6:ln R2.natAbs<=l+1:=by
   refine aR (fK (b:=((65536:Int)*B).natAbs) be) ?_;have:=dO 65536 B;omega
  refine dP (idO 7) ?_;refine cE W (pR dV (((n:Nat):Int))) (λO J r=>mL _ J be be) ?_;rintro O Tk v9 Tl Ui r L W h_ E;replace Z:=Z.cV r G L (mC h_);replace hy:=hy.cV r G L (mC h_);replace Qc:=Qc.cV r oF L (mC h_);replace QB:=QB.cV r oF L (mC h_);replace hr:=hr.cV r oF L (mC h_);have hu:=E.cU (nw r h_);obtain⟨J0,J1,J2,J3,rfl⟩:=hu.shape;refine cE W (pR dV (B*((n:Nat):Int))) (λO J r=>im (rlo r oF) ((QB.rel r oF).l (k:=1000001) be) ((hu.rel r oF).l (k:=1000001) be) be be) ?_;rintro O UE v10 UF Uj r L W h_ E;replace Z:=Z.cV r G L (mC h_);replace hy:=hy.cV r G L (mC h_);replace Qc:=Qc.cV r oF L (mC h_);replace QB:=QB.cV r oF L (mC h_);replace hr:=hr.cV r oF L (mC h_);have Rz:=E.cU (nw r h_);obtain⟨N0,N1,N2,N3,rfl⟩:=Rz.shape;refine cE W (pR dV (R2-B*((n:Nat):Int))) (λO J r=>Ed (rlo r oF) ((hr.rel r oF).l (k:=1000002) be) ((Rz.rel r oF).l (k:=1000002) be) be be) ?_;rintro O wa11 v11 wb11 Wn r L W h_ E;replace Z:=Z.cV r G L (mC h_);replace hy:=hy.cV r G L (mC h_);replace Qc:=Qc.cV r oF L (mC h_);replace QB:=QB.cV r oF L (mC h_);have WN:=E.cU (nw r h_);obtain⟨O0,O1,O2,O3,rfl⟩:=WN.shape;generalize hR3:R2-B*((n:Nat):Int)=R3 at*
  refine .inl ?_;refine⟨by rw[aO,ah],λu hu=>by obtain⟨_,_,rfl⟩:=bA.1 hu;rfl,rfl,be,mx,(i:Int)-1,wo,?_⟩;intro I8 w3 r3;have S5:dh (ca.drop i)=B*dh (((n:Nat):Int)::Q)+R3:=by
   rw[Ft Rd,dh];exact Jo hv (by rw[<-hR3,<-Ty];omega)
  exact⟨(i,((n:Nat):Int)::Q,R3,(O0,O1,O2,O3),w3,_),⟨by dsimp only;omega,by dsimp only;rw[List.length_cons];omega,λc hc=>by
    rcases List.mem_cons.1 hc with rfl|hc
    .omega
    .exact hd c hc,S5,by dsimp only;omega,by dsimp only;omega,W.tr r3.cg,Z.rel r3 G,hy.rel r3 G,Qc.rel r3 oF,QB.rel r3 oF,WN.rel r3 oF⟩,
   sbgn [(6,8)] r3 (hE:=⟨rfl,rfl,rfl,rfl,rfl,rfl,rfl,by dsimp only;rw[show (((n:Nat):Int)::Q).length=1+Q.length by rw[List.length_cons,Nat.add_comm]];rfl,rfl,rfl,trivial⟩),by dsimp only;omega⟩
 obtain rfl:j=0:=by have:¬(j:Int)-1≥0:=aL Pk;omega
 rw[List.drop_zero,bca.1]at hv;rw[<-hB]at hv VM;have key:=LV Sk hv XG VM;rw[hB]at key hv VM;have lq:ln (dh Q).natAbs<=k+1:=by
  have Y:=aB4 hd;have I:1*dh Q<=B*dh Q:=Int.mul_le_mul_of_nonneg_right be Y;exact aR (fK (b:=x.natAbs) be) be
 have lR:ln F9.natAbs<=l:=aR (fK be) lB;have sx:=gK x;have sy:=gK y;have sr:=gK F9;refine cS (cE W (pR dV (dh Q)) (λO J r=>oU r rfl rfl be (λc hc=>by have:=hd c hc;omega) rfl) ?_);rintro O _ _ _ QE r L W h_ E;replace Z:=Z.cV r G L (mC h_);replace hy:=hy.cV r G L (mC h_);replace QB:=QB.cV r oF L (mC h_);replace hr:=hr.cV r oF L (mC h_);have hq:=E.cU (nw r h_);obtain⟨E0,E1,E2,E3,rfl⟩:=hq.shape;refine cS (cE W (pE (iV x.sign)) (λO J r=>iB (rlo r G) (Z.rel r G).r) ?_);rintro O _ _ _ Q8 r L W h_ rfl;replace Z:=Z.cV r G L (mC h_);replace hy:=hy.cV r G L (mC h_);replace QB:=QB.cV r oF L (mC h_);replace hr:=hr.cV r oF L (mC h_);replace hq:=hq.cV r oF L (mC h_);apply bS<;>intro Xh
 .have Xh:=aK Xh;refine cS (cE W (pE (iV F9.sign)) (λO J r=>iB (rlo r oF) (hr.rel r oF).r) ?_);rintro O Wd v7 We RJ r L W h_ rfl;replace Z:=Z.cV r G L (mC h_);replace hy:=hy.cV r G L (mC h_);replace QB:=QB.cV r oF L (mC h_);replace hr:=hr.cV r oF L (mC h_);replace hq:=hq.cV r oF L (mC h_);apply bS<;>intro hrs
  .have hrs:=aK hrs;rw[aM (show x<0/\0<F9 by omega),aM (show x<0/\0<F9 by omega)]at key;have m7:=jN (dh Q) 1;have m8:ln (1:Int).natAbs<=1:=by decide
   have m9:ln (B-F9).natAbs<=l:=aR (fK be) lB;refine dP [.x 0,.x 3,.x 4,.x 1,.x 2,.x 5,.x 6,.x 7] ?_;refine cE W (pR dV (1)) (λO J r=>mL _ J be be) ?_;rintro O wa8 v8 wb8 Sl r L W h_ E;replace Z:=Z.cV r G L (mC h_);replace hy:=hy.cV r G L (mC h_);replace QB:=QB.cV r oF L (mC h_);replace hr:=hr.cV r oF L (mC h_);replace hq:=hq.cV r oF L (mC h_);have hu:=E.cU (nw r h_);obtain⟨I0,I1,I2,I3,rfl⟩:=hu.shape;refine cE W (pR dV (dh Q+1)) (λO J r=>Be (rlo r oF) ((hq.rel r oF).l (k:=1000003) be) ((hu.rel r oF).l (k:=1000003) be) be be) ?_;rintro O Tk v9 Tl Ui r L W h_ E;replace Z:=Z.cV r G L (mC h_);replace hy:=hy.cV r G L (mC h_);replace QB:=QB.cV r oF L (mC h_);replace hr:=hr.cV r oF L (mC h_);have Rr:=E.cU (nw r h_);obtain⟨J0,J1,J2,J3,rfl⟩:=Rr.shape;refine cE W (pR dV (B-F9)) (λO J r=>Ed (rlo r oF) ((QB.rel r oF).l (k:=1000003) be) ((hr.rel r oF).l (k:=1000003) be) be be) ?_;rintro O UE v10 UF Uj r L W h_ E;replace Z:=Z.cV r G L (mC h_);replace hy:=hy.cV r G L (mC h_);replace Rr:=Rr.cV r oF L (mC h_);have Sr:=E.cU (nw r h_);obtain⟨N0,N1,N2,N3,rfl⟩:=Sr.shape;refine dP [.x 0,.x 3,.x 1,.x 2,.x 4,.x 5,.x 6] ?_;refine cE W (pE (iV x.sign)) (λO J r=>iB (rlo r G) (Z.rel r G).r) ?_;rintro O _ _ _ Wn r L W h_ rfl;replace hy:=hy.cV r G L (mC h_);replace Rr:=Rr.cV r oF L (mC h_);replace Sr:=Sr.cV r oF L (mC h_);refine cE W (pE (iV y.sign)) (λO J r=>iB (rlo r G) (hy.rel r G).r) ?_;rintro O _ _ _ ZF r L W h_ rfl;replace Rr:=Rr.cV r oF L (mC h_);replace Sr:=Sr.cV r oF L (mC h_);apply bS<;>intro Po
   .have E:¬((x<0)↔(y<0)):=λe=>by
     have e2:decide (x.sign<0)=decide (y.sign<0):=decide_eq_decide.2 be;rw[e2]at Po;simp at Po
    rw[aJ E]at key;refine cS (cE W (pR dV (-(dh Q+1))) (λO J r=>nM (rlo r oF) ((Rr.rel r oF).l (k:=1000003) be) be) ?_);rintro O _ _ _ ZG r L W h_ E;replace Sr:=Sr.cV r oF L (mC h_);have XA:=E.cU (nw r h_);obtain⟨P0,P1,P2,P3,rfl⟩:=XA.shape;refine fA hτ uR (.two 0 (.two 1 (.x 2 (.x 3 (.x 4 .nil))) 2 (.x 1 (.x 3 (.x 4 .nil)))) 1 (.x 0 (.x 2 (.x 3 (.x 4 .nil))))) d9 d9 ?_;refine⟨⟨?_,?_⟩,?_⟩<;>intro GE we re<;>exact⟨_,rfl,W.tr re.cg,.inr ⟨Sk,_,_,rfl,key.1▸XA.out re oF,key.2▸Sr.out re oF⟩⟩
   have E:(x<0)↔(y<0):=by
    have e2:decide (x.sign<0)=decide (y.sign<0):=by simpa using Po
    have:=decide_eq_decide.1 e2;omega
   rw[aM E]at key;refine fA hτ uR (.two 0 (.two 1 (.x 2 (.x 3 (.x 4 .nil))) 2 (.x 1 (.x 3 (.x 4 .nil)))) 1 (.x 0 (.x 2 (.x 3 (.x 4 .nil))))) d9 d9 ?_;refine⟨⟨?_,?_⟩,?_⟩<;>intro GE we re<;>exact⟨_,rfl,W.tr re.cg,.inr ⟨Sk,_,_,rfl,key.1▸Rr.out re oF,key.2▸Sr.out re oF⟩⟩
  have hrs:=aL hrs;rw[aJ (show ¬(x<0/\0<F9) by omega),aJ (show ¬(x<0/\0<F9) by omega)]at key;refine dP [.x 0,.x 3,.x 1,.x 2,.x 4,.x 5,.x 6] ?_;refine cE W (pE (iV x.sign)) (λO J r=>iB (rlo r G) (Z.rel r G).r) ?_;rintro O wa8 v8 wb8 Sl r L W h_ rfl;replace hy:=hy.cV r G L (mC h_);replace QB:=QB.cV r oF L (mC h_);replace hr:=hr.cV r oF L (mC h_);replace hq:=hq.cV r oF L (mC h_);refine cE W (pE (iV y.sign)) (λO J r=>iB (rlo r G) (hy.rel r G).r) ?_;rintro O Tk v9 Tl Ui r L W h_ rfl;replace QB:=QB.cV r oF L (mC h_);replace hr:=hr.cV r oF L (mC h_);replace hq:=hq.cV r oF L (mC h_);apply bS<;>intro Po
  .have E:¬((x<0)↔(y<0)):=λe=>by
    have e2:decide (x.sign<0)=decide (y.sign<0):=decide_eq_decide.2 be;rw[e2]at Po;simp at Po
   rw[aJ E]at key;refine cS (cE W (pR dV (-(dh Q))) (λO J r=>nM (rlo r oF) ((hq.rel r oF).l (k:=1000003) be) be) ?_);rintro O _ _ _ Uj r L W h_ E;replace QB:=QB.cV r oF L (mC h_);replace hr:=hr.cV r oF L (mC h_);have XA:=E.cU (nw r h_);obtain⟨N0,N1,N2,N3,rfl⟩:=XA.shape;refine fA hτ uR (.two 0 (.two 1 (.x 2 (.x 3 (.x 4 .nil))) 2 (.x 1 (.x 3 (.x 4 .nil)))) 1 (.x 0 (.x 2 (.x 3 (.x 4 .nil))))) d9 d9 ?_;refine⟨⟨?_,?_⟩,?_⟩<;>intro GE we re<;>exact⟨_,rfl,W.tr re.cg,.inr ⟨Sk,_,_,rfl,key.1▸XA.out re oF,key.2▸hr.out re oF⟩⟩
  have E:(x<0)↔(y<0):=by
   have e2:decide (x.sign<0)=decide (y.sign<0):=by simpa using Po
   have:=decide_eq_decide.1 e2;omega
  rw[aM E]at key;refine fA hτ uR (.two 0 (.two 1 (.x 2 (.x 3 (.x 4 .nil))) 2 (.x 1 (.x 3 (.x 4 .nil)))) 1 (.x 0 (.x 2 (.x 3 (.x 4 .nil))))) d9 d9 ?_;refine⟨⟨?_,?_⟩,?_⟩<;>intro GE we re<;>exact⟨_,rfl,W.tr re.cg,.inr ⟨Sk,_,_,rfl,key.1▸hq.out re oF,key.2▸hr.out re oF⟩⟩
 have Xh:=aL Xh;rw[aJ (show ¬(x<0/\0<F9) by omega),aJ (show ¬(x<0/\0<F9) by omega)]at key;refine dP [.x 0,.x 3,.x 1,.x 2,.x 4,.x 5,.x 6] ?_;refine cE W (pE (iV x.sign)) (λO J r=>iB (rlo r G) (Z.rel r G).r) ?_;rintro O _ _ _ RJ r L W h_ rfl;replace hy:=hy.cV r G L (mC h_);replace QB:=QB.cV r oF L (mC h_);replace hr:=hr.cV r oF L (mC h_);replace hq:=hq.cV r oF L (mC h_);refine cE W (pE (iV y.sign)) (λO J r=>iB (rlo r G) (hy.rel r G).r) ?_;rintro O _ _ _ Sl r L W h_ rfl;replace QB:=QB.cV r oF L (mC h_);replace hr:=hr.cV r oF L (mC h_);replace hq:=hq.cV r oF L (mC h_);apply bS<;>intro Po
 .have E:¬((x<0)↔(y<0)):=λe=>by
   have e2:decide (x.sign<0)=decide (y.sign<0):=decide_eq_decide.2 be;rw[e2]at Po;simp at Po
  rw[aJ E]at key;refine cS (cE W (pR dV (-(dh Q))) (λO J r=>nM (rlo r oF) ((hq.rel r oF).l (k:=1000003) be) be) ?_);rintro O _ _ _ Ui r L W h_ E;replace QB:=QB.cV r oF L (mC h_);replace hr:=hr.cV r oF L (mC h_);have XA:=E.cU (nw r h_);obtain⟨J0,J1,J2,J3,rfl⟩:=XA.shape;refine fA hτ uR (.two 0 (.two 1 (.x 2 (.x 3 (.x 4 .nil))) 2 (.x 1 (.x 3 (.x 4 .nil)))) 1 (.x 0 (.x 2 (.x 3 (.x 4 .nil))))) d9 d9 ?_;refine⟨⟨?_,?_⟩,?_⟩<;>intro GE we re<;>exact⟨_,rfl,W.tr re.cg,.inr ⟨Sk,_,_,rfl,key.1▸XA.out re oF,key.2▸hr.out re oF⟩⟩
 have E:(x<0)↔(y<0):=by
  have e2:decide (x.sign<0)=decide (y.sign<0):=by simpa using Po
  have:=decide_eq_decide.1 e2;omega
 rw[aM E]at key;refine fA hτ uR (.two 0 (.two 1 (.x 2 (.x 3 (.x 4 .nil))) 2 (.x 1 (.x 3 (.x 4 .nil)))) 1 (.x 0 (.x 2 (.x 3 (.x 4 .nil))))) d9 d9 ?_;refine⟨⟨?_,?_⟩,?_⟩<;>intro GE we re<;>exact⟨_,rfl,W.tr re.cg,.inr ⟨Sk,_,_,rfl,key.1▸hq.out re oF,key.2▸hr.out re oF⟩⟩
def j6{x:Int}(G:Old S w)(Z:fV w S v k x)(hy:fV w S u l y)(K:k<=1000000)(hl:l<=1000000)(h0:y≠0):
  eH PG Fd.pj #[v,u] w (eV w λv' F=>∃q r,v'= .tuple #[q,r,iV 0]/\dV F (Nf w F) q (x / y)/\dV F (Nf w F) r (x % y)):=
 (Ku G Z hy K hl).mono λ_ _ ⟨v2,e1,e2,e3⟩=>⟨v2,e1,e2,e3.elim (λh=>absurd h.1 h0) λh=>h.2⟩
def aAQ(x:Nat){y:Nat}(h:y≠0):ln (Nat.gcd x y)<=ln y:=fK (Nat.le_of_dvd be (Nat.gcd_dvd_right x y))
def IL{a b:Int}(N:b≠0):a / (b.sign*(Nat.gcd a.natAbs b.natAbs:Nat))=(Rat.divInt a b).num/\b / (b.sign*(Nat.gcd a.natAbs b.natAbs:Nat))=((Rat.divInt a b).den:Int):=by
 obtain⟨Y,I⟩:=D3 (a:=a) N;have d1:((Nat.gcd a.natAbs b.natAbs:Nat):Int) ∣ a:=Int.ofNat_dvd_left.2 (Nat.gcd_dvd_left _ _);have d2:((Nat.gcd a.natAbs b.natAbs:Nat):Int) ∣ b:=Int.ofNat_dvd_left.2 (Nat.gcd_dvd_right _ _);have sg:b.sign=1\/b.sign= -1:=by rcases gK b with h|h|h<;>omega
 have key:∀c:Int,((Nat.gcd a.natAbs b.natAbs:Nat):Int) ∣ c->b.sign*(Nat.gcd a.natAbs b.natAbs:Nat) ∣ c:=λc hc=>by
  rcases sg with h|h<;>rw[h]
  .rw[Int.one_mul];exact hc
  .rw[Int.neg_one_mul];exact Int.neg_dvd.2 hc
 rw[<-Y,<-I,Int.tdiv_eq_ediv_of_dvd (key a d1),Int.tdiv_eq_ediv_of_dvd (key b d2)];exact⟨rfl,rfl⟩
def D5{x:Int}(G:Old S w)(Z:fV w S v k x)(hy:fV w S u l y)(K:k<=1000000)(hl:l<=1000000):
  eH PG Fd.vu #[v,u] w (eV w λv' F=>dV F (Nf w F) v' ((Nat.gcd x.natAbs y.natAbs:Nat):Int)):=by
 have W:=bR w;replace Z:=Z.cU (S':=Cv S w.heap.size []) λ_ h=>.inl h;replace hy:=hy.cU (S':=Cv S w.heap.size []) λ_ h=>.inl h;obtain⟨b1,a1,n1,c1,rfl⟩:=Z.shape;obtain⟨b2,a2,n2,c2,rfl⟩:=hy.shape;refine yh ce ?_;have RA:=Z.ln;have RZ:=hy.ln;refine dP [.x 0,.x 2,.x 1,.x 3,.x 4,.x 5] ?_;refine cE W (pR dV ((x.natAbs:Int))) (λO J r=>zR (rlo r G) (Z.rel r G) be) ?_;rintro O _ _ _ Pt r L W h_ E;clear Z;replace hy:=hy.cV r G L (mC h_);have ha:=E.cU (nw r h_);clear r;obtain⟨A0,A1,A2,A3,rfl⟩:=ha.shape;refine cE W (pR dV ((y.natAbs:Int))) (λO J r=>zR (rlo r G) (hy.rel r G) be) ?_;rintro O _ _ _ iv2 r L W h_ E;clear hy;replace ha:=ha.cV r oF L (mC h_);have hc:=E.cU (nw r h_);clear r;obtain⟨C0,C1,C2,C3,rfl⟩:=hc.shape
 refine⟨Nat×Nat×(Bool×Option Addr×Nat×Nat)×(Bool×Option Addr×Nat×Nat)×World×Iv,λz=>⟨[(2,pP 0 0),(3,pP 1 0),(4,pP 2 0)],[(2,.box T.Int [.v (.bool false),.v nls]),(1,.box T.Int [.v (.bool z.2.2.2.1.1),.v (.slice z.2.2.2.1.2.1 z.2.2.2.1.2.2.1 z.2.2.2.1.2.2.2)]),(0,.box T.Int [.v (.bool z.2.2.1.1),.v (.slice z.2.2.1.2.1 z.2.2.1.2.2.1 z.2.2.1.2.2.2)])],3,z.2.2.2.2.2,z.2.2.2.2.1⟩,λz=>z.2.1,
  λz=>Nat.gcd z.1 z.2.1=Nat.gcd x.natAbs y.natAbs/\ln z.1<=1000000/\ln z.2.1<=1000000/\Bq w z.2.2.2.2.1/\dV z.2.2.2.2.1 (Cf w z.2.2.2.2.2) (.agg #[.bool z.2.2.1.1,.slice z.2.2.1.2.1 z.2.2.1.2.2.1 z.2.2.1.2.2.2]) (z.1:Int)/\dV z.2.2.2.2.1 (Cf w z.2.2.2.2.2) (.agg #[.bool z.2.2.2.1.1,.slice z.2.2.2.1.2.1 z.2.2.2.1.2.2.1 z.2.2.2.1.2.2.2]) (z.2.1:Int),?_,?_⟩
 .intro O J r
  exact⟨(x.natAbs,y.natAbs,(A0,A1,A2,A3),(C0,C1,C2,C3),J,iv2),⟨rfl,by dsimp only;omega,by dsimp only;omega,W.tr r.cg,ha.rel r oF,hc.rel r oF⟩,
   sbgn [] r⟩
 clear W ha hc;rintro⟨a,b,⟨ba,aa,na,ca⟩,⟨bb,ab,nb,cb⟩,w1,iv⟩ ⟨V,YR,Va,W,ha,hc⟩;dsimp only at V YR Va W ha hc ⊢;refine cS (cE W (pE (iV (b:Int).sign)) (λO J r=>iB (rlo r oF) (hc.rel r oF).r) ?_);rintro O _ _ _ Ps r L W h_ rfl;replace ha:=ha.cV r oF L (mC h_);replace hc:=hc.cV r oF L (mC h_);clear r;have sb:=gK (b:Int);apply bS<;>intro h
 .have h:=aK h;have Ti:0<b:=by omega
  have hm:=cL a Ti;have Qi:ln (a % b)<=1000000:=aR (fK be) Va;refine cS (cE W (λ_ J v F=>∃q r,v= .tuple #[q,r,iV 0]/\dV F (Nf J F) q ((a:Int) / b)/\dV F (Nf J F) r ((a:Int) % b)) (λO J r=>j6 (rlo r oF) ((ha.rel r oF).l (k:=1000000) YR) ((hc.rel r oF).l (k:=1000000) Va) be be be) ?_);rintro O _ _ _ QA r L W h_ ⟨q,rr,rfl,k1,k2⟩;clear ha;replace hc:=hc.cV r oF L (mC h_);have hq:=k1.cU (nw r h_);have hr:=k2.cU (nw r h_);clear r;obtain⟨s4_0a,s4_0b,s4_0c,s4_0d,rfl⟩:=hq.shape;obtain⟨s4_1a,s4_1b,s4_1c,s4_1d,rfl⟩:=hr.shape;clear k1 k2 hq;refine fA hτ uR (.two 0 (.two 1 (.x 2 (.x 3 .nil)) 2 (.x 1 (.x 3 .nil))) 1 (.x 0 (.x 2 (.x 3 .nil)))) d9 d9 ?_;refine⟨⟨?_,?_⟩,?_⟩<;>intro I8 w3 r3<;>exact⟨(b,a % b,(bb,ab,nb,cb),(s4_1a,s4_1b,s4_1c,s4_1d),w3,_),⟨by dsimp only;rw[<-V,Nat.gcd_comm a b,Nat.gcd_rec b a,Nat.gcd_comm],Va,Qi,W.tr r3.cg,hc.rel r3 oF,hr.rel r3 oF⟩,sbgn [] r3,hm⟩
 have h:=aL h;obtain rfl:b=0:=by omega
 rw[Nat.gcd_zero_right]at V;subst V;clear hc;exact rtn W λGE we re=>ha.out re oF
def mX{x:Int}(G:Old S w)(Z:fV w S v k x)(hy:fV w S u l y)(K:k<=1000000)(hl:l<=1000000)(Sk:y≠0):
  eH PG Fd.uS #[v,u] w (eV w λv' F=>dH F (Nf w F) v' (Rat.divInt x y)):=by
 have W:=bR w;replace Z:=Z.cU (S':=Cv S w.heap.size []) λ_ h=>.inl h;replace hy:=hy.cU (S':=Cv S w.heap.size []) λ_ h=>.inl h;obtain⟨b1,a1,n1,c1,rfl⟩:=Z.shape;obtain⟨b2,a2,n2,c2,rfl⟩:=hy.shape;refine tk ce ?_;have RA:=Z.ln;have RZ:=hy.ln;have hlg:=aAQ x.natAbs (y:=y.natAbs) be;obtain⟨E,hd⟩:=IL (a:=x) Sk;have sy:=gK y
 refine cS (cE W (λ_ J v F=>∃n p,v= .tuple #[iV n,.bool p]/\(p=true->n=x/\x.natAbs<1073741824)) (λO J r=>(pH (rlo r G) (Z.rel r G).r).mono λe F ⟨v2,e1,e2,e3⟩=>⟨v2,e1,e2,by
   rw[e3,kc];split
   .exact⟨_,_,rfl,λ_=>⟨rfl,‹_›⟩⟩
   .exact⟨_,_,rfl,λh=>by cases h⟩⟩) ?_)
 rintro O _ _ _ Pt r L W h_ ⟨nx,px,rfl,qx⟩;replace Z:=Z.cV r G L (mC h_);replace hy:=hy.cV r G L (mC h_);clear r
 refine cS (cE W (λ_ J v F=>∃n p,v= .tuple #[iV n,.bool p]/\(p=true->n=y/\y.natAbs<1073741824)) (λO J r=>(pH (rlo r G) (hy.rel r G).r).mono λe F ⟨v2,e1,e2,e3⟩=>⟨v2,e1,e2,by
   rw[e3,kc];split
   .exact⟨_,_,rfl,λ_=>⟨rfl,‹_›⟩⟩
   .exact⟨_,_,rfl,λh=>by cases h⟩⟩) ?_)
 rintro O _ _ _ iv2 r L W h_ ⟨ny,py,rfl,qy⟩;replace Z:=Z.cV r G L (mC h_);replace hy:=hy.cV r G L (mC h_);clear r;apply bS<;>intro Y
 .obtain⟨e1,Xh⟩:=qx Y;replace e1:=e1.symm;subst e1;apply bS<;>intro I
  .obtain⟨e2,hys⟩:=qy I;replace e2:=e2.symm;subst e2;clear Z hy;refine cS (cE W (pR dH (Rat.divInt x y)) (λO J r=>tK x y J be be Sk) ?_);rintro O Qh v3 Q7 Ps r L W h_ E;have hR:=E.cU (nw r h_);clear r E;obtain⟨A0,A1,A2,A3,A4,A5,A6,A7,rfl⟩:=hR.shape;exact rtn W λGE we re=>hR.out re oF
  refine cS (cE W (pR dV (((Nat.gcd x.natAbs y.natAbs:Nat):Int))) (λO J r=>D5 (rlo r G) (Z.rel r G) (hy.rel r G) K hl) ?_);rintro O Qh v3 Q7 Ps r L W h_ E;replace Z:=Z.cV r G L (mC h_);replace hy:=hy.cV r G L (mC h_);have V:=E.cU (nw r h_);clear r E;obtain⟨A0,A1,A2,A3,rfl⟩:=V.shape;refine cS (cE W (pE (iV y.sign)) (λO J r=>iB (rlo r G) (hy.rel r G).r) ?_);rintro O Rg v4 RT QA r L W h_ rfl;replace Z:=Z.cV r G L (mC h_);replace hy:=hy.cV r G L (mC h_);replace V:=V.cV r oF L (mC h_);clear r;have hgp:0<Nat.gcd x.natAbs y.natAbs:=cK _ be;generalize Nat.gcd x.natAbs y.natAbs=g at*
  apply bS<;>intro hs
  .have hs:=aK hs;rw[show y.sign= -1 by omega,Int.neg_one_mul]at E hd;refine cS (cE W (pR dV (-(g:Int))) (λO J r=>nM (rlo r oF) ((V.rel r oF).l (k:=1000000) (by rw[Int.natAbs_natCast];omega)) be) ?_);rintro O VZ v5 Ut QE r L W h_ E;replace Z:=Z.cV r G L (mC h_);replace hy:=hy.cV r G L (mC h_);clear V;have Qv:=E.cU (nw r h_);clear r E;obtain⟨C0,C1,C2,C3,rfl⟩:=Qv.shape;refine cS (cE W (λ_ J v F=>∃q r,v= .tuple #[q,r,iV 0]/\dV F (Nf J F) q (Rat.divInt x y).num/\dV F (Nf J F) r (x % (-(g:Int)))) (λO J r=>E▸j6 (rlo r G) (Z.rel r G) ((((Qv.rel r oF).l (k:=1000000) (by rw[cP,Int.natAbs_natCast];omega))).cU λg V=>Cv.false V) K be be) ?_);rintro O Uu v6 Uv Q8 r L W h_ ⟨q,rr,rfl,k1,k2⟩;clear Z;replace hy:=hy.cV r G L (mC h_);replace Qv:=Qv.cV r oF L (mC h_);have hq:=k1.cU (nw r h_);have hr:=k2.cU (nw r h_);clear r;obtain⟨s6_0a,s6_0b,s6_0c,s6_0d,rfl⟩:=hq.shape;obtain⟨s6_1a,s6_1b,s6_1c,s6_1d,rfl⟩:=hr.shape;clear k1 k2 hr;refine cS (cE W (λ_ J v F=>∃q r,v= .tuple #[q,r,iV 0]/\dV F (Nf J F) q ((Rat.divInt x y).den:Int)/\dV F (Nf J F) r (y % (-(g:Int)))) (λO J r=>hd▸j6 (rlo r G) (hy.rel r G) ((((Qv.rel r oF).l (k:=1000000) (by rw[cP,Int.natAbs_natCast];omega))).cU λg V=>Cv.false V) hl be be) ?_);rintro O Wd v7 We RJ r L W h_ ⟨q,rr,rfl,k1,k2⟩;clear hy;clear Qv;replace hq:=hq.cV r oF L (mC h_);have Rr:=k1.cU (nw r h_);have hr:=k2.cU (nw r h_);clear r;obtain⟨s7_0a,s7_0b,s7_0c,s7_0d,rfl⟩:=Rr.shape;obtain⟨s7_1a,s7_1b,s7_1c,s7_1d,rfl⟩:=hr.shape;clear k1 k2 hr;exact rtn W λGE we re=>(dH.of hq Rr).out re oF
  have hs:=aL hs;rw[show y.sign=1 by omega,Int.one_mul]at E hd;refine cS (cE W (λ_ J v F=>∃q r,v= .tuple #[q,r,iV 0]/\dV F (Nf J F) q (Rat.divInt x y).num/\dV F (Nf J F) r (x % ((g:Int)))) (λO J r=>E▸j6 (rlo r G) (Z.rel r G) ((((V.rel r oF).l (k:=1000000) (by rw[Int.natAbs_natCast];omega))).cU λg V=>Cv.false V) K be be) ?_);rintro O VZ v5 Ut QE r L W h_ ⟨q,rr,rfl,k1,k2⟩;clear Z;replace hy:=hy.cV r G L (mC h_);replace V:=V.cV r oF L (mC h_);have hq:=k1.cU (nw r h_);have hr:=k2.cU (nw r h_);clear r;obtain⟨s5_0a,s5_0b,s5_0c,s5_0d,rfl⟩:=hq.shape;obtain⟨s5_1a,s5_1b,s5_1c,s5_1d,rfl⟩:=hr.shape;clear k1 k2 hr;refine cS (cE W (λ_ J v F=>∃q r,v= .tuple #[q,r,iV 0]/\dV F (Nf J F) q ((Rat.divInt x y).den:Int)/\dV F (Nf J F) r (y % ((g:Int)))) (λO J r=>hd▸j6 (rlo r G) (hy.rel r G) ((((V.rel r oF).l (k:=1000000) (by rw[Int.natAbs_natCast];omega))).cU λg V=>Cv.false V) hl be be) ?_);rintro O Uu v6 Uv Q8 r L W h_ ⟨q,rr,rfl,k1,k2⟩;clear hy;clear V;replace hq:=hq.cV r oF L (mC h_);have Rr:=k1.cU (nw r h_);have hr:=k2.cU (nw r h_);clear r;obtain⟨s6_0a,s6_0b,s6_0c,s6_0d,rfl⟩:=Rr.shape;obtain⟨s6_1a,s6_1b,s6_1c,s6_1d,rfl⟩:=hr.shape;clear k1 k2 hr;exact rtn W λGE we re=>(dH.of hq Rr).out re oF
 refine cS (cE W (pR dV (((Nat.gcd x.natAbs y.natAbs:Nat):Int))) (λO J r=>D5 (rlo r G) (Z.rel r G) (hy.rel r G) K hl) ?_);rintro O _ _ _ Ps r L W h_ E;replace Z:=Z.cV r G L (mC h_);replace hy:=hy.cV r G L (mC h_);have V:=E.cU (nw r h_);clear r E;obtain⟨A0,A1,A2,A3,rfl⟩:=V.shape;refine cS (cE W (pE (iV y.sign)) (λO J r=>iB (rlo r G) (hy.rel r G).r) ?_);rintro O _ _ _ QA r L W h_ rfl;replace Z:=Z.cV r G L (mC h_);replace hy:=hy.cV r G L (mC h_);replace V:=V.cV r oF L (mC h_);clear r;have hgp:0<Nat.gcd x.natAbs y.natAbs:=cK _ be;generalize Nat.gcd x.natAbs y.natAbs=g at*
 apply bS<;>intro hs
 .have hs:=aK hs;rw[show y.sign= -1 by omega,Int.neg_one_mul]at E hd;refine cS (cE W (pR dV (-(g:Int))) (λO J r=>nM (rlo r oF) ((V.rel r oF).l (k:=1000000) (by rw[Int.natAbs_natCast];omega)) be) ?_);rintro O VZ v5 Ut QE r L W h_ E;replace Z:=Z.cV r G L (mC h_);replace hy:=hy.cV r G L (mC h_);clear V;have Qv:=E.cU (nw r h_);clear r E;obtain⟨C0,C1,C2,C3,rfl⟩:=Qv.shape;refine cS (cE W (λ_ J v F=>∃q r,v= .tuple #[q,r,iV 0]/\dV F (Nf J F) q (Rat.divInt x y).num/\dV F (Nf J F) r (x % (-(g:Int)))) (λO J r=>E▸j6 (rlo r G) (Z.rel r G) ((((Qv.rel r oF).l (k:=1000000) (by rw[cP,Int.natAbs_natCast];omega))).cU λg V=>Cv.false V) K be be) ?_);rintro O Uu v6 Uv Q8 r L W h_ ⟨q,rr,rfl,k1,k2⟩;clear Z;replace hy:=hy.cV r G L (mC h_);replace Qv:=Qv.cV r oF L (mC h_);have hq:=k1.cU (nw r h_);have hr:=k2.cU (nw r h_);clear r;obtain⟨s6_0a,s6_0b,s6_0c,s6_0d,rfl⟩:=hq.shape;obtain⟨s6_1a,s6_1b,s6_1c,s6_1d,rfl⟩:=hr.shape;clear k1 k2 hr;refine cS (cE W (λ_ J v F=>∃q r,v= .tuple #[q,r,iV 0]/\dV F (Nf J F) q ((Rat.divInt x y).den:Int)/\dV F (Nf J F) r (y % (-(g:Int)))) (λO J r=>hd▸j6 (rlo r G) (hy.rel r G) ((((Qv.rel r oF).l (k:=1000000) (by rw[cP,Int.natAbs_natCast];omega))).cU λg V=>Cv.false V) hl be be) ?_);rintro O _ _ _ RJ r L W h_ ⟨q,rr,rfl,k1,k2⟩;clear hy;clear Qv;replace hq:=hq.cV r oF L (mC h_);have Rr:=k1.cU (nw r h_);have hr:=k2.cU (nw r h_);clear r;obtain⟨s7_0a,s7_0b,s7_0c,s7_0d,rfl⟩:=Rr.shape;obtain⟨s7_1a,s7_1b,s7_1c,s7_1d,rfl⟩:=hr.shape;clear k1 k2 hr;exact rtn W λGE we re=>(dH.of hq Rr).out re oF
 have hs:=aL hs;rw[show y.sign=1 by omega,Int.one_mul]at E hd;refine cS (cE W (λ_ J v F=>∃q r,v= .tuple #[q,r,iV 0]/\dV F (Nf J F) q (Rat.divInt x y).num/\dV F (Nf J F) r (x % ((g:Int)))) (λO J r=>E▸j6 (rlo r G) (Z.rel r G) ((((V.rel r oF).l (k:=1000000) (by rw[Int.natAbs_natCast];omega))).cU λg V=>Cv.false V) K be be) ?_);rintro O _ _ _ QE r L W h_ ⟨q,rr,rfl,k1,k2⟩;clear Z;replace hy:=hy.cV r G L (mC h_);replace V:=V.cV r oF L (mC h_);have hq:=k1.cU (nw r h_);have hr:=k2.cU (nw r h_);clear r;obtain⟨s5_0a,s5_0b,s5_0c,s5_0d,rfl⟩:=hq.shape;obtain⟨s5_1a,s5_1b,s5_1c,s5_1d,rfl⟩:=hr.shape;clear k1 k2 hr;refine cS (cE W (λ_ J v F=>∃q r,v= .tuple #[q,r,iV 0]/\dV F (Nf J F) q ((Rat.divInt x y).den:Int)/\dV F (Nf J F) r (y % ((g:Int)))) (λO J r=>hd▸j6 (rlo r G) (hy.rel r G) ((((V.rel r oF).l (k:=1000000) (by rw[Int.natAbs_natCast];omega))).cU λg V=>Cv.false V) hl be be) ?_);rintro O _ _ _ Q8 r L W h_ ⟨q,rr,rfl,k1,k2⟩;clear hy;clear V;replace hq:=hq.cV r oF L (mC h_);have Rr:=k1.cU (nw r h_);have hr:=k2.cU (nw r h_);clear r;obtain⟨s6_0a,s6_0b,s6_0c,s6_0d,rfl⟩:=Rr.shape;obtain⟨s6_1a,s6_1b,s6_1c,s6_1d,rfl⟩:=hr.shape;clear k1 k2 hr;exact rtn W λGE we re=>(dH.of hq Rr).out re oF
end Go.Ex
