/- Texts X247 to X253: lemmas, each with its conditions. -/
import Derived.Test.YtbffinhkognefaaGreatDoorP14
set_option linter.defProp false
namespace Go.Sx
open Go Go.Ex Go.Proofs
variable{O:Nat->Sx.eD}
def Rel.nil{H:Hp}{nx:Nat}{iv:Iv}{B:Nat}{w J:World}(r:Rel H nx iv B w O J):Rel H nx [] B w O J:=
 {r with oB:=(λ_ _ h=>by cases h),jJ:=(λ_ _ h=>by cases h)}
end Go.Sx
namespace Go.Ex
open Go Go.Sx Go.Proofs
section
variable{H:Hp}{iv:Iv}{qs:List Rat}{B g nx:Nat}{S:Nat->Prop}{O:Nat->Sx.eD}{a:Option Addr}{q:Rat}{u v:Value}{w:World}
section
variable{S:Nat->Prop}{H:Hp}{nx:Nat}{iv:Iv}{B:Nat}{w J F:World}{O:Nat->Sx.eD}{x:Tx}{t:Tb}
def dI.BI(h:dI w S B [] x t)(r:Rel H nx iv B w O J)(G:∀g,S g->g<B)(L:Ext J F):dI F S B [] x t:=h.cV r.nil G L λ_ h=>h
def cw.aside{n:Nat}(h:cw w (Lv S B [] x) v q)(hX:eh w S B iv u n qs)(G:∀g,S g->g<B)(r:Rel H nx iv B w O J):cw J (λg=>Cv S B iv g/\u.ownBlock≠some g) v q:=
 (h.cW (Lv.same r.nil G)).cU λg V=>by
  rcases V.1 with V|⟨-,lo,R,Y,-⟩
  .refine⟨.inl V,λe=>?_⟩;rcases hX.new g e with h|⟨h,-⟩
   .exact h
   .have:=G g V;omega
  .cases Y
def eh.nw{w0:World}{n:Nat}(h:eh w S w0.heap.size iv v n qs)(r:Rel H nx iv w0.heap.size w O J)(G:Old S w0):dx J (Nw S w0 J) (Nw S w0 J) v qs:=
 (h.rel r G).read.cU (λ_ V=>Cv.nw V r) λ_ V=>Cv.nw V r
def dI.BJ(hT:dI w S B [] x t)(r:Rel H nx iv B w O J)(G:∀g,S g->g<B)(V:B<=g)(h:J.grownBy F (some g)):dI F S B [] x t:=
 (hT.rel r.nil G).cW λk K=>h.block k (by
  rcases K with K|K
  .exact rlo r.nil G k K.1
  .exact hT.low r.nil K) λe=>by
  injection e with e;rcases K with K|K
  .rcases K.1 with K|⟨-,lo,R,Y,-⟩
   .have:=G k K;omega
   .cases Y
  .rcases hT.lH k K with K|⟨-,lo,R,Y,-⟩
   .have:k<B:=K;omega
   .cases Y
end
def eh.some{n c:Nat}(h:eh w S B iv (.slice a n c) n qs)(h0:0<n):∃g,a=some ⟨g,0,none⟩/\B<=g:=by
 obtain⟨U,ho,_⟩:=h.row;rcases ho.2 with⟨_,Y⟩|⟨g,cap,cur,e,_⟩
 .omega
 .injection e with e;subst e;refine⟨g,rfl,?_⟩;rcases h.new g rfl with h|⟨h,-⟩
  .exact h.elim
  .exact h
def Lv.zero{x:Tx}(h:Lv S B [] x g):S g:=by
 rcases h.1 with h|⟨-,lo,R,Y,-⟩
 .exact h
 .cases Y
def cw.next{J F:World}{x:Tx}{n:Nat}(h:cw F (Nw (Lv S B [] x) J F) v q)(hX:eh w S B iv u n qs)(G:∀g,S g->g<B)(r:Rel H nx iv B w O J):
  cw F (λg=>Cv S B ((J.heap.size,F.heap.size)::iv) g/\u.ownBlock≠some g) v q:=
 h.apart (λg V=>⟨rlo r G g (qL (hX.new g V)),λhl=>by
  have:=G g hl.zero;rcases hX.new g V with h|⟨h,-⟩
  .exact h
  .omega⟩) r.cY λg V=>V.zero
def cw.aAh{J F:World}{n:Nat}(h:cw F (Nf J F) v q)(hX:eh w S B iv u n qs)(G:∀g,S g->g<B)(r:Rel H nx iv B w O J):
  cw F (λg=>Cv S B ((J.heap.size,F.heap.size)::iv) g/\u.ownBlock≠some g) v q:=
 h.apart (λg V=>⟨rlo r G g (qL (hX.new g V)),λh=>h⟩) r.cY λg V=>V.elim
def JN{x:Tx}{t:Tb}{m q n:Nat}(TT:Old S w)(Qq:fL w S x t)(hW:t.Wf m q)(hm:m<=1000)(E:n<=1000):
  eH PG Fd.nZ #[.pointer (some ⟨x.g,0,none⟩),iV n] w (eV w λv F=>dx F (Nw S w F) (Nw S w F) v (t.jf n)):=by
 have G:=TT;have W:=bR w;have Pu:=hW.b;have UA:=hW.bs;obtain⟨ab,cb,Vn,Qz,-,TR⟩:=Qq.hdb hW;obtain⟨aB,cB,VJ,hcB,-,Zp⟩:=Qq.hdB hW;have hT:=dI.arg Qq;refine sC ce ?_;refine cS (cR (GT:=λ_ J v F=>eh F FF J.heap.size [(J.heap.size,F.heap.size)] v n (List.replicate n 0)) (λO J r=>j4 n J be) ?_);rintro O wa v1 wb r L N Z;have hX:=Z.ef (S:=S) (iv:=[(wa.heap.size,wb.heap.size)]) r.cY aF;replace W:=W.tr N;replace hT:=hT.BI r G L;clear r L N Z;generalize [(wa.heap.size,wb.heap.size)]=Pt at*
 obtain⟨ao,co,rfl,-⟩:=hX.row.form;refine⟨_,λO J r=>hT.f0 G Vn r.nil,Nat×World×Iv,λz=>⟨[(0,.o (.v (.pointer (some ⟨x.g,0,none⟩)))),(1,.o (.v (iV (n:Int)))),(5,sV ao n co),(13,sV ab m cb),(14,.o (.v (iV (m:Int)))),(15,.o (.v (iV (z.1:Int))))],[],0,z.2.2,z.2.1⟩,λz=>m-z.1,λz=>z.1<=m/\Bq w z.2.1/\dI z.2.1 S w.heap.size [] x t/\eh z.2.1 S w.heap.size z.2.2 (.slice ao n co) n (fF (dm n) n 0 (λi=>t.bs.getD i 0) (λi=>t.b.getD i 0) z.1),?_,?_⟩
 .intro O J r;exact⟨(0,J,_),⟨aZ _,W.tr r.cg,hT.rel r.nil G,hX.rel r G⟩,sbgn [] r⟩
 clear hT W hX;rintro⟨i,w1,iv⟩ ⟨R,W,hT,hX⟩;dsimp only at R W hT hX ⊢;apply bS<;>intro Pk
 .have Pk:=dL Pk;obtain⟨gb,rfl⟩:=TR be;obtain⟨gB,rfl⟩:=Zp be;refine⟨_,rfl,be,_,λO J r=>hT.Pe G (i:=i) be Vn r.nil,?_⟩;apply bS<;>intro hc
  .have hc:t.bs.getD i 0<n:=by simpa using hc
   obtain⟨go,rfl,WX⟩:=hX.some be;obtain⟨p1,p2,p3,p4,p5,p6,p7,p8,US,hF⟩:=hT.eB G (j:=i) be VJ;refine⟨_,λO J r=>hT.f3 G VJ r.nil,_,rfl,be,rC p1 p2 p3 p4 p5 p6 p7 p8,rfl,λO J r j x Z=>US r.nil j x Z,_,rfl,be,?_⟩;intro O J r;obtain⟨_,QT,Y,I,h3,h4,h5⟩:=(hX.rel r G).store hc (hF.aside hX G r) r G;injection QT with QT;injection QT with QT;subst QT;refine⟨Y,I,h3,λw4 QD=>?_⟩;obtain⟨WJ,UT,-⟩:=h5 w4 QD;replace hT:=hT.BJ r G WX UT;replace W:=(W.tr r.cg).tr (Bel.grown UT (λg e=>by injection e with e;omega) r.cY);clear Y I h3 h4 h5 QD UT r hF;clear hX;have hp:fF (dm n) n 0 (λi=>t.bs.getD i 0) (λi=>t.b.getD i 0) (i+1)=(fF (dm n) n 0 (λi=>t.bs.getD i 0) (λi=>t.b.getD i 0) i).set (t.bs.getD i 0) (t.b.getD i 0):=by rw[fF,aM ⟨aZ _,be⟩];rfl
   rw[<-hp]at WJ;refine inc i ?_;intro I8 w3 r3;exact⟨(i+1,w3,_),⟨Pk,W.tr r3.cg,hT.rel r3.nil G,WJ.rel r3 G⟩,sbgn [] r3,dec Pk⟩
  have hc:¬t.bs.getD i 0<n:=by simpa using hc
  have hp:fF (dm n) n 0 (λi=>t.bs.getD i 0) (λi=>t.b.getD i 0) (i+1)=fF (dm n) n 0 (λi=>t.bs.getD i 0) (λi=>t.b.getD i 0) i:=by rw[fF,aJ λh=>hc (by have:=h.2;omega)]
  refine inc i ?_;intro I8 w3 r3;exact⟨(i+1,w3,_),⟨Pk,W.tr r3.cg,hT.rel r3.nil G,by rw[hp];exact hX.rel r3 G⟩,sbgn [] r3,dec Pk⟩
 have Pk:=dE R Pk;intro GE we re;refine⟨_,rfl,W.tr re.cg,?_⟩;unfold Tb.jf;rw[UA,<-Pk];exact hX.nw re G
def GJ{x:Tx}{t:Tb}{m q n k:Nat}(TT:Old S w)(Qq:fL w S x t)(hW:t.Wf m q)(hm:q<=1000)(E:n<=1000)(WB:k<=1000):
  eH PG Fd.mz #[.pointer (some ⟨x.g,0,none⟩),iV n,.int .i64 k] w (eV w λv F=>dx F (Nw S w F) (Nw S w F) v (t.jP n k)):=by
 have G:=TT;have W:=bR w;have Qa:=hW.c;have Qj:=hW.fs;obtain⟨af,cf,WI,hcf,-,haf⟩:=Qq.hdf hW;obtain⟨ac,cc,YY,VF,-,hac⟩:=Qq.hdc hW;have hT:=dI.arg Qq;refine qj ce ?_;refine cS (cR (GT:=λ_ J v F=>eh F FF J.heap.size [(J.heap.size,F.heap.size)] v k (List.replicate k 0)) (λO J r=>j4 k J be) ?_);rintro O wa v1 wb r L N Z;have hX:=Z.ef (S:=S) (iv:=[(wa.heap.size,wb.heap.size)]) r.cY aF;replace W:=W.tr N;replace hT:=hT.BI r G L;clear r L N Z;generalize [(wa.heap.size,wb.heap.size)]=Pt at*
 obtain⟨ao,co,rfl,-⟩:=hX.row.form;refine⟨_,λO J r=>hT.f1 G WI r.nil,Nat×World×Iv,λz=>⟨[(0,.o (.v (.pointer (some ⟨x.g,0,none⟩)))),(1,.o (.v (iV (n:Int)))),(2,.o (.v (iV (k:Int)))),(7,sV ao k co),(15,sV af q cf),(16,.o (.v (iV (q:Int)))),(17,.o (.v (iV (z.1:Int))))],[],0,z.2.2,z.2.1⟩,λz=>q-z.1,λz=>z.1<=q/\Bq w z.2.1/\dI z.2.1 S w.heap.size [] x t/\eh z.2.1 S w.heap.size z.2.2 (.slice ao k co) k (fF (dm k) k n (λj=>t.fs.getD j 0) (λj=> -(t.c.getD j 0)) z.1),?_,?_⟩
 .intro O J r;exact⟨(0,J,_),⟨aZ _,W.tr r.cg,hT.rel r.nil G,hX.rel r G⟩,sbgn [] r⟩
 clear hT W hX;rintro⟨i,w1,iv⟩ ⟨R,W,hT,hX⟩;dsimp only at R W hT hX ⊢;apply bS<;>intro Pk
 .have Pk:=dL Pk;obtain⟨gf,rfl⟩:=haf be;obtain⟨gc,rfl⟩:=hac be;refine⟨_,rfl,be,_,λO J r=>hT.cFs G (i:=i) be WI r.nil,?_⟩;obtain⟨u,hu⟩:=exq (t.fs.getD i 0);rw[hu];conv=>whnf
  split
  .rename_i hc;have hc:n<=u:=by have:=aK hc;omega
   refine⟨((n+k:Nat):Int),wo,?_⟩;apply bS<;>intro hd
   .have hd:u<n+k:=by have:=aK hd;omega
    obtain⟨go,rfl,WX⟩:=hX.some be;refine⟨((u-n:Nat):Int),wo,?_⟩;obtain⟨p1,p2,p3,p4,p5,p6,p7,p8,US,hF⟩:=hT.eC G (j:=i) be YY;refine⟨_,λO J r=>hT.f4 G YY r.nil,_,rfl,be,rC p1 p2 p3 p4 p5 p6 p7 p8,rfl,λO J r j x Z=>US r.nil j x Z,?_⟩;refine cS (cR (GT:=λ_ J v F=>cw F (Nw (Lv S w.heap.size [] x) J F) v (-(t.c.getD i 0))) (λO J r=>lV (Lv.old r.nil G) (hF.gh r.nil G)) ?_);rintro O Tk v9 Tl r L N E;have hM:=E.next hX G r
    replace hX:=hX.cV (A:=(Tk.heap.size,Tl.heap.size)::iv) r G L λx Z=>aD _ Z;replace hT:=hT.BI r G L;replace W:=W.tr N;clear r L N E;generalize (Tk.heap.size,Tl.heap.size)::iv=jv9 at*
    obtain⟨k1,k2,k3,k4,k5,k6,k7,k8,rfl⟩:=hM.shape;refine⟨_,rfl,be,?_⟩;intro O J r;obtain⟨_,QT,Y,I,h3,h4,h5⟩:=(hX.rel r G).store (j:=u-n) be (hM.cW λg V=>rls r G V.1) r G;injection QT with QT;injection QT with QT;subst QT;refine⟨Y,I,h3,λw4 QD=>?_⟩;obtain⟨WJ,UT,-⟩:=h5 w4 QD;replace hT:=hT.BJ r G WX UT;replace W:=(W.tr r.cg).tr (Bel.grown UT (λg e=>by injection e with e;omega) r.cY);clear Y I h3 h4 h5 QD UT r hM;clear hX;have hp:fF (dm k) k n (λj=>t.fs.getD j 0) (λj=> -(t.c.getD j 0)) (i+1)=(fF (dm k) k n (λj=>t.fs.getD j 0) (λj=> -(t.c.getD j 0)) i).set (u-n) (-(t.c.getD i 0)):=by rw[fF,aM (by rw[hu];omega),hu]
    rw[<-hp]at WJ;refine inc i ?_;intro I8 w3 r3;exact⟨(i+1,w3,_),⟨Pk,W.tr r3.cg,hT.rel r3.nil G,WJ.rel r3 G⟩,sbgn [] r3,dec Pk⟩
   have hd:¬u<n+k:=by have:=aL hd;omega
   have hp:fF (dm k) k n (λj=>t.fs.getD j 0) (λj=> -(t.c.getD j 0)) (i+1)=fF (dm k) k n (λj=>t.fs.getD j 0) (λj=> -(t.c.getD j 0)) i:=by rw[fF,aJ (by rw[hu];omega)]
   refine inc i ?_;intro I8 w3 r3;exact⟨(i+1,w3,_),⟨Pk,W.tr r3.cg,hT.rel r3.nil G,by rw[hp];exact hX.rel r3 G⟩,sbgn [] r3,dec Pk⟩
  rename_i hc;have hc:¬n<=u:=by have:=aL hc;omega
  conv=>whnf
  have hp:fF (dm k) k n (λj=>t.fs.getD j 0) (λj=> -(t.c.getD j 0)) (i+1)=fF (dm k) k n (λj=>t.fs.getD j 0) (λj=> -(t.c.getD j 0)) i:=by rw[fF,aJ (by rw[hu];omega)]
  refine inc i ?_;intro I8 w3 r3;exact⟨(i+1,w3,_),⟨Pk,W.tr r3.cg,hT.rel r3.nil G,by rw[hp];exact hX.rel r3 G⟩,sbgn [] r3,dec Pk⟩
 have Pk:=dE R Pk;intro GE we re;refine⟨_,rfl,W.tr re.cg,?_⟩;unfold Tb.jP;rw[Qj,<-Pk];exact hX.nw re G
def GK{x:Tx}{t:Tb}{m q n s:Nat}(TT:Old S w)(Qq:fL w S x t)(hW:t.Wf m q)(hs:s<q)(hm:m<=1000)(hq:q<=1000)(E:n<=1000):
  eH PG Fd.kf #[.pointer (some ⟨x.g,0,none⟩),iV n,iV s] w (eV w λv F=>dx F (Nw S w F) (Nw S w F) v (t.oc n s)):=by
 have G:=TT;have W:=bR w;have UK:=hW.al;have Qj:=hW.fs;have UA:=hW.bs;obtain⟨af,cf,WI,hcf,-,haf⟩:=Qq.hdf hW;obtain⟨ab,cb,Vn,Qz,-,TR⟩:=Qq.hdb hW;obtain⟨aa,ca,TZ,Qc,-,Zo⟩:=Qq.hda hW;obtain⟨gf,rfl⟩:=haf be;have hR:∀i,i<m->∃a c,x.rv[i]? =some (.slice a q c)/\q<=c/\c<=maxLen/\(0<q->∃g,a=some ⟨g,0,none⟩):=λi R=>Qq.hdr hW R;have hT:=dI.arg Qq;obtain⟨u,hu⟩:=exq (t.fs.getD s 0);obtain⟨l0,Wg⟩:∃l,l=if u<n then(dm n).set u 1 else dm n:=⟨_,rfl⟩
 refine oL ce ?_;refine cS (cR (GT:=λ_ J v F=>eh F FF J.heap.size [(J.heap.size,F.heap.size)] v n (List.replicate n 0)) (λO J r=>j4 n J be) ?_);rintro O wa v1 wb r L N Z;have hX:=Z.ef (S:=S) (iv:=[(wa.heap.size,wb.heap.size)]) r.cY aF;replace W:=W.tr N;replace hT:=hT.BI r G L;clear r L N Z;generalize [(wa.heap.size,wb.heap.size)]=Pt at*
 obtain⟨ao,co,rfl,-⟩:=hX.row.form;refine⟨_,λO J r=>hT.f1 G WI r.nil,_,rfl,be,_,λO J r=>hT.cFs G (i:=s) be WI r.nil,?_⟩;rw[hu];apply bS<;>intro hc
 .have hc:=dL hc;obtain⟨go,rfl,WX⟩:=hX.some be;refine cS (cR (GT:=λ_ J v F=>cw F (Nf J F) v ((1:Int):Rat)) (λO J r=>iI 1 J bv bv) ?_);rintro O wa8 v8 wb8 r L N E;have hM:=E.aAh hX G r;replace hX:=hX.cV (A:=(wa8.heap.size,wb8.heap.size)::Pt) r G L λx Z=>aD _ Z;replace hT:=hT.BI r G L;replace W:=W.tr N;clear r L N E;generalize (wa8.heap.size,wb8.heap.size)::Pt=jv8 at*
  obtain⟨k1,k2,k3,k4,k5,k6,k7,k8,rfl⟩:=hM.shape;rw[show ((1:Int):Rat)=1 by decide]at hM;refine⟨_,rfl,be,?_⟩;intro O J r;obtain⟨_,QT,Y,I,h3,h4,h5⟩:=(hX.rel r G).store hc (hM.cW λg V=>rls r G V.1) r G;injection QT with QT;injection QT with QT;subst QT;refine⟨Y,I,h3,λw4 QD=>?_⟩;obtain⟨WJ,UT,-⟩:=h5 w4 QD;replace hT:=hT.BJ r G WX UT;replace W:=(W.tr r.cg).tr (Bel.grown UT (λg e=>by injection e with e;omega) r.cY);clear Y I h3 h4 h5 QD UT r hM;clear hX;have hX:eh w4 S w.heap.size jv8 (.slice (some ⟨go,0,none⟩) n co) n l0:=by rw[Wg,aM hc];exact WJ
  clear WJ;refine⟨_,λO J r=>hT.f0 G Vn r.nil,Nat×World×Iv,λz=>⟨[(0,.o (.v (.pointer (some ⟨x.g,0,none⟩)))),(1,.o (.v (iV (n:Int)))),(2,.o (.v (iV (s:Int)))),(7,.o (.v (.slice (some ⟨go,0,none⟩) n co))),(30,sV ab m cb),(31,.o (.v (iV (m:Int)))),(32,.o (.v (iV (z.1:Int))))],[],0,z.2.2,z.2.1⟩,λz=>m-z.1,λz=>z.1<=m/\Bq w z.2.1/\dI z.2.1 S w.heap.size [] x t/\eh z.2.1 S w.heap.size z.2.2 (.slice (some ⟨go,0,none⟩) n co) n (fF l0 n 0 (λi=>t.bs.getD i 0) (λi=> -(dR t.a i s)) z.1),?_,?_⟩
  .intro O J r;exact⟨(0,J,_),⟨aZ _,W.tr r.cg,hT.rel r.nil G,hX.rel r G⟩,sbgn [] r⟩
  clear hT W hX;rintro⟨i,w1,iv⟩ ⟨R,W,hT,hX⟩;dsimp only at R W hT hX ⊢;apply bS<;>intro Pk
  .have Pk:=dL Pk;obtain⟨gb,rfl⟩:=TR be;obtain⟨ga,rfl⟩:=Zo be;obtain⟨ai,ci,TD,-,-,Zn⟩:=hR i Pk;obtain⟨gi,rfl⟩:=Zn be;have QI:=hW.row Pk;refine⟨_,rfl,be,_,λO J r=>hT.Pe G (i:=i) be Vn r.nil,?_⟩;apply bS<;>intro hc
   .have hc:t.bs.getD i 0<n:=by simpa using hc
    obtain⟨p1,p2,p3,p4,p5,p6,p7,p8,US,hF⟩:=hT.eA G (i:=i) (j:=s) be be TD;refine⟨_,λO J r=>hT.f2 G TZ r.nil,_,rfl,be,_,λO J r=>hT.cA G TD TZ r.nil,_,rfl,be,rC p1 p2 p3 p4 p5 p6 p7 p8,rfl,λO J r j x Z=>US r.nil j x Z,?_⟩;refine cS (cR (GT:=λ_ J v F=>cw F (Nw (Lv S w.heap.size [] x) J F) v (-(dR t.a i s))) (λO J r=>lV (Lv.old r.nil G) (hF.gh r.nil G)) ?_);rintro O Tk v9 Tl r L N E;have hM:=E.next hX G r
    replace hX:=hX.cV (A:=(Tk.heap.size,Tl.heap.size)::iv) r G L λx Z=>aD _ Z;replace hT:=hT.BI r G L;replace W:=W.tr N;clear r L N E;generalize (Tk.heap.size,Tl.heap.size)::iv=jv9 at*
    obtain⟨k1,k2,k3,k4,k5,k6,k7,k8,rfl⟩:=hM.shape;refine⟨_,rfl,be,?_⟩;intro O J r;obtain⟨_,QT,Y,I,h3,h4,h5⟩:=(hX.rel r G).store hc (hM.cW λg V=>rls r G V.1) r G;injection QT with QT;injection QT with QT;subst QT;refine⟨Y,I,h3,λw4 QD=>?_⟩;obtain⟨WJ,UT,-⟩:=h5 w4 QD;replace hT:=hT.BJ r G WX UT;replace W:=(W.tr r.cg).tr (Bel.grown UT (λg e=>by injection e with e;omega) r.cY);clear Y I h3 h4 h5 QD UT r hM;clear hX;have hp:fF l0 n 0 (λi=>t.bs.getD i 0) (λi=> -(dR t.a i s)) (i+1)=(fF l0 n 0 (λi=>t.bs.getD i 0) (λi=> -(dR t.a i s)) i).set (t.bs.getD i 0) (-(dR t.a i s)):=by rw[fF,aM ⟨aZ _,be⟩];rfl
    rw[<-hp]at WJ;refine inc i ?_;intro I8 w3 r3;exact⟨(i+1,w3,_),⟨Pk,W.tr r3.cg,hT.rel r3.nil G,WJ.rel r3 G⟩,sbgn [] r3,dec Pk⟩
   have hc:¬t.bs.getD i 0<n:=by simpa using hc
   have hp:fF l0 n 0 (λi=>t.bs.getD i 0) (λi=> -(dR t.a i s)) (i+1)=fF l0 n 0 (λi=>t.bs.getD i 0) (λi=> -(dR t.a i s)) i:=by rw[fF,aJ λh=>hc (by have:=h.2;omega)]
   refine inc i ?_;intro I8 w3 r3;exact⟨(i+1,w3,_),⟨Pk,W.tr r3.cg,hT.rel r3.nil G,by rw[hp];exact hX.rel r3 G⟩,sbgn [] r3,dec Pk⟩
  have Pk:=dE R Pk;intro GE we re;refine⟨_,rfl,W.tr re.cg,?_⟩;unfold Tb.oc;rw[hu,<-Wg,UA,<-Pk];exact hX.nw re G
 have hc:¬u<n:=by simpa using hc
 replace hX:eh wb S w.heap.size Pt (.slice ao n co) n l0:=by rw[Wg,aJ hc];exact hX
 refine⟨_,λO J r=>hT.f0 G Vn r.nil,Nat×World×Iv,λz=>⟨[(0,.o (.v (.pointer (some ⟨x.g,0,none⟩)))),(1,.o (.v (iV (n:Int)))),(2,.o (.v (iV (s:Int)))),(7,sV ao n co),(30,sV ab m cb),(31,.o (.v (iV (m:Int)))),(32,.o (.v (iV (z.1:Int))))],[],0,z.2.2,z.2.1⟩,λz=>m-z.1,λz=>z.1<=m/\Bq w z.2.1/\dI z.2.1 S w.heap.size [] x t/\eh z.2.1 S w.heap.size z.2.2 (.slice ao n co) n (fF l0 n 0 (λi=>t.bs.getD i 0) (λi=> -(dR t.a i s)) z.1),?_,?_⟩
 .intro O J r;exact⟨(0,J,_),⟨aZ _,W.tr r.cg,hT.rel r.nil G,hX.rel r G⟩,sbgn [] r⟩
 clear hT W hX;rintro⟨i,w1,iv⟩ ⟨R,W,hT,hX⟩;dsimp only at R W hT hX ⊢;apply bS<;>intro Pk
 .have Pk:=dL Pk;obtain⟨gb,rfl⟩:=TR be;obtain⟨ga,rfl⟩:=Zo be;obtain⟨ai,ci,TD,-,-,Zn⟩:=hR i Pk;obtain⟨gi,rfl⟩:=Zn be;have QI:=hW.row Pk;refine⟨_,rfl,be,_,λO J r=>hT.Pe G (i:=i) be Vn r.nil,?_⟩;apply bS<;>intro hc
  .have hc:t.bs.getD i 0<n:=by simpa using hc
   obtain⟨go,rfl,WX⟩:=hX.some be;obtain⟨p1,p2,p3,p4,p5,p6,p7,p8,US,hF⟩:=hT.eA G (i:=i) (j:=s) be be TD;refine⟨_,λO J r=>hT.f2 G TZ r.nil,_,rfl,be,_,λO J r=>hT.cA G TD TZ r.nil,_,rfl,be,rC p1 p2 p3 p4 p5 p6 p7 p8,rfl,λO J r j x Z=>US r.nil j x Z,?_⟩;refine cS (cR (GT:=λ_ J v F=>cw F (Nw (Lv S w.heap.size [] x) J F) v (-(dR t.a i s))) (λO J r=>lV (Lv.old r.nil G) (hF.gh r.nil G)) ?_);rintro O Tk v9 Tl r L N E;have hM:=E.next hX G r
   replace hX:=hX.cV (A:=(Tk.heap.size,Tl.heap.size)::iv) r G L λx Z=>aD _ Z;replace hT:=hT.BI r G L;replace W:=W.tr N;clear r L N E;generalize (Tk.heap.size,Tl.heap.size)::iv=jv9 at*
   obtain⟨k1,k2,k3,k4,k5,k6,k7,k8,rfl⟩:=hM.shape;refine⟨_,rfl,be,?_⟩;intro O J r;obtain⟨_,QT,Y,I,h3,h4,h5⟩:=(hX.rel r G).store hc (hM.cW λg V=>rls r G V.1) r G;injection QT with QT;injection QT with QT;subst QT;refine⟨Y,I,h3,λw4 QD=>?_⟩;obtain⟨WJ,UT,-⟩:=h5 w4 QD;replace hT:=hT.BJ r G WX UT;replace W:=(W.tr r.cg).tr (Bel.grown UT (λg e=>by injection e with e;omega) r.cY);clear Y I h3 h4 h5 QD UT r hM;clear hX;have hp:fF l0 n 0 (λi=>t.bs.getD i 0) (λi=> -(dR t.a i s)) (i+1)=(fF l0 n 0 (λi=>t.bs.getD i 0) (λi=> -(dR t.a i s)) i).set (t.bs.getD i 0) (-(dR t.a i s)):=by rw[fF,aM ⟨aZ _,be⟩];rfl
   rw[<-hp]at WJ;refine inc i ?_;intro I8 w3 r3;exact⟨(i+1,w3,_),⟨Pk,W.tr r3.cg,hT.rel r3.nil G,WJ.rel r3 G⟩,sbgn [] r3,dec Pk⟩
  have hc:¬t.bs.getD i 0<n:=by simpa using hc
  have hp:fF l0 n 0 (λi=>t.bs.getD i 0) (λi=> -(dR t.a i s)) (i+1)=fF l0 n 0 (λi=>t.bs.getD i 0) (λi=> -(dR t.a i s)) i:=by rw[fF,aJ λh=>hc (by have:=h.2;omega)]
  refine inc i ?_;intro I8 w3 r3;exact⟨(i+1,w3,_),⟨Pk,W.tr r3.cg,hT.rel r3.nil G,by rw[hp];exact hX.rel r3 G⟩,sbgn [] r3,dec Pk⟩
 have Pk:=dE R Pk;intro GE we re;refine⟨_,rfl,W.tr re.cg,?_⟩;unfold Tb.oc;rw[hu,<-Wg,UA,<-Pk];exact hX.nw re G
end
variable{Fn:List (List Rat)}{E8:List Ow}{rv:List Value}{B:Nat}{S S' X:Nat->Prop}{O:Nat->Sx.eD}{it:Ow}{w F:World}
def ju.rep{it':Ow}{k:Nat}(h:ju w S E8)(K:E8[k]? =some it)(Pp:∀g,g<w.heap.size->it.v.ownBlock≠some g->F.heap[g]? =w.heap[g]?)(ho:F.ownsRow 0 it'.e it'.sz it'.v it'.n it'.xs)
  (N:∀g,it'.v.ownBlock=some g->it.v.ownBlock=some g\/w.heap.size<=g) (off:∀g,Bv ((E8.set k it').map Ow.v) g->¬S' g):ju F S' (E8.set k it'):=by
 refine⟨λit2 Qo=>?_,λi j a b g R hj ha QZ=>?_,off⟩
 .obtain⟨i,R⟩:=aj Qo;rw[List.getElem?_set]at R;split at R
  .split at R
   .injection R with R;subst R;exact ho
   .cases R
  .rename_i e;have RY:=h.own it2 (aG R);exact ownsRow.cW RY λg Qv=>Pp g (ownsRow.low RY g Qv).2 λe2=>e (h.apart k i _ _ g K R e2 Qv)
 .have key:∀(i:Nat) (a:Ow),(E8.set k it')[i]? =some a->(i=k/\a=it')\/(i≠k/\E8[i]? =some a):=λi a R=>by
   rw[List.getElem?_set]at R;split at R
   .rename_i e;split at R
    .injection R with R;exact .inl ⟨e.symm,R.symm⟩
    .cases R
   .rename_i e;exact .inr ⟨Ne.symm e,R⟩
  have low:∀(i:Nat) (a:Ow) (g:Nat),E8[i]? =some a->a.v.ownBlock=some g->g<w.heap.size:=λi a g R V=>h.low (ju.bk (aG R) V);rcases key i a R with⟨rfl,rfl⟩|⟨Y,I⟩<;>rcases key j b hj with⟨rfl,rfl⟩|⟨h3,h4⟩
  .rfl
  .rcases N g ha with h5|h5
   .exact h.apart i j it b g K h4 h5 QZ
   .have:=low j b g h4 QZ;omega
  .rcases N g QZ with h5|h5
   .exact h.apart i j a it g I K ha h5
   .have:=low i a g I ha;omega
  .exact h.apart i j a b g I h4 ha QZ
def ju.add(h:ju w S E8)(ho:w.ownsRow 0 it.e it.sz it.v it.n it.xs)(Po:∀g,it.v.ownBlock=some g->¬Bv (E8.map Ow.v) g)(off:∀g,Bv ((it::E8).map Ow.v) g->¬S' g):ju w S' (it::E8):=by
 refine⟨λit2 Qo=>?_,λi j a b g R hj ha N=>?_,off⟩
 .rcases List.mem_cons.1 Qo with rfl|Qo
  .exact ho
  .exact h.own it2 Qo
 .cases i with
  |zero=>
   injection R with R;subst R
   cases j with
   |zero=>rfl
   |succ j=>exact absurd (ju.bk (aG (show E8[j]? =some b from hj)) N) (Po g ha)
  |succ i=>
   cases j with
   |zero=>
    injection hj with hj;subst hj;exact absurd (ju.bk (aG (show E8[i]? =some a from R)) ha) (Po g N)
   |succ j=>exact congrArg (· +1) (h.apart i j a b g R hj ha N)
def yM{α:Type}{P:Nat->α->Prop}:∀{n:Nat},(∀i,i<n->∃y,P i y)->∃l:List α,l.length=n/\∀i y,l[i]? =some y->P i y
 |0,_=>⟨[],rfl,λi y h=>by cases h⟩
 |n+1,h=>by
  obtain⟨l,Y,I⟩:=yM (n:=n) λi R=>h i be;obtain⟨y,hy⟩:=h n be;refine⟨l++[y],by simp[Y],λi z hz=>?_⟩;rcases aW i n with R|R
  .rw[aN be]at hz;exact I i z hz
  .rw[aP be,Y]at hz;have:=eQ hz;simp at this;obtain rfl:i=n:=by omega
   rw[bV]at hz;injection hz with hz;subst hz;exact hy
def ju.rows(hl:rv.length=Fn.length)(Pm:∀(i:Nat) v qs,rv[i]? =some v->Fn[i]? =some qs->gX w S v qs.length qs)
  (HC:∀(i j:Nat) a b g,rv[i]? =some a->rv[j]? =some b->a.ownBlock=some g->b.ownBlock=some g->i=j) (off:∀g,Bv rv g->¬S' g):
  ∃ca,ca.length=Fn.length/\ju w S' (List.zipWith gC rv ca)/\∀(i:Nat) U q,ca[i]? =some U->Fn[i]? =some q->Fr w S U q:=by
 obtain⟨ca,Y,I⟩:=yM (n:=Fn.length) (P:=λi U=>∀v qs,rv[i]? =some v->Fn[i]? =some qs->w.ownsRow 0 T.dN 4 v qs.length U.flatten/\U.length=qs.length/\Fr w S U qs) λi R=>by
  obtain⟨U,Y,I,h3⟩:=Pm i rv[i] Fn[i] (aE _) (aE _)
  exact⟨U,λv qs e1 e2=>by
   rw[aE be]at e1 e2;injection e1 with e1;injection e2 with e2
   subst e1 e2;exact⟨Y,I,h3⟩⟩
 have hz:∀i it,(List.zipWith gC rv ca)[i]? =some it->∃v U qs,rv[i]? =some v/\ca[i]? =some U/\Fn[i]? =some qs/\it=gC v U:=λi it R=>by
  have QU:=eQ R;rw[List.length_zipWith]at QU;rw[List.getElem?_zipWith,aE be,aE be]at R;injection R with R;exact⟨_,_,_,aE be,aE be,aE (show i<Fn.length by omega),R.symm⟩
 refine⟨ca,Y,⟨λit R=>?_,λi j a b g R hj ha N=>?_,λg V=>off g (by rw[jU be]at V;exact V)⟩,λi U q e1 e2=>?_⟩
 .obtain⟨i,R⟩:=aj R;obtain⟨v,U,qs,e1,e2,e3,rfl⟩:=hz i it R;obtain⟨k1,k2,k3⟩:=I i U e2 v qs e1 e3;show w.ownsRow 0 T.dN 4 v U.length U.flatten;rw[k2];exact k1
 .obtain⟨v,U,qs,e1,e2,e3,rfl⟩:=hz i a R;obtain⟨v2,Wc,qs2,e4,e5,e6,rfl⟩:=hz j b hj;exact HC i j v v2 g e1 e4 ha N
 .exact(I i U e1 _ q (aE (show i<rv.length by have:=eQ e1;omega)) e2).2.2
def fL.begin{SA Sb Sc St:Nat->Prop}{va vB vc tv:Value}{n B1 e1 B2 e2 B3 e3 B4 e4 g0:Nat}{b c:List Rat}{q0:Rat}{b1 b5:Bool}{b2 b6:Option Addr}{b3 b4 b7 b8:Nat}
  (hM:ig w SA va rv n Fn) (hA:iP n Fn) (TS:∀g,Mb va rv g->B1<=g/\g<e1) (hSA:∀g,SA g->B1<=g/\g<e1/\¬Mb va rv g)
  (N:gX w Sb vB b.length b) (QB:∀g,vB.ownBlock=some g->B2<=g/\g<e2) (hSb:∀g,Sb g->B2<=g/\g<e2/\vB.ownBlock≠some g)
  (hc:gX w Sc vc c.length c) (Qz:∀g,vc.ownBlock=some g->B3<=g/\g<e3) (hSc:∀g,Sc g->B3<=g/\g<e3/\vc.ownBlock≠some g)
  (htv:tv= .agg #[.bool b1,.slice b2 b3 b4,.bool b5,.slice b6 b7 b8]) (ht:cw w St tv q0) (hSt:∀g,St g->B4<=g/\g<e4) (Y:e1<=B2) (I:e2<=B3) (h3:B1<=e1) (h4:B2<=e2) (h5:B3<=e3) (h6:e3<=B4) (h7:B4<=e4) (Tc:¬(B1<=g0/\g0<e1)) (Qv:¬(B2<=g0/\g0<e2)) (hg3:¬(B3<=g0/\g0<e3)) (UT:¬(B4<=g0/\g0<e4))
  (hbox:w.heap[g0]? =some (.cells #[nls,nls,va,vB,vc,.bool b1,.slice b2 b3 b4,.bool b5,.slice b6 b7 b8] T.table (0,0))):
  fL w (λg=>((B1<=g/\g<e1)\/(B2<=g/\g<e2)\/(B3<=g/\g<e3)\/(B4<=g/\g<e4))/\¬Bv (Tx.cz ⟨g0,nls,nls,va,vB,vc,rv⟩) g) ⟨g0,nls,nls,va,vB,vc,rv⟩ ⟨[],[],Fn,b,c,q0⟩:=by
 obtain⟨x,Z⟩:∃x:Tx,x=⟨g0,nls,nls,va,vB,vc,rv⟩:=⟨_,rfl⟩
 have VH:∀g,Bv rv g->B1<=g/\g<e1:=λg ⟨v,h,e⟩=>TS g (.inr ⟨v,h,e⟩);have Ry:∀g,Bv x.cz g->g=g0\/(B1<=g/\g<e1/\Mb va rv g)\/(vB.ownBlock=some g)\/(vc.ownBlock=some g):=λg ⟨v,h,e⟩=>by
  subst Z;rcases List.mem_cons.1 h with rfl|h
  .injection e with e;exact .inl e.symm
  rcases List.mem_cons.1 h with rfl|h
  .cases e
  rcases List.mem_cons.1 h with rfl|h
  .cases e
  rcases List.mem_cons.1 h with rfl|h
  .exact .inr (.inl ⟨(TS g (.inl e)).1,(TS g (.inl e)).2,.inl e⟩)
  rcases List.mem_cons.1 h with rfl|h
  .exact .inr (.inr (.inl e))
  rcases List.mem_cons.1 h with rfl|h
  .exact .inr (.inr (.inr e))
  .exact .inr (.inl ⟨(TS g (.inr ⟨v,h,e⟩)).1,(TS g (.inr ⟨v,h,e⟩)).2,.inr ⟨v,h,e⟩⟩)
 have hSA':∀g,SA g->((B1<=g/\g<e1)\/(B2<=g/\g<e2)\/(B3<=g/\g<e3)\/(B4<=g/\g<e4))/\¬Bv x.cz g:=λg V=>by
  obtain⟨k1,k2,k3⟩:=hSA g V;refine⟨be,λhv=>?_⟩;rcases Ry g hv with k|k|k|k
  .omega
  .exact k3 k.2.2
  .have:=QB g k;omega
  .have:=Qz g k;omega
 have hSb':∀g,Sb g->((B1<=g/\g<e1)\/(B2<=g/\g<e2)\/(B3<=g/\g<e3)\/(B4<=g/\g<e4))/\¬Bv x.cz g:=λg V=>by
  obtain⟨k1,k2,k3⟩:=hSb g V;refine⟨be,λhv=>?_⟩;rcases Ry g hv with k|k|k|k
  .omega
  .omega
  .exact k3 k
  .have:=Qz g k;omega
 have hSc':∀g,Sc g->((B1<=g/\g<e1)\/(B2<=g/\g<e2)\/(B3<=g/\g<e3)\/(B4<=g/\g<e4))/\¬Bv x.cz g:=λg V=>by
  obtain⟨k1,k2,k3⟩:=hSc g V;refine⟨be,λhv=>?_⟩;rcases Ry g hv with k|k|k|k
  .omega
  .omega
  .have:=QB g k;omega
  .exact k3 k
 have hSt':∀g,St g->((B1<=g/\g<e1)\/(B2<=g/\g<e2)\/(B3<=g/\g<e3)\/(B4<=g/\g<e4))/\¬Bv x.cz g:=λg V=>by
  have k:=hSt g V;refine⟨be,λhv=>?_⟩;rcases Ry g hv with k|k|k|k
  .omega
  .omega
  .have:=QB g k;omega
  .have:=Qz g k;omega
 obtain⟨ca,k1,k2,k3⟩:=ju.rows (w:=w) (S:=SA) (S':=λ_=>False) hM.len (λi v qs e1 e2=>by
  have:=hM.row i v qs e1 e2;rw[<-hA qs (aG e2)]at this
  exact this) hM.HC λ_ _ h=>h
 obtain⟨cb,Sw,QZ,WQ⟩:=N;obtain⟨cc,hc1,SN,Ya⟩:=hc;have hzv:(List.zipWith gC rv ca).map Ow.v=rv:=jU (by rw[k1,hM.len]);rw[<-Z];refine⟨rC b1 b2 b3 b4 b5 b6 b7 b8,cb,cc,ca,?_,⟨_,_,_,_,_,_,_,_,rfl,(htv▸ht).cU hSt'⟩,WQ.cU hSb',Ya.cU hSc',k1,λi U q e1 e2=>(k3 i U q e1 e2).cU hSA',by rw[Z];exact hM.len⟩;have o1:=k2.add (S':=λ_=>False) (it:=gC vc cc) (by show w.ownsRow 0 T.dN 4 vc cc.length _;rw[SN];exact hc1) (λg V hv=>by rw[hzv]at hv;have:=VH g hv;have:=Qz g V;omega) λ_ _ h=>h
 have o2:=o1.add (S':=λ_=>False) (it:=gC vB cb) (by show w.ownsRow 0 T.dN 4 vB cb.length _;rw[QZ];exact Sw) (λg V hv=>by
  obtain⟨v,hv,e⟩:=hv;rcases List.mem_cons.1 hv with rfl|hv
  .have:=Qz g e;have:=QB g V;omega
  .rw[hzv]at hv;have:=VH g ⟨v,hv,e⟩;have:=QB g V;omega) λ_ _ h=>h
 have o3:=o2.add (S':=λ_=>False) (it:=⟨va,T.row,1,rv.length,rv⟩) hM.out (λg V hv=>by
  obtain⟨v,hv,e⟩:=hv;have:=TS g (.inl V);rcases List.mem_cons.1 hv with rfl|hv
  .have:=QB g e;omega
  rcases List.mem_cons.1 hv with rfl|hv
  .have:=Qz g e;omega
  .rw[hzv]at hv;exact hM.GL v hv g e V) λ_ _ h=>h
 have o4:=o3.add (S':=λ_=>False) (it:=⟨nls,T.int,1,0,[]⟩) (World.ownsRow_nil _ _ _ _) (λg V=>by cases V) λ_ _ h=>h;have o5:=o4.add (S':=λ_=>False) (it:=⟨nls,T.int,1,0,[]⟩) (World.ownsRow_nil _ _ _ _) (λg V=>by cases V) λ_ _ h=>h;have o6:=o5.add (S':=λg=>((B1<=g/\g<e1)\/(B2<=g/\g<e2)\/(B3<=g/\g<e3)\/(B4<=g/\g<e4))/\¬Bv x.cz g) (it:=⟨.slice (some ⟨g0,0,none⟩) 9 9,T.table,1,9,[nls,nls,va,vB,vc,.bool b1,.slice b2 b3 b4,.bool b5,.slice b6 b7 b8]⟩)
  ⟨rfl,.inr ⟨g0,9,_,rfl,aZ _,hbox,lr,mx,rfl,rfl⟩⟩ (λg V hv=>by
   injection V with V;have V:g0=g:=V;subst V;obtain⟨v,hv,e⟩:=hv;rcases List.mem_cons.1 hv with rfl|hv
   .cases e
   rcases List.mem_cons.1 hv with rfl|hv
   .cases e
   rcases List.mem_cons.1 hv with rfl|hv
   .have:=TS _ (.inl e);omega
   rcases List.mem_cons.1 hv with rfl|hv
   .have:=QB _ e;omega
   rcases List.mem_cons.1 hv with rfl|hv
   .have:=Qz _ e;omega
   .rw[hzv]at hv;have:=VH _ ⟨v,hv,e⟩;omega) λg V hs=>hs.2 (by
    subst Z;obtain⟨v,hv,e⟩:=V;refine⟨v,?_,e⟩;have e2:(Ow.v <$> (List.zipWith gC rv ca))=rv:=hzv;show v∈_::_::_::_::_::_::rv;rw[<-hzv]
    exact hv)
 subst Z;exact o6
def tB{H:Hp}{nx:Nat}{iv:Iv}{J:World}{v v':Value}(r:Rel H nx iv B w O J)(Po:∀g,v.ownBlock=some g->∀id b,dT H id=some b->(O id).nil=false->(O id).g≠g)(QG:J.heap.size<=F.heap.size)(SQ:∀g,v'.ownBlock=some g->g<F.heap.size/\(v.ownBlock=some g\/g=J.heap.size)):
  ∀lo R,(lo,R)∈e9 v'++iv->R<=F.heap.size/\∀id b,dT H id=some b->(O id).nil=false->¬(lo<=(O id).g/\(O id).g<R):=λlo R hm=>by
 rcases az.1 hm with hm|hm
 .obtain⟨V,rfl⟩:=kG.1 hm;obtain⟨Y,I⟩:=SQ _ V;refine⟨be,λid c hc E L=>?_⟩;rcases I with I|I
  .exact Po _ I id c hc E be
  .have:=(r.low id c hc E).2;omega
 .have:=r.oB lo R hm;have:=r.size;exact⟨be,λid c hc E=>r.jJ lo R hm id c hc E⟩
def Kept.gY{C9:Nat->Prop}{w0:World}(h:Kept w0 w X)(k:Kept w F C9)(hY:∀g,g<w0.heap.size->C9 g->X g):Kept w0 F X:=
 ⟨k.os.trans h.os,k.tape.trans h.tape,k.output.trans h.output,aR h.size k.size,λj hj Z=>(k.block j (Nat.lt_of_lt_of_le hj h.size) λhy=>Z (hY j hj hy)).trans (h.block j hj Z)⟩
def Kept.toBel(h:Kept w F X)(hX:∀g,X g->B<=g)(hB:B<=w.heap.size):Bel B w F:=
 ⟨h.os,h.tape,h.output,h.size,λk K=>h.block k be λZ=>by have:=hX k Z;omega⟩
end Go.Ex
namespace Go.Sx
open Go Go.Ex Go.Proofs
variable{O:Nat->Sx.eD}
def Sub.aAi{B:Nat}{l tl:Env}{nx:Nat}{H tH:Hp}{iv:Iv}{w J:World}{id t:Nat}{e:TypeId}{cs:List At}(r:Rel H nx iv B w O J)(RR:dT H id=some (.box e cs))(ht:fj l t=some (.o (.p id 0)))(E:(O id).nil=false)
  (hs:z7 H tH) (ho:Gx id tH=true) (Y:FA l tl) (I:kN nx tl):
  Sub B l nx O J ⟨(t,.o (.v (.pointer (some ⟨(O id).g,0,none⟩))))::tl,tH,nx,((O id).g,(O id).g+1)::iv,J⟩:=by
 refine⟨O,r.free RR ce E hs ho,λu v hv=>?_⟩;rw[ep]at hv;split at hv
 .rename_i e;subst e;injection hv with hv;subst hv;exact⟨trivial,_,ht,rfl⟩
 .exact⟨I.get u v hv,v,Y.get u v hv,rfl⟩
end Go.Sx
namespace Go.Ex
open Go Go.Sx Go.Proofs
section
variable{l:List Nat}{q:List Rat}{S:Nat->Prop}{v:Value}{w:World}
def Tx.hd(x:Tx):List Value:=[x.vb,x.vf,x.va,x.vB,x.vc]
def nR(hd rvx:List Value)(x:Tx)(t:Tb)(tp:List Value)(cb cc:List (List Value))(ca:List (List (List Value))):List Ow:=
 ⟨x.bx,T.table,1,9,hd++tp⟩::⟨x.vb,T.int,1,t.bs.length,ints t.bs⟩::⟨x.vf,T.int,1,t.fs.length,ints t.fs⟩::⟨x.va,T.row,1,rvx.length,rvx⟩::gC x.vB cb::gC x.vc cc::List.zipWith gC x.rv ca
structure KU(w:World)(S:Nat->Prop)(hd rvx:List Value)(x:Tx)(t:Tb)(tp:List Value)(cb cc:List (List Value))(ca:List (List (List Value))):Prop where
 ows:ju w S (nR hd rvx x t tp cb cc ca)
 ft:jh w S tp t.top
 fb:Fr w S cb t.b
 fc:Fr w S cc t.c
 fl:ca.length=t.a.length
 fa:∀(i:Nat) U q,ca[i]? =some U->t.a[i]? =some q->Fr w S U q
 rl:x.rv.length=t.a.length
 rx:rvx.length=x.rv.length
 h5:hd.length=5
def oQ(w:World)(S:Nat->Prop)(hd rvx:List Value)(x:Tx)(t:Tb):Prop:=∃tp cb cc ca,KU w S hd rvx x t tp cb cc ca
def fL.toJ{x:Tx}{t:Tb}(h:fL w S x t):oQ w S x.hd x.rv x t:=by
 obtain⟨tp,cb,cc,ca,h⟩:=h;exact⟨tp,cb,cc,ca,h.ows,h.ft,h.fb,h.fc,h.fl,h.fa,h.rl,rfl,rfl⟩
def oQ.toW{x:Tx}{t:Tb}(h:oQ w S x.hd x.rv x t):fL w S x t:=by
 obtain⟨tp,cb,cc,ca,h⟩:=h;exact⟨tp,cb,cc,ca,h.ows,h.ft,h.fb,h.fc,h.fl,h.fa,h.rl⟩
section
variable{w F:World}{S S':Nat->Prop}{hd rvx:List Value}{x:Tx}{t:Tb}{tp:List Value}{cb cc:List (List Value)}{ca:List (List (List Value))}
def KU.cz(h:KU w S hd rvx x t tp cb cc ca):(nR hd rvx x t tp cb cc ca).map Ow.v=x.cz:=by
 show _::_::_::_::_::_::(List.zipWith gC x.rv ca).map Ow.v=_;rw[jU (by rw[h.rl,h.fl])];rfl
def KU.cW(h:KU w S hd rvx x t tp cb cc ca)(K:∀g,S g\/Bv x.cz g->F.heap[g]? =w.heap[g]?):KU F S hd rvx x t tp cb cc ca:=
 ⟨h.ows.cW λg V=>K g (.inr (by rw[h.cz]at V;exact V)),h.ft.cW λg V=>K g (.inl V),h.fb.cW λg V=>K g (.inl V),h.fc.cW λg V=>K g (.inl V),h.fl,λi U q Y I=>(h.fa i U q Y I).cW λg V=>K g (.inl V),h.rl,h.rx,h.h5⟩
def oQ.aBQ(h:oQ w S hd rvx x t)(Pp:∀g,g<w.heap.size->x.vb.ownBlock≠some g->F.heap[g]? =w.heap[g]?)(ho:F.ownsRow 0 T.int 1 v l.length (ints l))(N:∀g,v.ownBlock=some g->x.vb.ownBlock=some g\/w.heap.size<=g)
  (G:∀g,S g->g<w.heap.size) (hs:∀g,S g->S' g) (E:∀g,Bv (Tx.cz {x with vb:=v}) g->¬S' g):oQ F S' hd rvx {x with vb:=v} {t with bs:=l}:=by
 obtain⟨tp,cb,cc,ca,h⟩:=h;have K:∀g,S g->F.heap[g]? =w.heap[g]? :=λg V=>Pp g (G g V) λe=>h.ows.off g (ju.bk (it:=⟨x.vb,T.int,1,t.bs.length,ints t.bs⟩) (by simp[nR]) e) V;have I:ju F FF (nR hd rvx {x with vb:=v} {t with bs:=l} tp cb cc ca):=h.ows.rep (k:=1) (it':=⟨v,T.int,1,l.length,ints l⟩) rfl Pp ho N λ_ _ h=>h;refine⟨tp,cb,cc,ca,I.HB λg V=>E g ?_,(h.ft.cW K).cU hs,(h.fb.cW K).cU hs,(h.fc.cW K).cU hs,h.fl,λi U q Y I=>((h.fa i U q Y I).cW K).cU hs,h.rl,h.rx,h.h5⟩;have e:(nR hd rvx {x with vb:=v} {t with bs:=l} tp cb cc ca).map Ow.v=Tx.cz {x with vb:=v}:=by
  show _::_::_::_::_::_::(List.zipWith gC x.rv ca).map Ow.v=_;rw[jU (by rw[h.rl,h.fl])];rfl
 rw[<-e];exact V
def oQ.aAj(h:oQ w S hd rvx x t)(Pp:∀g,g<w.heap.size->x.vf.ownBlock≠some g->F.heap[g]? =w.heap[g]?)(ho:F.ownsRow 0 T.int 1 v l.length (ints l))(N:∀g,v.ownBlock=some g->x.vf.ownBlock=some g\/w.heap.size<=g)
  (G:∀g,S g->g<w.heap.size) (hs:∀g,S g->S' g) (E:∀g,Bv (Tx.cz {x with vf:=v}) g->¬S' g):oQ F S' hd rvx {x with vf:=v} {t with fs:=l}:=by
 obtain⟨tp,cb,cc,ca,h⟩:=h;have K:∀g,S g->F.heap[g]? =w.heap[g]? :=λg V=>Pp g (G g V) λe=>h.ows.off g (ju.bk (it:=⟨x.vf,T.int,1,t.fs.length,ints t.fs⟩) (by simp[nR]) e) V;have I:ju F FF (nR hd rvx {x with vf:=v} {t with fs:=l} tp cb cc ca):=h.ows.rep (k:=2) (it':=⟨v,T.int,1,l.length,ints l⟩) rfl Pp ho N λ_ _ h=>h;refine⟨tp,cb,cc,ca,I.HB λg V=>E g ?_,(h.ft.cW K).cU hs,(h.fb.cW K).cU hs,(h.fc.cW K).cU hs,h.fl,λi U q Y I=>((h.fa i U q Y I).cW K).cU hs,h.rl,h.rx,h.h5⟩;have e:(nR hd rvx {x with vf:=v} {t with fs:=l} tp cb cc ca).map Ow.v=Tx.cz {x with vf:=v}:=by
  show _::_::_::_::_::_::(List.zipWith gC x.rv ca).map Ow.v=_;rw[jU (by rw[h.rl,h.fl])];rfl
 rw[<-e];exact V
def oQ.aAk(h:oQ w S hd rvx x t)(Pp:∀g,g<w.heap.size->x.vc.ownBlock≠some g->F.heap[g]? =w.heap[g]?)(ho:gX F S' v q.length q)(N:∀g,v.ownBlock=some g->x.vc.ownBlock=some g\/w.heap.size<=g)
  (G:∀g,S g->g<w.heap.size) (hs:∀g,S g->S' g) (E:∀g,Bv (Tx.cz {x with vc:=v}) g->¬S' g):oQ F S' hd rvx {x with vc:=v} {t with c:=q}:=by
 obtain⟨tp,cb,cc,ca,h⟩:=h;obtain⟨U,UR,RD,WA⟩:=ho;have K:∀g,S g->F.heap[g]? =w.heap[g]? :=λg V=>Pp g (G g V) λe=>h.ows.off g (ju.bk (it:=gC x.vc cc) (by simp[nR]) e) V;have I:ju F FF (nR hd rvx {x with vc:=v} {t with c:=q} tp cb U ca):=h.ows.rep (k:=5) (it':=gC v U) rfl Pp (by show F.ownsRow 0 T.dN 4 v U.length _;rw[RD];exact UR) N λ_ _ h=>h;refine⟨tp,cb,U,ca,I.HB λg V=>E g ?_,(h.ft.cW K).cU hs,(h.fb.cW K).cU hs,WA,h.fl,λi U q Y I=>((h.fa i U q Y I).cW K).cU hs,h.rl,h.rx,h.h5⟩;have e:(nR hd rvx {x with vc:=v} {t with c:=q} tp cb U ca).map Ow.v=Tx.cz {x with vc:=v}:=by
  show _::_::_::_::_::_::(List.zipWith gC x.rv ca).map Ow.v=_;rw[jU (by rw[h.rl,h.fl])];rfl
 rw[<-e];exact V
def oQ.aAl(h:oQ w S hd rvx x t){v0:Value}{i:Nat}(hv:x.rv[i]? =some v0)(Pp:∀g,g<w.heap.size->v0.ownBlock≠some g->F.heap[g]? =w.heap[g]?)(ho:gX F S' v q.length q)(N:∀g,v.ownBlock=some g->v0.ownBlock=some g\/w.heap.size<=g)
  (G:∀g,S g->g<w.heap.size) (hs:∀g,S g->S' g) (E:∀g,Bv (Tx.cz {x with rv:=x.rv.set i v}) g->¬S' g):oQ F S' hd rvx {x with rv:=x.rv.set i v} {t with a:=t.a.set i q}:=by
 obtain⟨tp,cb,cc,ca,h⟩:=h;obtain⟨U,UR,RD,WA⟩:=ho;have Wh:=eQ hv;have hic:i<ca.length:=by rw[h.fl,<-h.rl];exact Wh
 have hci:ca[i]? =some ca[i]:=aE hic;have hI:(nR hd rvx x t tp cb cc ca)[i+6]? =some (gC v0 ca[i]):=by
  show(List.zipWith gC x.rv ca)[i]? =_;rw[List.getElem?_zipWith,hv,hci]
 have K:∀g,S g->F.heap[g]? =w.heap[g]? :=λg V=>Pp g (G g V) λe=>h.ows.off g (ju.bk (aG hI) e) V;have I:ju F FF ((nR hd rvx x t tp cb cc ca).set (i+6) (gC v U)):=h.ows.rep (it':=gC v U) hI Pp (by show F.ownsRow 0 T.dN 4 v U.length _;rw[RD];exact UR) N λ_ _ h=>h;have e:(nR hd rvx x t tp cb cc ca).set (i+6) (gC v U)=nR hd rvx {x with rv:=x.rv.set i v} {t with a:=t.a.set i q} tp cb cc (ca.set i U):=by
  show _::_::_::_::_::_::(List.zipWith gC x.rv ca).set i _=_::_::_::_::_::_::List.zipWith gC (x.rv.set i v) (ca.set i U);congr 6;apply av;intro j;by_cases e:i=j
  .subst e;rw[aQ (by rw[List.length_zipWith];omega),List.getElem?_zipWith,aQ Wh,aQ hic]
  .rw[aX e,List.getElem?_zipWith,List.getElem?_zipWith,aX e,aX e]
 rw[e]at I;have e2:(nR hd rvx {x with rv:=x.rv.set i v} {t with a:=t.a.set i q} tp cb cc (ca.set i U)).map Ow.v=Tx.cz {x with rv:=x.rv.set i v}:=by
  show _::_::_::_::_::_::(List.zipWith gC (x.rv.set i v) (ca.set i U)).map Ow.v=_;rw[jU (by rw[bQ,bQ,h.rl,h.fl])];rfl
 refine⟨tp,cb,cc,ca.set i U,I.HB λg V=>E g (by rw[<-e2];exact V),(h.ft.cW K).cU hs,(h.fb.cW K).cU hs,(h.fc.cW K).cU hs,by simp[h.fl],λj Wc q2 h5 h6=>?_,by simp[h.rl],by simp[h.rx],h.h5⟩;by_cases e:i=j
 .subst e;rw[aQ hic]at h5;rw[aQ (by rw[<-h.fl];exact hic)]at h6;injection h5 with h5;injection h6 with h6;subst h5 h6;exact WA
 .rw[aX e]at h5 h6;exact((h.fa j Wc q2 h5 h6).cW K).cU hs
end
end
variable{ad:Addr}{H:Hp}{iv:Iv}{M:List (List (Int×Int))}{Fn:List (List Rat)}{l:List Nat}{b c q qs:List Rat}{vs xs:List Value}{B g k nx:Nat}{S:Nat->Prop}{O:Nat->Sx.eD}{v:Value}{w:World}
structure tU(w:World)(S:Nat->Prop)(B:Nat)(iv:Iv)(hd rvx:List Value)(x:Tx)(t:Tb):Prop where
 iw:oQ w (Lv S B iv x) hd rvx x t
 lH:∀g,Bv x.cz g->Out B iv g
def tU.toO{hd rvx:List Value}{x:Tx}{t:Tb}(h:tU w S B iv hd rvx x t)(Y:hd=x.hd)(I:rvx=x.rv):dI w S B iv x t:=by
 subst Y I;exact⟨h.iw.toW,h.lH⟩
def Bv.cons:Bv (v::vs) g↔v.ownBlock=some g\/Bv vs g:=by
 constructor
 .rintro⟨u,hu,e⟩;rcases List.mem_cons.1 hu with rfl|hu
  .exact .inl e
  .exact .inr ⟨u,hu,e⟩
 .rintro(e|⟨u,hu,e⟩)
  .exact⟨v,aF,e⟩
  .exact⟨u,aD _ hu,e⟩
def Bv.cz{x:Tx}:Bv x.cz g↔x.g=g\/x.vb.ownBlock=some g\/x.vf.ownBlock=some g\/x.va.ownBlock=some g\/x.vB.ownBlock=some g\/x.vc.ownBlock=some g\/Bv x.rv g:=by
 unfold Tx.cz;rw[Bv.cons,Bv.cons,Bv.cons,Bv.cons,Bv.cons,Bv.cons];have:(x.bx.ownBlock=some g)↔x.g=g:=⟨λh=>by injection h,λh=>by rw[<-h];rfl⟩
 rw[this]
def Bv.set{i:Nat}(h:Bv (vs.set i v) g):v.ownBlock=some g\/Bv vs g:=by
 obtain⟨u,hu,e⟩:=h;rcases bL hu with Y|Y
 .exact .inr ⟨u,Y,e⟩
 .exact .inl (Y▸e)
section
variable{S:Nat->Prop}{H:Hp}{nx:Nat}{iv:Iv}{B:Nat}{w J F:World}{O:Nat->Sx.eD}{x:Tx}{t:Tb}{hd rvx:List Value}{v v0:Value}
structure M4(w J F:World)(S:Nat->Prop)(B:Nat)(iv:Iv)(v':Value)(hd rvx:List Value)(x x':Tx)(t':Tb):Prop where
 iw:tU F S B (e9 v'++iv) hd rvx x' t'
 HB:∀g,Lv S B iv x g->F.heap[g]? =w.heap[g]? /\Lv S B (e9 v'++iv) x' g
 kept:Kept J F (Bv x.cz)
 DL:∀g,Bv x'.cz g->Bv x.cz g\/J.heap.size<=g
def dI.Ph(hT:dI w S B iv x t)(r:Rel H nx iv B w O J)(G:∀g,S g->g<B){x':Tx}{t':Tb}(h0:∀g,v0.ownBlock=some g->Bv x.cz g)(Z:∀g,Bv x'.cz g->v.ownBlock=some g\/Bv x.cz g)(h6:J.grownBy F v0.ownBlock)(h7:v.ownBlock=v0.ownBlock\/v.ownBlock=some J.heap.size)
  (hJ:∀S':Nat->Prop,(∀g,g<J.heap.size->v0.ownBlock≠some g->F.heap[g]? =J.heap[g]?)->(∀g,v.ownBlock=some g->v0.ownBlock=some g\/J.heap.size<=g)->(∀g,Lv S B iv x g->g<J.heap.size)->(∀g,Lv S B iv x g->S' g)->(∀g,Bv x'.cz g->¬S' g)->oQ F S' hd rvx x' t'):
  M4 w J F S B iv v hd rvx x x' t':=by
 have hold:=Lv.old (x:=x) r G;have Pq:∀g,Bv x.cz g->g<J.heap.size:=λg V=>hT.low r V;have Pp:∀g,g<J.heap.size->v0.ownBlock≠some g->F.heap[g]? =J.heap[g]? :=λg V Po=>h6.block g V (Ne.symm Po);have N:∀g,v.ownBlock=some g->v0.ownBlock=some g\/J.heap.size<=g:=λg V=>by
  rcases h7 with h7|h7
  .exact .inl (h7▸V)
  .rw[h7]at V;injection V with V;exact .inr be
 have Ss:∀p,p∈iv->p∈e9 v++iv:=λp hp=>List.mem_append_right _ hp
 have hL:∀g,Lv S B iv x g->Lv S B (e9 v++iv) x' g:=λg V=>⟨V.1.mono Ss,λQZ=>by
  rcases Z g QZ with Y|Y
  .rcases N g Y with I|I
   .exact V.2 (h0 g I)
   .have:=hold g V;omega
  .exact V.2 Y⟩
 have Po:∀g,Lv S B iv x g->v0.ownBlock≠some g:=λg V e=>V.2 (h0 g e);refine⟨⟨hJ (Lv S B (e9 v++iv) x') Pp N hold hL λg QZ hl=>hl.2 QZ,λg V=>?_⟩,λg V=>⟨(Pp g (hold g V) (Po g V)).trans (Lv.same r G g V),hL g V⟩,Kept.one h6 λg e=>h0 g e,λg V=>?_⟩
 .rcases Z g V with Y|Y
  .rcases N g Y with I|I
   .exact(hT.lH g (h0 g I)).mono Ss
   .exact .inr ⟨by have:=r.cY;omega,g,g+1,List.mem_append_left _ (kG.2 ⟨Y,rfl⟩),lr,cF _⟩
  .exact(hT.lH g Y).mono Ss
 .rcases Z g V with Y|Y
  .rcases N g Y with I|I
   .exact .inl (h0 g I)
   .exact .inr I
  .exact .inl Y
def dI.aAm(hT:dI w S B iv x t)(r:Rel H nx iv B w O J)(G:∀g,S g->g<B)(h5:F.ownsRow 0 T.int 1 v l.length (ints l))(h6:J.grownBy F x.vb.ownBlock)(h7:v.ownBlock=x.vb.ownBlock\/v.ownBlock=some J.heap.size):
  M4 w J F S B iv v x.hd x.rv x {x with vb:=v} {t with bs:=l}:=
 hT.Ph (v0:=x.vb) r G (λg e=>Bv.cz.2 (.inr (.inl e))) (λg h=>by rw[Bv.cz]at h ⊢;simp only at h;rcases h with h|h|h|h|h|h|h<;>simp[h]) h6 h7 λS' k1 k2 k3 k4 k5=>(hT.rel r G).iw.toJ.aBQ k1 h5 k2 k3 k4 k5
def dI.Ot(hT:dI w S B iv x t)(r:Rel H nx iv B w O J)(G:∀g,S g->g<B)(h5:F.ownsRow 0 T.int 1 v l.length (ints l))(h6:J.grownBy F x.vf.ownBlock)(h7:v.ownBlock=x.vf.ownBlock\/v.ownBlock=some J.heap.size):
  M4 w J F S B iv v x.hd x.rv x {x with vf:=v} {t with fs:=l}:=
 hT.Ph (v0:=x.vf) r G (λg e=>Bv.cz.2 (.inr (.inr (.inl e)))) (λg h=>by rw[Bv.cz]at h ⊢;simp only at h;rcases h with h|h|h|h|h|h|h<;>simp[h]) h6 h7 λS' k1 k2 k3 k4 k5=>(hT.rel r G).iw.toJ.aAj k1 h5 k2 k3 k4 k5
def dI.aAn(hT:dI w S B iv x t)(r:Rel H nx iv B w O J)(G:∀g,S g->g<B){i:Nat}(hv:x.rv[i]? =some v0)(h5:∀S':Nat->Prop,(∀g,Lv S B iv x g->S' g)->gX F S' v q.length q)(h6:J.grownBy F v0.ownBlock)(h7:v.ownBlock=v0.ownBlock\/v.ownBlock=some J.heap.size):
  M4 w J F S B iv v x.hd x.rv x {x with rv:=x.rv.set i v} {t with a:=t.a.set i q}:=
 hT.Ph (v0:=v0) r G (λg e=>Bv.cz.2 (.inr (.inr (.inr (.inr (.inr (.inr ⟨v0,aG hv,e⟩))))))) (λg h=>by
  rw[Bv.cz]at h ⊢;simp only at h;rcases h with h|h|h|h|h|h|h
  any_goals simp[h]
  rcases Bv.set h with h|h<;>simp[h]) h6 h7 λS' k1 k2 k3 k4 k5=>(hT.rel r G).iw.toJ.aAl hv k1 (h5 S' k4) k2 k3 k4 k5
structure StH(H:Hp)(O:Nat->Sx.eD)(w J:World)(ad:Addr)(v:Value)(S:Nat->Prop)(B:Nat)(iv:Iv)(hd rvx:List Value)(x:Tx)(t:Tb):Prop where
 spot:ad.spot=none
 cells:∀k,k<1->(J.cell? (ad.add k)).isSome=true/\J.frozen? (ad.add k)=false
 own:∀id b,dT H id=some b->(O id).nil=false->(O id).g≠ad.block
 next:∀w4,w4=setCells J ad [v]->tU w4 S B iv hd rvx x t/\Kept J w4 (Bv x.cz)/\∀g,Lv S B iv x g->w4.heap[g]? =w.heap[g]?
def tU.same(h:tU w S B iv hd rvx x t)(r:Rel H nx iv B w O J)(G:∀g,S g->g<B):∀g,Lv S B iv x g\/Bv x.cz g->J.heap[g]? =w.heap[g]? :=λg V=>
 V.elim (λV=>rls r G V.1) λV=>rls r (λ_ h=>h) (h.lH g V)
def tU.ET(hT:tU w S B iv hd rvx x t)(r:Rel H nx iv B w O J)(G:∀g,S g->g<B)(K:k<5)(QQ:ad=⟨x.g,k,none⟩):StH H O w J ad v S B iv (hd.set k v) rvx x t:=by
 obtain⟨tp,cb,cc,ca,hC⟩:=hT.iw;have Pq:∀g,Lv S B iv x g->g<w.heap.size:=λg V=>by
  rcases V.1 with h|⟨_,lo,R,k1,k2,k3⟩
  .have:=G g h;have:=r.base;omega
  .have:=r.oB lo R k1;omega
 have ht4:=hC.ft.len;have hh5:=hC.h5;obtain⟨Y,I,h3,h4⟩:=hC.ows.st (k:=0) (off:=k) (nv:=[v]) r (λg V=>hT.lH g (by rw[<-hC.cz];exact V)) (Lv.same r G) rfl (by show k+1<=9*1;omega) ce (ad:=ad) λg c e=>by
  injection e with e;injection e with e;injection e with e;rw[QQ,e]
 refine⟨Y,I,h3,λw4 QD=>?_⟩;obtain⟨h5,h6,h7⟩:=h4 w4 QD;have hL:∀g,Lv S B iv x g->w4.heap[g]? =J.heap[g]? :=λg V=>h7 g V (Pq g V);have Xk:=hC.cW (hT.same r G);have e:(hd++tp).take k++[v]++(hd++tp).drop (k+1)=hd.set k v++tp:=by
  rw[List.take_append_of_le_length be,List.drop_append_of_le_length be,List.set_eq_take_append_cons_drop,aM be];simp
 have h8:=Xk.ows.put (k:=0) rfl h5 h6;refine⟨⟨⟨tp,cb,cc,ca,?_,Xk.ft.cW hL,Xk.fb.cW hL,Xk.fc.cW hL,hC.fl,λi U q e1 e2=>(Xk.fa i U q e1 e2).cW hL,hC.rl,hC.rx,by rw[bQ];exact hh5⟩,hT.lH⟩,Kept.one h5 λg e=>Bv.cz.2 (.inl (by injection e)),λg V=>(hL g V).trans (Lv.same r G g V)⟩;have e2:(nR hd rvx x t tp cb cc ca).set 0 (Ow.Pa ⟨x.bx,T.table,1,9,hd++tp⟩ ((hd++tp).take k++[v]++(hd++tp).drop (k+1)))=nR (hd.set k v) rvx x t tp cb cc ca:=by rw[e];rfl
 rw[<-e2];exact h8
def tU.M5(hT:tU w S B iv hd rvx x t)(r:Rel H nx iv B w O J)(G:∀g,S g->g<B){i n c:Nat}(R:i<rvx.length)(TZ:x.va= .slice (some ⟨g,0,none⟩) n c)(QQ:ad=⟨g,i*1,none⟩):StH H O w J ad v S B iv hd (rvx.set i v) x t:=by
 obtain⟨tp,cb,cc,ca,hC⟩:=hT.iw;have Pq:∀g,Lv S B iv x g->g<w.heap.size:=λg V=>by
  rcases V.1 with h|⟨_,lo,R,k1,k2,k3⟩
  .have:=G g h;have:=r.base;omega
  .have:=r.oB lo R k1;omega
 obtain⟨Y,I,h3,h4⟩:=hC.ows.st (k:=3) (off:=i) (nv:=[v]) r (λg V=>hT.lH g (by rw[<-hC.cz];exact V)) (Lv.same r G) rfl (by show i+1<=rvx.length*1;omega) ce (ad:=ad) λg c e=>by
  rw[show x.va=_ from e]at TZ;injection TZ with TZ;injection TZ with TZ;injection TZ with TZ;rw[QQ,TZ,ah]
 refine⟨Y,I,h3,λw4 QD=>?_⟩;obtain⟨h5,h6,h7⟩:=h4 w4 QD;have hL:∀g,Lv S B iv x g->w4.heap[g]? =J.heap[g]? :=λg V=>h7 g V (Pq g V);have Xk:=hC.cW (hT.same r G);have e:rvx.take i++[v]++rvx.drop (i+1)=rvx.set i v:=by
  rw[List.set_eq_take_append_cons_drop,aM R];simp
 have h8:=Xk.ows.put (k:=3) rfl h5 h6;refine⟨⟨⟨tp,cb,cc,ca,?_,Xk.ft.cW hL,Xk.fb.cW hL,Xk.fc.cW hL,hC.fl,λi U q e1 e2=>(Xk.fa i U q e1 e2).cW hL,hC.rl,by rw[bQ];exact hC.rx,hC.h5⟩,hT.lH⟩,Kept.one h5 λg e=>Bv.cz.2 (.inr (.inr (.inr (.inl e)))),λg V=>(hL g V).trans (Lv.same r G g V)⟩;have e2:(nR hd rvx x t tp cb cc ca).set 3 (Ow.Pa ⟨x.va,T.row,1,rvx.length,rvx⟩ (rvx.take i++[v]++rvx.drop (i+1)))=nR hd (rvx.set i v) x t tp cb cc ca:=by
  rw[e];show _::_::_::_::_=_::_::_::_::_;unfold Ow.Pa;rw[bQ]
 rw[<-e2];exact h8
end
def eh.later{B1 e1 n:Nat}{J F:World}(h:eh w FF B1 [(B1,e1)] v n qs)(hB:B<=B1)(hm:(B1,e1)∈iv)(r:Rel H nx iv B w O J)(L:Ext J F):eh F FF B1 [(B1,e1)] v n qs:=
 h.cW λg V=>by
  rcases V with V|⟨h0,lo,R,hh,Y,I⟩
  .exact V.elim
  .rcases aY.1 hh with e;injection e with e1' e2';subst e1' e2';have hc:Cv FF B iv g:=.inr ⟨be,_,_,hm,Y,I⟩;rw[L.block g (rlo r (iS B) g hc),rls r (iS B) hc]
def wP.later{B1 e1 n:Nat}{J F:World}{M:List (List Rat)}(h:wP w FF B1 [(B1,e1)] v n M)(hB:B<=B1)(hm:(B1,e1)∈iv)(r:Rel H nx iv B w O J)(L:Ext J F):wP F FF B1 [(B1,e1)] v n M:=
 h.cW λg V=>by
  rcases V with V|⟨h0,lo,R,hh,Y,I⟩
  .exact V.elim
  .rcases aY.1 hh with e;injection e with e1' e2';subst e1' e2';have hc:Cv FF B iv g:=.inr ⟨be,_,_,hm,Y,I⟩;rw[L.block g (rlo r (iS B) g hc),rls r (iS B) hc]
def e8{B1 e1:Nat}(h:Cv FF B1 [(B1,e1)] g):B1<=g/\g<e1:=by
 rcases h with h|⟨h0,lo,R,hh,Y,I⟩
 .exact h.elim
 .rcases aY.1 hh with e;injection e with e1' e2';subst e1' e2';exact⟨Y,I⟩
section
variable{S:Nat->Prop}{H:Hp}{nx:Nat}{iv:Iv}{B:Nat}{w J F:World}{O:Nat->Sx.eD}{x:Tx}{t:Tb}
def dI.aAo(hT:dI w S B iv x t)(r:Rel H nx iv B w O J)(G:∀g,S g->g<B):J.ownsRow 0 T.int 1 x.vb t.bs.length (ints t.bs)/\∀g,x.vb.ownBlock=some g->∀id b,dT H id=some b->(O id).nil=false->(O id).g≠g:=by
 refine⟨?_,λg V=>hT.not r g (Bv.cz.2 (.inr (.inl V)))⟩;obtain⟨tp,cb,cc,ca,hC⟩:=(hT.rel r G).iw;exact hC.ows.own ⟨x.vb,T.int,1,t.bs.length,ints t.bs⟩ (by simp[gz])
def dI.OA(hT:dI w S B iv x t)(r:Rel H nx iv B w O J)(G:∀g,S g->g<B):J.ownsRow 0 T.int 1 x.vf t.fs.length (ints t.fs)/\∀g,x.vf.ownBlock=some g->∀id b,dT H id=some b->(O id).nil=false->(O id).g≠g:=by
 refine⟨?_,λg V=>hT.not r g (Bv.cz.2 (.inr (.inr (.inl V))))⟩;obtain⟨tp,cb,cc,ca,hC⟩:=(hT.rel r G).iw;exact hC.ows.own ⟨x.vf,T.int,1,t.fs.length,ints t.fs⟩ (by simp[gz])
end
def fT.KV{sz:Nat}(h:fT w S sz v xs k)(QG:0<sz):(∃c,v= .slice none 0 c/\k=0)\/∃ad c,v= .slice (some ad) k c/\∀(j:Nat) u,xs[j]? =some u->S ad.block/\w.cell? (ad.add j)=some u:=by
 obtain⟨_,hl,_,a,c,rfl,_,e3⟩:=h
 cases a with
 |none=>
  have h0:k=0:=by
   rcases bB k with h0|h0
   .exact h0
   .have:=Nat.mul_pos h0 QG;obtain⟨ad2,q1,_⟩:=e3 0 _ (aE (show 0<xs.length by omega))
    cases q1
  subst h0;exact .inl ⟨c,rfl,rfl⟩
 |some ad=>
  refine .inr ⟨ad,c,rfl,λj u hu=>?_⟩;obtain⟨ad2,q1,q2,q3⟩:=e3 j u hu;injection q1 with q1;subst q1;exact⟨q2,q3⟩
def xV(l:List Nat)(n:Nat):ints l++[iV (n:Int)]=ints (l++[n]):=by unfold ints;rw[bp];rfl
def Tb.wi(Fn:List (List Rat))(b c:List Rat)(i j:Nat):Tb:=⟨(List.range i).map λk=>c.length+k,List.range j,Fn,b,c,0⟩
def Tb.aAp{i j:Nat}:{Tb.wi Fn b c i j with bs:=(Tb.wi Fn b c i j).bs++[c.length+i]}=Tb.wi Fn b c (i+1) j:=by
 unfold Tb.wi;rw[bu,bp];rfl
def Tb.aAq{i j:Nat}:{Tb.wi Fn b c i j with fs:=(Tb.wi Fn b c i j).fs++[j]}=Tb.wi Fn b c i (j+1):=by
 unfold Tb.wi;rw[bu]
def OB{vm vb vc:Value}{b c:List (Int×Int)}(TT:Old S w)(hm:dQ w S vm M)(N:dJ w S vb b)(hc:dJ w S vc c)(hfM:∀r∈M,ue r)(WG:ue b)(Zq:ue c)(Pm:∀r∈M,r.length=c.length)(hM:M.length<=1000)(Pu:b.length<=1000)(Qa:c.length<=1000):
  eH PG Fd.xy #[.agg #[vm,vb,vc]] w (eV w λv F=>∃x,v= .pointer (some ⟨x.g,0,none⟩)/\dI F FF w.heap.size [(w.heap.size,F.heap.size)] x (Tb.begin (dS M) (b.map dC) (c.map dC))/\∀g,Bv x.cz g->w.heap.size<=g):=by
 have G:=TT;have hF:=iS w.heap.size;have W:=bR w;obtain⟨am,cm,rfl,Rw,Sv⟩:=dG.shape hm;obtain⟨ab,cb,rfl,Qz,TS⟩:=dK.shape N;obtain⟨ac,cc,rfl,VF,SJ⟩:=dK.shape hc;refine Ao ce ?_;refine dP [.x 0,.x 1,.x 3,.x 4,.x 6,.x 7,.x 2,.x 5,.x 8,.x 9,.x 10,.x 11,.x 12] ?_;refine cR (GT:=λ_ J v F=>wP F FF J.heap.size [(J.heap.size,F.heap.size)] v c.length (dS M)) (λO J r=>GN (oS G r) (dQ.cW hm ((kS W r G))) hfM Pm be be) ?_;rintro O QJ va QH r L hbl1 Zr;replace W:=W.tr hbl1;have s1:=r.cY;have t1:=L.size;clear r L hbl1;refine cR (GT:=λ_ J v F=>eh F FF J.heap.size [(J.heap.size,F.heap.size)] v b.length (b.map dC)) (λO J r=>kY (oS G r) (dJ.cW N ((kS W r G))) WG be) ?_;rintro O Qk vB QP r L Qf Xl;replace W:=W.tr Qf;have s2:=r.size;have t2:=L.size;replace Zr:=Zr.later s1 ce r L;clear r L Qf;refine cR (GT:=λ_ J v F=>eh F FF J.heap.size [(J.heap.size,F.heap.size)] v c.length (c.map dC)) (λO J r=>kY (oS G r) (dJ.cW hc ((kS W r G))) Zq be) ?_;rintro O Qh vC Q7 r L Tm ZB;replace W:=W.tr Tm;have s3:=r.size;have t3:=L.size;replace Zr:=Zr.later s1 ce r L;replace Xl:=Xl.later be ce r L;clear r L Tm;refine cR (GT:=λ_ J v F=>cw F (Nf J F) v ((0:Int):Rat)) (λO J r=>iI 0 J bv bv) ?_;rintro O Rg vT RT r L hbl4 hTx;replace W:=W.tr hbl4;have s4:=r.size;have t4:=L.size;replace Zr:=Zr.later s1 ce r L;replace Xl:=Xl.later be ce r L;replace ZB:=ZB.later be ce r L;clear r L hbl4;obtain⟨rv,hMW,TU⟩:=Zr.ex;obtain⟨aA,cA,rfl,-⟩:=eZ hMW.out;obtain⟨aB,cB,rfl,-⟩:=Xl.row.form;obtain⟨aC,cC,rfl,-⟩:=ZB.row.form;obtain⟨k1,k2,k3,k4,k5,k6,k7,k8,rfl⟩:=hTx.shape;rw[show ((0:Int):Rat)=0 by decide]at hTx;obtain⟨Fn,hA⟩:∃Fn,Fn=dS M:=⟨_,rfl⟩
 obtain⟨bb,QB⟩:∃x,x=b.map dC:=⟨_,rfl⟩
 obtain⟨cc',hcc'⟩:∃x,x=c.map dC:=⟨_,rfl⟩
 rw[<-hA]at hMW;rw[<-QB]at Xl;rw[<-hcc']at ZB;have UU:Fn.length=M.length:=by rw[hA];simp[dS]
 have hbbl:bb.length=b.length:=by rw[QB];simp
 have hccl:cc'.length=c.length:=by rw[hcc'];simp
 have hAw:iP c.length Fn:=λr hr=>by
  rw[hA]at hr;obtain⟨r0,h0,rfl⟩:=bA.1 hr;rw[aO];exact Pm r0 h0
 refine⟨Nat×Tx×World×Iv,λz=>⟨[(4,.o (.v (.pointer (some ⟨z.2.1.g,0,none⟩)))),(3,.o (.v (iV (c.length:Int)))),(24,.o (.v (iV (M.length:Int)))),(25,.o (.v (iV (z.1:Int))))],[],2,z.2.2.2,z.2.2.1⟩,λz=>M.length-z.1,λz=>z.1<=M.length/\Bq w z.2.2.1/\dI z.2.2.1 FF w.heap.size z.2.2.2 z.2.1 (Tb.wi Fn bb cc' z.1 0)/\∀g,Bv z.2.1.cz g->w.heap.size<=g,?_,?_⟩
 .intro O J r;have QC:=r.nn 1 _ rfl (by intros;simp) ce;have hbox:=r.box 1 _ _ rfl;have p1:=r.jJ _ _ (show (QJ.heap.size,QH.heap.size)∈[(Rg.heap.size,RT.heap.size),(Qh.heap.size,Q7.heap.size),(Qk.heap.size,QP.heap.size),(QJ.heap.size,QH.heap.size)] by simp) 1 _ rfl QC;have p2:=r.jJ _ _ (show (Qk.heap.size,QP.heap.size)∈[(Rg.heap.size,RT.heap.size),(Qh.heap.size,Q7.heap.size),(Qk.heap.size,QP.heap.size),(QJ.heap.size,QH.heap.size)] by simp) 1 _ rfl QC;have p3:=r.jJ _ _ (show (Qh.heap.size,Q7.heap.size)∈[(Rg.heap.size,RT.heap.size),(Qh.heap.size,Q7.heap.size),(Qk.heap.size,QP.heap.size),(QJ.heap.size,QH.heap.size)] by simp) 1 _ rfl QC;have p4:=r.jJ _ _ (show (Rg.heap.size,RT.heap.size)∈[(Rg.heap.size,RT.heap.size),(Qh.heap.size,Q7.heap.size),(Qk.heap.size,QP.heap.size),(QJ.heap.size,QH.heap.size)] by simp) 1 _ rfl QC;have Pq:=r.low 1 _ rfl QC;obtain⟨Do,hL⟩:∃Do,Do=[(Rg.heap.size,RT.heap.size),(Qh.heap.size,Q7.heap.size),(Qk.heap.size,QP.heap.size),(QJ.heap.size,QH.heap.size)]:=⟨_,rfl⟩
  have Pp:∀B1 e1 g,(B1,e1)∈Do->w.heap.size<=B1->B1<=g->g<e1->J.heap[g]? =RT.heap[g]? :=λB1 e1 g hm Y I h3=>rls r hF (.inr ⟨be,B1,e1,by rw[<-hL];exact hm,I,h3⟩);have m1:(QJ.heap.size,QH.heap.size)∈Do:=by rw[hL];simp
  have m2:(Qk.heap.size,QP.heap.size)∈Do:=by rw[hL];simp
  have m3:(Qh.heap.size,Q7.heap.size)∈Do:=by rw[hL];simp
  have m4:(Rg.heap.size,RT.heap.size)∈Do:=by rw[hL];simp
  have Sw:gX J (λg=>Cf Qk [(Qk.heap.size,QP.heap.size)] g/\(Value.slice aB b.length cB).ownBlock≠some g) (.slice aB b.length cB) bb.length bb:=by
   rw[hbbl];refine Xl.row.cW λg V=>?_;have:Cf Qk [(Qk.heap.size,QP.heap.size)] g:=V.elim (λh=>h.1) λh=>Xl.new g h;have:=e8 this;exact Pp _ _ g m2 be this.1 this.2
  have hc1:gX J (λg=>Cf Qh [(Qh.heap.size,Q7.heap.size)] g/\(Value.slice aC c.length cC).ownBlock≠some g) (.slice aC c.length cC) cc'.length cc':=by
   rw[hccl];refine ZB.row.cW λg V=>?_;have:Cf Qh [(Qh.heap.size,Q7.heap.size)] g:=V.elim (λh=>h.1) λh=>ZB.new g h;have:=e8 this;exact Pp _ _ g m3 be this.1 this.2
  have hW:=fL.begin (w:=J) (n:=c.length) (B1:=QJ.heap.size) (e1:=QH.heap.size) (B2:=Qk.heap.size) (e2:=QP.heap.size) (B3:=Qh.heap.size) (e3:=Q7.heap.size) (B4:=Rg.heap.size) (e4:=RT.heap.size) (g0:=(O 1).g)
   (hMW.cW λg V=>by
    have:Cf QJ [(QJ.heap.size,QH.heap.size)] g:=V.elim (λh=>h.1) λh=>TU g h;have:=e8 this
    exact Pp _ _ g m1 be this.1 this.2) hAw (λg V=>e8 (TU g V)) (λg V=>⟨(e8 V.1).1,(e8 V.1).2,V.2⟩)
   (b:=bb) Sw (λg V=>e8 (Xl.new g V)) (λg V=>⟨(e8 V.1).1,(e8 V.1).2,V.2⟩)
   (c:=cc') hc1 (λg V=>e8 (ZB.new g V)) (λg V=>⟨(e8 V.1).1,(e8 V.1).2,V.2⟩)
   rfl (hTx.cW λg V=>by
    rcases V with V|V
    .exact V.elim
    .exact Pp _ _ g m4 be V.1 V.2) (λg V=>V.elim (λh=>h.elim) id) s2 s3 t1 t2 t3 s4 t4 p1 p2 p3 p4 hbox
  have S4:∀g,(QJ.heap.size<=g/\g<QH.heap.size)\/(Qk.heap.size<=g/\g<QP.heap.size)\/(Qh.heap.size<=g/\g<Q7.heap.size)\/(Rg.heap.size<=g/\g<RT.heap.size)->Cf w Do g:=λg V=>by
   rcases V with h|h|h|h
   .exact .inr ⟨be,_,_,m1,h.1,h.2⟩
   .exact .inr ⟨be,_,_,m2,h.1,h.2⟩
   .exact .inr ⟨be,_,_,m3,h.1,h.2⟩
   .exact .inr ⟨be,_,_,m4,h.1,h.2⟩
  have Qt:∀g,Bv (Tx.cz ⟨(O 1).g,nls,nls,.slice aA rv.length cA,.slice aB b.length cB,.slice aC c.length cC,rv⟩) g->g=(O 1).g\/Cf w Do g:=λg V=>by
   rw[Bv.cz]at V;rcases V with h|h|h|h|h|h|h
   .exact .inl h.symm
   .cases h
   .cases h
   .exact .inr (S4 g (.inl (e8 (TU g (.inl h)))))
   .exact .inr (S4 g (.inr (.inl (e8 (Xl.new g h)))))
   .exact .inr (S4 g (.inr (.inr (.inl (e8 (ZB.new g h))))))
   .obtain⟨v,Y,I⟩:=h;exact .inr (S4 g (.inl (e8 (TU g (.inr ⟨v,Y,I⟩)))))
  rw[<-hL]at r;refine⟨(0,⟨(O 1).g,nls,nls,.slice aA rv.length cA,.slice aB b.length cB,.slice aC c.length cC,rv⟩,J,((O 1).g,(O 1).g+1)::Do),⟨aZ _,W.tr r.cg,⟨hW.cU (λg V=>⟨(S4 g V.1).mono λp hp=>aD _ hp,V.2⟩) λg N E=>E.2 N,λg V=>?_⟩,λg V=>?_⟩,Sub.aAi r (id:=1) (t:=4) rfl rfl QC trivial rfl ⟨rfl,rfl,rfl,trivial⟩ (by simp[kN,SV.sc,At.sc])⟩
  .rcases Qt g V with h|h
   .exact .inr ⟨be,_,_,aF,be,be⟩
   .exact qL (h.mono λp hp=>aD _ hp)
  .rcases Qt g V with h|h
   .omega
   .rcases h with h|h
    .exact h.elim
    .exact h.1
 clear Zr Xl ZB hTx hMW TU W s1 s2 s3 s4 t1 t2 t3 t4;rintro⟨i,x,w1,iv⟩ ⟨R,W,hT,Z⟩;dsimp only at R W hT Z ⊢;apply bS<;>intro Pk
 .have Pk:=dL Pk;have hbsl:(Tb.wi Fn bb cc' i 0).bs.length=i:=by simp[Tb.wi]
  refine⟨x.vb,λO J r=>hT.f0 hF rfl r,((c.length+i:Nat):Int),wo,?_⟩
  refine .inr (iC hτ (aZ _) (xs:=ints ((Tb.wi Fn bb cc' i 0).bs)) (news:=[iV ((c.length+i:Nat):Int)]) (m:=((Tb.wi Fn bb cc' i 0).bs).length) (k:=1) d8 d8 bv d8 d8 (λO J r=>hT.aAo r hF) rfl (by simp;rfl) mx be
   (λO J r=>?_) (λv' F=>e9 v'++iv) (λO J v' F r QG SQ=>tB r (hT.aAo r hF).2 QG SQ) (λO J v' F r h5 h6 h7=>?_))
  .exact(fT.KV (r.jt (id:=2) (sz:=1) (n:=1) rfl rfl bv (by simp;rfl)) bv).imp id λ⟨ad,c,e1,e2⟩=>⟨ad,c,e1,λj u hu=>(e2 j u hu).2⟩
  obtain⟨a2,c2,rfl,-⟩:=eZ h5;rw[xV]at h5;have hG:=hT.aAm r hF (l:=(Tb.wi Fn bb cc' i 0).bs++[c.length+i]) (by rw[aU];exact h5) h6 h7;rw[<-hccl,Tb.aAp]at hG;have RK:=(W.tr r.cg).tr (hG.kept.toBel Z r.cY);have Q5:∀g,Bv (Tx.cz {x with vb:=.slice a2 ((Tb.wi Fn bb cc' i 0).bs.length+1) c2}) g->w.heap.size<=g:=λg V=>(hG.DL g V).elim (Z g) λh=>aR r.cY h;have hP:=hG.iw;clear hG h5 h6 h7 r hT W Z;conv=>whnf
  intro I8 w3 r3;have hs:=hP.ET r3 hF (k:=0) bv (v:=.slice a2 ((Tb.wi Fn bb cc' i 0).bs.length+1) c2) (ad:=Addr.add ⟨x.g,0,none⟩ 0) (by rw[dD,aV]);refine⟨hs.spot,hs.cells,hs.own,λw4 QD=>?_⟩;obtain⟨SC,QW,-⟩:=hs.next w4 QD
  have hT:=SC.toO rfl rfl;have W:=(RK.tr r3.cg).tr (QW.toBel Q5 r3.cY);clear hs SC QW QD r3 hP RK;refine inc i ?_;intro Id w5 r5;exact⟨(i+1,{x with vb:=.slice a2 ((Tb.wi Fn bb cc' i 0).bs.length+1) c2},w5,_),⟨Pk,W.tr r5.cg,hT.rel r5 hF,Q5⟩,sbgn [] r5,dec Pk⟩
 have Pk:=dE R Pk;subst Pk;refine⟨Nat×Tx×World×Iv,λz=>⟨[(4,.o (.v (.pointer (some ⟨z.2.1.g,0,none⟩)))),(41,.o (.v (iV (c.length:Int)))),(42,.o (.v (iV (z.1:Int))))],[],2,z.2.2.2,z.2.2.1⟩,λz=>c.length-z.1,λz=>z.1<=c.length/\Bq w z.2.2.1/\dI z.2.2.1 FF w.heap.size z.2.2.2 z.2.1 (Tb.wi Fn bb cc' M.length z.1)/\∀g,Bv z.2.1.cz g->w.heap.size<=g,?_,?_⟩
 .intro O J r;exact⟨(0,x,J,_),⟨aZ _,W.tr r.cg,hT.rel r hF,Z⟩,sbgn [] r⟩
 clear hT W Z;rintro⟨i,x,w1,iv⟩ ⟨R,W,hT,Z⟩;dsimp only at R W hT Z ⊢;apply bS<;>intro Pk
 .have Pk:=dL Pk;have hbsl:(Tb.wi Fn bb cc' M.length i).fs.length=i:=by simp[Tb.wi]
  refine⟨x.vf,λO J r=>hT.f1 hF rfl r,?_⟩
  refine .inr (iC hτ (aZ _) (xs:=ints ((Tb.wi Fn bb cc' M.length i).fs)) (news:=[iV ((i:Nat):Int)]) (m:=((Tb.wi Fn bb cc' M.length i).fs).length) (k:=1) d8 d8 bv d8 d8 (λO J r=>hT.OA r hF) rfl (by simp;rfl) mx be
   (λO J r=>?_) (λv' F=>e9 v'++iv) (λO J v' F r QG SQ=>tB r (hT.OA r hF).2 QG SQ) (λO J v' F r h5 h6 h7=>?_))
  .exact(fT.KV (r.jt (id:=2) (sz:=1) (n:=1) rfl rfl bv (by simp;rfl)) bv).imp id λ⟨ad,c,e1,e2⟩=>⟨ad,c,e1,λj u hu=>(e2 j u hu).2⟩
  obtain⟨a2,c2,rfl,-⟩:=eZ h5;rw[xV]at h5;have hG:=hT.Ot r hF (l:=(Tb.wi Fn bb cc' M.length i).fs++[i]) (by rw[aU];exact h5) h6 h7;rw[Tb.aAq]at hG;have RK:=(W.tr r.cg).tr (hG.kept.toBel Z r.cY);have Q5:∀g,Bv (Tx.cz {x with vf:=.slice a2 ((Tb.wi Fn bb cc' M.length i).fs.length+1) c2}) g->w.heap.size<=g:=λg V=>(hG.DL g V).elim (Z g) λh=>aR r.cY h;have hP:=hG.iw;clear hG h5 h6 h7 r hT W Z;conv=>whnf
  intro I8 w3 r3;have hs:=hP.ET r3 hF (k:=1) bv (v:=.slice a2 ((Tb.wi Fn bb cc' M.length i).fs.length+1) c2) (ad:=Addr.add ⟨x.g,0,none⟩ 1) (by rw[dD,aV]);refine⟨hs.spot,hs.cells,hs.own,λw4 QD=>?_⟩;obtain⟨SC,QW,-⟩:=hs.next w4 QD
  have hT:=SC.toO rfl rfl;have W:=(RK.tr r3.cg).tr (QW.toBel Q5 r3.cY);clear hs SC QW QD r3 hP RK;refine inc i ?_;intro Id w5 r5;exact⟨(i+1,{x with vf:=.slice a2 ((Tb.wi Fn bb cc' M.length i).fs.length+1) c2},w5,_),⟨Pk,W.tr r5.cg,hT.rel r5 hF,Q5⟩,sbgn [] r5,dec Pk⟩
 have Pk:=dE R Pk;subst Pk;intro GE we re;refine⟨_,rfl,W.tr re.cg,x,rfl,⟨?_,λg V=>?_⟩,Z⟩
 .have e:Tb.wi Fn bb cc' M.length c.length=Tb.begin Fn bb cc':=by unfold Tb.wi Tb.begin;rw[UU,hccl]
  rw[e,hA,QB,hcc']at hT;refine(hT.rel re hF).iw.cU (λg V=>⟨.inr ?_,V.2⟩) λg N E=>E.2 N;have:=rlo re hF g V.1;rcases V.1 with h|h
  .exact h.elim
  .exact⟨h.1,_,_,aF,h.1,this⟩
 .exact .inr ⟨Z g V,_,_,aF,Z g V,hT.low re V⟩
end Go.Ex
namespace Go.Ex
def Tb.lz(t:Tb)(n:Nat)(c:List Rat)(i:Nat):List Rat:=t.fs.mapIdx λj v=>if j<i/\v<n then c.getD v 0 else 0
section
variable{t:Tb}{n i:Nat}{c:List Rat}
def Dz:(t.lz n c i).length=t.fs.length:=List.length_mapIdx
def Hc:t.lz n c 0=dm t.fs.length:=by
 apply av;intro k;unfold Tb.lz dm;rw[List.getElem?_mapIdx,List.getElem?_replicate];by_cases h:k<t.fs.length
 .rw[aE h,aM h,bN,aJ (λh=>Nat.not_lt_zero _ h.1)]
 .rw[List.getElem?_eq_none be,aJ h];rfl
def KK:t.lz n c t.fs.length=t.iq n c 0:=by
 apply av;intro k;unfold Tb.lz Tb.iq;rw[List.getElem?_mapIdx,aS];by_cases h:k<t.fs.length
 .rw[aE h,bN,bN];by_cases I:t.fs[k]<n
  .rw[aM ⟨h,I⟩,aM I]
  .rw[aJ λh=>I h.2,aJ I]
 .rw[List.getElem?_eq_none be];rfl
def MI(h:i<t.fs.length)(hv:t.fs.getD i 0<n):t.lz n c (i+1)=(t.lz n c i).set i (c.getD (t.fs.getD i 0) 0):=by
 apply av;intro k;rw[List.getElem?_set];unfold Tb.lz;rw[List.getElem?_mapIdx,List.getElem?_mapIdx];by_cases e:i=k
 .subst e;rw[aM rfl,List.length_mapIdx,aM h,aE h,bN];have:t.fs.getD i 0=t.fs[i]:=by rw[List.getD,aE h];rfl
  rw[this]at hv ⊢;rw[aM ⟨cF i,hv⟩]
 .rw[aJ e];congr 1
  funext v
  by_cases Y:k<i/\v<n
  .rw[aM Y,aM ⟨be,Y.2⟩]
  .rw[aJ Y,aJ λI=>Y ⟨be,I.2⟩]
def KL(h:i<t.fs.length)(hv:¬t.fs.getD i 0<n):t.lz n c (i+1)=t.lz n c i:=by
 apply av;intro k;unfold Tb.lz;rw[List.getElem?_mapIdx,List.getElem?_mapIdx];by_cases e:i=k
 .subst e;rw[aE h,bN,bN];have:t.fs.getD i 0=t.fs[i]:=by rw[List.getD,aE h];rfl
  rw[this]at hv;rw[aJ λh=>hv h.2,aJ λh=>hv h.2]
 .congr 1
  funext v
  by_cases Y:k<i/\v<n
  .rw[aM Y,aM ⟨be,Y.2⟩]
  .rw[aJ Y,aJ λI=>Y ⟨be,I.2⟩]
def MJ{x y:List Rat}{k q:Rat}(h:q∈qd x k y):∃p,p∈x/\∃j,q=p+k*y.getD j 0:=by
 obtain⟨j,hj⟩:=aj h;unfold qd at hj;rw[List.getElem?_mapIdx]at hj
 cases e:x[j]? with
 |none=>rw[e]at hj;cases hj
 |some p=>
  rw[e]at hj;injection hj with hj;exact⟨p,aG e,j,hj.symm⟩
def AX{h:Nat}(H:Ht t.a h)(hc:∀q∈c,rl q+1<=h)(I:2<=h):∀i,∀q∈t.iq n c i,rl q<=2*h*(i+1)
 |0,q,hq=>by
  unfold Tb.iq at hq;obtain⟨v,-,rfl⟩:=bA.1 hq;split
  .have:=rS (i:=v) hc I;omega
  .rw[show rl 0=1 by decide];omega
 |i+1,q,hq=>by
  rw[Tb.iq]at hq;have h3:2*h*(i+1+1)=2*h*(i+1)+2*h:=by rw[bW,ah]
  split at hq
  .obtain⟨p,hp,j,rfl⟩:=MJ hq;have h4:=AX H hc I i p hp;have h5:=AF p (-(c.getD (t.bs.getD i 0) 0)*(t.a.getD i []).getD j 0);have h6:=j7 (-(c.getD (t.bs.getD i 0) 0)) ((t.a.getD i []).getD j 0);rw[kT]at h6;have h7:=rS (i:=t.bs.getD i 0) hc I;have h8:rl ((t.a.getD i []).getD j 0)+1<=h:=by
    refine rS (λq hq=>?_) I;by_cases hr:i<t.a.length
    .exact H _ (vJ hr) q hq
    .rw[List.getD,List.getElem?_eq_none be]at hq;cases hq
   omega
  .have h4:=AX H hc I i q hq;omega
def Fu{h:Nat}(N:∀q∈t.b,rl q+1<=h)(hc:∀q∈c,rl q+1<=h)(I:2<=h):∀i,rl (t.kC n c i)<=2*h*(i+1)
 |0=>by rw[Tb.kC,show rl 0=1 by decide];omega
 |i+1=>by
  have h3:2*h*(i+1+1)=2*h*(i+1)+2*h:=by rw[bW,ah]
  have h4:=Fu N hc I i;rw[Tb.kC];split
  .have h5:=AF (t.kC n c i) (c.getD (t.bs.getD i 0) 0*t.b.getD i 0);have h6:=j7 (c.getD (t.bs.getD i 0) 0) (t.b.getD i 0);have h7:=rS (i:=t.bs.getD i 0) hc I;have h8:=rS (i:=i) N I;omega
  .omega
end
end Go.Ex
namespace Go.Ex
open Go Go.Sx Go.Proofs
variable{ops:Array Oper}{ps:List Nat}{c q xs:List Rat}{p:Nat->Bool}{S:Nat->Prop}{v:Value}{w:World}
def BL{P:Program}{τ:nO}{B:Nat}{l:Env}{H:Hp}{nx:Nat}{iv:Iv}{FS:KT}(E8:KT)(Y:∀K0:KT,(∀l H nx iv w,E8 l H nx iv w->K0 l H nx iv w)->xj P τ B ops.toList ops.toList l H nx iv w K0)(I:∀l H nx iv w,E8 l H nx iv w->FS l H nx iv w):
  xj P τ B ops.toList ops.toList l H nx iv w FS:=Y FS I
section
variable{S:Nat->Prop}{H:Hp}{nx:Nat}{iv:Iv}{B:Nat}{w J F:World}{O:Nat->Sx.eD}{x:Tx}{t:Tb}{v:Value}
def dI.aBR(hT:dI w S B iv x t)(r:Rel H nx iv B w O J)(G:∀g,S g->g<B)(L:Ext J F)(hX:eh F FF J.heap.size [(J.heap.size,F.heap.size)] v q.length q):
  tU F S B ((J.heap.size,F.heap.size)::iv) x.hd x.rv {x with vc:=v} {t with c:=q}/\(∀g,Lv S B iv x g->F.heap[g]? =w.heap[g]? /\Lv S B ((J.heap.size,F.heap.size)::iv) {x with vc:=v} g)/\∀g,Bv (Tx.cz {x with vc:=v}) g->Bv x.cz g\/J.heap.size<=g:=by
 have hold:=Lv.old (x:=x) r G;have R7:∀g,v.ownBlock=some g->J.heap.size<=g/\g<F.heap.size:=λg V=>e8 (hX.new g V);have Z:∀g,Bv (Tx.cz {x with vc:=v}) g->v.ownBlock=some g\/Bv x.cz g:=λg h=>by
  rw[Bv.cz]at h ⊢;simp only at h;rcases h with h|h|h|h|h|h|h<;>simp[h]
 have hL:∀g,Lv S B iv x g->Lv S B ((J.heap.size,F.heap.size)::iv) {x with vc:=v} g:=λg V=>⟨V.1.mono λ_ hp=>aD _ hp,λN=>by
  rcases Z g N with h|h
  .have:=R7 g h;have:=hold g V;omega
  .exact V.2 h⟩
 have hR:gX F (Lv S B ((J.heap.size,F.heap.size)::iv) {x with vc:=v}) v q.length q:=hX.row.cU λg V=>by
  have Y:=e8 V.1;refine⟨.inr ⟨by have:=r.cY;omega,_,_,aF,Y.1,Y.2⟩,λN=>?_⟩;rcases Z g N with h|h
  .exact V.2 h
  .have:=hT.low r h;omega
 refine⟨⟨(hT.rel r G).iw.toJ.aAk (λg V _=>L.block g V) hR (λg V=>.inr (R7 g V).1) hold hL λg N hl=>hl.2 N,λg V=>?_⟩,λg V=>⟨(L.block g (hold g V)).trans (Lv.same r G g V),hL g V⟩,λg V=>(Z g V).elim (λh=>.inr (R7 g h).1) .inl⟩;rcases Z g V with h|h
 .have:=R7 g h;exact .inr ⟨by have:=r.cY;omega,_,_,aF,this.1,this.2⟩
 .exact(hT.lH g h).mono λ_ hp=>aD _ hp
def dI.Pj{w0:World}{x0:Tx}{t0:Tb}(h:dI w S w0.heap.size iv x t)(h0:fL w0 S x0 t0)(Z:∀g,Bv x.cz g->Bv x0.cz g\/w0.heap.size<=g)(r:Rel H nx iv w0.heap.size w O J)(G:Old S w0):fL J (λg=>Nw S w0 J g/\¬Bv x.cz g) x t:=
 (h.rel r G).iw.cU (λ_ V=>⟨V.nw r,V.2⟩) λg N E=>E.2 N
end
def KW{x:Tx}{t:Tb}{m q n h:Nat}{vc0:Value}(TT:Old S w)(Qq:fL w S x t)(hW:t.Wf m q)(hC:dx w S S vc0 c)(E:c.length=n)(hm:m<=1000)(hq:q<=1000)(Si:n<=1000)(hH:t.xD h)(hc:∀q∈c,rl q+1<=h)(I:2<=h)(hh:h<=100000):
  eH PG Fd.mG #[.pointer (some ⟨x.g,0,none⟩),iV n,vc0] w (λe F=>e= .returned (.tuple #[])/\∃x',x'.g=x.g/\Kept w F (Bv x.cz)/\fL F (λg=>Nw S w F g/\¬Bv x'.cz g) x' (t.rest n c)/\∀g,Bv x'.cz g->Bv x.cz g\/w.heap.size<=g):=by
 have G:=TT;have K:Kept w w (Bv x.cz):=Kept.refl;have UK:=hW.al;have Pu:=hW.b;have Qj:=hW.fs;have UA:=hW.bs;obtain⟨ab,cb,Vn,Qz,-,TR⟩:=Qq.hdb hW;obtain⟨af,cf,WI,hcf,-,haf⟩:=Qq.hdf hW;obtain⟨aa,ca,TZ,Qc,-,Zo⟩:=Qq.hda hW;obtain⟨aB,cB,VJ,hcB,-,Zp⟩:=Qq.hdB hW;have hR:∀i,i<m->∃a c,x.rv[i]? =some (.slice a q c)/\q<=c/\c<=maxLen/\(0<q->∃g,a=some ⟨g,0,none⟩):=λi R=>Qq.hdr hW R;have hT:=dI.arg Qq;obtain⟨acc,ccc,rfl,hccc,-⟩:=hC.shape;rw[E]at hccc hC;rw[E];refine qC ce ?_;refine BL (λl H nx iv w1=>∃a1 a2 a3 a4:SV,l=(13,a1)::(12,a2)::(11,a3)::(10,a4)::ff 0 #[.pointer (some ⟨x.g,0,none⟩),iV (n:Int),.slice acc n ccc].toList/\H=[]/\nx=0/\Kept w w1 (Bv x.cz)/\dI w1 S w.heap.size iv x ⟨t.bs,t.fs,t.a,t.b,t.c,0⟩) ?_ ?_
 .intro K0 R8;refine cS (cR (GT:=λ_ J v F=>cw F (Nf J F) v ((0:Int):Rat)) (λO J r=>iI 0 J bv bv) ?_);rintro O QJ v1 QH r L N E;have hO:=E.uc hT r;replace hT:=hT.cV (A:=(QJ.heap.size,QH.heap.size)::[]) r G L λx Z=>aD _ Z;replace K:=Kept.cg N K lr;clear r L N E;generalize (QJ.heap.size,QH.heap.size)::[]=Pt at*
  obtain⟨o1,o2,o3,o4,o5,o6,o7,o8,rfl⟩:=hO.shape;rw[show ((0:Int):Rat)=0 by decide]at hO;intro O J r;obtain⟨k1,k2,k3,k4⟩:=hT.stT G r (ad:=Addr.add ⟨x.g,0,none⟩ 5) hO.four (by rw[dD,aV]);refine⟨k1,k2,k3,λw4 QD=>?_⟩;obtain⟨SZ,QW,Ra⟩:=k4 w4 QD;replace hO:=hO.cW Ra;replace K:=(Kept.cg r.cg K lr).trans QW;clear k1 k2 k3 k4 Ra QW QD r;clear hT;have hT:=SZ;clear SZ;exact R8 _ _ _ _ _ ⟨_,_,_,_,rfl,rfl,rfl,K,hT⟩
 clear hT K;rintro l H nx iv w1 ⟨a1,a2,a3,a4,rfl,rfl,rfl,K,hT⟩;refine BL (λl H nx iv w1=>∃(b0 b1 b2 b3 b4 b5 b6 b7 b8:SV) (ac:Option Addr) (cc:Nat) (y:Tx),l=(22,b0)::(21,b1)::(20,b2)::(19,b3)::(18,b4)::(17,b5)::(16,b6)::(15,b7)::(14,b8)::(13,a1)::(12,a2)::(11,a3)::(10,a4)::ff 0 #[.pointer (some ⟨y.g,0,none⟩),iV (n:Int),.slice acc n ccc].toList/\H=[]/\nx=0/\y={x with vc:=.slice ac q cc}/\Kept w w1 (Bv x.cz)/\dI w1 S w.heap.size iv y ⟨t.bs,t.fs,t.a,t.b,List.replicate q 0,0⟩/\∀g,Bv y.cz g->Bv x.cz g\/w.heap.size<=g) ?_ ?_
 .intro K0 R8;refine⟨_,λO J r=>hT.f1 G WI r,?_⟩;refine cS (cR (GT:=λ_ J v F=>eh F FF J.heap.size [(J.heap.size,F.heap.size)] v q (List.replicate q 0)) (λO J r=>j4 q J be) ?_);rintro O wa v1 wb r L N hX;obtain⟨hP,-,Pw⟩:=hT.aBR (q:=List.replicate q 0) r G L (by rw[aq];exact hX);replace K:=Kept.cg N K lr;obtain⟨ac,cc,rfl,VF⟩:=hX.row.form;have S9:∀g,Bv (Tx.cz {x with vc:=.slice ac q cc}) g->Bv x.cz g\/w.heap.size<=g:=λg V=>(Pw g V).imp id λh=>aR r.cY h;clear r L N hX Pw hT;generalize (wa.heap.size,wb.heap.size)::iv=iv2 at*
  conv=>whnf
  intro I8 w3 r3;have hs:=hP.ET r3 G (k:=4) bv (v:=.slice ac q cc) (ad:=Addr.add ⟨x.g,0,none⟩ 4) (by rw[dD,aV]);refine⟨hs.spot,hs.cells,hs.own,λw4 QD=>?_⟩;obtain⟨SC,QW,-⟩:=hs.next w4 QD
  have hT:=SC.toO rfl rfl;replace K:=Kept.gY (Kept.cg r3.cg K lr) QW λg V N=>(S9 g N).elim id λh=>by omega
  clear hs SC QW QD r3 hP;exact R8 _ _ _ _ _ ⟨_,_,_,_,_,_,_,_,_,ac,cc,{x with vc:=.slice ac q cc},rfl,rfl,rfl,rfl,K,hT,S9⟩
 clear hT K;rintro l H nx iv w1 ⟨b0,b1,b2,b3,b4,b5,b6,b7,b8,ac,cc,y,rfl,rfl,rfl,hy,K,hT,S9⟩;have R0:y.g=x.g:=by rw[hy]
 have XS:y.vb= .slice ab m cb:=by rw[hy];exact Vn
 have hyf:y.vf= .slice af q cf:=by rw[hy];exact WI
 have RW:y.va= .slice aa m ca:=by rw[hy];exact TZ
 have hyB:y.vB= .slice aB m cB:=by rw[hy];exact VJ
 have Vo:y.vc= .slice ac q cc:=by rw[hy]
 have XF:y.rv=x.rv:=by rw[hy]
 rw[<-XF]at hR;have hac:0<q->∃g,ac=some ⟨g,0,none⟩:=λh0=>by
  have hWy:(Tb.mk t.bs t.fs t.a t.b (List.replicate q 0) 0).Wf m q:=⟨UA,Qj,UK,hW.aw,Pu,aq⟩
  obtain⟨a',c',e,-,-,h5⟩:=(hT.iw.hdc hWy)
  rw[Vo]at e;injection e with e;rw[e];exact h5 h0
 clear hy Vn WI TZ VJ;have hLS:∀{iv:Iv} g,S g->Lv S w.heap.size iv y g:=λg V=>⟨.inl V,λN=>(S9 g N).elim (λh=>Qq.off h V) λh=>by have:=G g V;omega⟩
 refine⟨_,λO J r=>hT.f1 G hyf r,Nat×World×Iv,λz=>⟨[(0,.o (.v (.pointer (some ⟨y.g,0,none⟩)))),(1,.o (.v (iV (n:Int)))),(2,sV acc n ccc),(26,sV af q cf),(27,.o (.v (iV (q:Int)))),(28,.o (.v (iV (z.1:Int))))],[],0,z.2.2,z.2.1⟩,λz=>q-z.1,λz=>z.1<=q/\Kept w z.2.1 (Bv x.cz)/\dI z.2.1 S w.heap.size z.2.2 y ⟨t.bs,t.fs,t.a,t.b,t.lz n c z.1,0⟩,?_,?_⟩
 .intro O J r;exact⟨(0,J,_),⟨aZ _,Kept.cg r.cg K lr,(hT.cast (by rw[Hc,Qj];rfl)).rel r G⟩,sbgn [] r⟩
 clear hT K;rintro⟨i,w1,iv⟩ ⟨R,K,hT⟩;dsimp only at R K hT ⊢;apply bS<;>intro Pk
 .have Pk:=dL Pk;obtain⟨gf,rfl⟩:=haf be;obtain⟨gc,rfl⟩:=hac be;refine⟨_,rfl,be,_,λO J r=>hT.cFs G (i:=i) (by dsimp only;omega) hyf r,?_⟩;obtain⟨u,hu⟩:=exq (t.fs.getD i 0);rw[hu];apply bS<;>intro hc
  .have SN:u<n:=by simpa using hc
   have hSx:∀g,S g->w1.heap[g]? =w.heap[g]? :=λg V=>K.block g (G g V) λN=>Qq.off N V;obtain⟨ad,fcs,rfl,Xm,Qm⟩:=hC.load (j:=u) (show c[u]? =some (c.getD u 0) by rw[List.getD,aE be];rfl);obtain⟨p1,p2,p3,p4,p5,p6,p7,p8,rfl,hF0⟩:=Xm;have hG:cw w1 (Lv S w.heap.size iv y) _ _:=(hF0.cW hSx).cU λg V=>hLS g V;refine dP (idO 11) ?_;refine⟨_,λO J r=>hT.f4 G Vo r,_,rfl,be,rC p1 p2 p3 p4 p5 p6 p7 p8,rfl,λO J r j u hu=>?_,?_⟩
   .rw[aI,cZ (w:=w) (F:=J) ((Kept.cg r.cg K lr).block _ (G _ (by rw[da,da];exact(Qm j u hu).1)) λN=>Qq.off N (by rw[da,da];exact(Qm j u hu).1))];exact(Qm j u hu).2
   refine⟨_,rfl,be,?_⟩;intro O J r;obtain⟨k1,k2,k3,k4⟩:=hT.stC G r (ad:=Addr.add ⟨gc,0,none⟩ (((i:Nat):Int).toNat*4)) (j:=i) (by dsimp only;rw[Dz];omega) Vo hG.four (by rw[aI,dD,aV]);refine⟨k1,k2,k3,λw4 QD=>?_⟩;obtain⟨SZ,QW,Ra⟩:=k4 w4 QD;replace K:=Kept.gY (Kept.cg r.cg K lr) QW λg V N=>(S9 g N).elim id λh=>by omega
   clear k1 k2 k3 k4 Ra QW QD r;clear hT;have hT:=SZ;clear SZ;have e:t.lz n c (i+1)=(t.lz n c i).set i (c.getD u 0):=by rw[MI be (by rw[hu];exact SN),hu]
   refine inc i ?_;intro I8 w3 r3;exact⟨(i+1,w3,_),⟨Pk,Kept.cg r3.cg K lr,(hT.cast (by rw[e])).rel r3 G⟩,sbgn [] r3,dec Pk⟩
  have SN:¬u<n:=by simpa using hc
  have e:t.lz n c (i+1)=t.lz n c i:=KL be (by rw[hu];exact SN);refine inc i ?_;intro I8 w3 r3;exact⟨(i+1,w3,_),⟨Pk,Kept.cg r3.cg K lr,(hT.cast (by rw[e])).rel r3 G⟩,sbgn [] r3,dec Pk⟩
 have Pk:=dE R Pk;replace hT:=hT.cast (t':=⟨t.bs,t.fs,t.a,t.b,t.iq n c 0,t.kC n c 0⟩) (by rw[Pk,<-Qj,KK];rfl);refine⟨_,λO J r=>hT.f0 G XS r,Nat×World×Iv,λz=>⟨[(0,.o (.v (.pointer (some ⟨y.g,0,none⟩)))),(1,.o (.v (iV (n:Int)))),(2,sV acc n ccc),(50,sV ab m cb),(51,.o (.v (iV (m:Int)))),(52,.o (.v (iV (z.1:Int))))],[],0,z.2.2,z.2.1⟩,λz=>m-z.1,λz=>z.1<=m/\Kept w z.2.1 (Bv x.cz)/\dI z.2.1 S w.heap.size z.2.2 y ⟨t.bs,t.fs,t.a,t.b,t.iq n c z.1,t.kC n c z.1⟩,?_,?_⟩
 .intro O J r;exact⟨(0,J,_),⟨aZ _,Kept.cg r.cg K lr,hT.rel r G⟩,sbgn [] r⟩
 clear hT K;rintro⟨i,w1,iv⟩ ⟨R,K,hT⟩;dsimp only at R K hT ⊢;apply bS<;>intro Pk
 .have Pk:=dL Pk;obtain⟨gb,rfl⟩:=TR be;obtain⟨ga,rfl⟩:=Zo be;obtain⟨gB,rfl⟩:=Zp be;obtain⟨ai,ci,TD,-,-,-⟩:=hR i Pk;refine⟨_,rfl,be,_,λO J r=>hT.Pe G (i:=i) (by dsimp only;omega) XS r,?_⟩;obtain⟨u,hu⟩:=exq (t.bs.getD i 0);rw[hu];apply bS<;>intro VF
  .have SN:u<n:=by simpa using VF
   have hSx:∀g,S g->w1.heap[g]? =w.heap[g]? :=λg V=>K.block g (G g V) λN=>Qq.off N V;have r1:=AX (t:=t) (n:=n) hH.a hc I i;have r2:=Fu (t:=t) (n:=n) hH.b hc I i;have r3:=rS (i:=u) hc I;have r4:=rS (i:=i) hH.b I;have r5:2*h*(i+1)<=200000*1000:=Nat.mul_le_mul be be;have r6:=j7 (c.getD u 0) (t.b.getD i 0);have Pm:∀y∈t.a.getD i [],rl y+1<=h:=hH.No i;obtain⟨ad,fcs,rfl,Xm,Qm⟩:=hC.load (j:=u) (show c[u]? =some (c.getD u 0) by rw[List.getD,aE be];rfl);obtain⟨p1,p2,p3,p4,p5,p6,p7,p8,rfl,hF0⟩:=Xm;have hG:cw w1 (Lv S w.heap.size iv y) _ _:=(hF0.cW hSx).cU λg V=>hLS g V;refine dP [.x 0,.x 1,.x 2,.x 3,.x 4,.x 5,.x 6,.x 7,.x 9,.x 10,.x 11,.x 12,.x 13,.x 14,.x 15,.x 8,.x 16] ?_;refine⟨_,λO J r=>hT.f4 G Vo r,_,rfl,be,rC p1 p2 p3 p4 p5 p6 p7 p8,rfl,λO J r j u hu=>?_,?_⟩
   .rw[aI,cZ (w:=w) (F:=J) ((Kept.cg r.cg K lr).block _ (G _ (by rw[da,da];exact(Qm j u hu).1)) λN=>Qq.off N (by rw[da,da];exact(Qm j u hu).1))];exact(Qm j u hu).2
   refine⟨_,λO J r=>hT.f2 G RW r,_,rfl,be,_,λO J r=>hT.cA G TD RW r,?_⟩;refine cR (GT:=λ_ J v F=>cw F (Nw (Lv S w.heap.size iv y) J F) v (-(c.getD u 0))) (λO J r=>lV (Lv.old r G) (hG.gh r G)) ?_;rintro O QJ v1 QH r L N E;have hK:=E.Pb hT r;replace hG:=hG.ji (A:=(QJ.heap.size,QH.heap.size)::iv) r G L λx Z=>aD _ Z;replace hT:=hT.cV (A:=(QJ.heap.size,QH.heap.size)::iv) r G L λx Z=>aD _ Z;replace K:=Kept.cg N K lr;clear r L N E;generalize (QJ.heap.size,QH.heap.size)::iv=Pt at*
   obtain⟨k1,k2,k3,k4,k5,k6,k7,k8,rfl⟩:=hK.shape;refine⟨λO J r=>?_⟩;refine(hT.M0 r G (k:=i) Vo (by first|omega|(dsimp only;omega)) TD (by dsimp only;rw[kV,hW.row Pk,Qj]) hK (by dsimp only;intro y hy;have:=r1 y hy;omega) (by dsimp only;intro y hy;have:=Pm y hy;omega) (by rw[kT];omega)).mono λe w8 L=>?_;obtain⟨rfl,Qu,Ql⟩:=L;refine⟨.tuple #[],_,(J.heap.size,w8.heap.size)::Pt,rfl,r.fz (hT.not r) Qu,?_⟩;clear hK;replace hG:=hG.JI r G Qu;replace Ql:=hT.ef r Ql;replace K:=Kept.gY (Kept.cg r.cg K lr) Qu λg V N=>(S9 g N).elim id λh=>by omega
   clear hT Qu;have hT:=Ql;clear Ql r;generalize (J.heap.size,w8.heap.size)::Pt=iv2 at*
   refine dP (idO 21) ?_;obtain⟨t1,t2,t3,t4,t5,t6,t7,t8,ZA,hY⟩:=hT.ldT G;obtain⟨b1,b2,b3,b4,b5,b6,b7,b8,hEb,hB⟩:=hT.eB G (j:=i) (by first|omega|(dsimp only;omega)) hyB;refine⟨rC t1 t2 t3 t4 t5 t6 t7 t8,rfl,λO J r j x Z=>ZA r j x Z,_,rfl,be,rC p1 p2 p3 p4 p5 p6 p7 p8,rfl,λO J r j u hu=>?_,?_⟩
   .rw[aI,cZ (w:=w) (F:=J) ((Kept.cg r.cg K lr).block _ (G _ (by rw[da,da];exact(Qm j u hu).1)) λN=>Qq.off N (by rw[da,da];exact(Qm j u hu).1))];exact(Qm j u hu).2
   refine⟨_,λO J r=>hT.f3 G hyB r,_,rfl,be,rC b1 b2 b3 b4 b5 b6 b7 b8,rfl,λO J r j x Z=>hEb r j x Z,?_⟩;refine cR (GT:=λ_ J v F=>cw F (Nf J F) v (c.getD u 0*t.b.getD i 0)) (λO J r=>nH (Lv.old r G) (hG.gh r G) (hB.gh r G) be (by first|omega|(dsimp only;omega))) ?_;rintro O Qh v3 Q7 r L N E;have hM:=E.uc hT r;clear hG;clear hB;replace hY:=hY.ji (A:=(Qh.heap.size,Q7.heap.size)::iv2) r G L λx Z=>aD _ Z;replace hT:=hT.cV (A:=(Qh.heap.size,Q7.heap.size)::iv2) r G L λx Z=>aD _ Z;replace K:=Kept.cg N K lr;clear r L N E;generalize (Qh.heap.size,Q7.heap.size)::iv2=Ps at*
   obtain⟨m1,m2,m3,m4,m5,m6,m7,m8,rfl⟩:=hM.shape;refine cR (GT:=λ_ J v F=>cw F (Nf J F) v (t.kC n c i+c.getD u 0*t.b.getD i 0)) (λO J r=>wN (Lv.old r G) (hY.gh r G) (hM.gh r G) (by first|omega|(dsimp only;omega)) be) ?_;rintro O Rg v4 RT r L N E;have hN:=E.uc hT r;clear hY;clear hM;replace hT:=hT.cV (A:=(Rg.heap.size,RT.heap.size)::Ps) r G L λx Z=>aD _ Z;replace K:=Kept.cg N K lr;clear r L N E;generalize (Rg.heap.size,RT.heap.size)::Ps=QA at*
   obtain⟨n1,n2,n3,n4,n5,n6,n7,n8,rfl⟩:=hN.shape;intro O J r;obtain⟨k1,k2,k3,k4⟩:=hT.stT G r (ad:=Addr.add ⟨y.g,0,none⟩ 5) hN.four (by rw[dD,aV]);refine⟨k1,k2,k3,λw4 QD=>?_⟩;obtain⟨SZ,QW,Ra⟩:=k4 w4 QD;replace hN:=hN.cW Ra;replace K:=Kept.gY (Kept.cg r.cg K lr) QW λg V N=>(S9 g N).elim id λh=>by omega
   clear k1 k2 k3 k4 Ra QW QD r;clear hT;have hT:=SZ;clear SZ;have e1:t.iq n c (i+1)=qd (t.iq n c i) (-(c.getD u 0)) (t.a.getD i []):=by rw[Tb.iq,hu,aM SN]
   have e2:t.kC n c (i+1)=t.kC n c i+c.getD u 0*t.b.getD i 0:=by rw[Tb.kC,hu,aM SN]
   refine inc i ?_;intro I8 w3 r3;exact⟨(i+1,w3,_),⟨Pk,Kept.cg r3.cg K lr,(hT.cast (by rw[e1,e2])).rel r3 G⟩,sbgn [] r3,dec Pk⟩
  have SN:¬u<n:=by simpa using VF
  have e1:t.iq n c (i+1)=t.iq n c i:=by rw[Tb.iq,hu,aJ SN]
  have e2:t.kC n c (i+1)=t.kC n c i:=by rw[Tb.kC,hu,aJ SN]
  refine inc i ?_;intro I8 w3 r3;exact⟨(i+1,w3,_),⟨Pk,Kept.cg r3.cg K lr,(hT.cast (by rw[e1,e2])).rel r3 G⟩,sbgn [] r3,dec Pk⟩
 have Pk:=dE R Pk;intro O J r;refine⟨rfl,y,R0,Kept.cg r.cg K lr,?_,S9⟩;have e:t.rest n c=⟨t.bs,t.fs,t.a,t.b,t.iq n c i,t.kC n c i⟩:=by unfold Tb.rest;rw[UA,Pk]
 rw[e];exact hT.Pj Qq S9 r G
def lj(p:Nat->Bool)(n:Nat):Option Nat:=(List.range n).find? p
def xW{n i:Nat}(R:i<n)(h:p i=true)(E:∀j,j<i->p j=false):lj p n=some i:=by
 unfold lj;rw[List.find?_range_eq_some];exact⟨h,List.mem_range.2 R,λj hj=>by rw[E j hj];rfl⟩
def xX{n:Nat}(E:∀j,j<n->p j=false):lj p n=none:=by
 unfold lj;rw[List.find?_eq_none];intro j hj h;rw[E j (List.mem_range.1 hj)]at h
 cases h
def BM{x:Nat}(G:Old S w)(h:dw w S v ps)(hl:ps.length<=1000000):
  eH PG Fd.gT #[v,iV x] w (eV w λv' _=>v'=iV (qo (lj (λi=>decide (ps.getD i 0=x)) ps.length))):=by
 obtain⟨h0,Y,I,a,c,rfl,hc,Px⟩:=h;refine iR ce ?_
 refine⟨Nat×World,λz=>⟨[(0,sV a ps.length c),(1,iZ x),(7,iZ ps.length),(8,iZ z.1)],[],0,[],z.2⟩,λz=>ps.length-z.1,
  λz=>z.1<=ps.length/\Bq w z.2/\∀j,j<z.1->decide (ps.getD j 0=x)=false,?_,?_⟩
 .intro O J r;exact⟨(0,J),⟨ce,r.cg,ce⟩,sbgn [] r⟩
 rintro⟨i,w1⟩ ⟨R,W,Po⟩;dsimp only at R W Po ⊢;apply bS<;>intro h
 .have h:=dL h;obtain⟨y,hy⟩:=gO ps i;have hgy:ps.getD i 0=y:=by rw[List.getD,hy];rfl
  obtain⟨ad,rfl,k1,k2⟩:=Px i (iV (y:Int)) (by rw[aS,hy];rfl);refine⟨ad,rfl,be,iV (y:Int),λO J r=>by simpa using gF G W r k1 k2,?_⟩;apply bS<;>intro L
  .have L:x=y:=by have:=eq_of_beq L;omega
   exact rtn W λGE we re=>by rw[xW h (by rw[hgy,L];exact bY rfl) Po];rfl
  .have L:x≠y:=λe=>by rw[e]at L;simp at L
   refine inc i ?_;intro I8 w3 r3;refine⟨(i+1,w3),⟨h,W.tr r3.cg,λj hj=>?_⟩,sbgn [] r3,by dsimp only;omega⟩;by_cases Qd:j=i
   .subst Qd;rw[hgy];exact bD (Ne.symm L)
   .exact Po j (by dsimp only at hj;omega)
 .have h:i=ps.length:=by
   have:¬i<ps.length:=by simpa using h
   omega
  exact rtn W λGE we re=>by rw[xX (by rw[<-h];exact Po)];rfl
def aAr{f:Rat}(G:Old S w)(hf:cw w S v f):
  eH PG Fd.fY #[v] w (eV w λv' _=>v'= .bool (decide (f≠0))):=by
 have W:=bR w;obtain⟨b1,a1,n1,c1,b2,a2,n2,c2,rfl⟩:=hf.shape;refine oM ce ?_;refine cS (cE W (pE (iV (rs f))) (λO J r=>ij (oS G r) (hf.cW (kS W r G))) ?_);rintro O _ _ _ Pt r L W h_ rfl;clear r;exact rtn W λGE we re=>by rw[show decide (f≠0)=(rs f != 0)from Bool.eq_iff_iff.2 (by rw[decide_eq_true_eq,bne_iff_ne,ne_eq,ne_eq,kZ])];rfl
def KX(G:Old S w)(Z:dx w S S v xs):
  eH PG Fd.eU #[v,.func (.func Fd.fY) #[] #[]] w (eV w λv' _=>v'=iV (qo (lj (λi=>decide (xs.getD i 0≠0)) xs.length))):=by
 have W:=bR w;obtain⟨ax,cx,rfl,Wi,Ue⟩:=Z.shape;unfold maxLen at Ue;refine gV ce ?_
 refine⟨Nat×World×Iv,λz=>⟨[(0,sV ax xs.length cx),(1,.o (.v (.func (.func Fd.fY) #[] #[]))),(7,iZ xs.length),(8,iN z.1)],[],0,z.2.2,z.2.1⟩,λz=>xs.length-z.1,
  λz=>z.1<=xs.length/\Bq w z.2.1/\∀j,j<z.1->decide (xs.getD j 0≠0)=false,?_,?_⟩
 .intro O J r;exact⟨(0,J,[]),⟨ce,r.cg,ce⟩,sbgn [] r⟩
 clear W;rintro⟨i,w1,iv⟩ ⟨R,W,ht⟩;dsimp only at R W ht ⊢;apply bS<;>intro Pk
 .have Pk:=dL Pk;obtain⟨x,QY⟩:=gO xs i;have QT:xs.getD i 0=x:=by rw[List.getD,QY];rfl
  obtain⟨adx,csx,WK,SD,RA⟩:=Z.load QY;obtain⟨p0,p1,p2,p3,p4,p5,p6,p7,rfl,SD⟩:=SD;refine⟨adx,WK,be,rC p0 p1 p2 p3 p4 p5 p6 p7,rfl,rdO RA W G,?_⟩;refine cS (cE W (pE (.bool (decide (x≠0)))) (λO J r=>aAr (oS G r) (SD.cW (kS W r G))) ?_);rintro O _ _ _ Pt r L W h_ rfl;clear r;apply bS<;>intro L
  .exact rtn W λGE we re=>by rw[xW Pk (by rw[QT];exact L) ht];rfl
  refine inc i ?_;intro I8 w3 r3;refine⟨(i+1,w3,_),⟨Pk,W.tr r3.cg,λj hj=>?_⟩,sbgn [] r3,by dsimp only;omega⟩;by_cases h:j=i
  .subst h;rw[QT];exact L
  .exact ht j (by dsimp only at hj;omega)
 have Pk:=dE R Pk;exact rtn W λGE we re=>by rw[xX (by rw[<-Pk];exact ht)];rfl
end Go.Ex
