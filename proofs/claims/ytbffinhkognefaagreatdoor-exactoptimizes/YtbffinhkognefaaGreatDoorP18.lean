/- Texts X268 to X262: lemmas, each with its conditions. -/
import Derived.Test.YtbffinhkognefaaGreatDoorP17
namespace Go.Ex
open Go Go.Sx Go.Proofs
variable{after:Array Edge}{ops:Array Oper}{iv:Iv}{Fn:List (List Rat)}{Z:List (List Value)}{b qs:List Rat}{cs rv:List Value}{B i id k:Nat}{S:Nat->Prop}{guard:Option (Nat×Bool)}{a a1 a2:Option Addr}{dst:Option Tmp}{Fd:SV->Hp->Nat->Iv->World->Prop}{w:World}
theorem ed.kp{F:World}{Fd:List (List Rat)}(h:ed w S rv Fd)(R:∀g,S g->F.heap[g]? =w.heap[g]?):ed F S rv Fd:=⟨h.1,h.2.1,fun i u x Y I=>dC.cX (h.2.2 i u x Y I) R⟩
theorem ed.nil:ed w S [] []:=⟨rfl,fun _ h=>(by cases h),fun _ _ _ h=>by cases h⟩
theorem gF.addr{n c:Nat}(h:gF w S B iv (.slice a n c) n qs)(U:0<n):∃g,a=some ⟨g,0,none⟩:=by
 obtain⟨Z,Y,-,-⟩:=h.row;rcases Y.2 with⟨-,e⟩|⟨g,cap,cur,e,-⟩
 .omega
 .injection e with e1;exact⟨g,e1⟩
theorem ij{α:Type}{l:List α}{x:α}(h:l[i]? =some x):l.take i++[x]=l.take (i+1):=by rw[bM,h];rfl
theorem Gx{x:List Rat}(hA:iq 0 Fn):HW Fn b 0 x↔x=[]/\iT Fn 0 [] b:=by
 have h0:iq 0 ([]:List (List Rat)):=fun r hr=>by cases hr
 constructor
 .rintro⟨⟨l,Y,I,h3⟩,h4⟩;rw[CN,aX]at Y;subst Y;have E:x=[]:=List.length_eq_zero_iff.1 (ui h0 h3).1;subst E;exact⟨rfl,(jz hA).2 ⟨rfl,h4⟩⟩
 .rintro⟨rfl,h⟩;refine⟨⟨[],by rw[CN];exact aX.2 rfl,rfl,?_⟩,((jz hA).1 h).2⟩;obtain⟨z,hz⟩:=DH (M:=[]) (b:=sD (sC b 0) []) (n:=0) (x:=fun _=>0) h0 fun j hj=>by cases hj
  have:=List.length_eq_zero_iff.1 (ui h0 hz).1;subst this;exact hz
theorem xt{j:Nat}(h:∀cs∈Z,cs.length=4)(hj:Z[j]? =some cs):(Z.flatten.drop (j*4)).take 4=cs:=by
 have hc:=h cs (aG hj);refine bA fun k=>?_;rcases aW k 4 with R|R
 .rw[List.getElem?_take_of_lt R,cF,aE (l:=cs) be];exact flat_get h hj k _ (aE ..)
 .rw[List.getElem?_eq_none (by rw[bN];omega),List.getElem?_eq_none be]
section
variable{S:Nat->Prop}{H:Hp}{nx:Nat}{iv:Iv}{B:Nat}{w J:World}{O:Nat->Sx.eH}{rv:List Value}{M:List (List Rat)}{Z:List (List Value)}{qs:List Rat}
theorem ed.asM(h:ed w (Cv S B iv) rv M)(r:Rel H nx iv B w O J)(W:∀g,S g->g<B)(hH:dV H id=some (.vec T.lM 1 rv))(hl:rv.length<=maxLen):dS J (fun g=>g<J.heap.size) ((At.w id rv.length).den O) M:=
 ⟨rv,h.1▸r.Df (sz:=1) hH (av _).symm hl bv h.2.1 fun U=>(r.low id _ hH U).2,h.1,fun i u x k1 k2=>dC.cV (dC.rel (h.2.2 i u x k1 k2) r W) fun g V=>rlo r W g V⟩
theorem ke.asL(h:ke w (Cv S B iv) Z qs)(r:Rel H nx iv B w O J)(W:∀g,S g->g<B)(hH:dV H id=some (.vec T.Rat 4 Z.flatten))(hl:Z.length<=maxLen):dC J (fun g=>g<J.heap.size) ((At.w id Z.length).den O) qs:=
 ((h.rel r W).cV fun g V=>rlo r W g V).list (r.Df (sz:=4) hH (fN h.four) hl bv h.one fun U=>(r.low id _ hH U).2)
end
theorem IK{α β:Type}{Do:List α}{Fd:List β}{l:α}{P:α->β->Prop}(h:∀x,x∈Fd↔∃l∈Do.take i,P l x)(hl:Do[i]? =some l)(U:∀x,¬P l x):∀x,x∈Fd↔∃l∈Do.take (i+1),P l x:=fun x=>by
 rw[h,<-ij hl];constructor
 .rintro⟨t,Y,I⟩;exact⟨t,List.mem_append_left _ Y,I⟩
 .rintro⟨t,Y,I⟩;rcases bB.1 Y with Y|Y
  .exact⟨t,Y,I⟩
  .rw[aX.1 Y]at I;exact absurd I (U x)
theorem OX{α β:Type}{Do:List α}{Fd:List β}{l:α}{y:β}{P:α->β->Prop}(h:∀x,x∈Fd↔∃l∈Do.take i,P l x)(hl:Do[i]? =some l)(hy:P l y)(U:∀x,P l x->x=y):∀x,x∈Fd++[y]↔∃l∈Do.take (i+1),P l x:=fun x=>by
 rw[bB,h,<-ij hl,aX];constructor
 .rintro(⟨t,Y,I⟩|rfl)
  .exact⟨t,List.mem_append_left _ Y,I⟩
  .exact⟨l,List.mem_append_right _ (aX.2 rfl),hy⟩
 .rintro⟨t,Y,I⟩;rcases bB.1 Y with Y|Y
  .exact .inl ⟨t,Y,I⟩
  .rw[aX.1 Y]at I;exact .inr (U x I)
def Bo(Fn:List (List Rat))(n k:Nat):List (List Rat):=Fn++(List.range k).map fun j=>(dx n).set j 1
def vP(b:List Rat)(k:Nat):List Rat:=b++dx k
theorem IL{n:Nat}:Bo Fn n k++[(dx n).set k 1]=Bo Fn n (k+1):=by
 unfold Bo;rw[bz,bw,bJ];rfl
theorem Gy:vP b k++[0]=vP b (k+1):=by
 unfold vP dx;rw[bJ,<-List.replicate_succ']
theorem Bp{vm vb:Value}{n1 c1 n c2:Nat}(W:Old S w)(hm:dS w S vm Fn)(A:dC w S vb b)(hA:iq n Fn)(Pw:b.length=Fn.length)(hA6:Fn.length<=6)(U:n<=3)(rA:∀r∈Fn,∀q∈r,rl q<=3)(rb:∀q∈b,rl q<=3):
  eL PG FS.uI #[.agg #[vm,.slice a1 n1 c1,.slice a2 n c2],vb] w (eY w fun v F=>∃Fd:List (List Rat),db F (Nf w F) v Fd/\(∀x,x∈Fd↔HW Fn b n x)/\∀x∈Fd,x.length=n/\∀q∈x,rl q+1<=256):=by
 have hF:=iw w.heap.size;have G:=bR w;obtain⟨am,cm,rfl,SF,TG⟩:=dH.shape hm;obtain⟨ab,cb,rfl,RK,Te⟩:=dN.shape A;refine x7 ce ?_;refine⟨Nat×List Value×List (List Value)×World×Iv,fun z=>⟨[(1,sV ab b.length cb),(2,pP 0 0),(5,.o (.v (iV (n:Int)))),(6,.o (.w 1 (z.2.1).length)),(7,.o (.w 2 (z.2.2.1).length)),(8,iN z.1)],[(1,.vec T.lM 1 (z.2.1)),(2,.vec T.Rat 4 (z.2.2.1).flatten),(0,.box T.Program [.v (.slice am Fn.length cm),.v (.slice a1 n1 c1),.v (.slice a2 n c2)])],3,z.2.2.2.2,z.2.2.2.1⟩,fun z=>Fn.length-z.1,fun z=>z.1<=Fn.length/\Bq w z.2.2.2.1/\ed z.2.2.2.1 (Cv S w.heap.size z.2.2.2.2) z.2.1 (Fn.take z.1)/\ke z.2.2.2.1 (Cv S w.heap.size z.2.2.2.2) z.2.2.1 (b.take z.1),?_,?_⟩
 .intro O J r;exact⟨(0,[],[],J,[]),⟨ae _,G.tr r.cj,ed.nil,ke.nil⟩,Sub.nil 6 T.lM 1 rfl (by simp[jn,SV.sc,At.sc,fu]) r fun I9 r1=>Sub.nil 7 T.Rat 4 rfl (by simp[jn,SV.sc,At.sc,fu]) r1 fun G9 r2=>sbgn [] r2⟩
 clear G;rintro⟨i,rv,rc,w1,iv⟩ ⟨N,G,hR,hG⟩;dsimp only at N G hR hG ⊢;have QO:rv.length=i:=by rw[hR.1,bN];omega
 have hgl:rc.length=i:=by rw[hG.len,bN];omega
 have hgf:=fN hG.four;apply bS<;>intro Pk
 .have Pk:=dL Pk;obtain⟨x,E⟩:=gO Fn i;obtain⟨q,hq⟩:=gO b i;have SS:x.length=n:=hA x (aG E);obtain⟨adm,um,UN,S7,km1,km2⟩:=dH.load hm E;obtain⟨ax,cx,rfl,XC,-⟩:=dN.shape S7;obtain⟨adb,csb,Td,hFb,-,VS⟩:=dN.load A hq;obtain⟨f0,f1,f2,f3,f4,f5,f6,f7,rfl,hFb⟩:=hFb;have UO:=hR.push (u:=.slice ax x.length cx) rfl (dC.cV (dC.cX S7 fun g V=>G.block g (W g V)) fun g V=>(.inl V:Cv S w.heap.size iv g));have XF:=hG.push (cs:=rC f0 f1 f2 f3 f4 f5 f6 f7) ⟨_,_,_,_,_,_,_,_,rfl,gG.cV (gG.cX hFb fun g V=>G.block g (W g V)) fun g V=>(.inl V:Cv S w.heap.size iv g)⟩ rfl;rw[ij E]at UO;rw[ij hq]at XF;have Qt:rc.flatten++(rC f0 f1 f2 f3 f4 f5 f6 f7:List Value)=(rc++([rC f0 f1 f2 f3 f4 f5 f6 f7]:List (List Value))).flatten:=by simp
  refine oa hτ uw (.x 0 (.x 1 (.x 3 (.x 8 (.x 9 (.x 10 (.x 11 (.ld 2 114928 (.x 4 (.ld 5 114880 (.ld 12 122880 (.two 6 (.two 7 (.x 13 (.x 14 (.x 15 (.x 16 .nil)))) 13 (.x 7 (.x 14 (.x 15 (.x 16 .nil))))) 13 (.x 6 (.x 7 (.x 14 (.x 15 (.x 16 .nil))))))))))))))))) d9 d9 ?_;refine⟨adb,Td,be,adm,UN,be,.slice ax x.length cx,rd1 km2 G (W _ km1),rC f0 f1 f2 f3 f4 f5 f6 f7,rfl,rdO VS G W,?_,?_⟩
  .conv=>whnf
   refine⟨rC f0 f1 f2 f3 f4 f5 f6 f7,rfl,rdO VS G W,rfl,?_,?_⟩
   .conv=>whnf
    conv=>whnf
    refine .inl ?_;refine⟨be,be,mx,rC f0 f1 f2 f3 f4 f5 f6 f7,rfl,rdO VS G W,rfl,?_⟩;conv=>whnf
    refine .inl ?_;refine⟨be,be,mx,((i+1:Nat):Int),wo,?_⟩;intro I8 w3 r3;exact⟨(i+1,rv++[.slice ax x.length cx],rc++[rC f0 f1 f2 f3 f4 f5 f6 f7],w3,_),⟨Pk,G.tr r3.cj,UO.rel r3 W,XF.rel r3 W⟩,sbgn [(1,4),(2,6)] r3 ⟨rfl,by dsimp only;rw[<-Qt];rfl,rfl,trivial⟩ ⟨rfl,rfl,rfl,by dsimp only;rw[l1];rfl,by dsimp only;rw[l1];rfl,rfl,trivial⟩,dec Pk⟩
   .conv=>whnf
    conv=>whnf
    refine .inl ?_;refine⟨be,be,mx,?_⟩;conv=>whnf
    refine .inl ?_;refine⟨be,be,mx,((i+1:Nat):Int),wo,?_⟩;intro I8 w3 r3;exact⟨(i+1,rv++[.slice ax x.length cx],rc++[rC f0 f1 f2 f3 f4 f5 f6 f7],w3,_),⟨Pk,G.tr r3.cj,UO.rel r3 W,XF.rel r3 W⟩,sbgn [(1,5),(2,6)] r3 ⟨rfl,by dsimp only;rw[<-Qt];rfl,rfl,trivial⟩ ⟨rfl,rfl,rfl,by dsimp only;rw[l1];rfl,by dsimp only;rw[l1];rfl,rfl,trivial⟩,dec Pk⟩
  .conv=>whnf
   refine⟨.slice ax x.length cx,rd1 km2 G (W _ km1),rfl,rfl,?_⟩;conv=>whnf
   refine .inl ?_;refine⟨be,be,mx,?_⟩;conv=>whnf
   refine .inl ?_;refine⟨be,be,mx,((i+1:Nat):Int),wo,?_⟩;intro I8 w3 r3;exact⟨(i+1,rv++[.slice ax x.length cx],rc++[rC f0 f1 f2 f3 f4 f5 f6 f7],w3,_),⟨Pk,G.tr r3.cj,UO.rel r3 W,XF.rel r3 W⟩,sbgn [(1,5),(2,6)] r3 ⟨rfl,by dsimp only;rw[<-Qt];rfl,rfl,trivial⟩ ⟨rfl,rfl,rfl,by dsimp only;rw[l1];rfl,by dsimp only;rw[l1];rfl,rfl,trivial⟩,dec Pk⟩
 have Pk:=dE N Pk;rw[Pk,bK]at hR;rw[Pk,<-Pw,bK]at hG;clear QO hgl hgf;refine⟨Nat×List Value×List (List Value)×World×Iv,fun z=>⟨[(1,sV ab b.length cb),(2,pP 0 0),(5,.o (.v (iV (n:Int)))),(6,.o (.w 1 (z.2.1).length)),(7,.o (.w 2 (z.2.2.1).length)),(9,iN z.1)],[(1,.vec T.lM 1 (z.2.1)),(2,.vec T.Rat 4 (z.2.2.1).flatten),(0,.box T.Program [.v (.slice am Fn.length cm),.v (.slice a1 n1 c1),.v (.slice a2 n c2)])],3,z.2.2.2.2,z.2.2.2.1⟩,fun z=>n-z.1,fun z=>z.1<=n/\Bq w z.2.2.2.1/\ed z.2.2.2.1 (Cv S w.heap.size z.2.2.2.2) z.2.1 (Bo Fn n z.1)/\ke z.2.2.2.1 (Cv S w.heap.size z.2.2.2.2) z.2.2.1 (vP b z.1),?_,?_⟩
 .intro O J r;exact⟨(0,rv,rc,J,_),⟨ae _,G.tr r.cj,by simpa [Bo]using hR.rel r W,by simpa [vP,dx]using hG.rel r W⟩,sbgn [] r⟩
 clear G hR hG;rintro⟨k,rv,rc,w1,iv⟩ ⟨R,G,hR,hG⟩;dsimp only at R G hR hG ⊢;have QO:rv.length=Fn.length+k:=by rw[hR.1];simp[Bo]
 have hgl:rc.length=b.length+k:=by rw[hG.len];simp[vP,dx]
 have hgf:=fN hG.four;apply bS<;>intro Ra
 .have Ra:=dL Ra;refine cW (cU (GT:=fun _ J v F=>gF F FF J.heap.size [(J.heap.size,F.heap.size)] v n (List.replicate n ((0:Int):Rat))) (fun O J r=>Dj n J be) ?_);rintro O wa v1 wb r L Ql hX;have TY:∀gx,v1.ownBlock=some gx->¬Cv S w.heap.size iv gx/\w.heap.size<=gx:=fun gx e=>by
   have hB:=r.cZ;rcases hX.new gx e with Y|⟨Y,-⟩
   .exact Y.elim
   .exact⟨fun hc=>by have:=rlo r W gx hc;omega,be⟩
  replace hX:=hX.ep (S:=FF) (iv:=(wa.heap.size,wb.heap.size)::iv) r.cZ aF;have R5:∀g,Cv S w.heap.size iv g->wb.heap[g]? =w1.heap[g]? :=fun g V=>by rw[L.block g (rlo r W g V),rls r W V]
  replace hR:=hR.kp R5;replace hG:=hG.cX R5;replace G:=G.tr Ql;have Pn:∀p,p∈iv->p∈(wa.heap.size,wb.heap.size)::iv:=fun p hp=>aD _ hp;clear R5 r L Ql;generalize (wa.heap.size,wb.heap.size)::iv=iv2 at*
  obtain⟨a3,c3,rfl,Yk⟩:=hX.row.form;obtain⟨gx,rfl⟩:=hX.addr be;refine cW (cU (GT:=fun _ J v F=>dI F (Nf J F) v ((1:Int):Rat)) (fun O J r=>fm 1 J bv) ?_);rintro O wa v2 QT r L Ql hO;have Qh:dI QT (fun g=>Cf w ((wa.heap.size,QT.heap.size)::iv2) g/\(Value.slice (some ⟨gx,0,none⟩) n c3).ownBlock≠some g) v2 ((1:Int):Rat):=hO.cV fun g V=>by
   rcases V with V|V
   .exact V.elim
   .have hB:=r.cZ;refine⟨.inr ⟨be,_,_,aF,V.1,V.2⟩,fun e=>?_⟩;have:=rlo r hF g (hX.new g e);omega
  have R5:∀g,Cv S w.heap.size iv g->QT.heap[g]? =wb.heap[g]? :=fun g V=>by rw[L.block g (rlo r W g (V.mono Pn)),rls r W (V.mono Pn)]
  replace hX:=hX.cS (K:=(wa.heap.size,QT.heap.size)::iv2) r hF L fun x E=>aD _ E;replace hR:=hR.kp R5;replace hG:=hG.cX R5;replace G:=G.tr Ql;replace Pn:∀p,p∈iv->p∈(wa.heap.size,QT.heap.size)::iv2:=fun p hp=>aD _ (Pn p hp);clear R5 r L Ql;generalize (wa.heap.size,QT.heap.size)::iv2=Pu at*
  obtain⟨_,_,_,_,_,_,_,_,rfl⟩:=Qh.shape;refine⟨⟨gx,0,none⟩,rfl,be,?_⟩;intro O J r;obtain⟨_,QY,Y,h2',h3,h4,h5⟩:=(hX.rel r hF).store Ra (dI.cX Qh fun g V=>rls r hF V.1) r hF;injection QY with QY;injection QY with QY;subst QY;refine⟨Y,h2',h3,fun F RT=>?_⟩;obtain⟨hX2,QW,-⟩:=h5 F RT;have R5:∀g,Cv S w.heap.size iv g->F.heap[g]? =QT.heap[g]? :=fun g V=>by
   rw[<-rls r W (V.mono Pn)];exact QW.block g (rlo r W g (V.mono Pn)) fun e=>by injection e with e;subst e;exact(TY _ rfl).1 V
  replace hR:=hR.kp R5;replace hG:=hG.cX R5;replace G:=G.tr r.cj;replace G:Bq w F:=G.tr (Bel.grown QW (fun g V=>by injection V with V;subst V;exact(TY _ rfl).2) (by have:=G.size;omega));have Pm:dC F (Cv S w.heap.size Pu) (.slice (some ⟨gx,0,none⟩) n c3) ((dx n).set k 1):=cg.l (cg.cV hX2.aAP fun g V=>qj V) fun q hq=>by
   rcases bQ hq with hq|rfl
   .rw[aY hq];decide
   .decide
  replace hR:=(hR.cV fun g V=>V.mono Pn).push (u:=.slice (some ⟨gx,0,none⟩) n c3) rfl Pm;rw[IL]at hR;replace hG:=hG.cV fun g V=>V.mono Pn;clear hX hX2 Qh hO R5 QW h5 h4 h3 h2' Y RT TY Pm Pn r;refine .inl ?_;refine⟨be,be,mx,?_⟩;refine cW (cU (GT:=fun _ J v F=>dI F (Nf J F) v ((0:Int):Rat)) (fun O J r=>fm 0 J bv) ?_);rintro O wa v3 Qc r L Ql hO;replace hO:=dI.ep (S:=S) hO r.cZ (iv:=(wa.heap.size,Qc.heap.size)::Pu) aF;replace hR:=hR.cS (K:=(wa.heap.size,Qc.heap.size)::Pu) r W L fun p hp=>aD _ hp;replace hG:=hG.cS (K:=(wa.heap.size,Qc.heap.size)::Pu) r W L fun p hp=>aD _ hp;replace G:=G.tr Ql;clear r L Ql;generalize (wa.heap.size,Qc.heap.size)::Pu=QD at*
  obtain⟨o0,o1,o2,o3,o4,o5,o6,o7,rfl⟩:=dI.shape hO;have XF:=hG.push (cs:=rC o0 o1 o2 o3 o4 o5 o6 o7) (q:=0) ⟨_,_,_,_,_,_,_,_,rfl,dI.l hO bv⟩ rfl;rw[Gy]at XF;have Qt:rc.flatten++(rC o0 o1 o2 o3 o4 o5 o6 o7:List Value)=(rc++([rC o0 o1 o2 o3 o4 o5 o6 o7]:List (List Value))).flatten:=by simp
  refine .inl ?_;refine⟨be,be,mx,((k+1:Nat):Int),wo,?_⟩;intro I8 w3 r3;exact⟨(k+1,rv++[.slice (some ⟨gx,0,none⟩) n c3],rc++[rC o0 o1 o2 o3 o4 o5 o6 o7],w3,_),⟨Ra,G.tr r3.cj,hR.rel r3 W,XF.rel r3 W⟩,sbgn [(1,4),(2,6)] r3 ⟨rfl,by dsimp only;rw[<-Qt];rfl,rfl,trivial⟩ ⟨rfl,rfl,rfl,by dsimp only;rw[l1];rfl,by dsimp only;rw[l1];rfl,rfl,trivial⟩,dec Ra⟩
 have Ra:=dE R Ra;rw[Ra]at hR hG QO hgl;apply bS<;>intro Ww
 .obtain rfl:n=0:=by simpa using Ww
  refine cW (cU (GT:=fun _ J v F=>∃d,v= .bool d/\(d=true->iT Fn 0 [] b)/\(iT Fn 0 [] b->d=true)) (fun O J r=>mI (h:=4) (oS W r) (dS.cX hm ((kS G r W))) (dC.nil J S) (dC.cX A ((kS G r W))) Pw hA (fun r hr q hq=>by have:=rA r hr q hq;omega) (fun q hq=>by cases hq) bv bv be bv) ?_);rintro O wa v1 wb r L Ql ⟨d,rfl,d1,d2⟩;replace G:=G.tr Ql
  cases d with
  |true=>
   intro GE we re;have Y:=re.kJ (id:=4) (sz:=1) (n:=1) rfl rfl bv (by intro u hu;simp at hu;rcases hu with rfl;simp[At.den,Value.oneCell']);have l1:=re.low 4 _ rfl (re.fits (id:=4) rfl).1;have Ww:(GE 3).nil=false:=(re.fits (id:=3) rfl).1;refine⟨_,rfl,G.tr re.cj,[[]],⟨_,Y.cV fun g V=>.inr (by rw[V];exact l1),rfl,fun i u x k1 k2=>?_⟩,fun x=>?_,fun x E=>?_⟩
   .rcases i with _|i
    .injection k1 with k1;injection k2 with k2;subst k1 k2;exact⟨[],⟨ae _,rfl,ce,some ⟨(GE 3).g,0,none⟩,0,by simp[At.den],lr,fun j u h=>by cases h⟩,rfl,ce,fun j cs x h=>by cases h⟩
    .cases k2
   .rw[aX,Gx hA];exact⟨fun h=>⟨h,d1 rfl⟩,fun h=>h.1⟩
   .rw[aX.1 E];exact⟨rfl,fun q hq=>by cases hq⟩
  |false=>
   intro GE we re;refine⟨_,rfl,G.tr re.cj,[],⟨[],⟨bv,rfl,fun u hu=>(by cases hu),none,0,rfl,lr,fun j u hu=>(by cases hu)⟩,rfl,fun i u x Y I=>(by cases I)⟩,fun x=>?_,fun x E=>by cases E⟩;rw[Gx hA];exact⟨fun h=>(by cases h),fun h=>absurd (d2 h.2) bv⟩
 have Ww:0<n:=by
  rcases bH n with h|h
  .rw[h]at Ww;simp at Ww
  .exact h
 obtain⟨F9,hRe⟩:∃F9,F9=kT Fn n:=⟨_,rfl⟩
 obtain⟨Q,hQe⟩:∃Q,Q=sC b n:=⟨_,rfl⟩
 rw[show Bo Fn n n=F9 from hRe.symm]at hR;rw[show vP b n=Q from hQe.symm]at hG;have hRlen:iq n F9:=by rw[hRe];exact DS hA
 have hRl:F9.length=Fn.length+n:=by rw[hRe];exact wL
 have hQl:Q.length=Fn.length+n:=by rw[<-hG.len,hgl,Pw]
 have hRh:Ht F9 4:=fun r hr q hq=>by
  rw[hRe]at hr;rcases bB.1 hr with hr|hr
  .exact Nat.succ_le_succ (rA r hr q hq)
  .obtain⟨k,-,rfl⟩:=bE.1 hr;rcases bQ hq with hq|rfl
   .rw[aY hq];decide
   .decide
 have hQh:∀q∈Q,rl q+1<=4:=fun q hq=>by
  rw[hQe]at hq;rcases bB.1 hq with hq|hq
  .exact Nat.succ_le_succ (rb q hq)
  .rw[aY hq];decide
 refine⟨by rw[aS,av],?_⟩;refine cW (cU (GT:=fun _ J v F=>rV F (Nf J F) v (CN n (Fn.length+n))) (fun O J r=>?_) ?_)
 .have h:=Bn n be (Fn.length+n) J be;rw[<-QO]at h ⊢;exact h
 rintro O wa v1 wb r L Ql hO;replace hO:=rV.cV (S':=Cv S w.heap.size ((wa.heap.size,wb.heap.size)::iv)) hO fun g V=>V.ep r.cZ aF;replace hR:=hR.cS (K:=(wa.heap.size,wb.heap.size)::iv) r W L fun p hp=>aD _ hp;replace hG:=hG.cS (K:=(wa.heap.size,wb.heap.size)::iv) r W L fun p hp=>aD _ hp;replace G:=G.tr Ql;clear r L Ql;generalize (wa.heap.size,wb.heap.size)::iv=ivn at*
 obtain⟨Do,hL⟩:∃Do,Do=CN n (Fn.length+n):=⟨_,rfl⟩
 have hLl:Do.length<=8000:=by rw[hL];exact aR (zf n _ be) (aR (Nat.pow_le_pow_right bv U) bv)
 rw[<-hL]at hO;obtain⟨al,cl,rfl,Qg,VH⟩:=dH.shape hO;refine⟨Nat×List Value×List (List Rat)×World×Iv,fun z=>⟨[(1,sV ab b.length cb),(2,pP 0 0),(5,.o (.v (iV (n:Int)))),(6,.o (.w 1 rv.length)),(7,.o (.w 2 rc.length)),(11,sV al Do.length cl),(12,.o (.w 3 (z.2.1).length)),(13,iN z.1)],[(3,.vec T.lM 1 (z.2.1)),(1,.vec T.lM 1 (rv)),(2,.vec T.Rat 4 (rc).flatten),(0,.box T.Program [.v (.slice am Fn.length cm),.v (.slice a1 n1 c1),.v (.slice a2 n c2)])],4,z.2.2.2.2,z.2.2.2.1⟩,fun z=>Do.length-z.1,fun z=>z.1<=Do.length/\z.2.2.1.length<=z.1/\Bq w z.2.2.2.1/\ed z.2.2.2.1 (Cv S w.heap.size z.2.2.2.2) rv F9/\ke z.2.2.2.1 (Cv S w.heap.size z.2.2.2.2) rc Q/\rV z.2.2.2.1 (Cv S w.heap.size z.2.2.2.2) (.slice al Do.length cl) Do/\gQ z.2.2.2.1 (Cf w z.2.2.2.2) z.2.1 z.2.2.1/\(∀x,x∈z.2.2.1↔∃l∈Do.take z.1,Ng (j1 F9 l) n=n/\lu (j1 F9 l) (sD Q l) n=some x/\om Fn.length n (dU Fn) (fun i=>b.getD i 0) fun j=>x.getD j 0)/\∀x∈z.2.2.1,x.length=n/\∀q∈x,rl q+1<=256,?_,?_⟩
 .intro O J r;exact⟨(0,[],[],J,_),⟨ae _,lr,G.tr r.cj,hR.rel r W,hG.rel r W,rV.cX hO fun g V=>rls r W V,by simp[gQ],ce,ce⟩,Sub.nil 12 T.lM 1 rfl (by simp[jn,SV.sc,At.sc,fu]) r fun I9 r1=>sbgn [] r1⟩
 clear G hR hG hO;rintro⟨i,ro,Fd,w1,iv⟩ ⟨N,hKi,G,hR,hG,hO,hK,Sf,TX⟩;dsimp only at N hKi G hR hG hO hK Sf TX ⊢;have Rw:ro.length=Fd.length:=hK.1;apply bS<;>intro Pk
 .have Pk:=dL Pk;obtain⟨li,Ud⟩:=gO Do i;obtain⟨VS,-,RL⟩:=(wK n (Fn.length+n) li).1 (by rw[<-hL];exact aG Ud);refine⟨Nat×List Value×List (List Value)×World×Iv,fun z=>⟨[(1,sV ab b.length cb),(2,pP 0 0),(5,.o (.v (iV (n:Int)))),(6,.o (.w 1 rv.length)),(7,.o (.w 2 rc.length)),(11,sV al Do.length cl),(12,.o (.w 3 (ro).length)),(13,iN i),(14,.o (.w 4 (z.2.1).length)),(15,.o (.w 5 (z.2.2.1).length)),(16,iN z.1)],[(4,.vec T.lM 1 (z.2.1)),(5,.vec T.Rat 4 (z.2.2.1).flatten),(3,.vec T.lM 1 (ro)),(1,.vec T.lM 1 (rv)),(2,.vec T.Rat 4 (rc).flatten),(0,.box T.Program [.v (.slice am Fn.length cm),.v (.slice a1 n1 c1),.v (.slice a2 n c2)])],6,z.2.2.2.2,z.2.2.2.1⟩,fun z=>n-z.1,fun z=>z.1<=n/\Bq w z.2.2.2.1/\ed z.2.2.2.1 (Cv S w.heap.size z.2.2.2.2) rv F9/\ke z.2.2.2.1 (Cv S w.heap.size z.2.2.2.2) rc Q/\rV z.2.2.2.1 (Cv S w.heap.size z.2.2.2.2) (.slice al Do.length cl) Do/\gQ z.2.2.2.1 (Cf w z.2.2.2.2) ro Fd/\ed z.2.2.2.1 (Cv S w.heap.size z.2.2.2.2) z.2.1 (j1 F9 (li.take z.1))/\ke z.2.2.2.1 (Cv S w.heap.size z.2.2.2.2) z.2.2.1 (sD Q (li.take z.1)),?_,?_⟩
  .intro O J r;exact⟨(0,[],[],J,_),⟨ae _,G.tr r.cj,hR.rel r W,hG.rel r W,rV.cX hO fun g V=>rls r W V,gQ.rel hK r hF,ed.nil,ke.nil⟩,Sub.nil 14 T.lM 1 rfl (by simp[jn,SV.sc,At.sc,fu]) r fun I9 r1=>Sub.nil 15 T.Rat 4 rfl (by simp[jn,SV.sc,At.sc,fu]) r1 fun G9 r2=>sbgn [] r2⟩
  clear G hR hG hO hK;rintro⟨k,rm,rq,w1,iv⟩ ⟨R,G,hR,hG,hO,hK,hM,hB⟩;dsimp only at R G hR hG hO hK hM hB ⊢;have hml2:rm.length=k:=by rw[hM.1,j1,aO,bN];omega
  have Ql:rq.length=k:=by rw[hB.len,sD,aO,bN];omega
  have hbf:=fN hB.four;apply bS<;>intro Ra
  .have Ra:=dL Ra;obtain⟨e,L⟩:=gO li k;have heb:=RL e (aG L);obtain⟨u,x,hu,E,hux⟩:=hR.get (i:=e) be;obtain⟨au,cu,rfl,hcu,-⟩:=dN.shape hux;obtain⟨q,hq⟩:=gO Q e;obtain⟨cs,Q4⟩:∃cs,rc[e]? =some cs:=⟨_,aE (by rw[hG.len];omega)⟩
   have YB:=hG.at_ e cs q Q4 hq;obtain⟨f0,f1,f2,f3,f4,f5,f6,f7,rfl,-⟩:=YB;have YB:=hG.at_ e _ q Q4 hq;obtain⟨adm,um,UN,S7,km1,km2⟩:=dH.load hO Ud;obtain⟨ai,ci,rfl,hci,hmi⟩:=eD.form S7;obtain⟨adk,hak,kk1,kk2⟩:=eD.cell S7 L;have UY:=hM.push (u:=.slice au x.length cu) rfl hux;have hB2:=hB.push YB rfl;rw[show j1 F9 (li.take k)++[x]=j1 F9 (li.take (k+1)) by unfold j1;rw[bM,L,bw,show [x]=[F9.getD e []] by rw[List.getD,E];rfl];rfl]at UY;rw[show sD Q (li.take k)++[q]=sD Q (li.take (k+1)) by unfold sD;rw[bM,L,bw,show [q]=[Q.getD e 0] by rw[List.getD,hq];rfl];rfl]at hB2;have Qt:rq.flatten++(rC f0 f1 f2 f3 f4 f5 f6 f7:List Value)=(rq++([rC f0 f1 f2 f3 f4 f5 f6 f7]:List (List Value))).flatten:=by simp
   have hrcf:=fN hG.four;have US:rv.length=Fn.length+n:=by rw[hR.1,hRl]
   have hgl2:rc.length=Fn.length+n:=by rw[hG.len,hQl]
   refine oa hτ uw (.x 0 (.x 1 (.x 2 (.x 3 (.x 4 (.x 6 (.x 13 (.x 14 (.x 15 (.x 16 (.x 17 (.x 19 (.ld 5 234889088 (.x 7 (.ld 8 234888704 (.x 9 (.ld 10 234887168 (.ld 18 267386880 (.x 20 (.ld 21 264241152 (.x 22 (.ld 23 251658240 (.two 11 (.two 12 (.x 24 (.x 25 (.x 26 (.x 27 .nil)))) 24 (.x 12 (.x 25 (.x 26 (.x 27 .nil))))) 24 (.x 11 (.x 12 (.x 25 (.x 26 (.x 27 .nil)))))))))))))))))))))))))))) d9 d9 ?_;refine⟨adm,UN,be,adm,UN,be,.slice ai li.length ci,fun O J r=>?_,?_⟩
   .rw[aK,cd (w:=w1) (F:=J) (by rw[df];exact rls r W km1)];exact km2
   refine⟨adk,hak,be,iV (e:Int),fun O J r=>?_,?_⟩
   .rw[aK,cd (w:=w1) (F:=J) (by rw[df];exact rls r W kk1)];exact kk2
   refine⟨by simp[US],be,.slice au x.length cu,by simpa using hu,.slice ai li.length ci,fun O J r=>?_,?_⟩
   .rw[aK,cd (w:=w1) (F:=J) (by rw[df];exact rls r W km1)];exact km2
   refine⟨adk,hak,be,iV (e:Int),fun O J r=>?_,?_⟩
   .rw[aK,cd (w:=w1) (F:=J) (by rw[df];exact rls r W kk1)];exact kk2
   refine⟨by rw[hrcf],be,rC f0 f1 f2 f3 f4 f5 f6 f7,by rw[aK];exact xt hG.four Q4,rfl,?_,?_⟩
   .conv=>whnf
    refine⟨rC f0 f1 f2 f3 f4 f5 f6 f7,by rw[aK];exact xt hG.four Q4,rfl,rfl,iV (e:Int),fun O J r=>?_,?_⟩
    .rw[aK,cd (w:=w1) (F:=J) (by rw[df];exact rls r W kk1)];exact kk2
    refine⟨rfl,.slice ai li.length ci,fun O J r=>?_,?_⟩
    .rw[aK,cd (w:=w1) (F:=J) (by rw[df];exact rls r W km1)];exact km2
    refine⟨rfl,?_,?_⟩
    .conv=>whnf
     conv=>whnf
     refine .inl ?_;refine⟨be,be,mx,rC f0 f1 f2 f3 f4 f5 f6 f7,by rw[aK];exact xt hG.four Q4,rfl,rfl,iV (e:Int),fun O J r=>?_,?_⟩
     .rw[aK,cd (w:=w1) (F:=J) (by rw[df];exact rls r W kk1)];exact kk2
     refine⟨rfl,.slice ai li.length ci,fun O J r=>?_,?_⟩
     .rw[aK,cd (w:=w1) (F:=J) (by rw[df];exact rls r W km1)];exact km2
     refine⟨rfl,?_⟩;conv=>whnf
     refine .inl ?_;refine⟨be,be,mx,((k+1:Nat):Int),wo,?_⟩;intro I8 w3 r3;exact⟨(k+1,rm++[.slice au x.length cu],rq++[rC f0 f1 f2 f3 f4 f5 f6 f7],w3,_),⟨Ra,G.tr r3.cj,hR.rel r3 W,hG.rel r3 W,rV.cX hO fun g V=>rls r3 W V,gQ.rel hK r3 hF,UY.rel r3 W,hB2.rel r3 W⟩,sbgn [(4,7),(5,9)] r3 ⟨rfl,by dsimp only;rw[<-Qt];rfl,rfl,rfl,rfl,rfl,trivial⟩ ⟨rfl,rfl,rfl,rfl,rfl,rfl,rfl,rfl,by dsimp only;rw[l1];rfl,by dsimp only;rw[l1];rfl,rfl,trivial⟩,dec Ra⟩
    .conv=>whnf
     conv=>whnf
     refine .inl ?_;refine⟨be,be,mx,?_⟩;conv=>whnf
     refine .inl ?_;refine⟨be,be,mx,((k+1:Nat):Int),wo,?_⟩;intro I8 w3 r3;exact⟨(k+1,rm++[.slice au x.length cu],rq++[rC f0 f1 f2 f3 f4 f5 f6 f7],w3,_),⟨Ra,G.tr r3.cj,hR.rel r3 W,hG.rel r3 W,rV.cX hO fun g V=>rls r3 W V,gQ.rel hK r3 hF,UY.rel r3 W,hB2.rel r3 W⟩,sbgn [(4,8),(5,9)] r3 ⟨rfl,by dsimp only;rw[<-Qt];rfl,rfl,rfl,rfl,rfl,trivial⟩ ⟨rfl,rfl,rfl,rfl,rfl,rfl,rfl,rfl,by dsimp only;rw[l1];rfl,by dsimp only;rw[l1];rfl,rfl,trivial⟩,dec Ra⟩
   .conv=>whnf
    refine⟨.slice au x.length cu,by simpa using hu,rfl,iV (e:Int),fun O J r=>?_,?_⟩
    .rw[aK,cd (w:=w1) (F:=J) (by rw[df];exact rls r W kk1)];exact kk2
    refine⟨rfl,.slice ai li.length ci,fun O J r=>?_,?_⟩
    .rw[aK,cd (w:=w1) (F:=J) (by rw[df];exact rls r W km1)];exact km2
    refine⟨rfl,?_⟩;conv=>whnf
    refine .inl ?_;refine⟨be,be,mx,?_⟩;conv=>whnf
    refine .inl ?_;refine⟨be,be,mx,((k+1:Nat):Int),wo,?_⟩;intro I8 w3 r3;exact⟨(k+1,rm++[.slice au x.length cu],rq++[rC f0 f1 f2 f3 f4 f5 f6 f7],w3,_),⟨Ra,G.tr r3.cj,hR.rel r3 W,hG.rel r3 W,rV.cX hO fun g V=>rls r3 W V,gQ.rel hK r3 hF,UY.rel r3 W,hB2.rel r3 W⟩,sbgn [(4,8),(5,9)] r3 ⟨rfl,by dsimp only;rw[<-Qt];rfl,rfl,rfl,rfl,rfl,trivial⟩ ⟨rfl,rfl,rfl,rfl,rfl,rfl,rfl,rfl,by dsimp only;rw[l1];rfl,by dsimp only;rw[l1];rfl,rfl,trivial⟩,dec Ra⟩
  have Ra:=dE R Ra;rw[Ra,<-VS,bK]at hM hB;rw[Ra]at hml2 Ql;have UQ:(j1 F9 li).length=n:=by rw[<-hM.1,hml2]
  have hsL:iq n (j1 F9 li):=fun r hr=>by
   obtain⟨e,L,rfl⟩:=bE.1 hr;rw[List.getD,aE (by have:=RL e L;omega)];exact hRlen _ (bp _)
  have Yd:Ht (j1 F9 li) 4:=fun r hr=>by
   obtain⟨e,L,rfl⟩:=bE.1 hr;rw[List.getD,aE (by have:=RL e L;omega)];exact hRh _ (bp _)
  have hsB:∀q∈sD Q li,rl q+1<=4:=fun q hq=>by
   obtain⟨e,L,rfl⟩:=bE.1 hq;rw[List.getD,aE (by have:=RL e L;omega)];exact hQh _ (bp _)
  have hp4:4^(j1 F9 li).length*4<=256:=by
   rw[UQ];exact Nat.mul_le_mul_right 4 (Nat.pow_le_pow_right bv U:4^n<=4^3)
  have hrkle:Ng (j1 F9 li) n<=n:=by
   have:=(lz (cols:=n) Yd bv).2.1
   rwa [UQ]at this
  refine cW (cU (GT:=fun _ J v F=>v=iV (Ng (j1 F9 li) n)) (fun O J r=>My (S:=fun g=>g<J.heap.size) (h0:=4) (fun g V=>V) (hM.asM r W rfl mx) hsL be be be Yd bv be) ?_);rintro O wa v1 wb r L UD rfl;replace hR:=hR.cS (K:=(wa.heap.size,wb.heap.size)::iv) r W L fun p hp=>aD _ hp;replace hG:=hG.cS (K:=(wa.heap.size,wb.heap.size)::iv) r W L fun p hp=>aD _ hp;replace hO:=rV.cV (rV.cX hO fun g V=>(L.block g (rlo r W g V)).trans (rls r W V)) fun g V=>(V.mono fun p hp=>aD _ hp:Cv S w.heap.size ((wa.heap.size,wb.heap.size)::iv) g)
  replace hK:=gQ.cS (K:=(wa.heap.size,wb.heap.size)::iv) hK r hF L fun p hp=>aD _ hp;replace hM:=hM.cS (K:=(wa.heap.size,wb.heap.size)::iv) r W L fun p hp=>aD _ hp;replace hB:=hB.cS (K:=(wa.heap.size,wb.heap.size)::iv) r W L fun p hp=>aD _ hp;replace G:=G.tr UD;clear r L UD;generalize (wa.heap.size,wb.heap.size)::iv=iv at*
  apply bS<;>intro Ye
  .have Ye:¬Ng (j1 F9 li) n=n:=by have:=aJ Ye;omega
   refine inc i ?_;intro I8 w3 r3;exact⟨(i+1,ro,Fd,w3,_),⟨Pk,by dsimp only;omega,G.tr r3.cj,hR.rel r3 W,hG.rel r3 W,rV.cX hO fun g V=>rls r3 W V,gQ.rel hK r3 hF,IK Sf Ud fun x h=>Ye h.1,TX⟩,sbgn [] r3,dec Pk⟩
  have Ye:Ng (j1 F9 li) n=n:=by have:=aL Ye;omega
  refine cW (cU (GT:=fun _ J v F=>(lu (j1 F9 li) (sD Q li) n=none/\v= .tuple #[nls,.bool false])\/∃x vx,lu (j1 F9 li) (sD Q li) n=some x/\v= .tuple #[vx,.bool true]/\cg F (Nf J F) vx x/\x.length=n/\∀q∈x,rl q+1<=4^(j1 F9 li).length*4) (fun O J r=>Kp (S:=fun g=>g<J.heap.size) (h0:=4) (fun g V=>V) (hM.asM r W rfl mx) (hB.asL r W rfl mx) hsL be (by rw[UQ,<-hB.len,Ql]) be be Yd hsB bv be) ?_);rintro O wa v1 wb r L UD hQ;have hQ2:(lu (j1 F9 li) (sD Q li) n=none/\v1= .tuple #[nls,.bool false])\/∃x vx,lu (j1 F9 li) (sD Q li) n=some x/\v1= .tuple #[vx,.bool true]/\cg wb (Cf w ((wa.heap.size,wb.heap.size)::iv)) vx x/\x.length=n/\∀q∈x,rl q+1<=4^(j1 F9 li).length*4:=hQ.imp id fun⟨x,vx,q1,q2,q3,q4⟩=>⟨x,vx,q1,q2,cg.ep (S:=FF) q3 r.cZ aF,q4⟩
  clear hQ hM hB;replace hR:=hR.cS (K:=(wa.heap.size,wb.heap.size)::iv) r W L fun p hp=>aD _ hp;replace hG:=hG.cS (K:=(wa.heap.size,wb.heap.size)::iv) r W L fun p hp=>aD _ hp;replace hO:=rV.cV (rV.cX hO fun g V=>(L.block g (rlo r W g V)).trans (rls r W V)) fun g V=>(V.mono fun p hp=>aD _ hp:Cv S w.heap.size ((wa.heap.size,wb.heap.size)::iv) g)
  replace hK:=gQ.cS (K:=(wa.heap.size,wb.heap.size)::iv) hK r hF L fun p hp=>aD _ hp;replace G:=G.tr UD;clear r L UD;generalize (wa.heap.size,wb.heap.size)::iv=iv at*
  rcases hQ2 with⟨hQ,rfl⟩|⟨x,vx,hQ,rfl,hX,SS,hxh⟩
  .refine inc i ?_;intro I8 w3 r3;exact⟨(i+1,ro,Fd,w3,_),⟨Pk,by dsimp only;omega,G.tr r3.cj,hR.rel r3 W,hG.rel r3 W,rV.cX hO fun g V=>rls r3 W V,gQ.rel hK r3 hF,IK Sf Ud fun x h=>(by rw[hQ]at h;cases h.2.1),TX⟩,sbgn [] r3,dec Pk⟩
  have hxh2:∀q∈x,rl q+1<=256:=fun q hq=>aR (hxh q hq) hp4;obtain⟨ax,cx,rfl,XC,-⟩:=dN.shape hX;conv=>whnf
  refine cW (cU (GT:=fun _ J v F=>∃d,v= .bool d/\(d=true->iT Fn n x b)/\(iT Fn n x b->d=true)) (fun O J r=>mI (h:=256) (rlo r W) (dS.cV (dS.cX hm (kS G r W)) fun g V=>(.inl V:Cv S w.heap.size _ g)) (cg.l (cg.cV (cg.rel hX r hF) fun g V=>qj V) fun q hq=>by have:=hxh2 q hq;omega) (dC.cV (dC.cX A (kS G r W)) fun g V=>(.inl V:Cv S w.heap.size _ g)) Pw hA (fun r hr q hq=>by have:=rA r hr q hq;omega) hxh2 bv be be be) ?_);rintro O wa v1 wb r L UD ⟨d,rfl,d1,d2⟩;replace hR:=hR.cS (K:=(wa.heap.size,wb.heap.size)::iv) r W L fun p hp=>aD _ hp;replace hG:=hG.cS (K:=(wa.heap.size,wb.heap.size)::iv) r W L fun p hp=>aD _ hp;replace hO:=rV.cV (rV.cX hO fun g V=>(L.block g (rlo r W g V)).trans (rls r W V)) fun g V=>(V.mono fun p hp=>aD _ hp:Cv S w.heap.size ((wa.heap.size,wb.heap.size)::iv) g)
  replace hK:=gQ.cS (K:=(wa.heap.size,wb.heap.size)::iv) hK r hF L fun p hp=>aD _ hp;replace hX:=cg.cS (K:=(wa.heap.size,wb.heap.size)::iv) hX r hF L fun p hp=>aD _ hp;replace G:=G.tr UD;clear r L UD;generalize (wa.heap.size,wb.heap.size)::iv=iv at*
  cases d with
  |false=>
   refine inc i ?_;intro I8 w3 r3;exact⟨(i+1,ro,Fd,w3,_),⟨Pk,by dsimp only;omega,G.tr r3.cj,hR.rel r3 W,hG.rel r3 W,rV.cX hO fun g V=>rls r3 W V,gQ.rel hK r3 hF,IK Sf Ud fun x' h=>(by rw[hQ]at h;injection h.2.1 with I;subst I;exact absurd (d2 ((jz hA).2 ⟨SS,h.2.2⟩)) bv),TX⟩,sbgn [] r3,dec Pk⟩
  |true=>
   have TQ:=gQ.push (u:=.slice ax x.length cx) hK rfl hX;conv=>whnf
   refine .inl ?_;refine⟨be,be,mx,?_⟩;clear hK;have hK:=TQ;refine inc i ?_;intro I8 w3 r3;exact⟨(i+1,ro++[.slice ax x.length cx],Fd++[x],w3,_),⟨Pk,by dsimp only;rw[l1];omega,G.tr r3.cj,hR.rel r3 W,hG.rel r3 W,rV.cX hO fun g V=>rls r3 W V,gQ.rel hK r3 hF,OX Sf Ud ⟨Ye,hQ,((jz hA).1 (d1 rfl)).2⟩ fun x' h=>(by rw[hQ]at h;injection h.2.1 with I;exact I.symm),fun y hy=>(bB.1 hy).elim (TX y) fun hy=>(by rw[aX.1 hy];exact⟨SS,hxh2⟩)⟩,sbgn [(3,7)] r3 (hE:=⟨rfl,rfl,rfl,rfl,rfl,rfl,by dsimp only;rw[l1];rfl,rfl,trivial⟩),dec Pk⟩
 have Pk:=dE N Pk;rw[Pk,bK]at Sf;intro GE we re;have TQ:=gQ.cV (gQ.rel hK re hF) fun g V=>(Cv.nw V re:Nf w we g)
 refine⟨_,rfl,G.tr re.cj,Fd,⟨ro,TQ.1▸re.Df (id:=3) (sz:=1) (m:=ro.length) rfl (av _).symm mx bv TQ.2.1 fun U=>.inr (re.low 3 _ rfl U),TQ.1,TQ.2.2⟩,fun x=>?_,TX⟩;rw[Sf,hRe,hQe,hL];exact⟨fun ⟨l,Y,I,h3,h4⟩=>⟨⟨l,Y,I,h3⟩,h4⟩,fun⟨⟨l,Y,I,h3⟩,h4⟩=>⟨l,Y,I,h3,h4⟩⟩
theorem Kq{P:Program}{l:Env}{H:Hp}{nx:Nat}{Fd:KT}{α:Type}(st:α->Fg)(E8:α->Prop)(Y:mO P B ops l H nx iv w fun l' H' Pr K F=>∀O J,Rel H' Pr K B F O J->∃z,E8 z/\Sx.Sub B l' Pr O J (st z))
  (I:∀z,E8 z->Fd (st z).l (st z).H (st z).nx (st z).iv (st z).w):mO P B ops l H nx iv w Fd:=
 ⟨fun n O a J U sat Q hQ id=>Y.h n O a J U sat Q (fun l' H' Pr K F F' a' w'' hK sat'=>by
  obtain⟨z,hz,G9,r2,Pn⟩:=hK F' w'' sat'.rel
  exact hQ _ _ _ _ _ G9 a' w'' (I z hz) ⟨r2,sat'.size,sat'.defers,fun t v hv=>by obtain⟨_,v0,e1,e2⟩:=Pn t v hv;rw[sat'.env t v0 e1,e2],fun t v hv=>(Pn t v hv).1⟩) id⟩
section
variable{l:Env}{H:Hp}{nx n:Nat}{iv:Iv}{B:Nat}{w J F:World}{O:Nat->Sx.eH}{v v':Value}{qs:List Rat}{q:Rat}
theorem gF.app(G:gF J FF B iv v n qs)(ho:Fc J (fun g=>Cv FF B iv g/\v.ownBlock≠some g) Z qs)(Qg:Z.length=n)(hq:j6 J (fun g=>Cv FF B iv g/\v.ownBlock≠some g) cs q)(Pq:∀g,Cv FF B iv g->g<J.heap.size)(hB:B<=J.heap.size)
  (h5:F.ownsRow 0 T.Rat 4 v' (n+1) (Z.flatten++cs)) (h6:J.grownBy F v.ownBlock) (h7:v'.ownBlock=v.ownBlock\/v'.ownBlock=some J.heap.size):gF F FF B (en v'++iv) v' (n+1) (qs++[q]):=by
 have R:∀g,(Cv FF B iv g/\v.ownBlock≠some g)->F.heap[g]? =J.heap[g]? :=fun g V=>h6.block g (Pq g V.1) (Ne.symm V.2);have hm:∀p,p∈iv->p∈en v'++iv:=fun p hp=>List.mem_append_right _ hp;have hv:∀g,(Cv FF B iv g/\v.ownBlock≠some g)->(Cv FF B (en v'++iv) g/\v'.ownBlock≠some g):=fun g V=>by
  refine⟨V.1.mono hm,fun e=>?_⟩;rcases h7 with h7|h7
  .exact V.2 (h7▸e)
  .rw[h7]at e;injection e with e;have:=Pq g V.1;omega
 have hF:Fc F (fun g=>Cv FF B (en v'++iv) g/\v'.ownBlock≠some g) (Z++[cs]) (qs++[q]):=((ho.cX R).cV hv).push ((hq.cX R).cV hv);refine⟨⟨Z++[cs],by rw[List.flatten_append,List.flatten_singleton];exact h5,by rw[aV,Qg];rfl,hF⟩,fun g V=>?_⟩;rcases h7 with h7|h7
 .exact(G.new g (h7▸V)).mono hm
 .rw[h7]at V;injection V with V;subst V;exact .inr ⟨hB,_,_,List.mem_append_left _ (kX.2 ⟨h7,rfl⟩),lr,cG _⟩
theorem Gz(hτ:fG PG τ){x y:Operand}{ty:Nat}{pos:String}{b b2:Bool}{n1 c1 n2 c2:Nat}
  (hX:gF w FF B iv v n qs) (hO:dI w (fun g=>Cv FF B iv g/\v.ownBlock≠some g) (.agg #[.bool b,.slice a1 n1 c1,.bool b2,.slice a2 n2 c2]) q) (U:n<=1000) (E:ev l x=some (.o (.v v))) (hy:ev l y=some (.o (.s id 0 1 1)))
  (RE:dV H id=some (.box T.Rat [.v (.bool b),.v (.slice a1 n1 c1),.v (.bool b2),.v (.slice a2 n2 c2)]))
  (hK:∀O J v' F,Rel H nx iv B w O J->gF F FF B (en v'++iv) v' (n+1) (qs++[q])->J.grownBy F v.ownBlock->(v'.ownBlock=v.ownBlock\/v'.ownBlock=some J.heap.size)->Fd (.o (.v v')) H nx (en v'++iv) F):
  zU PG B ⟨dst,.call ⟨.builtin .append,⟨[x,y]⟩,⟨[T.lM,T.lM]⟩⟩,ty,pos,after,guard⟩ l H nx iv w Fd:=by
 obtain⟨Z,Y,I,h3⟩:=hX.row;have hF:=iw B;refine iP hτ (ae _) (xs:=Z.flatten) (news:=rC b a1 n1 c1 b2 a2 n2 c2) (m:=n) (k:=1) d8 d8 bv E hy (fun O J r=>⟨ownsRow.cX Y fun g V=>rls r hF (hX.new g V),fun g V=>Rel.not r hF (hX.new g V)⟩) rfl (by simp;exact⟨rfl,rfl,rfl,rfl⟩) mx be
  (fun O J r=>?_) (fun v' F=>en v'++iv) (fun O J v' F r QK S0=>ta r (fun g V=>Rel.not r hF (hX.new g V)) QK S0) (fun O J v' F r h5 h6 h7=>?_)
 .exact(fe.Kd (r.kJ (id:=id) (sz:=4) (n:=1) RE rfl bv (by simp;exact⟨rfl,rfl,rfl,rfl⟩)) bv).imp (fun h=>h) fun⟨ad,c,e1,e2⟩=>⟨ad,c,e1,fun j u hu=>(e2 j u hu).2⟩
 .exact hK O J v' F r ((hX.rel r hF).app (h3.cX fun g V=>rls r hF V.1) I (dI.cX hO fun g V=>rls r hF V.1).pj (fun g V=>rlo r hF g V) (by have:=r.base;have:=r.size;omega) h5 h6 h7) h6 h7
end
end Go.Ex
namespace Go.Ex
variable{x:Nat->Rat}
def Pj(Fn:List (List Rat))(b c:List Rat)(k:Nat)(q:Rat):Prop:=
 (k=1/\q=0/\∀x,¬HW Fn b c.length x)\/
 (k=2/\q=0/\(∃x,HW Fn b c.length x)/\∃r,HW (jI Fn c.length) (kU Fn.length) c.length r/\0<oo c r c.length)\/
 (k=0/\(∃x,HW Fn b c.length x/\oo c x c.length=q)/\(∀x,HW Fn b c.length x->oo c x c.length<=q)/\∀r,HW (jI Fn c.length) (kU Fn.length) c.length r->¬0<oo c r c.length)
section
variable{Fn:List (List Rat)}{b c:List Rat}{k l:Nat}{p q:Rat}
theorem DW(hA:iq c.length Fn)(A:b.length=Fn.length)(E:om Fn.length c.length (dU Fn) (fun i=>b.getD i 0) x):
  (∃z,HW Fn b c.length z/\cw (fun j=>c.getD j 0*x j) c.length<=oo c z c.length)\/((∃z,HW Fn b c.length z)/\∃r,KV Fn.length c.length (dU Fn) (fun j=>c.getD j 0) r):=by
 rcases JJ Fn.length c.length (dU Fn) (fun i=>b.getD i 0) (fun j=>c.getD j 0)with⟨y,hy⟩|⟨D,hD,hF,hE⟩
 .exact absurd (hy.no E) id
 .have hc:=hD.crn hA A hF
  cases hE with
  |CS h=>
   refine .inl ⟨_,hc,?_⟩;rw[JL,(hD.jv hF).2.2];exact hD.CS h E
  |MD s Y I h3=>exact .inr ⟨⟨_,hc⟩,_,hD.MD Y I h3⟩
theorem M0(hA:iq c.length Fn)(A:b.length=Fn.length)(h:Cert Fn.length c.length (dU Fn) (fun i=>b.getD i 0) (fun j=>c.getD j 0) k p)(g:Pj Fn b c l q):k=l/\p=q:=by
 cases h with
 |CS x y v E hy hc e1 e2=>
  rcases DW hA A E with⟨z,hz,hle⟩|⟨_,r,hr⟩
  .rcases g with⟨rfl,rfl,g1⟩|⟨rfl,rfl,-,r,g1,g2⟩|⟨rfl,⟨w,g1,g2⟩,g3,g4⟩
   .exact absurd hz (g1 z)
   .exact absurd g2 (KX hy hc g1)
   .refine⟨rfl,?_⟩;have k1:=g3 z hz;have k2:oo c w c.length<=_:=ET g1.ok hy hc;rw[e2]at k2;rw[e1]at hle;grind
  .exact absurd (ML hr hy hc) id
 |none y hy=>
  rcases g with⟨rfl,rfl,g1⟩|⟨rfl,rfl,⟨z,hz⟩,-⟩|⟨rfl,⟨z,hz,-⟩,-⟩
  .exact⟨rfl,rfl⟩
  .exact absurd (yO hy hz) id
  .exact absurd (yO hy hz) id
 |MD x z E hz=>
  obtain⟨r,Y,I⟩:=Hn hA hz;rcases g with⟨rfl,rfl,g1⟩|⟨rfl,rfl,-⟩|⟨rfl,-,-,g4⟩
  .rcases DW hA A E with⟨z,hz,_⟩|⟨⟨z,hz⟩,_⟩<;>exact absurd hz (g1 z)
  .exact⟨rfl,rfl⟩
  .exact absurd I (g4 r Y)
end
end Go.Ex
namespace Go.Ex
open Go Go.Sx Go.Proofs
variable{M:List (List (Int×Int))}{Fn:List (List Rat)}{b c:List Rat}{S:Nat->Prop}{d:Nat->Rat}{w:World}
theorem NB{n:Nat}(h:∀r∈Fn,∀q∈r,rl q<=3):∀r∈jI Fn n,∀q∈r,rl q<=3:=fun r hr q hq=>by
 rcases bB.1 hr with hr|hr
 .exact h r hr q hq
 .rcases List.mem_cons.1 hr with rfl|hr
  .rw[aY hq];decide
  .rw[aX.1 hr]at hq;rw[aY hq];decide
theorem HA{m:Nat}:∀q∈kU m,rl q<=3:=fun q hq=>by
 rcases bB.1 hq with hq|hq
 .rw[aY hq];decide
 .simp at hq;rcases hq with rfl|rfl<;>decide
theorem Eu(c x:List Rat):dY c x c.length=oo c x c.length:=gY c x c.length
theorem Kt{vm vb vc:Value}(W:Old S w)(hm:dS w S vm Fn)(A:dC w S vb b)(hc:dC w S vc c)(hA:iq c.length Fn)(Pw:b.length=Fn.length)(hA4:Fn.length<=4)(Yk:c.length<=3)(rA:∀r∈Fn,∀q∈r,rl q<=3)(rb:∀q∈b,rl q<=3)(rc:∀q∈c,rl q<=3):
  eL PG FS.wN #[.agg #[vm,vb,vc]] w (eY w fun v F=>∃(k:Nat) (q:Rat) (g0:Bool) (g1:Option Addr) (g2 g3:Nat) (g4:Bool) (g5:Option Addr) (g6 g7:Nat),v= .tuple #[.int .i64 k,.agg #[.bool g0,.slice g1 g2 g3,.bool g4,.slice g5 g6 g7]]/\
   dI F (Nf w F) (.agg #[.bool g0,.slice g1 g2 g3,.bool g4,.slice g5 g6 g7]) q/\rl q<=2000/\Pj Fn b c k q):=by
 have hF:=iw w.heap.size;have G:=bR w;have hm':=hm;obtain⟨rv0,⟨UR,XA,Y,am,cm,rfl,SF,QA⟩,hl,Uh⟩:=hm';unfold maxLen at UR;obtain⟨ab,cb,rfl,RK,Te⟩:=dN.shape A;obtain⟨ac,cc,rfl,Vd,SR⟩:=dN.shape hc;refine yw ce ?_;refine cW (cU (GT:=fun _ J v F=>∃Fd:List (List Rat),db F (Nf J F) v Fd/\(∀x,x∈Fd↔HW Fn b c.length x)/\∀x∈Fd,x.length=c.length/\∀q∈x,rl q+1<=256) (fun O J r=>Bp (oS W r) (dS.cX hm ((kS G r W))) (dC.cX A ((kS G r W))) hA Pw be Yk rA rb) ?_);rintro O wa v1 wb r L QC ⟨Fd,hO,hKm,hKh⟩;have hK:=db.cV hO fun g V=>(V.ep r.cZ aF:Cv S w.heap.size ((wa.heap.size,wb.heap.size)::[]) g)
 replace G:=G.tr QC;clear r L QC;generalize (wa.heap.size,wb.heap.size)::[]=iv at*
 obtain⟨ak,ck,rfl,hck,Wk⟩:=dH.shape hK;conv=>whnf
 apply bS<;>intro TE
 .have TE:Fd=[]:=by
   have:Fd.length=0:=by simpa using TE
   exact List.length_eq_zero_iff.1 this
  refine cW (cU (GT:=fun _ J v F=>dI F (Nf J F) v ((0:Int):Rat)) (fun O J r=>fm 0 J bv) ?_);rintro O wa v9 wb r L QC hO;have hZ:=dI.ep (S:=FF) hO r.cZ (iv:=(wa.heap.size,wb.heap.size)::iv) aF;replace G:=G.tr QC;clear r L QC;generalize (wa.heap.size,wb.heap.size)::iv=iv2 at*
  rw[show ((0:Int):Rat)=0 by decide]at hZ;obtain⟨o0,o1,o2,o3,o4,o5,o6,o7,rfl⟩:=dI.shape hZ;exact rtn G fun GE we re=>⟨1,_,_,_,_,_,_,_,_,_,rfl,dI.out hZ re hF,(by decide:rl 0<=2000),.inl ⟨rfl,rfl,fun x E=>by have:=(hKm x).2 E;rw[TE]at this;cases this⟩⟩
 have TE:0<Fd.length:=Nat.pos_of_ne_zero fun e=>by rw[e]at TE;simp at TE
 refine Kq (α:=Value×Value×World×Iv) (fun z=>⟨[(1,pP 0 0),(2,iZ 0),(3,pP 1 0),(4,sV ak Fd.length ck),(5,pP 2 0)],[(2,.box T.Program [.w 3 (0+Fn.length+2),.v nls,.v (.slice ac c.length cc)]),(3,.vec T.lM 1 (rv0++[z.1,z.2.1])),(0,.box T.Program [.v (.slice am Fn.length cm),.v (.slice ab b.length cb),.v (.slice ac c.length cc)]),(1,.box T.Rat [.v (.bool false),.v nls,.v (.bool false),.v nls])],4,z.2.2.2,z.2.2.1⟩) (fun z=>Bq w z.2.2.1/\db z.2.2.1 (Cv S w.heap.size z.2.2.2) (.slice ak Fd.length ck) Fd/\ed z.2.2.1 (Cv S w.heap.size z.2.2.2) (rv0++[z.1,z.2.1]) (jI Fn c.length)) ?_ ?_
 .have Tk:ed wb (Cv S w.heap.size iv) rv0 Fn:=⟨hl,Y,fun i u x k1 k2=>dC.cV (dC.cX (Uh i u x k1 k2) fun g V=>G.block g (W g V)) fun g V=>.inl V⟩
  refine oa hτ uw (.x 0 (.x 3 (.x 6 (.x 10 (.ld 1 327680 (.ld 4 385568 (.ld 7 385792 (.x 8 (.ld 11 389120 (.x 12 (.two 2 (.two 5 (.two 9 (.two 13 (.two 14 (.two 15 (.x 16 (.x 17 (.x 18 .nil))) 17 (.x 15 (.x 16 (.x 18 .nil)))) 17 (.x 14 (.x 15 (.x 16 (.x 18 .nil))))) 17 (.x 13 (.x 14 (.x 15 (.x 16 (.x 18 .nil)))))) 17 (.x 9 (.x 13 (.x 14 (.x 15 (.x 16 (.x 18 .nil))))))) 17 (.x 5 (.x 9 (.x 13 (.x 14 (.x 15 (.x 16 (.x 18 .nil)))))))) 17 (.x 2 (.x 5 (.x 9 (.x 13 (.x 14 (.x 15 (.x 16 (.x 18 .nil))))))))))))))))))) d9 d9 ?_;refine⟨?_,?_⟩
  .conv=>whnf
   refine⟨rfl,rfl,rfl,rfl,?_,?_⟩
   .conv=>whnf
    conv=>whnf
    refine .inl ?_;refine⟨rv0,XA,Y,fun O J r QU=>?_,?_⟩
    .obtain⟨u0,UX⟩:=gO rv0 0;obtain⟨ad,ha,_,_⟩:=QA 0 u0 UX;refine⟨ad,ha,fun j u hj=>?_⟩;obtain⟨ad2,Qm,q1,q2⟩:=QA j u hj;rw[ha]at Qm;injection Qm with Qm;subst Qm;rw[cd (w:=w) (F:=J) (by rw[df];exact(G.tr r.cj).block _ (W _ q1))];exact q2
    refine⟨rfl,be,mx,rfl,rfl,rfl,?_,?_⟩
    .conv=>whnf
     refine cU (GT:=fun _ J v F=>cg F (Nf J F) v (List.replicate c.length ((1:Int):Rat))) (fun O J r=>nD c.length 1 J be bv) ?_;rintro O wa v9 wb r L QC hO;have Sy:=cg.ep (S:=S) hO r.cZ (iv:=(wa.heap.size,wb.heap.size)::iv) aF;replace hK:=db.cS (K:=(wa.heap.size,wb.heap.size)::iv) hK r W L fun p hp=>aD _ hp;replace Tk:=ed.cS (K:=(wa.heap.size,wb.heap.size)::iv) Tk r W L fun p hp=>aD _ hp;replace G:=G.tr QC;clear r L QC;generalize (wa.heap.size,wb.heap.size)::iv=iv2 at*
     obtain⟨x9,y9,rfl,-,-⟩:=dN.shape Sy;rw[aj]at Sy ⊢;refine⟨rfl,rfl,?_,?_⟩
     .conv=>whnf
      refine cU (GT:=fun _ J v F=>cg F (Nf J F) v (List.replicate c.length (((-1):Int):Rat))) (fun O J r=>nD c.length (-1) J be bv) ?_;rintro O wa v13 wb r L QC hO;have TK:=cg.ep (S:=S) hO r.cZ (iv:=(wa.heap.size,wb.heap.size)::iv2) aF;replace hK:=db.cS (K:=(wa.heap.size,wb.heap.size)::iv2) hK r W L fun p hp=>aD _ hp;replace Tk:=ed.cS (K:=(wa.heap.size,wb.heap.size)::iv2) Tk r W L fun p hp=>aD _ hp;replace Sy:=cg.cS (K:=(wa.heap.size,wb.heap.size)::iv2) Sy r W L fun p hp=>aD _ hp;replace G:=G.tr QC;clear r L QC;generalize (wa.heap.size,wb.heap.size)::iv2=Pu at*
      obtain⟨x13,y13,rfl,-,-⟩:=dN.shape TK;rw[aj]at TK ⊢;refine⟨rfl,?_,?_⟩
      .conv=>whnf
       refine⟨rfl,?_,?_⟩
       .conv=>whnf
        conv=>whnf
        refine .inl ?_;refine⟨by simp;omega,be,mx,rfl,rfl,?_⟩;intro I8 w3 r3;refine⟨(.slice x9 c.length y9,.slice x13 c.length y13,w3,_),⟨G.tr r3.cj,db.rel hK r3 W,?_⟩,sbgn [(2,6),(3,5)] r3⟩;have h:=((Tk.rel r3 W).push (u:=.slice x9 c.length y9) rfl (cg.l (cg.rel Sy r3 W) fun q hq=>(by rw[aY hq];decide))).push (u:=.slice x13 c.length y13) rfl (cg.l (cg.rel TK r3 W) fun q hq=>(by rw[aY hq];decide));rw[bJ,bJ]at h;exact h
       .conv=>whnf
        refine⟨rfl,?_⟩;conv=>whnf
        refine .inl ?_;refine⟨by simp;omega,be,mx,rfl,?_⟩;intro I8 w3 r3;refine⟨(.slice x9 c.length y9,.slice x13 c.length y13,w3,_),⟨G.tr r3.cj,db.rel hK r3 W,?_⟩,sbgn [(2,5),(3,6)] r3⟩;have h:=((Tk.rel r3 W).push (u:=.slice x9 c.length y9) rfl (cg.l (cg.rel Sy r3 W) fun q hq=>(by rw[aY hq];decide))).push (u:=.slice x13 c.length y13) rfl (cg.l (cg.rel TK r3 W) fun q hq=>(by rw[aY hq];decide));rw[bJ,bJ]at h;exact h
      .conv=>whnf
       refine⟨rfl,rfl,?_⟩;conv=>whnf
       refine .inl ?_;refine⟨by simp;omega,be,mx,rfl,?_⟩;intro I8 w3 r3;refine⟨(.slice x9 c.length y9,.slice x13 c.length y13,w3,_),⟨G.tr r3.cj,db.rel hK r3 W,?_⟩,sbgn [(2,4),(3,6)] r3⟩;have h:=((Tk.rel r3 W).push (u:=.slice x9 c.length y9) rfl (cg.l (cg.rel Sy r3 W) fun q hq=>(by rw[aY hq];decide))).push (u:=.slice x13 c.length y13) rfl (cg.l (cg.rel TK r3 W) fun q hq=>(by rw[aY hq];decide));rw[bJ,bJ]at h;exact h
     .conv=>whnf
      refine⟨rfl,rfl,?_⟩;refine cU (GT:=fun _ J v F=>cg F (Nf J F) v (List.replicate c.length (((-1):Int):Rat))) (fun O J r=>nD c.length (-1) J be bv) ?_;rintro O wa v13 wb r L QC hO;have TK:=cg.ep (S:=S) hO r.cZ (iv:=(wa.heap.size,wb.heap.size)::iv2) aF;replace hK:=db.cS (K:=(wa.heap.size,wb.heap.size)::iv2) hK r W L fun p hp=>aD _ hp;replace Tk:=ed.cS (K:=(wa.heap.size,wb.heap.size)::iv2) Tk r W L fun p hp=>aD _ hp;replace Sy:=cg.cS (K:=(wa.heap.size,wb.heap.size)::iv2) Sy r W L fun p hp=>aD _ hp;replace G:=G.tr QC;clear r L QC;generalize (wa.heap.size,wb.heap.size)::iv2=Pu at*
      obtain⟨x13,y13,rfl,-,-⟩:=dN.shape TK;rw[aj]at TK ⊢;refine⟨rfl,rfl,?_⟩;conv=>whnf
      refine .inl ?_;refine⟨by simp;omega,be,mx,rfl,?_⟩;intro I8 w3 r3;refine⟨(.slice x9 c.length y9,.slice x13 c.length y13,w3,_),⟨G.tr r3.cj,db.rel hK r3 W,?_⟩,sbgn [(2,4),(3,6)] r3⟩;have h:=((Tk.rel r3 W).push (u:=.slice x9 c.length y9) rfl (cg.l (cg.rel Sy r3 W) fun q hq=>(by rw[aY hq];decide))).push (u:=.slice x13 c.length y13) rfl (cg.l (cg.rel TK r3 W) fun q hq=>(by rw[aY hq];decide));rw[bJ,bJ]at h;exact h
    .conv=>whnf
     refine⟨rfl,rfl,rfl,?_⟩;refine cU (GT:=fun _ J v F=>cg F (Nf J F) v (List.replicate c.length ((1:Int):Rat))) (fun O J r=>nD c.length 1 J be bv) ?_;rintro O wa v9 wb r L QC hO;have Sy:=cg.ep (S:=S) hO r.cZ (iv:=(wa.heap.size,wb.heap.size)::iv) aF;replace hK:=db.cS (K:=(wa.heap.size,wb.heap.size)::iv) hK r W L fun p hp=>aD _ hp;replace Tk:=ed.cS (K:=(wa.heap.size,wb.heap.size)::iv) Tk r W L fun p hp=>aD _ hp;replace G:=G.tr QC;clear r L QC;generalize (wa.heap.size,wb.heap.size)::iv=iv2 at*
     obtain⟨x9,y9,rfl,-,-⟩:=dN.shape Sy;rw[aj]at Sy ⊢;refine⟨rfl,rfl,?_⟩;refine cU (GT:=fun _ J v F=>cg F (Nf J F) v (List.replicate c.length (((-1):Int):Rat))) (fun O J r=>nD c.length (-1) J be bv) ?_;rintro O wa v13 wb r L QC hO;have TK:=cg.ep (S:=S) hO r.cZ (iv:=(wa.heap.size,wb.heap.size)::iv2) aF;replace hK:=db.cS (K:=(wa.heap.size,wb.heap.size)::iv2) hK r W L fun p hp=>aD _ hp;replace Tk:=ed.cS (K:=(wa.heap.size,wb.heap.size)::iv2) Tk r W L fun p hp=>aD _ hp;replace Sy:=cg.cS (K:=(wa.heap.size,wb.heap.size)::iv2) Sy r W L fun p hp=>aD _ hp;replace G:=G.tr QC;clear r L QC;generalize (wa.heap.size,wb.heap.size)::iv2=Pu at*
     obtain⟨x13,y13,rfl,-,-⟩:=dN.shape TK;rw[aj]at TK ⊢;refine⟨rfl,rfl,?_⟩;conv=>whnf
     refine .inl ?_;refine⟨by simp;omega,be,mx,rfl,?_⟩;intro I8 w3 r3;refine⟨(.slice x9 c.length y9,.slice x13 c.length y13,w3,_),⟨G.tr r3.cj,db.rel hK r3 W,?_⟩,sbgn [(2,4),(3,6)] r3⟩;have h:=((Tk.rel r3 W).push (u:=.slice x9 c.length y9) rfl (cg.l (cg.rel Sy r3 W) fun q hq=>(by rw[aY hq];decide))).push (u:=.slice x13 c.length y13) rfl (cg.l (cg.rel TK r3 W) fun q hq=>(by rw[aY hq];decide));rw[bJ,bJ]at h;exact h
   .conv=>whnf
    refine⟨rfl,rfl,rfl,rfl,?_⟩;conv=>whnf
    refine .inl ?_;refine⟨rv0,XA,Y,fun O J r QU=>?_,?_⟩
    .obtain⟨u0,UX⟩:=gO rv0 0;obtain⟨ad,ha,_,_⟩:=QA 0 u0 UX;refine⟨ad,ha,fun j u hj=>?_⟩;obtain⟨ad2,Qm,q1,q2⟩:=QA j u hj;rw[ha]at Qm;injection Qm with Qm;subst Qm;rw[cd (w:=w) (F:=J) (by rw[df];exact(G.tr r.cj).block _ (W _ q1))];exact q2
    refine⟨rfl,be,mx,rfl,rfl,rfl,?_⟩;refine cU (GT:=fun _ J v F=>cg F (Nf J F) v (List.replicate c.length ((1:Int):Rat))) (fun O J r=>nD c.length 1 J be bv) ?_;rintro O wa v9 wb r L QC hO;have Sy:=cg.ep (S:=S) hO r.cZ (iv:=(wa.heap.size,wb.heap.size)::iv) aF;replace hK:=db.cS (K:=(wa.heap.size,wb.heap.size)::iv) hK r W L fun p hp=>aD _ hp;replace Tk:=ed.cS (K:=(wa.heap.size,wb.heap.size)::iv) Tk r W L fun p hp=>aD _ hp;replace G:=G.tr QC;clear r L QC;generalize (wa.heap.size,wb.heap.size)::iv=iv2 at*
    obtain⟨x9,y9,rfl,-,-⟩:=dN.shape Sy;rw[aj]at Sy ⊢;refine⟨rfl,rfl,?_⟩;refine cU (GT:=fun _ J v F=>cg F (Nf J F) v (List.replicate c.length (((-1):Int):Rat))) (fun O J r=>nD c.length (-1) J be bv) ?_;rintro O wa v13 wb r L QC hO;have TK:=cg.ep (S:=S) hO r.cZ (iv:=(wa.heap.size,wb.heap.size)::iv2) aF;replace hK:=db.cS (K:=(wa.heap.size,wb.heap.size)::iv2) hK r W L fun p hp=>aD _ hp;replace Tk:=ed.cS (K:=(wa.heap.size,wb.heap.size)::iv2) Tk r W L fun p hp=>aD _ hp;replace Sy:=cg.cS (K:=(wa.heap.size,wb.heap.size)::iv2) Sy r W L fun p hp=>aD _ hp;replace G:=G.tr QC;clear r L QC;generalize (wa.heap.size,wb.heap.size)::iv2=Pu at*
    obtain⟨x13,y13,rfl,-,-⟩:=dN.shape TK;rw[aj]at TK ⊢;refine⟨rfl,rfl,?_⟩;conv=>whnf
    refine .inl ?_;refine⟨by simp;omega,be,mx,rfl,?_⟩;intro I8 w3 r3;refine⟨(.slice x9 c.length y9,.slice x13 c.length y13,w3,_),⟨G.tr r3.cj,db.rel hK r3 W,?_⟩,sbgn [(2,3),(3,6)] r3⟩;have h:=((Tk.rel r3 W).push (u:=.slice x9 c.length y9) rfl (cg.l (cg.rel Sy r3 W) fun q hq=>(by rw[aY hq];decide))).push (u:=.slice x13 c.length y13) rfl (cg.l (cg.rel TK r3 W) fun q hq=>(by rw[aY hq];decide));rw[bJ,bJ]at h;exact h
  .conv=>whnf
   refine⟨rfl,rfl,rfl,rfl,rfl,rfl,rfl,rfl,?_⟩;conv=>whnf
   refine .inl ?_;refine⟨rv0,XA,Y,fun O J r QU=>?_,?_⟩
   .obtain⟨u0,UX⟩:=gO rv0 0;obtain⟨ad,ha,_,_⟩:=QA 0 u0 UX;refine⟨ad,ha,fun j u hj=>?_⟩;obtain⟨ad2,Qm,q1,q2⟩:=QA j u hj;rw[ha]at Qm;injection Qm with Qm;subst Qm;rw[cd (w:=w) (F:=J) (by rw[df];exact(G.tr r.cj).block _ (W _ q1))];exact q2
   refine⟨rfl,be,mx,rfl,rfl,rfl,?_⟩;refine cU (GT:=fun _ J v F=>cg F (Nf J F) v (List.replicate c.length ((1:Int):Rat))) (fun O J r=>nD c.length 1 J be bv) ?_;rintro O wa v9 wb r L QC hO;have Sy:=cg.ep (S:=S) hO r.cZ (iv:=(wa.heap.size,wb.heap.size)::iv) aF;replace hK:=db.cS (K:=(wa.heap.size,wb.heap.size)::iv) hK r W L fun p hp=>aD _ hp;replace Tk:=ed.cS (K:=(wa.heap.size,wb.heap.size)::iv) Tk r W L fun p hp=>aD _ hp;replace G:=G.tr QC;clear r L QC;generalize (wa.heap.size,wb.heap.size)::iv=iv2 at*
   obtain⟨x9,y9,rfl,-,-⟩:=dN.shape Sy;rw[aj]at Sy ⊢;refine⟨rfl,rfl,?_⟩;refine cU (GT:=fun _ J v F=>cg F (Nf J F) v (List.replicate c.length (((-1):Int):Rat))) (fun O J r=>nD c.length (-1) J be bv) ?_;rintro O wa v13 wb r L QC hO;have TK:=cg.ep (S:=S) hO r.cZ (iv:=(wa.heap.size,wb.heap.size)::iv2) aF;replace hK:=db.cS (K:=(wa.heap.size,wb.heap.size)::iv2) hK r W L fun p hp=>aD _ hp;replace Tk:=ed.cS (K:=(wa.heap.size,wb.heap.size)::iv2) Tk r W L fun p hp=>aD _ hp;replace Sy:=cg.cS (K:=(wa.heap.size,wb.heap.size)::iv2) Sy r W L fun p hp=>aD _ hp;replace G:=G.tr QC;clear r L QC;generalize (wa.heap.size,wb.heap.size)::iv2=Pu at*
   obtain⟨x13,y13,rfl,-,-⟩:=dN.shape TK;rw[aj]at TK ⊢;refine⟨rfl,rfl,?_⟩;conv=>whnf
   refine .inl ?_;refine⟨by simp;omega,be,mx,rfl,?_⟩;intro I8 w3 r3;refine⟨(.slice x9 c.length y9,.slice x13 c.length y13,w3,_),⟨G.tr r3.cj,db.rel hK r3 W,?_⟩,sbgn [(2,2),(3,6)] r3⟩;have h:=((Tk.rel r3 W).push (u:=.slice x9 c.length y9) rfl (cg.l (cg.rel Sy r3 W) fun q hq=>(by rw[aY hq];decide))).push (u:=.slice x13 c.length y13) rfl (cg.l (cg.rel TK r3 W) fun q hq=>(by rw[aY hq];decide));rw[bJ,bJ]at h;exact h
 clear G hK;rintro⟨v1,v2,w1,iv⟩ ⟨G,hK,hR⟩;dsimp only at G hK hR ⊢;have QO:(rv0++[v1,v2]).length=0+Fn.length+2:=by simp;omega
 refine cW (cU (GT:=fun _ J v F=>gF F FF J.heap.size [(J.heap.size,F.heap.size)] v Fn.length (List.replicate Fn.length ((0:Int):Rat))) (fun O J r=>Dj Fn.length J be) ?_);rintro O wa u0 wb r L Ql hX;have TY:∀g,u0.ownBlock=some g->¬Cv S w.heap.size iv g/\w.heap.size<=g:=fun g e=>by
  have hB:=r.cZ;rcases hX.new g e with Y|⟨Y,-⟩
  .exact Y.elim
  .exact⟨fun hc=>by have:=rlo r W g hc;omega,be⟩
 replace hX:=hX.ep (S:=FF) (iv:=(wa.heap.size,wb.heap.size)::iv) r.cZ aF;have R5:∀g,Cv S w.heap.size iv g->wb.heap[g]? =w1.heap[g]? :=fun g V=>by rw[L.block g (rlo r W g V),rls r W V]
 replace hR:=hR.kp R5;replace hK:=db.cX hK R5;replace G:=G.tr Ql;have Pn:∀p,p∈iv->p∈(wa.heap.size,wb.heap.size)::iv:=fun p hp=>aD _ hp;clear R5 r L Ql;generalize (wa.heap.size,wb.heap.size)::iv=ivc at*
 refine cW (cU (GT:=fun _ J v F=>dI F (Nf J F) v ((1:Int):Rat)) (fun O J r=>fm 1 J bv) ?_);rintro O wa t wd r L Ql hO;have Qh:dI wd (fun g=>Cf w ((wa.heap.size,wd.heap.size)::ivc) g/\u0.ownBlock≠some g) t ((1:Int):Rat):=hO.cV fun g V=>by
  rcases V with V|V
  .exact V.elim
  .have hB:=r.cZ;refine⟨.inr ⟨be,_,_,aF,V.1,V.2⟩,fun e=>?_⟩;have:=rlo r hF g (hX.new g e);omega
 have R5:∀g,Cv S w.heap.size iv g->wd.heap[g]? =wb.heap[g]? :=fun g V=>by rw[L.block g (rlo r W g (V.mono Pn)),rls r W (V.mono Pn)]
 replace hX:=hX.cS (K:=(wa.heap.size,wd.heap.size)::ivc) r hF L fun x E=>aD _ E;replace hR:=hR.kp R5;replace hK:=db.cX hK R5;replace G:=G.tr Ql;replace Pn:∀p,p∈iv->p∈(wa.heap.size,wd.heap.size)::ivc:=fun p hp=>aD _ (Pn p hp);clear R5 r L Ql hO;generalize (wa.heap.size,wd.heap.size)::ivc=ivd at*
 obtain⟨_,_,_,_,_,_,_,_,rfl⟩:=Qh.shape;conv=>whnf
 refine .inr (Gz hτ hX Qh be rfl rfl rfl fun O J u1 F r hX2 QW h7=>?_);have R5:∀g,Cv S w.heap.size iv g->F.heap[g]? =wd.heap[g]? :=fun g V=>by
  rw[<-rls r W (V.mono Pn)];exact QW.block g (rlo r W g (V.mono Pn)) fun e=>(TY g e.symm).1 V
 have YL:∀g,u1.ownBlock=some g->¬Cv S w.heap.size iv g/\w.heap.size<=g:=fun g e=>by
  rcases h7 with h7|h7
  .exact TY g (h7▸e)
  .rw[h7]at e;injection e with e;subst e;exact⟨fun hc=>by have:=rlo r W _ (hc.mono Pn);omega,r.cZ⟩
 replace hR:=hR.kp R5;replace hK:=db.cX hK R5;replace G:=G.tr r.cj;replace G:Bq w F:=G.tr (Bel.grown QW (fun g V=>(TY g V).2) (by have:=G.size;omega));replace Pn:∀p,p∈iv->p∈en u1++ivd:=fun p hp=>List.mem_append_right _ (Pn p hp);clear R5 QW h7 hX Qh TY r;have hX:=hX2;have TY:=YL;clear hX2 YL;generalize en u1++ivd=ivc at*
 refine cW (cU (GT:=fun _ J v F=>dI F (Nf J F) v (((-1):Int):Rat)) (fun O J r=>fm (-1) J bv) ?_);rintro O wa t wd r L Ql hO;have Qh:dI wd (fun g=>Cf w ((wa.heap.size,wd.heap.size)::ivc) g/\u1.ownBlock≠some g) t (((-1):Int):Rat):=hO.cV fun g V=>by
  rcases V with V|V
  .exact V.elim
  .have hB:=r.cZ;refine⟨.inr ⟨be,_,_,aF,V.1,V.2⟩,fun e=>?_⟩;have:=rlo r hF g (hX.new g e);omega
 have R5:∀g,Cv S w.heap.size iv g->wd.heap[g]? =F.heap[g]? :=fun g V=>by rw[L.block g (rlo r W g (V.mono Pn)),rls r W (V.mono Pn)]
 replace hX:=hX.cS (K:=(wa.heap.size,wd.heap.size)::ivc) r hF L fun x E=>aD _ E;replace hR:=hR.kp R5;replace hK:=db.cX hK R5;replace G:=G.tr Ql;replace Pn:∀p,p∈iv->p∈(wa.heap.size,wd.heap.size)::ivc:=fun p hp=>aD _ (Pn p hp);clear R5 r L Ql hO;generalize (wa.heap.size,wd.heap.size)::ivc=ivd at*
 obtain⟨_,_,_,_,_,_,_,_,rfl⟩:=Qh.shape;conv=>whnf
 refine .inr (Gz hτ hX Qh be rfl rfl rfl fun O J u2 F r hX2 QW h7=>?_);have R5:∀g,Cv S w.heap.size iv g->F.heap[g]? =wd.heap[g]? :=fun g V=>by
  rw[<-rls r W (V.mono Pn)];exact QW.block g (rlo r W g (V.mono Pn)) fun e=>(TY g e.symm).1 V
 have YL:∀g,u2.ownBlock=some g->¬Cv S w.heap.size iv g/\w.heap.size<=g:=fun g e=>by
  rcases h7 with h7|h7
  .exact TY g (h7▸e)
  .rw[h7]at e;injection e with e;subst e;exact⟨fun hc=>by have:=rlo r W _ (hc.mono Pn);omega,r.cZ⟩
 replace hR:=hR.kp R5;replace hK:=db.cX hK R5;replace G:=G.tr r.cj;replace G:Bq w F:=G.tr (Bel.grown QW (fun g V=>(TY g V).2) (by have:=G.size;omega));replace Pn:∀p,p∈iv->p∈en u2++ivd:=fun p hp=>List.mem_append_right _ (Pn p hp);clear R5 QW h7 hX Qh TY r;have hX:=hX2;have TY:=YL;clear hX2 YL;generalize en u2++ivd=ivc at*
 replace hK:=db.cV hK fun g V=>(V.mono Pn:Cv S w.heap.size ivc g)
 replace hR:=hR.cV fun g V=>(V.mono Pn:Cv S w.heap.size ivc g)
 have hbc:dC F (Cv S w.heap.size ivc) u2 (kU Fn.length):=by
  have h:=hX.aAP;rw[bJ]at h;exact cg.l (cg.cV h fun g V=>qj V) fun q hq=>aR (HA q hq) bv
 clear hX TY Pn;refine cW (cU (GT:=fun _ J v F=>∃Fd:List (List Rat),db F (Nf J F) v Fd/\(∀x,x∈Fd↔HW (jI Fn c.length) (kU Fn.length) c.length x)/\∀x∈Fd,x.length=c.length/\∀q∈x,rl q+1<=256) (fun O J r=>Bp (S:=fun g=>g<J.heap.size) (fun g V=>V) (by have h:=hR.asM (id:=3) r W rfl mx;rw[QO]at h;exact h) (dC.cV (dC.rel hbc r W) fun g V=>rlo r W g V) (GO hA) wM (by rw[kV];omega) Yk (NB rA) HA) ?_);rintro O wa v11 wb r L QC ⟨K2,hO,hK2m,hK2h⟩;have TQ:=db.cV hO fun g V=>(V.ep r.cZ aF:Cv S w.heap.size ((wa.heap.size,wb.heap.size)::ivc) g)
 replace hK:=db.cS (K:=(wa.heap.size,wb.heap.size)::ivc) hK r W L fun p hp=>aD _ hp;replace G:=G.tr QC;clear r L QC;generalize (wa.heap.size,wb.heap.size)::ivc=QH at*
 clear hbc hR QO;obtain⟨ar,cr,rfl,VM,hmr⟩:=dH.shape TQ;unfold maxLen at hmr Wk;have Vt:∀q∈c,rl q+1<=256:=fun q hq=>by have:=rc q hq;omega
 obtain⟨x0,Qd⟩:=gO Fd 0;refine⟨Nat×World×Iv,fun z=>⟨[(1,pP 0 0),(2,iZ 0),(3,pP 1 0),(4,sV ak Fd.length ck),(7,sV ar K2.length cr),(8,iN z.1)],[(0,.box T.Program [.v (.slice am Fn.length cm),.v (.slice ab b.length cb),.v (.slice ac c.length cc)]),(1,.box T.Rat [.v (.bool false),.v nls,.v (.bool false),.v nls])],2,z.2.2,z.2.1⟩,fun z=>K2.length-z.1,fun z=>z.1<=K2.length/\Bq w z.2.1/\db z.2.1 (Cv S w.heap.size z.2.2) (.slice ak Fd.length ck) Fd/\db z.2.1 (Cv S w.heap.size z.2.2) (.slice ar K2.length cr) K2/\∀r∈K2.take z.1,¬0<oo c r c.length,?_,?_⟩
 .intro O J r;exact⟨(0,J,_),⟨ae _,G.tr r.cj,db.rel hK r W,db.rel TQ r W,ce⟩,sbgn [] r⟩
 clear G hK TQ;rintro⟨i,w1,iv⟩ ⟨N,G,hK,TQ,Ta⟩;dsimp only at N G hK TQ Ta ⊢;apply bS<;>intro Pk
 .have Pk:=dL Pk;obtain⟨t,ht⟩:=gO K2 i;have htm:=aG ht;obtain⟨Xw,hth⟩:=hK2h t htm;obtain⟨adm,um,UN,S7,km1,km2⟩:=dH.load TQ ht;obtain⟨at',ct,rfl,hct,-⟩:=dN.shape S7;refine dP (idO 9) ?_;refine⟨adm,UN,be,.slice at' t.length ct,fun O J r=>?_,?_⟩
  .rw[aK,cd (w:=w1) (F:=J) (by rw[df];exact rls r W km1)];exact km2
  have S5:=fo Vt hth bv c.length;refine cU (GT:=fun _ J v F=>dI F (Nf J F) v (dY c t c.length)) (fun O J r=>tF (h:=256) (rlo r W) (dC.cV (dC.cX hc ((kS G r W))) fun g V=>(.inl V:Cv S w.heap.size _ g)) (cg.l (cg.rel S7 r W) fun q hq=>by have:=hth q hq;omega) Xw.symm Vt hth bv be) ?_;rintro O wa v12 wb r L QC hO;have hD:=dI.ep (S:=FF) hO r.cZ (iv:=(wa.heap.size,wb.heap.size)::iv) aF;replace hK:=db.cS (K:=(wa.heap.size,wb.heap.size)::iv) hK r W L fun p hp=>aD _ hp;replace TQ:=db.cS (K:=(wa.heap.size,wb.heap.size)::iv) TQ r W L fun p hp=>aD _ hp;replace G:=G.tr QC;clear r L QC;generalize (wa.heap.size,wb.heap.size)::iv=iv2 at*
  rw[Eu]at hD S5;obtain⟨_,_,_,_,_,_,_,_,rfl⟩:=dI.shape hD;refine cU (GT:=fun _ J v F=>v=iV (rs (oo c t c.length))) (fun O J r=>kL (rlo r hF) (dI.l (dI.rel hD r hF) be)) ?_;rintro O wa v13 wb r L QC rfl;replace hK:=db.cS (K:=(wa.heap.size,wb.heap.size)::iv2) hK r W L fun p hp=>aD _ hp;replace TQ:=db.cS (K:=(wa.heap.size,wb.heap.size)::iv2) TQ r W L fun p hp=>aD _ hp;replace G:=G.tr QC;clear r L QC;generalize (wa.heap.size,wb.heap.size)::iv2=Pu at*
  apply bS<;>intro V
  .have V:0<oo c t c.length:=gv.1 (aJ V);refine cW (cU (GT:=fun _ J v F=>dI F (Nf J F) v ((0:Int):Rat)) (fun O J r=>fm 0 J bv) ?_);rintro O wa v9 wb r L QC hO;have hZ:=dI.ep (S:=FF) hO r.cZ (iv:=(wa.heap.size,wb.heap.size)::Pu) aF;replace G:=G.tr QC;clear r L QC;generalize (wa.heap.size,wb.heap.size)::Pu=QD at*
   rw[show ((0:Int):Rat)=0 by decide]at hZ;obtain⟨o0,o1,o2,o3,o4,o5,o6,o7,rfl⟩:=dI.shape hZ;exact rtn G fun GE we re=>⟨2,_,_,_,_,_,_,_,_,_,rfl,dI.out hZ re hF,(by decide:rl 0<=2000),.inr (.inl ⟨rfl,rfl,⟨x0,(hKm x0).1 (aG Qd)⟩,t,(hK2m t).1 htm,V⟩)⟩
  have V:¬0<oo c t c.length:=fun h=>absurd (gv.2 h) (aL V);refine inc i ?_;intro I8 w3 r3
  exact⟨(i+1,w3,_),⟨Pk,G.tr r3.cj,db.rel hK r3 W,db.rel TQ r3 W,fun x E=>(by
   rw[show (i+1,w3,Pu).1=i+1 from rfl,<-ij ht]at E
   exact(bB.1 E).elim (Ta x) fun E=>by rw[aX.1 E];exact V)⟩,sbgn [] r3,by dsimp only;omega⟩
 have Pk:=dE N Pk;rw[Pk,bK]at Ta;clear TQ;obtain⟨hx0l,hx0h⟩:=hKh x0 (aG Qd);obtain⟨adm,um,UN,S7,km1,km2⟩:=dH.load hK Qd;obtain⟨at0,ct0,rfl,hct0,-⟩:=dN.shape S7;conv=>whnf
 refine dP [.x 0,.x 1,.x 2,.x 3,.x 4,.p 6,.x 5,.x 6,.x 7] ?_;refine⟨adm,UN,be,.slice at0 x0.length ct0,fun O J r=>?_,?_⟩
 .rw[cd (w:=w1) (F:=J) (by rw[df];exact rls r W km1)];exact km2
 have hdl0:=fo Vt hx0h bv c.length;refine cU (GT:=fun _ J v F=>dI F (Nf J F) v (dY c x0 c.length)) (fun O J r=>tF (h:=256) (rlo r W) (dC.cV (dC.cX hc ((kS G r W))) fun g V=>(.inl V:Cv S w.heap.size _ g)) (cg.l (cg.rel S7 r W) fun q hq=>by have:=hx0h q hq;omega) hx0l.symm Vt hx0h bv be) ?_;rintro O wa v14 wb r L QC hO;have hD:=dI.ep (S:=FF) hO r.cZ (iv:=(wa.heap.size,wb.heap.size)::iv) aF;replace hK:=db.cS (K:=(wa.heap.size,wb.heap.size)::iv) hK r W L fun p hp=>aD _ hp;replace G:=G.tr QC;clear r L QC;generalize (wa.heap.size,wb.heap.size)::iv=Qe at*
 rw[Eu]at hD hdl0;obtain⟨d0,d1,d2,d3,d4,d5,d6,d7,rfl⟩:=dI.shape hD;refine⟨Nat×(Bool×Option Addr×Nat×Nat×Bool×Option Addr×Nat×Nat)×Rat×World×Iv,fun z=>⟨[(1,pP 0 0),(2,iZ 0),(3,pP 1 0),(4,sV ak Fd.length ck),(9,pP 2 0),(10,iN z.1)],[(2,.box T.Rat [.v (.bool z.2.1.1),.v (.slice z.2.1.2.1 z.2.1.2.2.1 z.2.1.2.2.2.1),.v (.bool z.2.1.2.2.2.2.1),.v (.slice z.2.1.2.2.2.2.2.1 z.2.1.2.2.2.2.2.2.1 z.2.1.2.2.2.2.2.2.2)]),(0,.box T.Program [.v (.slice am Fn.length cm),.v (.slice ab b.length cb),.v (.slice ac c.length cc)]),(1,.box T.Rat [.v (.bool false),.v nls,.v (.bool false),.v nls])],3,z.2.2.2.2,z.2.2.2.1⟩,fun z=>Fd.length-z.1,fun z=>1<=z.1/\z.1<=Fd.length/\Bq w z.2.2.2.1/\db z.2.2.2.1 (Cv S w.heap.size z.2.2.2.2) (.slice ak Fd.length ck) Fd/\dI z.2.2.2.1 (Cf w z.2.2.2.2) (.agg #[.bool z.2.1.1,.slice z.2.1.2.1 z.2.1.2.2.1 z.2.1.2.2.2.1,.bool z.2.1.2.2.2.2.1,.slice z.2.1.2.2.2.2.2.1 z.2.1.2.2.2.2.2.2.1 z.2.1.2.2.2.2.2.2.2]) z.2.2.1/\rl z.2.2.1<=2000/\(∃x∈Fd.take z.1,oo c x c.length=z.2.2.1)/\∀x∈Fd.take z.1,oo c x c.length<=z.2.2.1,?_,?_⟩
 .intro O J r
  exact⟨(1,(d0,d1,d2,d3,d4,d5,d6,d7),_,J,_),⟨lr,TE,G.tr r.cj,db.rel hK r W,dI.rel hD r hF,by show rl (oo c x0 c.length)<=2000;omega,⟨x0,by rw[<-ij Qd];exact List.mem_append_right _ (aX.2 rfl),rfl⟩,fun x E=>(by
   rw[<-ij Qd]at E
   rw[aX.1 E];exact Rat.le_refl)⟩,sbgn [] r⟩
 clear G hK hD hdl0 S7 km1 km2 UN hct0;rintro⟨i,⟨d0,d1,d2,d3,d4,d5,d6,d7⟩,q,w1,iv⟩ ⟨Zw,N,G,hK,hD,VC,hex,Qw⟩;dsimp only at Zw N G hK hD VC hex Qw ⊢;apply bS<;>intro Pk
 .have Pk:=dL Pk;obtain⟨t,ht⟩:=gO Fd i;obtain⟨Xw,hth⟩:=hKh t (aG ht);obtain⟨adm,um,UN,S7,km1,km2⟩:=dH.load hK ht;obtain⟨at',ct,rfl,hct,-⟩:=dN.shape S7;refine dP [.x 0,.x 1,.x 2,.x 3,.x 4,.x 5,.p 7,.x 6,.x 7,.x 8] ?_;refine⟨adm,UN,be,.slice at' t.length ct,fun O J r=>?_,?_⟩
  .rw[aK,cd (w:=w1) (F:=J) (by rw[df];exact rls r W km1)];exact km2
  have S5:=fo Vt hth bv c.length;have hB:=hD;clear hD;refine cU (GT:=fun _ J v F=>dI F (Nf J F) v (dY c t c.length)) (fun O J r=>tF (h:=256) (rlo r W) (dC.cV (dC.cX hc ((kS G r W))) fun g V=>(.inl V:Cv S w.heap.size _ g)) (cg.l (cg.rel S7 r W) fun q hq=>by have:=hth q hq;omega) Xw.symm Vt hth bv be) ?_;rintro O wa v15 wb r L QC hO;have hD:=dI.ep (S:=FF) hO r.cZ (iv:=(wa.heap.size,wb.heap.size)::iv) aF;replace hK:=db.cS (K:=(wa.heap.size,wb.heap.size)::iv) hK r W L fun p hp=>aD _ hp;replace hB:=dI.cS (K:=(wa.heap.size,wb.heap.size)::iv) hB r hF L fun p hp=>aD _ hp;replace G:=G.tr QC;clear r L QC;generalize (wa.heap.size,wb.heap.size)::iv=iv2 at*
  rw[Eu]at hD S5;obtain⟨e0,e1,e2,e3,e4,e5,e6,e7,rfl⟩:=dI.shape hD;conv=>whnf
  refine cW (cU (GT:=fun _ J v F=>v=iV (rs (oo c t c.length-q))) (fun O J r=>Bs (rlo r hF) (dI.l (dI.rel hD r hF) be) (dI.l (dI.rel hB r hF) be)) ?_);rintro O wa v16 wb r L QC rfl;replace hK:=db.cS (K:=(wa.heap.size,wb.heap.size)::iv2) hK r W L fun p hp=>aD _ hp;replace hB:=dI.cS (K:=(wa.heap.size,wb.heap.size)::iv2) hB r hF L fun p hp=>aD _ hp;replace hD:=dI.cS (K:=(wa.heap.size,wb.heap.size)::iv2) hD r hF L fun p hp=>aD _ hp;replace G:=G.tr QC;clear r L QC;generalize (wa.heap.size,wb.heap.size)::iv2=Pu at*
  apply bS<;>intro V
  .have V:q<oo c t c.length:=ql.1 (aJ V);refine inc i ?_;intro I8 w3 r3
   exact⟨(i+1,(e0,e1,e2,e3,e4,e5,e6,e7),oo c t c.length,w3,_),⟨by dsimp only;omega,Pk,G.tr r3.cj,db.rel hK r3 W,dI.rel hD r3 hF,by dsimp only;omega,⟨t,by rw[<-ij ht];exact List.mem_append_right _ (aX.2 rfl),rfl⟩,fun x E=>(by
    rw[<-ij ht]at E;rcases bB.1 E with E|E
    .exact Rat.le_trans (Qw x E) (Rat.le_of_lt V)
    .rw[aX.1 E];exact Rat.le_refl)⟩,sbgn [] r3,by dsimp only;omega⟩
  have V:oo c t c.length<=q:=Rat.not_lt.1 fun h=>absurd (ql.2 h) (aL V);refine inc i ?_;intro I8 w3 r3
  exact⟨(i+1,(d0,d1,d2,d3,d4,d5,d6,d7),q,w3,_),⟨by dsimp only;omega,Pk,G.tr r3.cj,db.rel hK r3 W,dI.rel hB r3 hF,by dsimp only;omega,hex.imp fun x E=>⟨by rw[<-ij ht];exact List.mem_append_left _ E.1,E.2⟩,fun x E=>(by
   rw[<-ij ht]at E;rcases bB.1 E with E|E
   .exact Qw x E
   .rw[aX.1 E];exact V)⟩,sbgn [] r3,by dsimp only;omega⟩
 have Pk:=dE N Pk;rw[Pk,bK]at hex Qw;conv=>whnf
 refine dP (idO 3) ?_;obtain⟨xb,hxb,hxq⟩:=hex;have hnk:0<Fd.length:=TE;intro GE we re;refine⟨_,rfl,G.tr re.cj,0,q,d0,d1,d2,d3,d4,d5,d6,d7,rfl,dI.out hD re hF,VC,.inr (.inr ⟨rfl,⟨xb,(hKm xb).1 hxb,hxq⟩,fun x E=>Qw x ((hKm x).2 E),fun t ht=>Ta t ((hK2m t).2 ht)⟩)⟩
theorem cg.OU:cg w S nls []:=⟨[],⟨ae _,rfl,ce,none,0,rfl,lr,fun j u h=>by cases h⟩,rfl,ce,fun j cs x h=>by cases h⟩
theorem IJ{x:Tx}{Fd Bz n m:Nat}(Wg:c.length=n)(Xc:Fn.length=m)(Ti:Old S w)(Qx:fQ w S x (Tb.begin Fn b c))(hA:iq n Fn)(A:b.length=m)(hm:m<=900)(U:n<=900)
  (hW:LS m n Bz (dU Fn) (fun i=>b.getD i 0) (fun j=>c.getD j 0) d) (hK:ln (fB Bz (m+1))<=Fd) (Y:1<=Fd) (hh:Fd<=90000):
  eL PG FS.j2 #[.pointer (some ⟨x.g,0,none⟩),iV n] w (fun e F=>∃v x' t',e= .returned v/\x'.g=x.g/\Kept w F (Bv x.dB)/\fQ F (fun g=>Nw (fun g=>S g\/Bv x.dB g) w F g/\¬Bv x'.dB g) x' t'/\(∀g,Bv x'.dB g->Bv x.dB g\/w.heap.size<=g)/\
   ((v=nls/\∃D,Rp t' D/\jZ D m n (dU Fn) (fun i=>b.getD i 0) (fun j=>c.getD j 0)/\D.uq/\∃F8,D.Sz Bz F8)\/
    (∃a q y,v= .slice (some a) m q/\eF F (Nw S w F) (Nw S w F) v y/\y.length=m/\(∀q∈y,rl q+1<=Fd+1)/\wJ m n (dU Fn) (fun i=>b.getD i 0) fun i=>y.getD i 0))):=by
 subst Wg Xc;exact IG Ti Qx hA A hm U hW hK Y hh
def De(Fn:List (List Rat))(b c:List Rat)(Fd:Nat)(F:World)(Do:Nat->Prop)(s:Value):Prop:=
 ∃(z:Nat) (vx vy vr:Value) (g0:Bool) (g1:Option Addr) (g2 g3:Nat) (g4:Bool) (g5:Option Addr) (g6 g7:Nat) (X C9 F9:List Rat) (q:Rat),s= .agg #[iV z,vx,vy,vr,.bool g0,.slice g1 g2 g3,.bool g4,.slice g5 g6 g7]/\
  cg F Do vx X/\cg F Do vy C9/\cg F Do vr F9/\dI F Do (.agg #[.bool g0,.slice g1 g2 g3,.bool g4,.slice g5 g6 g7]) q/\iF Fn b c z X C9 F9 q/\
  (∀p∈X,rl p+1<=Fd+1)/\(∀p∈C9,rl p+1<=Fd+1)/\(∀p∈F9,rl p+1<=Fd+1)/\rl q+1<=Fd+1/\X.length<=60/\C9.length<=60/\F9.length<=60
theorem Bl{vm vb vc:Value}{b c:List (Int×Int)}{Fd Bz:Nat}(Ti:Old S w)(hm:dR w S vm M)(A:dK w S vb b)(hc:dK w S vc c)
  (hf:gR M b c=0->(∀r∈M,vN r)/\vN b/\vN c/\LS M.length c.length Bz (dU (dT M)) (fun i=>(b.map dD).getD i 0) (fun j=>(c.map dD).getD j 0) d/\ln (fB Bz (M.length+1))<=Fd/\2<=Fd/\Fd<=90000):
  eL PG FS.nX #[.agg #[vm,vb,vc]] w (eY w fun v F=>(gR M b c≠0/\v= .tuple #[.agg #[iV 0,nls,nls,nls,.bool false,nls,.bool false,nls],iV (gR M b c)])\/
   (gR M b c=0/\∃s,v= .tuple #[s,iV 0]/\De (dT M) (b.map dD) (c.map dD) Fd F (Nf w F) s)):=by
 have W:=Ti;have hF:=iw w.heap.size;have G:=bR w;obtain⟨am,cm,rfl,SF,TG⟩:=dH.shape hm;obtain⟨ab,cb,rfl,RK,Te⟩:=dN.shape A;obtain⟨ac,cc,rfl,Vd,SR⟩:=dN.shape hc;obtain⟨E9,hE⟩:∃E9,E9=gR M b c:=⟨_,rfl⟩
 refine wZ ce ?_;refine cW (cU (GT:=fun _ J v F=>v=iV (gR M b c)) (fun O J r=>tD (oS W r) (dR.cX hm ((kS G r W))) (dK.cX A ((kS G r W))) (dK.cX hc ((kS G r W)))) ?_);rintro O wa_1 v1 wb_1 r L Pw rfl;replace G:=G.tr Pw;clear r L Pw;rw[<-hE];apply bS<;>intro hc0
 .have Po:E9≠0:=fun h=>by rw[h]at hc0;simp at hc0
  exact rtn G fun GE we re=>.inl ⟨Po,rfl⟩
 have hE0:E9=0:=by simpa using hc0
 have hE1:gR M b c=0:=by rw[<-hE];exact hE0
 obtain⟨hfM,WZ,hfc,hWp,hK,Y,hh⟩:=hf hE1;obtain⟨-,Pw,UE,UW,Pm⟩:=nK hE1;rw[Pw]at A ⊢;conv=>whnf
 refine dP (idO 8) ?_;refine cW (cU (GT:=fun _ J v F=>∃x:Tx,v= .pointer (some ⟨x.g,0,none⟩)/\dJ F FF J.heap.size [(J.heap.size,F.heap.size)] x (Tb.begin (dT M) (b.map dD) (c.map dD))/\∀g,Bv x.dB g->J.heap.size<=g) (fun O J r=>OR (oS W r) (dR.cX hm ((kS G r W))) (dK.cX A ((kS G r W))) (dK.cX hc ((kS G r W))) hfM WZ hfc Pm be be be) ?_);rintro O wa v1 wb r L Ql ⟨x,rfl,hT,E⟩;replace hT:=hT.aAO (iv:=(wa.heap.size,wb.heap.size)::[(wa_1.heap.size,wb_1.heap.size)]) E r.cZ aF;replace E:∀g,Bv x.dB g->w.heap.size<=g:=fun g V=>aR r.cZ (E g V);replace G:=G.tr Ql;clear r L Ql;generalize (wa.heap.size,wb.heap.size)::[(wa_1.heap.size,wb_1.heap.size)]=Pv at*
 obtain⟨Fn,hA⟩:∃Fn,Fn=dT M:=⟨_,rfl⟩
 obtain⟨bq,hbq⟩:∃q,q=b.map dD:=⟨_,rfl⟩
 obtain⟨cq,YB⟩:∃q,q=c.map dD:=⟨_,rfl⟩
 rw[<-hA,<-hbq,<-YB]at hT hWp ⊢;have Xc:Fn.length=M.length:=by rw[hA];simp[dT]
 have hbm:bq.length=M.length:=by rw[hbq,aO,Pw]
 have Wg:cq.length=c.length:=by rw[YB,aO]
 have hAw:iq c.length Fn:=fun r hr=>by
  rw[hA]at hr;obtain⟨r0,h0,rfl⟩:=bE.1 hr;rw[aO];exact Pm r0 h0
 clear hm A hc hf;obtain⟨n,U⟩:∃n,n=c.length:=⟨_,rfl⟩
 obtain⟨m,hm⟩:∃m,m=M.length:=⟨_,rfl⟩
 rw[<-U]at hWp Wg hAw UE ⊢;rw[<-hm]at hWp Xc hbm UW hK ⊢;conv=>whnf
 refine⟨fun O J r=>?_⟩;refine(IJ (Fd:=Fd) Wg Xc (Lv.old r hF) (hT.rel r hF).jK hAw hbm be be hWp hK be hh).mono fun e w8 L=>?_;obtain⟨v,y,t1,rfl,RY,RD,Qr,Pz,XD⟩:=L;replace Qr:=hT.aBc r E Qr Pz;replace G:=(G.tr r.cj).tr (RD.toBel E r.cZ);replace Pz:∀g,Bv y.dB g->w.heap.size<=g:=fun g V=>(Pz g V).elim (E g) fun h=>aR r.cZ h;rcases XD with⟨rfl,D,hR,hSm,hFe,F8,hz⟩|⟨a3,c3,yy,rfl,hY,Sv,hyh,hNo⟩
 .refine⟨nls,_,(J.heap.size,w8.heap.size)::Pv,rfl,r.gJ (hT.not r) RD,?_⟩;clear hT RD r;have hT:=Qr;clear Qr;generalize (J.heap.size,w8.heap.size)::Pv=iv2 at*
  rw[<-RY];conv=>whnf
  refine⟨false,fun O w1 o1 o2=>by simp[eqGuard,SV.den,At.den,ji w1 T.row T.dO none 0 0 0 0 te],?_⟩;conv=>whnf
  refine⟨fun O J r=>?_⟩;refine(Jd (Fd:=Fd) (Lv.old r hF) (hT.rel r hF).jK hSm.ok hFe hR hz (by rw[hSm.em];omega) (by rw[hSm.eq];omega) (by rw[hSm.em];exact hK) be be).mono fun e w8 L=>?_;obtain⟨t2,D2,k,j,rfl,RD,Qr,hC,hD⟩:=L;refine⟨iV (rT j),_,(J.heap.size,w8.heap.size)::iv2,rfl,r.gJ (hT.not r) RD,?_⟩;replace Qr:=hT.ep r Qr;replace G:=(G.tr r.cj).tr (RD.toBel Pz r.cZ);clear hT RD r;have hT:=Qr;clear Qr;generalize (J.heap.size,w8.heap.size)::iv2=Pu at*
  obtain⟨f1,f2,f3,f4,f5,-⟩:=hC.facts;have hS2:jZ D2 m n (dU Fn) (fun i=>bq.getD i 0) fun j=>cq.getD j 0:=⟨f1,f3.trans hSm.em,f4.trans hSm.eq,fun x z=>(f5 x z).trans (hSm.GI x z)⟩
  have hW2:t2.Wf m n:=by
   have:=hC.rp.wf;rw[hS2.em,hS2.eq]at this;exact this
  have WY:=hC.rp.HX (hC.sz.all f1 (Fd:=Fd) (by rw[hS2.em];exact hK));have S6:=hC.rp;have h3:=K1.end_ S6 hD;have hpt:∀v,v<n->(t2.jv n).getD v 0=D2.val v:=fun v hv=>S6.MJ f1 hv;have QQ:=Km (t:=t2) (n:=n);have hph:=WY.jv (n:=n) be;have Up:om Fn.length cq.length (dU Fn) (fun i=>bq.getD i 0) fun j=>(t2.jv n).getD j 0:=by
   rw[Xc,Wg];exact(hS2.aAn f2).congr fun j hj=>hpt j hj
  have hAw2:iq cq.length Fn:=by rw[Wg];exact hAw
  clear hC hz hR hSm hFe f3 f4 f5 hWp
  cases j with
  |some s=>
   obtain⟨e1,e2,e3⟩:=h3;conv=>whnf
   have QO:=Kn (t:=t2) (n:=n) (s:=s);have hrh:=WY.pJ (n:=n) (s:=s) be;have hdi:∀v,v<n->(t2.pJ n s).getD v 0=D2.dir s v:=fun v hv=>S6.MK f1 e1 hv;have hsn:s<n:=by rw[<-hS2.eq];exact e1
   refine cW (cU (GT:=fun _ J v F=>eF F (Nw (Lv FF w.heap.size Pu y) J F) (Nw (Lv FF w.heap.size Pu y) J F) v (t2.jv n)) (fun O J r=>Je (Lv.old r hF) (hT.rel r hF).jK hW2 be be) ?_);rintro O wa v4 wb r L Pw hO;have hX:=hO.Mu r.cZ;replace hT:=hT.cS (K:=(wa.heap.size,wb.heap.size)::Pu) r hF L fun p hp=>aD _ hp;replace G:=G.tr Pw;clear r L Pw hO;generalize (wa.heap.size,wb.heap.size)::Pu=QD at*
   obtain⟨_,_,rfl,-,-⟩:=eF.shape hX;refine cW (cU (GT:=fun _ J v F=>cg F (Nf J F) v (t2.jv n)) (fun O J r=>kZ (rlo r hF) (hX.rel r hF hF) (by rw[QQ];omega) (fun q hq=>by have:=hph q hq;omega)) ?_);rintro O wa v5 wb r L Pw hO;have Vj:=cg.ep (S:=FF) hO r.cZ (iv:=(wa.heap.size,wb.heap.size)::QD) aF;replace hT:=hT.cS (K:=(wa.heap.size,wb.heap.size)::QD) r hF L fun p hp=>aD _ hp;replace hX:=eF.cS (K:=(wa.heap.size,wb.heap.size)::QD) hX r hF hF L fun p hp=>aD _ hp;replace G:=G.tr Pw;clear r L Pw hO;generalize (wa.heap.size,wb.heap.size)::QD=QH at*
   obtain⟨_,_,rfl,-,-⟩:=dN.shape Vj;clear hX;refine cW (cU (GT:=fun _ J v F=>eF F (Nw (Lv FF w.heap.size QH y) J F) (Nw (Lv FF w.heap.size QH y) J F) v (t2.pJ n s)) (fun O J r=>Gj (Lv.old r hF) (hT.rel r hF).jK hW2 hsn be be be) ?_);rintro O wa v6 wb r L Pw hO;have hR:=hO.Mu r.cZ;replace hT:=hT.cS (K:=(wa.heap.size,wb.heap.size)::QH) r hF L fun p hp=>aD _ hp;replace Vj:=cg.cS (K:=(wa.heap.size,wb.heap.size)::QH) Vj r hF L fun p hp=>aD _ hp;replace G:=G.tr Pw;clear r L Pw hO;generalize (wa.heap.size,wb.heap.size)::QH=Qe at*
   obtain⟨_,_,rfl,-,-⟩:=eF.shape hR;refine cW (cU (GT:=fun _ J v F=>cg F (Nf J F) v (t2.pJ n s)) (fun O J r=>kZ (rlo r hF) (hR.rel r hF hF) (by rw[QO];omega) (fun q hq=>by have:=hrh q hq;omega)) ?_);rintro O wa v7 wb r L Pw hO;have hGR:=cg.ep (S:=FF) hO r.cZ (iv:=(wa.heap.size,wb.heap.size)::Qe) aF;replace hT:=hT.cS (K:=(wa.heap.size,wb.heap.size)::Qe) r hF L fun p hp=>aD _ hp;replace Vj:=cg.cS (K:=(wa.heap.size,wb.heap.size)::Qe) Vj r hF L fun p hp=>aD _ hp;replace hR:=eF.cS (K:=(wa.heap.size,wb.heap.size)::Qe) hR r hF hF L fun p hp=>aD _ hp;replace G:=G.tr Pw;clear r L Pw hO;generalize (wa.heap.size,wb.heap.size)::Qe=RS at*
   obtain⟨_,_,rfl,-,-⟩:=dN.shape hGR;clear hR;refine cW (cU (GT:=fun _ J v F=>dI F (Nf J F) v ((0:Int):Rat)) (fun O J r=>Bm 0 J bv bv) ?_);rintro O wa v8 wb r L Pw hO;have hV:=dI.ep (S:=FF) hO r.cZ (iv:=(wa.heap.size,wb.heap.size)::RS) aF;replace hT:=hT.cS (K:=(wa.heap.size,wb.heap.size)::RS) r hF L fun p hp=>aD _ hp;replace Vj:=cg.cS (K:=(wa.heap.size,wb.heap.size)::RS) Vj r hF L fun p hp=>aD _ hp;replace hGR:=cg.cS (K:=(wa.heap.size,wb.heap.size)::RS) hGR r hF L fun p hp=>aD _ hp;replace G:=G.tr Pw;clear r L Pw hO;generalize (wa.heap.size,wb.heap.size)::RS=Sw at*
   obtain⟨_,_,_,_,_,_,_,_,rfl⟩:=dI.shape hV;conv=>whnf
   intro GE we re;refine⟨_,rfl,G.tr re.cj,.inr ⟨hE0,_,rfl,2,_,_,_,_,_,_,_,_,_,_,_,t2.jv n,[],t2.pJ n s,0,rfl,cg.out Vj re hF,cg.OU,cg.out hGR re hF,dI.out hV re hF,?_,hph,(fun _ h=>by cases h),hrh,aR bv (show 3<=Fd+1 by omega),by rw[QQ];omega,ce,by rw[QO];omega⟩⟩;refine Ko hAw2 (by rw[QQ,Wg]) (by rw[QO,Wg]) Up ?_;rw[Xc,Wg];obtain⟨g1,g2⟩:=hS2.MD e1 e2 e3;exact⟨g1.congr fun j hj=>hdi j hj,by rw[cY (g:=fun j=>cq.getD j 0*D2.dir s j) fun j hj=>by dsimp only;rw[hdi j hj]];exact g2⟩
  |none=>
   conv=>whnf
   conv=>whnf
   have hpr:∀i,i<m->(t2.j0 n m).getD i 0= -(D2.mY (n+i)):=fun i N=>S6.DN f1 N;have Sv:=IF (t:=t2) (n:=n) (k:=m);have hyh:=WY.j0 (n:=n) (k:=m) be;have Vc:=S6.et;have Xw:=WY.top;obtain⟨n1,n2,n3⟩:=hS2.aAi h3;have n4:=(hS2.jv f2).2.2;obtain⟨o1,o2,o3,o4,o5,o6,o7,o8,ZJ,hY⟩:=hT.ldT hF;refine dP [.x 0,.x 1,.x 4,.x 5,.x 6,.x 9,.x 10,.x 11,.x 12,.x 2,.x 3,.x 7,.x 8,.x 13,.x 14,.x 15,.x 16] ?_;conv=>whnf
   refine⟨rC o1 o2 o3 o4 o5 o6 o7 o8,rfl,fun O J r k u hu=>ZJ r k u hu,?_⟩;clear ZJ;refine cU (GT:=fun _ J v F=>eF F (Nw (Lv FF w.heap.size Pu y) J F) (Nw (Lv FF w.heap.size Pu y) J F) v (t2.jv n)) (fun O J r=>Je (Lv.old r hF) (hT.rel r hF).jK hW2 be be) ?_;rintro O wa v4 wb r L Pw hO;have hX:=hO.Mu r.cZ;replace hT:=hT.cS (K:=(wa.heap.size,wb.heap.size)::Pu) r hF L fun p hp=>aD _ hp;replace hY:=cz.jy (K:=(wa.heap.size,wb.heap.size)::Pu) hY r hF L fun p hp=>aD _ hp;replace G:=G.tr Pw;clear r L Pw hO;generalize (wa.heap.size,wb.heap.size)::Pu=QD at*
   obtain⟨_,_,rfl,-,-⟩:=eF.shape hX;refine cU (GT:=fun _ J v F=>cg F (Nf J F) v (t2.jv n)) (fun O J r=>kZ (rlo r hF) (hX.rel r hF hF) (by rw[QQ];omega) (fun q hq=>by have:=hph q hq;omega)) ?_;rintro O wa v5 wb r L Pw hO;have Vj:=cg.ep (S:=FF) hO r.cZ (iv:=(wa.heap.size,wb.heap.size)::QD) aF;replace hT:=hT.cS (K:=(wa.heap.size,wb.heap.size)::QD) r hF L fun p hp=>aD _ hp;replace hY:=cz.jy (K:=(wa.heap.size,wb.heap.size)::QD) hY r hF L fun p hp=>aD _ hp;replace hX:=eF.cS (K:=(wa.heap.size,wb.heap.size)::QD) hX r hF hF L fun p hp=>aD _ hp;replace G:=G.tr Pw;clear r L Pw hO;generalize (wa.heap.size,wb.heap.size)::QD=QH at*
   obtain⟨_,_,rfl,-,-⟩:=dN.shape Vj;clear hX;refine cU (GT:=fun _ J v F=>eF F (Nw (Lv FF w.heap.size QH y) J F) (Nw (Lv FF w.heap.size QH y) J F) v (t2.j0 n m)) (fun O J r=>Gi (Lv.old r hF) (hT.rel r hF).jK hW2 be be be) ?_;rintro O wa v6 wb r L Pw hO;have hP:=hO.Mu r.cZ;replace hT:=hT.cS (K:=(wa.heap.size,wb.heap.size)::QH) r hF L fun p hp=>aD _ hp;replace hY:=cz.jy (K:=(wa.heap.size,wb.heap.size)::QH) hY r hF L fun p hp=>aD _ hp;replace Vj:=cg.cS (K:=(wa.heap.size,wb.heap.size)::QH) Vj r hF L fun p hp=>aD _ hp;replace G:=G.tr Pw;clear r L Pw hO;generalize (wa.heap.size,wb.heap.size)::QH=Qe at*
   obtain⟨_,_,rfl,-,-⟩:=eF.shape hP;refine cU (GT:=fun _ J v F=>cg F (Nf J F) v (t2.j0 n m)) (fun O J r=>kZ (rlo r hF) (hP.rel r hF hF) (by rw[Sv];omega) (fun q hq=>by have:=hyh q hq;omega)) ?_;rintro O wa v7 wb r L Pw hO;have hGP:=cg.ep (S:=FF) hO r.cZ (iv:=(wa.heap.size,wb.heap.size)::Qe) aF;replace hT:=hT.cS (K:=(wa.heap.size,wb.heap.size)::Qe) r hF L fun p hp=>aD _ hp;replace hY:=cz.jy (K:=(wa.heap.size,wb.heap.size)::Qe) hY r hF L fun p hp=>aD _ hp;replace Vj:=cg.cS (K:=(wa.heap.size,wb.heap.size)::Qe) Vj r hF L fun p hp=>aD _ hp;replace hP:=eF.cS (K:=(wa.heap.size,wb.heap.size)::Qe) hP r hF hF L fun p hp=>aD _ hp;replace G:=G.tr Pw;clear r L Pw hO;generalize (wa.heap.size,wb.heap.size)::Qe=RS at*
   obtain⟨_,_,rfl,-,-⟩:=dN.shape hGP;clear hP;refine cU (GT:=fun _ J v F=>dI F (Nf J F) v t2.top) (fun O J r=>zc (Lv.old r hF) (hY.iC r hF) be) ?_;rintro O wa v8 wb r L Pw hO;have hV:=dI.ep (S:=FF) hO r.cZ (iv:=(wa.heap.size,wb.heap.size)::RS) aF;replace hT:=hT.cS (K:=(wa.heap.size,wb.heap.size)::RS) r hF L fun p hp=>aD _ hp;replace hY:=cz.jy (K:=(wa.heap.size,wb.heap.size)::RS) hY r hF L fun p hp=>aD _ hp;replace Vj:=cg.cS (K:=(wa.heap.size,wb.heap.size)::RS) Vj r hF L fun p hp=>aD _ hp;replace hGP:=cg.cS (K:=(wa.heap.size,wb.heap.size)::RS) hGP r hF L fun p hp=>aD _ hp;replace G:=G.tr Pw;clear r L Pw hO;generalize (wa.heap.size,wb.heap.size)::RS=Sw at*
   obtain⟨_,_,_,_,_,_,_,_,rfl⟩:=dI.shape hV;conv=>whnf
   intro GE we re;refine⟨_,rfl,G.tr re.cj,.inr ⟨hE0,_,rfl,0,_,_,_,_,_,_,_,_,_,_,_,t2.jv n,t2.j0 n m,[],t2.top,rfl,cg.out Vj re hF,cg.out hGP re hF,cg.OU,dI.out hV re hF,?_,hph,hyh,(fun _ h=>by cases h),Xw,by rw[QQ];omega,by rw[Sv];omega,ce⟩⟩;rw[Vc];refine IH hAw2 (by rw[QQ,Wg]) (by rw[Sv,Xc]) Up ?_ ?_ ?_ ?_
   .rw[Xc];intro i N;rw[hpr i N];exact n1 i
   .rw[Xc,Wg];intro j hj;rw[cY (g:=fun i=> -(D2.mY (n+i))*dU Fn i j) fun i N=>by rw[hpr i N]];exact n3 j hj
   .rw[Wg,cY (g:=fun j=>cq.getD j 0*D2.val j) fun j hj=>by rw[hpt j hj]];exact n4
   .rw[Xc,cY (g:=fun i=> -(D2.mY (n+i))*bq.getD i 0) fun i N=>by rw[hpr i N]];exact n2
 refine⟨.slice (some a3) m c3,_,(J.heap.size,w8.heap.size)::Pv,rfl,r.gJ (hT.not r) RD,?_⟩;replace hY:=hY.Mu r.cZ;clear hT RD r;have hT:=Qr;clear Qr;generalize (J.heap.size,w8.heap.size)::Pv=iv2 at*
 conv=>whnf
 refine⟨true,fun O w1 o1 o2=>by simp[eqGuard,SV.den,At.den,ji w1 T.row T.dO (some a3) m c3 0 0 te],?_⟩;conv=>whnf
 refine cW (cU (GT:=fun _ J v F=>cg F (Nf J F) v (yy)) (fun O J r=>kZ (rlo r hF) (hY.rel r hF hF) (by rw[Sv];omega) (fun q hq=>by have:=hyh q hq;omega)) ?_);rintro O wa v4 wb r L Pw hO;have hGY:=cg.ep (S:=FF) hO r.cZ (iv:=(wa.heap.size,wb.heap.size)::iv2) aF;replace G:=G.tr Pw;clear r L Pw hO;generalize (wa.heap.size,wb.heap.size)::iv2=QD at*
 obtain⟨_,_,rfl,-,-⟩:=dN.shape hGY;refine cW (cU (GT:=fun _ J v F=>dI F (Nf J F) v ((0:Int):Rat)) (fun O J r=>Bm 0 J bv bv) ?_);rintro O wa v5 wb r L Pw hO;have hV:=dI.ep (S:=FF) hO r.cZ (iv:=(wa.heap.size,wb.heap.size)::QD) aF;replace hGY:=cg.cS (K:=(wa.heap.size,wb.heap.size)::QD) hGY r hF L fun p hp=>aD _ hp;replace G:=G.tr Pw;clear r L Pw hO;generalize (wa.heap.size,wb.heap.size)::QD=QH at*
 obtain⟨_,_,_,_,_,_,_,_,rfl⟩:=dI.shape hV;conv=>whnf
 intro GE we re;refine⟨_,rfl,G.tr re.cj,.inr ⟨hE0,_,rfl,1,_,_,_,_,_,_,_,_,_,_,_,[],yy,[],0,rfl,cg.OU,cg.out hGY re hF,cg.OU,dI.out hV re hF,II (by rw[Sv,Xc]) (by rw[Xc,Wg];exact hNo),(fun _ h=>by cases h),hyh,(fun _ h=>by cases h),aR bv (show 3<=Fd+1 by omega),ce,by rw[Sv];omega,ce⟩⟩
end Go.Ex
