/- Texts X263 to L59: lemmas, each with its conditions. -/
import Derived.Test.YtbffinhkognefaaGreatDoorP10
namespace Go.Ex
open Go Go.Sx Go.Proofs
variable{F':List (List Rat)}{l r:List Rat}{S:Nat->Prop}
def qq(F':List (List Rat))(k:Nat):List Rat:=F'.map fun r=> -(r.getD k 0)
def ef(F':List (List Rat))(n:Nat):List (List Rat):=(List.range n).map (qq F')
def gE(l:List Rat):List Rat:=l.map fun q=> -q
theorem yg{k:Nat}:ef F' k++[qq F' k]=ef F' (k+1):=by
 unfold ef;rw[bw,List.map_append];rfl
theorem u9{k:Nat}{q:Rat}(h:l[k]? =some q):gE (l.take k)++[-q]=gE (l.take (k+1)):=by
 unfold gE;rw[bE,h,List.map_append];rfl
theorem EX{i k:Nat}(h:F'[i]? =some r):qq (F'.take i) k++[-(r.getD k 0)]=qq (F'.take (i+1)) k:=by
 unfold qq;rw[bE,h,List.map_append];rfl
theorem Ld{w:World}{vm vb vc:Value}{b c:List Rat}(RR:Old S w)(hm:jJ w S vm F')(N:dM w S vb b)(hc:dM w S vc c)(OI:∀r∈F',r.length=c.length)(hA:F'.length<=1000)(hbn:b.length<=1000)(TL:c.length<=1000):
  eD PG Fd.xh #[.agg #[vm,vb,vc]] w (eL w fun v F=>∃a1 c1 a2 c2 a3 c3,v= .agg #[.slice a1 c.length c1,.slice a2 c.length c2,.slice a3 b.length c3]/\dC F (Nf w F) (.slice a1 c.length c1) (ef F' c.length)/\cS F (Nf w F) (.slice a2 c.length c2) (gE c)/\cS F (Nf w F) (.slice a3 b.length c3) (gE b)):=by
 have L:=RR;have hF:=kW w.heap.size;have Y:=bR w;obtain⟨am,cm,rfl,Rd,TQ⟩:=dD.shape hm;obtain⟨ab,cb,rfl,Pv,S0⟩:=dU.shape N;obtain⟨ac,cc,rfl,Uc,RL⟩:=dU.shape hc;refine zJ ce ?_;refine⟨Nat×List Value×List (List Value)×World×Iv,fun z=>⟨[(1,pP 0 0),(2,pP 1 0),(3,pP 2 0),(4,iN z.1)],[(2,.box T.Program [.w 3 (z.2.1).length,.w 4 (z.2.2.1).length,.v nls]),(3,.vec T.BF 1 z.2.1),(4,.vec T.Rat 4 (z.2.2.1).flatten),(0,.box T.Program [.v (.slice am F'.length cm),.v (.slice ab b.length cb),.v (.slice ac c.length cc)]),(1,.box T.Program [.v nls,.v nls,.v nls])],5,z.2.2.2.2,z.2.2.2.1⟩,fun z=>c.length-z.1,fun z=>z.1<=c.length/\Bq w z.2.2.2.1/\fG z.2.2.2.1 (Cf w z.2.2.2.2) z.2.1 (ef F' z.1)/\pO z.2.2.2.1 (Cf w z.2.2.2.2) z.2.2.1 (gE (c.take z.1)),?_,?_⟩
 .intro O J r;exact⟨(0,[],[],J,[]),⟨bA _,Y.tr r.cV,by simp[fG,ef],pO.nil⟩,Sub.Le 2 0 T.BF 1 rfl rfl (by simp[ka,SV.sc,At.sc,gW]) r fun Id r1=>Sub.Le 2 1 T.Rat 4 rfl rfl (by simp[ka,SV.sc,At.sc,gW]) r1 fun GT r2=>sbgn [] r2⟩
 clear Y;rintro⟨k,rv,rc,w1,iv⟩ ⟨Z,Y,hR,hG⟩;dsimp only at Z Y hR hG ⊢;have QG:rv.length=k:=by rw[hR.1];simp[ef]
 have hgl:rc.length=k:=by rw[hG.len];simp[gE];omega
 have hgf:=gZ hG.four;apply bS<;>intro OJ
 .have OJ:=dL OJ;obtain⟨ck,hck⟩:=gO c k;obtain⟨adc,csc,XY,hFc,-,UZ⟩:=dU.load hc hck;obtain⟨f0,f1,f2,f3,f4,f5,f6,f7,rfl,hFc⟩:=hFc;rcases bB F'.length with hA0|hA0
  .refine⟨World×Iv,fun z=>⟨[(1,pP 0 0),(2,pP 1 0),(3,pP 2 0),(4,iN k),(5,sV none 0 0),(6,iN 0)],[(2,.box T.Program [.w 3 (rv).length,.w 4 (rc).length,.v nls]),(3,.vec T.BF 1 rv),(4,.vec T.Rat 4 (rc).flatten),(0,.box T.Program [.v (.slice am F'.length cm),.v (.slice ab b.length cb),.v (.slice ac c.length cc)]),(1,.box T.Program [.v nls,.v nls,.v nls])],5,z.2,z.1⟩,fun z=>0,fun z=>Bq w z.1/\fG z.1 (Cf w z.2) rv (ef F' k)/\pO z.1 (Cf w z.2) rc (gE (c.take k)),?_,?_⟩
   .intro O J r;exact⟨(J,_),⟨Y.tr r.cV,fG.rel hR r hF,hG.rel r hF⟩,sbgn [] r⟩
   clear Y hR hG;rintro⟨w1,iv⟩ ⟨Y,hR,hG⟩;dsimp only at Y hR hG ⊢;apply bS<;>intro R8
   .have R8:0<F'.length:=by simpa using R8
    omega
   have RQ:nls.oneCell'=true:=rfl;have UO:cS w1 (Cf w iv) nls (qq F' k):=by
    rw[List.length_eq_zero_iff.1 hA0];exact⟨[],⟨bA _,rfl,ce,none,0,rfl,lr,fun j u h=>by cases h⟩,rfl,ce,fun j cs x h=>by cases h⟩
   refine qo hτ uJ (.x 0 (.x 2 (.x 5 (.x 7 (.x 9 (.ld 1 520208 (.ld 6 507904 (.ld 8 490496 (.x 10 (.ld 11 487424 (.x 3 (.x 4 (.x 15 (.x 12 (.x 13 (.x 14 (.x 16 (.x 17 (.x 18 .nil))))))))))))))))))) d6 d6 ?_;refine⟨adc,XY,be,rC f0 f1 f2 f3 f4 f5 f6 f7,rfl,rdO UZ Y L,rC f0 f1 f2 f3 f4 f5 f6 f7,rfl,rdO UZ Y L,rfl,rfl,rfl,rfl,?_⟩;conv=>whnf
   refine .inl ?_;refine⟨be,be,mx,?_⟩;have SH:=fG.push hR RQ UO;rw[yg]at SH;refine⟨rC f0 f1 f2 f3 f4 f5 f6 f7,rfl,rdO UZ Y L,rfl,rfl,rfl,?_⟩;refine cN (I9:=fun _ J v F=>cZ F (Nf J F) v (-ck)) (fun O J r=>ua (oS L r) (hFc.cP ((kS Y r L)))) ?_;rintro O wa v2 wb r G OQ hO;replace hO:=cZ.eX (S:=FF) hO r.cR (iv:=(wa.heap.size,wb.heap.size)::iv) aF;replace SH:=fG.cL (K:=(wa.heap.size,wb.heap.size)::iv) SH r hF G fun p hp=>aD _ hp;replace hG:=pO.cL (K:=(wa.heap.size,wb.heap.size)::iv) hG r hF G fun p hp=>aD _ hp;replace Y:=Y.tr OQ;clear r G OQ;generalize (wa.heap.size,wb.heap.size)::iv=ivn at*
   obtain⟨o0,o1,o2,o3,o4,o5,o6,o7,rfl⟩:=cZ.shape hO;have hG2:=hG.push (cs:=rC o0 o1 o2 o3 o4 o5 o6 o7) (q:= -ck) ⟨_,_,_,_,_,_,_,_,rfl,hO⟩ rfl;rw[u9 hck]at hG2;have Px:rc.flatten++(rC o0 o1 o2 o3 o4 o5 o6 o7:List Value)=(rc++([rC o0 o1 o2 o3 o4 o5 o6 o7]:List (List Value))).flatten:=by simp
   refine⟨rfl,rfl,?_⟩;conv=>whnf
   refine .inl ?_;refine⟨be,be,mx,((k+1:Nat):Int),wo,?_⟩;intro IR w3 r3;exact⟨(k+1,rv++[nls],rc++[rC o0 o1 o2 o3 o4 o5 o6 o7],w3,_),⟨OJ,Y.tr r3.cV,fG.rel SH r3 hF,hG2.rel r3 hF⟩,sbgn [(3,6),(4,8)] r3 ⟨by dsimp only;rw[List.length_append,List.length_append,List.length_singleton,List.length_singleton];rfl,rfl,by dsimp only;rw[<-Px];rfl,rfl,rfl,trivial⟩,dec OJ⟩
  refine⟨Nat×List (List Value)×World×Iv,fun z=>⟨[(1,pP 0 0),(2,pP 1 0),(3,pP 2 0),(4,iN k),(5,.o (.w 5 z.2.1.length)),(6,iN z.1)],[(5,.vec T.Rat 4 z.2.1.flatten),(2,.box T.Program [.w 3 (rv).length,.w 4 (rc).length,.v nls]),(3,.vec T.BF 1 rv),(4,.vec T.Rat 4 (rc).flatten),(0,.box T.Program [.v (.slice am F'.length cm),.v (.slice ab b.length cb),.v (.slice ac c.length cc)]),(1,.box T.Program [.v nls,.v nls,.v nls])],6,z.2.2.2,z.2.2.1⟩,fun z=>F'.length-z.1,fun z=>z.1<=F'.length/\Bq w z.2.2.1/\fG z.2.2.1 (Cf w z.2.2.2) rv (ef F' k)/\pO z.2.2.1 (Cf w z.2.2.2) rc (gE (c.take k))/\pO z.2.2.1 (Cf w z.2.2.2) z.2.1 (qq (F'.take z.1) k),?_,?_⟩
  .intro O J r;exact⟨(0,[],J,_),⟨bA _,Y.tr r.cV,fG.rel hR r hF,hG.rel r hF,pO.nil⟩,Sub.nil 5 T.Rat 4 rfl (by simp[ka,SV.sc,At.sc,gW]) r fun Id r1=>sbgn [] r1⟩
  clear Y hR hG;rintro⟨i,M,w1,iv⟩ ⟨R,Y,hR,hG,hD⟩;dsimp only at R Y hR hG hD ⊢;have SC:M.length=i:=by rw[hD.len];simp[qq];omega
  have KD:=gZ hD.four;apply bS<;>intro R8
  .have R8:=dL R8;obtain⟨r0,R6⟩:=gO F' i;have hr0l:=OI r0 (aG R6);obtain⟨adm,um,ham,Wq,km1,km2⟩:=dD.load hm R6;obtain⟨ar,cr,rfl,TV,hmr⟩:=dU.shape Wq;obtain⟨x,E⟩:=gO r0 k;have hxd:r0.getD k 0=x:=by rw[List.getD,E];rfl
   obtain⟨adx,csx,Wo,Sm,-,QI⟩:=dU.load Wq E;obtain⟨g0,g1,g2,g3,g4,g5,g6,g7,rfl,Sm⟩:=Sm;rw[hr0l]at TV hmr;rw[hr0l]at km2;refine⟨adm,ham,be,.slice ar c.length cr,rd1 km2 Y (L _ km1),adx,Wo,be,rC g0 g1 g2 g3 g4 g5 g6 g7,rfl,rdO QI Y L,?_⟩;refine cM (cN (I9:=fun _ J v F=>cZ F (Nf J F) v (-x)) (fun O J r=>ua (oS L r) (Sm.cP ((kS Y r L)))) ?_);rintro O wa v1 wb r G OQ hO;replace hO:=cZ.eX (S:=FF) hO r.cR (iv:=(wa.heap.size,wb.heap.size)::iv) aF;replace hR:=fG.cL (K:=(wa.heap.size,wb.heap.size)::iv) hR r hF G fun p hp=>aD _ hp;replace hG:=pO.cL (K:=(wa.heap.size,wb.heap.size)::iv) hG r hF G fun p hp=>aD _ hp;replace hD:=pO.cL (K:=(wa.heap.size,wb.heap.size)::iv) hD r hF G fun p hp=>aD _ hp;replace Y:=Y.tr OQ;clear r G OQ;generalize (wa.heap.size,wb.heap.size)::iv=ivn at*
   obtain⟨o0,o1,o2,o3,o4,o5,o6,o7,rfl⟩:=cZ.shape hO;have Oe:=hD.push (cs:=rC o0 o1 o2 o3 o4 o5 o6 o7) (q:= -x) ⟨_,_,_,_,_,_,_,_,rfl,hO⟩ rfl;rw[<-hxd,EX R6]at Oe;have Px:M.flatten++(rC o0 o1 o2 o3 o4 o5 o6 o7:List Value)=(M++([rC o0 o1 o2 o3 o4 o5 o6 o7]:List (List Value))).flatten:=by simp
   conv=>whnf
   refine .inl ?_;refine⟨be,be,mx,((i+1:Nat):Int),wo,?_⟩;intro IR w3 r3;exact⟨(i+1,M++[rC o0 o1 o2 o3 o4 o5 o6 o7],w3,_),⟨R8,Y.tr r3.cV,fG.rel hR r3 hF,hG.rel r3 hF,Oe.rel r3 hF⟩,sbgn [(5,7)] r3 ⟨by dsimp only;rw[<-Px];rfl,rfl,rfl,rfl,rfl,rfl,trivial⟩ ⟨rfl,rfl,rfl,rfl,by dsimp only;rw[l1];rfl,rfl,trivial⟩,dec R8⟩
  have R8:=dE R R8;rw[R8,bF]at hD;refine qo hτ uJ (.EY 5 (.x 0 (.x 2 (.x 5 (.x 7 (.x 9 (.ld 1 520208 (.ld 6 507904 (.ld 8 490496 (.x 10 (.ld 11 487424 (.x 3 (.x 4 (.x 15 (.x 12 (.x 13 (.x 14 (.x 16 (.x 17 (.x 18 .nil)))))))))))))))))))) d6 d6 ?_;refine⟨[(2,.box T.Program [.w 3 (rv).length,.w 4 (rc).length,.v nls]),(3,.vec T.BF 1 rv),(4,.vec T.Rat 4 (rc).flatten),(0,.box T.Program [.v (.slice am F'.length cm),.v (.slice ab b.length cb),.v (.slice ac c.length cc)]),(1,.box T.Program [.v nls,.v nls,.v nls])],_,rfl,ce,⟨rfl,rfl,rfl,rfl,rfl,trivial⟩,rfl,fun O wg r=>?_⟩;have OW:(O 5).nil=false:=by
   rcases r.vec 5 _ _ _ rfl with⟨_,I⟩|⟨W,_⟩
   .rw[I]at KD;simp at KD;omega
   .exact W
  have Qr:∀p,p∈iv->p∈((O 5).g,(O 5).g+1)::iv:=fun p hp=>aD _ hp;have UO:=pO.list ((hD.rel r hF).cO fun g V=>V.mono Qr) (r.Ft (T:=Cf w (((O 5).g,(O 5).g+1)::iv)) (id:=5) (sz:=4) (m:=M.length) rfl KD mx bv hD.one fun U=>.inr ⟨(r.low 5 _ rfl U).1,_,_,aF,lr,cI _⟩);rw[show (At.w 5 M.length).den O= .slice (some ⟨(O 5).g,0,none⟩) M.length (O 5).cap by simp[At.den,OW]]at UO;have RQ:(Value.slice (some ⟨(O 5).g,0,none⟩) M.length (O 5).cap).oneCell'=true:=rfl;replace Y:=Y.tr r.cV;replace hR:=fG.cO (fG.rel hR r hF) fun g V=>V.mono Qr;replace hG:=(hG.rel r hF).cO fun g V=>V.mono Qr;refine⟨OW,_,HD (tl:=[(1,pP 0 0),(2,pP 1 0),(3,pP 2 0),(4,iN k)]) (t:=5) OW rfl ⟨rfl,rfl,rfl,rfl,trivial⟩ (by simp[ka,SV.sc,At.sc]),?_⟩;clear hD r OW;generalize ((O 5).g,(O 5).g+1)::iv=ivg at*
  generalize (O 5).g=gy at*
  generalize (O 5).cap=cpy at*
  refine⟨adc,XY,be,rC f0 f1 f2 f3 f4 f5 f6 f7,rfl,rdO UZ Y L,rC f0 f1 f2 f3 f4 f5 f6 f7,rfl,rdO UZ Y L,rfl,rfl,rfl,rfl,?_⟩;conv=>whnf
  refine .inl ?_;refine⟨be,be,mx,?_⟩;have SH:=fG.push hR RQ UO;rw[yg]at SH;refine⟨rC f0 f1 f2 f3 f4 f5 f6 f7,rfl,rdO UZ Y L,rfl,rfl,rfl,?_⟩;refine cN (I9:=fun _ J v F=>cZ F (Nf J F) v (-ck)) (fun O J r=>ua (oS L r) (hFc.cP ((kS Y r L)))) ?_;rintro O wa v2 wb r G OQ hO;replace hO:=cZ.eX (S:=FF) hO r.cR (iv:=(wa.heap.size,wb.heap.size)::ivg) aF;replace SH:=fG.cL (K:=(wa.heap.size,wb.heap.size)::ivg) SH r hF G fun p hp=>aD _ hp;replace hG:=pO.cL (K:=(wa.heap.size,wb.heap.size)::ivg) hG r hF G fun p hp=>aD _ hp;replace Y:=Y.tr OQ;clear r G OQ;generalize (wa.heap.size,wb.heap.size)::ivg=ivn at*
  obtain⟨o0,o1,o2,o3,o4,o5,o6,o7,rfl⟩:=cZ.shape hO;have hG2:=hG.push (cs:=rC o0 o1 o2 o3 o4 o5 o6 o7) (q:= -ck) ⟨_,_,_,_,_,_,_,_,rfl,hO⟩ rfl;rw[u9 hck]at hG2;have Px:rc.flatten++(rC o0 o1 o2 o3 o4 o5 o6 o7:List Value)=(rc++([rC o0 o1 o2 o3 o4 o5 o6 o7]:List (List Value))).flatten:=by simp
  refine⟨rfl,rfl,?_⟩;conv=>whnf
  refine .inl ?_;refine⟨be,be,mx,((k+1:Nat):Int),wo,?_⟩;intro IR w3 r3;exact⟨(k+1,rv++[.slice (some ⟨gy,0,none⟩) M.length cpy],rc++[rC o0 o1 o2 o3 o4 o5 o6 o7],w3,_),⟨OJ,Y.tr r3.cV,fG.rel SH r3 hF,hG2.rel r3 hF⟩,sbgn [(3,7),(4,9)] r3 ⟨by dsimp only;rw[List.length_append,List.length_append,List.length_singleton,List.length_singleton];rfl,rfl,by dsimp only;rw[<-Px];rfl,rfl,rfl,trivial⟩,dec OJ⟩
 have OJ:=dE Z OJ;rw[OJ,bF]at hG;rw[OJ]at hR QG hgl;refine⟨Nat×List (List Value)×World×Iv,fun z=>⟨[(1,pP 0 0),(2,pP 1 0),(3,pP 2 0),(7,iN z.1)],[(2,.box T.Program [.w 3 rv.length,.w 4 rc.length,.w 5 (z.2.1).length]),(3,.vec T.BF 1 rv),(4,.vec T.Rat 4 rc.flatten),(5,.vec T.Rat 4 (z.2.1).flatten),(0,.box T.Program [.v (.slice am F'.length cm),.v (.slice ab b.length cb),.v (.slice ac c.length cc)]),(1,.box T.Program [.v nls,.v nls,.v nls])],6,z.2.2.2,z.2.2.1⟩,fun z=>b.length-z.1,fun z=>z.1<=b.length/\Bq w z.2.2.1/\fG z.2.2.1 (Cf w z.2.2.2) rv (ef F' c.length)/\pO z.2.2.1 (Cf w z.2.2.2) rc (gE c)/\pO z.2.2.1 (Cf w z.2.2.2) z.2.1 (gE (b.take z.1)),?_,?_⟩
 .intro O J r;exact⟨(0,[],J,_),⟨bA _,Y.tr r.cV,fG.rel hR r hF,hG.rel r hF,pO.nil⟩,Sub.Le 2 2 T.Rat 4 rfl rfl (by simp[ka,SV.sc,At.sc,gW]) r fun Id r1=>sbgn [] r1⟩
 clear Y hR hG;rintro⟨i,rd,w1,iv⟩ ⟨R,Y,hR,hG,hD⟩;dsimp only at R Y hR hG hD ⊢;have SC:rd.length=i:=by rw[hD.len];simp[gE];omega
 have KD:=gZ hD.four;apply bS<;>intro R8
 .have R8:=dL R8;obtain⟨x,E⟩:=gO b i;obtain⟨adx,csx,Wo,Sm,-,QI⟩:=dU.load N E;obtain⟨g0,g1,g2,g3,g4,g5,g6,g7,rfl,Sm⟩:=Sm;refine dP (idO 12) ?_;refine⟨adx,Wo,be,rC g0 g1 g2 g3 g4 g5 g6 g7,rfl,rdO QI Y L,?_⟩;refine cN (I9:=fun _ J v F=>cZ F (Nf J F) v (-x)) (fun O J r=>ua (oS L r) (Sm.cP ((kS Y r L)))) ?_;rintro O wa v3 wb r G OQ hO;replace hO:=cZ.eX (S:=FF) hO r.cR (iv:=(wa.heap.size,wb.heap.size)::iv) aF;replace hR:=fG.cL (K:=(wa.heap.size,wb.heap.size)::iv) hR r hF G fun p hp=>aD _ hp;replace hG:=pO.cL (K:=(wa.heap.size,wb.heap.size)::iv) hG r hF G fun p hp=>aD _ hp;replace hD:=pO.cL (K:=(wa.heap.size,wb.heap.size)::iv) hD r hF G fun p hp=>aD _ hp;replace Y:=Y.tr OQ;clear r G OQ;generalize (wa.heap.size,wb.heap.size)::iv=ivn at*
  obtain⟨o0,o1,o2,o3,o4,o5,o6,o7,rfl⟩:=cZ.shape hO;have Oe:=hD.push (cs:=rC o0 o1 o2 o3 o4 o5 o6 o7) (q:= -x) ⟨_,_,_,_,_,_,_,_,rfl,hO⟩ rfl;rw[u9 E]at Oe;have Px:rd.flatten++(rC o0 o1 o2 o3 o4 o5 o6 o7:List Value)=(rd++([rC o0 o1 o2 o3 o4 o5 o6 o7]:List (List Value))).flatten:=by simp
  conv=>whnf
  refine .inl ?_;refine⟨be,be,mx,((i+1:Nat):Int),wo,?_⟩;intro IR w3 r3;exact⟨(i+1,rd++[rC o0 o1 o2 o3 o4 o5 o6 o7],w3,_),⟨R8,Y.tr r3.cV,fG.rel hR r3 hF,hG.rel r3 hF,Oe.rel r3 hF⟩,sbgn [(5,7)] r3 ⟨by dsimp only;rw[l1];rfl,rfl,rfl,by dsimp only;rw[<-Px];rfl,rfl,rfl,trivial⟩,dec R8⟩
 have R8:=dE R R8;rw[R8,bF]at hD;rw[R8]at SC;intro I8 we re;have hcw:∀g,Cf w iv g->Nf w we g:=fun g V=>Cv.nw V re;replace hR:=fG.cO (fG.rel hR re hF) hcw;replace hG:=(hG.rel re hF).cO hcw;replace hD:=(hD.rel re hF).cO hcw;have hlw:∀{id bt sz cs},dF [(2,.box T.Program [.w 3 rv.length,.w 4 rc.length,.w 5 (rd).length]),(3,.vec T.BF 1 rv),(4,.vec T.Rat 4 rc.flatten),(5,.vec T.Rat 4 (rd).flatten),(0,.box T.Program [.v (.slice am F'.length cm),.v (.slice ab b.length cb),.v (.slice ac c.length cc)]),(1,.box T.Program [.w 3 rv.length,.w 4 rc.length,.w 5 rd.length])] id=some (.vec bt sz cs)->(I8 id).nil=false->Nf w we (I8 id).g:=fun h U=>.inr (re.low _ _ h U);have q1:dC we (Nf w we) ((At.w 3 rv.length).den I8) (ef F' c.length):=⟨rv,hR.1▸re.Ft (id:=3) (sz:=1) (m:=rv.length) rfl be mx bv hR.2.1 (hlw rfl),hR.1,hR.2.2⟩
 have q2:cS we (Nf w we) ((At.w 4 rc.length).den I8) (gE c):=hG.list (re.Ft (id:=4) (sz:=4) (m:=rc.length) rfl (gZ hG.four) mx bv hG.one (hlw rfl));have q3:cS we (Nf w we) ((At.w 5 rd.length).den I8) (gE b):=hD.list (re.Ft (id:=5) (sz:=4) (m:=rd.length) rfl (gZ hD.four) mx bv hD.one (hlw rfl));obtain⟨a1,c1,W,-,-⟩:=dD.shape q1;obtain⟨a2,c2,I,-,-⟩:=dU.shape q2;obtain⟨a3,c3,h3,-,-⟩:=dU.shape q3;rw[show (ef F' c.length).length=c.length by simp[ef]]at W;rw[show (gE c).length=c.length by simp[gE]]at I;rw[show (gE b).length=b.length by simp[gE]]at h3;rw[W]at q1;rw[I]at q2;rw[h3]at q3;refine⟨_,rfl,Y.tr re.cV,a1,c1,a2,c2,a3,c3,?_,q1,q2,q3⟩;show Value.agg #[(At.w 3 rv.length).den I8,(At.w 4 rc.length).den I8,(At.w 5 rd.length).den I8]=_;rw[W,I,h3]
end Go.Ex
namespace Go.Ex
variable{G8:List (List Rat)}
theorem sq{i:Nat}(h:i<G8.length):G8.getD i []∈G8:=by
 rw[List.getD,aE h];exact List.getElem_mem h
def Nu(n c:Nat)(s:List (List Rat)×List Nat):Prop:=pf n s.1/\s.2.length<=s.1.length/\(∀j t,s.2.length<=j->j<s.1.length->t<c->dZ s.1 j t=0)/\(∀p∈s.2,p<c)/\
 ∀i j,i<s.2.length->j<s.1.length->dZ s.1 j (s.2.getD i 0)=if j=i then 1 else 0
abbrev Mx:=Nat->Nat->Rat
def skip(k j:Nat):Nat:=if j<k then j else j+1
def sP(k:Nat):Rat:=if k % 2=1 then -1 else 1
def cW(f:Nat->Rat):Nat->Rat
 |0=>0
 |n+1=>cW f n+f n
def fP:Nat->Mx->Rat
 |0,_=>1
 |n+1,m=>cW (fun k=>sP k*(m 0 k*fP n fun i j=>m (i+1) (skip k j))) (n+1)
theorem cQ{f g:Nat->Rat}:∀{n:Nat},(∀k,k<n->f k=g k)->cW f n=cW g n
 |0,_=>rfl
 |n+1,h=>by rw[cW,cW,cQ fun k Z=>h k be,h n be]
theorem db:∀(n:Nat),cW (fun _=>0) n=0
 |0=>rfl
 |n+1=>by rw[cW,db n,cK]
theorem gG(f g:Nat->Rat):∀(n:Nat),cW (fun k=>f k+g k) n=cW f n+cW g n
 |0=>(cK 0).symm
 |n+1=>by rw[cW,cW,cW,gG f g n];grind
theorem gH(p:Rat)(f:Nat->Rat):∀(n:Nat),cW (fun k=>p*f k) n=p*cW f n
 |0=>(bI p).symm
 |n+1=>by rw[cW,cW,gH p f n];grind
theorem eo(f:Nat->Rat)(n:Nat):cW (fun k=> -f k) n= -cW f n:=by
 have h:=gH (-1) f n;rw[show (-1:Rat)*cW f n= -cW f n by grind]at h;rw[<-h];exact cQ fun k _=>by grind
theorem FC{k j n:Nat}(h:j<n):skip k j<n+1:=by unfold skip;split<;>omega
theorem GO{k l:Nat}(h:k<=l)(j:Nat):skip k (skip l j)=skip (l+1) (skip k j):=by
 unfold skip;grind
theorem jY:∀{n:Nat} {m m':Mx},(∀i j,i<n->j<n->m i j=m' i j)->fP n m=fP n m'
 |0,_,_,_=>rfl
 |n+1,m,m',h=>by
  unfold fP;refine cQ fun k Z=>?_;rw[h 0 k be Z,jY fun i j R hj=>h (i+1) (skip k j) be (FC hj)]
def gn(m:Mx)(r:Nat)(u:Nat->Rat):Mx:=fun i j=>if i=r then u j else m i j
theorem uC(m:Mx)(r k:Nat)(u:Nat->Rat):(fun i j=>gn m (r+1) u (i+1) (skip k j))=gn (fun i j=>m (i+1) (skip k j)) r fun j=>u (skip k j):=by
 funext i j
 unfold gn;by_cases h:i=r
 .rw[aM h,aM be]
 .rw[aK h,aK be]
theorem pg(p:Rat):∀(n r:Nat) (m:Mx),r<n->∀(u v:Nat->Rat),fP n (gn m r fun j=>u j+p*v j)=fP n (gn m r u)+p*fP n (gn m r v)
 |0,_,_,h,_,_=>by omega
 |n+1,0,m,_,u,v=>by
  unfold fP;rw[<-gH,<-gG];refine cQ fun k _=>?_;have e:∀x:Nat->Rat,(fun i j=>gn m 0 x (i+1) (skip k j))=fun i j=>m (i+1) (skip k j):=fun x=>by
   funext i j;unfold gn;rw[aK be]
  rw[e,e,e];unfold gn;rw[aM rfl,aM rfl,aM rfl];grind
 |n+1,r+1,m,h,u,v=>by
  unfold fP;rw[<-gH,<-gG];refine cQ fun k _=>?_;rw[uC,uC,uC,pg p n r _ be (fun j=>u (skip k j)) fun j=>v (skip k j)];have e:∀x:Nat->Rat,gn m (r+1) x 0 k=m 0 k:=fun x=>by unfold gn;rw[aK be]
  rw[e,e,e];grind
theorem xT{AC:Nat->Nat->Rat}:∀{n:Nat},(∀k l,k<=l->l<n->AC k l+AC (l+1) k=0)->cW (fun k=>cW (AC k) n) (n+1)=0
 |0,_=>by show 0+0=(0:Rat);grind
 |n+1,h=>by
  have ih:=xT (AC:=AC) (n:=n) fun k l W I=>h k l W be;have h3:cW (fun k=>AC k n+AC (n+1) k) (n+1)=0:=by
   rw[cQ (g:=fun _=>0) fun k Z=>h k n be be,db]
  rw[gG]at h3;rw[cW];have h4:cW (fun k=>cW (AC k) (n+1)) (n+1)=cW (fun k=>cW (AC k) n) (n+1)+cW (fun k=>AC k n) (n+1):=by
   rw[<-gG];rfl
  rw[h4,ih,Rat.zero_add];exact h3
def uq(a b i:Nat):Nat:=if i=a then b else if i=b then a else i
theorem GP(r i:Nat):uq (r+1) (r+2) (i+1)=uq r (r+1) i+1:=by
 unfold uq;by_cases h:i=r
 .rw[aM be,aM h]
 .rw[aK be,aK h];by_cases I:i=r+1
  .rw[aM be,aM I]
  .rw[aK be,aK I]
theorem Hm(k:Nat):sP (k+1)= -sP k:=by
 unfold sP;by_cases h:k % 2=1
 .rw[aM h,aK be];grind
 .rw[aK h,aM be]
theorem CM(n:Nat)(m:Mx):fP (n+2) m=cW (fun k=>cW (fun l=>sP k*sP l*(m 0 k*m 1 (skip k l))*fP n fun i j=>m (i+2) (skip k (skip l j))) (n+1)) (n+2):=by
 rw[fP];refine cQ fun k _=>?_;rw[fP,<-gH,<-gH];refine cQ fun l _=>?_;grind
theorem xU:∀(n r:Nat) (m:Mx),r+1<n->fP n (fun i j=>m (uq r (r+1) i) j)= -fP n m
 |0,_,_,h=>by omega
 |1,_,_,h=>by omega
 |n+2,0,m,_=>by
  rw[CM,CM,<-eo];have key:cW (fun k=>cW (fun l=>sP k*sP l*(m 1 k*m 0 (skip k l))*(fP n fun i j=>m (i+2) (skip k (skip l j)))+sP k*sP l*(m 0 k*m 1 (skip k l))*fP n fun i j=>m (i+2) (skip k (skip l j))) (n+1)) (n+2)=0:=by
   refine xT fun k l W I=>?_;have e1:skip k l=l+1:=by unfold skip;rw[aK be]
   have e2:skip (l+1) k=k:=by unfold skip;rw[aM be]
   have e3:(fun i j=>m (i+2) (skip (l+1) (skip k j)))=fun i j=>m (i+2) (skip k (skip l j)):=by
    funext i j;rw[GO W]
   rw[e1,e2,e3,Hm];grind
  have h4:cW (fun k=>cW (fun l=>sP k*sP l*(m 1 k*m 0 (skip k l))*(fP n fun i j=>m (i+2) (skip k (skip l j)))+sP k*sP l*(m 0 k*m 1 (skip k l))*fP n fun i j=>m (i+2) (skip k (skip l j))) (n+1)) (n+2)=
    cW (fun k=>cW (fun l=>sP k*sP l*(m 1 k*m 0 (skip k l))*fP n fun i j=>m (i+2) (skip k (skip l j))) (n+1)) (n+2)+cW (fun k=>cW (fun l=>sP k*sP l*(m 0 k*m 1 (skip k l))*fP n fun i j=>m (i+2) (skip k (skip l j))) (n+1)) (n+2):=by
   rw[<-gG];exact cQ fun k _=>gG _ _ _
  rw[h4]at key;have h5:cW (fun k=> -cW (fun l=>sP k*sP l*(m 0 k*m 1 (skip k l))*fP n fun i j=>m (i+2) (skip k (skip l j))) (n+1)) (n+2)= -cW (fun k=>cW (fun l=>sP k*sP l*(m 0 k*m 1 (skip k l))*fP n fun i j=>m (i+2) (skip k (skip l j))) (n+1)) (n+2):=eo _ _;rw[h5];have h6:cW (fun k=>cW (fun l=>sP k*sP l*(m (uq 0 1 0) k*m (uq 0 1 1) (skip k l))*fP n fun i j=>m (uq 0 1 (i+2)) (skip k (skip l j))) (n+1)) (n+2)=cW (fun k=>cW (fun l=>sP k*sP l*(m 1 k*m 0 (skip k l))*fP n fun i j=>m (i+2) (skip k (skip l j))) (n+1)) (n+2):=by
   refine cQ fun k _=>cQ fun l _=>?_;have e:∀i,uq 0 1 (i+2)=i+2:=fun i=>by unfold uq;rw[aK be,aK be]
   simp only[e]
   rfl
  rw[show (0:Nat)+1=1 from rfl,h6];grind
 |n+2,r+1,m,h=>by
  rw[fP,fP,<-eo];refine cQ fun k _=>?_;have e:(fun i j=>m (uq (r+1) (r+1+1) (i+1)) (skip k j))=fun i j=>m (uq r (r+1) i+1) (skip k j):=by
   funext i j
   rw[show r+1+1=r+2 from rfl,GP]
  have ih:fP (n+1) (fun i j=>m (uq r (r+1) i+1) (skip k j))= -fP (n+1) fun i j=>m (i+1) (skip k j):=xU (n+1) r (fun i j=>m (i+1) (skip k j)) be;rw[e,ih];rw[show uq (r+1) (r+1+1) 0=0 by unfold uq;rw[aK be,aK be]];grind
theorem oJ:∀(k n:Nat) (m:Mx),k+1<n->(∀j,j<n->m 0 j=m (k+1) j)->fP n m=0
 |0,n,m,h,G=>by
  have W:=xU n 0 m h;rw[jY (m':=m) fun i j R hj=>?_]at W
  .grind
  .unfold uq;by_cases h0:i=0
   .rw[aM h0,h0];exact(G j hj).symm
   .rw[aK h0];by_cases I:i=1
    .rw[aM I,I];exact G j hj
    .rw[aK I]
 |k+1,n,m,h,G=>by
  have W:=xU n (k+1) m h;rw[oJ k n _ be fun j hj=>?_]at W
  .grind
  .rw[show uq (k+1) (k+1+1) 0=0 by unfold uq;rw[aK be,aK be],show uq (k+1) (k+1+1) (k+1)=k+1+1 by unfold uq;rw[aM rfl]];exact G j hj
theorem CN(m:Mx)(r:Nat):gn m r (m r)=m:=by
 funext i j
 unfold gn;by_cases h:i=r
 .rw[aM h,h]
 .rw[aK h]
theorem GQ{n k:Nat}{m:Mx}(h:k+1<n):fP n (fun i j=>m (uq 0 (k+1) i) j)= -fP n m:=by
 have z:∀u:Nat->Rat,fP n (gn (gn m 0 u) (k+1) u)=0:=fun u=>oJ k n _ h fun j _=>by
  unfold gn;rw[aK be,aM rfl,aM rfl]
 have cm:∀u v:Nat->Rat,gn (gn m 0 u) (k+1) v=gn (gn m (k+1) v) 0 u:=fun u v=>by
  funext i j;unfold gn
  by_cases W:i=k+1
  .rw[aM W,aK be,aM W]
  .rw[aK W,aK W]
 have l1:∀u v x:Nat->Rat,fP n (gn (gn m 0 u) (k+1) fun j=>v j+1*x j)=fP n (gn (gn m 0 u) (k+1) v)+1*fP n (gn (gn m 0 u) (k+1) x):=fun u v x=>pg 1 n (k+1) _ h v x;have l2:∀u v x:Nat->Rat,fP n (gn (gn m 0 fun j=>v j+1*x j) (k+1) u)=fP n (gn (gn m 0 v) (k+1) u)+1*fP n (gn (gn m 0 x) (k+1) u):=fun u v x=>by
  rw[cm,cm,cm];exact pg 1 n 0 _ be v x
 have W:=z fun j=>m 0 j+1*m (k+1) j;rw[l1,l2,l2,z,z]at W;have e1:gn (gn m 0 (m 0)) (k+1) (m (k+1))=m:=by rw[CN,CN]
 have e2:gn (gn m 0 (m (k+1))) (k+1) (m 0)=fun i j=>m (uq 0 (k+1) i) j:=by
  funext i j;unfold gn uq
  by_cases W:i=k+1
  .rw[aM W,aK be,aM W]
  .rw[aK W];by_cases h0:i=0
   .rw[aM h0,aM h0]
   .rw[aK h0,aK h0,aK W]
 rw[e1,e2]at W;grind
theorem j3(f:Nat->Rat)(p:Rat)(n:Nat):cW (fun k=>f k*p) n=cW f n*p:=by
 rw[Rat.mul_comm,<-gH];exact cQ fun k _=>Rat.mul_comm ..
theorem jc(f g:Nat->Rat):∀(n:Nat),cW (fun k=>f k-g k) n=cW f n-cW g n
 |0=>by show(0:Rat)=0-0;grind
 |n+1=>by rw[cW,cW,cW,jc f g n];grind
theorem eM{f:Nat->Rat}{i:Nat}:∀{n:Nat},i<n->(∀k,k<n->k≠i->f k=0)->cW f n=f i
 |0,h,_=>by omega
 |n+1,h,hz=>by
  rw[cW];rcases az i n with W|W
  .rw[eM W fun k Z OL=>hz k be OL,hz n be be,cK]
  .obtain rfl:i=n:=by omega
   rw[cQ (g:=fun _=>0) fun k Z=>hz k be be,db,Rat.zero_add]
end Go.Ex
namespace Go.Ex
open Go Go.Sx Go.Proofs
variable{cs:List Value}
abbrev Ms(gm FS:Nat):Value:=.slice (some ⟨gm,0,none⟩) FS FS
def OE(S:Nat->Prop)(B:Nat)(iv:Iv)(gm FS:Nat)(rv:List Value)(g:Nat):Prop:=Cv S B iv g/\¬Mb (Ms gm FS) rv g
structure NH(w:World)(S:Nat->Prop)(B:Nat)(iv:Iv)(gm FS n:Nat)(rv:List Value)(G8:List (List Rat)):Prop where
 NI:iC w (OE S B iv gm FS rv) (Ms gm FS) rv n G8
 kL:∀g,Mb (Ms gm FS) rv g->Cv FF B iv g
 rows:rv.length=FS
section
variable{S S':Nat->Prop}{H:Hp}{nx gm FS n:Nat}{iv K:Iv}{B:Nat}{w J F:World}{O:Nat->Sx.dc}{rv:List Value}{G8:List (List Rat)}
structure aAB(w:World)(S:Nat->Prop)(B:Nat)(iv:Iv)(gm FS n:Nat)(rv:List Value)(G8:List (List Rat))(i:Nat)(vb:Value):Prop where
 out:w.ownsRow 0 T.row 1 (Ms gm FS) FS (rv.set i vb)
 AI:∃w0,NH w0 S B iv gm FS n rv G8/\∀g,Cv S B iv g->g≠gm->w.heap[g]? =w0.heap[g]?
end
section
variable{S:Nat->Prop}{H:Hp}{nx gm FS:Nat}{iv K:Iv}{B:Nat}{w J F:World}{O:Nat->Sx.dc}{rv:List Value}{M:List (List Value)}{qs:List Rat}
theorem Fr.push(h:Fr w S M qs){q:Rat}(hq:jP w S cs q):Fr w S (M++[cs]) (qs++[q]):=by
 refine⟨by simp[h.1],fun j c x W I=>?_⟩;rcases az j M.length with hj|hj
 .rw[aQ hj]at W;rw[aQ (by rw[<-h.1];exact hj)]at I;exact h.2 j c x W I
 .rw[aW hj]at W;rw[aW (by rw[<-h.1];exact hj),<-h.1]at I;have:j-M.length=0:=by have:=(aH.1 W).1;simp at this;omega
  rw[this]at W I;injection W with W;injection I with I;subst W I;exact hq
end
end Go.Ex
namespace Go.Ex
section
variable{G8:List (List Rat)}{b:List Rat}{n:Nat}
def Kx(G8:List (List Rat))(b:List Rat):List (List Rat):=G8.mapIdx fun i r=>r++[b.getD i 0]
end
end Go.Ex
namespace Go.Ex
open Go Go.Sx Go.Proofs
variable{c:List (Int×Int)}{G8:List (List (Int×Int))}{S:Nat->Prop}
section
variable{S:Nat->Prop}{H:Hp}{nx:Nat}{iv0:Iv}{B:Nat}{w J F:World}{O:Nat->Sx.dc}{v:Value}{xs:List Rat}
end
theorem og{q:Rat}:rs q<0↔q<0:=by rw[rs,Int.sign_neg_iff,<-Int.not_le,Rat.num_nonneg,Rat.not_le]
theorem mI{q:Rat}:0<rs q↔0<q:=by
 have h:=og (q:= -q);rw[Kw]at h;constructor
 .intro k;have:=h.1 be;grind
 .intro k;have:=h.2 (by grind);omega
theorem ij{p q:Rat}:rs (p-q)<0↔p<q:=by rw[og];constructor<;>intro h<;>grind
theorem om{p q:Rat}:0<rs (p-q)↔q<p:=by rw[mI,<-Rat.lt_iff_sub_pos]
def D5(xs ys:List Rat):Prop:=∀i,i<xs.length->ys.getD i 0<=xs.getD i 0
abbrev iI(n:Nat):List Rat:=List.replicate n 0
def rn(G8:List (List Rat))(n:Nat)(x b:List Rat):Prop:=x.length=n/\D5 x (iI x.length)/\∀(i:Nat) r,G8[i]? =some r->eR r x r.length<=b.getD i 0
def Ir(G8:List (List Rat))(y c:List Rat):Prop:=y.length=G8.length/\D5 y (iI y.length)/\D5 (qp y G8 c.length G8.length) c
def uZ(G8:List (List Rat))(b c:List Rat)(z:Int)(X E8 FS:List Rat)(q:Rat):Prop:=
 (z=0/\FS=[]/\rn G8 c.length X b/\Ir G8 E8 c/\eR c X c.length=q/\eR E8 b E8.length=q)\/
 (z=1/\X=[]/\FS=[]/\q=0/\Ir G8 E8 (iI c.length)/\eR E8 b E8.length<0)\/
 (z=2/\E8=[]/\q=0/\rn G8 c.length X b/\rn G8 c.length FS (iI b.length)/\0<eR c FS c.length)
def iB(G8:List (List (Int×Int)))(b c:List (Int×Int)):Nat:=if im G8≠0 then im G8 else if b.length≠G8.length\/(0<G8.length/\c.length≠dH G8)then 11 else if 60<c.length then 8 else 0
theorem nZ{b:List (Int×Int)}(h:iB G8 b c=0):im G8=0/\b.length=G8.length/\c.length<=60/\G8.length<=60/\∀r∈G8,r.length=c.length:=by
 unfold iB at h;split at h
 .rename_i h3;exact absurd h h3
 .rename_i h3;split at h
  .cases h
  .rename_i h4;split at h
   .cases h
   .rename_i h5;have h3:im G8=0:=by omega
    obtain⟨OI,hl,-⟩:=AX h3;refine⟨h3,be,be,hl,fun r hr=>?_⟩;have:=List.length_pos_of_mem hr;rw[OI r hr];omega
theorem ye{w:World}{vm vb vc:Value}{b:List (Int×Int)}(L:Old S w)(h:dK w S vm G8)(N:dB w S vb b)(hc:dB w S vc c):
  eD PG Fd.ll #[.agg #[vm,vb,vc]] w (eL w fun v' _=>v'=iV (iB G8 b c)):=by
 have Y:=bR w;obtain⟨am,cm,rfl,Rd,TQ⟩:=dD.shape h;obtain⟨ab,cb,rfl,Pv,S0⟩:=dU.shape N;obtain⟨ac,cc,rfl,Uc,RL⟩:=dU.shape hc;unfold maxLen at TQ S0 RL;refine pI ce ?_;conv=>whnf
 refine cM (cE Y (pE (iV (im G8))) (fun O J r=>sH (oS L r) (dK.cP h ((kS Y r L)))) ?_);rintro O _ _ _ OS r G Y A rfl;clear r;conv=>whnf
 apply bS<;>intro G
 .have G:im G8≠0:=fun e=>by rw[e]at G;simp at G
  conv=>whnf
  exact rtn Y fun I8 we re=>by unfold iB;rw[aM G];rfl
 have G:im G8=0:=by
  have h4:((im G8:Int)==0)=true:=by simpa using G
  have:=eq_of_beq h4;omega
 conv=>whnf
 refine dP (idO 23) ?_;conv=>whnf
 apply bS<;>intro hl
 .have hl:b.length≠G8.length:=fun e=>by rw[e]at hl;simp at hl
  conv=>whnf
  exact rtn Y fun I8 we re=>by unfold iB;rw[aK be,aM (.inl hl)];rfl
 have hl:b.length=G8.length:=by
  have h4:((b.length:Int)==(G8.length:Int))=true:=by simpa using hl
  have:=eq_of_beq h4;omega
 conv=>whnf
 apply bS<;>intro h0
 .have h0:0<G8.length:=by have:(0:Int)<G8.length:=(by simpa using h0);omega
  conv=>whnf
  refine cE Y (pE (iV (dH G8))) (fun O J r=>rS (oS L r) (dK.cP h ((kS Y r L)))) ?_;rintro O _ _ _ iv2 r G Y A rfl;clear r G;conv=>whnf
  apply bS<;>intro W
  .have W:c.length≠dH G8:=fun e=>by rw[e]at W;simp at W
   conv=>whnf
   exact rtn Y fun I8 we re=>by unfold iB;rw[aK be,aM (.inr ⟨h0,W⟩)];rfl
  have W:c.length=dH G8:=by
   have h4:((c.length:Int)==(dH G8:Int))=true:=by simpa using W
   have:=eq_of_beq h4;omega
  conv=>whnf
  apply bS<;>intro h6
  .have h6:60<c.length:=by have:(60:Int)<c.length:=(by simpa using h6);omega
   conv=>whnf
   exact rtn Y fun I8 we re=>by unfold iB;rw[aK be,aK be,aM h6];rfl
  have h6:¬60<c.length:=by have:¬(60:Int)<c.length:=(by simpa using h6);omega
  conv=>whnf
  exact rtn Y fun I8 we re=>by unfold iB;rw[aK be,aK be,aK h6];rfl
 have h0:¬0<G8.length:=by have:¬(0:Int)<G8.length:=(by simpa using h0);omega
 conv=>whnf
 apply bS<;>intro h6
 .have h6:60<c.length:=by have:(60:Int)<c.length:=(by simpa using h6);omega
  conv=>whnf
  exact rtn Y fun I8 we re=>by unfold iB;rw[aK be,aK be,aM h6];rfl
 have h6:¬60<c.length:=by have:¬(60:Int)<c.length:=(by simpa using h6);omega
 conv=>whnf
 exact rtn Y fun I8 we re=>by unfold iB;rw[aK be,aK be,aK h6];rfl
theorem AZ(n:Nat):(iI n).length=n:=bp ..
end Go.Ex
namespace Go.Ex
variable{If:List Rat}{B i j l r v:Nat}{F':Nat->Nat->Rat}{P:Nat->Prop}{x:Nat->Rat}{a p z:Rat}
def MF:List Nat->(Nat->Rat)->Rat
 |[],_=>0
 |t::l,g=>g t+MF l g
def gw(G8:List (List Rat))(x:List Rat):List Rat:=G8.map fun r=>eR r x r.length
section
variable{G8:List (List Rat)}{x:List Rat}{n:Nat}
end
structure Diff(F':List (List Rat))(pv:List Nat)(n:Nat)(x:List Rat):Prop where
 up:pv.Pairwise (· < ·)
 lt:∀p∈pv,p<n
 le:pv.length<=F'.length
 unit:∀i j,i<pv.length->j<F'.length->dZ F' j (pv.getD i 0)=if j=i then 1 else 0
 sum:∀j,j<F'.length->MF (List.range n) (fun t=>dZ F' j t*x.getD t 0)=dZ F' j n
section
variable{F':List (List Rat)}{pv:List Nat}{n:Nat}{x:List Rat}
end
theorem kO(f:Nat->Nat->Rat)(m:Nat):∀n,cW (fun i=>cW (f i) m) n=cW (fun j=>cW (fun i=>f i j) n) m
 |0=>(db m).symm
 |n+1=>by
  show cW (fun i=>cW (f i) m) n+cW (f n) m=cW (fun j=>cW (fun i=>f i j) n+f n j) m;rw[gG,kO f m n]
theorem fQ(x y:List Rat):∀n,eR x y n=cW (fun t=>x.getD t 0*y.getD t 0) n
 |0=>rfl
 |n+1=>by rw[eR,fQ x y n];rfl
theorem iT{f:Nat->Rat}:∀{n:Nat},(∀k,k<n->0<=f k)->0<=cW f n
 |0,_=>Rat.le_refl
 |n+1,h=>by
  have W:=iT (n:=n) fun k Z=>h k be;have I:=h n be;show 0<=cW f n+f n;grind
section
variable{m m':Mx}{n w p:Nat}{κ:Rat}{q:Nat->Rat}
end
def jk(EQ:Mx)(r n:Nat)(v:Nat->Rat):Prop:=∃c:Nat->Rat,∀t,t<n->v t=cW (fun i=>c i*EQ i t) r
structure Rf(EQ:Mx)(p:Nat->Nat)(r n:Nat):Prop where
 lt:∀i,i<r->p i<n
 mono:∀i j,i<j->j<r->p i<p j
 unit:∀i j,i<r->j<r->EQ j (p i)=if j=i then 1 else 0
 lead:∀i t,i<r->t<p i->EQ i t=0
section
variable{EQ AC:Mx}{p q:Nat->Nat}{r s n:Nat}{v:Nat->Rat}
end
theorem jk.row{EQ:Mx}{n:Nat}(R:i<r):jk EQ r n (EQ i):=⟨fun k=>if k=i then 1 else 0,fun t _=>by
 rw[eM R fun k _ OL=>by simp only[aK OL,bu]]
 simp only[aM,Rat.one_mul]⟩
theorem jk.add{EQ:Mx}{n:Nat}{u v:Nat->Rat}(h:jk EQ r n u)(k:jk EQ r n v)(x:Rat):jk EQ r n fun t=>u t+x*v t:=by
 obtain⟨c,hc⟩:=h;obtain⟨d,hd⟩:=k;refine⟨fun i=>c i+x*d i,fun t ht=>?_⟩;show u t+x*v t=cW (fun i=>(c i+x*d i)*EQ i t) r;rw[hc t ht,hd t ht,<-gH,<-gG];exact cQ fun i _=>by grind
theorem jk.mul{EQ:Mx}{n:Nat}{u:Nat->Rat}(h:jk EQ r n u)(x:Rat):jk EQ r n fun t=>u t*x:=by
 obtain⟨c,hc⟩:=h;refine⟨fun i=>c i*x,fun t ht=>?_⟩;show u t*x=cW (fun i=>(c i*x)*EQ i t) r;rw[hc t ht,<-j3];exact cQ fun i _=>by grind
theorem jk.congr{EQ:Mx}{n:Nat}{u v:Nat->Rat}(h:jk EQ r n u)(e:∀t,t<n->v t=u t):jk EQ r n v:=by
 obtain⟨c,hc⟩:=h;exact⟨c,fun t ht=>by rw[e t ht,hc t ht]⟩
theorem jk.trans{EQ AC:Mx}{s n:Nat}{v:Nat->Rat}(h:jk EQ r n v)(k:∀i,i<r->jk AC s n (EQ i)):jk AC s n v:=by
 obtain⟨c,hc⟩:=h;have key:∀m,m<=r->jk AC s n fun t=>cW (fun i=>c i*EQ i t) m:=by
  intro m
  induction m with
  |zero=>intro _;exact⟨fun _=>0,fun t _=>by rw[cQ (g:=fun _=>0) fun i _=>bu _,db];rfl⟩
  |succ m ih=>
   intro hm;exact(ih be).add (k m be) (c m)
 exact(key r (ae _)).congr fun t ht=>hc t ht
def NB(s:List (List Rat)×List Nat):Prop:=(∀i j,i<j->j<s.2.length->s.2.getD i 0<s.2.getD j 0)/\∀i t,i<s.2.length->t<s.2.getD i 0->dZ s.1 i t=0
structure Ru(EQ:Mx)(p:Nat->Nat)(r n:Nat):Prop where
 lt:∀i,i<r->p i<n
 inj:∀i j,i<r->j<r->p i=p j->i=j
 unit:∀i j,i<r->j<r->EQ j (p i)=if j=i then 1 else 0
 lead:∀i t,i<r->t<p i->EQ i t=0
def Nv(EQ:Mx)(p:Nat->Nat)(r:Nat)(v:Nat->Rat)(k t:Nat):Rat:=v t-cW (fun i=>if p i<k then v (p i)*EQ i t else 0) r
section
variable{EQ:Mx}{p:Nat->Nat}{r n:Nat}{v:Nat->Rat}
end
section
variable{EQ:Mx}{p:Nat->Nat}{r n k:Nat}{u v:Nat->Rat}
end
abbrev Ky:=List (List Rat)×List (Option Nat)×List Nat
structure MG(n cols i:Nat)(s:Ky):Prop where
 len:pf n s.1
 at_:s.2.1.length=cols
 Ad:s.2.2.length=s.1.length
 lt:∀(k r:Nat),s.2.1[k]? =some (some r)->r<s.1.length
 le:s.1.length<=i
 fr:∀j∈s.2.2,j<i
structure Frm where
 nodes:List (Int×Int×Int)
 bars:List (Int×Int×Rat)
 aAE:List (Int×Int×Rat)
def Ib(B:Nat)(q:Rat):Prop:=∃z:Int,q=(z:Rat)/\z.natAbs<=B
theorem Ib.add{C:Nat}{q:Rat}(h:Ib B p)(k:Ib C q):Ib (B+C) (p+q):=by
 obtain⟨z,rfl,b⟩:=h;obtain⟨y,rfl,c⟩:=k;exact⟨z+y,by rw[Rat.intCast_add],be⟩
theorem Ib.mul{C:Nat}{q:Rat}(h:Ib B p)(k:Ib C q):Ib (B*C) (p*q):=by
 obtain⟨z,rfl,b⟩:=h;obtain⟨y,rfl,c⟩:=k;exact⟨z*y,by rw[Rat.intCast_mul],by rw[Int.natAbs_mul];exact Nat.mul_le_mul b c⟩
theorem Ib.neg(h:Ib B p):Ib B (-p):=by
 obtain⟨z,rfl,b⟩:=h;exact⟨-z,by rw[Rat.intCast_neg],be⟩
theorem Ib.zero(B:Nat):Ib B 0:=⟨0,rfl,bA _⟩
theorem Ib.one(h:1<=B):Ib B 1:=⟨1,rfl,h⟩
theorem Ib.int{z:Int}(h:z.natAbs<=B):Ib B (z:Rat):=⟨z,rfl,h⟩
theorem Ib.sum{B:Nat}{f:Nat->Rat}:∀(n:Nat),(∀k,k<n->Ib B (f k))->Ib (n*B) (cW f n)
 |0,_=>Ib.zero _
 |n+1,h=>by rw[cW,Nat.succ_mul];exact(Ib.sum n fun k Z=>h k be).add (h n be)
def fB(B:Nat):Nat->Nat
 |0=>1
 |n+1=>(n+1)*(B*fB B n)
theorem Ib.sP{k:Nat}{q:Rat}(h:Ib B q):Ib B (sP k*q):=by
 unfold Go.Ex.sP;split
 .rw[show (-1:Rat)*q= -q by grind];exact h.neg
 .rw[Rat.one_mul];exact h
theorem Ib.Nk{B:Nat}:∀(n:Nat) {m:Mx},(∀i j,i<n->j<n->Ib B (m i j))->Ib (fB B n) (fP n m)
 |0,_,_=>Ib.one (ae _)
 |n+1,m,h=>by
  unfold fP fB;exact Ib.sum (n+1) fun k Z=>((h 0 k be Z).mul (Ib.Nk n fun i j R hj=>h (i+1) (skip k j) be (FC hj))).sP
theorem K5{B FS:Nat}:∀{n:Nat},n<=FS->fB B n<=(FS*B)^n
 |0,_=>ae _
 |n+1,h=>by
  rw[fB,Nat.pow_succ,<-bc,bV _ (FS*B)];exact Nat.mul_le_mul (Nat.mul_le_mul_right B h) (K5 be)
theorem MH{FS n:Nat}(U:n<=FS)(h:FS*B<=wt l):ln (fB B n)<=l*n+1:=by
 rw[gF,iy];have W:=aP (K5 (B:=B) U) (Nat.pow_le_pow_left h n);rw[pe,<-Nat.pow_mul]at W;have I:=pe (l*n);have h3:=xS (l*n);rw[show 32*l*n=32*(l*n) by rw[bc]]at W;omega
theorem Jd{Fn:Nat}{D q:Rat}(h0:D≠0)(hD:Ib Fn D)(hq:Ib Fn (D*q)):rl q<=ln Fn:=by
 obtain⟨d,rfl,b⟩:=hD;obtain⟨z,e,c⟩:=hq;have hd:d≠0:=fun e=>h0 (by rw[e];rfl);have e2:q=Rat.divInt z d:=by
  rw[Rat.divInt_eq_div,<-e,bK,Rat.mul_comm (d:Rat) q,Rat.mul_assoc,Rat.mul_inv_cancel _ h0,Rat.mul_one]
 have:=ju (a:=z) hd;have:=e9 b;have:=e9 c;rw[e2];omega
theorem GV{n:Nat}{m:Mx}(h:r<n):fP n (gn m r fun _=>0)=0:=by
 have W:=pg 1 n r m h (fun _=>0) fun _=>0;rw[show (fun _:Nat=>(0:Rat)+1*0)=fun _=>0 from funext fun _=>by grind]at W;grind
theorem CP{n r:Nat}{m:Mx}(h:r<n)(c:Nat->Rat)(v:Nat->Nat->Rat):∀s,fP n (gn m r fun j=>cW (fun k=>c k*v k j) s)=cW (fun k=>c k*fP n (gn m r (v k))) s
 |0=>GV h
 |s+1=>by
  have W:=pg (c s) n r m h (fun j=>cW (fun k=>c k*v k j) s) (v s);rw[CP h c v s]at W;exact W
theorem FD{n a b:Nat}{m:Mx}(N:b<n)(Rj:a<b)(G:∀j,j<n->m a j=m b j):fP n m=0:=by
 obtain⟨b,rfl⟩:∃k,b=k+1:=⟨b-1,be⟩
 cases a with
 |zero=>exact oJ b n m N G
 |succ a=>
  have W:=GQ (m:=m) (k:=a) (n:=n) be;rw[oJ b n _ N fun j hj=>?_]at W
  .grind
  .rw[show uq 0 (a+1) 0=a+1 by unfold uq;rw[aM rfl],show uq 0 (a+1) (b+1)=b+1 by unfold uq;rw[aK be,aK be]];exact G j hj
theorem Ho{n a b:Nat}{m:Mx}(ha:a<n)(N:b<n)(Rj:a≠b)(G:∀j,j<n->m a j=m b j):fP n m=0:=by
 rcases Nat.lt_or_gt_of_ne Rj with h|h
 .exact FD N h G
 .exact FD ha h fun j hj=>(G j hj).symm
section
variable{EQ F9:Mx}{p:Nat->Nat}{r n:Nat}{v:Nat->Rat}
def rY(F9:Mx)(p:Nat->Nat)(r:Nat):Rat:=fP r fun j i=>F9 (r-1-i) (p (r-1-j))
end
structure Nl(EQ:Mx)(p:Nat->Nat)(r n B:Nat)(F9:Mx):Prop where
 ru:Ru EQ p r n
 sp:∀i,i<r->jk EQ r n (F9 i)
 ib:∀i t,i<r->t<n->Ib B (F9 i t)
 nz:rY F9 p r≠0
section
variable{EQ F9:Mx}{p:Nat->Nat}{r n B k:Nat}{v u:Nat->Rat}
end
structure aAF(G8:List (List Rat))(n B i:Nat)(s:Ky)(p:Nat->Nat)(F9:Mx):Prop where
 ok:MG n n i s
 fx:∀k,k<n->∀r:Nat,s.2.1[k]? =some (some r)↔r<s.1.length/\p r=k
 Nx:Nl (dZ s.1) p s.1.length n B F9
 up:∀r,r<s.1.length->jk (dZ G8) i n (dZ s.1 r)
 dn:∀j,j<i->jk (dZ s.1) s.1.length n (dZ G8 j)
section
variable{G8:List (List Rat)}{n B i:Nat}{s:Ky}{p:Nat->Nat}{F9:Mx}
end
structure ElI(G8:List (List Rat))(n B c:Nat)(s:List (List Rat)×List Nat)(σ:Nat->Nat)(F9:Mx):Prop where
 red:Nu n c s
 mon:NB s
 len:s.1.length=G8.length
 Nx:Nl (dZ s.1) (fun i=>s.2.getD i 0) s.2.length n B F9
 org:∀j,j<G8.length->σ j<G8.length
 rest:∀j,s.2.length<=j->j<G8.length->∀t,t<n->dZ s.1 j t=Nv (dZ s.1) (fun i=>s.2.getD i 0) s.2.length (dZ G8 (σ j)) n t
def mulR(G8:List (List Rat))(n:Nat)(x:Nat->Rat)(j:Nat):Rat:=cW (fun t=>dZ G8 j t*x t) n
section
variable{G8:List (List Rat)}{n:Nat}{x:Nat->Rat}{b:List Rat}
def MI(G8:List (List Rat))(b:List Rat)(n:Nat):Option (List Rat):=
 let e:=gT (Kx G8 b) n
 if ∀j,j<G8.length->e.2.length<=j->dZ e.1 j n=0 then some (jZ e.1 e.2 n e.2.length)else none
abbrev MJ(G8:List (List Rat))(n:Nat):List (List Rat):=da (gT G8 n).1 (gT G8 n).2 n n
end
theorem rK{b:Rat}(ha:a≠0)(N:b≠0):a*b≠0:=fun e=>by
 rcases Rat.mul_eq_zero.1 e with h|h
 .exact ha h
 .exact N h
def Den(Fn:Nat)(D:Rat)(l:List Rat):Prop:=D≠0/\Ib Fn D/\∀t,Ib Fn (D*l.getD t 0)
theorem Hq{l:List Rat}{t:Nat}(h:l.length<=t):l.getD t 0=0:=by rw[List.getD,List.getElem?_eq_none h];rfl
section
variable{G8:List (List Rat)}{n B:Nat}{b:List Rat}
end
def rz(If:List Rat):Nat->Rat
 |0=>1
 |t+1=>rz If t*((If.getD t 0).den:Rat)
theorem CQ(If:List Rat):∀k,rz If k≠0
 |0=>by show(1:Rat)≠0;decide
 |k+1=>rK (CQ If k) (by have:=(If.getD k 0).den_nz;exact_mod_cast this)
theorem xX{If:List Rat}{B:Nat}(h:∀t,(If.getD t 0).den<=B):∀k,Ib (B^k) (rz If k)
 |0=>Ib.one (ae _)
 |k+1=>by
  rw[Nat.pow_succ];exact(xX h k).mul ⟨((If.getD k 0).den:Int),rfl,by rw[Int.natAbs_natCast];exact h k⟩
theorem Je(q:Rat):(q.den:Rat)*q=(q.num:Rat):=by
 have h:=Rat.num_divInt_den q;have h0:((q.den:Int):Rat)≠0:=by have:=q.den_nz;exact_mod_cast this
 rw[Rat.divInt_eq_div]at h;have W:(q.num:Rat) / ((q.den:Int):Rat)*((q.den:Int):Rat)=(q.num:Rat):=Rat.div_mul_cancel h0;rw[h,Rat.mul_comm]at W;exact W
theorem zj{If:List Rat}{B:Nat}(h:∀t,(If.getD t 0).den<=B)(U:∀t,(If.getD t 0).num.natAbs<=B)(hB:1<=B):∀k t,t<k->Ib (B^k) (rz If k*If.getD t 0)
 |0,t,ht=>by omega
 |k+1,t,ht=>by
  rw[rz,Nat.pow_succ];rcases az t k with W|W
  .rw[show ∀a b c:Rat,a*b*c=(a*c)*b from fun a b c=>by grind];exact(zj h U hB k t W).mul ⟨((If.getD k 0).den:Int),rfl,by rw[Int.natAbs_natCast];exact h k⟩
  .rw[show t=k by omega,Rat.mul_assoc,Je];exact(xX h k).mul (Ib.int (U k))
theorem Hr:1<=wt l:=xS l
theorem K6{q:Rat}(h:rl q<=l):q.num.natAbs<wt l/\q.den<wt l:=⟨gF.1 (aP (fj q) h),gF.1 (aP (Kz q) h)⟩
theorem Hs(l k:Nat):wt l^k=wt (l*k):=by rw[pe,pe,<-Nat.pow_mul,bc]
theorem CR{n:Nat}(hl:If.length<=n)(h:∀q∈If,rl q<=3):Den (wt (3*n)) (rz If n) If:=by
 have h3:∀t,rl (If.getD t 0)<=3:=fun t=>by
  rw[List.getD]
  cases ht:If[t]? with
  |none=>show rl 0<=3;decide
  |some q=>exact h q (aG ht)
 have W:∀t,(If.getD t 0).den<=wt 3:=fun t=>Nat.le_of_lt (K6 (h3 t)).2;have I:∀t,(If.getD t 0).num.natAbs<=wt 3:=fun t=>Nat.le_of_lt (K6 (h3 t)).1;refine⟨CQ If n,by rw[<-Hs];exact xX W n,fun t=>?_⟩;rcases az t n with ht|ht
 .rw[<-Hs];exact zj W I Hr n t ht
 .rw[Hq be,bI];exact Ib.zero _
structure aAG(G8:List (List Rat))(n:Nat)(If:Nat->Rat):Prop where
 len:pf n G8
 pos:∀t,t<n->0<=If t
 aAH:∀x:Nat->Rat,(∀j,j<G8.length->mulR G8 n x j=0)->cW (fun t=>If t*(x t*x t)) n=0->∀t,t<n->x t=0
def Ny(If x y:Nat->Rat)(n:Nat):Rat:=cW (fun t=>If t*(x t*y t)) n
section
variable{G8:List (List Rat)}{n:Nat}{If:Nat->Rat}{b:List Rat}
def eF(k:Nat):List Rat:=List.replicate k 0
structure aAA(G8:List (List Rat))(n:Nat)(If:Nat->Rat)(b x:List Rat):Prop where
 len:x.length=n
 eq:∀j,j<G8.length->mulR G8 n (fun t=>x.getD t 0) j=b.getD j 0
 st:∀k,k<(MJ G8 n).length->Ny If (dZ (MJ G8 n) k) (fun t=>x.getD t 0) n=0
end
section
variable{G8:List (List Rat)}{n:Nat}{fl b:List Rat}
end
theorem getD_set_ne{α:Type}{l:List α}{x d:α}(h:i≠j):(l.set i x).getD j d=l.getD j d:=by rw[List.getD,aV h,<-List.getD]
theorem CS{α:Type}{l:List α}{x d:α}(h:i<l.length):(l.set i x).getD i d=x:=by rw[List.getD,aO h];rfl
theorem Dm:∀(Fd m:Nat) (g:Nat->Nat),(∀i,i<m->g i<Fd)->(∀i j,i<m->j<m->g i=g j->i=j)->m<=Fd
 |0,m,g,W,_=>by
  rcases bB m with h|h
  .omega
  .exact absurd (W 0 h) (Nat.not_lt_zero _)
 |Fd+1,m,g,W,I=>by
  by_cases h:∃i,i<m/\g i=Fd
  .obtain⟨i0,R,e⟩:=h
   have:=Dm Fd (m-1) (fun i=>if i<i0 then g i else g (i+1)) (fun i QL=>by
    show(if i<i0 then g i else g (i+1))<Fd;split
    .rename_i Oo;have:=W i be;have:g i≠Fd:=fun e2=>by have:=I i i0 be R (by rw[e2,e]);omega
     omega
    .have:=W (i+1) be;have:g (i+1)≠Fd:=fun e2=>by have:=I (i+1) i0 be R (by rw[e2,e]);omega
     omega) (fun i j QL WY e2=>by
    have e3:(if i<i0 then g i else g (i+1))=(if j<i0 then g j else g (j+1)):=e2;split at e3<;>split at e3
    .exact I _ _ be be e3
    .have:=I _ _ be be e3;omega
    .have:=I _ _ be be e3;omega
    .have:=I _ _ be be e3;omega)
   omega
  .exact Nat.le_succ_of_le (Dm Fd m g (fun i R=>by
    have:=W i R;have:g i≠Fd:=fun e=>h ⟨i,R,e⟩
    omega) I)
theorem oK(f:Nat->Rat)(a:Nat):∀b,cW f (a+b)=cW f a+cW (fun k=>f (a+k)) b
 |0=>(cK _).symm
 |b+1=>by rw[show a+(b+1)=a+b+1 by omega,cW,cW,oK f a b,Rat.add_assoc]
abbrev OA(G8:List (List Rat))(n:Nat):Nat:=(gT G8 n).2.length
section
variable{G8:List (List Rat)}{n:Nat}
end
section
variable{G8:List (List Rat)}{n:Nat}{fl b:List Rat}
end
structure Dc where
 m:Nat
 q:Nat
 eS:Nat->Nat
 eG:Nat->Nat
 a:Nat->Nat->Rat
 b:Nat->Rat
 c:Nat->Rat
 top:Rat
structure Dc.Ok(D:Dc):Prop where
 bl:∀i,i<D.m->D.eS i<D.m+D.q
 fl:∀j,j<D.q->D.eG j<D.m+D.q
 bi:∀i k,i<D.m->k<D.m->D.eS i=D.eS k->i=k
 fi:∀j k,j<D.q->k<D.q->D.eG j=D.eG k->j=k
 bf:∀i j,i<D.m->j<D.q->D.eS i≠D.eG j
 all:∀v,v<D.m+D.q->(∃i,i<D.m/\D.eS i=v)\/∃j,j<D.q/\D.eG j=v
def Dc.row(D:Dc)(x:Nat->Rat)(i:Nat):Rat:=cW (fun j=>D.a i j*x (D.eG j)) D.q
def Dc.uu(D:Dc)(x:Nat->Rat)(z:Rat):Prop:=(∀i,i<D.m->x (D.eS i)=D.b i-D.row x i)/\z=D.top+cW (fun j=>D.c j*x (D.eG j)) D.q
def Dc.fx(D:Dc)(r s:Nat):Dc where
 m:=D.m
 q:=D.q
 eS:=fun i=>if i=r then D.eG s else D.eS i
 eG:=fun j=>if j=s then D.eS r else D.eG j
 a:=fun i j=>if i=r then(if j=s then 1 / D.a r s else D.a r j / D.a r s)else if j=s then -(D.a i s / D.a r s)else D.a i j-D.a i s*(D.a r j / D.a r s)
 b:=fun i=>if i=r then D.b r / D.a r s else D.b i-D.a i s*(D.b r / D.a r s)
 c:=fun j=>if j=s then -(D.c s / D.a r s)else D.c j-D.c s*(D.a r j / D.a r s)
 top:=D.top+D.c s*(D.b r / D.a r s)
theorem CW{g:Nat->Rat}{u:Rat}{s:Nat}:∀{n:Nat},s<n->cW (fun j=>if j=s then u else g j) n=cW g n-g s+u
 |0,h=>by omega
 |n+1,h=>by
  by_cases e:s=n
  .subst e;show cW (fun j=>if j=s then u else g j) s+(if s=s then u else g s)=cW g s+g s-g s+u;rw[aM rfl,cQ (g:=g) fun k Z=>aK be];grind
  .show cW (fun j=>if j=s then u else g j) n+(if n=s then u else g n)=cW g n+g n-g s+u;rw[aK (fun h=>e h.symm),CW (show s<n by omega)];grind
section
variable{D:Dc}{r s:Nat}{x:Nat->Rat}{z:Rat}
theorem Dc.Ok.fx(h:D.Ok)(hr:r<D.m)(hs:s<D.q):(D.fx r s).Ok:=by
 have N:∀i,(D.fx r s).eS i=if i=r then D.eG s else D.eS i:=fun _=>rfl
 have hf:∀j,(D.fx r s).eG j=if j=s then D.eS r else D.eG j:=fun _=>rfl
 refine⟨fun i R=>?_,fun j hj=>?_,fun i k R Z e=>?_,fun j k hj Z e=>?_,fun i j R hj e=>?_,fun v hv=>?_⟩
 .rw[N];split
  .exact h.fl s hs
  .exact h.bl i R
 .rw[hf];split
  .exact h.bl r hr
  .exact h.fl j hj
 .rw[N,N]at e;split at e<;>split at e
  .omega
  .exact absurd e.symm (h.bf k s Z hs)
  .exact absurd e (h.bf i s R hs)
  .exact h.bi i k R Z e
 .rw[hf,hf]at e;split at e<;>split at e
  .omega
  .exact absurd e (h.bf r k hr Z)
  .exact absurd e.symm (h.bf r j hr hj)
  .exact h.fi j k hj Z e
 .rw[N,hf]at e;split at e<;>split at e
  .exact h.bf r s hr hs e.symm
  .rename_i W I;exact I (h.fi s j hs hj e).symm
  .rename_i W I;exact W (h.bi i r R hr e)
  .exact h.bf i j R hj e
 .rcases h.all v hv with⟨i,R,rfl⟩|⟨j,hj,rfl⟩
  .by_cases e:i=r
   .subst e;exact .inr ⟨s,hs,by rw[hf,aM rfl]⟩
   .exact .inl ⟨i,R,by rw[N,aK e]⟩
  .by_cases e:j=s
   .subst e;exact .inl ⟨r,hr,by rw[N,aM rfl]⟩
   .exact .inr ⟨j,hj,by rw[hf,aK e]⟩
theorem Dc.Av(hs:s<D.q)(g:Nat->Rat)(u:Rat):cW (fun j=>(if j=s then u else g j)*x ((D.fx r s).eG j)) D.q=cW (fun j=>g j*x (D.eG j)) D.q-g s*x (D.eG s)+u*x (D.eS r):=by
 rw[<-CW (g:=fun j=>g j*x (D.eG j)) hs];refine cQ fun j _=>?_;show _*x (if j=s then D.eS r else D.eG j)=_;split<;>rfl
theorem Dc.zk(hs:s<D.q):(D.fx r s).row x r=(D.row x r-D.a r s*x (D.eG s)+x (D.eS r)) / D.a r s:=by
 have e:(D.fx r s).row x r=cW (fun j=>(if j=s then 1 / D.a r s else D.a r j / D.a r s)*x ((D.fx r s).eG j)) D.q:=cQ fun j _=>by
  show(if r=r then _ else _)*_=_;rw[aM rfl]
 rw[e,D.Av hs];unfold Dc.row;rw[cQ (f:=fun j=>D.a r j / D.a r s*x (D.eG j)) (g:=fun j=>(D.a r j*x (D.eG j))*(1 / D.a r s)) fun j _=>by rw[bK,bK];grind,j3];rw[bK,bK,bK];grind
theorem Dc.zl(hs:s<D.q)(R:i≠r)(hp:D.a r s≠0):(D.fx r s).row x i=D.row x i-D.a i s / D.a r s*(D.row x r+x (D.eS r)):=by
 have e:(D.fx r s).row x i=cW (fun j=>(if j=s then -(D.a i s / D.a r s)else D.a i j-D.a i s*(D.a r j / D.a r s))*x ((D.fx r s).eG j)) D.q:=cQ fun j _=>by
  show(if i=r then _ else _)*_=_;rw[aK R]
 rw[e,D.Av hs];unfold Dc.row;rw[cQ (f:=fun j=>(D.a i j-D.a i s*(D.a r j / D.a r s))*x (D.eG j)) (g:=fun j=>D.a i j*x (D.eG j)-(D.a i s / D.a r s)*(D.a r j*x (D.eG j))) fun j _=>by rw[bK,bK];grind,jc,gH];have W:D.a r s / D.a r s=1:=by rw[bK];exact Rat.mul_inv_cancel _ hp
 rw[W];grind
theorem Dc.FH(hs:s<D.q)(hp:D.a r s≠0):cW (fun j=>(D.fx r s).c j*x ((D.fx r s).eG j)) D.q=cW (fun j=>D.c j*x (D.eG j)) D.q-D.c s / D.a r s*(D.row x r+x (D.eS r)):=by
 have e:cW (fun j=>(D.fx r s).c j*x ((D.fx r s).eG j)) D.q=cW (fun j=>(if j=s then -(D.c s / D.a r s)else D.c j-D.c s*(D.a r j / D.a r s))*x ((D.fx r s).eG j)) D.q:=rfl;rw[e,D.Av hs];unfold Dc.row;rw[cQ (f:=fun j=>(D.c j-D.c s*(D.a r j / D.a r s))*x (D.eG j)) (g:=fun j=>D.c j*x (D.eG j)-(D.c s / D.a r s)*(D.a r j*x (D.eG j))) fun j _=>by rw[bK,bK];grind,jc,gH];have W:D.a r s / D.a r s=1:=by rw[bK];exact Rat.mul_inv_cancel _ hp
 rw[W];grind
theorem Dc.FI(hr:r<D.m)(hs:s<D.q)(hp:D.a r s≠0):(D.fx r s).uu x z↔D.uu x z:=by
 obtain⟨p,Wd⟩:∃p,D.a r s=p:=⟨_,rfl⟩
 have hp':=hp;rw[Wd]at hp';have hinv:p*p⁻¹=1:=Rat.mul_inv_cancel _ hp';have OI:((D.fx r s).eS r=D.eG s)/\(D.fx r s).b r=D.b r / D.a r s:=by
  constructor
  .show(if r=r then _ else _)=_;rw[aM rfl]
  .show(if r=r then _ else _)=_;rw[aM rfl]
 have key:x (D.eG s)=D.b r / D.a r s-(D.fx r s).row x r↔x (D.eS r)=D.b r-D.row x r:=by
  rw[D.zk hs,bK,bK,Wd];constructor
  .intro h;have:p*x (D.eG s)=p*(D.b r*p⁻¹-(D.row x r-p*x (D.eG s)+x (D.eS r))*p⁻¹):=by rw[<-h]
   grind
  .intro h;rw[h];grind
 have hoth:∀i,i≠r->x (D.eS r)=D.b r-D.row x r->(x ((D.fx r s).eS i)=(D.fx r s).b i-(D.fx r s).row x i↔x (D.eS i)=D.b i-D.row x i):=fun i R h=>by
  have e1:(D.fx r s).eS i=D.eS i:=aK R;have e2:(D.fx r s).b i=D.b i-D.a i s*(D.b r / D.a r s):=aK R;rw[e1,e2,D.zl hs R hp,h,bK,bK];constructor
  .intro k;grind
  .intro k;grind
 have VU:x (D.eS r)=D.b r-D.row x r->(D.fx r s).top+cW (fun j=>(D.fx r s).c j*x ((D.fx r s).eG j)) D.q=D.top+cW (fun j=>D.c j*x (D.eG j)) D.q:=fun h=>by
  rw[D.FH hs hp,h];show D.top+D.c s*(D.b r / D.a r s)+_=_;rw[bK,bK];grind
 constructor
 .rintro⟨W,I⟩;have Ps:x (D.eS r)=D.b r-D.row x r:=key.1 (by have:=W r hr;rw[OI.1,OI.2]at this;exact this);refine⟨fun i R=>?_,I.trans (VU Ps)⟩;by_cases e:i=r
  .subst e;exact Ps
  .exact(hoth i e Ps).1 (W i R)
 .rintro⟨W,I⟩;have Ps:=W r hr;refine⟨fun i R=>?_,I.trans (VU Ps).symm⟩;by_cases e:i=r
  .subst e;rw[OI.1,OI.2];exact key.2 Ps
  .exact(hoth i e Ps).2 (W i R)
end
def Dc.sQ(D:Dc)(v:Nat):Prop:=∃i,i<D.m/\D.eS i=v
def Dc.val(D:Dc)(v:Nat):Rat:=cW (fun i=>if D.eS i=v then D.b i else 0) D.m
def Dc.dir(D:Dc)(s v:Nat):Rat:=(if v=D.eG s then 1 else 0)-cW (fun i=>if D.eS i=v then D.a i s else 0) D.m
structure Dc.Step(D:Dc)(r s:Nat):Prop where
 hr:r<D.m
 hs:s<D.q
 cs:0<D.c s
 DY:∀j,j<D.q->0<D.c j->D.eG s<=D.eG j
 Mq:0<D.a r s
 Dv:∀i,i<D.m->0<D.a i s->D.b r / D.a r s<=D.b i / D.a i s/\(D.b r / D.a r s=D.b i / D.a i s->D.eS r<=D.eS i)
def Dc.vl(D:Dc):Prop:=∀i,i<D.m->0<=D.b i
theorem oL(h:0<a):a≠0:=fun e=>by rw[e]at h;exact absurd h bv
theorem pj{b:Rat}(h:b≠0):a / b*b=a:=by rw[bK,Rat.mul_assoc,Rat.inv_mul_cancel _ h,Rat.mul_one]
theorem pn{b:Rat}(ha:0<=a)(N:0<b):0<=a / b:=by
 rw[bK];exact Rat.mul_nonneg ha (Rat.le_of_lt (Rat.inv_pos.2 N))
section
variable{D:Dc}{r s:Nat}{x:Nat->Rat}
theorem Dc.wV(h:D.Ok)(R:i<D.m):D.val (D.eS i)=D.b i:=by
 unfold Dc.val;rw[eM R fun k Z e=>aK fun g=>e (h.bi k i Z R g),aM rfl]
theorem Dc.tA(h:¬D.sQ v):D.val v=0:=by
 unfold Dc.val;rw[cQ (g:=fun _=>0) fun i R=>aK fun e=>h ⟨i,R,e⟩,db]
theorem Dc.Ok.rL(h:D.Ok)(hj:j<D.q):¬D.sQ (D.eG j):=fun⟨i,R,e⟩=>h.bf i j R hj e
theorem Dc.FJ(h:D.Ok)(hs:s<D.q)(R:i<D.m):D.dir s (D.eS i)= -(D.a i s):=by
 unfold Dc.dir;rw[aK (h.bf i s R hs),eM R fun k Z e=>aK fun g=>e (h.bi k i Z R g),aM rfl];grind
theorem Dc.wW(h:D.Ok)(hs:s<D.q)(hj:j<D.q):D.dir s (D.eG j)=if j=s then 1 else 0:=by
 unfold Dc.dir;rw[cQ (g:=fun _=>0) fun i R=>aK (h.bf i j R hj),db];by_cases e:j=s
 .subst e;rw[aM rfl,aM rfl];grind
 .rw[aK fun g=>e (h.fi j s hj hs g),aK e];grind
theorem Dc.line(h:D.Ok)(hs:s<D.q)(y:Rat):D.uu (fun v=>D.val v+y*D.dir s v) (D.top+D.c s*y):=by
 have hv:∀j,j<D.q->D.val (D.eG j)+y*D.dir s (D.eG j)=if j=s then y else 0:=fun j hj=>by
  rw[D.tA (h.rL hj),D.wW h hs hj];split<;>grind
 have Ua:∀g:Nat->Rat,cW (fun j=>g j*(D.val (D.eG j)+y*D.dir s (D.eG j))) D.q=g s*y:=fun g=>by
  rw[eM (i:=s) hs fun k Z e=>by rw[hv k Z,aK e,bI],hv s hs,aM rfl]
 refine⟨fun i R=>?_,?_⟩
 .show D.val (D.eS i)+y*D.dir s (D.eS i)=D.b i-cW (fun j=>D.a i j*(D.val (D.eG j)+y*D.dir s (D.eG j))) D.q;rw[Ua,D.wV h R,D.FJ h hs R];grind
 .rw[Ua]
theorem Dc.wX(h:D.Ok):D.uu D.val D.top:=by
 have h0:∀g:Nat->Rat,cW (fun j=>g j*D.val (D.eG j)) D.q=0:=fun g=>by
  rw[cQ (g:=fun _=>0) fun j hj=>by rw[D.tA (h.rL hj),bI],db]
 refine⟨fun i R=>?_,?_⟩
 .unfold Dc.row;rw[h0,D.wV h R];grind
 .rw[h0];grind
theorem Dc.Step.ne(h:D.Step r s):D.a r s≠0:=oL h.Mq
theorem Dc.Step.ratio(h:D.Step r s)(hf:D.vl):0<=D.b r / D.a r s:=pn (hf r h.hr) h.Mq
theorem Dc.Step.Mr(h:D.Step r s)(hf:D.vl):(D.fx r s).vl:=fun i R=>by
 show 0<=if i=r then _ else _
 split
 .exact h.ratio hf
 .by_cases W:0<D.a i s
  .have I:=(h.Dv i R W).1;have h3:=Rat.mul_le_mul_of_nonneg_right I (Rat.le_of_lt W);rw[pj (oL W)]at h3;grind
  .have W:=Rat.not_lt.1 W;have I:=h.ratio hf;have h3:=hf i R;have h4:0<= -(D.a i s)*(D.b r / D.a r s):=Rat.mul_nonneg (by grind) I;grind
theorem Dc.Step.top(h:D.Step r s)(hf:D.vl):D.top<=(D.fx r s).top/\((D.fx r s).top=D.top->D.b r=0):=by
 have I:=h.ratio hf;have h3:0<=D.c s*(D.b r / D.a r s):=Rat.mul_nonneg (Rat.le_of_lt h.cs) I;refine⟨by show _<=D.top+_;grind,fun e=>?_⟩;have e:D.top+D.c s*(D.b r / D.a r s)=D.top:=e;have e2:D.c s*(D.b r / D.a r s)=0:=by grind
 have e3:=(Rat.mul_eq_zero.1 e2).resolve_left (oL h.cs);rw[<-pj (a:=D.b r) h.ne,e3,bu]
theorem Dc.Step.val(h:D.Step r s)(N:D.b r=0)(v:Nat):(D.fx r s).val v=D.val v:=by
 refine cQ fun i R=>?_;show(if (if i=r then D.eG s else D.eS i)=v then(if i=r then D.b r / D.a r s else D.b i-D.a i s*(D.b r / D.a r s))else 0)=_;have h0:D.b r / D.a r s=0:=by rw[N,bK,bu]
 rw[h0];by_cases e:i=r
 .subst e;rw[aM rfl,aM rfl,N];split<;>split<;>rfl
 .rw[aK e,aK e,bI];split
  .grind
  .rfl
theorem Dc.Jg(h:D.sQ v)(U:¬(D.fx r s).sQ v):v=D.eS r:=by
 obtain⟨i,R,rfl⟩:=h;by_cases e:i=r
 .rw[e]
 .exact absurd ⟨i,R,aK e⟩ U
theorem Dc.Jh(h:(D.fx r s).sQ v)(U:¬D.sQ v):v=D.eG s:=by
 obtain⟨i,R,e0⟩:=h;have e0:(if i=r then D.eG s else D.eS i)=v:=e0;split at e0
 .exact e0.symm
 .exact absurd ⟨i,R,e0⟩ U
theorem Dc.Step.enters(h:D.Step r s):(D.fx r s).sQ (D.eG s):=⟨r,h.hr,aM rfl⟩
end
structure Dw(D:Nat->Dc)(r s:Nat->Nat)(k:Nat):Prop where
 ok:(D 0).Ok
 Mr:(D 0).vl
 step:∀t,t<k->(D t).Step (r t) (s t)/\D (t+1)=(D t).fx (r t) (s t)
section
variable{D:Nat->Dc}{r s:Nat->Nat}{k:Nat}
theorem Dw.at_(h:Dw D r s k):∀t,t<=k->(D t).Ok/\(D t).vl/\(D t).m=(D 0).m/\(D t).q=(D 0).q/\∀x z,(D t).uu x z↔(D 0).uu x z
 |0,_=>⟨h.ok,h.Mr,rfl,rfl,fun _ _=>Iff.rfl⟩
 |t+1,ht=>by
  obtain⟨W,I,h3,h4,h5⟩:=h.at_ t be;obtain⟨k1,k2⟩:=h.step t be;rw[k2];exact⟨W.fx k1.hr k1.hs,k1.Mr I,h3,h4,fun x z=>(Dc.FI k1.hr k1.hs k1.ne).trans (h5 x z)⟩
theorem Dw.mono(h:Dw D r s k):∀u t,t<=u->u<=k->(D t).top<=(D u).top
 |0,t,ht,_=>by
  have:t=0:=by omega
  subst this;exact Rat.le_refl
 |u+1,t,ht,hu=>by
  by_cases e:t=u+1
  .subst e;exact Rat.le_refl
  .obtain⟨k1,k2⟩:=h.step u be;have:=h.mono u t be be;rw[k2];exact Rat.le_trans this (k1.top (h.at_ u be).2.1).1
theorem Dw.shift(h:Dw D r s k){a b:Nat}(Rj:a+b<=k):Dw (fun t=>D (a+t)) (fun t=>r (a+t)) (fun t=>s (a+t)) b:=
 ⟨(h.at_ a be).1,(h.at_ a be).2.1,fun t ht=>h.step (a+t) be⟩
theorem ML{P:Nat->Prop} [DecidablePred P]{a:Nat}(ha:P a):∀b,a<=b->¬P b->∃t,a<=t/\t<b/\P t/\¬P (t+1)
 |0,W,h3=>by
  have:a=0:=by omega
  subst this;exact absurd ha h3
 |b+1,W,h3=>by
  by_cases e:a=b+1
  .subst e;exact absurd ha h3
  .by_cases N:P b
   .exact⟨b,be,be,N,h3⟩
   .obtain⟨t,t1,t2,t3⟩:=ML ha b be N;exact⟨t,t1,be,t3⟩
theorem Dx{Fd:Nat}(hP:∀v,P v->v<Fd)(h:∃v,P v):∃t,P t/\∀v,P v->v<=t:=by
 classical
 have key:∀n,(∃t,P t/\Fd<=t+n)->∃t,P t/\∀v,P v->v<=t:=fun n=>by
  induction n with
  |zero=>exact fun⟨t,W,I⟩=>absurd (hP t W) be
  |succ n ih=>
   rintro⟨t,W,I⟩;by_cases hm:∀v,P v->v<=t
   .exact⟨t,W,hm⟩
   .simp only[Classical.not_forall]at hm;obtain⟨v,hv,Oo⟩:=hm;exact ih ⟨v,hv,be⟩
 obtain⟨v,hv⟩:=h;exact key Fd ⟨v,hv,be⟩
theorem Dw.MM(h:Dw D r s k)(Z:0<k)(hB:∀v,(D 0).sQ v↔(D k).sQ v):False:=by
 classical
 have OV:=fun t ht=>(h.at_ t ht).1;have hfe:=fun t ht=>(h.at_ t ht).2.1;have hm:=fun t ht=>(h.at_ t ht).2.2.1;have hq:=fun t ht=>(h.at_ t ht).2.2.2.1;have VV:=fun t ht=>(h.at_ t ht).2.2.2.2;have htop0:(D k).top=(D 0).top:=by
  have W:=((VV k (ae _)) _ _).2 (Dc.wX (OV 0 (bA _)));have I:=W.2;rw[cQ (g:=fun _=>0) fun j hj=>by rw[(D 0).tA fun g=>(OV k (ae _)).rL hj ((hB _).1 g),bI],db]at I;rw[I];grind
 have TC:∀t,t<=k->(D t).top=(D 0).top:=fun t ht=>Rat.le_antisymm (htop0▸h.mono k t ht (ae _)) (h.mono t 0 (bA _) ht);have Ri:∀t,t<k->(D t).b (r t)=0:=fun t ht=>by
  obtain⟨k1,k2⟩:=h.step t ht;refine(k1.top (hfe t be)).2 ?_;rw[<-k2,TC t be,TC (t+1) be]
 have Qj:∀t,t<=k->∀v,(D t).val v=(D 0).val v:=fun t=>by
  induction t with
  |zero=>intro _ _;rfl
  |succ t ih=>
   intro ht v;obtain⟨k1,k2⟩:=h.step t be;rw[k2,k1.val (Ri t be) v,ih be v]
 have hzero:∀t u,t<=k->u<=k->∀i,i<(D t).m->¬(D u).sQ ((D t).eS i)->(D t).b i=0:=fun t u ht hu i R U=>by
  rw[<-Dc.wV (OV t ht) R,Qj t ht,<-Qj u hu,(D u).tA U]
 obtain⟨T,⟨⟨p,hp,hPp⟩,⟨u,hu,hPu⟩,hTN⟩,We⟩:=Dx (P:=fun v=>(∃t,t<=k/\(D t).sQ v)/\(∃t,t<=k/\¬(D t).sQ v)/\v<(D 0).m+(D 0).q) (Fd:=(D 0).m+(D 0).q) (fun v hv=>hv.2.2) ⟨(D 0).eG (s 0),⟨1,Z,by
  obtain⟨k1,k2⟩:=h.step 0 Z;have k2:D 1=(D 0).fx (r 0) (s 0):=k2
  rw[k2];exact k1.enters⟩,⟨0,bA _,h.ok.rL (h.step 0 Z).1.hs⟩,h.ok.fl _ (h.step 0 Z).1.hs⟩
 have We:∀v t w,t<=k->w<=k->(D t).sQ v->¬(D w).sQ v->v<(D 0).m+(D 0).q->v<=T:=fun v t w ht Y W I h3=>We v ⟨⟨t,ht,W⟩,⟨w,Y,I⟩,h3⟩;have two:(∃t,t<k/\(D t).sQ T/\¬(D (t+1)).sQ T)/\∃t,t<k/\¬(D t).sQ T/\(D (t+1)).sQ T:=by
  by_cases h0:(D 0).sQ T
  .obtain⟨t,_,t1,t2,t3⟩:=ML (P:=fun t=>(D t).sQ T) h0 u (bA _) hPu;obtain⟨w,_,w1,F,w3⟩:=ML (P:=fun t=>¬(D t).sQ T) hPu k hu (fun g=>g ((hB T).1 h0));exact⟨⟨t,be,t2,t3⟩,⟨w,be,F,Decidable.byContradiction w3⟩⟩
  .obtain⟨w,_,w1,F,w3⟩:=ML (P:=fun t=>¬(D t).sQ T) h0 p (bA _) (fun g=>g hPp);obtain⟨t,_,t1,t2,t3⟩:=ML (P:=fun t=>(D t).sQ T) hPp k hp (fun g=>h0 ((hB T).2 g));exact⟨⟨t,be,t2,t3⟩,⟨w,be,F,Decidable.byContradiction w3⟩⟩
 obtain⟨⟨t1,XR,hin1,XS⟩,t2,UH,hout2,hin2⟩:=two;obtain⟨S1,e1⟩:=h.step t1 XR;obtain⟨S2,e2⟩:=h.step t2 UH;rw[e1]at XS;rw[e2]at hin2;have hT1:=Dc.Jg hin1 XS;have VW:=Dc.Jh hin2 hout2;have Sg:=OV t1 be;have Ub:=OV t2 be;have XT:∀y:Rat,(D t1).top+(D t1).c (s t1)*y=(D t2).top+cW (fun j=>(D t2).c j*((D t1).val ((D t2).eG j)+y*(D t1).dir (s t1) ((D t2).eG j))) (D t2).q:=fun y=>
  (((VV t2 be) _ _).2 (((VV t1 be) _ _).1 (Dc.line Sg S1.hs y))).2
 have hc:(D t1).c (s t1)=cW (fun j=>(D t2).c j*(D t1).dir (s t1) ((D t2).eG j)) (D t2).q:=by
  have l0:=XT 0;have l1:=XT 1;rw[cQ (g:=fun j=>(D t2).c j*(D t1).val ((D t2).eG j)) fun j _=>by grind]at l0;rw[cQ (g:=fun j=>(D t2).c j*(D t1).val ((D t2).eG j)+(D t2).c j*(D t1).dir (s t1) ((D t2).eG j)) fun j _=>by grind,gG]at l1;grind
 obtain⟨j,hj,PW⟩:∃j,j<(D t2).q/\0<(D t2).c j*(D t1).dir (s t1) ((D t2).eG j):=by
  refine Decidable.byContradiction fun SJ=>?_;have W:0<=cW (fun j=> -((D t2).c j*(D t1).dir (s t1) ((D t2).eG j))) (D t2).q:=iT fun j hj=>by
   have:¬0<(D t2).c j*(D t1).dir (s t1) ((D t2).eG j):=fun g=>SJ ⟨j,hj,g⟩;have:=Rat.not_lt.1 this;grind
  rw[eo,<-hc]at W;have:=S1.cs;grind
 have hvN:(D t2).eG j<(D t1).m+(D t1).q:=by
  have:=Ub.fl j hj;rw[hm t2 be,hq t2 be]at this;rw[hm t1 be,hq t1 be];exact this
 have hvN0:(D t2).eG j<(D 0).m+(D 0).q:=by rwa [hm t1 be,hq t1 be]at hvN
 have VX:¬(D t2).sQ ((D t2).eG j):=Ub.rL hj;rcases Sg.all _ hvN with⟨i,R,ei⟩|⟨j',WY,ej⟩
 ·
  have hle:(D t2).eG j<=T:=We _ t1 t2 be be ⟨i,R,ei⟩ VX hvN0;rw[<-ei,Dc.FJ Sg S1.hs R]at PW;by_cases hcj:0<(D t2).c j
  .have W:=S2.DY j hj hcj;have hTv:(D t1).eS (r t1)=(D t1).eS i:=by rw[<-hT1,ei,VW];rw[VW]at hle;omega
   have:=Sg.bi _ _ S1.hr R hTv;subst this;have I:=Rat.mul_pos hcj S1.Mq;grind
  .have hcj:=Rat.not_lt.1 hcj;have ha:0<(D t1).a i (s t1):=by
    refine Decidable.byContradiction fun g=>?_;have g:=Rat.not_lt.1 g;have I:0<= -(D t2).c j* -((D t1).a i (s t1)):=Rat.mul_nonneg (by grind) (by grind);grind
   have UY:=hzero t1 t2 be be i R (by rw[ei];exact VX);obtain⟨k1,k2⟩:=S1.Dv i R ha;have h3:=k2 (by rw[Ri t1 XR,UY,bK,bK,bu,bu]);rw[<-hT1,ei]at h3;have hTv:(D t2).eG (s t2)=(D t2).eG j:=by omega
   have:=Ub.fi _ _ S2.hs hj hTv;subst this;have:=S2.cs;grind
 ·
  rw[<-ej,Dc.wW Sg S1.hs WY]at PW;by_cases e:j'=s t1
  .rw[aM e]at PW;have hcj:0<(D t2).c j:=by grind
   have W:=S2.DY j hj hcj;have UI:(D (t1+1)).sQ ((D t2).eG j):=by rw[e1,<-ej,e];exact S1.enters
   have hle:(D t2).eG j<=T:=We _ (t1+1) t2 be be UI VX hvN0;have hTv:(D t1).eS (r t1)=(D t1).eG j':=by rw[<-hT1,ej,VW];rw[VW]at hle;omega
   exact Sg.bf _ _ S1.hr WY hTv
  .rw[aK e]at PW;grind
noncomputable def vo (P:Nat->Prop):Nat->Nat
 |0=>0
 |n+1=>vo P n+(by classical exact if P n then 2^n else 0)
theorem wY(P:Nat->Prop):∀n,vo P n<2^n
 |0=>cI 0
 |n+1=>by
  have:=wY P n;rw[vo,Nat.pow_succ];split<;>omega
theorem CX{P Q:Nat->Prop}:∀n,vo P n=vo Q n->∀v,v<n->(P v↔Q v)
 |0,_,v,hv=>by omega
 |n+1,h,v,hv=>by
  have W:=wY P n;have I:=wY Q n;rw[vo,vo]at h;have key:(P n↔Q n)/\vo P n=vo Q n:=by
   split at h<;>split at h<;>rename_i p q
   .exact⟨⟨fun _=>q,fun _=>p⟩,be⟩
   .omega
   .omega
   .exact⟨⟨fun g=>absurd g p,fun g=>absurd g q⟩,be⟩
  rcases az v n with h3|h3
  .exact CX n key.2 v h3
  .have:v=n:=by omega
   subst this;exact key.1
theorem Dw.short(h:Dw D r s k):k<2^((D 0).m+(D 0).q):=by
 refine Dm _ (k+1) (fun t=>vo (D t).sQ ((D 0).m+(D 0).q)) (fun t _=>wY _ _) ?_;have key:∀a b,a<b->b<=k->vo (D a).sQ ((D 0).m+(D 0).q)≠vo (D b).sQ ((D 0).m+(D 0).q):=fun a b Rj N e=>by
  have hr:=h.shift (a:=a) (b:=b-a) be;refine hr.MM be fun v=>?_;show(D (a+0)).sQ v↔(D (a+(b-a))).sQ v;rw[show a+(b-a)=b by omega,cH];rcases az v ((D 0).m+(D 0).q)with hv|hv
  .exact CX _ e v hv
  .have SJ:∀t,t<=k->¬(D t).sQ v:=fun t ht ⟨i,R,ei⟩=>by
    obtain⟨W,-,h3,h4,-⟩:=h.at_ t ht;have:=W.bl i R;rw[h3,h4]at this;omega
   exact⟨fun g=>absurd g (SJ a be),fun g=>absurd g (SJ b N)⟩
 intro i j R hj e;rcases Nat.lt_trichotomy i j with W|W|W
 .exact absurd e (key i j W be)
 .exact W
 .exact absurd e.symm (key j i W be)
end
def lg(c:Nat->Rat)(f:Nat->Nat):Nat->Option Nat
 |0=>none
 |n+1=>match lg c f n with
  |none=>if 0<c n then some n else none
  |some k=>if 0<c n/\f n<f k then some n else some k
theorem uE{c:Nat->Rat}{f:Nat->Nat}:∀{n:Nat},lg c f n=none->∀j,j<n->¬0<c j
 |0,_,j,hj=>by omega
 |n+1,h,j,hj=>by
  rw[lg]at h;split at h
  .rename_i e;split at h
   .cases h
   .rename_i g;rcases az j n with W|W
    .exact uE e j W
    .obtain rfl:j=n:=by omega
     exact g
  .split at h<;>cases h
theorem jw{c:Nat->Rat}{f:Nat->Nat}:∀{n k:Nat},lg c f n=some k->k<n/\0<c k/\∀j,j<n->0<c j->f k<=f j
 |0,_,h=>by cases h
 |n+1,k,h=>by
  rw[lg]at h;split at h
  .rename_i e;split at h
   .rename_i g;injection h with h;subst h;refine⟨be,g,fun j hj hc=>?_⟩;rcases az j n with W|W
    .exact absurd hc (uE e j W)
    .obtain rfl:j=n:=by omega
     exact ae _
   .cases h
  .rename_i k' e;obtain⟨W,I,h3⟩:=jw e;split at h
   .rename_i g;injection h with h;subst h;refine⟨be,g.1,fun j hj hc=>?_⟩;rcases az j n with h4|h4
    .have:=h3 j h4 hc;omega
    .obtain rfl:j=n:=by omega
     exact ae _
   .rename_i g;injection h with h;subst h;refine⟨be,I,fun j hj hc=>?_⟩;rcases az j n with h4|h4
    .exact h3 j h4 hc
    .obtain rfl:j=n:=by omega
     have:¬f j<f k':=fun g2=>g ⟨hc,g2⟩;omega
def jd(a b:Nat->Rat)(f:Nat->Nat):Nat->Option Nat
 |0=>none
 |n+1=>if a n<=0 then jd a b f n else match jd a b f n with
  |none=>some n
  |some k=>if b n / a n<b k / a k\/(b n / a n=b k / a k/\f n<f k)then some n else some k
theorem uF{a b:Nat->Rat}{f:Nat->Nat}:∀{n:Nat},jd a b f n=none->∀i,i<n->a i<=0
 |0,_,i,R=>by omega
 |n+1,h,i,R=>by
  rw[jd]at h;split at h
  .rename_i g;rcases az i n with W|W
   .exact uF h i W
   .obtain rfl:i=n:=by omega
    exact g
  .split at h
   .cases h
   .split at h<;>cases h
theorem nL{a b:Nat->Rat}{f:Nat->Nat}:∀{n k:Nat},jd a b f n=some k->k<n/\0<a k/\∀i,i<n->0<a i->b k / a k<=b i / a i/\(b k / a k=b i / a i->f k<=f i)
 |0,_,h=>by cases h
 |n+1,k,h=>by
  rw[jd]at h;split at h
  .rename_i g;obtain⟨W,I,h3⟩:=nL h;refine⟨be,I,fun i R ha=>?_⟩;rcases az i n with h4|h4
   .exact h3 i h4 ha
   .obtain rfl:i=n:=by omega
    exact absurd ha (Rat.not_lt.2 g)
  .rename_i g;have g:=Rat.not_le.1 g;split at h
   .rename_i e;injection h with h;subst h;refine⟨be,g,fun i R ha=>?_⟩;rcases az i n with h4|h4
    .exact absurd ha (Rat.not_lt.2 (uF e i h4))
    .obtain rfl:i=n:=by omega
     exact⟨Rat.le_refl,fun _=>ae _⟩
   .rename_i k' e;obtain⟨W,I,h3⟩:=nL e;split at h
    .rename_i g2;injection h with h;subst h;refine⟨be,g,fun i R ha=>?_⟩;rcases az i n with h4|h4
     .obtain⟨k1,k2⟩:=h3 i h4 ha;rcases g2 with g2|⟨g2,g3⟩
      .have:b n / a n<b i / a i:=by grind
       exact⟨Rat.le_of_lt this,fun e=>by rw[e]at this;exact absurd this (Rat.lt_irrefl)⟩
      .exact⟨g2▸k1,fun e=>by have:=k2 (g2▸e);omega⟩
     .obtain rfl:i=n:=by omega
      exact⟨Rat.le_refl,fun _=>ae _⟩
    .rename_i g2;injection h with h;subst h;refine⟨be,I,fun i R ha=>?_⟩;rcases az i n with h4|h4
     .exact h3 i h4 ha
     .obtain rfl:i=n:=by omega
      have k1:¬b i / a i<b k' / a k':=fun h=>g2 (.inl h);refine⟨Rat.not_lt.1 k1,fun e=>?_⟩;have k2:¬f i<f k':=fun h=>g2 (.inr ⟨e.symm,h⟩);omega
theorem Dc.Ji{D:Dc}{s:Nat}(hs:lg D.c D.eG D.q=some s)(hr:jd (fun i=>D.a i s) D.b D.eS D.m=some r):D.Step r s:=by
 obtain⟨W,I,h3⟩:=jw hs;obtain⟨k1,k2,k3⟩:=nL hr;exact⟨k1,W,I,h3,k2,k3⟩
theorem Dw.more{D:Nat->Dc}{r s:Nat->Nat}{k:Nat}(h:Dw D r s k){r' s':Nat}(Pr:(D k).Step r' s'):
  ∃D' r2 s2,Dw D' r2 s2 (k+1)/\D' 0=D 0/\D' (k+1)=(D k).fx r' s':=by
 refine⟨fun t=>if t<=k then D t else(D k).fx r' s',fun t=>if t<k then r t else r',fun t=>if t<k then s t else s',⟨?_,?_,fun t ht=>?_⟩,?_,?_⟩
 .rw[aM (bA _)];exact h.ok
 .rw[aM (bA _)];exact h.Mr
 .rcases az t k with W|W
  .rw[aM be,aM W,aM W,aM be];exact h.step t W
  .obtain rfl:t=k:=by omega
   rw[aM (ae _),aK be,aK be,aK be];exact⟨Pr,rfl⟩
 .dsimp only;rw[if_pos (Nat.zero_le _)]
 .dsimp only;rw[if_neg be]
inductive Dc.End (D:Dc):Prop
 |CY (h:∀j,j<D.q->¬0<D.c j)
 |JV (s:Nat) (hs:s<D.q) (hc:0<D.c s) (ha:∀i,i<D.m->D.a i s<=0)
def Dc.ko(D:Dc)(v:Nat):Rat:=cW (fun j=>if D.eG j=v then D.c j else 0) D.q
def gD(m n:Nat)(F':Nat->Nat->Rat)(b c:Nat->Rat):Dc:=⟨m,n,fun i=>n+i,fun j=>j,F',b,c,0⟩
def dW(m n:Nat)(F':Nat->Nat->Rat)(b:Nat->Rat):Dc:=⟨m,n+1,fun i=>n+i,fun j=>if j<n then j else n+m,fun i j=>if j<n then F' i j else -1,b,fun j=>if j<n then 0 else -1,0⟩
theorem rM(m n:Nat)(F':Nat->Nat->Rat)(b c:Nat->Rat):(gD m n F' b c).Ok:=by
 refine⟨fun i (R:i<m)=>show n+i<m+n by omega,fun j (hj:j<n)=>show j<m+n by omega,fun i k _ _ (e:n+i=n+k)=>be,fun j k _ _ e=>e,fun i j R (hj:j<n) (e:n+i=j)=>be,fun v (hv:v<m+n)=>?_⟩;rcases az v n with h|h
 .exact .inr ⟨v,h,rfl⟩
 .exact .inl ⟨v-n,show v-n<m by omega,show n+(v-n)=v by omega⟩
theorem rN(m n:Nat)(F':Nat->Nat->Rat)(b:Nat->Rat):(dW m n F' b).Ok:=by
 have hf:∀j,(dW m n F' b).eG j=if j<n then j else n+m:=fun _=>rfl
 refine⟨fun i (R:i<m)=>show n+i<m+(n+1) by omega,fun j (hj:j<n+1)=>?_,fun i k _ _ (e:n+i=n+k)=>be,fun j k (hj:j<n+1) (Z:k<n+1) e=>?_,fun i j (R:i<m) (hj:j<n+1) (e:n+i=if j<n then j else n+m)=>?_,fun v (hv:v<m+(n+1))=>?_⟩
 .show(if j<n then j else n+m)<m+(n+1)
  split<;>omega
 .rw[hf,hf]at e;split at e<;>split at e<;>omega
 .split at e<;>omega
 .rcases az v n with h|h
  .exact .inr ⟨v,show v<n+1 by omega,by rw[hf,aM h]⟩
  .rcases az v (n+m)with I|I
   .exact .inl ⟨v-n,show v-n<m by omega,show n+(v-n)=v by omega⟩
   .exact .inr ⟨n,show n<n+1 by omega,by rw[hf,aK (Nat.lt_irrefl n)];omega⟩
theorem oM{m n:Nat}{b:Nat->Rat}:(dW m n F' b).uu x z↔(∀i,i<m->x (n+i)=b i-(cW (fun j=>F' i j*x j) n-x (n+m)))/\z= -x (n+m):=by
 have W:∀g:Nat->Rat,∀u:Rat,cW (fun j=>(if j<n then g j else u)*x ((dW m n F' b).eG j)) (n+1)=cW (fun j=>g j*x j) n+u*x (n+m):=fun g u=>by
  show cW _ n+(if n<n then g n else u)*x (if n<n then n else n+m)=_;rw[aK (Nat.lt_irrefl n),aK (Nat.lt_irrefl n)];congr 1;refine cQ fun j hj=>?_;show(if j<n then g j else u)*x (if j<n then j else n+m)=_;rw[aM hj,aM hj]
 have I:∀i,(dW m n F' b).row x i=cW (fun j=>F' i j*x j) n+(-1)*x (n+m):=fun i=>W (F' i) (-1);have h3:cW (fun j=>(dW m n F' b).c j*x ((dW m n F' b).eG j)) (n+1)=cW (fun j=>(0:Rat)*x j) n+(-1)*x (n+m):=W (fun _=>0) (-1);rw[cQ (g:=fun _=>0) fun j _=>bu _,db]at h3;constructor
 .rintro⟨k1,k2⟩;refine⟨fun i R=>?_,?_⟩
  .have:=k1 i R;rw[I]at this;rw[show x (n+i)=x ((dW m n F' b).eS i)from rfl,this];show b i-_=b i-_;grind
  .have k2:z=0+_:=k2;rw[k2];have:=h3;show 0+cW (fun j=>(dW m n F' b).c j*x ((dW m n F' b).eG j)) (n+1)=_;rw[h3];grind
 .rintro⟨k1,k2⟩;refine⟨fun i R=>?_,?_⟩
  .rw[I];show x (n+i)=b i-_;rw[k1 i R];grind
  .show z=0+cW (fun j=>(dW m n F' b).c j*x ((dW m n F' b).eG j)) (n+1);rw[h3,k2];grind
section
variable{D:Dc}{m n:Nat}{F':Nat->Nat->Rat}{b c x:Nat->Rat}
theorem Dc.FK(h:D.Ok)(x:Nat->Rat):cW (fun j=>D.c j*x (D.eG j)) D.q=cW (fun v=>D.ko v*x v) (D.m+D.q):=by
 rw[cQ (f:=fun v=>D.ko v*x v) (g:=fun v=>cW (fun j=>(if D.eG j=v then D.c j else 0)*x v) D.q) fun v _=>by unfold Dc.ko;rw[j3],kO];refine cQ fun j hj=>?_;rw[eM (h.fl j hj) fun v _ e=>by rw[aK fun g=>e g.symm,bu],aM rfl]
theorem Dc.Aw(h:∀j,j<D.q->¬0<D.c j)(v:Nat):D.ko v<=0:=by
 have:0<=cW (fun j=> -(if D.eG j=v then D.c j else 0)) D.q:=iT fun j hj=>by
  have:=Rat.not_lt.1 (h j hj);split<;>grind
 rw[eo]at this;unfold Dc.ko;grind
theorem Dc.Ax(h:D.vl)(v:Nat):0<=D.val v:=iT fun i R=>by
 split
 .exact h i R
 .exact Rat.le_refl
def full(m n:Nat)(F':Nat->Nat->Rat)(b x:Nat->Rat)(v:Nat):Rat:=if v<n then x v else b (v-n)-cW (fun j=>F' (v-n) j*x j) n
theorem Ay(h:v<n):full m n F' b x v=x v:=aM h
theorem FL(i:Nat):full m n F' b x (n+i)=b i-cW (fun j=>F' i j*x j) n:=by
 unfold full;rw[aK be,Nat.add_sub_cancel_left]
theorem Hu(x:Nat->Rat):(gD m n F' b c).uu (full m n F' b x) (cW (fun j=>c j*x j) n):=by
 refine⟨fun i (R:i<m)=>?_,?_⟩
 .show full m n F' b x (n+i)=b i-cW (fun j=>F' i j*full m n F' b x j) n;rw[FL,cQ (f:=fun j=>F' i j*full m n F' b x j) (g:=fun j=>F' i j*x j) fun j hj=>by rw[Ay hj]]
 .show _=0+cW (fun j=>c j*full m n F' b x j) n;rw[cQ (f:=fun j=>c j*full m n F' b x j) (g:=fun j=>c j*x j) fun j hj=>by rw[Ay hj],Rat.zero_add]
structure nM(D:Dc)(m n:Nat)(F':Nat->Nat->Rat)(b c:Nat->Rat):Prop where
 ok:D.Ok
 em:D.m=m
 eq:D.q=n
 GY:∀x z,D.uu x z↔(gD m n F' b c).uu x z
theorem nM.obj(h:nM D m n F' b c)(x:Nat->Rat):cW (fun j=>c j*x j) n=D.top+cW (fun v=>D.ko v*x v) n+cW (fun i=>D.ko (n+i)*(b i-cW (fun j=>F' i j*x j) n)) m:=by
 have W:=((h.GY _ _).2 (Hu x)).2;rw[D.FK h.ok,h.em,h.eq,Nat.add_comm m n,oK,cQ (f:=fun v=>D.ko v*full m n F' b x v) (g:=fun v=>D.ko v*x v) fun v hv=>by rw[Ay hv],cQ (f:=fun k=>D.ko (n+k)*full m n F' b x (n+k)) (g:=fun i=>D.ko (n+i)*(b i-cW (fun j=>F' i j*x j) n)) fun i _=>by rw[FL]]at W;rw[W];grind
theorem nM.NC(h:nM D m n F' b c)(N:∀j,j<D.q->¬0<D.c j):(∀i,0<= -(D.ko (n+i)))/\cW (fun i=> -(D.ko (n+i))*b i) m=D.top/\∀j,j<n->c j<=cW (fun i=> -(D.ko (n+i))*F' i j) m:=by
 have h0:=h.obj fun _=>0;have hz:∀g:Nat->Rat,cW (fun j=>g j*(0:Rat)) n=0:=fun g=>by rw[cQ (g:=fun _=>0) fun j _=>bI _,db]
 rw[hz,hz,cQ (g:=fun i=>D.ko (n+i)*b i) fun i _=>by rw[hz];grind]at h0;have TC:cW (fun i=> -(D.ko (n+i))*b i) m=D.top:=by
  rw[cQ (g:=fun i=> -(D.ko (n+i)*b i)) fun i _=>by grind,eo];grind
 refine⟨fun i=>by have:=D.Aw N (n+i);grind,TC,fun j hj=>?_⟩;have W:=h.obj fun v=>if v=j then 1 else 0
 have G:∀g:Nat->Rat,cW (fun v=>g v*(if v=j then(1:Rat)else 0)) n=g j:=fun g=>by
  rw[eM hj fun k _ e=>by rw[aK e,bI],aM rfl,Rat.mul_one]
 rw[G,G,cQ (g:=fun i=>D.ko (n+i)*b i-D.ko (n+i)*F' i j) fun i _=>by rw[G];grind,jc]at W;have I:=D.Aw N j;rw[cQ (f:=fun i=> -(D.ko (n+i))*F' i j) (g:=fun i=> -(D.ko (n+i)*F' i j)) fun i _=>by grind,eo];grind
theorem nM.je(h:nM D m n F' b c)(hf:D.vl):(∀v,0<=D.val v)/\(∀i,i<m->cW (fun j=>F' i j*D.val j) n<=b i)/\cW (fun j=>c j*D.val j) n=D.top:=by
 obtain⟨W,I⟩:=(h.GY _ _).1 (Dc.wX h.ok);refine⟨D.Ax hf,fun i R=>?_,?_⟩
 .have h3:D.val (n+i)=b i-cW (fun j=>F' i j*D.val j) n:=W i R;have:=D.Ax hf (n+i);grind
 .have I:D.top=0+cW (fun j=>c j*D.val j) n:=I;rw[I,Rat.zero_add]
theorem nM.OB(h:nM D m n F' b c){s:Nat}(hs:s<D.q)(ha:∀i,i<D.m->D.a i s<=0):(∀v,0<=D.dir s v)/\(∀i,i<m->cW (fun j=>F' i j*D.dir s j) n<=0)/\cW (fun j=>c j*D.dir s j) n=D.c s:=by
 have hnn:∀v,0<=D.dir s v:=fun v=>by
  have W:0<=cW (fun i=> -(if D.eS i=v then D.a i s else 0)) D.m:=iT fun i R=>by
   have:=ha i R;split<;>grind
  rw[eo]at W;unfold Dc.dir;split<;>grind
 have hl:=fun y=>(h.GY _ _).1 (Dc.line h.ok hs y);have e:∀g:Nat->Rat,∀y:Rat,cW (fun j=>g j*(D.val j+y*D.dir s j)) n=cW (fun j=>g j*D.val j) n+y*cW (fun j=>g j*D.dir s j) n:=fun g y=>by
  rw[cQ (g:=fun j=>g j*D.val j+y*(g j*D.dir s j)) fun j _=>by grind,gG,gH]
 refine⟨hnn,fun i R=>?_,?_⟩
 .have k0:D.val (n+i)+0*D.dir s (n+i)=b i-cW (fun j=>F' i j*(D.val j+0*D.dir s j)) n:=(hl 0).1 i R;have k1:D.val (n+i)+1*D.dir s (n+i)=b i-cW (fun j=>F' i j*(D.val j+1*D.dir s j)) n:=(hl 1).1 i R;rw[e]at k0 k1;have:=hnn (n+i);grind
 .have k0:D.top+D.c s*0=0+cW (fun j=>c j*(D.val j+0*D.dir s j)) n:=(hl 0).2;have k1:D.top+D.c s*1=0+cW (fun j=>c j*(D.val j+1*D.dir s j)) n:=(hl 1).2;rw[e]at k0 k1;grind
end
structure fW(D:Dc)(m n:Nat)(F':Nat->Nat->Rat)(b:Nat->Rat):Prop where
 ok:D.Ok
 em:D.m=m
 eq:D.q=n+1
 GY:∀x z,D.uu x z↔(dW m n F' b).uu x z
section
variable{D:Dc}{m n r s:Nat}{F':Nat->Nat->Rat}{b c x:Nat->Rat}
theorem fW.fx(h:fW D m n F' b)(hr:r<D.m)(hs:s<D.q)(hp:D.a r s≠0):fW (D.fx r s) m n F' b:=⟨h.ok.fx hr hs,h.em,h.eq,fun x z=>(Dc.FI hr hs hp).trans (h.GY x z)⟩
theorem nM.start:nM (gD m n F' b c) m n F' b c:=⟨rM _ _ _ _ _,rfl,rfl,fun _ _=>Iff.rfl⟩
theorem fW.start:fW (dW m n F' b) m n F' b:=⟨rN _ _ _ _,rfl,rfl,fun _ _=>Iff.rfl⟩
theorem Dy{low:Nat}(hl:low<m)(VK:∀i,i<m->b low<=b i)(U:b low<=0):((dW m n F' b).fx low n).vl:=fun i (R:i<m)=>by
 have ha:∀i,(dW m n F' b).a i n= -1:=fun i=>aK (Nat.lt_irrefl n);show 0<=if i=low then b low / (dW m n F' b).a low n else b i-(dW m n F' b).a i n*(b low / (dW m n F' b).a low n)
 rw[ha,ha];have e:b low / (-1)= -(b low):=by
  rw[bK,show((-1:Rat))⁻¹= -1 by decide +kernel];grind
 rw[e];split
 .grind
 .have:=VK i R;grind
def lh(m n:Nat)(F':Nat->Nat->Rat)(b x:Nat->Rat)(u:Rat)(v:Nat):Rat:=if v<n then x v else if v<n+m then b (v-n)-cW (fun j=>F' (v-n) j*x j) n+u else u
theorem zm(x:Nat->Rat)(u:Rat):(dW m n F' b).uu (lh m n F' b x u) (-u):=by
 have ha:lh m n F' b x u (n+m)=u:=by
  unfold lh;rw[aK be,aK be]
 refine oM.2 ⟨fun i R=>?_,by rw[ha]⟩;rw[ha,cQ (f:=fun j=>F' i j*lh m n F' b x u j) (g:=fun j=>F' i j*x j) fun j hj=>by unfold lh;rw[aM hj]];unfold lh;rw[aK be,aM be,Nat.add_sub_cancel_left];grind
theorem fW.Dz(h:fW D m n F' b){x:Nat->Rat}(E:D.uu x z):z= -x (n+m):=(oM.1 ((h.GY _ _).1 E)).2
theorem fW.topVal(h:fW D m n F' b):D.top= -D.val (n+m):=h.Dz (Dc.wX h.ok)
theorem fW.bounded(h:fW D m n F' b)(hf:D.vl)(hs:s<D.q)(hc:0<D.c s)(ha:∀i,i<D.m->D.a i s<=0):False:=by
 have hd:0<=D.dir s (n+m):=by
  have W:0<=cW (fun i=> -(if D.eS i=n+m then D.a i s else 0)) D.m:=iT fun i R=>by
   have:=ha i R;split<;>grind
  rw[eo]at W;unfold Dc.dir;split<;>grind
 have hv:=D.Ax hf (n+m);have ht:=h.topVal;have hl:=h.Dz (Dc.line h.ok hs ((1-D.top) / D.c s));have e:D.c s*((1-D.top) / D.c s)=1-D.top:=by rw[Rat.mul_comm];exact pj (oL hc)
 rw[e]at hl;have hy:0<=(1-D.top) / D.c s:=pn (by grind) hc;have:=Rat.mul_nonneg hy hd;grind
theorem fW.obj(h:fW D m n F' b)(x:Nat->Rat)(u:Rat): -u=D.top+cW (fun v=>D.ko v*x v) n+cW (fun i=>D.ko (n+i)*(b i-cW (fun j=>F' i j*x j) n+u)) m+D.ko (n+m)*u:=by
 have W:=((h.GY _ _).2 (zm (F':=F') (b:=b) x u)).2;rw[D.FK h.ok,h.em,h.eq,show m+(n+1)=(n+m)+1 by omega]at W;have e:cW (fun v=>D.ko v*lh m n F' b x u v) (n+m+1)=cW (fun v=>D.ko v*lh m n F' b x u v) (n+m)+D.ko (n+m)*u:=by
  show _+D.ko (n+m)*lh m n F' b x u (n+m)=_;unfold lh;rw[aK be,aK be]
 rw[e,oK,cQ (f:=fun v=>D.ko v*lh m n F' b x u v) (g:=fun v=>D.ko v*x v) fun v hv=>by unfold lh;rw[aM hv],cQ (f:=fun k=>D.ko (n+k)*lh m n F' b x u (n+k)) (g:=fun i=>D.ko (n+i)*(b i-cW (fun j=>F' i j*x j) n+u)) fun i R=>by
  unfold lh
  rw[aK be,aM be,Nat.add_sub_cancel_left]]at W
 rw[W];grind
theorem fW.none(h:fW D m n F' b)(N:∀j,j<D.q->¬0<D.c j):(∀i,0<= -(D.ko (n+i)))/\cW (fun i=> -(D.ko (n+i))*b i) m=D.top/\∀j,j<n->0<=cW (fun i=> -(D.ko (n+i))*F' i j) m:=by
 have h0:=h.obj (fun _=>0) 0;have hz:∀g:Nat->Rat,cW (fun j=>g j*(0:Rat)) n=0:=fun g=>by rw[cQ (g:=fun _=>0) fun j _=>bI _,db]
 rw[hz,cQ (g:=fun i=>D.ko (n+i)*b i) fun i _=>by rw[hz];grind]at h0;have TC:cW (fun i=> -(D.ko (n+i))*b i) m=D.top:=by
  rw[cQ (g:=fun i=> -(D.ko (n+i)*b i)) fun i _=>by grind,eo];grind
 refine⟨fun i=>by have:=D.Aw N (n+i);grind,TC,fun j hj=>?_⟩;have W:=h.obj (fun v=>if v=j then 1 else 0) 0;have G:∀g:Nat->Rat,cW (fun v=>g v*(if v=j then(1:Rat)else 0)) n=g j:=fun g=>by
  rw[eM hj fun k _ e=>by rw[aK e,bI],aM rfl,Rat.mul_one]
 rw[G,cQ (g:=fun i=>D.ko (n+i)*b i-D.ko (n+i)*F' i j) fun i _=>by rw[G];grind,jc]at W;have I:=D.Aw N j;rw[cQ (f:=fun i=> -(D.ko (n+i))*F' i j) (g:=fun i=> -(D.ko (n+i)*F' i j)) fun i _=>by grind,eo];grind
theorem fW.LC(h:fW D m n F' b)(hr:r<D.m)(hv:D.eS r=n+m)(N:D.b r=0):∃j,j<D.q/\D.a r j≠0:=by
 refine Decidable.byContradiction fun SJ=>?_;have W:=((h.GY _ _).2 (zm (F':=F') (b:=b) (fun _=>0) 1)).1 r hr;unfold Dc.row at W;rw[cQ (g:=fun _=>0) fun j hj=>by rw[show D.a r j=0 from Decidable.byContradiction fun g=>SJ ⟨j,hj,g⟩,bu],db,hv,N]at W;unfold lh at W;rw[aK be,aK be]at W;grind
theorem Dc.Hv(hf:D.vl)(N:D.b r=0):(D.fx r s).vl:=fun i R=>by
 show 0<=if i=r then D.b r / D.a r s else D.b i-D.a i s*(D.b r / D.a r s)
 rw[N,bK,bu,bI];split
 .exact Rat.le_refl
 .have:=hf i R;grind
def dq(k j:Nat):Nat:=if j<k then j else j+1
def Dc.cut(D:Dc)(k n:Nat)(c:Nat->Rat):Dc where
 m:=D.m
 q:=D.q-1
 eS:=D.eS
 eG:=fun j=>D.eG (dq k j)
 a:=fun i j=>D.a i (dq k j)
 b:=D.b
 c:=fun j=>(if D.eG (dq k j)<n then c (D.eG (dq k j))else 0)-cW (fun i=>if D.eS i<n then c (D.eS i)*D.a i (dq k j)else 0) D.m
 top:=cW (fun i=>if D.eS i<n then c (D.eS i)*D.b i else 0) D.m
theorem Hw(k j:Nat):dq k j≠k:=by unfold dq;split<;>omega
theorem GZ{k:Nat}(h:dq k i=dq k j):i=j:=by unfold dq at h;split at h<;>split at h<;>omega
theorem x3(g:Nat->Rat){k:Nat}:∀{q:Nat},k<q+1->cW g (q+1)=cW (fun j=>g (dq k j)) q+g k
 |0,h=>by
  obtain rfl:k=0:=by omega
  rfl
 |q+1,h=>by
  show cW g (q+1)+g (q+1)=cW (fun j=>g (dq k j)) q+g (dq k q)+g k;by_cases e:k=q+1
  .subst e;have W:∀j,j<q+1->dq (q+1) j=j:=fun j hj=>aM hj;rw[W q be,cQ (f:=fun j=>g (dq (q+1) j)) (g:=g) fun j hj=>by rw[W j be]];rfl
  .rw[x3 g (show k<q+1 by omega),show dq k q=q+1 from aK be];grind
theorem Dc.parts(h:D.Ok)(g:Nat->Rat):cW g (D.m+D.q)=cW (fun i=>g (D.eS i)) D.m+cW (fun j=>g (D.eG j)) D.q:=by
 have W:∀v,v<D.m+D.q->g v=cW (fun i=>if D.eS i=v then g v else 0) D.m+cW (fun j=>if D.eG j=v then g v else 0) D.q:=fun v hv=>by
  rcases h.all v hv with⟨i,R,rfl⟩|⟨j,hj,rfl⟩
  .rw[eM R fun k Z e=>aK fun g=>e (h.bi k i Z R g),aM rfl,cQ (g:=fun _=>0) fun j hj=>aK fun g=>h.bf i j R hj g.symm,db];grind
  .rw[cQ (g:=fun _=>0) fun i R=>aK (h.bf i j R hj),db,eM hj fun k Z e=>aK fun g=>e (h.fi k j Z hj g),aM rfl];grind
 rw[cQ W,gG];congr 1
 .rw[kO];refine cQ fun i R=>?_;rw[eM (h.bl i R) fun v _ e=>aK fun g=>e g.symm,aM rfl]
 .rw[kO];refine cQ fun j hj=>?_;rw[eM (h.fl j hj) fun v _ e=>aK fun g=>e g.symm,aM rfl]
theorem fW.cut(h:fW D m n F' b){k:Nat}(Z:k<D.q)(hv:D.eG k=n+m):nM (D.cut k n c) m n F' b c:=by
 have hq:(D.cut k n c).q=n:=by show D.q-1=n;rw[h.eq];omega
 have Qd:∀j,j<n->dq k j<D.q:=fun j hj=>by rw[h.eq];unfold dq;split<;>omega
 have OQ:∀i,i<m->D.eS i<m+n:=fun i R=>by
  have W:=h.ok.bl i (by rw[h.em];exact R);have I:=h.ok.bf i k (by rw[h.em];exact R) Z;rw[hv]at I;rw[h.em,h.eq]at W;omega
 have Pt:∀j,j<n->D.eG (dq k j)<m+n:=fun j hj=>by
  have W:=h.ok.fl _ (Qd j hj);have I:D.eG (dq k j)≠D.eG k:=fun e=>Hw k j (h.ok.fi _ _ (Qd j hj) Z e);rw[hv]at I;rw[h.em,h.eq]at W;omega
 have OV:(D.cut k n c).Ok:=by
  refine⟨fun i R=>?_,fun j hj=>?_,fun i k' R Sd e=>h.ok.bi i k' R Sd e,fun j k' hj Sd e=>?_,fun i j R hj e=>?_,fun v hv'=>?_⟩
  .rw[hq];show D.eS i<D.m+n;rw[h.em];exact OQ i (by rw[<-h.em];exact R)
  .rw[hq]at hj ⊢;show D.eG (dq k j)<D.m+n;rw[h.em];exact Pt j hj
  .rw[hq]at hj Sd;exact GZ (h.ok.fi _ _ (Qd j hj) (Qd k' Sd) e)
  .rw[hq]at hj;exact h.ok.bf i _ R (Qd j hj) e
  .rw[hq]at hv';have hv':v<D.m+n:=hv';rw[h.em]at hv';rcases h.ok.all v (by rw[h.em,h.eq];omega)with⟨i,R,e⟩|⟨j,hj,e⟩
   .exact .inl ⟨i,R,e⟩
   .refine .inr ?_;have VS:j≠k:=fun g=>by rw[g,hv]at e;omega
    rw[h.eq]at hj Z;rcases az j k with g|g
    .exact⟨j,by rw[hq];omega,by show D.eG (dq k j)=v;rw[show dq k j=j from aM g];exact e⟩
    .exact⟨j-1,by rw[hq];omega,by show D.eG (dq k (j-1))=v;rw[show dq k (j-1)=j by unfold dq;rw[aK be];omega];exact e⟩
 refine⟨OV,h.em,hq,fun x z=>?_⟩;obtain⟨y,hy⟩:∃y,(fun v=>if v=n+m then 0 else x v)=y:=⟨_,rfl⟩
 have hyv:∀v,v≠n+m->y v=x v:=fun v e=>by rw[<-hy];exact aK e
 have Pz:y (n+m)=0:=by rw[<-hy];exact aM rfl
 have OI:∀i,(D.cut k n c).row x i=D.row y i:=fun i=>by
  unfold Dc.row;rw[hq,h.eq,x3 (fun j=>D.a i j*y (D.eG j)) (k:=k) (by rw[h.eq]at Z;exact Z),hv,Pz,bI,cK];refine cQ fun j hj=>?_;show D.a i (dq k j)*x (D.eG (dq k j))=_;rw[hyv _ (by have:=Pt j hj;omega)]
 have XU:(∀i,i<m->x (D.eS i)=D.b i-D.row y i)↔∀i,i<m->x (n+i)=b i-cW (fun j=>F' i j*x j) n:=by
  have e1:(∀i,i<m->x (D.eS i)=D.b i-D.row y i)↔∀i,i<D.m->y (D.eS i)=D.b i-D.row y i:=by
   rw[h.em];constructor
   .intro g i R;rw[hyv _ (by have:=OQ i R;omega)];exact g i R
   .intro g i R;rw[<-hyv _ (by have:=OQ i R;omega)];exact g i R
  have e2:(∀i,i<D.m->y (D.eS i)=D.b i-D.row y i)↔D.uu y (D.top+cW (fun j=>D.c j*y (D.eG j)) D.q):=⟨fun g=>⟨g,rfl⟩,fun g=>g.1⟩
  rw[e1,e2,h.GY,oM];have e3:∀i,i<m->(y (n+i)=b i-(cW (fun j=>F' i j*y j) n-y (n+m))↔x (n+i)=b i-cW (fun j=>F' i j*x j) n):=fun i R=>by
   rw[Pz,hyv _ be,cQ (f:=fun j=>F' i j*y j) (g:=fun j=>F' i j*x j) fun j hj=>by rw[hyv j be]];constructor<;>intro g<;>rw[g]<;>grind
  constructor
  .rintro⟨g,_⟩ i R;exact(e3 i R).1 (g i R)
  .intro g;refine⟨fun i R=>(e3 i R).2 (g i R),?_⟩;have hD:D.uu y (D.top+cW (fun j=>D.c j*y (D.eG j)) D.q):=by
    have hs:(dW m n F' b).uu y (-y (n+m)):=oM.2 ⟨fun i R=>(e3 i R).2 (g i R),rfl⟩;exact⟨((h.GY _ _).2 hs).1,rfl⟩
   exact h.Dz hD
 have VU:(∀i,i<m->x (D.eS i)=D.b i-D.row y i)->(D.cut k n c).top+cW (fun j=>(D.cut k n c).c j*x ((D.cut k n c).eG j)) n=0+cW (fun j=>c j*x j) n:=fun g=>by
  have hp:=Dc.parts OV fun v=>if v<n then c v*x v else 0
  rw[hq,show(D.cut k n c).m=m from h.em,Nat.add_comm m n,oK,cQ (f:=fun v=>if v<n then c v*x v else 0) (g:=fun v=>c v*x v) fun v hv=>aM hv,cQ (f:=fun k=>if n+k<n then c (n+k)*x (n+k)else 0) (g:=fun _=>0) fun k _=>aK be,db]at hp;have hp:cW (fun v=>c v*x v) n+0=cW (fun i=>if D.eS i<n then c (D.eS i)*x (D.eS i)else 0) m+cW (fun j=>if D.eG (dq k j)<n then c (D.eG (dq k j))*x (D.eG (dq k j))else 0) n:=hp;have e1:cW (fun i=>if D.eS i<n then c (D.eS i)*x (D.eS i)else 0) m=cW (fun i=>if D.eS i<n then c (D.eS i)*D.b i else 0) m-cW (fun j=>cW (fun i=>if D.eS i<n then c (D.eS i)*D.a i (dq k j)else 0) m*x (D.eG (dq k j))) n:=by
   rw[cQ (f:=fun j=>cW (fun i=>if D.eS i<n then c (D.eS i)*D.a i (dq k j)else 0) m*x (D.eG (dq k j))) (g:=fun j=>cW (fun i=>(if D.eS i<n then c (D.eS i)*D.a i (dq k j)else 0)*x (D.eG (dq k j))) m) fun j _=>by rw[j3],kO,<-jc];refine cQ fun i R=>?_;by_cases UY:D.eS i<n
   .rw[aM UY,aM UY,g i R,cQ (g:=fun j=>c (D.eS i)*(D.a i (dq k j)*x (D.eG (dq k j)))) fun j _=>by rw[aM UY,Rat.mul_assoc],gH,<-OI i];have:(D.cut k n c).row x i=cW (fun j=>D.a i (dq k j)*x (D.eG (dq k j))) n:=by unfold Dc.row;rw[hq];rfl
    rw[this];grind
   .rw[aK UY,aK UY,cQ (g:=fun _=>0) fun j _=>by rw[aK UY,bu],db];grind
  have e2:cW (fun j=>(D.cut k n c).c j*x ((D.cut k n c).eG j)) n=cW (fun j=>if D.eG (dq k j)<n then c (D.eG (dq k j))*x (D.eG (dq k j))else 0) n-cW (fun j=>cW (fun i=>if D.eS i<n then c (D.eS i)*D.a i (dq k j)else 0) m*x (D.eG (dq k j))) n:=by
   rw[<-jc];refine cQ fun j _=>?_;show((if D.eG (dq k j)<n then c (D.eG (dq k j))else 0)-cW (fun i=>if D.eS i<n then c (D.eS i)*D.a i (dq k j)else 0) D.m)*x (D.eG (dq k j))=_;rw[h.em];split<;>grind
  have e3:(D.cut k n c).top=cW (fun i=>if D.eS i<n then c (D.eS i)*D.b i else 0) m:=by
   show cW _ D.m=_;rw[h.em]
  rw[e3,e2];grind
 have TV:(∀i,i<(D.cut k n c).m->x ((D.cut k n c).eS i)=(D.cut k n c).b i-(D.cut k n c).row x i)↔∀i,i<m->x (D.eS i)=D.b i-D.row y i:=by
  constructor
  .intro g i R;have:=g i (by show i<D.m;rw[h.em];exact R);rw[OI]at this;exact this
  .intro g i R;rw[OI];exact g i (by rw[<-h.em];exact R)
 constructor
 .rintro⟨g1,g2⟩;have g3:=TV.1 g1;rw[hq]at g2;exact⟨XU.1 g3,g2.trans (VU g3)⟩
 .rintro⟨g1,g2⟩;have g3:=XU.2 g1;refine⟨TV.2 g3,?_⟩;rw[hq,VU g3];exact g2
end
theorem GW(a b:Nat)(h:a+b<=l):wt a*wt b<=wt l:=by rw[<-Ap];exact CL h
theorem MK{k n FS m:Nat}(U:n<=FS)(hR:FS<=4294967295)(hl:k+1<=l)(hm:l*FS+1<=m):ln (fB (wt k) n)<=m/\fB (wt k) n<=wt m:=by
 have W:=MH (B:=wt k) (l:=l) U (aP (Nat.mul_le_mul_right _ (aP hR (by decide:4294967295<=wt 1))) (GW 1 k be));have I:l*n+1<=m:=aP (Nat.succ_le_succ (bh _ U)) hm;exact⟨aP W I,Nat.le_of_lt (gF.1 (aP W I))⟩
end Go.Ex
