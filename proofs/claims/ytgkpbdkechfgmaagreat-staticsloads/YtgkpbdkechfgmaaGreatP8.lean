/- Texts X132 to X134: lemmas, each with its conditions. -/
import Derived.Test.YtgkpbdkechfgmaaGreatP7
namespace Go.Ex
open Go Go.Sx Go.Proofs
theorem Kw{C S:Nat->Prop}{w:World}{v vby vs:Value}{n h:Nat}{qs ps:List Rat}{p:Rat}(hC:Old C w)(U:Old S w)(hrw:iG w S v n qs)(Oy:fP w S vby p)
  (hs:fz w C S vs ps) (Pc:ps.length=n) (hdis:∀g,v.ownBlock=some g->¬S g) (hdc:∀g,v.ownBlock=some g->¬C g) (hq:∀q∈qs,rl q+1<=h) (QI:∀q∈ps,rl q+1<=h) (hb:rl p+1<=h) (hh:3*h<=90000):
  eC PG Fn.nX #[v,vs,vby] w (fun e I=>e= .returned (.tuple #[])/\w.grownBy I v.ownBlock/\iG I (Nw S w I) v n (lQ qs ps p)):=by
 obtain⟨W,OD,OR,RK⟩:=hrw;have Ov:∀g,v.ownBlock=some g->g<w.heap.size:=fun g F=>(ownsRow.low OD g F).2;have QR:∀iv g,v.ownBlock=some g->Out w.heap.size iv g:=fun iv g F=>.inl (Ov g F);have hdis2:∀iv g,v.ownBlock=some g->¬Cv S w.heap.size iv g:=fun iv g F h=>by
  rcases h with h|⟨h,_⟩
  .exact hdis g F h
  .have:=Ov g F;omega
 have hdis3:∀iv g,v.ownBlock=some g->¬Cv C w.heap.size iv g:=fun iv g F h=>by
  rcases h with h|⟨h,_⟩
  .exact hdc g F h
  .have:=Ov g F;omega
 have Ta:qs.length=n:=by rw[<-RK.1,OR]
 obtain⟨a,c,rfl,Sm⟩:=js OD;obtain⟨b1,a1,n1,c1,b2,a2,n2,c2,rfl⟩:=Oy.shape;obtain⟨asl,cs0,rfl,Re,UT⟩:=hs.shape;rw[Pc]at Re UT hs ⊢;unfold maxLen at UT;replace RK:=RK.cF (S':=Cv S w.heap.size []) fun _ h=>.inl h;replace Oy:=Oy.arg [];replace hs:=hs.arg [];refine wu bv ?_;have Pf:=OD;have F:w.grownBy w (Value.slice a n c).ownBlock:=⟨rfl,rfl,rfl,lr,fun _ _ _=>rfl⟩
 have hbyl:rl p<=100000:=Oy.rl
 refine⟨Nat×List (List Value)×Iv×World,fun z=>⟨[(0,sV a n c),(5,pP 0 0),(8,sV asl n cs0),(9,iZ n),(10,iZ z.1)],
   [(0,.box T.Rat [.v (.bool b1),.v (.slice a1 n1 c1),.v (.bool b2),.v (.slice a2 n2 c2)])],1,z.2.2.1,z.2.2.2⟩,fun z=>n-z.1,
  fun z=>z.1<=n/\w.grownBy z.2.2.2 (Value.slice a n c).ownBlock/\z.2.2.2.ownsRow 0 T.Rat 4 (.slice a n c) n z.2.1.flatten/\z.2.1.length=n/\Fc z.2.2.2 (Cv S w.heap.size z.2.2.1) z.2.1 (g9 z.1 (xp (-p) ps) qs)/\
   fP z.2.2.2 (Cv S w.heap.size z.2.2.1) (.agg #[.bool b1,.slice a1 n1 c1,.bool b2,.slice a2 n2 c2]) p/\fz z.2.2.2 (Cv C w.heap.size z.2.2.1) (Cv S w.heap.size z.2.2.1) (.slice asl n cs0) ps,?_,?_⟩
 .intro O J r
  refine⟨(0,W,[],J),⟨bv,gG F r.cN,ni Pf (QR []) r,OR,by rw[sA];exact RK.rel r U,Oy.rel r U,hs.rel r hC U⟩,
   sbgn [] r⟩
 rintro⟨i,W,iv,w1⟩ ⟨D,F,OD,OR,RK,Oy,hs⟩;dsimp only at D F OD OR RK Oy hs ⊢;apply bS<;>intro h
 .have h:=dL h;obtain⟨L,Of⟩:=gO W i;obtain⟨q,hqi⟩:=gO qs i;obtain⟨f,TR⟩:=gO ps i;have hF:=RK.2 i L q Of (zP hqi);have St:xp (-p) ps i q=q-p*f:=by simp only[xp,List.getD,TR,Option.getD_some];grind
  obtain⟨d1,e1,m1,k1,d2,e2,m2,k2,rfl,hF⟩:=hF;have hrlq:=hq q (aG hqi);have hrlf:=QI f (aG TR);obtain⟨ad,fcs,OX,hff,OL⟩:=hs.load TR;obtain⟨f1,g1,o1,u1,f2,g2,o2,u2,rfl,hff⟩:=hff;refine⟨ad,OX,be,rC f1 g1 o1 u1 f2 g2 o2 u2,rfl,fun O J r j x G=>?_,?_⟩
  .have PY:=hs.rel r hC U;obtain⟨k2',k3⟩:=OL j x G;have:=rls r hC k2';rw[aJ,cO (w:=w1) (I:=J) (by rw[eV,eV];exact this)];exact k3
  refine cD (cM (If:=fun _ _ v _=>∃d,v= .bool d/\(d=true↔f=0)) (fun O J r=>qR (rlo r U) ((hff.rel r U).l be)) ?_);rintro O wa v1 wb r R Po ⟨dz,rfl,hz⟩;replace Oy:=Oy.cH (K:=(wa.heap.size,wb.heap.size)::iv) r U R fun x G=>aA _ G;replace RK:=RK.cH (K:=(wa.heap.size,wb.heap.size)::iv) r U R fun x G=>aA _ G;replace hs:=hs.cH (K:=(wa.heap.size,wb.heap.size)::iv) r hC U R fun x G=>aA _ G;replace hff:=hff.cH (K:=(wa.heap.size,wb.heap.size)::iv) r U R fun x G=>aA _ G;replace hF:=hF.cH (K:=(wa.heap.size,wb.heap.size)::iv) r U R fun x G=>aA _ G;replace OD:wb.ownsRow 0 T.Rat 4 (.slice a n c) n W.flatten:=ownsRow.cK (ni OD (QR iv) r) fun b hb=>R.block b (by have:=Ov b hb;have:=r.cR;omega);replace F:w.grownBy wb _:=gG F Po;generalize (wa.heap.size,wb.heap.size)::iv=OH at*
  cases dz
  .refine dP (idO 12) ?_;obtain⟨g,rfl,Oc⟩:=Dn OD RK Of;refine⟨⟨g,0,none⟩,rfl,be,rC d1 e1 m1 k1 d2 e2 m2 k2,rfl,fun O J r j x G=>?_,?_⟩
   .have:=Dn (ni OD (QR OH) r) (RK.rel r U) Of;obtain⟨g',Y,X⟩:=this;injection Y with Y;rw[<-Y]at X;exact X j x G
   have Qt:=jy p f;refine cM (If:=fun _ J v I=>cY I (Nf J I) v (p*f)) (fun O J r=>zO (rlo r U) (Oy.rel r U).v ((hff.rel r U).v be)) ?_;rintro O wa v1 wb r R Po hP;have hPN:=hP.iR (S:=S) r.cR (iv:=(wa.heap.size,wb.heap.size)::OH) aI;replace Oy:=Oy.cH (K:=(wa.heap.size,wb.heap.size)::OH) r U R fun x G=>aA _ G;replace RK:=RK.cH (K:=(wa.heap.size,wb.heap.size)::OH) r U R fun x G=>aA _ G;replace hs:=hs.cH (K:=(wa.heap.size,wb.heap.size)::OH) r hC U R fun x G=>aA _ G;replace hF:=hF.cH (K:=(wa.heap.size,wb.heap.size)::OH) r U R fun x G=>aA _ G;replace OD:wb.ownsRow 0 T.Rat 4 (.slice (some ⟨g,0,none⟩) n c) n W.flatten:=ownsRow.cK (ni OD (QR OH) r) fun b hb=>R.block b (by have:=Ov b hb;have:=r.cR;omega);replace F:w.grownBy wb _:=gG F Po;generalize (wa.heap.size,wb.heap.size)::OH=OW at*
   obtain⟨b5,a5,n5,c5,b6,a6,n6,c6,rfl⟩:=hPN.shape;refine cM (If:=fun _ J v I=>cY I (Nf J I) v (q-p*f)) (fun O J r=>JW (rlo r U) ((hF.rel r U).v be) ((hPN.rel r U).v be)) ?_;rintro O wc v2 wd r R Po hQ;have hQN:=hQ.iR (S:=S) r.cR (iv:=(wc.heap.size,wd.heap.size)::OW) aI;replace Oy:=Oy.cH (K:=(wc.heap.size,wd.heap.size)::OW) r U R fun x G=>aA _ G;replace RK:=RK.cH (K:=(wc.heap.size,wd.heap.size)::OW) r U R fun x G=>aA _ G;replace hs:=hs.cH (K:=(wc.heap.size,wd.heap.size)::OW) r hC U R fun x G=>aA _ G;replace OD:wd.ownsRow 0 T.Rat 4 (.slice (some ⟨g,0,none⟩) n c) n W.flatten:=ownsRow.cK (ni OD (QR OW) r) fun b hb=>R.block b (by have:=Ov b hb;have:=r.cR;omega);replace F:w.grownBy wd _:=gG F Po;generalize (wc.heap.size,wd.heap.size)::OW=Ow at*
   obtain⟨b7,a7,n7,c7,b8,a8,n8,c8,rfl⟩:=hQN.shape;rw[<-St]at hQN;refine⟨⟨g,0,none⟩,rfl,be,?_⟩;intro O J r;have Tb:=ni OD (QR Ow) r;have hF5:=(hQN.rel r U).BF;obtain⟨g',Tc,OE,QA,PK,Oj⟩:=om (nv:=rC b7 a7 n7 c7 b8 a8 n8 c8) Tb rfl h rfl bi;injection Tc with Tc;injection Tc with Tc;subst Tc;have Td:=jr (L:=rC b7 a7 n7 c7 b8 a8 n8 c8) RK.AK (show i<W.length by omega);rw[Td]at QA;have QD:∀x,Cv S w.heap.size Ow x->(setCells J ⟨g,i*4,none⟩ (rC b7 a7 n7 c7 b8 a8 n8 c8)).heap[x]? =J.heap[x]? :=fun x G=>
    PK.block x (rlo r U x G) fun e=>hdis2 Ow g rfl (by injection e with e;rw[<-e];exact G)
   have PW:(⟨g,0,none⟩:Addr).add ((i:Int).toNat*4)=⟨g,i*4,none⟩:=by rw[aJ,dS,aX]
   have hF6:=((RK.rel r U).cK QD).set (j:=i) (hF5.cK QD);rw[nk (f:=xp (-p) ps) hqi]at hF6;have hby6:=(Oy.rel r U).cK QD;have hkeep3:∀x,Cv C w.heap.size Ow x->(setCells J ⟨g,i*4,none⟩ (rC b7 a7 n7 c7 b8 a8 n8 c8)).heap[x]? =J.heap[x]? :=fun x G=>
    PK.block x (rlo r hC x G) fun e=>hdis3 Ow g rfl (by injection e with e;rw[<-e];exact G)
   have hs6:=(hs.rel r hC U).cK fun x G=>G.elim (hkeep3 x) (QD x);replace F:w.grownBy (setCells J ⟨g,i*4,none⟩ (rC b7 a7 n7 c7 b8 a8 n8 c8)) (some g):=gN (gG F r.cN) PK;have QG:=fun id b hb Z=>Rel.not r (fun _ h=>h) (QR Ow g rfl) id b hb Z;refine⟨by rw[PW],fun k E=>by rw[PW];exact OE k E,fun id b hb Z=>by rw[PW];exact QG id b hb Z,fun I PA=>?_⟩;have PA:I=setCells J ⟨g,i*4,none⟩ (rC b7 a7 n7 c7 b8 a8 n8 c8):=by rw[PA];exact congrArg (fun x=>setCells J x _) PW
   rw[<-PA]at hF6 hby6 QA F Oj hs6;refine inc i ?_;intro IR w3 A
   exact⟨(i+1,W.set i (rC b7 a7 n7 c7 b8 a8 n8 c8),Ow,w3),⟨h,gG F A.cN,ni QA (QR Ow) A,by simpa using OR,hF6.rel A U,hby6.rel A U,hs6.rel A hC U⟩,
    sbgn [] A,by dsimp only;omega⟩
  .have SE:f=0:=hz.1 rfl;have Rj:xp (-p) ps i q=q:=by rw[St,SE];grind
   refine inc i ?_;intro IR w3 A
   exact⟨(i+1,W,OH,w3),⟨h,gG F A.cN,ni OD (QR OH) A,OR,by rw[<-FJ hqi Rj];exact RK.rel A U,Oy.rel A U,hs.rel A hC U⟩,
    sbgn [] A,by dsimp only;omega⟩
 .have h:i=n:=by
   have:¬i<n:=by simpa using h
   omega
  subst h;intro J8 w5 r5;refine⟨rfl,gG F r5.cN,W,ni OD (QR iv) r5,OR,?_⟩;have:=(RK.rel r5 U).cF (S':=Nw S w w5) fun g F=>Cv.nw F r5
  rwa [<-Ta,uu]at this
section
variable{S:Nat->Prop}{w:World}{v u vx vk vp:Value}{z:Int}{M F':List (List (Int×Int))}{b C8 P:List (Int×Int)}
end
end Go.Ex
namespace Go.Sx
open Go Go.Ex Go.Proofs
variable{L:List Value}{O:Nat->Sx.da}
theorem Sub.NB{B:Nat}{l tl:Env}{nx:Nat}{H tH:Hp}{iv:Iv}{w J:World}{id t n sz:Nat}{e:TypeId}(r:Rel H nx iv B w O J)(Oh:cw H id=some (.vec e sz L))(Z:(O id).nil=false)(ht:fO l t=some (.o (.w id n)))
  (hs:wN H tH) (ho:DB id tH=true) (Y:Cy l tl) (X:kL nx tl):
  Sub B l nx O J ⟨(t,.o (.v (.slice (some ⟨(O id).g,0,none⟩) n (O id).cap)))::tl,tH,nx,((O id).g,(O id).g+1)::iv,J⟩:=
 ⟨O,r.free Oh bv Z hs ho,fun u v hv=>tc Z ht Y X u v hv⟩
end Go.Sx
namespace Go.Ex
open Go Go.Sx Go.Proofs
variable{W:List (List Value)}{qs ri:List Rat}{rv:List Value}{c i:Nat}{a:Option Addr}{row:Option Nat}{q:Rat}{v:Value}
def Ob(rv:List Value)(g:Nat):Prop:=∃v∈rv,v.ownBlock=some g
def Lr(S:Nat->Prop)(B:Nat)(iv:Iv)(rv:List Value)(g:Nat):Prop:=Cv S B iv g/\¬Ob rv g
structure lC(w:World)(S:Nat->Prop)(B:Nat)(iv:Iv)(rv:List Value)(n:Nat)(M:List (List Rat)):Prop where
 len:rv.length=M.length
 row:∀(i:Nat) v qs,rv[i]? =some v->M[i]? =some qs->iG w (Lr S B iv rv) v n qs
 ES:∀(i j:Nat) a b g,rv[i]? =some a->rv[j]? =some b->a.ownBlock=some g->b.ownBlock=some g->i=j
 new:∀g,Ob rv g->Cv FF B iv g
theorem Ob.append{g:Nat}:Ob (rv++[v]) g↔Ob rv g\/v.ownBlock=some g:=by
 unfold Ob;simp[or_and_right,exists_or]
section
variable{S S':Nat->Prop}{H:Hp}{nx n:Nat}{iv K:Iv}{B:Nat}{w J I:World}{O:Nat->Sx.da}{rv:List Value}{M:List (List Rat)}
theorem lC.nil:lC w S B iv [] n []:=⟨rfl,fun i v qs h=>(by cases h),fun i j a b g h=>(by cases h),fun g ⟨v,hv,_⟩=>by cases hv⟩
theorem lC.cK(h:lC w S B iv rv n M)(E:∀g,Cv S B iv g->I.heap[g]? =w.heap[g]?):lC I S B iv rv n M:=
 ⟨h.len,fun i v qs Y X=>(h.row i v qs Y X).cK fun g F=>F.elim (fun F=>E g F.1) fun F=>E g (KW (h.new g ⟨v,aG Y,F⟩)),h.ES,h.new⟩
theorem lC.rel(h:lC w S B iv rv n M)(r:Rel H nx iv B w O J)(U:∀g,S g->g<B):lC J S B iv rv n M:=h.cK fun _ F=>rls r U F
theorem lC.mono(h:lC w S B iv rv n M)(hm:∀p,p∈iv->p∈K):lC w S B K rv n M:=
 ⟨h.len,fun i v qs Y X=>(h.row i v qs Y X).cF fun _ F=>⟨F.1.mono hm,F.2⟩,h.ES,fun g F=>(h.new g F).mono hm⟩
theorem lC.cH(h:lC w S B iv rv n M)(r:Rel H nx iv B w O J)(U:∀g,S g->g<B)(R:Ext J I)(hm:∀p,p∈iv->p∈K):lC I S B K rv n M:=
 ((h.rel r U).cK fun g F=>R.block g (rlo r U g F)).mono hm
theorem lC.low(h:lC w S B iv rv n M){g:Nat}(F:Ob rv g):B<=g:=(h.new g F).elim (fun h=>h.elim) fun h=>h.1
theorem lC.lt(h:lC w S B iv rv n M)(r:Rel H nx iv B w O J){g:Nat}(F:Ob rv g):g<J.heap.size:=rlo r (iH B) g (h.new g F)
theorem Lr.grown(r:Rel H nx iv B w O J)(U:∀g,S g->g<B)(F:J.grownBy I row)(OD:∀g,row=some g->Ob rv g):∀g,Lr S B iv rv g->I.heap[g]? =w.heap[g]? :=fun g h=>by
 rw[F.block g (rlo r U g h.1) fun e=>h.2 (OD g e.symm),rls r U h.1]
theorem lC.cN(h:lC w S B iv rv n M)(r:Rel H nx iv B w O J)(F:J.grownBy I row)(OD:∀g,row=some g->Ob rv g):jv B J I:=
 jv.grown F (fun g e=>h.low (OD g e)) r.cR
theorem lC.setRow(h:lC J S B iv rv n M)(OT:∀g,Cv S B iv g->g<J.heap.size){vi:Value}(Su:rv[i]? =some vi)(PK:J.grownBy I vi.ownBlock)(hB:B<=J.heap.size)
  (hq:iG I (Nw (Lr S B iv rv) J I) vi n qs):lC I S B ((J.heap.size,I.heap.size)::iv) rv n (M.set i qs):=by
 have hnw:∀g,Nw (Lr S B iv rv) J I g->Lr S B ((J.heap.size,I.heap.size)::iv) rv g:=fun g F=>by
  rcases F with F|F
  .exact⟨F.1.mono fun p hp=>aA _ hp,F.2⟩
  .exact⟨.inr ⟨be,_,_,aI,F.1,F.2⟩,fun hm=>by have:=OT g (KW (h.new g hm));omega⟩
 refine⟨by rw[bm];exact h.len,fun k v ps Y X=>?_,h.ES,fun g F=>(h.new g F).mono fun p hp=>aA _ hp⟩;by_cases E:i=k
 .subst E;rw[Su]at Y;injection Y with Y;subst Y;rw[aW (by rw[<-h.len];exact(aD.1 Su).1)]at X;injection X with X;subst X;exact hq.cF hnw
 .rw[bC E]at X;refine((h.row k v ps Y X).cK fun g F=>?_).cF fun g F=>⟨F.1.mono fun p hp=>aA _ hp,F.2⟩
  rcases F with F|F
  .exact PK.block g (OT g F.1) fun e=>F.2 ⟨vi,aG Su,e.symm⟩
  .exact PK.block g (OT g (KW (h.new g ⟨v,aG Y,F⟩))) fun e=>E (h.ES i k vi v g Su Y e.symm F)
theorem lC.CE(hM:lC w S B iv rv n M)(r:Rel H nx iv B w O J)(U:∀g,S g->g<B){i j h:Nat}{vi vj vby:Value}{ri rj:List Rat}{p:Rat}(PR:i≠j)(Su:rv[i]? =some vi)(Rp:rv[j]? =some vj)(hri:M[i]? =some ri)(hrj:M[j]? =some rj)
  (Oy:fP w (Lr S B iv rv) vby p) (hq:∀q∈ri,rl q+1<=h) (hqj:∀q∈rj,rl q+1<=h) (hb:rl p+1<=h) (hh:3*h<=90000):
  eC PG Fn.nX #[vi,vj,vby] J (fun e I=>e= .returned (.tuple #[])/\J.grownBy I vi.ownBlock/\(∀g,vi.ownBlock=some g->Ob rv g)/\lC I S B ((J.heap.size,I.heap.size)::iv) rv n (M.set i (lQ ri rj p))):=by
 have UZ:=hM.rel r U;have Y:=UZ.row i vi ri Su hri;have X:=UZ.row j vj rj Rp hrj;have Sf:∀g,vi.ownBlock=some g->Ob rv g:=fun g F=>⟨_,aG Su,F⟩
 have hmj:∀g,vj.ownBlock=some g->Ob rv g:=fun g F=>⟨_,aG Rp,F⟩
 refine(Kw (C:=fun g=>vj.ownBlock=some g) (S:=Lr S B iv rv) (fun x G=>hM.lt r (hmj x G)) (fun g F=>rlo r U g F.1) Y (fP.cK Oy fun g F=>rls r U F.1) X.read X.len (fun g F G=>G.2 (Sf g F)) (fun g F G=>PR (hM.ES i j _ _ g Su Rp F G)) hq hqj hb hh).mono fun e w8 R=>?_;obtain⟨rfl,PK,OD⟩:=R;exact⟨rfl,PK,Sf,UZ.setRow (fun g F=>rlo r U g F) Su PK r.cR OD⟩
theorem lC.form(hM:lC w S B iv rv n M)(hv:rv[i]? =some v):∃a c,v= .slice a n c:=by
 obtain⟨qs,hq⟩:∃qs,M[i]? =some qs:=⟨_,aB (by rw[<-hM.len];exact(aD.1 hv).1)⟩
 obtain⟨a,c,h,_⟩:=(hM.row i v qs hv hq).form;exact⟨a,c,h⟩
theorem lC.load(hM:lC w S B iv rv n M){k:Nat}(hv:rv[i]? =some (.slice a n c))(hq:M[i]? =some qs)(E:qs[k]? =some q):
  ∃ad L,a=some ad/\jV w (Lr S B iv rv) L q/\∀j u,L[j]? =some u->Cv FF B iv ad.block/\w.cell? ((ad.add (k*4)).add j)=some u:=by
 obtain⟨ad,L,Y,X,N⟩:=fz.load (hM.row i _ qs hv hq).read E;refine⟨ad,L,Y,X,fun j u hu=>⟨?_,(N j u hu).2⟩⟩;have:=(N j u hu).1;exact hM.new _ ⟨_,aG hv,this⟩
theorem lC.store(hM:lC w S B iv rv n M)(r:Rel H nx iv B w O J)(U:∀g,S g->g<B){k:Nat}{a1 a2:Option Addr}{n1 c1 n2 c2:Nat}{b b2:Bool}(Su:rv[i]? =some (.slice a n c))(hri:M[i]? =some ri)(E:k<n)
  (hf:cY w (Lr S B iv rv) (.agg #[.bool b,.slice a1 n1 c1,.bool b2,.slice a2 n2 c2]) q):
  ∃g,a=some ⟨g,0,none⟩/\((⟨g,0,none⟩:Addr).add ((k:Int).toNat*4)).spot=none/\
   (∀j,j<4->(J.cell? (((⟨g,0,none⟩:Addr).add ((k:Int).toNat*4)).add j)).isSome=true/\J.frozen? (((⟨g,0,none⟩:Addr).add ((k:Int).toNat*4)).add j)=false)/\
   (∀id b,cw H id=some b->(O id).nil=false->(O id).g≠((⟨g,0,none⟩:Addr).add ((k:Int).toNat*4)).block)/\
   ∀I,I=setCells J ((⟨g,0,none⟩:Addr).add ((k:Int).toNat*4)) (rC b a1 n1 c1 b2 a2 n2 c2)->lC I S B iv rv n (M.set i (ri.set k q))/\jv B J I/\Rel H nx iv B I O I/\∀g,Lr S B iv rv g->I.heap[g]? =w.heap[g]? :=by
 have UZ:=hM.rel r U;have Sf:∀g,(Value.slice a n c).ownBlock=some g->Ob rv g:=fun g F=>⟨_,aG Su,F⟩
 obtain⟨g,rfl,Y,X,N,h4⟩:=(UZ.row i _ ri Su hri).store E (hf.cK fun g F=>rls r U F.1) (fun g F G=>G.2 (Sf g F)) (fun x G=>rlo r U x G.1);refine⟨g,rfl,Y,N,fun id b hb Z=>by rw[X];exact Rel.not r (iH B) (hM.new g (Sf g rfl)) id b hb Z,fun I PA=>?_⟩;obtain⟨k1,k2,k3⟩:=h4 I PA;have hs:=UZ.setRow (fun g F=>rlo r U g F) Su k2 r.cR (k1.cF fun g F=>.inl F);refine⟨?_,hM.cN r k2 Sf,r.xd (fun id b hb Z=>Rel.not r (iH B) (hM.new g (Sf g rfl)) id b hb Z) k2,Lr.grown r U k2 Sf⟩;refine⟨hs.len,fun j v qs h5 h6=>(hs.row j v qs h5 h6).cF fun x G=>⟨?_,G.2⟩,hs.ES,fun x G=>hM.new x G⟩;rcases G.1 with G|⟨m1,lo,D,m2,m3,m4⟩
 .exact .inl G
 .rcases List.mem_cons.1 m2 with e|m2
  .injection e with e1 e2;subst e1 e2;omega
  .exact .inr ⟨m1,lo,D,m2,m3,m4⟩
theorem lC.push(hM:lC w S B iv rv n M){gx:Nat}(VD:∀g,Cv S B iv g->g≠gx)(hBx:B<=gx)(OD:iG w S (.slice (some ⟨gx,0,none⟩) n c) n qs)(U:∀g,S g->g<B):
  lC w S B ((gx,gx+1)::iv) (rv++[.slice (some ⟨gx,0,none⟩) n c]) n (M++[qs]):=by
 have Qb:∀g,Ob rv g->g≠gx:=fun g F=>VD g (KW (hM.new g F))
 have hlr:∀g,Lr S B iv rv g->Lr S B ((gx,gx+1)::iv) (rv++[.slice (some ⟨gx,0,none⟩) n c]) g:=fun g F=>⟨F.1.mono fun p hp=>aA _ hp,fun h=>by
  rcases Ob.append.1 h with h|h
  .exact F.2 h
  .injection h with h;exact VD g F.1 h.symm⟩
 refine⟨by simp[hM.len],fun i v ps Y X=>?_,fun i j a b g Y X N h4=>?_,fun g F=>?_⟩
 .rcases aR i rv.length with D|D
  .rw[aK D]at Y;rw[aK (by rw[<-hM.len];exact D)]at X;exact(hM.row i v ps Y X).cF hlr
  .have Qu:i=rv.length:=by have:=(aD.1 Y).1;simp at this;omega
   rw[Qu,aQ lr,bP]at Y;rw[Qu,hM.len,aQ lr,bP]at X;simp at Y X;subst Y X;refine OD.cF fun g F=>⟨.inl F,fun h=>?_⟩
   have:=U g F;rcases Ob.append.1 h with h|h
   .have:=hM.low h;omega
   .injection h with h;have h:gx=g:=h;omega
 .have key:∀(k:Nat) v,(rv++[Value.slice (some ⟨gx,0,none⟩) n c])[k]? =some v->(k<rv.length/\rv[k]? =some v)\/(k=rv.length/\v= .slice (some ⟨gx,0,none⟩) n c):=fun k v E=>by
   rcases aR k rv.length with D|D
   .rw[aK D]at E;exact .inl ⟨D,E⟩
   .have Qu:k=rv.length:=by have:=(aD.1 E).1;simp at this;omega
    rw[Qu,aQ lr,bP]at E;simp at E;exact .inr ⟨Qu,E.symm⟩
  rcases key i a Y with⟨_,k1⟩|⟨e1,rfl⟩<;>rcases key j b X with⟨_,k2⟩|⟨e2,rfl⟩
  .exact hM.ES i j a b g k1 k2 N h4
  .injection h4 with h4;exact absurd h4.symm (Qb g ⟨a,aG k1,N⟩)
  .injection N with N;exact absurd N.symm (Qb g ⟨b,aG k2,h4⟩)
  .rw[e1,e2]
 .rcases Ob.append.1 F with h|h
  .exact(hM.new g h).mono fun p hp=>aA _ hp
  .injection h with h;have h:gx=g:=h;subst h;exact .inr ⟨hBx,_,_,aI,lr,cB _⟩
theorem lC.drop(hM:lC w S B iv (rv++[v]) n (M++[qs])):lC w S B iv rv n M:=by
 have hl:rv.length=M.length:=by have:=hM.len;simpa using this
 have Qb:∀g,Ob rv g->Ob (rv++[v]) g:=fun g F=>Ob.append.2 (.inl F);refine⟨hl,fun i u ps Y X=>?_,fun i j a b g Y X=>hM.ES i j a b g ?_ ?_,fun g F=>hM.new g (Qb g F)⟩
 .have D:=(aD.1 Y).1;exact(hM.row i u ps (by rw[aK D];exact Y) (by rw[aK (by rw[<-hl];exact D)];exact X)).cF fun g F=>⟨F.1,fun h=>F.2 (Qb g h)⟩
 .rw[aK (aD.1 Y).1];exact Y
 .rw[aK (aD.1 X).1];exact X
theorem NC{id m:Nat}(r:Rel H nx iv B w O J)(h:cw H id=some (.vec T.Rat 4 W.flatten))(hl:W.length=m)(h0:0<m)(hm:m<=maxLen)(hF:Fc J S W qs):
  (O id).nil=false/\B<=(O id).g/\(∀g,Out B iv g->g≠(O id).g)/\iG J S (.slice (some ⟨(O id).g,0,none⟩) m (O id).cap) m qs:=by
 have OL:=gW hF.AK;rcases r.vec id _ _ _ h with⟨_,X⟩|⟨Y,spare,X,N,h4⟩
 .rw[X]at OL;rw[hl]at OL;simp at OL;omega
 .refine⟨Y,(r.low id _ h Y).1,fun g F e=>?_,W,⟨by rw[OL,hl],.inr ⟨(O id).g,(O id).cap,_,rfl,aP _,X,?_,h4,by simpa using N,by rw[show m*4=W.flatten.length by rw[OL,hl]];simp⟩⟩,hl,hF⟩
  .exact Rel.not r (fun _ h=>h) F id _ h Y e.symm
  .rw[aL,OL,hl]at N;omega
end
end Go.Ex
namespace Go.Sx
open Go Go.Ex Go.Proofs
variable{O:Nat->Sx.da}
theorem Sub.AM{B nx:Nat}{l:Env}{H:Hp}{iv:Iv}{w J:World}{t:Ai}(id p e sz:Nat){bt:Nat}{L:List At}(Oh:cw H id=some (.box bt L))(hp:L[p]? =some (.v nls))(Re:kL nx l)(r:Rel H nx iv B w O J)
  (h:∀Id,Rel ((id,.box bt (L.set p (.w nx 0)))::(nx,.vec e sz [])::H) (nx+1) iv B w Id J->Sx.Sub B l (nx+1) Id J t):Sx.Sub B l nx O J t:=by
 have r1:=r.push (.vec e sz []) ⟨0,0,true⟩ (I:=J) rfl rfl rfl lr (fun _ _=>rfl) (fun h=>by cases h) (.inl ⟨rfl,rfl⟩) trivial;have OB:id≠nx:=Nat.ne_of_lt (r.keys id _ Oh);have Ua:cw ((nx,.vec e sz [])::H) id=some (.box bt L):=by rw[dA,aF (fun h=>OB h.symm)];exact Oh
 have hnn:=r1.nn id _ Ua (by intros;simp) bv;have Oz:=r1.box id bt L Ua;have R6:(L.set p (.w nx 0)).map (At.den (Sx.gR O nx ⟨0,0,true⟩))=L.map (At.den (Sx.gR O nx ⟨0,0,true⟩)):=by
  refine bY fun j=>?_;rw[aO,aO];by_cases hj:p=j
  .subst hj;rw[aW (aD.1 hp).1,hp];simp[At.den,eh]
  .rw[bC hj]
 have r2:=r1.store (b':=.box bt (L.set p (.w nx 0))) (H':=(id,.box bt (L.set p (.w nx 0)))::(nx,.vec e sz [])::H) (I:=J) Ua bv hnn (fun j=>by
  rw[dA];by_cases hj:id=j
  .subst hj;rw[aH rfl]
  .rw[aF hj,aF (fun h=>hj h.symm)]) rfl rfl rfl rfl (fun _ _=>rfl) ⟨hnn,by rw[R6];exact Oz⟩ (fun x G=>by
   rcases b9 G with G|rfl
   .exact r1.KQ id bt L Ua x G
   .exact cB nx)
 obtain⟨G8,Y,X⟩:=h _ r2;refine⟨G8,Y,fun x v hv=>?_⟩;obtain⟨N,v0,h4,h5⟩:=X x v hv;refine⟨N,v0,h4,?_⟩;rw[<-h5];exact SV.j6 (fun id Oh=>gS id Oh) (Re.get _ _ h4)
end Go.Sx
namespace Go.Ex
open Go Go.Sx Go.Proofs
variable{a:Act}{F' next:Act->World->Prop}{la lx:Array Bool}{A':Array Bool->World->Prop}{Q:Exit->Act->World->Prop}{Fd M:List (List Rat)}{at_:List (Option Nat)}{fr:List Nat}{r row u y:List Rat}{rv:List Value}{b cols i j:Nat}{C S S0:Nat->Prop}{oi:Oper}{C8:Sem Next}{v:Value}{w:World}{AC:World->Prop}{s:wQ}
inductive Tq where
 |nil
 |x (i:Nat) (t:Tq)
 |two (i:Nat) (t:Tq) (j:Nat) (u:Tq)
 |three (i:Nat) (t:Tq) (j:Nat) (u:Tq) (k:Nat) (v:Tq)
section
variable{P:Program}{τ:mS}{ops:Array Oper}{B n nx:Nat}{l:Env}{H:Hp}{iv:Iv}{w J:World}{O:Nat->Sx.da}{a:Act}
end
section
variable{P:Program}{ops:Array Oper}{Q:Exit->Act->World->Prop}{md:Region.Mode}
theorem IC{oj:Oper}(hj:ops[j]? =some oj)(Q7:oi.apart ops oj=true)
  (hsi:∀L b,oi.op≠ .select L b) (hsj:∀L b,oj.op≠ .select L b)
  (hQ:∀c a w,Q (.panic c) (a.put oi.dst v) w->Q (.panic c) a w)
  (hy:Region.wanted oi (yielded ops a.tmps)=true/\execOp a.eval oi=C8) (h:wpOp P ops Q j F' (a.put oi.dst v) w):
  wpOp P ops Q j (fun a' J=>(Region.wanted oi (yielded ops a'.tmps)=true/\execOp a'.eval oi=C8)/\F' (a'.put oi.dst v) J) a w:=by
 obtain⟨Y,X,N⟩:=Oper.apart_spec Q7;have cK:∀(a:Act),(Region.wanted oi (yielded ops a.tmps)=true/\execOp a.eval oi=C8)->∀u,(Region.wanted oi (yielded ops (a.put oj.dst u).tmps)=true/\execOp (a.put oj.dst u).eval oi=C8):=fun a hy u=>
  ⟨(wanted_put oi a oj.dst u N).trans hy.1,(execOp_put oi hsi a oj.dst u N).trans hy.2⟩
 have xl:∀d:Deferred,(Region.wanted oi (yielded ops ({a with defers:=d::a.defers}:Act).tmps)=true/\execOp ({a with defers:=d::a.defers}:Act).eval oi=C8):=fun d=>hy;unfold wpOp at*
 simp only[hj]at*
 rw[wanted_put oj a oi.dst v Y]at h;split
 .rename_i V;simp only[V,if_true]at h;rcases h with h|⟨Rn,TU⟩
  case inr=>exact .inr ⟨by unfold Oper.asks at *;rw[execOp_put oj hsj a oi.dst v Y]at Rn;exact Rn,TU⟩
  refine .inl ?_;unfold Oper.wp at*
  rw[execOp_put oj hsj a oi.dst v Y]at h;generalize (execOp a.eval oj).run P w=r at*
  cases r with
  |ok n J=>
   cases n<;>simp only[Oper.upon]at h ⊢
   case value u=>exact⟨cK a hy u,by rw[<-Act.put_comm a v u X];exact h⟩
   case skip=>exact⟨cK a hy _,by rw[<-Act.put_comm a v undef X];exact h⟩
   case defer d=>
    refine⟨cK ({a with defers:=d::a.defers}:Act) (xl d) undef,?_⟩;rw[<-Act.put_comm _ v undef X,<-Act.put_defers];exact h
   case enter f args=>
    refine Calls.mono h fun e w'' R=>?_
    cases e with
    |returned u=>exact⟨cK a hy u,by rw[<-Act.put_comm a v u X];exact R⟩
    |panicked c=>exact hQ _ _ _ R
    |outgrown=>exact R
   case row row args=>exact Rows.mono h fun u w'' R=>⟨cK a hy u,by rw[<-Act.put_comm a v u X];exact R⟩
  |halt x J=>
   cases x<;>simp only[Oper.upon]at h ⊢
   case panic u=>exact hQ _ _ _ h
 .rename_i V;simp only[V]at h;exact⟨cK a hy _,by rw[<-Act.put_comm a v undef X];exact h⟩
def qD(P:Program)(md:Region.Mode)(ops:Array Oper)(Q:Exit->Act->World->Prop)(A':Array Bool->World->Prop):Nat->Array Bool->Act->World->Prop
 |0,lx,a,w=>A' lx w/\Region.ready md ops lx=[]/\Q .normal a w
 |fuel+1,lx,a,w=>A' lx w/\(Region.ready md ops lx=[]->Q .normal a w)/\∀i∈Region.ready md ops lx,wpOp P ops Q i (fun a' J=>qD P md ops Q A' fuel (lx.setIfInBounds i true) a' J) a w
theorem zk{A':Array Bool->World->Prop}:∀(fuel:Nat) (lx:Array Bool) (a:Act) (w:World),qD P md ops Q A' fuel lx a w->wpAny P md ops Q fuel lx a w
 |0,_,_,_,h=>h.2
 |fuel+1,_,_,_,h=>⟨h.2.1,fun i D=>wpOp_mono (fun _ _ h'=>zk fuel _ _ _ h') (h.2.2 i D)⟩
theorem ju{A' A8:Array Bool->World->Prop}(hIJ:∀lx w,A' lx w->A8 lx w):∀(fuel:Nat) (lx:Array Bool) (a:Act) (w:World),qD P md ops Q A' fuel lx a w->qD P md ops Q A8 fuel lx a w
 |0,_,_,_,h=>⟨hIJ _ _ h.1,h.2⟩
 |fuel+1,_,_,_,h=>⟨hIJ _ _ h.1,h.2.1,fun i D=>wpOp_mono (fun _ _ h'=>ju hIJ fuel _ _ _ h') (h.2.2 i D)⟩
theorem EO(hI:A' lx w)(hr:Region.ready md ops lx=[])(h:Q .normal a w):∀fuel,qD P md ops Q A' fuel lx a w
 |0=>⟨hI,hr,h⟩
 |_+1=>⟨hI,fun _=>h,by rw[hr];simp⟩
def mR(ops:Array Oper)(b:Nat)(lx:Array Bool):Prop:=∀(k:Nat) o,tb b k=true->ops[k]? =some o->uD o.op=false->lx.getD k false=false
theorem jI(D:ops[i]? =some oi)(hR:uD oi.op=true):mR ops b (lx.setIfInBounds i true)↔mR ops b lx:=by
 have key:∀(k:Nat) o,ops[k]? =some o->uD o.op=false->(lx.setIfInBounds i true).getD k false=lx.getD k false:=fun k o ho hr=>by
  have:i≠k:=fun e=>by subst e;rw[D]at ho;injection ho with ho;subst ho;rw[hR]at hr;cases hr
  exact getD_set_ne false this
 exact⟨fun h k o Y X N=>by rw[<-key k o X N];exact h k o Y X N,fun h k o Y X N=>by rw[key k o X N];exact h k o Y X N⟩
theorem uA(D:ops[i]? =some oi)(hR:uD oi.op=true)(OY:∀(j:Nat) (o:Oper) L b,ops[j]? =some o->o.op≠ .select L b)
  (hQ:∀c a w,Q (.panic c) (a.put oi.dst v) w->Q (.panic c) a w) (Rk:∀j,tb b j=true->∃oj e,ops[j]? =some oj/\e∈oj.after/\Region.binds md e=true/\(e.on=i\/tb b e.on=true))
  (hY:∀w,AC w->C8.run P w= .ok (.value v) w) (hI:∀lx w,A' (lx.setIfInBounds i true) w->A' lx w):
  ∀(fuel:Nat) (lx:Array Bool) (a:Act) (w:World),(∀j,tb b j=true->lx.getD j false=false)->
   (∀j oj,ops[j]? =some oj->j≠i->lx.getD j true=false->tb b j=false->oi.apart ops oj=true)->
   i∈Region.ready md ops lx->(Region.wanted oi (yielded ops a.tmps)=true/\execOp a.eval oi=C8)->
   qD P md ops Q (fun lx w=>A' lx w/\(mR ops b lx->AC w)) fuel (lx.setIfInBounds i true) (a.put oi.dst v) w->qD P md ops Q A' (fuel+1) lx a w:=by
 intro fuel;have run:∀(lx:Array Bool) (a:Act) (w:World),(∀j,tb b j=true->lx.getD j false=false)->(Region.wanted oi (yielded ops a.tmps)=true/\execOp a.eval oi=C8)->(A' (lx.setIfInBounds i true) w/\(mR ops b (lx.setIfInBounds i true)->AC w))->
   ∀F':Act->World->Prop,F' (a.put oi.dst v) w->wpOp P ops Q i F' a w:=fun lx a w Po hy hH F' hK=>by
  have hYw:=hH.2 ((jI D hR).2 fun k o Y _ _=>Po k Y);unfold wpOp;simp only[D,hy.1,if_true]
  refine .inl ?_;unfold Oper.wp;rw[hy.2,hY w hYw];exact hK
 induction fuel with
 |zero=>
  intro lx a w Po _ hr hy H;refine⟨hI _ _ H.1.1,fun h=>(by rw[h]at hr;cases hr),fun j hj=>?_⟩;by_cases Ol:j=i
  .subst Ol;exact run lx a w Po hy H.1 _ (ju (fun _ _ h=>h.1) 0 _ _ _ H)
  .have:=ready_mono hj Ol;rw[H.2.1]at this
   cases this
 |succ fuel ih=>
  intro lx a w Po Qa hr hy H;refine⟨hI _ _ H.1.1,fun h=>(by rw[h]at hr;cases hr),fun j hj=>?_⟩;by_cases Ol:j=i
  .subst Ol;exact run lx a w Po hy H.1 _ (ju (fun _ _ h=>h.1) (fuel+1) _ _ _ H)
  .have Y:=H.2.2 j (ready_mono hj Ol);obtain⟨TV,oj,QW,Q1⟩:=mem_ready.1 hj;have QG:tb b j=false:=by
    cases hb:tb b j with
    |false=>rfl
    |true=>
     exfalso;obtain⟨oj',e,RO,R,hbi,TG⟩:=Rk j hb;rw[QW]at RO;injection RO with RO;subst RO;have Y:=Q1 e R hbi;rcases TG with heq|QP
     .have h0:=(mem_ready.1 hr).1;rw[heq]at Y;rcases aR i lx.size with h'|h'
      .simp[h']at h0 Y;rw[h0]at Y;cases Y
      .simp[Array.getElem?_eq_none h']at Y
     .rw[Po _ QP]at Y;cases Y
   have X:=IC QW (Qa j oj QW Ol TV QG) (fun L b=>OY i oi L b D) (fun L b=>OY j oj L b QW) hQ hy Y;have hbl':∀k,tb b k=true->(lx.setIfInBounds j true).getD k false=false:=fun k E=>by
    rw[getD_set_ne false (fun e=>(by subst e;rw[QG]at E;cases E))];exact Po k E
   have SL:∀k ok,ops[k]? =some ok->k≠i->(lx.setIfInBounds j true).getD k true=false->tb b k=false->oi.apart ops ok=true:=fun k ok E hki TN Qm=>by
    refine Qa k ok E hki ?_ Qm;by_cases RR:j=k
    .subst RR;exact TV
    .rw[getD_set_ne true RR]at TN;exact TN
   refine wpOp_mono (fun a' J N=>?_) X;refine ih (lx.setIfInBounds j true) a' J hbl' SL (ready_mono hr (Ne.symm Ol)) N.1 ?_;rw[Array.setIfInBounds_comm _ _ Ol];exact N.2
end
structure Gh where
 u:Nat
 d:Nat
 T:Nat
 b:Nat
def Ck(τ:mS)(B:Nat):List Gh->Env->Hp->Nat->Iv->World->Prop->Prop
 |[],_,_,_,_,_,F'=>F'
 |g::r,l,H,nx,iv,w,F'=>match fO l g.u with
  |some su=>Ag τ B g.T su H nx iv w (fun v=>fO l g.d=some v/\Ck τ B r l H nx iv w F')
  |none=>False
inductive Tg where
 |nil
 |x (i:Nat) (t:Tg)
 |two (i:Nat) (t:Tg) (j:Nat) (u:Tg)
 |three (i:Nat) (t:Tg) (j:Nat) (u:Tg) (k:Nat) (v:Tg)
 |ld (i b:Nat) (t:Tg)
 |sD (id:Nat) (t:Tg)
def B7(j:Nat):List Gh->List Gh
 |[]=>[]
 |g::r=>match tb g.b j with
  |true=>B7 j r
  |false=>g::B7 j r
def stepG(τ:mS)(B:Nat)(rd:Bool)(Do:List Gh)(j:Nat)(l:Env)(H:Hp)(nx:Nat)(iv:Iv)(w:World)(F':List Gh->Prop):Prop:=match rd with
 |true=>F' Do
 |false=>Ck τ B (B7 j Do) l H nx iv w (F' (B7 j Do))
def EP(ops:Array Oper)(m i:Nat)(oi:Oper)(b:Nat):List Oper->Nat->Bool
 |[],_=>true
 |oj::r,j=>(Nat.beq j i||tb m j||tb b j||oi.apart ops oj)&&EP ops m i oi b r (j+1)
def Gy(m i u d:Nat):List Oper->Nat->Bool
 |[],_=>true
 |oj::r,j=>(tb m j||match oj.dst with
   |none=>true
   |some e=> !Nat.beq e u&&(Nat.beq j i|| !Nat.beq e d))&&Gy m i u d r (j+1)
def KP(o:Oper):Option (Nat×Nat×Nat):=match o with
 |⟨some d,.load T (.tmp u),_,_,_,none⟩=>some (d,T,u)
 |_=>none
def lJ(ops:Array Oper):Tg->Array Bool->Bool
 | .nil,lx=>(Region.ready .any ops lx).isEmpty
 | .x i t,lx=>match ops[i]? with
  |none=>false
  |some o=>(Region.ready .any ops lx).contains i&&((Region.ready .any ops lx).all (fun j=>Nat.beq j i)||HB o.op&&o.guard.isNone&&EP ops (iJ lx.toList 0) i o (zm (iJ lx.toList 0) i ops.toList 0 0) ops.toList 0)&&lJ ops t (lx.setIfInBounds i true)
 | .two i t j u,lx=>match Region.ready .any ops lx with
  |[a,b]=>Nat.beq a i&&(Nat.beq b j&&(lJ ops t (lx.setIfInBounds i true)&&lJ ops u (lx.setIfInBounds j true)))
  |_=>false
 | .three i t j u k v,lx=>match Region.ready .any ops lx with
  |[a,b,c]=>Nat.beq a i&&(Nat.beq b j&&(Nat.beq c k&&(lJ ops t (lx.setIfInBounds i true)&&(lJ ops u (lx.setIfInBounds j true)&&lJ ops v (lx.setIfInBounds k true)))))
  |_=>false
 | .ld i b t,lx=>match ops[i]? with
  |none=>false
  |some o=>match KP o with
   |none=>false
   |some (d,_,u)=>(Region.ready .any ops lx).contains i&&Nat.beq b (zm (iJ lx.toList 0) i ops.toList 0 0)&&EP ops (iJ lx.toList 0) i o b ops.toList 0&&Gy (iJ lx.toList 0) i u d ops.toList 0&&lJ ops t (lx.setIfInBounds i true)
 | .sD _ t,lx=>lJ ops t lx
def AX(P:Program)(τ:mS)(B:Nat)(all:List Oper):Tg->List Gh->Env->Hp->Nat->Iv->World->KT->Prop
 | .nil,_,l,H,nx,iv,w,F'=>F' l H nx iv w
 | .x i t,Do,l,H,nx,iv,w,F'=>rG all i (fun o=>ga (!fe o) P τ B all o l H nx iv w (fun l' H' OF K J=>stepG τ B (uD o.op) Do i l' H' OF K J (fun G'=>AX P τ B all t G' l' H' OF K J F')))
 | .two i t j u,Do,l,H,nx,iv,w,F'=>rG all i (fun o=>ga (!fe o) P τ B all o l H nx iv w (fun l' H' OF K J=>stepG τ B (uD o.op) Do i l' H' OF K J (fun G'=>AX P τ B all t G' l' H' OF K J F')))/\
   rG all j (fun o=>ga (!fe o) P τ B all o l H nx iv w (fun l' H' OF K J=>stepG τ B (uD o.op) Do j l' H' OF K J (fun G'=>AX P τ B all u G' l' H' OF K J F')))
 | .three i t j u k v,Do,l,H,nx,iv,w,F'=>rG all i (fun o=>ga (!fe o) P τ B all o l H nx iv w (fun l' H' OF K J=>stepG τ B (uD o.op) Do i l' H' OF K J (fun G'=>AX P τ B all t G' l' H' OF K J F')))/\
   (rG all j (fun o=>ga (!fe o) P τ B all o l H nx iv w (fun l' H' OF K J=>stepG τ B (uD o.op) Do j l' H' OF K J (fun G'=>AX P τ B all u G' l' H' OF K J F')))/\
   rG all k (fun o=>ga (!fe o) P τ B all o l H nx iv w (fun l' H' OF K J=>stepG τ B (uD o.op) Do k l' H' OF K J (fun G'=>AX P τ B all v G' l' H' OF K J F'))))
 | .ld i b t,Do,l,H,nx,iv,w,F'=>rG all i (fun o=>match KP o with
  |some (d,T,u)=>match fO l u with
   |some su=>Ag τ B T su H nx iv w (fun v=>AX P τ B all t (⟨u,d,T,b⟩::Do) ((d,v)::l) H nx iv w F')
   |none=>False
  |none=>False)
 | .sD id t,Do,l,H,nx,iv,w,F'=>∃H' b,cw H id=some b/\b≠ .dead/\wN H H'/\DB id H'=true/\∀O J,Rel H nx iv B w O J->(O id).nil=false/\∃l',(∀u v,fO l' u=some v->v.sc nx/\∃v',fO l u=some v'/\v'.den O=v.den O)/\AX P τ B all t Do l' H' nx (((O id).g,(O id).g+1)::iv) J F'
section
variable{P:Program}{τ:mS}{ops:Array Oper}{B n nx:Nat}{l:Env}{H:Hp}{iv:Iv}{w J:World}{O:Nat->Sx.da}{a:Act}
theorem NO(hτ:fQ P τ){o:Oper}(ho:ops[i]? =some o)(hd:∀d,o.dst=some d->d<n){F':KT}
  (Y:ga (!fe o) P τ B ops.toList o l H nx iv w F') (sat:Sat n l H nx iv B w O a J)
  (Z:∀l' H' OF K I G8 x w3,F' l' H' OF K I->Sat n l' H' OF K B I G8 (a.put o.dst x) w3->(uD o.op=true->w3=J)->next (a.put o.dst x) w3):
  wpOp P ops Q i next a J:=by
 unfold ga at Y;refine oc ho ?_;rcases kK sat Y with⟨V,l1,X,sat1⟩|⟨V,l1,X,sat1⟩
 .refine .inl ⟨V,?_⟩
  cases hR:uD o.op with
  |true=>
   obtain⟨v,hK,QX,OI⟩:=(lM hτ X sat1 hR).resolve_right (fun hh=>by have:=hh.1;rw[rJ hR]at this;cases this);obtain⟨l2,N,sat2⟩:=gv sat1 hK hd QX;exact mE (OI J (.inr sat1.rel)) (Z _ _ _ _ _ _ _ _ N sat2 fun _=>rfl)
  |false=>
   have nr:∀w3:World,uD o.op=true->w3=J:=fun w3 h=>by rw[hR]at h;cases h
   cases hA:KR o.op with
   |true=>
    obtain⟨b,v,mk,obj,hK,PX,hb,hv,UJ,PU,UK⟩:=my hτ X sat1 hA;have Oe:Rel ((nx,b)::H) (nx+1) iv B w (Sx.gR O nx ⟨J.heap.size,0,false⟩) (J.alloc obj):=
     sat1.rel.push b _ rfl rfl rfl bv (fun k E=>heap_alloc_old _ _ E) (fun _=>⟨lr,bv⟩) (PU _ _ (heap_alloc_new _ _)) hb
    obtain⟨l2,N,sat2⟩:=gv (sat1.next Oe (Nat.le_succ _) (fun id Oh=>gS id Oh)) hK hd hv;rw[UJ]at sat2;exact mE (v:=mk J.heap.size) (I:=J.alloc obj) (UK J) (Z _ _ _ _ _ _ _ _ N sat2 (by rw[hR];exact fun h=>by cases h))
   |false=>
    cases hH:qY o with
    |false=>
     rw[qc hH]at X;refine x7 X sat1 hR hA hH fun v I hK R hs=>?_;obtain⟨l2,N,sat2⟩:=gv (v:=.o (.v v)) hs hK hd trivial;exact Z _ _ _ _ _ _ _ _ N sat2 (by rw[hR];exact fun h=>by cases h)
    |true=>
     refine mz hτ X sat1 fun v H' OF K I G8 w3 hK sat2 hv=>?_;obtain⟨l2,N,sat3⟩:=gv sat2 hK hd hv;exact Z _ _ _ _ _ _ _ _ N sat3 (by rw[hR];exact fun h=>by cases h)
 .obtain⟨l2,h4,sat3⟩:=gv sat1 X hd trivial;exact .inr ⟨V,Z _ _ _ _ _ _ _ _ h4 sat3 fun _=>rfl⟩
theorem wL(hτ:fQ P τ)(sat:Sat n l H nx iv B w O a J){F':Prop}:∀(Do:List Gh),Ck τ B Do l H nx iv w F'->
  F'/\∀g∈Do,∃su sv,fO l g.u=some su/\fO l g.d=some sv/\(Instr.loadAt g.T (su.den O)).run P J= .ok (sv.den O) J
 |[],h=>⟨h,fun g F=>by cases F⟩
 |g::r,h=>by
  unfold Ck at h;split at h
  .rename_i su hsu;obtain⟨v,⟨Y,X⟩,hv,OI⟩:=nE hτ sat.rel (sat.sc _ _ hsu) h;obtain⟨N,h4⟩:=wL hτ sat r X;refine⟨N,fun g' F=>?_⟩;rcases List.mem_cons.1 F with rfl|F
   .exact⟨su,v,hsu,Y,OI J sat.rel⟩
   .exact h4 g' F
  .exact h.elim
theorem qX{j:Nat}{g:Gh}:∀{Do:List Gh},g∈Do->tb g.b j=false->g∈B7 j Do
 |g'::r,h,hb=>by
  unfold B7;rcases List.mem_cons.1 h with rfl|h
  .rw[hb];exact aI
  .split
   .exact qX h hb
   .exact aA _ (qX h hb)
abbrev Zh:=Gh×Value×Value
def Yz(P:Program)(z:Zh)(w:World):Prop:=(Instr.loadAt z.1.T z.2.1).run P w= .ok z.2.2 w
structure Mg(ops:Array Oper)(la:Array Bool)(a:Act)(z:Zh):Prop where
 u:a.tmps[z.1.u]? =some z.2.1
 d:a.tmps[z.1.d]? =some z.2.2
 no:∀(j:Nat) oj,ops[j]? =some oj->la.getD j false=false->oj.dst≠some z.1.u/\oj.dst≠some z.1.d
theorem Mg.step{z:Zh}{oj:Oper}{x:Value}(h:Mg ops la a z)(hj:ops[j]? =some oj)(hl:la.getD j false=false):Mg ops (la.setIfInBounds j true) (a.put oj.dst x) z:=by
 obtain⟨Y,X⟩:=h.no j oj hj hl;refine⟨qF Y h.u,qF X h.d,fun k ok E hlk=>h.no k ok E ?_⟩;by_cases RR:j=k
 .subst RR;exact hl
 .rwa [getD_set_ne false RR]at hlk
def IZ(P:Program)(ops:Array Oper)(EQ:List Zh)(lx:Array Bool)(w:World):Prop:=∀z∈EQ,mR ops z.1.b lx->Yz P z w
theorem uB(h:i∈Region.ready .any ops la):la.getD i false=false:=by
 have:=(eR.1 h).1;rw[ah,this];rfl
theorem oD{o:Oper}(ho:ops[i]? =some o)(hl:la[i]? =some false)(h:mR ops b (la.setIfInBounds i true)):mR ops b la/\(uD o.op=false->tb b i=false):=by
 refine⟨fun k ok Y X N=>?_,fun hR=>?_⟩
 .by_cases hik:i=k
  .subst hik;rw[ah,hl];rfl
  .rw[<-getD_set_ne false hik];exact h k ok Y X N
 .cases hb:tb b i with
  |false=>rfl
  |true=>
   have:=h i o hb ho hR;have D:=(bA.1 hl).1;rw[ah,Array.getElem?_setIfInBounds_self_of_lt D]at this
   cases this
theorem B8(hτ:fQ P τ){o:Oper}{Do:List Gh}{EQ:List Zh}(ho:ops[i]? =some o)(hd:∀d,o.dst=some d->d<n)(hr:i∈Region.ready .any ops la){F':Env->Hp->Nat->Iv->World->List Gh->Prop}
  (Y:ga (!fe o) P τ B ops.toList o l H nx iv w (fun l' H' OF K J=>stepG τ B (uD o.op) Do i l' H' OF K J (F' l' H' OF K J))) (sat:Sat n l H nx iv B w O a J)
  (hG:∀z∈EQ,mR ops z.1.b la->z.1∈Do) (hZ:∀z∈EQ,Mg ops la a z) (hI:IZ P ops EQ la J)
  (Z:∀l' H' OF K I G8 x w3 G',F' l' H' OF K I G'->Sat n l' H' OF K B I G8 (a.put o.dst x) w3->(∀z∈EQ,mR ops z.1.b (la.setIfInBounds i true)->z.1∈G')->(∀z∈EQ,Mg ops (la.setIfInBounds i true) (a.put o.dst x) z)->IZ P ops EQ (la.setIfInBounds i true) w3->next (a.put o.dst x) w3):
  wpOp P ops Q i next a J:=by
 have hl:=(eR.1 hr).1;refine NO hτ ho hd Y sat fun l' H' OF K I G8 x w3 hK sat2 V=>?_;have hZ2:∀z∈EQ,Mg ops (la.setIfInBounds i true) (a.put o.dst x) z:=fun z hz=>(hZ z hz).step ho (uB hr)
 cases hR:uD o.op with
 |true=>
  rw[hR]at hK;have V:=V hR;subst V;refine Z _ _ _ _ _ _ _ _ Do hK sat2 (fun z hz h=>hG z hz (oD ho hl h).1) hZ2 fun z hz h=>hI z hz (oD ho hl h).1
 |false=>
  rw[hR]at hK;obtain⟨X,N⟩:=wL hτ sat2 _ hK;refine Z _ _ _ _ _ _ _ _ _ X sat2 (fun z hz h=>?_) hZ2 fun z hz h=>?_
  .obtain⟨k1,k2⟩:=oD ho hl h;exact qX (hG z hz k1) (k2 hR)
  .obtain⟨k1,k2⟩:=oD ho hl h;obtain⟨su,sv,e1,e2,e3⟩:=N z.1 (qX (hG z hz k1) (k2 hR));have h4:=sat2.env _ _ e1;have h5:=sat2.env _ _ e2;rw[(hZ2 z hz).u]at h4;rw[(hZ2 z hz).d]at h5;injection h4 with h4;injection h5 with h5;unfold Yz;rw[h4,h5];exact e3
end
section
variable{P:Program}{τ:mS}{ops:Array Oper}{B n nx:Nat}{l:Env}{H:Hp}{iv:Iv}{w J:World}{O:Nat->Sx.da}{a:Act}
theorem sM{m i b:Nat}{oi:Oper}:∀(l:List Oper) (k:Nat),EP ops m i oi b l k=true->∀(j:Nat) oj,l[j]? =some oj->k+j≠i->tb m (k+j)=false->tb b (k+j)=false->oi.apart ops oj=true
 |[],_,_,j,oj,h,_,_,_=>by cases h
 |o::r,k,h,j,oj,hj,Y,X,N=>by
  simp only[EP,ai,Bool.or_eq_true]at h
  cases j with
  |zero=>
   injection hj with hj;subst hj;rcases h.1 with((h4|h4)|h4)|h4
   .exact absurd (bQ h4) Y
   .rw[cC]at X;rw[X]at h4;cases h4
   .rw[cC]at N;rw[N]at h4;cases h4
   .exact h4
  |succ j=>
   have e:k+(j+1)=k+1+j:=by omega
   rw[e]at Y X N;exact sM r (k+1) h.2 j oj (by simpa using hj) Y X N
theorem zl{m i u d:Nat}:∀(l:List Oper) (k:Nat),Gy m i u d l k=true->∀(j:Nat) oj,l[j]? =some oj->tb m (k+j)=false->oj.dst≠some u/\(k+j≠i->oj.dst≠some d)
 |[],_,_,j,oj,h,_=>by cases h
 |o::r,k,h,j,oj,hj,X=>by
  simp only[Gy,ai,Bool.or_eq_true]at h
  cases j with
  |zero=>
   injection hj with hj;subst hj;rcases h.1 with h4|h4
   .rw[cC]at X;rw[X]at h4;cases h4
   .cases ho:o.dst with
    |none=>exact⟨bv,bv⟩
    |some e=>
     rw[ho]at h4;simp only[ai,Bool.not_eq_true',Bool.or_eq_true]at h4;refine⟨fun hh=>?_,fun OB hh=>?_⟩
     .injection hh with hh;subst hh;have:=h4.1;simp at this
     .injection hh with hh;subst hh;rcases h4.2 with h5|h5
      .exact OB (bQ h5)
      .simp at h5
  |succ j=>
   have e:k+(j+1)=k+1+j:=by omega
   rw[e]at X ⊢;exact zl r (k+1) h.2 j oj (by simpa using hj) X
theorem ID{o:Oper}{d T u:Nat}(h:KP o=some (d,T,u)):o.dst=some d/\o.op= .load T (.tmp u)/\o.guard=none:=by
 unfold KP at h;split at h
 .injection h with h;injection h with Y X;injection X with X N;subst Y X N;exact⟨rfl,rfl,rfl⟩
 .cases h
theorem jB(hτ:fQ P τ)(OE:∀(j:Nat) o,ops[j]? =some o->∀d,o.dst=some d->d<n)(OY:∀(j:Nat) (o:Oper) L b,ops[j]? =some o->o.op≠ .select L b){F':KT}{Q0:Act->World->Prop}
  (hQ:∀l' H' OF K I G8 a' w3,F' l' H' OF K I->Sat n l' H' OF K B I G8 a' w3->Q0 a' w3):
  ∀(t:Tg) (fuel:Nat) (la:Array Bool) (l:Env) (H:Hp) (nx:Nat) (iv:Iv) (w:World) (O:Nat->Sx.da) (a:Act) (J:World) (Do:List Gh) (EQ:List Zh),Lt la<=fuel->la.size=ops.size->lJ ops t la=true->AX P τ B ops.toList t Do l H nx iv w F'->Sat n l H nx iv B w O a J->
   (∀z∈EQ,mR ops z.1.b la->z.1∈Do)->(∀z∈EQ,Mg ops la a z)->IZ P ops EQ la J->qD P .any ops (QN Q0) (IZ P ops EQ) fuel la a J
 | .nil,fuel,la,l,H,nx,iv,w,O,a,J,Do,EQ,_,_,hc,h,s,hG,hZ,hI=>by
  simp only[lJ,List.isEmpty_iff]at hc;exact EO hI hc ⟨rfl,hQ _ _ _ _ _ _ _ _ h s⟩ fuel
 | .x i t,fuel,la,l,H,nx,iv,w,O,a,J,Do,EQ,hf,hz,hc,h,s,hG,hZ,hI=>by
  unfold lJ at hc;obtain⟨o,ho,Y⟩:=gQ h;rw[bE]at ho;simp only[ho,ai,Bool.or_eq_true]at hc;obtain⟨⟨c1,c2⟩,c3⟩:=hc;have c1:i∈Region.ready .any ops la:=by simpa using c1
  obtain⟨Q9,-⟩:=eR.1 c1;have TN:=kJ Q9;obtain⟨f,rfl⟩:∃f,fuel=f+1:=⟨fuel-1,be⟩
  have OQ:(la.setIfInBounds i true).size=ops.size:=by rw[bX,hz]
  rcases c2 with c2|⟨⟨hP,Qr⟩,c4⟩
  .refine⟨hI,fun h0=>(by rw[h0]at c1;cases c1),fun j hj=>?_⟩;have Ol:j=i:=eG (List.all_eq_true.1 c2 j hj);subst Ol;exact B8 hτ ho (OE j o ho) c1 Y s hG hZ hI fun _ _ _ _ _ _ _ _ G' E hs Tu Tv Tw=>jB hτ OE OY hQ t f _ _ _ _ _ _ _ _ _ G' EQ be OQ c3 E hs Tu Tv Tw
  .have hR:uD o.op=true:=by
    unfold HB at hP;split at hP
    .cases hP
    .exact hP
   have hm:=xF la;have hb:=mV (ops:=ops) (m:=iJ la.toList 0) (i:=i) ops.toList 0 0 (fun n o Z=>by rw[aX];rwa [bE]at Z) (fun j hj=>by rw[sQ]at hj;cases hj);generalize zm (iJ la.toList 0) i ops.toList 0 0=b at*
   have SJ:o.guard=none:=by simpa using Qr
   unfold ga sR at Y;rw[SJ]at Y;obtain⟨v,hK,QX,OI⟩:=(lM hτ Y s hR).resolve_right (fun hh=>by have:=hh.1;rw[rJ hR]at this;cases this);obtain⟨l2,N,sat2⟩:=gv s hK (OE i o ho) QX;rw[hR]at N;have V:Region.wanted o (yielded ops a.tmps)=true:=by simp[Region.wanted,SJ]
   refine uA (v:=v.den O) (b:=b) (AC:=fun _=>True) (C8:=execOp a.eval o) ho hR OY (fun c a w hq=>absurd hq.1 bv) (fun j hj=>(hb j hj).2.2) (fun w3 _=>OI w3 (.inl hP)) (fun lx w h z hz ha=>h z hz ((jI ho hR).2 ha))
    f la a J (fun j hj=>(hm j).symm.trans (hb j hj).1) (fun j oj QW Ol hl E=>sM ops.toList 0 c4 j oj (by rw[bE];exact QW) be (by
     have hj:=(bA.1 QW).1
     rw[aX,hm,mT be false true];exact hl) (by rw[aX];exact E)) c1 ⟨V,rfl⟩ ?_
   refine ju (fun lx w h=>⟨h,fun _=>trivial⟩) _ _ _ _ ?_;exact jB hτ OE OY hQ t f _ _ _ _ _ _ _ _ _ Do EQ be OQ c3 N sat2 (fun z hz h=>hG z hz ((jI ho hR).1 h)) (fun z hz=>(hZ z hz).step ho (uB c1)) (fun z hz h=>hI z hz ((jI ho hR).1 h))
 | .two i t k u,fuel,la,l,H,nx,iv,w,O,a,J,Do,EQ,hf,hz,hc,h,s,hG,hZ,hI=>by
  simp only[lJ]at hc;split at hc
  .rename_i x y hr;simp only[ai]at hc;obtain⟨c1,c2,c3,c4⟩:=hc;have G:=bQ c1;have hy:=bQ c2;subst G;subst hy;obtain⟨Y,X⟩:=h;obtain⟨o1,UH,Y⟩:=gQ Y;obtain⟨o2,Sp,X⟩:=gQ X;rw[bE]at UH Sp;have SB:x∈Region.ready .any ops la:=by rw[hr];simp
   have VH:y∈Region.ready .any ops la:=by rw[hr];simp
   have u1:=kJ (eR.1 SB).1;have u2:=kJ (eR.1 VH).1;obtain⟨f,rfl⟩:∃f,fuel=f+1:=⟨fuel-1,be⟩
   refine⟨hI,fun h0=>(by rw[hr]at h0;cases h0),fun j hj=>?_⟩;rw[hr,List.mem_cons,bJ]at hj;rcases hj with rfl|rfl
   .exact B8 hτ UH (OE _ o1 UH) SB Y s hG hZ hI fun _ _ _ _ _ _ _ _ G' E hs Tu Tv Tw=>jB hτ OE OY hQ t f _ _ _ _ _ _ _ _ _ G' EQ be (by rw[bX,hz]) c3 E hs Tu Tv Tw
   .exact B8 hτ Sp (OE _ o2 Sp) VH X s hG hZ hI fun _ _ _ _ _ _ _ _ G' E hs Tu Tv Tw=>jB hτ OE OY hQ u f _ _ _ _ _ _ _ _ _ G' EQ be (by rw[bX,hz]) c4 E hs Tu Tv Tw
  .cases hc
 | .three i t k u m v,fuel,la,l,H,nx,iv,w,O,a,J,Do,EQ,hf,hz,hc,h,s,hG,hZ,hI=>by
  simp only[lJ]at hc;split at hc
  .rename_i x y z9 hr;simp only[ai]at hc;obtain⟨c1,c2,c6,c3,c4,c5⟩:=hc;have G:=bQ c1;have hy:=bQ c2;have hz9:=bQ c6;subst G;subst hy;subst hz9;obtain⟨Y,X,N⟩:=h;obtain⟨o1,UH,Y⟩:=gQ Y;obtain⟨o2,Sp,X⟩:=gQ X;obtain⟨o3,ho3,N⟩:=gQ N;rw[bE]at UH Sp ho3;have SB:x∈Region.ready .any ops la:=by rw[hr];simp
   have VH:y∈Region.ready .any ops la:=by rw[hr];simp
   have hm3:z9∈Region.ready .any ops la:=by rw[hr];simp
   have u1:=kJ (eR.1 SB).1;have u2:=kJ (eR.1 VH).1;have u3:=kJ (eR.1 hm3).1;obtain⟨f,rfl⟩:∃f,fuel=f+1:=⟨fuel-1,be⟩
   refine⟨hI,fun h0=>(by rw[hr]at h0;cases h0),fun j hj=>?_⟩;rw[hr,List.mem_cons,List.mem_cons,bJ]at hj;rcases hj with rfl|rfl|rfl
   .exact B8 hτ UH (OE _ o1 UH) SB Y s hG hZ hI fun _ _ _ _ _ _ _ _ G' E hs Tu Tv Tw=>jB hτ OE OY hQ t f _ _ _ _ _ _ _ _ _ G' EQ be (by rw[bX,hz]) c3 E hs Tu Tv Tw
   .exact B8 hτ Sp (OE _ o2 Sp) VH X s hG hZ hI fun _ _ _ _ _ _ _ _ G' E hs Tu Tv Tw=>jB hτ OE OY hQ u f _ _ _ _ _ _ _ _ _ G' EQ be (by rw[bX,hz]) c4 E hs Tu Tv Tw
   .exact B8 hτ ho3 (OE _ o3 ho3) hm3 N s hG hZ hI fun _ _ _ _ _ _ _ _ G' E hs Tu Tv Tw=>jB hτ OE OY hQ v f _ _ _ _ _ _ _ _ _ G' EQ be (by rw[bX,hz]) c5 E hs Tu Tv Tw
  .cases hc
 | .ld i b t,fuel,la,l,H,nx,iv,w,O,a,J,Do,EQ,hf,hz,hc,h,s,hG,hZ,hI=>by
  unfold lJ at hc;obtain⟨o,ho,Y⟩:=gQ h;rw[bE]at ho;simp only[ho]at hc
  cases RE:KP o with
  |none=>rw[RE]at hc;cases hc
  |some q=>
   obtain⟨d,T,u⟩:=q;rw[RE]at hc Y;simp only[ai]at hc;obtain⟨⟨⟨⟨c1,c2⟩,c4⟩,c5⟩,c3⟩:=hc;obtain⟨e1,e2,e3⟩:=ID RE;have c1:i∈Region.ready .any ops la:=by simpa using c1
   obtain⟨Q9,-⟩:=eR.1 c1;have TN:=kJ Q9;obtain⟨f,rfl⟩:∃f,fuel=f+1:=⟨fuel-1,be⟩
   have OQ:(la.setIfInBounds i true).size=ops.size:=by rw[bX,hz]
   have hR:uD o.op=true:=by rw[e2];rfl
   have hm:=xF la;have hb:=mV (ops:=ops) (m:=iJ la.toList 0) (i:=i) ops.toList 0 0 (fun n o Z=>by rw[aX];rwa [bE]at Z) (fun j hj=>by rw[sQ]at hj;cases hj);rw[<-bQ c2]at hb
   cases hsu:fO l u with
   |none=>simp only[hsu]at Y
   |some su=>
    simp only[hsu]at Y;obtain⟨v,hK,QX,OI⟩:=nE hτ s.rel (s.sc _ _ hsu) Y;have hau:=s.env _ _ hsu;have Tx:=OE i o ho d e1;have sat2:Sat n ((d,v)::l) H nx iv B w O (a.put o.dst (v.den O)) J:=by rw[e1];exact s.put Tx QX
    have V:Region.wanted o (yielded ops a.tmps)=true:=by simp[Region.wanted,e3]
    have Pz:a.eval (.tmp u)=su.den O:=by rw[Act.eval,ah,hau];rfl
    have hui:tb (iJ la.toList 0) i=false:=by rw[hm];exact uB c1
    have Qm:=zl ops.toList 0 c5;refine uA (v:=v.den O) (b:=b) (AC:=Yz P (⟨u,d,T,b⟩,su.den O,v.den O)) (C8:=execOp a.eval o) ho hR OY (fun c a w hq=>absurd hq.1 bv) (fun j hj=>(hb j hj).2.2) (fun w3 hY=>?_) (fun lx w h z hz ha=>h z hz ((jI ho hR).2 ha))
     f la a J (fun j hj=>(hm j).symm.trans (hb j hj).1) (fun j oj QW Ol hl E=>sM ops.toList 0 c4 j oj (by rw[bE];exact QW) be (by
      have hj:=(bA.1 QW).1
      rw[aX,hm,mT be false true];exact hl) (by rw[aX];exact E)) c1 ⟨V,rfl⟩ ?_
    .unfold Yz at hY;obtain⟨dst,op,ty,pos,after,guard⟩:=o;simp only at e2;subst e2;simp only[execOp,Pz]
     exact lO hY
    .refine ju (A':=IZ P ops ((⟨u,d,T,b⟩,su.den O,v.den O)::EQ)) (fun lx w h=>⟨fun z hz=>h z (aA _ hz),h _ aI⟩) _ _ _ _ ?_;refine jB hτ OE OY hQ t f _ _ _ _ _ _ _ _ _ (⟨u,d,T,b⟩::Do) ((⟨u,d,T,b⟩,su.den O,v.den O)::EQ) be OQ c3 hK sat2 (fun z hz h=>?_) (fun z hz=>?_) (fun z hz h=>?_)
     .rcases List.mem_cons.1 hz with rfl|hz
      .exact aI
      .exact aA _ (hG z hz ((jI ho hR).1 h))
     .rcases List.mem_cons.1 hz with rfl|hz
      .have h7:=(Qm i o (by rw[bE];exact ho) (by rw[aX];exact hui)).1;refine⟨qF h7 hau,?_,fun j oj QW Sl=>?_⟩
       .rw[e1];show(a.tmps.setIfInBounds d _)[d]? =_;rw[Array.getElem?_setIfInBounds_self_of_lt (by rw[s.size];exact Tx)]
       .have Ol:i≠j:=fun e=>by
         subst e;have D:=(bA.1 Q9).1;rw[ah,Array.getElem?_setIfInBounds_self_of_lt D]at Sl
         cases Sl
        rw[getD_set_ne false Ol]at Sl;obtain⟨k1,k2⟩:=Qm j oj (by rw[bE];exact QW) (by rw[aX,hm];exact Sl);exact⟨k1,k2 be⟩
      .exact(hZ z hz).step ho (uB c1)
     .rcases List.mem_cons.1 hz with rfl|hz
      .exact OI J s.rel
      .exact hI z hz ((jI ho hR).1 h)
 | .sD id t,fuel,la,l,H,nx,iv,w,O,a,J,Do,EQ,hf,hz,hc,h,s,hG,hZ,hI=>by
  obtain⟨H',b,Oh,hd,hs,ho,h⟩:=h;obtain⟨Z,l',hl,h⟩:=h _ _ s.rel;exact jB hτ OE OY hQ t fuel la l' H' nx _ J O a J Do EQ hf hz hc h ⟨s.rel.free Oh hd Z hs ho,s.size,s.defers,fun u v hv=>by obtain⟨-,v',Y,X⟩:=hl u v hv;rw[<-X];exact s.env u v' Y,fun u v hv=>(hl u v hv).1⟩ hG hZ hI
theorem gH(hτ:fQ P τ)(hm:P.follows .mixedOrders=true){F':KT}(t:Tg)(hs:Region.noSelect ops=true)(hc:lJ ops t (Array.replicate ops.size false)=true)
  (h:AX P τ B ops.toList t [] l H nx iv w F'):uF P B ops l H nx iv w F':=by
 refine⟨fun n O a J OE sat Q hQ id=>?_⟩;refine wp_mono (Q':=Q) (c:=.region id ops true) (wp_region_any (Q:=QN (Q .normal)) hm (zk (A':=IZ P ops []) _ _ _ _ ?_)) (fun e a w hq=>by obtain⟨rfl,hq⟩:=hq;exact hq);refine jB (Q0:=Q .normal) hτ (fun j o ho d hd=>?_) (Region.noSelect_spec hs) hQ t _ _ _ _ _ _ _ O _ _ [] [] ?_ bv hc h ⟨sat.rel.drew,sat.size,sat.defers,sat.env,sat.sc⟩ (fun z hz=>by cases hz) (fun z hz=>by cases hz) (fun z hz=>by cases hz)
 .have:=List.all_eq_true.1 OE o (aG (by rw[bE];exact ho));rw[hd]at this;have h5:d+1<=n:=by simpa [Nat.blt]using this
  exact h5
 .unfold Lt;refine bB List.countP_le_length ?_;simp
end
theorem JZ{α:Type}(a b:α){c:Nat}(h:i<c):(List.replicate i a++List.replicate (c-i) b).take i++[a]++(List.replicate i a++List.replicate (c-i) b).drop (i+1)=List.replicate (i+1) a++List.replicate (c-(i+1)) b:=by
 rw[List.take_left' (bK ..),List.drop_append,bK,List.drop_of_length_le (by rw[bK];omega),List.nil_append,List.drop_replicate,List.replicate_succ'];congr 2;omega
def kU(w:World)(C S:Nat->Prop)(v:Value)(M:List (List Rat)):Prop:=∃rv,jW w C 1 v rv M.length/\rv.length=M.length/\∀(i:Nat) u x,rv[i]? =some u->M[i]? =some x->cP w S u x
theorem kU.shape(h:kU w C S v M):∃a c,v= .slice a M.length c/\M.length<=c/\M.length<=maxLen:=by
 obtain⟨rv,⟨h0,_,_,a,c,Y,X,_⟩,_⟩:=h;exact⟨a,c,Y,X,h0⟩
theorem kU.load{a:Option Addr}{m c:Nat}{x:List Rat}(h:kU w C S (.slice a m c) M)(hq:M[j]? =some x):
  ∃ad u,a=some ad/\cP w S u x/\C ad.block/\w.cell? (ad.add (j*1))=some u:=by
 obtain⟨rv,⟨h0,Y,X,a',c',e,N,h4⟩,hl,hf⟩:=h;injection e with e1 e2 e3;subst e1;obtain⟨u,hu⟩:∃u,rv[j]? =some u:=⟨_,aB (by rw[hl];exact(aD.1 hq).1)⟩
 obtain⟨ad,k1,k2,k3⟩:=h4 j u hu;exact⟨ad,u,k1,hf j u x hu hq,k2,by rw[aw];exact k3⟩
def KX:Option Nat->Value
 |none=>iV (-1)
 |some j=>iV (j:Int)
structure CI(M:List (List Rat))(cols h:Nat):Prop where
 rows:∀i,i<=M.length->∀r∈(g8 M cols i).1,∀q∈r,rl q+1<=h
 lK:∀i,i<M.length->∀k,k<=cols->∀q∈fW (g8 M cols i).1 (g8 M cols i).2.1 (M.getD i []) k,rl q+1<=h
theorem zQ{k:Nat}(h:at_[k]? =some (some j)):fW Fd at_ row (k+1)=lQ (fW Fd at_ row k) (Fd.getD j []) ((fW Fd at_ row k).getD k 0):=by
 rw[fW,show at_.getD k none=some j by rw[List.getD,h];rfl]
theorem FK{k:Nat}(h:at_[k]? =some none):fW Fd at_ row (k+1)=fW Fd at_ row k:=by
 rw[fW,show at_.getD k none=none by rw[List.getD,h];rfl]
theorem Ja{α:Type}{l:List α}(a b:α)(h:j<l.length):(l++[a]).set j b=l.set j b++[a]:=by rw[List.set_append,aH h]
theorem FL{x:List Rat}(Py:(Fd,at_,fr)=g8 M cols i)(G:M.getD i []=x)(hy:fW Fd at_ x cols=y)(hp:s9 y cols=cols):(Fd,at_,fr)=g8 M cols (i+1):=by
 rw[g8,<-Py,G,je];simp only[hy,hp,if_true]
theorem FM{p:Nat}{x:List Rat}(Py:(Fd,at_,fr)=g8 M cols i)(G:M.getD i []=x)(hy:fW Fd at_ x cols=y)(hp:s9 y cols=p)(OB:p≠cols):
  g8 M cols (i+1)=(fq Fd (y.map (· / y.getD p 0)) p Fd.length++[y.map (· / y.getD p 0)],at_.set p (some Fd.length),fr++[i]):=by
 rw[g8,<-Py,G,je];simp only[hy,hp,aF OB]
theorem Jb(q:Rat)(y:List Rat):g9 y.length (fun _ r=>r / q) y=y.map (· / q):=by
 rw[uu];exact bY fun j=>by rw[List.getElem?_mapIdx,aO]
theorem FN{p:Nat}(h:Fd[i]? =some r)(h0:r.getD p 0=0):fq Fd u p (i+1)=fq Fd u p i:=by
 rw[yD h,h0,yC];refine bY fun j=>?_;by_cases hj:i=j
 .subst hj;rw[aW (by rw[fZ];exact(aD.1 h).1),DR h]
 .rw[bC hj]
def kG(rv:List Value)(at_:List (Option Nat)):Nat->List Value
 |0=>[]
 |k+1=>match at_.getD k none with
  |some r=>kG rv at_ k++[rv.getD r (.bool false)]
  |none=>kG rv at_ k
theorem lu{k:Nat}(h:s.2.1[k]? =some none):cZ s (k+1)=cZ s k:=by
 rw[cZ,show s.2.1.getD k none=none by rw[List.getD,h];rfl]
theorem lz{k r:Nat}(h:s.2.1[k]? =some (some r)):cZ s (k+1)=((cZ s k).1++[s.1.getD r []],(cZ s k).2.1++[k],(cZ s k).2.2++[s.2.2.getD r 0]):=by
 rw[cZ,show s.2.1.getD k none=some r by rw[List.getD,h];rfl]
theorem sB{k:Nat}(h:at_[k]? =some none):kG rv at_ (k+1)=kG rv at_ k:=by
 rw[kG,show at_.getD k none=none by rw[List.getD,h];rfl]
theorem sC{k r:Nat}(h:at_[k]? =some (some r)):kG rv at_ (k+1)=kG rv at_ k++[rv.getD r (.bool false)]:=by
 rw[kG,show at_.getD k none=some r by rw[List.getD,h];rfl]
theorem te(s:wQ)(rv:List Value):∀k,k<=s.2.1.length->(cZ s k).1.length=(cZ s k).2.1.length/\(cZ s k).2.2.length=(cZ s k).2.1.length/\(kG rv s.2.1 k).length=(cZ s k).2.1.length/\(cZ s k).2.1.length<=k
 |0,_=>⟨rfl,rfl,rfl,lr⟩
 |k+1,E=>by
  have ih:=te s rv k be;obtain⟨o,ho⟩:=gO s.2.1 k
  cases o with
  |none=>rw[lu ho,sB ho];exact⟨ih.1,ih.2.1,ih.2.2.1,by have:=ih.2.2.2;omega⟩
  |some r=>rw[lz ho,sC ho];simp only[aL,aS];omega
theorem zR{Fd:List (List Rat)}{at_:List (Option Nat)}{fr:List Nat}{rv:List Value}(hl:rv.length=Fd.length)(OT:∀(k r:Nat),at_[k]? =some (some r)->r<Fd.length):∀k,k<=at_.length->∀(i:Nat) u x,(kG rv at_ k)[i]? =some u->(cZ (Fd,at_,fr) k).1[i]? =some x->∃r:Nat,rv[r]? =some u/\Fd[r]? =some x
 |0,_,i,u,x,h,_=>by cases h
 |k+1,E,i,u,x,Y,X=>by
  have ih:=zR (fr:=fr) hl OT k be i u x;obtain⟨o,ho⟩:=gO at_ k
  cases o with
  |none=>
   rw[sB ho]at Y;rw[lu (s:=(Fd,at_,fr)) ho]at X;exact ih Y X
  |some r=>
   have hr:=OT k r ho;rw[sC ho]at Y;rw[lz (s:=(Fd,at_,fr)) ho]at X;obtain⟨q1,q2,q3,q4⟩:=te (Fd,at_,fr) rv k (by dsimp only;omega);dsimp only at q1 q2 q3 q4 X;rcases aR i (kG rv at_ k).length with D|D
   .rw[aK D]at Y;rw[aK be]at X;exact ih Y X
   .have Qu:i=(kG rv at_ k).length:=by have:=(aD.1 Y).1;simp at this;omega
    rw[Qu,aQ lr,bP]at Y;rw[Qu,q3,<-q1,aQ lr,bP]at X;simp only[List.getElem?_cons_zero,Option.some.injEq]at Y X;refine⟨r,?_,?_⟩
    .rw[<-Y,List.getD,aB be];rfl
    .rw[<-X,List.getD,aB hr];rfl
theorem Dq{α:Type}(l:List α)(a b:α):(l++[a]).set l.length b=l++[b]:=by simp
section
variable{S S':Nat->Prop}{H:Hp}{nx:Nat}{iv K:Iv}{B:Nat}{w J I:World}{O:Nat->Sx.da}{rv:List Value}{v:Value}{q:Rat}
theorem cY.Dr(h:cY w (Lr S B iv rv) v q)(r:Rel H nx iv B w O J)(U:∀g,S g->g<B):cY J (Lr S B iv rv) v q:=h.cK fun _ F=>rls r U F.1
theorem cY.Lf(h:cY w (Lr S B iv rv) v q)(r:Rel H nx iv B w O J)(U:∀g,S g->g<B)(R:Ext J I)(hm:∀p,p∈iv->p∈K):cY I (Lr S B K rv) v q:=
 ((h.Dr r U).cK fun g F=>R.block g (rlo r U g F.1)).cF fun _ F=>⟨F.1.mono hm,F.2⟩
theorem Lr.old(r:Rel H nx iv B w O J)(U:∀g,S g->g<B):Old (Lr S B iv rv) J:=fun g F=>rlo r U g F.1
theorem cY.Nd{n:Nat}(h:cY I (Nf J I) v q)(hM:lC w S B iv rv n M)(r:Rel H nx iv B w O J):cY I (Lr S0 B ((J.heap.size,I.heap.size)::iv) rv) v q:=
 h.cF fun g F=>by
  rcases F with F|F
  .exact F.elim
  .exact⟨.inr ⟨by have:=r.cR;omega,_,_,aI,F.1,F.2⟩,fun hm=>by have:=hM.lt r hm;omega⟩
end
set_option maxHeartbeats 2000000 in
theorem uv{n h:Nat}(hC:Old C w)(U:Old S w)(hM:kU w C S v M)(hlen:gD n M)(Ub:0<n)(Z:n<=1000)(hR:M.length<=1000)(QS:cols<=n)(hB:CI M cols h)(hh:3*h<=90000):
  eC PG Fn.fN #[.agg #[v,iV n],iV cols] w (eI w fun v' I=>∃vr vp vf,v'= .agg #[vr,iV n,vp,vf]/\cT I (Nw S w I) vr (dJ M cols).1/\dT I (Nf w I) vp (dJ M cols).2.1/\dT I (Nf w I) vf (dJ M cols).2.2):=by
 have V:=bR w;obtain⟨am,cm,rfl,Sd,Rc⟩:=kU.shape hM;unfold maxLen at Rc;refine jN bv ?_
 refine⟨cols,cols,rfl,rfl,lr,be,be,Nat×World,fun z=>⟨[(1,iZ cols),(2,pP 0 0),(4,pP 1 0),(5,pP 2 0),(6,.o (.s 3 0 cols cols)),(27,iZ cols),(28,iN z.1)],
   [(3,.arr T.int (List.replicate z.1 (iV (-1))++List.replicate (cols-z.1) (iV 0))),(2,.box T.dN [.v nls,.v (iV n),.v nls,.v nls]),(1,.box T.dN [.v nls,.v (iV 0),.v nls,.v nls]),(0,.box T.dY [.v (.slice am M.length cm),.v (iV n)])],4,[],z.2⟩,fun z=>cols-z.1,
  fun z=>z.1<=cols/\Bq w z.2,?_,?_⟩
 .intro O J r;exact⟨(0,J),⟨aP _,V.tr r.cN⟩,sbgn [] r ⟨by simp;rfl,rfl,rfl,rfl,trivial⟩⟩
 rintro⟨i,w1⟩ ⟨D,V⟩;dsimp only at D V ⊢;apply bS<;>intro Ny
 .have Ny:=dL Ny;refine⟨be,by simp;omega,List.replicate (i+1) (iV (-1))++List.replicate (cols-(i+1)) (iV 0),?_,?_⟩
  .rw[aJ,aw,aX];exact JZ _ _ Ny
  refine inc i ?_;intro IR w3 A;exact⟨(i+1,w3),⟨Ny,V.tr A.cN⟩,sbgn [] A,dec Ny⟩
 have Ny:=dE D Ny;rw[Ny]
 refine⟨Nat×List Value×List (List Rat)×List (Option Nat)×List Nat×World×Iv,fun z=>⟨[(38,iN z.1),(1,iZ cols),(2,pP 0 0),(4,pP 1 0),(5,pP 2 0),(6,.o (.s 3 0 cols cols)),(36,sV am M.length cm),(37,iZ M.length)],[(2,.box T.dN [.w 4 z.2.1.length,.v (iV n),.v nls,.w 5 z.2.2.2.2.1.length]),(5,.vec T.int 1 (z.2.2.2.2.1.map fun c:Nat=>iV (c:Int))),(4,.vec T.jQ 1 z.2.1),(0,.box T.dY [.v (.slice am M.length cm),.v (iV n)]),(1,.box T.dN [.v nls,.v (iV 0),.v nls,.v nls]),(3,.arr T.int (z.2.2.2.1.map KX))],6,z.2.2.2.2.2.2,z.2.2.2.2.2.1⟩,fun z=>M.length-z.1,
  fun z=>z.1<=M.length/\(z.2.2.1,z.2.2.2.1,z.2.2.2.2.1)=g8 M cols z.1/\Bq w z.2.2.2.2.2.1/\lC z.2.2.2.2.2.1 S w.heap.size z.2.2.2.2.2.2 z.2.1 n z.2.2.1,?_,?_⟩
 .intro O J r
  exact⟨(0,[],[],List.replicate cols none,[],J,[]),⟨aP _,rfl,V.tr r.cN,lC.nil⟩,Sub.AM 2 0 T.jQ 1 rfl rfl (by simp[kL,SV.sc,At.sc]) r fun Id r1=>Sub.AM 2 3 T.int 1 rfl rfl (by simp[kL,SV.sc,At.sc]) r1 fun GE r2=>
   sbgn [] r2 ⟨rfl,rfl,rfl,rfl,rfl,by simp[KX];rfl,trivial⟩⟩
 rintro⟨i,rv,Fd,at_,fr,w1,iv⟩ ⟨D,Py,V,hE⟩;dsimp only at D Py V hE ⊢;have OE:=yE cols hlen i D;rw[<-Py]at OE;have hatl:at_.length=cols:=OE.at_;have hfrl:fr.length=Fd.length:=OE.uC;have hEi:Fd.length<=i:=OE.le;have QY:rv.length=Fd.length:=hE.len;have hEb:∀r∈Fd,∀q∈r,rl q+1<=h:=by have:=hB.rows i D;rwa [<-Py]at this
 apply bS<;>intro Ny
 .have Ny:=dL Ny;obtain⟨x,G⟩:=gO M i;have PJ:=hlen x (aG G);have TP:M.getD i []=x:=by rw[List.getD,G];rfl
  have PZ:∀k,k<=cols->∀q∈fW Fd at_ x k,rl q+1<=h:=by have:=hB.lK i Ny;rwa [<-Py,TP]at this
  have hcll:∀k,(fW Fd at_ x k).length=n:=fun k=>by rw[gh,PJ]
  obtain⟨adm,um,Qh,PD,km1,km2⟩:=kU.load hM G;obtain⟨W,⟨-,g1,g2,a0,c0,rfl,g4,g5⟩,OR,Sg,Of⟩:=PD;have OL:=gW Sg;refine⟨adm,Qh,be,.slice a0 x.length c0,rd1 km2 V (hC _ km1),?_⟩;refine .inl ?_;refine⟨W.flatten,g1,g2,fun O J r PB=>?_,?_⟩
  .obtain⟨u0,hu0⟩:=gO W.flatten 0;obtain⟨ad,ha,_,_⟩:=g5 0 u0 hu0;refine⟨ad,ha,fun j u hj=>?_⟩;obtain⟨ad2,Pu,q1,q2⟩:=g5 j u hj;rw[ha]at Pu;injection Pu with Pu;subst Pu;rw[cO (w:=w) (I:=J) (by rw[eV];exact(V.tr r.cN).block _ (U _ q1))];exact q2
  refine⟨rfl,be,mx,?_⟩;rw[aX x.length,PJ]
  refine⟨Nat×Nat×Nat×World×Iv,fun z=>⟨[(9,.o (.v (.slice (some ⟨z.2.1,0,none⟩) n z.2.2.1))),(46,iZ cols),(47,iN z.1),(2,pP 0 0),(4,pP 1 0),(5,pP 2 0),(6,.o (.s 3 0 cols cols)),(8,iN i),(36,sV am M.length cm),(37,iZ M.length),(38,iN i),(1,iZ cols)],[(2,.box T.dN [.w 4 rv.length,.v (iV n),.v nls,.w 5 fr.length]),(5,.vec T.int 1 (fr.map fun c:Nat=>iV (c:Int))),(4,.vec T.jQ 1 rv),(0,.box T.dY [.v (.slice am M.length cm),.v (iV n)]),(1,.box T.dN [.v nls,.v (iV 0),.v nls,.v nls]),(3,.arr T.int (at_.map KX))],8,z.2.2.2.2,z.2.2.2.1⟩,fun z=>cols-z.1,
   fun z=>z.1<=cols/\Bq w z.2.2.2.1/\lC z.2.2.2.1 S w.heap.size z.2.2.2.2 (rv++[.slice (some ⟨z.2.1,0,none⟩) n z.2.2.1]) n (Fd++[fW Fd at_ x z.1]),?_,?_⟩
  .intro O J r;have hv:=NC (S:=S) (m:=n) (qs:=x) (W:=W) r (id:=7) rfl be Ub mx ⟨OR,fun j L q k1 k2=>(Of j L q k1 k2).cK fun g F=>(V.tr r.cN).block g (U g F)⟩
   exact⟨(0,(O 7).g,(O 7).cap,J,((O 7).g,(O 7).g+1)::iv),⟨aP _,V.tr r.cN,(hE.rel r U).push (fun g F e=>Rel.not r U F 7 _ rfl hv.1 e.symm) hv.2.1 hv.2.2.2 U⟩,
    Sub.NB r (id:=7) (t:=9) (L:=W.flatten) rfl hv.1 rfl ⟨rfl,rfl,rfl,rfl,rfl,rfl,trivial⟩ rfl ⟨rfl,rfl,rfl,rfl,rfl,rfl,rfl,rfl,rfl,rfl,rfl,trivial⟩ (by simp[kL,SV.sc,At.sc])⟩
  rintro⟨k,gx,cx,I,iv⟩ ⟨E,V,hE⟩;dsimp only at E V hE ⊢;apply bS<;>intro OA
  .have OA:=dL OA;obtain⟨o,ho⟩:=gO at_ k;refine⟨be,KX o,by rw[aJ,aw,aX,aO,ho];rfl,?_⟩
   cases o with
   |none=>
    refine inc k ?_;intro IR w3 A;exact⟨(k+1,gx,cx,w3,_),⟨OA,V.tr A.cN,by dsimp only;rw[FK ho];exact hE.rel A U⟩,sbgn [] A,dec OA⟩
   |some j=>
    have hj:j<Fd.length:=OE.lt k j ho;have hq:∃q,(fW Fd at_ x k)[k]? =some q:=⟨_,aB (by rw[hcll];omega)⟩
    obtain⟨q,hq⟩:=hq;have UC:(fW Fd at_ x k).getD k 0=q:=by rw[List.getD,hq];rfl
    have Ta:=PZ k E q (aG hq);have Uc:(rv++[.slice (some ⟨gx,0,none⟩) n cx])[rv.length]? =some (.slice (some ⟨gx,0,none⟩) n cx):=by simp
    have TK:(Fd++[fW Fd at_ x k])[rv.length]? =some (fW Fd at_ x k):=by rw[QY];simp
    obtain⟨ad,L,OX,hF,hl⟩:=hE.load Uc TK hq;obtain⟨f0,f1,f2,f3,f4,f5,f6,f7,rfl,hF⟩:=hF;refine⟨ad,OX,be,rC f0 f1 f2 f3 f4 f5 f6 f7,rfl,fun O J r t u hu=>?_,?_⟩
    .obtain⟨k1,k2⟩:=hl t u hu;rw[aJ,cO (w:=I) (I:=J) (by rw[eV,eV];exact rls r (iH _) k1)];exact k2
    refine cD (cE V (fun _ J v I=>∃d,v= .bool d/\(d=true↔q=0)) (fun O J r=>qR (Lr.old r U) ((hF.Dr r U).l be)) ?_);rintro O _ _ Pa OK r R V h_ ⟨d,rfl,hz⟩;replace hE:=hE.cH r U R (mC h_);replace hF:=hF.Lf r U R (mC h_)
    cases d
    .have VE:q≠0:=fun e=>by have:=hz.2 e;cases this
     obtain⟨vj,Rp⟩:=gO rv j;have SR:(rv++[.slice (some ⟨gx,0,none⟩) n cx])[j]? =some vj:=by rw[aK be];exact Rp
     obtain⟨ej,Te⟩:=gO Fd j;have Tf:(Fd++[fW Fd at_ x k])[j]? =some ej:=by rw[aK hj];exact Te
     have hejd:Fd.getD j []=ej:=by rw[List.getD,Te];rfl
     obtain⟨aj,cj,rfl⟩:=hE.form SR;obtain⟨ad,L,OX,hF,hl⟩:=hE.load Uc TK hq;obtain⟨f0,f1,f2,f3,f4,f5,f6,f7,rfl,hF⟩:=hF;refine dP (idO 12) ?_;refine⟨bv,be,.slice aj n cj,by simpa using Rp,ad,OX,be,rC f0 f1 f2 f3 f4 f5 f6 f7,rfl,fun O J r t u hu=>?_,?_⟩
     .obtain⟨k1,k2⟩:=hl t u hu;rw[aJ,cO (w:=Pa) (I:=J) (by rw[eV,eV];exact rls r (iH _) k1)];exact k2
     refine⟨fun O J r=>?_⟩;refine(hE.CE r U (i:=rv.length) (j:=j) (h:=h) be Uc SR TK Tf (hF.l be) (fun y hy=>PZ k E y hy) (fun y hy=>hEb ej (aG Te) y hy) Ta hh).mono fun e w8 R=>?_;obtain⟨rfl,PK,Sf,OS⟩:=R;have PA:=(V.tr r.cN).tr (hE.cN r PK Sf);refine⟨.tuple #[],_,(J.heap.size,w8.heap.size)::OK,rfl,r.Ds (fun x G=>Rel.not r (iH _) (hE.new x (Sf x G))) PK,?_⟩;have OP:(Fd++[fW Fd at_ x k]).set rv.length (lQ (fW Fd at_ x k) ej q)=Fd++[fW Fd at_ x (k+1)]:=by rw[QY,Dq,zQ ho,hejd,UC]
     rw[OP]at OS;generalize (J.heap.size,w8.heap.size)::OK=Sh at*
     refine inc k ?_;intro IR w3 A;exact⟨(k+1,gx,cx,w3,_),⟨OA,PA.tr A.cN,OS.rel A U⟩,sbgn [] A,dec OA⟩
    .have VE:q=0:=hz.1 rfl;refine inc k ?_;intro IR w3 A;exact⟨(k+1,gx,cx,w3,_),⟨OA,V.tr A.cN,by dsimp only;rw[zQ ho,UC,VE,yC];exact hE.rel A U⟩,sbgn [] A,dec OA⟩
  have OA:=dE E OA;rw[OA]at hE;obtain⟨y,hy⟩:=exq (fW Fd at_ x cols);have hyl:y.length=n:=by rw[<-hy];exact hcll cols
  have Ty:∀q∈y,rl q+1<=h:=by rw[<-hy];exact PZ cols lr
  rw[hy]at hE;have Uc:(rv++[.slice (some ⟨gx,0,none⟩) n cx])[rv.length]? =some (.slice (some ⟨gx,0,none⟩) n cx):=by simp
  refine⟨Nat×World×Iv,fun z=>⟨[(9,.o (.v (.slice (some ⟨gx,0,none⟩) n cx))),(12,iN z.1),(2,pP 0 0),(4,pP 1 0),(5,pP 2 0),(6,.o (.s 3 0 cols cols)),(8,iN i),(36,sV am M.length cm),(37,iZ M.length),(38,iN i),(1,iZ cols)],[(2,.box T.dN [.w 4 rv.length,.v (iV n),.v nls,.w 5 fr.length]),(5,.vec T.int 1 (fr.map fun c:Nat=>iV (c:Int))),(4,.vec T.jQ 1 rv),(0,.box T.dY [.v (.slice am M.length cm),.v (iV n)]),(1,.box T.dN [.v nls,.v (iV 0),.v nls,.v nls]),(3,.arr T.int (at_.map KX))],8,z.2.2,z.2.1⟩,fun z=>cols-z.1,
   fun z=>z.1<=cols/\(∀t,t<z.1->y.getD t 0=0)/\Bq w z.2.1/\lC z.2.1 S w.heap.size z.2.2 (rv++[.slice (some ⟨gx,0,none⟩) n cx]) n (Fd++[y]),?_,?_⟩
  .intro O J A;exact⟨(0,J,_),⟨aP _,fun t ht=>absurd ht (Nat.not_lt_zero t),V.tr A.cN,hE.rel A U⟩,sbgn [] A⟩
  rintro⟨pv,w3,iv⟩ ⟨hp,UD,V,hE⟩;dsimp only at hp UD V hE ⊢;have TK:(Fd++[y])[rv.length]? =some y:=by rw[QY];simp
  apply bS<;>intro QE
  .have QE:=dL QE;obtain⟨q,hq⟩:=gO y pv;have UC:y.getD pv 0=q:=by rw[List.getD,hq];rfl
   have Ta:=Ty q (aG hq);obtain⟨ad,L,OX,hF,hl⟩:=hE.load Uc TK hq;obtain⟨f0,f1,f2,f3,f4,f5,f6,f7,rfl,hF⟩:=hF;refine⟨ad,OX,be,rC f0 f1 f2 f3 f4 f5 f6 f7,rfl,fun O J r t u hu=>?_,?_⟩
   .obtain⟨k1,k2⟩:=hl t u hu;rw[aJ,cO (w:=w3) (I:=J) (by rw[eV,eV];exact rls r (iH _) k1)];exact k2
   refine cD (cE V (fun _ J v I=>∃d,v= .bool d/\(d=true↔q=0)) (fun O J r=>qR (Lr.old r U) ((hF.Dr r U).l be)) ?_);rintro O _ _ PO OH r R V h_ ⟨d,rfl,hz⟩;replace hE:=hE.cH r U R (mC h_)
   cases d
   .have VE:q≠0:=fun e=>by have:=hz.2 e;cases this
    apply bS<;>intro R
    .have R:(pv:Int)=cols:=by simpa using R
     omega
    have Sr:s9 y cols=pv:=GI UD hp fun _=>by rw[UC];exact VE
    have RT:=FM Py TP hy Sr be;rw[UC]at RT;obtain⟨u,hu⟩:=exq (y.map (· / q));rw[hu]at RT;have hul:u.length=n:=by rw[<-hu,aM,hyl]
    have hub:∀q∈u,rl q+1<=h:=by
     have:=hB.rows (i+1) Ny u (by rw[RT];simp);exact this
    obtain⟨ad,L,OX,hF,hl⟩:=hE.load Uc TK hq;obtain⟨f0,f1,f2,f3,f4,f5,f6,f7,rfl,hF⟩:=hF;refine⟨ad,OX,be,rC f0 f1 f2 f3 f4 f5 f6 f7,rfl,fun O J r t u hu=>?_,?_⟩
    .obtain⟨k1,k2⟩:=hl t u hu;rw[aJ,cO (w:=PO) (I:=J) (by rw[eV,eV];exact rls r (iH _) k1)];exact k2
    refine⟨Nat×World×Iv,fun z=>⟨[(9,.o (.v (.slice (some ⟨gx,0,none⟩) n cx))),(12,iN pv),(13,pP 8 0),(97,iZ n),(98,iN z.1),(2,pP 0 0),(4,pP 1 0),(5,pP 2 0),(6,.o (.s 3 0 cols cols)),(8,iN i),(36,sV am M.length cm),(37,iZ M.length),(38,iN i),(1,iZ cols)],[(8,.box T.Rat [.v (.bool f0),.v (.slice f1 f2 f3),.v (.bool f4),.v (.slice f5 f6 f7)]),(2,.box T.dN [.w 4 rv.length,.v (iV n),.v nls,.w 5 fr.length]),(5,.vec T.int 1 (fr.map fun c:Nat=>iV (c:Int))),(4,.vec T.jQ 1 rv),(0,.box T.dY [.v (.slice am M.length cm),.v (iV n)]),(1,.box T.dN [.v nls,.v (iV 0),.v nls,.v nls]),(3,.arr T.int (at_.map KX))],9,z.2.2,z.2.1⟩,fun z=>n-z.1,
     fun z=>z.1<=n/\Bq w z.2.1/\lC z.2.1 S w.heap.size z.2.2 (rv++[.slice (some ⟨gx,0,none⟩) n cx]) n (Fd++[g9 z.1 (fun _ r=>r / q) y])/\cY z.2.1 (Lr S w.heap.size z.2.2 (rv++[.slice (some ⟨gx,0,none⟩) n cx])) (.agg #[.bool f0,.slice f1 f2 f3,.bool f4,.slice f5 f6 f7]) q,?_,?_⟩
    .intro O J A;exact⟨(0,J,_),⟨aP _,V.tr A.cN,by dsimp only;rw[sA];exact hE.rel A U,hF.Dr A U⟩,sbgn [] A⟩
    rintro⟨k,w4,iv⟩ ⟨E,V,hE,hF⟩;dsimp only at E V hE hF ⊢;have TK:(Fd++[g9 k (fun _ r=>r / q) y])[rv.length]? =some (g9 k (fun _ r=>r / q) y):=by rw[QY];simp
    apply bS<;>intro OA
    .have OA:=dL OA;obtain⟨t,ht⟩:=gO y k;have UA:=Ty t (aG ht);obtain⟨ad,L,OX,hG,hl⟩:=hE.load Uc TK (zP ht);obtain⟨g0,g1,g2,g3,g4,g5,g6,g7,rfl,hG⟩:=hG;refine dP (idO 10) ?_;refine⟨ad,OX,be,rC g0 g1 g2 g3 g4 g5 g6 g7,rfl,fun O J r t u hu=>?_,?_⟩
     .obtain⟨k1,k2⟩:=hl t u hu;rw[aJ,cO (w:=w4) (I:=J) (by rw[eV,eV];exact rls r (iH _) k1)];exact k2
     refine cM (If:=fun _ J v I=>cY I (Nf J I) v (t / q)) (fun O J r=>MU (Lr.old r U) ((hG.Dr r U).l be) ((hF.Dr r U).l be) VE) ?_;rintro O Pm v3 Pg r R hb Qx;replace V:=V.tr hb;have hd:=Qx.Nd (S0:=S) hE r;replace hE:=hE.cH (K:=(Pm.heap.size,Pg.heap.size)::iv) r U R fun x G=>aA _ G;replace hF:=hF.Lf (K:=(Pm.heap.size,Pg.heap.size)::iv) r U R fun x G=>aA _ G;generalize (Pm.heap.size,Pg.heap.size)::iv=OW at*
     obtain⟨A0,A1,A2,A3,A4,A5,A6,A7,rfl⟩:=hd.shape;refine⟨⟨gx,0,none⟩,rfl,be,?_⟩;intro O J r;obtain⟨g,F,Y,X,N,h4⟩:=hE.store r U Uc TK OA hd;injection F with F;injection F with F;subst F;refine⟨Y,X,N,fun w5 Qy=>?_⟩;obtain⟨k1,k2,k3,k4⟩:=h4 w5 Qy;have PA:=(V.tr r.cN).tr k2;have SF:=hF.cK k4;have OP:(Fd++[g9 k (fun _ r=>r / q) y]).set rv.length ((g9 k (fun _ r=>r / q) y).set k (t / q))=Fd++[g9 (k+1) (fun _ r=>r / q) y]:=by rw[QY,Dq,<-nk ht]
     rw[OP]at k1;refine inc k ?_;intro IR w6 A;exact⟨(k+1,w6,_),⟨OA,PA.tr A.cN,k1.rel A U,SF.Dr A U⟩,sbgn [] A,dec OA⟩
    have OA:=dE E OA;rw[OA,<-hyl,Jb,hu,hyl]at hE
    refine⟨bv,Nat×World×Iv,fun z=>⟨[(9,.o (.v (.slice (some ⟨gx,0,none⟩) n cx))),(12,iN pv),(113,.o (.w 4 rv.length)),(114,iZ rv.length),(115,iN z.1),(2,pP 0 0),(4,pP 1 0),(5,pP 2 0),(6,.o (.s 3 0 cols cols)),(8,iN i),(36,sV am M.length cm),(37,iZ M.length),(38,iN i),(1,iZ cols)],[(2,.box T.dN [.w 4 rv.length,.v (iV n),.v nls,.w 5 fr.length]),(5,.vec T.int 1 (fr.map fun c:Nat=>iV (c:Int))),(4,.vec T.jQ 1 rv),(0,.box T.dY [.v (.slice am M.length cm),.v (iV n)]),(1,.box T.dN [.v nls,.v (iV 0),.v nls,.v nls]),(3,.arr T.int (at_.map KX))],9,z.2.2,z.2.1⟩,fun z=>rv.length-z.1,
     fun z=>z.1<=rv.length/\Bq w z.2.1/\lC z.2.1 S w.heap.size z.2.2 (rv++[.slice (some ⟨gx,0,none⟩) n cx]) n (fq Fd u pv z.1++[u]),?_,?_⟩
    .intro O J A;exact⟨(0,J,_),⟨aP _,V.tr A.cN,by dsimp only;rw[En];exact hE.rel A U⟩,sbgn [] A⟩
    rintro⟨j,w5,iv⟩ ⟨hj,V,hE⟩;dsimp only at hj V hE ⊢;apply bS<;>intro ON
    .have ON:=dL ON;obtain⟨ej,Te⟩:=gO Fd j;have RG:ej.length=n:=OE.len ej (aG Te);have heb:=hEb ej (aG Te);obtain⟨vj,Rp⟩:=gO rv j;have SR:(rv++[.slice (some ⟨gx,0,none⟩) n cx])[j]? =some vj:=by rw[aK ON];exact Rp
     have Tf:(fq Fd u pv j++[u])[j]? =some ej:=by rw[aK (by rw[fZ];omega)];exact DR Te
     have hur:(fq Fd u pv j++[u])[rv.length]? =some u:=by rw[QY,<-fZ Fd u pv j];simp
     obtain⟨t,ht⟩:=gO ej pv;have htd:ej.getD pv 0=t:=by rw[List.getD,ht];rfl
     have UA:=heb t (aG ht);obtain⟨aj,cj,rfl⟩:=hE.form SR;obtain⟨ad,L,OX,hG,hl⟩:=hE.load SR Tf ht;obtain⟨g0,g1,g2,g3,g4,g5,g6,g7,rfl,hG⟩:=hG;refine⟨bv,be,.slice aj n cj,by simpa using Rp,ad,OX,be,rC g0 g1 g2 g3 g4 g5 g6 g7,rfl,fun O J r t u hu=>?_,?_⟩
     .obtain⟨k1,k2⟩:=hl t u hu;rw[aJ,cO (w:=w5) (I:=J) (by rw[eV,eV];exact rls r (iH _) k1)];exact k2
     refine cD (cE V (fun _ J v I=>∃d,v= .bool d/\(d=true↔t=0)) (fun O J r=>qR (Lr.old r U) ((hG.Dr r U).l be)) ?_);rintro O _ _ Qi Ow r R V h_ ⟨d,rfl,hz⟩;replace hE:=hE.cH r U R (mC h_)
     cases d
     .have ht0:t≠0:=fun e=>by have:=hz.2 e;cases this
      obtain⟨ad,L,OX,hG,hl⟩:=hE.load SR Tf ht;obtain⟨g0,g1,g2,g3,g4,g5,g6,g7,rfl,hG⟩:=hG;refine⟨ad,OX,be,rC g0 g1 g2 g3 g4 g5 g6 g7,rfl,fun O J r t u hu=>?_,?_⟩
      .obtain⟨k1,k2⟩:=hl t u hu;rw[aJ,cO (w:=Qi) (I:=J) (by rw[eV,eV];exact rls r (iH _) k1)];exact k2
      refine⟨fun O J r=>?_⟩;refine(hE.CE r U (i:=j) (j:=rv.length) (h:=h) be SR Uc Tf hur (hG.l be) heb hub UA hh).mono fun e w8 R=>?_;obtain⟨rfl,PK,Sf,OS⟩:=R;have PA:=(V.tr r.cN).tr (hE.cN r PK Sf);refine⟨.tuple #[],_,(J.heap.size,w8.heap.size)::Ow,rfl,r.Ds (fun x G=>Rel.not r (iH _) (hE.new x (Sf x G))) PK,?_⟩;have OP:(fq Fd u pv j++[u]).set j (lQ ej u t)=fq Fd u pv (j+1)++[u]:=by rw[Ja _ _ (by rw[fZ];omega),yD Te,htd]
      rw[OP]at OS;generalize (J.heap.size,w8.heap.size)::Ow=Sh at*
      refine inc j ?_;intro IR w6 A;exact⟨(j+1,w6,_),⟨ON,PA.tr A.cN,OS.rel A U⟩,sbgn [] A,dec ON⟩
     .have ht0:t=0:=hz.1 rfl;refine inc j ?_;intro IR w6 A;exact⟨(j+1,w6,_),⟨ON,V.tr A.cN,by dsimp only;rw[FN Te (by rw[htd,ht0])];exact hE.rel A U⟩,sbgn [] A,dec ON⟩
    have ON:j=Fd.length:=by have:=Nat.le_antisymm hj (by simpa using ON);omega
    rw[ON]at hE;refine⟨bv,be,by simp;omega,(at_.set pv (some rv.length)).map KX,?_,?_⟩
    .rw[aJ,aw,aX,List.map_set];exact iu (by simp;omega)
    refine gH hτ pB (.x 0 (.x 1 (.x 3 (.x 6 (.x 8 (.ld 2 64544 (.ld 7 64512 (.two 4 (.two 5 (.x 11 (.x 12 (.x 9 (.x 10 (.x 13 (.x 14 (.x 15 .nil))))))) 9 (.x 5 (.x 11 (.x 12 (.x 10 (.x 13 (.x 14 (.x 15 .nil)))))))) 9 (.x 4 (.x 5 (.x 11 (.x 12 (.x 10 (.x 13 (.x 14 (.x 15 .nil)))))))))))))))) d4 d4 ?_;refine⟨?_,?_⟩
    .refine⟨rfl,rfl,?_,?_⟩
     .refine .inl ?_;refine⟨bv,be,mx,rfl,rfl,?_⟩;refine .inl ?_;refine⟨bv,be,mx,((i+1:Nat):Int),wo,?_⟩;intro IR w6 A;exact⟨(i+1,rv++[.slice (some ⟨gx,0,none⟩) n cx],fq Fd u pv Fd.length++[u],at_.set pv (some Fd.length),fr++[i],w6,_),⟨Ny,RT.symm,V.tr A.cN,hE.rel A U⟩,sbgn [(4,10),(5,12)] A ⟨by dsimp only;rw[List.length_append,List.length_append,List.length_singleton,List.length_singleton];rfl,by dsimp only;rw[List.map_append];rfl,rfl,rfl,rfl,by dsimp only;rw[<-QY];rfl,trivial⟩,dec Ny⟩
     .refine⟨rfl,rfl,?_⟩;refine .inl ?_;refine⟨bv,be,mx,rfl,?_⟩;refine .inl ?_;refine⟨bv,be,mx,((i+1:Nat):Int),wo,?_⟩;intro IR w6 A;exact⟨(i+1,rv++[.slice (some ⟨gx,0,none⟩) n cx],fq Fd u pv Fd.length++[u],at_.set pv (some Fd.length),fr++[i],w6,_),⟨Ny,RT.symm,V.tr A.cN,hE.rel A U⟩,sbgn [(4,11),(5,12)] A ⟨by dsimp only;rw[List.length_append,List.length_append,List.length_singleton,List.length_singleton];rfl,by dsimp only;rw[List.map_append];rfl,rfl,rfl,rfl,by dsimp only;rw[<-QY];rfl,trivial⟩,dec Ny⟩
    .refine⟨rfl,rfl,rfl,rfl,?_⟩;refine .inl ?_;refine⟨bv,be,mx,rfl,?_⟩;refine .inl ?_;refine⟨bv,be,mx,((i+1:Nat):Int),wo,?_⟩;intro IR w6 A;exact⟨(i+1,rv++[.slice (some ⟨gx,0,none⟩) n cx],fq Fd u pv Fd.length++[u],at_.set pv (some Fd.length),fr++[i],w6,_),⟨Ny,RT.symm,V.tr A.cN,hE.rel A U⟩,sbgn [(4,11),(5,12)] A ⟨by dsimp only;rw[List.length_append,List.length_append,List.length_singleton,List.length_singleton];rfl,by dsimp only;rw[List.map_append];rfl,rfl,rfl,rfl,by dsimp only;rw[<-QY];rfl,trivial⟩,dec Ny⟩
   .have VE:q=0:=hz.1 rfl;refine inc pv ?_;intro IR w4 A
    exact⟨(pv+1,w4,_),⟨QE,fun t ht=>by
     by_cases htp:t=pv
     .rw[htp,UC,VE]
     .exact UD t (by dsimp only at ht;omega),V.tr A.cN,hE.rel A U⟩,sbgn [] A,by dsimp only;omega⟩
  have QE:=dE hp QE;have Sr:s9 y cols=cols:=GI (k:=cols) (fun t ht=>UD t be) lr (fun h=>absurd h (Nat.lt_irrefl _));have hskip:=FL Py TP hy Sr;refine vF.mk (fun R=>?_) (fun R=>by rw[QE]at R;simp at R);refine inc i ?_;intro IR w4 A;exact⟨(i+1,rv,Fd,at_,fr,w4,_),⟨Ny,hskip,V.tr A.cN,hE.drop.rel A U⟩,sbgn [] A,dec Ny⟩
 have Ny:=dE D Ny;subst Ny;have hredS:dJ M cols=cZ (Fd,at_,fr) cols:=by rw[dJ,<-Py]
 have OT:∀(k r:Nat),at_[k]? =some (some r)->r<Fd.length:=OE.lt;have RZ:∀k,k<=cols->(cZ (Fd,at_,fr) k).1.length=(cZ (Fd,at_,fr) k).2.1.length/\(cZ (Fd,at_,fr) k).2.2.length=(cZ (Fd,at_,fr) k).2.1.length/\(kG rv at_ k).length=(cZ (Fd,at_,fr) k).2.1.length/\(cZ (Fd,at_,fr) k).2.1.length<=k:=fun k E=>te (Fd,at_,fr) rv k (by dsimp only;omega)
 refine⟨Nat×World,fun z=>⟨[(4,pP 1 0),(5,pP 2 0),(17,pP 6 0),(159,.o (.s 3 0 cols cols)),(160,iZ cols),(161,iN z.1)],[(6,.box T.dN [.w 7 (cZ (Fd,at_,fr) z.1).2.1.length,.v (iV n),.w 8 (cZ (Fd,at_,fr) z.1).2.1.length,.w 9 (cZ (Fd,at_,fr) z.1).2.1.length]),(9,.vec T.int 1 ((cZ (Fd,at_,fr) z.1).2.2.map fun c:Nat=>iV (c:Int))),(8,.vec T.int 1 ((cZ (Fd,at_,fr) z.1).2.1.map fun c:Nat=>iV (c:Int))),(7,.vec T.jQ 1 (kG rv at_ z.1)),(2,.box T.dN [.w 4 rv.length,.v (iV n),.v nls,.w 5 fr.length]),(5,.vec T.int 1 (fr.map fun c:Nat=>iV (c:Int))),(4,.vec T.jQ 1 rv),(1,.box T.dN [.v nls,.v (iV 0),.v nls,.v nls]),(3,.arr T.int (at_.map KX))],10,iv,z.2⟩,fun z=>cols-z.1,
  fun z=>z.1<=cols/\Bq w z.2/\lC z.2 S w.heap.size iv rv n Fd,?_,?_⟩
 .intro O J r
  exact⟨(0,J),⟨aP _,V.tr r.cN,hE.rel r U⟩,Sub.AM 6 0 T.jQ 1 rfl rfl (by simp[kL,SV.sc,At.sc]) r fun Id r1=>Sub.AM 6 2 T.int 1 rfl rfl (by simp[kL,SV.sc,At.sc]) r1 fun GE r2=>Sub.AM 6 3 T.int 1 rfl rfl (by simp[kL,SV.sc,At.sc]) r2 fun IR A=>
   sbgn [] A⟩
 rintro⟨k,w1⟩ ⟨E,V,hE⟩;dsimp only at E V hE ⊢;obtain⟨q1,q2,q3,q4⟩:=RZ k E;apply bS<;>intro OA
 .have OA:=dL OA;obtain⟨o,ho⟩:=gO at_ k;refine⟨be,KX o,by rw[aJ,aw,aX,aO,ho];rfl,?_⟩
  cases o with
  |none=>
   refine inc k ?_;have On:=lu (s:=(Fd,at_,fr)) ho;have PY:=sB (rv:=rv) ho;intro IR w3 A;exact⟨(k+1,w3),⟨OA,V.tr A.cN,hE.rel A U⟩,sbgn [] A ⟨by dsimp only;rw[On];rfl,by dsimp only;rw[On];rfl,by dsimp only;rw[On];rfl,by dsimp only;rw[PY];rfl,rfl,rfl,rfl,rfl,rfl,trivial⟩,dec OA⟩
  |some j=>
   have hj:j<Fd.length:=OT k j ho;obtain⟨vj,Rp⟩:=gO rv j;have hvjd:rv.getD j (.bool false)=vj:=by rw[List.getD,Rp];rfl
   obtain⟨aj,cj,rfl⟩:=hE.form Rp;obtain⟨fj,Ry⟩:=gO fr j;have hfjd:fr.getD j 0=fj:=by rw[List.getD,Ry];rfl
   have On:=lz (s:=(Fd,at_,fr)) ho;have PY:=sC (rv:=rv) ho;dsimp only at On;rw[hvjd]at PY;rw[hfjd]at On;refine gH hτ pB (.x 0 (.x 1 (.x 3 (.x 4 (.x 6 (.x 11 (.x 13 (.x 16 (.x 18 (.x 20 (.ld 2 4278223872 (.ld 5 4278224768 (.x 7 (.ld 8 4278224384 (.ld 12 4278222848 (.ld 17 4278190080 (.ld 19 4192206848 (.x 21 (.ld 22 4185915392 (.three 9 (.three 10 (.x 25 (.x 26 (.two 14 (.two 15 (.x 23 (.x 24 (.x 27 (.x 28 (.x 29 (.x 30 (.x 31 .nil))))))) 23 (.x 15 (.x 24 (.x 27 (.x 28 (.x 29 (.x 30 (.x 31 .nil)))))))) 23 (.x 14 (.x 15 (.x 24 (.x 27 (.x 28 (.x 29 (.x 30 (.x 31 .nil))))))))))) 14 (.two 10 (.x 25 (.x 26 (.two 15 (.x 23 (.x 24 (.x 27 (.x 28 (.x 29 (.x 30 (.x 31 .nil))))))) 23 (.x 15 (.x 24 (.x 27 (.x 28 (.x 29 (.x 30 (.x 31 .nil)))))))))) 23 (.x 10 (.x 25 (.x 26 (.x 15 (.x 24 (.x 27 (.x 28 (.x 29 (.x 30 (.x 31 .nil))))))))))) 23 (.two 10 (.x 25 (.x 26 (.x 14 (.x 15 (.x 24 (.x 27 (.x 28 (.x 29 (.x 30 (.x 31 .nil)))))))))) 14 (.x 10 (.x 25 (.x 26 (.x 15 (.x 24 (.x 27 (.x 28 (.x 29 (.x 30 (.x 31 .nil)))))))))))) 14 (.two 9 (.two 10 (.x 25 (.x 26 (.two 15 (.x 23 (.x 24 (.x 27 (.x 28 (.x 29 (.x 30 (.x 31 .nil))))))) 23 (.x 15 (.x 24 (.x 27 (.x 28 (.x 29 (.x 30 (.x 31 .nil)))))))))) 23 (.x 10 (.x 25 (.x 26 (.x 15 (.x 24 (.x 27 (.x 28 (.x 29 (.x 30 (.x 31 .nil))))))))))) 23 (.x 9 (.x 10 (.x 25 (.x 26 (.x 15 (.x 24 (.x 27 (.x 28 (.x 29 (.x 30 (.x 31 .nil)))))))))))) 23 (.two 9 (.two 10 (.x 25 (.x 26 (.x 14 (.x 15 (.x 24 (.x 27 (.x 28 (.x 29 (.x 30 (.x 31 .nil)))))))))) 14 (.x 10 (.x 25 (.x 26 (.x 15 (.x 24 (.x 27 (.x 28 (.x 29 (.x 30 (.x 31 .nil))))))))))) 14 (.x 9 (.x 10 (.x 25 (.x 26 (.x 15 (.x 24 (.x 27 (.x 28 (.x 29 (.x 30 (.x 31 .nil)))))))))))))))))))))))))))))))) d4 d4 ?_;refine⟨bv,be,.slice aj n cj,by simpa using Rp,bv,be,iV (fj:Int),by simp[Ry],?_,?_,?_⟩
   .refine⟨iV (fj:Int),by simp[Ry],rfl,rfl,rfl,rfl,rfl,?_,?_,?_⟩
    .refine .inl ?_;refine⟨by simp[q2,q3],be,mx,iV (fj:Int),by simp[Ry],rfl,rfl,rfl,rfl,?_,?_⟩
     .refine⟨iV (fj:Int),by simp[Ry],rfl,rfl,rfl,rfl,?_,?_⟩
      .refine .inl ?_;refine⟨by simp[q2,q3],be,mx,iV (fj:Int),by simp[Ry],rfl,rfl,rfl,rfl,?_⟩;refine .inl ?_;refine⟨by simp[q2,q3],be,mx,((k+1:Nat):Int),wo,?_⟩;intro IR w3 A;exact⟨(k+1,w3),⟨OA,V.tr A.cN,hE.rel A U⟩,sbgn [(7,11),(8,13),(9,15)] A ⟨by dsimp only;rw[On,List.length_append,List.length_singleton];rfl,by dsimp only;rw[On,List.map_append];rfl,by dsimp only;rw[On,List.map_append];rfl,by dsimp only;rw[PY];rfl,rfl,rfl,rfl,rfl,rfl,trivial⟩,dec OA⟩
      .refine⟨rfl,rfl,?_⟩;refine .inl ?_;refine⟨by simp[q2,q3],be,mx,rfl,?_⟩;refine .inl ?_;refine⟨by simp[q2,q3],be,mx,((k+1:Nat):Int),wo,?_⟩;intro IR w3 A;exact⟨(k+1,w3),⟨OA,V.tr A.cN,hE.rel A U⟩,sbgn [(7,11),(8,14),(9,15)] A ⟨by dsimp only;rw[On,List.length_append,List.length_singleton];rfl,by dsimp only;rw[On,List.map_append];rfl,by dsimp only;rw[On,List.map_append];rfl,by dsimp only;rw[PY];rfl,rfl,rfl,rfl,rfl,rfl,trivial⟩,dec OA⟩
     .refine⟨rfl,rfl,rfl,rfl,?_⟩;refine .inl ?_;refine⟨by simp[q2,q3],be,mx,rfl,?_⟩;refine .inl ?_;refine⟨by simp[q2,q3],be,mx,((k+1:Nat):Int),wo,?_⟩;intro IR w3 A;exact⟨(k+1,w3),⟨OA,V.tr A.cN,hE.rel A U⟩,sbgn [(7,11),(8,14),(9,15)] A ⟨by dsimp only;rw[On,List.length_append,List.length_singleton];rfl,by dsimp only;rw[On,List.map_append];rfl,by dsimp only;rw[On,List.map_append];rfl,by dsimp only;rw[PY];rfl,rfl,rfl,rfl,rfl,rfl,trivial⟩,dec OA⟩
    .refine⟨iV (fj:Int),by simp[Ry],rfl,rfl,rfl,rfl,rfl,?_,?_⟩
     .refine .inl ?_;refine⟨by simp[q2,q3],be,mx,iV (fj:Int),by simp[Ry],rfl,rfl,rfl,rfl,?_,?_⟩
      .refine .inl ?_;refine⟨by simp[q2,q3],be,mx,iV (fj:Int),by simp[Ry],rfl,rfl,rfl,rfl,?_⟩;refine .inl ?_;refine⟨by simp[q2,q3],be,mx,((k+1:Nat):Int),wo,?_⟩;intro IR w3 A;exact⟨(k+1,w3),⟨OA,V.tr A.cN,hE.rel A U⟩,sbgn [(7,12),(8,13),(9,15)] A ⟨by dsimp only;rw[On,List.length_append,List.length_singleton];rfl,by dsimp only;rw[On,List.map_append];rfl,by dsimp only;rw[On,List.map_append];rfl,by dsimp only;rw[PY];rfl,rfl,rfl,rfl,rfl,rfl,trivial⟩,dec OA⟩
      .refine⟨rfl,rfl,?_⟩;refine .inl ?_;refine⟨by simp[q2,q3],be,mx,rfl,?_⟩;refine .inl ?_;refine⟨by simp[q2,q3],be,mx,((k+1:Nat):Int),wo,?_⟩;intro IR w3 A;exact⟨(k+1,w3),⟨OA,V.tr A.cN,hE.rel A U⟩,sbgn [(7,12),(8,14),(9,15)] A ⟨by dsimp only;rw[On,List.length_append,List.length_singleton];rfl,by dsimp only;rw[On,List.map_append];rfl,by dsimp only;rw[On,List.map_append];rfl,by dsimp only;rw[PY];rfl,rfl,rfl,rfl,rfl,rfl,trivial⟩,dec OA⟩
     .refine⟨rfl,rfl,rfl,?_⟩;refine .inl ?_;refine⟨by simp[q2,q3],be,mx,rfl,rfl,?_⟩;refine .inl ?_;refine⟨by simp[q2,q3],be,mx,rfl,?_⟩;refine .inl ?_;refine⟨by simp[q2,q3],be,mx,((k+1:Nat):Int),wo,?_⟩;intro IR w3 A;exact⟨(k+1,w3),⟨OA,V.tr A.cN,hE.rel A U⟩,sbgn [(7,13),(8,14),(9,15)] A ⟨by dsimp only;rw[On,List.length_append,List.length_singleton];rfl,by dsimp only;rw[On,List.map_append];rfl,by dsimp only;rw[On,List.map_append];rfl,by dsimp only;rw[PY];rfl,rfl,rfl,rfl,rfl,rfl,trivial⟩,dec OA⟩
    .refine⟨rfl,rfl,rfl,?_,?_⟩
     .refine .inl ?_;refine⟨by simp[q2,q3],be,mx,rfl,rfl,rfl,rfl,?_⟩;refine .inl ?_;refine⟨by simp[q2,q3],be,mx,rfl,?_⟩;refine .inl ?_;refine⟨by simp[q2,q3],be,mx,((k+1:Nat):Int),wo,?_⟩;intro IR w3 A;exact⟨(k+1,w3),⟨OA,V.tr A.cN,hE.rel A U⟩,sbgn [(7,12),(8,14),(9,15)] A ⟨by dsimp only;rw[On,List.length_append,List.length_singleton];rfl,by dsimp only;rw[On,List.map_append];rfl,by dsimp only;rw[On,List.map_append];rfl,by dsimp only;rw[PY];rfl,rfl,rfl,rfl,rfl,rfl,trivial⟩,dec OA⟩
     .refine⟨rfl,rfl,rfl,?_⟩;refine .inl ?_;refine⟨by simp[q2,q3],be,mx,rfl,rfl,?_⟩;refine .inl ?_;refine⟨by simp[q2,q3],be,mx,rfl,?_⟩;refine .inl ?_;refine⟨by simp[q2,q3],be,mx,((k+1:Nat):Int),wo,?_⟩;intro IR w3 A;exact⟨(k+1,w3),⟨OA,V.tr A.cN,hE.rel A U⟩,sbgn [(7,13),(8,14),(9,15)] A ⟨by dsimp only;rw[On,List.length_append,List.length_singleton];rfl,by dsimp only;rw[On,List.map_append];rfl,by dsimp only;rw[On,List.map_append];rfl,by dsimp only;rw[PY];rfl,rfl,rfl,rfl,rfl,rfl,trivial⟩,dec OA⟩
   .refine⟨iV (fj:Int),by simp[Ry],rfl,rfl,rfl,rfl,.slice aj n cj,by simpa using Rp,rfl,rfl,rfl,?_,?_⟩
    .refine⟨iV (fj:Int),by simp[Ry],rfl,rfl,rfl,rfl,rfl,?_,?_⟩
     .refine .inl ?_;refine⟨by simp[q2,q3],be,mx,iV (fj:Int),by simp[Ry],rfl,rfl,rfl,rfl,?_,?_⟩
      .refine .inl ?_;refine⟨by simp[q2,q3],be,mx,iV (fj:Int),by simp[Ry],rfl,rfl,rfl,rfl,?_⟩;refine .inl ?_;refine⟨by simp[q2,q3],be,mx,((k+1:Nat):Int),wo,?_⟩;intro IR w3 A;exact⟨(k+1,w3),⟨OA,V.tr A.cN,hE.rel A U⟩,sbgn [(7,12),(8,13),(9,15)] A ⟨by dsimp only;rw[On,List.length_append,List.length_singleton];rfl,by dsimp only;rw[On,List.map_append];rfl,by dsimp only;rw[On,List.map_append];rfl,by dsimp only;rw[PY];rfl,rfl,rfl,rfl,rfl,rfl,trivial⟩,dec OA⟩
      .refine⟨rfl,rfl,?_⟩;refine .inl ?_;refine⟨by simp[q2,q3],be,mx,rfl,?_⟩;refine .inl ?_;refine⟨by simp[q2,q3],be,mx,((k+1:Nat):Int),wo,?_⟩;intro IR w3 A;exact⟨(k+1,w3),⟨OA,V.tr A.cN,hE.rel A U⟩,sbgn [(7,12),(8,14),(9,15)] A ⟨by dsimp only;rw[On,List.length_append,List.length_singleton];rfl,by dsimp only;rw[On,List.map_append];rfl,by dsimp only;rw[On,List.map_append];rfl,by dsimp only;rw[PY];rfl,rfl,rfl,rfl,rfl,rfl,trivial⟩,dec OA⟩
     .refine⟨rfl,rfl,rfl,?_⟩;refine .inl ?_;refine⟨by simp[q2,q3],be,mx,rfl,rfl,?_⟩;refine .inl ?_;refine⟨by simp[q2,q3],be,mx,rfl,?_⟩;refine .inl ?_;refine⟨by simp[q2,q3],be,mx,((k+1:Nat):Int),wo,?_⟩;intro IR w3 A;exact⟨(k+1,w3),⟨OA,V.tr A.cN,hE.rel A U⟩,sbgn [(7,13),(8,14),(9,15)] A ⟨by dsimp only;rw[On,List.length_append,List.length_singleton];rfl,by dsimp only;rw[On,List.map_append];rfl,by dsimp only;rw[On,List.map_append];rfl,by dsimp only;rw[PY];rfl,rfl,rfl,rfl,rfl,rfl,trivial⟩,dec OA⟩
    .refine⟨rfl,rfl,.slice aj n cj,by simpa using Rp,rfl,rfl,rfl,rfl,rfl,rfl,?_⟩;refine .inl ?_;refine⟨by simp[q2,q3],be,mx,rfl,rfl,?_⟩;refine .inl ?_;refine⟨by simp[q2,q3],be,mx,rfl,?_⟩;refine .inl ?_;refine⟨by simp[q2,q3],be,mx,((k+1:Nat):Int),wo,?_⟩;intro IR w3 A;exact⟨(k+1,w3),⟨OA,V.tr A.cN,hE.rel A U⟩,sbgn [(7,13),(8,14),(9,15)] A ⟨by dsimp only;rw[On,List.length_append,List.length_singleton];rfl,by dsimp only;rw[On,List.map_append];rfl,by dsimp only;rw[On,List.map_append];rfl,by dsimp only;rw[PY];rfl,rfl,rfl,rfl,rfl,rfl,trivial⟩,dec OA⟩
   .refine⟨rfl,rfl,.slice aj n cj,by simpa using Rp,rfl,rfl,rfl,?_,?_⟩
    .refine⟨rfl,rfl,rfl,?_,?_⟩
     .refine .inl ?_;refine⟨by simp[q2,q3],be,mx,rfl,rfl,rfl,rfl,?_⟩;refine .inl ?_;refine⟨by simp[q2,q3],be,mx,rfl,?_⟩;refine .inl ?_;refine⟨by simp[q2,q3],be,mx,((k+1:Nat):Int),wo,?_⟩;intro IR w3 A;exact⟨(k+1,w3),⟨OA,V.tr A.cN,hE.rel A U⟩,sbgn [(7,12),(8,14),(9,15)] A ⟨by dsimp only;rw[On,List.length_append,List.length_singleton];rfl,by dsimp only;rw[On,List.map_append];rfl,by dsimp only;rw[On,List.map_append];rfl,by dsimp only;rw[PY];rfl,rfl,rfl,rfl,rfl,rfl,trivial⟩,dec OA⟩
     .refine⟨rfl,rfl,rfl,?_⟩;refine .inl ?_;refine⟨by simp[q2,q3],be,mx,rfl,rfl,?_⟩;refine .inl ?_;refine⟨by simp[q2,q3],be,mx,rfl,?_⟩;refine .inl ?_;refine⟨by simp[q2,q3],be,mx,((k+1:Nat):Int),wo,?_⟩;intro IR w3 A;exact⟨(k+1,w3),⟨OA,V.tr A.cN,hE.rel A U⟩,sbgn [(7,13),(8,14),(9,15)] A ⟨by dsimp only;rw[On,List.length_append,List.length_singleton];rfl,by dsimp only;rw[On,List.map_append];rfl,by dsimp only;rw[On,List.map_append];rfl,by dsimp only;rw[PY];rfl,rfl,rfl,rfl,rfl,rfl,trivial⟩,dec OA⟩
    .refine⟨rfl,rfl,.slice aj n cj,by simpa using Rp,rfl,rfl,rfl,rfl,rfl,rfl,?_⟩;refine .inl ?_;refine⟨by simp[q2,q3],be,mx,rfl,rfl,?_⟩;refine .inl ?_;refine⟨by simp[q2,q3],be,mx,rfl,?_⟩;refine .inl ?_;refine⟨by simp[q2,q3],be,mx,((k+1:Nat):Int),wo,?_⟩;intro IR w3 A;exact⟨(k+1,w3),⟨OA,V.tr A.cN,hE.rel A U⟩,sbgn [(7,13),(8,14),(9,15)] A ⟨by dsimp only;rw[On,List.length_append,List.length_singleton];rfl,by dsimp only;rw[On,List.map_append];rfl,by dsimp only;rw[On,List.map_append];rfl,by dsimp only;rw[PY];rfl,rfl,rfl,rfl,rfl,rfl,trivial⟩,dec OA⟩
 have OA:=dE E OA;subst OA;intro GT we re;have Qd:∀u∈kG rv at_ k,u.oneCell'=true:=fun u hu=>by
  obtain⟨i,D⟩:=aT hu;obtain⟨x,G⟩:∃x,(cZ (Fd,at_,fr) k).1[i]? =some x:=⟨_,aB (by have:=(aD.1 D).1;omega)⟩
  obtain⟨r,Y,X⟩:=zR QY OT k be i u x D G;obtain⟨a,c,rfl⟩:=hE.form Y;rfl
 have h7:=re.iq (id:=7) (sz:=1) (m:=(cZ (Fd,at_,fr) k).2.1.length) rfl (by simp[q3]) mx bi Qd;have h8:=re.iq (id:=8) (sz:=1) (m:=(cZ (Fd,at_,fr) k).2.1.length) rfl bv mx bi (fun u hu=>by obtain⟨c,_,rfl⟩:=aV.1 hu;rfl);have h9:=re.iq (id:=9) (sz:=1) (m:=(cZ (Fd,at_,fr) k).2.1.length) rfl (by simp[q2]) mx bi (fun u hu=>by obtain⟨c,_,rfl⟩:=aV.1 hu;rfl);have OS:=hE.rel re U;rw[hredS];refine⟨_,rfl,V.tr re.cN,_,_,_,rfl,⟨kG rv at_ k,?_,be,fun i u x k1 k2=>?_⟩,?_,?_⟩
 .rw[q1];exact h7.cF fun g F=>.inr F
 .obtain⟨r,Y,X⟩:=zR QY OT k be i u x k1 k2;refine((OS.row r u x Y X).read.cF (S':=Nw S w we) (C':=Nw S w we) (fun g F=>?_) fun g F=>Cv.nw F.1 re).c;exact Cv.nw (KW (OS.new g ⟨u,aG Y,F⟩)) re
 .exact h8.cF fun g F=>.inr F
 .show jW we _ 1 _ _ (cZ (Fd,at_,fr) k).2.2.length;rw[q2];exact h9.cF fun g F=>.inr F
end Go.Ex
