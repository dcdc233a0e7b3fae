/- A part of the proof: texts X47 to X58. Each tells its conditions in its theorems. -/
import Derived.Test.YtkdcaknoaeicdaaGreatP4
import Derived.Test.YtkdcaknoaeicdaaGreatP5
namespace Go.Ex
open Go Go.Sx Go.Proofs
theorem sL{H:Hp}{nx:Nat}{iv:Iv}{B:Nat}{w w' w2:World}{ρ:Nat->Sx.dc}{v v':Value}(hc:DL iv v)(r:Rel H nx iv B w ρ w')(hob:∀g,v'.ownBlock=some g->g<w2.heap.size∧(v.ownBlock=some g∨g=w'.heap.size)):
  ∀lo hi,(lo,hi)∈pO v'->hi<=w2.heap.size∧∀id b,dA H id=some b->(ρ id).nil=false->¬(lo<=(ρ id).g∧(ρ id).g<hi):=fun lo hi hm=>by
 obtain⟨hg,rfl⟩:=zf.1 hm;obtain⟨h1,h2⟩:=hob _ hg;refine⟨by omega,fun id c hc' hn he=>?_⟩;rcases h2 with h2|h2
 ·exact hc.not r h2 id c hc' hn (by omega)
 ·have:=(r.low id c hc' hn).2;omega
theorem dF.out{S:Nat->Prop}{H:Hp}{nx:Nat}{iv:Iv}{w w1 w':World}{ρ:Nat->Sx.dc}{v:Value}{ls:List Nat}(h:dF w1 (Cv S w.heap.size iv) v ls)(r:Rel H nx iv w.heap.size w1 ρ w')(hS:Old S w):dF w' (Nw S w w') v ls:=
 (dF.rel h r hS).cG fun _ hg=>Cv.nw hg r
theorem Dt{w:World}{B B' e sz m:Nat}{v:Value}{xs:List Value}(h:w.ownsRow B e sz v m xs)(hb:B'<=B):w.ownsRow B' e sz v m xs:=⟨h.1,h.2.imp id fun⟨g,cap,cur,k1,k2,k3⟩=>⟨g,cap,cur,k1,by omega,k3⟩⟩
theorem sM(a b:List Nat):dq (a++b)=dq a++dq b:=by simp[dq]
theorem o6{w:World}{B m:Nat}{v:Value}{cs:List Int}(h:w.ownsRow B T.int 1 v m (cs.map (Value.int .i64)))(hm:m=cs.length)(hl:m<=maxLen):da w (fun g=>v.ownBlock=some g) v cs:=by
 subst hm;rcases h.2 with⟨rfl,h0⟩|⟨g,cap,cur,rfl,hb,hc,hmc,hcap,hsz,htake⟩
 ·have:cs=[]:=List.eq_nil_of_length_eq_zero h0;subst this;exact⟨by simp[maxLen],by simp,by simp,none,0,rfl,aG _,by simp⟩
 ·refine⟨hl,h.1,fun u hu=>by simp at hu;obtain⟨_,_,rfl⟩:=hu;rfl,_,cap,rfl,hmc,fun j u hu=>⟨_,rfl,rfl,?_⟩⟩;exact h.cells (g:=g) rfl j u hu
theorem Dg.append{a b:List Nat}(ha:Dg a)(hb:Dg b):Dg (a++b):=fun x hx=>(bR.1 hx).elim (ha x) (hb x)
theorem uK(a b:List Nat):kJ (a++b)=kJ a+up a.length*kJ b:=by
 unfold kJ;rw[List.map_append,yS,aM]
theorem yB{ds:List Nat}(hd:Dg ds):Nz (dX (fy ds))∧(val (dX (fy ds)):Int)=kJ ds:=by
 obtain⟨h1,h2,_⟩:=wu ds hd;obtain⟨k1,k2,_⟩:=eO (fy ds);exact⟨k2,by rw[k1,h1]⟩
theorem tQ{S:Nat->Prop}{w:World}{v:Value}{cs:List Int}(hS:Old S w)(h:da w S v cs)(hb:∀c∈cs,-1152921504606846976<=c∧c<=1152921504606846976)(hl:cs.length<=100000000):
  dh PG N.jN #[v] w (dw w fun v' w2=>dC w2 (Nw (fun _=>False) w w2) v' (dH cs)):=by
 obtain⟨a,c,rfl,hc⟩:=h.shape;obtain⟨hspec,hdg,hdl⟩:=jb cs 0;obtain⟨hk1,hk2⟩:=jM cs 0 hb (by decide) (by decide);rw[Int.add_zero]at hspec;refine tB (by simp) ?_;conv=>whnf
 refine bz (cH (Φ:=fun _ w' v' w2=>∃o,v'= .tuple #[o,.int .i64 (dN cs 0).2]∧w2.ownsRow w'.heap.size T.int 1 o cs.length ((dq (dN cs 0).1).map (Value.int .i64))) (fun ρ w' r=>zi (fun g hg=>by have:=hS g hg;have:=r.bu;omega) (da.cD h fun g hg=>Rel.same (S:=S) r hS (.inl hg)) hb (by omega)) ?_);rintro ρ wa v1 wb r he hw ⟨o,rfl,hrow⟩;have hrowc:DL [(wa.heap.size,wb.heap.size)] o:=fun g hg=>⟨_,_,bA.2 rfl,(ownsRow.low hrow g hg).1,(ownsRow.low hrow g hg).2⟩
 replace hrow:=Dt hrow r.bu;clear r he;generalize [(wa.heap.size,wb.heap.size)]=iv at*
 generalize hds:(dN cs 0).1=ds at*
 generalize hk:(dN cs 0).2=k at*
 obtain⟨ao,co,rfl,hco⟩:=iw hrow;conv=>whnf
 refine dE.mk (fun hneg=>?_) (fun hneg=>?_)
 ·have hneg:=aI hneg;have hV:dH cs<0:=by
   have h1:=(wo hdg).2;rw[hdl]at h1;have h2:=Ft cs.length;have h3:up cs.length*k<=up cs.length*(-1):=Int.mul_le_mul_of_nonneg_left (by omega) (by omega);omega
  obtain⟨hspec2,hdg2',hdl2⟩:=jb (cs.map (- ·)) 0;have hb2:∀c∈cs.map (- ·),-1152921504606846976<=c∧c<=1152921504606846976:=fun c hc=>by
   obtain⟨x,hx,rfl⟩:=aU.1 hc;have:=hb x hx;omega
  obtain⟨hk1',hk2'⟩:=jM (cs.map (- ·)) 0 hb2 (by decide) (by decide);rw[Int.add_zero,Cd,aM]at hspec2;rw[aM]at hdl2;have hk0:0<=(dN (cs.map (- ·)) 0).2:=by
   have h1:=(wo hdg2').2;rw[hdl2]at h1;have h2:=Ft cs.length;apply Decidable.byContradiction;intro h3;have h4:up cs.length*(dN (cs.map (- ·)) 0).2<=up cs.length*(-1):=Int.mul_le_mul_of_nonneg_left (by omega) (by omega);omega
  conv=>whnf
  refine⟨Nat×World,fun z=>⟨[(0,.o (.v (.slice a cs.length c))),(2,.o (.p 0 0)),(3,.o (.v (.slice ao cs.length co))),(5,.o (.v (.int .i64 z.1)))],[(0,.box T.Int [.v (.bool false),.v (.slice none 0 0)])],1,iv,z.2⟩,fun z=>cs.length-z.1,
   fun z=>z.1<=cs.length∧cN w.heap.size w z.2∧z.2.ownsRow w.heap.size T.int 1 (.slice ao cs.length co) cs.length (((cs.take z.1).map (- ·)++(dq ds).drop z.1).map (Value.int .i64)),?_,?_⟩
  ·intro ρ w' r;exact⟨(0,w'),⟨by simp,hw.tr r.cC,by simpa using iP hrow hrowc r⟩,Sub.gen [] r ⟨rfl,trivial⟩ ⟨rfl,rfl,rfl,rfl,trivial⟩ (by simp[dG,cW.scopd,At.sc]) (by simp[cV,SV.sc,At.sc]) (by rfl) (fun lo hi h=>h)⟩
  clear hw hrow;rintro⟨i,w1⟩ ⟨hi,hw,hrow⟩;dsimp only at hi hw hrow ⊢;have hR:da w1 S (.slice a cs.length c) cs:=da.cD h fun g hg=>hw.block g (hS g hg);conv=>whnf
  refine dE.mk (fun hib=>?_) (fun hib=>?_)
  ·have hib:i<cs.length:=by simpa using hib
   obtain⟨x,hx⟩:∃x,cs[i]? =some x:=⟨_,aB hib⟩
   obtain⟨hx1,hx2⟩:=hb x (aF hx);obtain⟨ad,rfl,q1,q2⟩:=hR.load hx;obtain⟨go,hgo⟩:∃g,ao=some ⟨g,0,none⟩:=by
    rcases hrow.2 with⟨_,h0⟩|⟨g,cap,cur,e,_⟩
    ·omega
    ·injection e with e;exact⟨g,e⟩
   subst hgo;conv=>whnf
   refine⟨ad,rfl,⟨by omega,by omega⟩,?_⟩;conv=>whnf
   refine⟨.int .i64 x,fun ρ w' r=>?_,?_⟩
   ·rw[aC,bw (w:=w1) (w2:=w') (by rw[cL];exact Rel.same (S:=S) r hS (.inl q1))];exact q2
   conv=>whnf
   refine⟨-x,by rw[wrap64]<;>omega,?_⟩;conv=>whnf
   refine⟨⟨go,0,none⟩,rfl,⟨by omega,by omega⟩,?_⟩;conv=>whnf
   intro ρ w' r;have hrow3:=iP hrow hrowc r;obtain⟨g',hg',hok,hst,hgr,hsz⟩:=nG (nv:=[.int .i64 (-x)]) hrow3 rfl hib rfl (by decide);injection hg' with hg';injection hg' with hg';subst hg';rw[Hc (by rw[aM,List.length_append,aM,aX,List.length_drop,eN,hdl];omega)]at hst;have had:(⟨go,0,none⟩:Addr).add ((i:Int).toNat*1)=⟨go,i*1,none⟩:=by rw[aC,dM,aS]
   have hnot:=fun id b hb hn=>hrowc.not r (b:=go) rfl id b hb hn;have hgoB:=(ownsRow.low hrow go rfl).1;have hw':cN w.heap.size w (setCells w' ⟨go,i*1,none⟩ [.int .i64 (-x)]):=(hw.tr r.cC).tr (cN.grown hgr (fun g hg=>by injection hg with hg;subst hg;exact hgoB) r.bu);have hlist:(((cs.take i).map (- ·)++(dq ds).drop i).map (Value.int .i64)).set i (.int .i64 (-x))=((cs.take (i+1)).map (- ·)++(dq ds).drop (i+1)).map (Value.int .i64):=by
    rw[<-List.map_set];congr 1;have hl1:((cs.take i).map (- ·)).length=i:=by rw[aM,aX];omega
    obtain⟨d,hd⟩:∃d,(dq ds)[i]? =some d:=⟨_,aB (by rw[eN,hdl];exact hib)⟩
    have hd2:(dq ds).drop i=d::(dq ds).drop (i+1):=by
     rw[List.drop_eq_getElem_cons (by rw[eN,hdl];exact hib)];congr 1;have:=aB (l:=dq ds) (i:=i) (by rw[eN,hdl];exact hib);rw[hd]at this;injection this with this;exact this.symm
    rw[List.take_add_one,hx,List.map_append,hd2,List.set_append_right _ _ (by omega),hl1,bI];simp
   clear r;refine⟨by rw[had],fun j hj=>by rw[had];exact hok j hj,fun id b hb hn=>by rw[had];exact hnot id b hb hn,fun w2 hw2=>?_⟩;have hw2:w2=setCells w' ⟨go,i*1,none⟩ [.int .i64 (-x)]:=by rw[hw2];exact congrArg (fun x=>setCells w' x _) had
   rw[<-hw2]at hst hw'
   erw [hlist]at hst
   clear hw2 hok hnot hrow hrow3 hgr;conv=>whnf
   refine⟨((i+1:Nat):Int),by rw[wrap64]<;>omega,?_⟩;conv=>whnf
   intro ρ3 w3 r3;exact⟨(i+1,w3),⟨hib,hw'.tr r3.cC,iP hst hrowc r3⟩,Sub.gen [] r3 ⟨rfl,trivial⟩ ⟨rfl,rfl,rfl,rfl,trivial⟩ (by simp[dG,cW.scopd,At.sc]) (by simp[cV,SV.sc,At.sc]) (by rfl) (fun lo hi h=>h),by dsimp only;omega⟩
  have hib:i=cs.length:=by
   have:¬i<cs.length:=by simpa using hib
   omega
  subst hib;rw[ai,List.drop_of_length_le (by rw[eN,hdl];exact aG _),List.append_nil]at hrow;conv=>whnf
  refine⟨⟨by omega,by omega,by omega⟩,ao,cs.length,co,Bj ao co,by omega,by omega,?_⟩;conv=>whnf
  refine bz (cH (Φ:=fun _ w' v' w2=>∃o,v'= .tuple #[o,.int .i64 (dN (cs.map (- ·)) 0).2]∧w2.ownsRow w'.heap.size T.int 1 o cs.length ((dq (dN (cs.map (- ·)) 0).1).map (Value.int .i64))) (fun ρ w' r=>?_) ?_)
  ·have h8:=iP hrow hrowc r;have h9:=o6 h8 (by rw[aM]) (by unfold maxLen;omega);have h10:=zi (fun g hg=>(ownsRow.low h8 g hg).2) h9 hb2 (by rw[aM];omega);rw[aM]at h10;exact h10
  rintro ρ wc v1 wd r he hbb ⟨o2,rfl,hrow2⟩;have hrow2c:DL ((wc.heap.size,wd.heap.size)::iv) o2:=fun g hg=>⟨_,_,aJ,(ownsRow.low hrow2 g hg).1,(ownsRow.low hrow2 g hg).2⟩
  replace hrow2:=Dt hrow2 r.bu;replace hw:=hw.tr hbb;clear r he hbb hrow hrowc hR;generalize (wc.heap.size,wd.heap.size)::iv=iv2 at*
  generalize hds2:(dN (cs.map (- ·)) 0).1=ds2 at*
  generalize hkk2:(dN (cs.map (- ·)) 0).2=k2 at*
  obtain⟨kn,rfl⟩:∃kn:Nat,k2=kn:=⟨k2.toNat,by omega⟩
  obtain⟨ao2,co2,rfl,hco2⟩:=iw hrow2;have ds2_len:ds2.length=cs.length:=hdl2;have ds2_dg:Dg ds2:=hdg2';conv=>whnf
  refine bz (cH (Φ:=fun _ w' v w2=>da w2 (Nw (fun _=>False) w' w2) v (dq (cd kn))) (fun ρ w' r=>by exact CI kn w' (by omega)) ?_);rintro ρ ws vs wt r he hb hsp;have hspN:da wt (Cv (fun _=>False) w.heap.size ((ws.heap.size,wt.heap.size)::iv2)) vs (dq (cd kn)):=da.cG hsp fun g hg=>hg.cw r.bu aJ;replace hrow2:=ownsRow.cD (iP hrow2 hrow2c r) fun g hg=>he.block g (by have:=(ownsRow.low (iP hrow2 hrow2c r) g hg).2;exact this);replace hrow2c:DL ((ws.heap.size,wt.heap.size)::iv2) _:=hrow2c.mono fun p hp=>aD _ hp;replace hw:=hw.tr hb;clear r he hb hsp;generalize (ws.heap.size,wt.heap.size)::iv2=oo at*
  obtain⟨asp,csp,rfl,-⟩:=hspN.shape;rw[eN]at hspN ⊢;have hsl:=iW (n:=kn) (k:=4) (by omega);have hsd:=(jd kn).2;conv=>whnf
  refine .inr (vh hτ (aG _) (xs:=(dq ds2).map (Value.int .i64)) (news:=(dq (cd kn)).map (Value.int .i64)) (m:=cs.length) (k:=(cd kn).length) (by rfl) (by rfl) (by decide) (by rfl) (by rfl) (fun ρ w' r=>⟨iP hrow2 hrow2c r,fun g hg=>hrow2c.not r hg⟩) (by simp[dq]) (by intro u hu;simp at hu;obtain⟨_,_,rfl⟩:=hu;rfl) (by unfold maxLen;omega) (by omega)
   (fun ρ w' r=>?_) (fun v' w2=>pO v') (fun ρ w' v' w2 r hsz hob=>sL hrow2c r hob) (fun ρ w' v' w2 r h5 h6 h7=>?_))
  ·obtain⟨_,_,_,a2,c2,e2,_,e3⟩:=hspN;injection e2 with e4 e5 e6;subst e4 e6
   cases asp with
   |none=>
    have h0:(cd kn).length=0:=by
     rcases bE (cd kn).length with h0|h0
     ·exact h0
     ·obtain⟨ad2,q1,_⟩:=e3 0 _ (aB (show 0<((dq (cd kn)).map (Value.int .i64)).length by simp[dq];exact h0))
      cases q1
    exact .inl ⟨csp,by rw[h0];rfl,h0⟩
   |some ad3=>
    refine .inr ⟨ad3,csp,rfl,fun j u hu=>?_⟩;obtain⟨ad2,q1,q2,q3⟩:=e3 j u hu;injection q1 with q1;subst q1;rw[bw (w:=wt) (w2:=w') (by rw[cL];exact Rel.same r (bs w) q2)];exact q3
  replace hw:cN w.heap.size w w2:=(hw.tr r.cC).tr (cN.grown h6 (fun g hg=>by
   have:=(ownsRow.low hrow2 g hg).1;omega) r.bu)
  have hcat:(dq ds2).map (Value.int .i64)++(dq (cd kn)).map (Value.int .i64)=(dq (ds2++cd kn)).map (Value.int .i64):=by rw[sM,List.map_append]
  rw[hcat]at h5;have hnl:cs.length+(cd kn).length=(dq (ds2++cd kn)).length:=by rw[eN,List.length_append,ds2_len]
  have hdg2:Dg (ds2++cd kn):=ds2_dg.append hsd;have hl2:(ds2++cd kn).length<=1000000000:=by rw[List.length_append,ds2_len];omega
  obtain⟨a3,c3,rfl,-⟩:=iw h5;clear r hrow2 hrow2c hspN h6 h7;conv=>whnf
  refine bz (cH (Φ:=fun _ w' v' w2=>∃lv,v'= .agg #[.bool false,lv]∧dF w2 (Nw (fun _=>False) w' w2) lv (dX (fy (ds2++cd kn)))) (fun ρ w' r=>?_) ?_)
  ·have h8:=iP h5 (DL.row _) r;have h9:=o6 h8 hnl (by unfold maxLen;omega);have h10:=CJ (w:=w') (fun g hg=>(ownsRow.low h8 g hg).2) h9 hdg2 hl2;exact h10
  rintro ρ wp v1 wq r he hb ⟨lv,rfl,hL⟩;have hLN:=hL.cw (S:=fun _=>False) r.bu (iv:=[(wp.heap.size,wq.heap.size)]) aJ;have hLN:dF wq (Cv (fun _=>False) w.heap.size ((wp.heap.size,wq.heap.size)::pO (.slice a3 (cs.length+(cd kn).length) c3))) lv (dX (fy (ds2++cd kn))):=hL.cG fun g hg=>hg.cw r.bu aJ;replace hw:=hw.tr hb;clear r he hb hL h5;generalize (wp.heap.size,wq.heap.size)::pO (.slice a3 (cs.length+(cd kn).length) c3)=ivq at*
  obtain⟨hnz,hvv⟩:=yB hdg2;obtain⟨a4,n4,c4,rfl⟩:=hLN.shape;have hcv: -dH cs=kJ (ds2++cd kn):=by rw[hspec2,uK,(jd kn).1,ds2_len]
  obtain⟨pp,hpe,hpp⟩:=hLN.la;injection hpe with hpe1 hpe2 hpe3;subst hpe1 hpe2 hpe3;have hlenpos:0<pp.ls.length:=by
   rw[hpp];rcases bE (dX (fy (ds2++cd kn))).length with h0|h0
   ·rw[List.eq_nil_of_length_eq_zero h0]at hvv;simp[val]at hvv;omega
   ·exact h0
  conv=>whnf
  intro ρe we re;refine⟨_,rfl,hw.tr re.cC,dX (fy (ds2++cd kn)),⟨_,?_,hLN.out re (bs w)⟩,hnz,?_⟩
  ·rw[bJ hV];have:decide ((pp.ls.length:Int)>0)=true:=bJ (by omega);rw[<-this];rfl
  ·have:((val (dX (fy (ds2++cd kn))):Nat):Int)= -dH cs:=by rw[hvv,hcv]
   omega
 ·have hneg:=aH hneg;obtain⟨kn,rfl⟩:∃kn:Nat,k=kn:=⟨k.toNat,by omega⟩
  have ds_len:ds.length=cs.length:=hdl;have ds_dg:Dg ds:=hdg;conv=>whnf
  refine bz (cH (Φ:=fun _ w' v w2=>da w2 (Nw (fun _=>False) w' w2) v (dq (cd kn))) (fun ρ w' r=>by exact CI kn w' (by omega)) ?_);rintro ρ ws vs wt r he hb hsp;have hspN:da wt (Cv (fun _=>False) w.heap.size ((ws.heap.size,wt.heap.size)::iv)) vs (dq (cd kn)):=da.cG hsp fun g hg=>hg.cw r.bu aJ;replace hrow:=ownsRow.cD (iP hrow hrowc r) fun g hg=>he.block g (by have:=(ownsRow.low (iP hrow hrowc r) g hg).2;exact this);replace hrowc:DL ((ws.heap.size,wt.heap.size)::iv) _:=hrowc.mono fun p hp=>aD _ hp;replace hw:=hw.tr hb;clear r he hb hsp;generalize (ws.heap.size,wt.heap.size)::iv=oo at*
  obtain⟨asp,csp,rfl,-⟩:=hspN.shape;rw[eN]at hspN ⊢;have hsl:=iW (n:=kn) (k:=4) (by omega);have hsd:=(jd kn).2;conv=>whnf
  refine .inr (vh hτ (aG _) (xs:=(dq ds).map (Value.int .i64)) (news:=(dq (cd kn)).map (Value.int .i64)) (m:=cs.length) (k:=(cd kn).length) (by rfl) (by rfl) (by decide) (by rfl) (by rfl) (fun ρ w' r=>⟨iP hrow hrowc r,fun g hg=>hrowc.not r hg⟩) (by simp[dq]) (by intro u hu;simp at hu;obtain⟨_,_,rfl⟩:=hu;rfl) (by unfold maxLen;omega) (by omega)
   (fun ρ w' r=>?_) (fun v' w2=>pO v') (fun ρ w' v' w2 r hsz hob=>sL hrowc r hob) (fun ρ w' v' w2 r h5 h6 h7=>?_))
  ·obtain⟨_,_,_,a2,c2,e2,_,e3⟩:=hspN;injection e2 with e4 e5 e6;subst e4 e6
   cases asp with
   |none=>
    have h0:(cd kn).length=0:=by
     rcases bE (cd kn).length with h0|h0
     ·exact h0
     ·obtain⟨ad2,q1,_⟩:=e3 0 _ (aB (show 0<((dq (cd kn)).map (Value.int .i64)).length by simp[dq];exact h0))
      cases q1
    exact .inl ⟨csp,by rw[h0];rfl,h0⟩
   |some ad3=>
    refine .inr ⟨ad3,csp,rfl,fun j u hu=>?_⟩;obtain⟨ad2,q1,q2,q3⟩:=e3 j u hu;injection q1 with q1;subst q1;rw[bw (w:=wt) (w2:=w') (by rw[cL];exact Rel.same r (bs w) q2)];exact q3
  replace hw:cN w.heap.size w w2:=(hw.tr r.cC).tr (cN.grown h6 (fun g hg=>by
   have:=(ownsRow.low hrow g hg).1;omega) r.bu)
  have hcat:(dq ds).map (Value.int .i64)++(dq (cd kn)).map (Value.int .i64)=(dq (ds++cd kn)).map (Value.int .i64):=by rw[sM,List.map_append]
  rw[hcat]at h5;have hnl:cs.length+(cd kn).length=(dq (ds++cd kn)).length:=by rw[eN,List.length_append,ds_len]
  have hdg2:Dg (ds++cd kn):=ds_dg.append hsd;have hl2:(ds++cd kn).length<=1000000000:=by rw[List.length_append,ds_len];omega
  obtain⟨a3,c3,rfl,-⟩:=iw h5;clear r hrow hrowc hspN h6 h7;conv=>whnf
  refine bz (cH (Φ:=fun _ w' v' w2=>∃lv,v'= .agg #[.bool false,lv]∧dF w2 (Nw (fun _=>False) w' w2) lv (dX (fy (ds++cd kn)))) (fun ρ w' r=>?_) ?_)
  ·have h8:=iP h5 (DL.row _) r;have h9:=o6 h8 hnl (by unfold maxLen;omega);have h10:=CJ (w:=w') (fun g hg=>(ownsRow.low h8 g hg).2) h9 hdg2 hl2;exact h10
  rintro ρ wp v1 wq r he hb ⟨lv,rfl,hL⟩;have hLN:=hL.cw (S:=fun _=>False) r.bu (iv:=[(wp.heap.size,wq.heap.size)]) aJ;have hLN:dF wq (Cv (fun _=>False) w.heap.size ((wp.heap.size,wq.heap.size)::pO (.slice a3 (cs.length+(cd kn).length) c3))) lv (dX (fy (ds++cd kn))):=hL.cG fun g hg=>hg.cw r.bu aJ;replace hw:=hw.tr hb;clear r he hb hL h5;generalize (wp.heap.size,wq.heap.size)::pO (.slice a3 (cs.length+(cd kn).length) c3)=ivq at*
  obtain⟨hnz,hvv⟩:=yB hdg2;obtain⟨a4,n4,c4,rfl⟩:=hLN.shape;conv=>whnf
  intro ρe we re;have hcv:dH cs=kJ (ds++cd kn):=by rw[hspec,uK,(jd kn).1,ds_len]
  refine⟨_,rfl,hw.tr re.cC,dX (fy (ds++cd kn)),⟨_,?_,hLN.out re (bs w)⟩,hnz,?_⟩
  ·have:¬dH cs<0:=by rw[hcv,<-hvv];omega
   rw[bC this];rfl
  ·rw[hcv,<-hvv];rfl
theorem Iu(n:Int):dH [n.tmod 65536,(n.tdiv 65536).tmod 65536,(n.tdiv 65536).tdiv 65536]=n:=by
 simp only[dH]
 have h1:=Int.mul_tdiv_add_tmod n 65536;have h2:=Int.mul_tdiv_add_tmod (n.tdiv 65536) 65536;omega
theorem j6(n:Int)(w:World)(h1: -9223372036854775808<=n)(h2:n<=9223372036854775807):
  dh PG N.Be #[.int .i64 n] w (dw w fun v w2=>dC w2 (Nw (fun _=>False) w w2) v n):=by
 refine Bg (by simp) ?_;have b1:=tP n;have b2:=tP (n.tdiv 65536);have e1:=Int.mul_tdiv_add_tmod n 65536;have e2:=Int.mul_tdiv_add_tmod (n.tdiv 65536) 65536;have hsum:=Iu n;conv=>whnf
 refine⟨by decide,n.tmod 65536,rfl,?_⟩;conv=>whnf
 refine⟨by decide,n.tdiv 65536,by rw[wrap64]<;>omega,?_⟩;conv=>whnf
 refine⟨by decide,_,rfl,?_⟩;conv=>whnf
 refine⟨by decide,n.tdiv 65536,by rw[wrap64]<;>omega,?_⟩;conv=>whnf
 refine⟨by decide,(n.tdiv 65536).tdiv 65536,by rw[wrap64]<;>omega,?_⟩;conv=>whnf
 generalize n.tmod 65536=c0 at*
 generalize (n.tdiv 65536).tmod 65536=c1 at*
 generalize (n.tdiv 65536).tdiv 65536=c2 at*
 refine bz (cH (Φ:=fun _ w' v w2=>dC w2 (Nw (fun _=>False) w' w2) v n) (fun ρ w' r=>?_) ?_)
 ·rw[<-hsum];have ha:=r.oE (id:=1) (sz:=1) (n:=3) rfl rfl (by decide) (by intro u hu;simp at hu;rcases hu with rfl|rfl|rfl<;>rfl)
  exact tQ (S:=fun g=>g=(ρ 1).g) (fun g hg=>by rw[hg];exact(r.low 1 _ rfl (r.nn 1 _ rfl (by intros;simp) (by simp))).2) (cs:=[c0,c1,c2]) ha (by
   intro c hc;simp at hc
   rcases hc with rfl|rfl|rfl<;>omega) (by simp)
 rintro ρ wa v1 wb r he hb hI;have hI:=hI.cw (S:=fun _=>False) r.bu (iv:=(wa.heap.size,wb.heap.size)::[]) aJ;clear r he;generalize (wa.heap.size,wb.heap.size)::[]=iv at*
 obtain⟨b,a,m,c,rfl⟩:=hI.shape;conv=>whnf
 intro ρe we re;exact⟨_,rfl,hb.tr re.cC,hI.out re (bs w)⟩
def iz(z:Int):Value:=if z.natAbs<1073741824 then .tuple #[.int .i64 z,.bool true]else .tuple #[.int .i64 0,.bool false]
theorem ie.CK{S:Nat->Prop}{w:World}{v:Value}{z:Int}(h:ie w S v z):∃b a ls c,v= .agg #[.bool b,.slice a ls.length c]∧dF w S (.slice a ls.length c) ls∧sg b (val ls)=z:=by
 obtain⟨b,ls,⟨lv,h1,h2⟩,h3⟩:=h;obtain⟨a,c,rfl,_⟩:=h2.sl;exact⟨b,a,ls,c,h1,h2,h3⟩
theorem Hd{ls:List Nat}{i x:Nat}(h:ls[i]? =some x):wt i*x<=val ls:=by
 have hi:=(aE.1 h).1;have h1:=eJ ls (i+1) hi;rw[dR h]at h1;omega
theorem JY{i:Nat}(h:0<i):4294967296<=wt i:=by
 obtain⟨k,rfl⟩:∃k,i=k+1:=⟨i-1,by omega⟩
 have:=zy k;rw[gu];omega
theorem l0{S:Nat->Prop}{w:World}{v:Value}{z:Int}(hS:Old S w)(hI:ie w S v z):
  dh PG N.tu #[v] w (dw w fun v' _=>v'=iz z):=by
 obtain⟨b,a,ls,c,rfl,hL,hz⟩:=hI.CK;refine xX (by simp) ?_;conv=>whnf
 have hlen:=hL.le
 refine⟨Nat×World,fun y=>⟨[(1,.o (.p 0 0)),(4,.o (.v (.int .i64 (val (ls.take y.1))))),(5,.o (.v (.int .i64 y.1)))],[(0,.box T.Int [.v (.bool b),.v (.slice a ls.length c)])],1,[],y.2⟩,fun y=>ls.length-y.1,
  fun y=>y.1<=ls.length∧cN w.heap.size w y.2∧val (ls.take y.1)<1073741824∧(∀j,0<j->j<y.1->ls[j]? =some 0),?_,?_⟩
 ·intro ρ w' r;exact⟨(0,w'),⟨by simp,r.cC,by simp[val],by omega⟩,Sub.gen [] r ⟨rfl,trivial⟩ ⟨rfl,rfl,rfl,trivial⟩ (by simp[dG,cW.scopd,At.sc]) (by simp[cV,SV.sc,At.sc]) (by rfl) (fun lo hi h=>h)⟩
 rintro⟨i,w1⟩ ⟨hi,hw,hv,h0⟩;dsimp only at hi hw hv h0 ⊢;conv=>whnf
 refine dE.mk (fun hib=>?_) (fun hib=>?_)
 ·have hib:i<ls.length:=by simpa using hib
  obtain⟨a',c',e,_,hcell⟩:=hL.sl;injection e with e1 e2 e3;subst e1 e3;obtain⟨x,hx⟩:∃x,ls[i]? =some x:=⟨_,aB hib⟩
  have hx32:=hL.lm x (aF hx);obtain⟨ad,rfl,q1,q2⟩:=hcell i x hx;have hld:∀{H nx iv ρ w'},Rel H nx iv w.heap.size w1 ρ w'->w'.cell? (ad.add ((i:Int).toNat*1))=some (.int .u32 x):=fun r=>by
   rw[aC,aR];exact jC hS hw r q1 q2
  have hge:=Hd hx;conv=>whnf
  refine dE.mk (fun hp=>?_) (fun hp=>?_)
  ·have hp:0<i:=by
    have:(i:Int)>0:=aI hp;omega
   have hw1:=JY hp;conv=>whnf
   refine⟨ad,rfl,⟨by omega,by omega⟩,?_⟩;conv=>whnf
   refine⟨.int .u32 x,fun ρ w' r=>hld r,?_⟩;conv=>whnf
   refine dE.mk (fun hne=>?_) (fun hne=>?_)
   ·have hne:x≠0:=by simpa using hne
    conv=>whnf
    intro ρe we re;refine⟨_,rfl,hw.tr re.cC,?_⟩;have:¬z.natAbs<1073741824:=by
     have:=Nat.mul_le_mul hw1 (show 1<=x by omega);rw[<-hz,qO];omega
    show _=iz z;rw[iz,aK this];rfl
   ·have hne:x=0:=by simpa using hne
    subst hne;conv=>whnf
    refine⟨ad,rfl,⟨by omega,by omega⟩,?_⟩;conv=>whnf
    refine⟨.int .u32 0,fun ρ w' r=>hld r,?_⟩;conv=>whnf
    have hnx:val (ls.take (i+1))=val (ls.take i):=by rw[dR hx];omega
    have hv2:val (ls.take (i+1))<1073741824:=by rw[hnx];exact hv
    have h02:∀j,0<j->j<i+1->ls[j]? =some 0:=fun j h1 h2=>by
     rcases aV j i with h3|h3
     ·exact h0 j h1 h3
     ·have:j=i:=by omega
      rw[this];exact hx
    refine⟨ad,rfl,⟨by omega,by omega⟩,?_⟩;conv=>whnf
    refine⟨.int .u32 0,fun ρ w' r=>hld r,?_⟩;conv=>whnf
    refine⟨((0:Nat):Int),by decide,?_⟩;conv=>whnf
    refine⟨((val (ls.take (i+1)):Nat):Int),by rw[hnx,wrap64]<;>omega,?_⟩;conv=>whnf
    refine⟨((i+1:Nat):Int),by rw[wrap64]<;>omega,?_⟩;conv=>whnf
    intro ρ3 w3 r3;exact⟨(i+1,w3),⟨hib,hw.tr r3.cC,hv2,h02⟩,Sub.gen [] r3 ⟨rfl,trivial⟩ ⟨rfl,rfl,rfl,trivial⟩ (by simp[dG,cW.scopd,At.sc]) (by simp[cV,SV.sc,At.sc]) (by rfl) (fun lo hi h=>h),by dsimp only;omega⟩
  ·have hp:i=0:=by
    have:¬((i:Int)>0):=aH hp;omega
   subst hp;conv=>whnf
   refine⟨ad,rfl,⟨by omega,by omega⟩,?_⟩;conv=>whnf
   refine⟨.int .u32 x,fun ρ w' r=>hld r,?_⟩;conv=>whnf
   refine dE.mk (fun hbig=>?_) (fun hbig=>?_)
   ·have hbig:=aI hbig;conv=>whnf
    intro ρe we re;refine⟨_,rfl,hw.tr re.cC,?_⟩;have:¬z.natAbs<1073741824:=by
     rw[<-hz,qO];rw[iM]at hge;omega
    show _=iz z;rw[iz,aK this];rfl
   ·have hbig:=aH hbig;have hnx:val (ls.take (0+1))=x:=by rw[dR hx];simp[val,iM]
    have hv2:val (ls.take (0+1))<1073741824:=by rw[hnx];omega
    have h02:∀j,0<j->j<0+1->ls[j]? =some 0:=fun j h1 h2=>by
     omega
    conv=>whnf
    refine⟨ad,rfl,⟨by omega,by omega⟩,?_⟩;conv=>whnf
    refine⟨.int .u32 x,fun ρ w' r=>hld r,?_⟩;conv=>whnf
    refine⟨((x:Nat):Int),by rw[wrap64]<;>omega,?_⟩;conv=>whnf
    refine⟨((val (ls.take (0+1)):Nat):Int),by rw[hnx,wrap64]<;>simp[val]<;>omega,?_⟩;conv=>whnf
    refine⟨((0+1:Nat):Int),by rw[wrap64]<;>omega,?_⟩;conv=>whnf
    intro ρ3 w3 r3;exact⟨(0+1,w3),⟨hib,hw.tr r3.cC,hv2,h02⟩,Sub.gen [] r3 ⟨rfl,trivial⟩ ⟨rfl,rfl,rfl,trivial⟩ (by simp[dG,cW.scopd,At.sc]) (by simp[cV,SV.sc,At.sc]) (by rfl) (fun lo hi h=>h),by dsimp only;omega⟩
 ·have hib:i=ls.length:=by
   have:¬i<ls.length:=by simpa using hib
   omega
  subst hib;rw[ai]at hv ⊢;have hlt:z.natAbs<1073741824:=by rw[<-hz,qO];exact hv
  conv=>whnf
  cases b with
  |true=>
   conv=>whnf
   refine⟨-(val ls:Int),by rw[wrap64]<;>omega,?_⟩;conv=>whnf
   intro ρe we re;refine⟨_,rfl,hw.tr re.cC,?_⟩;show _=iz z;rw[iz,if_pos hlt,<-hz,GR];rfl
  |false=>
   conv=>whnf
   intro ρe we re;refine⟨_,rfl,hw.tr re.cC,?_⟩;show _=iz z;rw[iz,if_pos hlt,<-hz,Ii];rfl
theorem zj{a b:Int}(hb:b≠0):a.tdiv (b.sign*(Nat.gcd a.natAbs b.natAbs:Nat))=(Rat.divInt a b).num∧b.tdiv (b.sign*(Nat.gcd a.natAbs b.natAbs:Nat))=((Rat.divInt a b).den:Int):=by
 have hg:0<Nat.gcd a.natAbs b.natAbs:=bf _ (by omega);obtain⟨k,hk⟩:((Nat.gcd a.natAbs b.natAbs:Nat):Int) ∣ a:=by rw[<-Int.natAbs_dvd_natAbs];exact Nat.gcd_dvd_left _ _
 obtain⟨l,hl⟩:((Nat.gcd a.natAbs b.natAbs:Nat):Int) ∣ b:=by rw[<-Int.natAbs_dvd_natAbs];exact Nat.gcd_dvd_right _ _
 have hc:(b.gcd a:Int)=(Nat.gcd a.natAbs b.natAbs:Nat):=by rw[Int.gcd_comm];rfl
 have hc2:b.gcd a=Nat.gcd a.natAbs b.natAbs:=by rw[Int.gcd_comm];rfl
 rw[Rat.num_divInt,Rat.den_divInt,aK hb,hc,hc2];generalize Nat.gcd a.natAbs b.natAbs=g at*
 have hgi:(g:Int)≠0:=by omega
 have hs:b.sign*b.sign=1:=by
  rcases Int.lt_or_gt_of_ne hb with h|h
  ·rw[bX h];rfl
  ·rw[b9 h];rfl
 have hs0:b.sign≠0:=fun e=>by rw[e]at hs;simp at hs
 have hne:b.sign*g≠0:=Int.mul_ne_zero hs0 hgi;have hab:((b.natAbs / g:Nat):Int)=b.sign*l:=by
  rw[Int.natCast_ediv,show((b.natAbs:Nat):Int)=b.sign*b by
   rcases Int.lt_or_gt_of_ne hb with h|h
   ·rw[bX h];omega
   ·rw[b9 h];omega]
  conv=>lhs;lhs;rhs;rw[hl]
  rw[show b.sign*(↑g*l)= ↑g*(b.sign*l) by rw[<-Int.mul_assoc,<-Int.mul_assoc,Int.mul_comm b.sign]];exact Int.mul_ediv_cancel_left _ hgi
 constructor
 ·rw[show b.sign*a / (g:Int)=b.sign*k by
   conv=>lhs;lhs;rhs;rw[hk]
   rw[show b.sign*(↑g*k)= ↑g*(b.sign*k) by rw[<-Int.mul_assoc,<-Int.mul_assoc,Int.mul_comm b.sign]]
   exact Int.mul_ediv_cancel_left _ hgi]
  conv=>lhs;lhs;rw[hk,show(g:Int)*k=(b.sign*g)*(b.sign*k) by
   rw[show (b.sign* ↑g)*(b.sign*k)=(b.sign*b.sign)*(↑g*k) by simp only[Int.mul_assoc,Int.mul_comm,Int.mul_left_comm],hs,Int.one_mul]]
  exact Int.mul_tdiv_cancel_left _ hne
 ·rw[hab]
  conv=>lhs;lhs;rw[hl,show(g:Int)*l=(b.sign*g)*(b.sign*l) by
   rw[show (b.sign* ↑g)*(b.sign*l)=(b.sign*b.sign)*(↑g*l) by simp only[Int.mul_assoc,Int.mul_comm,Int.mul_left_comm],hs,Int.one_mul]]
  exact Int.mul_tdiv_cancel_left _ hne
theorem o7(a b:Int)(w:World)(ha:a.natAbs<4611686018427387904)(hb:b.natAbs<4611686018427387904)(hb0:b≠0):
  dh PG N.rH #[.int .i64 a,.int .i64 b] w (dw w fun v w2=>cR w2 (Nw (fun _=>False) w w2) v (Rat.divInt a b)):=by
 refine ua (by simp) ?_;conv=>whnf
 refine⟨-a,by rw[wrap64]<;>omega,?_⟩;conv=>whnf
 refine⟨-b,by rw[wrap64]<;>omega,?_⟩;conv=>whnf
 rw[show max a (-a)=(a.natAbs:Int) by omega,show max b (-b)=(b.natAbs:Int) by omega]
 refine⟨Nat×Nat×World,fun z=>⟨[(0,.o (.v (.int .i64 a))),(1,.o (.v (.int .i64 b))),(4,.o (.p 0 0)),(5,.o (.v (.int .i64 z.1))),(6,.o (.v (.int .i64 z.2.1)))],[(0,.box T.Rat [.v (.bool false),.v (.slice none 0 0),.v (.bool false),.v (.slice none 0 0)])],1,[],z.2.2⟩,fun z=>z.2.1,
  fun z=>cN w.heap.size w z.2.2∧Nat.gcd z.1 z.2.1=Nat.gcd a.natAbs b.natAbs∧z.1<4611686018427387904∧z.2.1<4611686018427387904,?_,?_⟩
 ·intro ρ w' r;exact⟨(a.natAbs,b.natAbs,w'),⟨r.cC,rfl,ha,hb⟩,Sub.gen [] r ⟨rfl,trivial⟩ ⟨rfl,rfl,rfl,rfl,rfl,trivial⟩ (by simp[dG,cW.scopd,At.sc]) (by simp[cV,SV.sc,At.sc]) (by rfl) (fun lo hi h=>h)⟩
 rintro⟨x,y,w1⟩ ⟨hw,hg,hx,hy⟩;dsimp only at hw hg hx hy ⊢;conv=>whnf
 refine dE.mk (fun h=>?_) (fun h=>?_)
 ·have h:0<y:=by
   have:(y:Int)>0:=aI h;omega
  conv=>whnf
  refine cF hτ dV [.x 0,.x 1,.x 2,.x 3,.x 4,.x 5] (by kernel_rfl) (by kernel_rfl) ?_;conv=>whnf
  have hm:=bm x h;refine⟨by omega,((x % y:Nat):Int),rfl,?_⟩;conv=>whnf
  intro ρ3 w3 r3;exact⟨(y,x % y,w3),⟨hw.tr r3.cC,by dsimp only;rw[<-hg,Nat.gcd_comm x y,Nat.gcd_rec y x,Nat.gcd_comm],hy,by dsimp only;omega⟩,Sub.gen [] r3 ⟨rfl,trivial⟩ ⟨rfl,rfl,rfl,rfl,rfl,trivial⟩ (by simp[dG,cW.scopd,At.sc]) (by simp[cV,SV.sc,At.sc]) (by rfl) (fun lo hi h=>h),by dsimp only;omega⟩
 have h:y=0:=by
  have:¬(y:Int)>0:=aH h;omega
 subst h;rw[Nat.gcd_zero_right]at hg;have hx0:x≠0:=by rw[hg];exact Nat.pos_iff_ne_zero.1 (bf _ (by omega))
 obtain⟨hn,hd⟩:=zj (a:=a) hb0;rw[<-hg]at hn hd;have bn:(Rat.divInt a b).num.natAbs<=a.natAbs:=by rw[<-hn];exact Int.natAbs_tdiv_le_natAbs _ _
 have bd:((Rat.divInt a b).den:Int).natAbs<=b.natAbs:=by rw[<-hd];exact Int.natAbs_tdiv_le_natAbs _ _
 conv=>whnf
 refine dE.mk (fun hb1=>?_) (fun hb1=>?_)
 ·have hb1:=aI hb1;rw[bX hb1,Int.neg_one_mul]at hn hd;conv=>whnf
  refine⟨-(x:Int),by rw[wrap64]<;>omega,?_⟩;conv=>whnf
  refine cF hτ dV [.x 0,.x 1,.x 2,.x 4,.x 5,.x 6,.x 3,.x 7,.x 8,.x 9] (by kernel_rfl) (by kernel_rfl) ?_;conv=>whnf
  refine⟨by omega,(Rat.divInt a b).num,by rw[hn,wrap64]<;>omega,?_⟩;conv=>whnf
  refine⟨by omega,((Rat.divInt a b).den:Int),by rw[hd,wrap64]<;>omega,?_⟩;conv=>whnf
  refine cH (Φ:=fun _ w' v w2=>dC w2 (Nw (fun _=>False) w' w2) v (Rat.divInt a b).num) (fun ρ w' r=>j6 _ w' (by omega) (by omega)) ?_;rintro ρ wa v1 wb r he hbb hI;replace hw:=hw.tr hbb;have hN:=hI.cw (S:=fun _=>False) r.bu (iv:=(wa.heap.size,wb.heap.size)::[]) aJ;clear r he hI hbb;generalize (wa.heap.size,wb.heap.size)::[]=iv at*
  obtain⟨b1,a1,m1,c1,rfl⟩:=hN.shape;conv=>whnf
  refine cH (Φ:=fun _ w' v w2=>dC w2 (Nw (fun _=>False) w' w2) v ((Rat.divInt a b).den:Int)) (fun ρ w' r=>j6 _ w' (by omega) (by omega)) ?_;rintro ρ wa v1 wb2 r he hbb hI;replace hw:=hw.tr hbb;replace hN:=hN.cB (iv':=(wa.heap.size,wb2.heap.size)::iv) r (bs w) he fun x hx=>aD _ hx;have hD:=hI.cw (S:=fun _=>False) r.bu (iv:=(wa.heap.size,wb2.heap.size)::iv) aJ;clear r he hI hbb;generalize (wa.heap.size,wb2.heap.size)::iv=iv2 at*
  obtain⟨b2,a2,m2,c2,rfl⟩:=hD.shape;conv=>whnf
  intro ρe we re;exact⟨_,rfl,hw.tr re.cC,(cR.of hN hD).out re (bs w)⟩
 ·have hb1:=aH hb1;rw[b9 (by omega),Int.one_mul]at hn hd;conv=>whnf
  refine cF hτ dV [.x 0,.x 1,.x 2,.x 4,.x 5,.x 6,.x 3,.x 7,.x 8,.x 9] (by kernel_rfl) (by kernel_rfl) ?_;conv=>whnf
  refine⟨by omega,(Rat.divInt a b).num,by rw[hn,wrap64]<;>omega,?_⟩;conv=>whnf
  refine⟨by omega,((Rat.divInt a b).den:Int),by rw[hd,wrap64]<;>omega,?_⟩;conv=>whnf
  refine cH (Φ:=fun _ w' v w2=>dC w2 (Nw (fun _=>False) w' w2) v (Rat.divInt a b).num) (fun ρ w' r=>j6 _ w' (by omega) (by omega)) ?_;rintro ρ wa v1 wb r he hbb hI;replace hw:=hw.tr hbb;have hN:=hI.cw (S:=fun _=>False) r.bu (iv:=(wa.heap.size,wb.heap.size)::[]) aJ;clear r he hI hbb;generalize (wa.heap.size,wb.heap.size)::[]=iv at*
  obtain⟨b1,a1,m1,c1,rfl⟩:=hN.shape;conv=>whnf
  refine cH (Φ:=fun _ w' v w2=>dC w2 (Nw (fun _=>False) w' w2) v ((Rat.divInt a b).den:Int)) (fun ρ w' r=>j6 _ w' (by omega) (by omega)) ?_;rintro ρ wa v1 wb2 r he hbb hI;replace hw:=hw.tr hbb;replace hN:=hN.cB (iv':=(wa.heap.size,wb2.heap.size)::iv) r (bs w) he fun x hx=>aD _ hx;have hD:=hI.cw (S:=fun _=>False) r.bu (iv:=(wa.heap.size,wb2.heap.size)::iv) aJ;clear r he hI hbb;generalize (wa.heap.size,wb2.heap.size)::iv=iv2 at*
  obtain⟨b2,a2,m2,c2,rfl⟩:=hD.shape;conv=>whnf
  intro ρe we re;exact⟨_,rfl,hw.tr re.cC,(cR.of hN hD).out re (bs w)⟩
theorem sN{z:Int}(h:z.natAbs<1073741824):iz z= .tuple #[.int .i64 z,.bool true]:=if_pos h
theorem Al{S:Nat->Prop}{w:World}{v u:Value}{x y:Int}(hS:Old S w)(hx:ie w S v x)(hy:ie w S u y)(hxs:x.natAbs<1073741824)(hys:y.natAbs<1073741824)(hy0:y≠0):
  dh PG N.po #[v,u] w (dw w fun v' w2=>cR w2 (Nw (fun _=>False) w w2) v' (Rat.divInt x y)):=by
 have hw:cN w.heap.size w w:=cN.refl;replace hx:=hx.cG (S':=Cv S w.heap.size []) fun _ h=>.inl h;replace hy:=hy.cG (S':=Cv S w.heap.size []) fun _ h=>.inl h;obtain⟨bx,ax,lx,cx,rfl⟩:=hx.shape;obtain⟨b2,ay,ly,cy,rfl⟩:=hy.shape;refine pJ (by simp) ?_;conv=>whnf
 refine bz (cE hw (Φ:=fun _ w' v w2=>v= .tuple #[.int .i64 x,.bool true]) (fun ρ w' r=>(l0 (Rel.old r hS) (hx.rel r hS)).mono fun e w2 ⟨v2,e1,e2,e3⟩=>⟨v2,e1,e2,by rw[e3,sN hxs]⟩) ?_);rintro ρ wa1 v1 wb1 iv1 r he hw h_ rfl;replace hx:=hx.cB r hS he (mC h_);replace hy:=hy.cB r hS he (mC h_);clear r;conv=>whnf
 refine bz (cE hw (Φ:=fun _ w' v w2=>v= .tuple #[.int .i64 y,.bool true]) (fun ρ w' r=>(l0 (Rel.old r hS) (hy.rel r hS)).mono fun e w2 ⟨v2,e1,e2,e3⟩=>⟨v2,e1,e2,by rw[e3,sN hys]⟩) ?_);rintro ρ wa1 v1 wb1 iv2 r he hw h_ rfl;clear r hx hy;conv=>whnf
 refine bz (cE hw (Φ:=fun _ w' v w2=>cR w2 (Nw (fun _=>False) w' w2) v (Rat.divInt x y)) (fun ρ w' r=>o7 x y w' (by omega) (by omega) hy0) ?_);rintro ρ wa v1 wb iv r he hw h_ hI;have hR:=hI.cw (S:=fun _=>False) r.bu (mN h_);clear r;obtain⟨b1,a1,m1,c1,b3,a3,m3,c3,rfl⟩:=hR.shape;conv=>whnf
 intro ρe we re;exact⟨_,rfl,hw.tr re.cC,hR.out re (bs w)⟩
theorem yC(n:Int):Rat.divInt n 1=(n:Rat):=by
 have:=Rat.num_divInt_den (n:Rat);rw[Rat.num_intCast,Rat.den_intCast]at this;exact this
theorem jz(n:Int)(w:World)(hn:n.natAbs<1073741824):
  dh PG N.nS #[.int .i64 n] w (dw w fun v' w2=>cR w2 (Nw (fun _=>False) w w2) v' (n:Rat)):=by
 have hw:cN w.heap.size w w:=cN.refl;refine nf (by simp) ?_;conv=>whnf
 refine bz (cH (Φ:=fun _ w' v w2=>dC w2 (Nw (fun _=>False) w' w2) v n) (fun ρ w' r=>j6 _ w' (by omega) (by omega)) ?_);rintro ρ wa v1 wb r he hbb hI;replace hw:=hw.tr hbb;have hN:=hI.cw (S:=fun _=>False) r.bu (iv:=(wa.heap.size,wb.heap.size)::[]) aJ;clear r he hI hbb;generalize (wa.heap.size,wb.heap.size)::[]=iv at*
 obtain⟨b1,a1,m1,c1,rfl⟩:=hN.shape;conv=>whnf
 refine bz (cH (Φ:=fun _ w' v w2=>dC w2 (Nw (fun _=>False) w' w2) v 1) (fun ρ w' r=>j6 _ w' (by omega) (by omega)) ?_);rintro ρ wa v1 wb2 r he hbb hI;replace hw:=hw.tr hbb;replace hN:=hN.cB (iv':=(wa.heap.size,wb2.heap.size)::iv) r (bs w) he fun x hx=>aD _ hx;have hD:=hI.cw (S:=fun _=>False) r.bu (iv:=(wa.heap.size,wb2.heap.size)::iv) aJ;clear r he hI hbb;generalize (wa.heap.size,wb2.heap.size)::iv=iv2 at*
 obtain⟨b2,a2,m2,c2,rfl⟩:=hD.shape;conv=>whnf
 refine bz (cE hw (Φ:=fun _ w' v w2=>cR w2 (Nw (fun _=>False) w' w2) v (Rat.divInt n 1)) (fun ρ w' r=>Al (Rel.old r (bs w)) (hN.rel r (bs w)).r (hD.rel r (bs w)).r hn (by decide) (by decide)) ?_);rintro ρ wa v1 wb iv r he hw h_ hI;have hR:=hI.cw (S:=fun _=>False) r.bu (mN h_);clear r he hI;obtain⟨b1,a1,m1,c1,b3,a3,m3,c3,rfl⟩:=hR.shape;rw[yC]at hR;conv=>whnf
 intro ρe we re;exact⟨_,rfl,hw.tr re.cC,hR.out re (bs w)⟩
theorem He{S:Nat->Prop}{w:World}{v u:Value}{n1 n2:Bool}{ls ms:List Nat}(hS:Old S w)(hx:sD w S v n1 ls)(hy:sD w S u n2 ms):
  dh PG N.km #[v,u] w (dw w fun v' _=>v'= .bool (decide (n1=n2∧ls=ms))):=by
 obtain⟨lv,rfl,h1⟩:=hx;obtain⟨mv,rfl,h2⟩:=hy;obtain⟨a,c,rfl,_,ha⟩:=h1.sl;obtain⟨b,e,rfl,_,hb⟩:=h2.sl;have hle1:=h1.le;have hle2:=h2.le;have hw:cN w.heap.size w w:=cN.refl;refine sw (by simp) ?_;conv=>whnf
 refine dE.mk (fun hn=>?_) (fun hn=>?_)
 ·have hn:n1≠n2:=fun h=>by rw[h]at hn;simp at hn
  conv=>whnf
  intro ρ w2 r;exact⟨_,rfl,r.cC,by rw[bC (fun h=>hn h.1)];rfl⟩
 have hn:n1=n2:=by simpa using hn
 subst hn;conv=>whnf
 refine dE.mk (fun h=>?_) (fun h=>?_)
 ·have h:ls.length≠ms.length:=fun he=>by rw[he]at h;simp at h
  conv=>whnf
  intro ρ w2 r;exact⟨_,rfl,r.cC,by rw[bC (fun e=>h (by rw[e.2]))];rfl⟩
 have h:ls.length=ms.length:=by
  have:(ls.length:Int)=ms.length:=by simpa using h
  omega
 conv=>whnf
 refine⟨Nat×World,fun z=>⟨[(2,.o (.p 0 0)),(3,.o (.p 1 0)),(5,.o (.v (.int .i64 z.1)))],[(1,.box T.Int [.v (.bool n1),.v (.slice b ms.length e)]),(0,.box T.Int [.v (.bool n1),.v (.slice a ls.length c)])],2,[],z.2⟩,fun z=>ls.length-z.1,
  fun z=>z.1<=ls.length∧cN w.heap.size w z.2∧ls.take z.1=ms.take z.1,?_,?_⟩
 ·intro ρ w' r;exact⟨(0,w'),⟨by simp,r.cC,by simp⟩,Sub.gen [] r ⟨rfl,rfl,trivial⟩ ⟨rfl,rfl,rfl,trivial⟩ (by simp[dG,cW.scopd,At.sc]) (by simp[cV,SV.sc,At.sc]) (by rfl) (fun lo hi h=>h)⟩
 rintro⟨i,w1⟩ ⟨hi,hw,ht⟩;dsimp only at hi hw ht ⊢;conv=>whnf
 refine dE.mk (fun hib=>?_) (fun hib=>?_)
 ·have hib:i<ls.length:=by simpa using hib
  obtain⟨x,hx⟩:∃x,ls[i]? =some x:=⟨_,aB hib⟩
  obtain⟨y,hy⟩:∃x,ms[i]? =some x:=⟨_,aB (by omega)⟩
  obtain⟨ad,rfl,q1,q2⟩:=ha i x hx;obtain⟨ad2,rfl,q3,q4⟩:=hb i y hy;have hlx:∀{H nx iv ρ w'},Rel H nx iv w.heap.size w1 ρ w'->w'.cell? (ad.add ((i:Int).toNat*1))=some (.int .u32 x):=fun r=>by
   rw[aC,aR];exact jC hS hw r q1 q2
  have hly:∀{H nx iv ρ w'},Rel H nx iv w.heap.size w1 ρ w'->w'.cell? (ad2.add ((i:Int).toNat*1))=some (.int .u32 y):=fun r=>by
   rw[aC,aR];exact jC hS hw r q3 q4
  conv=>whnf
  refine cF hτ dV [.x 0,.x 1,.x 2,.x 3,.x 4,.x 5,.x 6,.x 7,.x 8,.x 9,.x 10] (by kernel_rfl) (by kernel_rfl) ?_;conv=>whnf
  refine⟨ad,rfl,⟨by omega,by omega⟩,?_⟩;conv=>whnf
  refine⟨.int .u32 x,fun ρ w' r=>hlx r,?_⟩;conv=>whnf
  refine⟨ad2,rfl,⟨by omega,by omega⟩,?_⟩;conv=>whnf
  refine⟨.int .u32 y,fun ρ w' r=>hly r,?_⟩;conv=>whnf
  refine dE.mk (fun hne=>?_) (fun hne=>?_)
  ·have hne:x≠y:=fun h=>by rw[h]at hne;simp at hne
   conv=>whnf
   intro ρ w2 r;refine⟨_,rfl,hw.tr r.cC,?_⟩
   rw[bC (fun e=>hne (by
    have:=e.2;rw[this,hy]at hx;injection hx with hx
    exact hx.symm))]
   rfl
  have hne:x=y:=by
   have:(x:Int)=y:=by simpa using hne
   omega
  subst hne;have ht2:ls.take (i+1)=ms.take (i+1):=by rw[List.take_add_one,List.take_add_one,ht,hx,hy]
  conv=>whnf
  refine⟨((i+1:Nat):Int),by rw[wrap64]<;>omega,?_⟩;conv=>whnf
  intro ρ3 w3 r3;exact⟨(i+1,w3),⟨hib,hw.tr r3.cC,ht2⟩,Sub.gen [] r3 ⟨rfl,rfl,trivial⟩ ⟨rfl,rfl,rfl,trivial⟩ (by simp[dG,cW.scopd,At.sc]) (by simp[cV,SV.sc,At.sc]) (by rfl) (fun lo hi h=>h),by dsimp only;omega⟩
 have hib:i=ls.length:=by
  have:¬i<ls.length:=by simpa using hib
  omega
 subst hib;rw[ai,h,ai]at ht;conv=>whnf
 intro ρ w2 r;exact⟨_,rfl,hw.tr r.cC,by rw[bJ ⟨rfl,ht⟩];rfl⟩
theorem Es{a b:List Nat}(la:Lm a)(lb:Lm b)(na:Nz a)(nb:Nz b)(h:val a=val b):a=b:=by
 have:a.length=b.length:=by
  rcases bj a.length b.length with h1|h1|h1
  ·have:=gv la nb h1;omega
  ·exact h1
  ·have:=gv lb na h1;omega
 exact val_inj la lb this h
theorem zk{S:Nat->Prop}{w:World}{v u:Value}{x y:Int}(hS:Old S w)(hx:dC w S v x)(hy:dC w S u y):
  dh PG N.km #[v,u] w (dw w fun v' _=>v'= .bool (decide (x=y))):=by
 obtain⟨ls,h1,h2,h3⟩:=hx;obtain⟨ms,k1,k2,k3⟩:=hy;have e:decide (decide (x<0)=decide (y<0)∧ls=ms)=decide (x=y):=by
  refine decide_eq_decide.2 ⟨fun ⟨e1,e2⟩=>?_,fun e1=>?_⟩
  ·have e1:=decide_eq_decide.1 e1;rw[e2]at h3;omega
  ·subst e1;obtain⟨_,_,l1⟩:=h1;obtain⟨_,_,l2⟩:=k1;exact⟨rfl,Es l1.lm l2.lm h2 k2 (by omega)⟩
 exact(He hS h1 k1).mono fun _ w2 ⟨v2,e1,e2,e3⟩=>⟨v2,e1,e2,by rw[e3,e]⟩
theorem GV{S:Nat->Prop}{w:World}{v u:Value}{p q:Rat}(hS:Old S w)(hx:cR w S v p)(hy:cR w S u q):
  dh PG N.wz #[v,u] w (dw w fun v' _=>v'= .bool (decide (p=q))):=by
 obtain⟨b1,a1,n1,c1,b2,a2,n2,c2,rfl⟩:=hx.shape;obtain⟨b3,a3,n3,c3,b4,a4,n4,c4,rfl⟩:=hy.shape;refine yT (by simp) ?_;conv=>whnf
 refine bz (cH (Φ:=fun _ w' v w2=>v= .bool (decide (p.num=q.num))) (fun ρ w' r=>zk (fun g hg=>by have:=hS g hg;have:=r.bu;omega) (hx.num.cD fun g hg=>r.cC.block g (hS g hg)) (hy.num.cD fun g hg=>r.cC.block g (hS g hg))) ?_);rintro ρ wa v1 wb r he hb rfl;have hw:=hb;clear r he hb;generalize (wa.heap.size,wb.heap.size)::[]=iv at*
 conv=>whnf
 refine dE.mk (fun h=>?_) (fun h=>?_)
 ·have h:=aI h;conv=>whnf
  refine bz (cE hw (Φ:=fun _ w' v w2=>v= .bool (decide ((p.den:Int)=q.den))) (fun ρ w' r=>zk (fun g hg=>by have:=hS g hg;have:=r.bu;omega) (hx.den.cD fun g hg=>(hw.tr r.cC).block g (hS g hg)) (hy.den.cD fun g hg=>(hw.tr r.cC).block g (hS g hg))) ?_);rintro ρ wa v1 wb2 iv2 r he hw h_ rfl;clear r he;conv=>whnf
  intro ρe we re;refine⟨_,rfl,hw.tr re.cC,?_⟩;have:decide (p=q)=decide ((p.den:Int)=q.den):=decide_eq_decide.2 ⟨fun e=>by rw[e],fun e=>Rat.ext h (by omega)⟩;rw[this];rfl
 ·have h:=aH h;conv=>whnf
  intro ρe we re;refine⟨_,rfl,hw.tr re.cC,?_⟩;rw[bC (fun e=>h (by rw[e]))];rfl
theorem qP{S:Nat->Prop}{w:World}{v u:Value}{xs ys:List Rat}(hS:Old S w)(hx:cP w S v xs)(hy:cP w S u ys):
  dh PG N.nO #[v,u] w (dw w fun v' _=>v'= .bool (decide (xs=ys))):=by
 obtain⟨a,c,rfl,hc,hm⟩:=dx.shape hx;obtain⟨b,e,rfl,hc2,hm2⟩:=dx.shape hy;unfold maxLen at hm hm2;refine rQ (by simp) ?_;conv=>whnf
 refine dE.mk (fun h=>?_) (fun h=>?_)
 ·have h:xs.length≠ys.length:=fun he=>by rw[he]at h;simp at h
  conv=>whnf
  intro ρ w2 r;exact⟨_,rfl,r.cC,by rw[bC (fun e=>h (by rw[e]))];rfl⟩
 have h:xs.length=ys.length:=by
  have:(xs.length:Int)=ys.length:=by simpa using h
  omega
 conv=>whnf
 refine⟨Nat×World,fun z=>⟨[(0,.o (.v (.slice a xs.length c))),(1,.o (.v (.slice b ys.length e))),(5,.o (.v (.int .i64 z.1)))],[],0,[],z.2⟩,fun z=>xs.length-z.1,
  fun z=>z.1<=xs.length∧cN w.heap.size w z.2∧xs.take z.1=ys.take z.1,?_,?_⟩
 ·intro ρ w' r;exact⟨(0,w'),⟨by simp,r.cC,by simp⟩,Sub.gen [] r trivial ⟨rfl,rfl,rfl,trivial⟩ (by simp[dG]) (by simp[cV,SV.sc,At.sc]) (by rfl) (by simp)⟩
 rintro⟨i,w1⟩ ⟨hi,hw,ht⟩;dsimp only at hi hw ht ⊢;conv=>whnf
 refine dE.mk (fun hib=>?_) (fun hib=>?_)
 ·have hib:i<xs.length:=by simpa using hib
  obtain⟨x,hxi⟩:∃x,xs[i]? =some x:=⟨_,aB hib⟩
  obtain⟨y,hyi⟩:∃x,ys[i]? =some x:=⟨_,aB (by omega)⟩
  obtain⟨ad2,cs2,rfl,hR2,-,hl2⟩:=dx.load hy hyi;obtain⟨p2,q2,r2,s2,t2,u2,v2,w2,rfl,hR2⟩:=hR2;obtain⟨ad,cs,rfl,hR,-,hl⟩:=dx.load hx hxi;obtain⟨p1,q1,r1,s1,t1,u1,v1,w1,rfl,hR⟩:=hR;conv=>whnf
  refine cF hτ dV [.x 0,.x 1,.x 2,.x 3,.x 4,.x 5,.x 6,.x 7,.x 8,.x 9] (by kernel_rfl) (by kernel_rfl) ?_;conv=>whnf
  refine⟨ad,rfl,⟨by omega,by omega⟩,?_⟩;conv=>whnf
  refine⟨[.bool p1,.slice q1 r1 s1,.bool t1,.slice u1 v1 w1],rfl,fun ρ w' r j u hu=>?_,?_⟩
  ·obtain⟨k1,k2⟩:=hl j u hu;rw[aC,bw (w:=w) (w2:=w') (by rw[cL,cL];exact(hw.tr r.cC).block _ (hS _ k1))];exact k2
  conv=>whnf
  refine⟨ad2,rfl,⟨by omega,by omega⟩,?_⟩;conv=>whnf
  refine⟨[.bool p2,.slice q2 r2 s2,.bool t2,.slice u2 v2 w2],rfl,fun ρ w' r j u hu=>?_,?_⟩
  ·obtain⟨k1,k2⟩:=hl2 j u hu;rw[aC,bw (w:=w) (w2:=w') (by rw[cL,cL];exact(hw.tr r.cC).block _ (hS _ k1))];exact k2
  conv=>whnf
  refine cE hw (Φ:=fun _ w' v w2=>v= .bool (decide (x=y))) (fun ρ w' r=>GV (fun g hg=>by have:=hS g hg;have:=r.bu;omega) (hR.cD fun g hg=>(hw.tr r.cC).block g (hS g hg)) (hR2.cD fun g hg=>(hw.tr r.cC).block g (hS g hg))) ?_;rintro ρ wa v1 wb iv2 r he hw h_ rfl;clear r he;conv=>whnf
  refine dE.mk (fun hne=>?_) (fun hne=>?_)
  ·have hne:x≠y:=fun h=>by rw[h]at hne;simp at hne
   conv=>whnf
   intro ρ w2 r;refine⟨_,rfl,hw.tr r.cC,?_⟩
   rw[bC (fun e=>hne (by
    rw[e,hyi]at hxi;injection hxi with hxi
    exact hxi.symm))]
   rfl
  have hne:x=y:=by simpa using hne
  subst hne;have ht2:xs.take (i+1)=ys.take (i+1):=by rw[List.take_add_one,List.take_add_one,ht,hxi,hyi]
  conv=>whnf
  refine⟨((i+1:Nat):Int),by rw[wrap64]<;>omega,?_⟩;conv=>whnf
  intro ρ3 w3 r3;exact⟨(i+1,w3),⟨hib,hw.tr r3.cC,ht2⟩,Sub.gen [] r3 trivial ⟨rfl,rfl,rfl,trivial⟩ (by simp[dG]) (by simp[cV,SV.sc,At.sc]) (by rfl) (by simp),by dsimp only;omega⟩
 have hib:i=xs.length:=by
  have:¬i<xs.length:=by simpa using hib
  omega
 subst hib;rw[ai,h,ai]at ht;conv=>whnf
 intro ρ w2 r;exact⟨_,rfl,hw.tr r.cC,by rw[bJ ht];rfl⟩
theorem uJ{S:Nat->Prop}{w:World}{v u:Value}{xs ys:List (List Rat)}(hS:Old S w)(hx:cI w S v xs)(hy:cI w S u ys):
  dh PG N.mf #[v,u] w (dw w fun v' _=>v'= .bool (decide (xs=ys))):=by
 obtain⟨a,c,rfl,hc,hm⟩:=cT.shape hx;obtain⟨b,e,rfl,hc2,hm2⟩:=cT.shape hy;unfold maxLen at hm hm2;refine pw (by simp) ?_;conv=>whnf
 refine dE.mk (fun h=>?_) (fun h=>?_)
 ·have h:xs.length≠ys.length:=fun he=>by rw[he]at h;simp at h
  conv=>whnf
  intro ρ w2 r;exact⟨_,rfl,r.cC,by rw[bC (fun e=>h (by rw[e]))];rfl⟩
 have h:xs.length=ys.length:=by
  have:(xs.length:Int)=ys.length:=by simpa using h
  omega
 conv=>whnf
 refine⟨Nat×World,fun z=>⟨[(0,.o (.v (.slice a xs.length c))),(1,.o (.v (.slice b ys.length e))),(5,.o (.v (.int .i64 z.1)))],[],0,[],z.2⟩,fun z=>xs.length-z.1,
  fun z=>z.1<=xs.length∧cN w.heap.size w z.2∧xs.take z.1=ys.take z.1,?_,?_⟩
 ·intro ρ w' r;exact⟨(0,w'),⟨by simp,r.cC,by simp⟩,Sub.gen [] r trivial ⟨rfl,rfl,rfl,trivial⟩ (by simp[dG]) (by simp[cV,SV.sc,At.sc]) (by rfl) (by simp)⟩
 rintro⟨i,w1⟩ ⟨hi,hw,ht⟩;dsimp only at hi hw ht ⊢;conv=>whnf
 refine dE.mk (fun hib=>?_) (fun hib=>?_)
 ·have hib:i<xs.length:=by simpa using hib
  obtain⟨x,hxi⟩:∃x,xs[i]? =some x:=⟨_,aB hib⟩
  obtain⟨y,hyi⟩:∃x,ys[i]? =some x:=⟨_,aB (by omega)⟩
  obtain⟨ad,u1,rfl,hR,k1,l1⟩:=cT.load hx hxi;obtain⟨ad2,u2,rfl,hR2,k2,l2⟩:=cT.load hy hyi;obtain⟨p1,q1,rfl,-⟩:=dx.shape hR;obtain⟨p2,q2,rfl,-⟩:=dx.shape hR2;conv=>whnf
  refine cF hτ dV [.x 0,.x 1,.x 2,.x 3,.x 4,.x 5,.x 6,.x 7,.x 8,.x 9] (by kernel_rfl) (by kernel_rfl) ?_;conv=>whnf
  refine⟨ad,rfl,⟨by omega,by omega⟩,?_⟩;conv=>whnf
  refine⟨.slice p1 x.length q1,fun ρ w' r=>?_,?_⟩
  ·rw[aC,bw (w:=w) (w2:=w') (by rw[cL];exact(hw.tr r.cC).block _ (hS _ k1))];exact l1
  conv=>whnf
  refine⟨ad2,rfl,⟨by omega,by omega⟩,?_⟩;conv=>whnf
  refine⟨.slice p2 y.length q2,fun ρ w' r=>?_,?_⟩
  ·rw[aC,bw (w:=w) (w2:=w') (by rw[cL];exact(hw.tr r.cC).block _ (hS _ k2))];exact l2
  conv=>whnf
  refine cE hw (Φ:=fun _ w' v w2=>v= .bool (decide (x=y))) (fun ρ w' r=>qP (fun g hg=>by have:=hS g hg;have:=r.bu;omega) (cP.cD hR fun g hg=>(hw.tr r.cC).block g (hS g hg)) (cP.cD hR2 fun g hg=>(hw.tr r.cC).block g (hS g hg))) ?_;rintro ρ wa v1 wb iv2 r he hw h_ rfl;clear r he;conv=>whnf
  refine dE.mk (fun hne=>?_) (fun hne=>?_)
  ·have hne:x≠y:=fun h=>by rw[h]at hne;simp at hne
   conv=>whnf
   intro ρ w2 r;refine⟨_,rfl,hw.tr r.cC,?_⟩
   rw[bC (fun e=>hne (by
    rw[e,hyi]at hxi;injection hxi with hxi
    exact hxi.symm))]
   rfl
  have hne:x=y:=by simpa using hne
  subst hne;have ht2:xs.take (i+1)=ys.take (i+1):=by rw[List.take_add_one,List.take_add_one,ht,hxi,hyi]
  conv=>whnf
  refine⟨((i+1:Nat):Int),by rw[wrap64]<;>omega,?_⟩;conv=>whnf
  intro ρ3 w3 r3;exact⟨(i+1,w3),⟨hib,hw.tr r3.cC,ht2⟩,Sub.gen [] r3 trivial ⟨rfl,rfl,rfl,trivial⟩ (by simp[dG]) (by simp[cV,SV.sc,At.sc]) (by rfl) (by simp),by dsimp only;omega⟩
 have hib:i=xs.length:=by
  have:¬i<xs.length:=by simpa using hib
  omega
 subst hib;rw[ai,h,ai]at ht;conv=>whnf
 intro ρ w2 r;exact⟨_,rfl,hw.tr r.cC,by rw[bJ ht];rfl⟩
theorem cR.four{S:Nat->Prop}{w:World}{b b2:Bool}{a a2:Option Addr}{n c n2 c2:Nat}{q:Rat}(h:cR w S (.agg #[.bool b,.slice a n c,.bool b2,.slice a2 n2 c2]) q):Aj w S [.bool b,.slice a n c,.bool b2,.slice a2 n2 c2] (q.num,(q.den:Int)):=
 ⟨b,a,n,c,b2,a2,n2,c2,rfl,h.r⟩
theorem cR.oC{S:Nat->Prop}{w:World}{b b2:Bool}{a a2:Option Addr}{n c n2 c2:Nat}{q:Rat}(h:cR w S (.agg #[.bool b,.slice a n c,.bool b2,.slice a2 n2 c2]) q):gU w S [.bool b,.slice a n c,.bool b2,.slice a2 n2 c2] q:=
 ⟨b,a,n,c,b2,a2,n2,c2,rfl,h⟩
theorem Rel.lt{H:Hp}{nx:Nat}{iv:Iv}{B:Nat}{w w':World}{ρ:Nat->Sx.dc}(r:Rel H nx iv B w ρ w'){id t:Nat}{cs:List At}(h:dA H id=some (.box t cs)):(ρ id).g<w'.heap.size:=(r.low id _ h (r.nn id _ h (by intros;simp) (by simp))).2
end Go.Ex
namespace Go.Ex
def eu(f:Nat->Int):Nat->Int
 |0=>0
 |n+1=>f 0+65536*eu (fun i=>f (i+1)) n
theorem wv(f:Nat->Int)(n:Nat):dH ((List.range n).map f)=eu f n:=by
 induction n generalizing f with
 |zero=>rfl
 |succ n ih=>
  rw[List.range_succ_eq_map,List.map_cons,List.map_map,dH,eu,<-ih];rfl
theorem wx(f g:Nat->Int)(n:Nat):eu (fun i=>f i+g i) n=eu f n+eu g n:=by
 induction n generalizing f g with
 |zero=>rfl
 |succ n ih=>simp only[eu,ih];omega
theorem Ce(k:Int)(f:Nat->Int)(n:Nat):eu (fun i=>k*f i) n=k*eu f n:=by
 induction n generalizing f with
 |zero=>simp[eu]
 |succ n ih=>simp only[eu,ih,Int.mul_add];rw[Int.mul_left_comm]
theorem td{f:Nat->Int}{n:Nat}(h:∀i,i<n->f i=0):eu f n=0:=by
 induction n generalizing f with
 |zero=>rfl
 |succ n ih=>rw[eu,h 0 (by omega),ih fun i hi=>h (i+1) (by omega)];rfl
theorem nL(a:List Int)(n:Nat)(h:a.length<=n):eu (fun i=>a.getD i 0) n=dH a:=by
 induction a generalizing n with
 |nil=>exact td fun i _=>by simp
 |cons c r ih=>
  obtain⟨m,rfl⟩:∃m,n=m+1:=⟨n-1,by simp at h;omega⟩
  have e:=ih m (by simpa using h);rw[eu,dH,<-e];simp[List.getD]
def gT(a b:List Int)(i:Nat):Nat->Int
 |0=>0
 |k+1=>gT a b i k+a.getD k 0*(if k<=i then b.getD (i-k) 0 else 0)
def fP(a b:List Int)(i:Nat):Int:=gT a b i (i+1)
theorem E3(b:List Int)(i k:Nat):gT [] b i k=0:=by
 induction k with
 |zero=>rfl
 |succ k ih=>rw[gT,ih];simp
theorem Cf(c:Int)(r b:List Int)(i k:Nat):gT (c::r) b (i+1) (k+1)=c*b.getD (i+1) 0+gT r b i k:=by
 induction k with
 |zero=>simp[gT]
 |succ k ih=>
  rw[gT,ih,gT];have e:(c::r).getD (k+1) 0=r.getD k 0:=by simp[List.getD]
  rw[e];have e2:(if k+1<=i+1 then b.getD (i+1-(k+1)) 0 else 0)=(if k<=i then b.getD (i-k) 0 else 0):=by
   by_cases h:k<=i
   ·rw[if_pos h,if_pos (by omega),show i+1-(k+1)=i-k by omega]
   ·rw[aK h,aK (by omega)]
  rw[e2,Int.add_assoc]
theorem B9(c:Int)(r b:List Int)(i:Nat):fP (c::r) b (i+1)=c*b.getD (i+1) 0+fP r b i:=Cf c r b i (i+1)
theorem Ba(c:Int)(r b:List Int):fP (c::r) b 0=c*b.getD 0 0:=by simp[fP,gT]
theorem Fw(a b:List Int)(n:Nat)(h:a.length+b.length<=n+1):eu (fP a b) n=dH a*dH b:=by
 induction a generalizing n with
 |nil=>
  rw[show fP [] b=fun _=>(0:Int)from funext fun i=>E3 b i _,td fun _ _=>rfl];simp[dH]
 |cons c r ih=>
  cases n with
  |zero=>
   have hb:b=[]:=List.eq_nil_of_length_eq_zero (by simp at h;omega);subst hb;simp[eu,dH]
  |succ m=>
   have e1:eu (fP (c::r) b) (m+1)=eu (fun i=>c*b.getD i 0) (m+1)+65536*eu (fP r b) m:=by
    have e2:eu (fun i=>fP (c::r) b (i+1)) m=eu (fun i=>c*b.getD (i+1) 0) m+eu (fP r b) m:=by
     rw[<-wx];congr 1
     funext i
     exact B9 c r b i
    rw[eu,eu,e2,Ba,Int.mul_add];omega
   have h':r.length+b.length<=m+1:=by simp at h;omega
   rw[e1,ih m h',Ce,nL b (m+1) (by omega),dH,Int.add_mul,Int.mul_assoc]
theorem Cg(a b:List Int)(i k k0:Nat)(h0:∀j,j<k0->b.length<=i-j)(hk:k0<=i+1)(h:k<=k0):gT a b i k=0:=by
 induction k with
 |zero=>rfl
 |succ k ih=>
  rw[gT,ih (by omega),if_pos (by omega)];have:b.getD (i-k) 0=0:=by rw[List.getD,List.getElem?_eq_none (h0 k (by omega))];rfl
  rw[this];simp
theorem Ch(a b:List Int)(i k m:Nat)(h:a.length<=k):gT a b i (k+m)=gT a b i k:=by
 induction m with
 |zero=>rfl
 |succ m ih=>
  rw[<-Nat.add_assoc,gT,ih];have:a.getD (k+m) 0=0:=by rw[List.getD,List.getElem?_eq_none (by omega)];rfl
  rw[this];simp
theorem kS{a b:List Int}{i:Nat}(ha:∀x∈a,-65535<=x∧x<=65535)(hb:∀x∈b,-65535<=x∧x<=65535)(k:Nat):(gT a b i k).natAbs<=4294836225*k:=by
 have key:∀(l:List Int) (j:Nat),(∀x∈l,-65535<=x∧x<=65535)->(l.getD j 0).natAbs<=65535:=fun l j h=>by
  rw[List.getD]
  cases hj:l[j]? with
  |none=>simp
  |some d=>have:=h d (aF hj);simp;omega
 induction k with
 |zero=>simp[gT]
 |succ k ih=>
  rw[gT];have h1:=key a k ha;have h2:(if k<=i then b.getD (i-k) 0 else 0).natAbs<=65535:=by
   split
   ·exact key b _ hb
   ·simp
  have h3:=Nat.mul_le_mul h1 h2;rw[<-Int.natAbs_mul]at h3;generalize a.getD k 0*(if k<=i then b.getD (i-k) 0 else 0)=p at*
  omega
def dg(s:Int):List Nat->List Int
 |[]=>[]
 |l::r=>s*((l % 65536:Nat):Int)::s*((l / 65536:Nat):Int)::dg s r
theorem AK(s:Int)(ls:List Nat):dH (dg s ls)=s*(val ls:Int):=by
 induction ls with
 |nil=>simp[dg,dH,val]
 |cons l r ih=>
  rw[dg,dH,dH,ih,val];have e1:((l+4294967296*val r:Nat):Int)=((l % 65536:Nat):Int)+65536*((l / 65536:Nat):Int)+4294967296*((val r:Nat):Int):=by omega
  rw[e1,Int.mul_add,Int.mul_add,Int.mul_add];rw[Int.mul_left_comm 65536 s,Int.mul_left_comm s 65536,Int.mul_left_comm s 4294967296];omega
theorem mb(s:Int)(a b:List Nat):dg s (a++b)=dg s a++dg s b:=by
 induction a with
 |nil=>rfl
 |cons l r ih=>simp[dg,ih]
theorem gL(s:Int)(ls:List Nat):(dg s ls).length=2*ls.length:=by
 induction ls with
 |nil=>rfl
 |cons l r ih=>simp[dg,ih];omega
theorem wy{s:Int}(hs:s=1∨s= -1){ls:List Nat}(h:Lm ls):∀c∈dg s ls,-65535<=c∧c<=65535:=by
 induction ls with
 |nil=>intro c hc;cases hc
 |cons l r ih=>
  have hl:=h l aJ;intro c hc;rw[dg]at hc;rcases List.mem_cons.1 hc with rfl|hc
  ·rcases hs with rfl|rfl<;>omega
  rcases List.mem_cons.1 hc with rfl|hc
  ·rcases hs with rfl|rfl<;>omega
  ·exact ih (fun x hx=>h x (aD _ hx)) c hc
theorem uT{ls:List Nat}(h:Lm ls):∀c∈dg 1 ls,0<=c∧c<=65535:=fun c hc=>by
 induction ls with
 |nil=>cases hc
 |cons l r ih=>
  have hl:=h l aJ;rw[dg]at hc;rcases List.mem_cons.1 hc with rfl|hc
  ·omega
  rcases List.mem_cons.1 hc with rfl|hc
  ·omega
  ·exact ih (fun x hx=>h x (aD _ hx)) hc
theorem Bb{cs:List Int}{i:Nat}{c:Int}(h:cs[i]? =some c):dH (cs.drop i)=c+65536*dH (cs.drop (i+1)):=by
 rw[List.drop_eq_getElem_cons (aE.1 h).1,dH];have:=(aE.1 h).2;rw[this]
end Go.Ex
namespace Go.Ex
open Go Go.Sx Go.Proofs
theorem Gf{ls:List Nat}{k:Nat}(h:Lm ls)(hl:ls.length<=k):ln (val ls)<=k:=iA.2 (Nat.lt_of_lt_of_le (lj h) (D1 hl))
theorem Cv.false{S:Nat->Prop}{B:Nat}{iv:Iv}{g:Nat}(h:Cv (fun _=>False) B iv g):Cv S B iv g:=h.elim (fun h=>h.elim) .inr
theorem Gg{S:Nat->Prop}{w:World}{v u:Value}{x1 x2 y1 y2:Int}(hS:Old S w)(hx:gX w S v x1 x2)(hy:gX w S u y1 y2)(hl0:ln x1.natAbs<=100000)(hl1:ln x2.natAbs<=100000)(hl2:ln y1.natAbs<=100000)(hl3:ln y2.natAbs<=100000):
  dh PG N.sf #[v,u] w (dw w fun v' w2=>cR w2 (Nw (fun _=>False) w w2) v' ((ratio x1 x2)*(ratio y1 y2))):=by
 have hw:cN w.heap.size w w:=cN.refl;have r1:=iH x1 x2;have r2:=iH y1 y2;have r3:=wm (ratio x1 x2) (ratio y1 y2);have r4:=s7 (ratio x1 x2) (ratio y1 y2);have r5:=s8 (ratio y1 y2);have r6:=AE (ratio x1 x2) (ratio y1 y2);replace hx:=hx.cG (S':=Cv S w.heap.size []) fun _ h=>.inl h;replace hy:=hy.cG (S':=Cv S w.heap.size []) fun _ h=>.inl h;obtain⟨b1,a1,n1,c1,b2,a2,n2,c2,rfl⟩:=hx.shape;obtain⟨b3,a3,n3,c3,b4,a4,n4,c4,rfl⟩:=hy.shape;refine AU (by simp) ?_;conv=>whnf
 refine cF hτ dV [.x 0,.x 2,.x 1,.x 3,.x 4,.x 5,.x 6] (by kernel_rfl) (by kernel_rfl) ?_;conv=>whnf
 refine cE hw (Φ:=fun _ w' v w2=>dL w2 (Nw (fun _=>False) w' w2) v ((ratio x1 x2))) (fun ρ w' r=>kc (Rel.old r hS) (hx.rel r hS) (by omega) (by omega)) ?_;rintro ρ wa1 v1 wb1 iv1 r he hw h_ hn;clear hx;replace hy:=hy.cB r hS he (mC h_);have hX:=hn.cw (S:=fun _=>False) r.bu (mN h_);clear r;obtain⟨s1_0,s1_1,s1_2,s1_3,s1_4,s1_5,s1_6,s1_7,rfl⟩:=hX.shape;conv=>whnf
 refine cE hw (Φ:=fun _ w' v w2=>dL w2 (Nw (fun _=>False) w' w2) v ((ratio y1 y2))) (fun ρ w' r=>kc (Rel.old r hS) (hy.rel r hS) (by omega) (by omega)) ?_;rintro ρ wa2 v2 wb2 iv2 r he hw h_ hn;clear hy;replace hX:=hX.cB r (bs w) he (mC h_);have hY:=hn.cw (S:=fun _=>False) r.bu (mN h_);clear r;obtain⟨s2_0,s2_1,s2_2,s2_3,s2_4,s2_5,s2_6,s2_7,rfl⟩:=hY.shape;conv=>whnf
 refine cE hw (Φ:=fun _ w' v w2=>dL w2 (Nw (fun _=>False) w' w2) v ((ratio x1 x2)*(ratio y1 y2))) (fun ρ w' r=>G9 (Rel.old r (bs w)) (hX.rel r (bs w)) (hY.rel r (bs w)) (by omega) (by omega)) ?_;rintro ρ wa3 v3 wb3 iv3 r he hw h_ hn;clear hX;clear hY;have hP:=hn.cw (S:=fun _=>False) r.bu (mN h_);clear r;obtain⟨s3_0,s3_1,s3_2,s3_3,s3_4,s3_5,s3_6,s3_7,rfl⟩:=hP.shape;conv=>whnf
 refine cE hw (Φ:=fun _ w' v w2=>cR w2 (Nw (fun _=>False) w' w2) v ((ratio x1 x2)*(ratio y1 y2))) (fun ρ w' r=>sK (Rel.old r (bs w)) (hP.rel r (bs w)) (by omega)) ?_;rintro ρ wa4 v4 wb4 iv4 r he hw h_ hn;clear hP;have hC:=hn.cw (S:=fun _=>False) r.bu (mN h_);clear r;obtain⟨s4_0,s4_1,s4_2,s4_3,s4_4,s4_5,s4_6,s4_7,rfl⟩:=hC.shape;conv=>whnf
 intro ρe we re;exact⟨_,rfl,hw.tr re.cC,hC.out re (bs w)⟩
theorem Gi{S:Nat->Prop}{w:World}{v u:Value}{x1 x2 y1 y2:Int}(hS:Old S w)(hx:gX w S v x1 x2)(hy:gX w S u y1 y2)(hl0:ln x1.natAbs<=100000)(hl1:ln x2.natAbs<=100000)(hl2:ln y1.natAbs<=100000)(hl3:ln y2.natAbs<=100000):
  dh PG N.si #[v,u] w (dw w fun v' w2=>cR w2 (Nw (fun _=>False) w w2) v' ((ratio x1 x2)-(ratio y1 y2))):=by
 have hw:cN w.heap.size w w:=cN.refl;have r1:=iH x1 x2;have r2:=iH y1 y2;have r3:=wm (ratio x1 x2) (ratio y1 y2);have r4:=s7 (ratio x1 x2) (ratio y1 y2);have r5:=s8 (ratio y1 y2);have r6:=AE (ratio x1 x2) (ratio y1 y2);replace hx:=hx.cG (S':=Cv S w.heap.size []) fun _ h=>.inl h;replace hy:=hy.cG (S':=Cv S w.heap.size []) fun _ h=>.inl h;obtain⟨b1,a1,n1,c1,b2,a2,n2,c2,rfl⟩:=hx.shape;obtain⟨b3,a3,n3,c3,b4,a4,n4,c4,rfl⟩:=hy.shape;refine AY (by simp) ?_;conv=>whnf
 refine cF hτ dV [.x 0,.x 2,.x 1,.x 3,.x 4,.x 5,.x 6,.x 7] (by kernel_rfl) (by kernel_rfl) ?_;conv=>whnf
 refine cE hw (Φ:=fun _ w' v w2=>dL w2 (Nw (fun _=>False) w' w2) v ((ratio x1 x2))) (fun ρ w' r=>kc (Rel.old r hS) (hx.rel r hS) (by omega) (by omega)) ?_;rintro ρ wa1 v1 wb1 iv1 r he hw h_ hn;clear hx;replace hy:=hy.cB r hS he (mC h_);have hX:=hn.cw (S:=fun _=>False) r.bu (mN h_);clear r;obtain⟨s1_0,s1_1,s1_2,s1_3,s1_4,s1_5,s1_6,s1_7,rfl⟩:=hX.shape;conv=>whnf
 refine cE hw (Φ:=fun _ w' v w2=>dL w2 (Nw (fun _=>False) w' w2) v ((ratio y1 y2))) (fun ρ w' r=>kc (Rel.old r hS) (hy.rel r hS) (by omega) (by omega)) ?_;rintro ρ wa2 v2 wb2 iv2 r he hw h_ hn;clear hy;replace hX:=hX.cB r (bs w) he (mC h_);have hY:=hn.cw (S:=fun _=>False) r.bu (mN h_);clear r;obtain⟨s2_0,s2_1,s2_2,s2_3,s2_4,s2_5,s2_6,s2_7,rfl⟩:=hY.shape;conv=>whnf
 refine cH (Φ:=fun _ w' v w2=>dL w2 (Nw (Cv (fun _=>False) w.heap.size iv2) w' w2) v (-(ratio y1 y2))) (fun ρ w' r=>G8 (Rel.old r (bs w)) (hY.rel r (bs w))) ?_;rintro ρ wa3 v3 wb3 r he hb hn;replace hw:=hw.tr hb;replace hX:=hX.cB (iv':=(wa3.heap.size,wb3.heap.size)::iv2) r (bs w) he fun x hx=>aD _ hx;clear hY;have hM:=hn.old r.bu;clear r he hb hn;generalize (wa3.heap.size,wb3.heap.size)::iv2=iv3 at*
 obtain⟨s3_0,s3_1,s3_2,s3_3,s3_4,s3_5,s3_6,s3_7,rfl⟩:=hM.shape;conv=>whnf
 refine cE hw (Φ:=fun _ w' v w2=>dL w2 (Nw (fun _=>False) w' w2) v ((ratio x1 x2)-(ratio y1 y2))) (fun ρ w' r=>(Rat.sub_eq_add_neg (ratio x1 x2) (ratio y1 y2))▸H9 (Rel.old r (bs w)) (hX.rel r (bs w)) (hM.rel r (bs w)) (by omega) (by omega)) ?_;rintro ρ wa4 v4 wb4 iv4 r he hw h_ hn;clear hX;clear hM;have hP:=hn.cw (S:=fun _=>False) r.bu (mN h_);clear r he hn;obtain⟨s4_0,s4_1,s4_2,s4_3,s4_4,s4_5,s4_6,s4_7,rfl⟩:=hP.shape;conv=>whnf
 refine cE hw (Φ:=fun _ w' v w2=>cR w2 (Nw (fun _=>False) w' w2) v ((ratio x1 x2)-(ratio y1 y2))) (fun ρ w' r=>sK (Rel.old r (bs w)) (hP.rel r (bs w)) (by omega)) ?_;rintro ρ wa5 v5 wb5 iv5 r he hw h_ hn;clear hP;have hC:=hn.cw (S:=fun _=>False) r.bu (mN h_);clear r he hn;obtain⟨s5_0,s5_1,s5_2,s5_3,s5_4,s5_5,s5_6,s5_7,rfl⟩:=hC.shape;conv=>whnf
 intro ρe we re;exact⟨_,rfl,hw.tr re.cC,hC.out re (bs w)⟩
theorem Iw{S:Nat->Prop}{w:World}{v u:Value}{f g:Rat}(hS:Old S w)(hf:dL w S v f)(hg:dL w S u g)(hlf:rl f<=10000000000)(hlg:rl g<=10000000000):
  dh PG N.ju #[v,u] w (dw w fun v' w2=>v'= .int .i64 (rs (f-g))):=by
 have hw:cN w.heap.size w w:=cN.refl;have l1:=fF f;have l2:=eQ f;have l3:=fF g;have l4:=eQ g;have m0:=cS f.num g.den;have m1:=cS g.num f.den;replace hf:=hf.cG (S':=Cv S w.heap.size []) fun _ h=>.inl h;replace hg:=hg.cG (S':=Cv S w.heap.size []) fun _ h=>.inl h;obtain⟨b1,a1,n1,c1,b2,a2,n2,c2,rfl⟩:=hf.shape;obtain⟨b3,a3,n3,c3,b4,a4,n4,c4,rfl⟩:=hg.shape;have hfn:=hf.num;have hfd:=hf.den;clear hf;have hgn:=hg.num;have hgd:=hg.den;clear hg;refine mq (by simp) ?_;conv=>whnf
 refine cF hτ dV [.x 0,.x 1,.x 2,.x 3,.x 5,.x 6,.x 7,.x 8,.x 4,.x 9,.x 10,.x 11] (by kernel_rfl) (by kernel_rfl) ?_;conv=>whnf
 refine cE hw (Φ:=fun _ w' v w2=>eA w2 (Nw (fun _=>False) w' w2) v (f.num*(g.den:Int))) (fun ρ w' r=>gI (Rel.old r hS) (hfn.rel r hS) (hgd.rel r hS) (by omega) (by omega)) ?_;rintro ρ wa1 v1 wb1 iv1 r he hw h_ hn;clear hfn;replace hfd:=hfd.cB r hS he (mC h_);replace hgn:=hgn.cB r hS he (mC h_);clear hgd;have hA:=hn.cw (S:=fun _=>False) r.bu (mN h_);clear r;obtain⟨s1_0,s1_1,s1_2,s1_3,rfl⟩:=hA.shape;conv=>whnf
 refine cE hw (Φ:=fun _ w' v w2=>eA w2 (Nw (fun _=>False) w' w2) v (g.num*(f.den:Int))) (fun ρ w' r=>gI (Rel.old r hS) (hgn.rel r hS) (hfd.rel r hS) (by omega) (by omega)) ?_;rintro ρ wa2 v2 wb2 iv2 r he hw h_ hn;clear hfd;clear hgn;replace hA:=hA.cB r (bs w) he (mC h_);have hB:=hn.cw (S:=fun _=>False) r.bu (mN h_);clear r;obtain⟨s2_0,s2_1,s2_2,s2_3,rfl⟩:=hB.shape;conv=>whnf
 refine cE hw (Φ:=fun _ w' v w2=>v= .int .i64 (rs (f-g))) (fun ρ w' r=>(HO f g)▸GX (Rel.old r (bs w)) (hA.rel r (bs w)) (hB.rel r (bs w)) (by omega) (by omega)) ?_;rintro ρ wa3 v3 wb3 iv3 r he hw h_ rfl;clear hA;clear hB;clear r;conv=>whnf
 intro ρe we re;exact⟨_,rfl,hw.tr re.cC,rfl⟩
theorem Gj{S:Nat->Prop}{w:World}{v u:Value}{x1 x2 y1 y2:Int}(hS:Old S w)(hx:gX w S v x1 x2)(hy:gX w S u y1 y2)(hl0:ln x1.natAbs<=100000)(hl1:ln x2.natAbs<=100000)(hl2:ln y1.natAbs<=100000)(hl3:ln y2.natAbs<=100000):
  dh PG N.sd #[v,u] w (dw w fun v' w2=>v'= .int .i64 (rs ((ratio x1 x2)-(ratio y1 y2)))):=by
 have hw:cN w.heap.size w w:=cN.refl;have r1:=iH x1 x2;have r2:=iH y1 y2;have r3:=wm (ratio x1 x2) (ratio y1 y2);have r4:=s7 (ratio x1 x2) (ratio y1 y2);have r5:=s8 (ratio y1 y2);have r6:=AE (ratio x1 x2) (ratio y1 y2);replace hx:=hx.cG (S':=Cv S w.heap.size []) fun _ h=>.inl h;replace hy:=hy.cG (S':=Cv S w.heap.size []) fun _ h=>.inl h;obtain⟨b1,a1,n1,c1,b2,a2,n2,c2,rfl⟩:=hx.shape;obtain⟨b3,a3,n3,c3,b4,a4,n4,c4,rfl⟩:=hy.shape;refine AS (by simp) ?_;conv=>whnf
 refine cF hτ dV [.x 0,.x 2,.x 1,.x 3,.x 4,.x 5] (by kernel_rfl) (by kernel_rfl) ?_;conv=>whnf
 refine cE hw (Φ:=fun _ w' v w2=>dL w2 (Nw (fun _=>False) w' w2) v ((ratio x1 x2))) (fun ρ w' r=>kc (Rel.old r hS) (hx.rel r hS) (by omega) (by omega)) ?_;rintro ρ wa1 v1 wb1 iv1 r he hw h_ hn;clear hx;replace hy:=hy.cB r hS he (mC h_);have hX:=hn.cw (S:=fun _=>False) r.bu (mN h_);clear r;obtain⟨s1_0,s1_1,s1_2,s1_3,s1_4,s1_5,s1_6,s1_7,rfl⟩:=hX.shape;conv=>whnf
 refine cE hw (Φ:=fun _ w' v w2=>dL w2 (Nw (fun _=>False) w' w2) v ((ratio y1 y2))) (fun ρ w' r=>kc (Rel.old r hS) (hy.rel r hS) (by omega) (by omega)) ?_;rintro ρ wa2 v2 wb2 iv2 r he hw h_ hn;clear hy;replace hX:=hX.cB r (bs w) he (mC h_);have hY:=hn.cw (S:=fun _=>False) r.bu (mN h_);clear r;obtain⟨s2_0,s2_1,s2_2,s2_3,s2_4,s2_5,s2_6,s2_7,rfl⟩:=hY.shape;conv=>whnf
 refine cE hw (Φ:=fun _ w' v w2=>v= .int .i64 (rs ((ratio x1 x2)-(ratio y1 y2)))) (fun ρ w' r=>Iw (Rel.old r (bs w)) (hX.rel r (bs w)) (hY.rel r (bs w)) (by omega) (by omega)) ?_;rintro ρ wa3 v3 wb3 iv3 r he hw h_ rfl;clear hX;clear hY;clear r;conv=>whnf
 intro ρe we re;exact⟨_,rfl,hw.tr re.cC,rfl⟩
theorem oY{q:Rat}:rs q=0↔q=0:=by rw[rs,Int.sign_eq_zero_iff_zero,Rat.num_eq_zero]
theorem Gk{S:Nat->Prop}{w:World}{v u:Value}{x1 x2 y1 y2:Int}(hS:Old S w)(hx:gX w S v x1 x2)(hy:gX w S u y1 y2)(hl0:ln x1.natAbs<=100000)(hl1:ln x2.natAbs<=100000)(hl2:ln y1.natAbs<=100000)(hl3:ln y2.natAbs<=100000):
  dh PG N.sh #[v,u] w (dw w fun v' w2=>((ratio y1 y2)=0∧v'= .tuple #[yA,.int .i64 9])∨((ratio y1 y2)≠0∧∃q,v'= .tuple #[q,.int .i64 0]∧cR w2 (Nw (fun _=>False) w w2) q ((ratio x1 x2) / (ratio y1 y2)))):=by
 have hw:cN w.heap.size w w:=cN.refl;have r1:=iH x1 x2;have r2:=iH y1 y2;have r3:=wm (ratio x1 x2) (ratio y1 y2);have r4:=s7 (ratio x1 x2) (ratio y1 y2);have r5:=s8 (ratio y1 y2);have r6:=AE (ratio x1 x2) (ratio y1 y2);replace hx:=hx.cG (S':=Cv S w.heap.size []) fun _ h=>.inl h;replace hy:=hy.cG (S':=Cv S w.heap.size []) fun _ h=>.inl h;obtain⟨b1,a1,n1,c1,b2,a2,n2,c2,rfl⟩:=hx.shape;obtain⟨b3,a3,n3,c3,b4,a4,n4,c4,rfl⟩:=hy.shape;refine AW (by simp) ?_;conv=>whnf
 refine bz (cE hw (Φ:=fun _ w' v w2=>dL w2 (Nw (fun _=>False) w' w2) v ((ratio y1 y2))) (fun ρ w' r=>kc (Rel.old r hS) (hy.rel r hS) (by omega) (by omega)) ?_);rintro ρ wa1 v1 wb1 iv1 r he hw h_ hn;replace hx:=hx.cB r hS he (mC h_);clear hy;have hY:=hn.cw (S:=fun _=>False) r.bu (mN h_);clear r;obtain⟨s1_0,s1_1,s1_2,s1_3,s1_4,s1_5,s1_6,s1_7,rfl⟩:=hY.shape;conv=>whnf
 refine bz (cE hw (Φ:=fun _ w' v w2=>v= .int .i64 (rs (ratio y1 y2))) (fun ρ w' r=>H8 (Rel.old r (bs w)) (hY.rel r (bs w))) ?_);rintro ρ wa2 v2 wb2 iv2 r he hw h_ rfl;replace hx:=hx.cB r hS he (mC h_);replace hY:=hY.cB r (bs w) he (mC h_);clear r;conv=>whnf
 refine dE.mk (fun h=>?_) (fun h=>?_)
 ·have h:rs (ratio y1 y2)=0:=by simpa using h
  conv=>whnf
  intro ρe we re;exact⟨_,rfl,hw.tr re.cC,.inl ⟨oY.1 h,rfl⟩⟩
 have h:(ratio y1 y2)≠0:=fun e=>by rw[e]at h;exact absurd h (by decide)
 have r7:=Fq (ratio x1 x2) h;conv=>whnf
 refine cF hτ dV [.x 0,.x 2,.x 1,.x 3,.x 4,.x 5,.x 6] (by kernel_rfl) (by kernel_rfl) ?_;conv=>whnf
 refine cE hw (Φ:=fun _ w' v w2=>dL w2 (Nw (fun _=>False) w' w2) v ((ratio x1 x2))) (fun ρ w' r=>kc (Rel.old r hS) (hx.rel r hS) (by omega) (by omega)) ?_;rintro ρ wa3 v3 wb3 iv3 r he hw h_ hn;clear hx;replace hY:=hY.cB r (bs w) he (mC h_);have hX:=hn.cw (S:=fun _=>False) r.bu (mN h_);clear r;obtain⟨s3_0,s3_1,s3_2,s3_3,s3_4,s3_5,s3_6,s3_7,rfl⟩:=hX.shape;conv=>whnf
 refine cE hw (Φ:=fun _ w' v w2=>dL w2 (Nw (fun _=>False) w' w2) v ((ratio x1 x2) / (ratio y1 y2))) (fun ρ w' r=>JW (Rel.old r (bs w)) (hX.rel r (bs w)) (hY.rel r (bs w)) (by omega) (by omega) h) ?_;rintro ρ wa4 v4 wb4 iv4 r he hw h_ hn;clear hY;clear hX;have hP:=hn.cw (S:=fun _=>False) r.bu (mN h_);clear r;obtain⟨s4_0,s4_1,s4_2,s4_3,s4_4,s4_5,s4_6,s4_7,rfl⟩:=hP.shape;conv=>whnf
 refine cE hw (Φ:=fun _ w' v w2=>cR w2 (Nw (fun _=>False) w' w2) v ((ratio x1 x2) / (ratio y1 y2))) (fun ρ w' r=>sK (Rel.old r (bs w)) (hP.rel r (bs w)) (by omega)) ?_;rintro ρ wa5 v5 wb5 iv5 r he hw h_ hn;clear hP;have hC:=hn.cw (S:=fun _=>False) r.bu (mN h_);clear r;obtain⟨s5_0,s5_1,s5_2,s5_3,s5_4,s5_5,s5_6,s5_7,rfl⟩:=hC.shape;conv=>whnf
 intro ρe we re;exact⟨_,rfl,hw.tr re.cC,.inr ⟨h,_,rfl,hC.out re (bs w)⟩⟩
theorem Gl{n:Int}(h1: -9223372036854775808<=n)(h2:n<=9223372036854775807):rl (n:Rat)<=2:=by
 have:=lZ h1 h2;unfold rl;rw[Rat.num_intCast,Rat.den_intCast];have:ln 1=1:=by decide
 omega
theorem Ci(n:Int)(w:World)(h1: -9223372036854775808<=n)(h2:n<=9223372036854775807):
  dh PG N.tx #[.int .i64 n] w (dw w fun v' w2=>cR w2 (Nw (fun _=>False) w w2) v' (n:Rat)):=by
 have hw:cN w.heap.size w w:=cN.refl;have hl:=Gl h1 h2;refine x6 (by simp) ?_;conv=>whnf
 refine bz (cE hw (Φ:=fun _ w' v w2=>dL w2 (Nw (fun _=>False) w' w2) v (n)) (fun ρ w' r=>Ha n w' h1 h2) ?_);rintro ρ wa1 v1 wb1 iv1 r he hw h_ hn;have hX:=hn.cw (S:=fun _=>False) r.bu (mN h_);clear r;obtain⟨s1_0,s1_1,s1_2,s1_3,s1_4,s1_5,s1_6,s1_7,rfl⟩:=hX.shape;conv=>whnf
 refine bz (cE hw (Φ:=fun _ w' v w2=>cR w2 (Nw (fun _=>False) w' w2) v (n)) (fun ρ w' r=>sK (Rel.old r (bs w)) (hX.rel r (bs w)) (by omega)) ?_);rintro ρ wa2 v2 wb2 iv2 r he hw h_ hn;clear hX;have hC:=hn.cw (S:=fun _=>False) r.bu (mN h_);clear r;obtain⟨s2_0,s2_1,s2_2,s2_3,s2_4,s2_5,s2_6,s2_7,rfl⟩:=hC.shape;conv=>whnf
 intro ρe we re;exact⟨_,rfl,hw.tr re.cC,hC.out re (bs w)⟩
theorem Cx(a b:Int)(w:World)(h1a: -9223372036854775808<=a)(h2a:a<=9223372036854775807)(h1b: -9223372036854775808<=b)(h2b:b<=9223372036854775807):
  dh PG N.uA #[.int .i64 a,.int .i64 b] w (dw w fun v' w2=>(b=0∧v'= .tuple #[yA,.int .i64 9])∨(b≠0∧∃q,v'= .tuple #[q,.int .i64 0]∧cR w2 (Nw (fun _=>False) w w2) q (Rat.divInt a b))):=by
 have hw:cN w.heap.size w w:=cN.refl;have ha:=lZ h1a h2a;have hb:=lZ h1b h2b;refine x8 (by simp) ?_;conv=>whnf
 refine dE.mk (fun h=>?_) (fun h=>?_)
 ·have h:b=0:=by simpa using h
  conv=>whnf
  intro ρe we re;exact⟨_,rfl,hw.tr re.cC,.inl ⟨h,rfl⟩⟩
 have h:b≠0:=by simpa using h
 have hq:=jE (a:=a) h;conv=>whnf
 refine bz (cE hw (Φ:=fun _ w' v w2=>eA w2 (Nw (fun _=>False) w' w2) v a) (fun ρ w' r=>mV a w' h1a h2a) ?_);rintro ρ wa1 v1 wb1 iv1 r he hw h_ hn;have hA:=hn.cw (S:=fun _=>False) r.bu (mN h_);clear r;obtain⟨s1_0,s1_1,s1_2,s1_3,rfl⟩:=hA.shape;conv=>whnf
 refine bz (cE hw (Φ:=fun _ w' v w2=>eA w2 (Nw (fun _=>False) w' w2) v b) (fun ρ w' r=>mV b w' h1b h2b) ?_);rintro ρ wa2 v2 wb2 iv2 r he hw h_ hn;replace hA:=hA.cB r (bs w) he (mC h_);have hB:=hn.cw (S:=fun _=>False) r.bu (mN h_);clear r;obtain⟨s2_0,s2_1,s2_2,s2_3,rfl⟩:=hB.shape;conv=>whnf
 refine bz (cE hw (Φ:=fun _ w' v w2=>dL w2 (Nw (fun _=>False) w' w2) v (Rat.divInt a b)) (fun ρ w' r=>tO (Rel.old r (bs w)) (hA.rel r (bs w)) (hB.rel r (bs w)) h (by omega) (by omega)) ?_);rintro ρ wa3 v3 wb3 iv3 r he hw h_ hn;clear hA;clear hB;have hP:=hn.cw (S:=fun _=>False) r.bu (mN h_);clear r;obtain⟨s3_0,s3_1,s3_2,s3_3,s3_4,s3_5,s3_6,s3_7,rfl⟩:=hP.shape;conv=>whnf
 refine bz (cE hw (Φ:=fun _ w' v w2=>cR w2 (Nw (fun _=>False) w' w2) v (Rat.divInt a b)) (fun ρ w' r=>sK (Rel.old r (bs w)) (hP.rel r (bs w)) (by omega)) ?_);rintro ρ wa4 v4 wb4 iv4 r he hw h_ hn;clear hP;have hC:=hn.cw (S:=fun _=>False) r.bu (mN h_);clear r;obtain⟨s4_0,s4_1,s4_2,s4_3,s4_4,s4_5,s4_6,s4_7,rfl⟩:=hC.shape;conv=>whnf
 intro ρe we re;exact⟨_,rfl,hw.tr re.cC,.inr ⟨h,_,rfl,hC.out re (bs w)⟩⟩
theorem Gm(ad:Addr)(i j:Nat):(ad.add i).add j=ad.add (i+j):=by
 unfold Addr.add;split<;>split<;>simp_all<;>omega
def qS(w:World)(S:Nat->Prop)(v:Value)(q:Rat):Prop:=∃a b,gX w S v a b∧ratio a b=q∧ln a.natAbs<=100000∧ln b.natAbs<=100000
theorem qS.cD{S:Nat->Prop}{w w2:World}{v:Value}{q:Rat}(h:qS w S v q)(hk:∀g,S g->w2.heap[g]? =w.heap[g]?):qS w2 S v q:=by
 obtain⟨a,b,h1,h2⟩:=h;exact⟨a,b,h1.cD hk,h2⟩
theorem qS.shape{S:Nat->Prop}{w:World}{v:Value}{q:Rat}(h:qS w S v q):∃b a n c b2 a2 n2 c2,v= .agg #[.bool b,.slice a n c,.bool b2,.slice a2 n2 c2]:=by
 obtain⟨a,b,h1,_⟩:=h;exact h1.shape
theorem mW(q:Rat):ratio q.num q.den=q:=by rw[ratio,aK (fO q),Rat.num_divInt_den]
theorem cR.v{S:Nat->Prop}{w:World}{v:Value}{q:Rat}(h:cR w S v q)(hl:rl q<=100000):qS w S v q:=
 ⟨_,_,h.r,mW q,bB (fF q) hl,bB (eQ q) hl⟩
section
variable{S S':Nat->Prop}{H:Hp}{nx:Nat}{iv iv':Iv}{B:Nat}{w w' w2:World}{ρ:Nat->Sx.dc}{v:Value}{q:Rat}
end
theorem Ck{S:Nat->Prop}{w:World}{v u:Value}{p q:Rat}(hS:Old S w)(hp:qS w S v p)(hq:qS w S u q):dh PG N.sf #[v,u] w (dw w fun v' w2=>cR w2 (Nw (fun _=>False) w w2) v' (p*q)):=by
 obtain⟨a,b,h1,rfl,h2,h3⟩:=hp;obtain⟨c,d,k1,rfl,k2,k3⟩:=hq;exact Gg hS h1 k1 h2 h3 k2 k3
theorem GF{S:Nat->Prop}{w:World}{v u:Value}{p q:Rat}(hS:Old S w)(hp:qS w S v p)(hq:qS w S u q):dh PG N.si #[v,u] w (dw w fun v' w2=>cR w2 (Nw (fun _=>False) w w2) v' (p-q)):=by
 obtain⟨a,b,h1,rfl,h2,h3⟩:=hp;obtain⟨c,d,k1,rfl,k2,k3⟩:=hq;exact Gi hS h1 k1 h2 h3 k2 k3
theorem Cj{S:Nat->Prop}{w:World}{v u:Value}{p q:Rat}(hS:Old S w)(hp:qS w S v p)(hq:qS w S u q):dh PG N.sd #[v,u] w (dw w fun v' _=>v'= .int .i64 (rs (p-q))):=by
 obtain⟨a,b,h1,rfl,h2,h3⟩:=hp;obtain⟨c,d,k1,rfl,k2,k3⟩:=hq;exact Gj hS h1 k1 h2 h3 k2 k3
theorem I9{S:Nat->Prop}{w:World}{v u:Value}{p q:Rat}(hS:Old S w)(hp:qS w S v p)(hq:qS w S u q):dh PG N.sh #[v,u] w (dw w fun v' w2=>(q=0∧v'= .tuple #[yA,.int .i64 9])∨(q≠0∧∃r,v'= .tuple #[r,.int .i64 0]∧cR w2 (Nw (fun _=>False) w w2) r (p / q))):=by
 obtain⟨a,b,h1,rfl,h2,h3⟩:=hp;obtain⟨c,d,k1,rfl,k2,k3⟩:=hq;exact Gk hS h1 k1 h2 h3 k2 k3
end Go.Ex
namespace Go.Ex
theorem IN(q:Rat):rs (-q)= -rs q:=by rw[rs,rs,Rat.neg_num,Int.sign_neg]
end Go.Ex
namespace Go.Ex
open Go Go.Sx Go.Proofs
def ed(w:World)(S:Nat->Prop)(v:Value)(k:Nat)(z:Int):Prop:=∃neg ls,sD w S v neg ls∧sg neg (val ls)=z∧ls.length<=k
theorem ed.cD{S:Nat->Prop}{w w2:World}{v:Value}{k:Nat}{z:Int}(h:ed w S v k z)(hk:∀g,S g->w2.heap[g]? =w.heap[g]?):ed w2 S v k z:=by
 obtain⟨n,l,h1,h2⟩:=h;exact⟨n,l,h1.cD hk,h2⟩
theorem ed.cG{S S':Nat->Prop}{w:World}{v:Value}{k:Nat}{z:Int}(h:ed w S v k z)(hk:∀g,S g->S' g):ed w S' v k z:=by
 obtain⟨n,l,h1,h2⟩:=h;exact⟨n,l,h1.cG hk,h2⟩
theorem ed.r{S:Nat->Prop}{w:World}{v:Value}{k:Nat}{z:Int}(h:ed w S v k z):ie w S v z:=by
 obtain⟨n,l,h1,h2,_⟩:=h;exact⟨n,l,h1,h2⟩
theorem ed.shape{S:Nat->Prop}{w:World}{v:Value}{k:Nat}{z:Int}(h:ed w S v k z):∃b a n c,v= .agg #[.bool b,.slice a n c]:=h.r.shape
theorem dC.l{S:Nat->Prop}{w:World}{v:Value}{k:Nat}{z:Int}(h:dC w S v z)(hk:ln z.natAbs<=k):ed w S v k z:=by
 obtain⟨l,h1,h2,h3⟩:=h;obtain⟨_,_,hl⟩:=h1;have:=dy hl.lm h2;rw[h3]at this;exact⟨_,l,⟨_,‹_›,hl⟩,by rw[h3,zd],by omega⟩
section
variable{S S':Nat->Prop}{H:Hp}{nx:Nat}{iv iv':Iv}{B:Nat}{w w' w2:World}{ρ:Nat->Sx.dc}{v:Value}{k:Nat}{z:Int}
theorem ed.rel(h:ed w (Cv S B iv) v k z)(r:Rel H nx iv B w ρ w')(hS:∀g,S g->g<B):ed w' (Cv S B iv) v k z:=h.cD fun _ hg=>Rel.same r hS hg
theorem ed.cB(h:ed w (Cv S B iv) v k z)(r:Rel H nx iv B w ρ w')(hS:∀g,S g->g<B)(he:Ext w' w2)(hm:∀p,p∈iv->p∈iv'):ed w2 (Cv S B iv') v k z:=
 ((h.rel r hS).cD fun g hg=>he.block g (Rel.old r hS g hg)).cG fun _ hg=>hg.mono hm
end
section
variable{S S':Nat->Prop}{H:Hp}{nx:Nat}{iv iv':Iv}{B:Nat}{w w' w2:World}{ρ:Nat->Sx.dc}{v:Value}{cs:List Int}
theorem da.rel(h:da w (Cv S B iv) v cs)(r:Rel H nx iv B w ρ w')(hS:∀g,S g->g<B):da w' (Cv S B iv) v cs:=da.cD h fun _ hg=>Rel.same r hS hg
theorem da.cB(h:da w (Cv S B iv) v cs)(r:Rel H nx iv B w ρ w')(hS:∀g,S g->g<B)(he:Ext w' w2)(hm:∀p,p∈iv->p∈iv'):da w2 (Cv S B iv') v cs:=
 (da.cD (h.rel r hS) fun g hg=>he.block g (Rel.old r hS g hg)).cG fun _ hg=>hg.mono hm
theorem da.cw(h:da w2 (Nw (fun _=>False) w' w2) v cs)(hB:B<=w'.heap.size)(hm:(w'.heap.size,w2.heap.size)∈iv):da w2 (Cv S B iv) v cs:=da.cG h fun _ hg=>hg.cw hB hm
end
def JF(b:Bool):Int:=if b then -1 else 1
theorem Ix(b:Bool):JF b=1∨JF b= -1:=by cases b<;>simp[JF]
theorem Hf(b:Bool)(n:Nat):JF b*(n:Int)=sg b n:=by cases b<;>simp[JF,sg]
theorem DO{S:Nat->Prop}{w:World}{v:Value}{neg:Bool}{ls:List Nat}(hS:Old S w)(h:sD w S v neg ls)(hl:ls.length<=40000000):
  dh PG N.ko #[v] w (dw w fun v' w2=>da w2 (Nw (fun _=>False) w w2) v' (dg (JF neg) ls)):=by
 obtain⟨lv,rfl,hL⟩:=h;have hlm:=hL.lm;obtain⟨a,c,rfl,hc,hcell⟩:=hL.sl;refine tF (by simp) ?_;conv=>whnf
 cases neg with
 |true=>
  conv=>whnf
  refine⟨Nat×World,fun z=>⟨[(1,.o (.p 0 0)),(3,.o (.v (.int .i64 (-1)))),(4,.o (.w 1 (2*z.1))),(5,.o (.v (.int .i64 z.1)))],[(1,.vec T.int 1 ((dg (-1) (ls.take z.1)).map (Value.int .i64))),(0,.box T.Int [.v (.bool true),.v (.slice a ls.length c)])],2,[],z.2⟩,fun z=>ls.length-z.1,
   fun z=>cN w.heap.size w z.2∧z.1<=ls.length,?_,?_⟩
  ·intro ρ w' r
   exact⟨(0,w'),⟨r.cC,by simp⟩,Sub.nil 4 T.int 1 rfl (by simp[cV,SV.sc,At.sc,cQ]) r fun ρ1 r1=>
    Sub.gen [] r1 ⟨rfl,rfl,trivial⟩ ⟨rfl,rfl,rfl,rfl,trivial⟩ (by simp[dG,cW.scopd,At.sc]) (by simp[cV,SV.sc,At.sc]) (by rfl) (by simp)⟩
  rintro⟨i,w1⟩ ⟨hw,hi⟩;dsimp only at hw hi ⊢;have hln:((dg (-1) (ls.take i)).map (Value.int .i64)).length=2*i:=by rw[aM,gL,aX];omega
  conv=>whnf
  refine dE.mk (fun h=>?_) (fun h=>?_)
  ·have h:i<ls.length:=by simpa using h
   obtain⟨x,hx⟩:∃x,ls[i]? =some x:=⟨_,aB h⟩
   have hx32:=hlm x (aF hx);obtain⟨ad,rfl,q1,q2⟩:=hcell i x hx;have htk:dg (-1) (ls.take (i+1))=dg (-1) (ls.take i)++[(-1)*((x % 65536:Nat):Int),(-1)*((x / 65536:Nat):Int)]:=by rw[List.take_add_one,hx,Option.toList_some,mb];rfl
   conv=>whnf
   refine⟨ad,rfl,⟨by omega,by omega⟩,?_⟩;conv=>whnf
   refine⟨.int .u32 x,fun ρ w' r=>?_,?_⟩
   ·rw[aC,aR];exact jC hS hw r q1 q2
   conv=>whnf
   refine⟨(x:Int),by rw[wrap64]<;>omega,?_⟩;conv=>whnf
   refine⟨by decide,((x % 65536:Nat):Int),rfl,?_⟩;conv=>whnf
   refine⟨(-1)*((x % 65536:Nat):Int),by rw[wrap64]<;>omega,?_⟩;conv=>whnf
   refine⟨by decide,((x / 65536:Nat):Int),by rw[show (x:Int).tdiv 65536=((x / 65536:Nat):Int)from rfl,wrap64]<;>omega,?_⟩;conv=>whnf
   refine⟨(-1)*((x / 65536:Nat):Int),by rw[wrap64]<;>omega,?_⟩;conv=>whnf
   refine .inl ?_;conv=>whnf
   refine⟨by rw[hln,aR],by omega,by unfold maxLen;omega,?_⟩;conv=>whnf
   refine⟨((i+1:Nat):Int),by rw[wrap64]<;>omega,?_⟩;conv=>whnf
   intro ρ3 w3 r3;have hm5:(dg (-1) (ls.take (i+1))).map (Value.int .i64)=(dg (-1) (ls.take i)).map (Value.int .i64)++[.int .i64 ((-1)*((x % 65536:Nat):Int)),.int .i64 ((-1)*((x / 65536:Nat):Int))]:=by
    rw[htk];simp
   exact⟨(i+1,w3),⟨hw.tr r3.cC,by dsimp only;omega⟩,Sub.gen [(1,3)] r3 ⟨by dsimp only;rw[hm5];rfl,rfl,trivial⟩ ⟨rfl,rfl,rfl,rfl,trivial⟩ (by simp[dG,cW.scopd,At.sc]) (by simp[cV,SV.sc,At.sc]) (by rfl) (fun lo hi h=>h),by dsimp only;omega⟩
  have h:i=ls.length:=by
   have:¬i<ls.length:=by simpa using h
   omega
  subst h;rw[ai]at hln ⊢;conv=>whnf
  intro ρe we re;have hrow:=re.Ak (id:=1) (m:=2*ls.length) rfl (by rw[hln,aR]) (by decide);have hcols:=o6 hrow (by rw[gL]) (by unfold maxLen;omega);refine⟨_,rfl,hw.tr re.cC,da.cG hcols fun g hg=>.inr ?_⟩;have:=ownsRow.low hrow g hg;exact this
 |false=>
  conv=>whnf
  refine⟨Nat×World,fun z=>⟨[(1,.o (.p 0 0)),(3,.o (.v (.int .i64 (1)))),(4,.o (.w 1 (2*z.1))),(5,.o (.v (.int .i64 z.1)))],[(1,.vec T.int 1 ((dg (1) (ls.take z.1)).map (Value.int .i64))),(0,.box T.Int [.v (.bool false),.v (.slice a ls.length c)])],2,[],z.2⟩,fun z=>ls.length-z.1,
   fun z=>cN w.heap.size w z.2∧z.1<=ls.length,?_,?_⟩
  ·intro ρ w' r
   exact⟨(0,w'),⟨r.cC,by simp⟩,Sub.nil 4 T.int 1 rfl (by simp[cV,SV.sc,At.sc,cQ]) r fun ρ1 r1=>
    Sub.gen [] r1 ⟨rfl,rfl,trivial⟩ ⟨rfl,rfl,rfl,rfl,trivial⟩ (by simp[dG,cW.scopd,At.sc]) (by simp[cV,SV.sc,At.sc]) (by rfl) (by simp)⟩
  rintro⟨i,w1⟩ ⟨hw,hi⟩;dsimp only at hw hi ⊢;have hln:((dg (1) (ls.take i)).map (Value.int .i64)).length=2*i:=by rw[aM,gL,aX];omega
  conv=>whnf
  refine dE.mk (fun h=>?_) (fun h=>?_)
  ·have h:i<ls.length:=by simpa using h
   obtain⟨x,hx⟩:∃x,ls[i]? =some x:=⟨_,aB h⟩
   have hx32:=hlm x (aF hx);obtain⟨ad,rfl,q1,q2⟩:=hcell i x hx;have htk:dg (1) (ls.take (i+1))=dg (1) (ls.take i)++[(1)*((x % 65536:Nat):Int),(1)*((x / 65536:Nat):Int)]:=by rw[List.take_add_one,hx,Option.toList_some,mb];rfl
   conv=>whnf
   refine⟨ad,rfl,⟨by omega,by omega⟩,?_⟩;conv=>whnf
   refine⟨.int .u32 x,fun ρ w' r=>?_,?_⟩
   ·rw[aC,aR];exact jC hS hw r q1 q2
   conv=>whnf
   refine⟨(x:Int),by rw[wrap64]<;>omega,?_⟩;conv=>whnf
   refine⟨by decide,((x % 65536:Nat):Int),rfl,?_⟩;conv=>whnf
   refine⟨(1)*((x % 65536:Nat):Int),by rw[wrap64]<;>omega,?_⟩;conv=>whnf
   refine⟨by decide,((x / 65536:Nat):Int),by rw[show (x:Int).tdiv 65536=((x / 65536:Nat):Int)from rfl,wrap64]<;>omega,?_⟩;conv=>whnf
   refine⟨(1)*((x / 65536:Nat):Int),by rw[wrap64]<;>omega,?_⟩;conv=>whnf
   refine .inl ?_;conv=>whnf
   refine⟨by rw[hln,aR],by omega,by unfold maxLen;omega,?_⟩;conv=>whnf
   refine⟨((i+1:Nat):Int),by rw[wrap64]<;>omega,?_⟩;conv=>whnf
   intro ρ3 w3 r3;have hm5:(dg (1) (ls.take (i+1))).map (Value.int .i64)=(dg (1) (ls.take i)).map (Value.int .i64)++[.int .i64 ((1)*((x % 65536:Nat):Int)),.int .i64 ((1)*((x / 65536:Nat):Int))]:=by
    rw[htk];simp
   exact⟨(i+1,w3),⟨hw.tr r3.cC,by dsimp only;omega⟩,Sub.gen [(1,3)] r3 ⟨by dsimp only;rw[hm5];rfl,rfl,trivial⟩ ⟨rfl,rfl,rfl,rfl,trivial⟩ (by simp[dG,cW.scopd,At.sc]) (by simp[cV,SV.sc,At.sc]) (by rfl) (fun lo hi h=>h),by dsimp only;omega⟩
  have h:i=ls.length:=by
   have:¬i<ls.length:=by simpa using h
   omega
  subst h;rw[ai]at hln ⊢;conv=>whnf
  intro ρe we re;have hrow:=re.Ak (id:=1) (m:=2*ls.length) rfl (by rw[hln,aR]) (by decide);have hcols:=o6 hrow (by rw[gL]) (by unfold maxLen;omega);refine⟨_,rfl,hw.tr re.cC,da.cG hcols fun g hg=>.inr ?_⟩;have:=ownsRow.low hrow g hg;exact this
def yg(cs:List Int)(n:Nat)(z:Int):Prop:=dH cs=z∧cs.length<=n∧(∀c∈cs,-65535<=c∧c<=65535)∧(0<=z->∀c∈cs,0<=c)
theorem yh(s:Int){ls:List Nat}(h:val ls=0):∀c∈dg s ls,c=0:=fun c hc=>by
 induction ls with
 |nil=>cases hc
 |cons l r ih=>
  have h:l+4294967296*val r=0:=h;have h1:l=0:=by omega
  have h2:val r=0:=by omega
  subst h1;rw[dg]at hc;rcases List.mem_cons.1 hc with rfl|hc
  ·simp
  rcases List.mem_cons.1 hc with rfl|hc
  ·simp
  ·exact ih h2 hc
theorem ed.CK{S:Nat->Prop}{w:World}{v:Value}{k:Nat}{z:Int}(h:ed w S v k z):∃b a ls c,v= .agg #[.bool b,.slice a ls.length c]∧dF w S (.slice a ls.length c) ls∧sg b (val ls)=z∧ls.length<=k:=by
 obtain⟨b,ls,⟨lv,rfl,hl⟩,hz,hk⟩:=h;obtain⟨a,c,rfl,_⟩:=hl.sl;exact⟨b,a,ls,c,rfl,hl,hz,hk⟩
theorem ed.ln{S:Nat->Prop}{w:World}{v:Value}{k:Nat}{z:Int}(h:ed w S v k z):ln z.natAbs<=k:=by
 obtain⟨b,a,ls,c,_,hl,hz,hk⟩:=h.CK;rw[<-hz,qO];exact Gf hl.lm hk
theorem ed.neg{S:Nat->Prop}{w:World}{lv:Value}{b:Bool}{k:Nat}{z:Int}(h:ed w S (.agg #[.bool b,lv]) k z):ed w S (.agg #[.bool (!b),lv]) k (-z):=by
 obtain⟨b,ls,⟨lv,e,hl⟩,hz,hk⟩:=h;simp only[Value.agg.injEq,Array.mk.injEq,List.cons.injEq,Value.bool.injEq,and_true]at e;obtain⟨rfl,rfl⟩:=e;refine⟨_,ls,⟨_,rfl,hl⟩,?_,hk⟩;rw[<-hz]
 cases b<;>simp[sg]
theorem ed.abs{S:Nat->Prop}{w:World}{lv:Value}{b:Bool}{k:Nat}{z:Int}(h:ed w S (.agg #[.bool b,lv]) k z):ed w S (.agg #[.bool false,lv]) k (z.natAbs:Int):=by
 obtain⟨b,ls,⟨lv,e,hl⟩,hz,hk⟩:=h;simp only[Value.agg.injEq,Array.mk.injEq,List.cons.injEq,Value.bool.injEq,and_true]at e;obtain⟨rfl,rfl⟩:=e;exact⟨_,ls,⟨_,rfl,hl⟩,by rw[<-hz,qO];rfl,hk⟩
theorem o8{S:Nat->Prop}{w:World}{v:Value}{k:Nat}{z:Int}(hS:Old S w)(h:ed w S v k z)(hk:k<=40000000):
  dh PG N.ko #[v] w (dw w fun v' w2=>∃cs,da w2 (Nw (fun _=>False) w w2) v' cs∧yg cs (2*k) z):=by
 obtain⟨b,ls,hi,hz,hl⟩:=h;have hlm:Lm ls:=by obtain⟨_,_,h⟩:=hi;exact h.lm
 refine(DO hS hi (by omega)).mono fun _ w2 ⟨v2,e1,e2,e3⟩=>⟨v2,e1,e2,_,e3,by rw[AK,Hf,hz],by rw[gL];omega,wy (Ix b) hlm,fun h0=>?_⟩
 cases b with
 |false=>exact fun c hc=>(uT hlm c hc).1
 |true=>
  rw[GR]at hz;exact fun c hc=>by rw[yh _ (show val ls=0 by omega) c hc];decide
theorem DP{S:Nat->Prop}{w:World}{v:Value}{cs:List Int}{n:Nat}{z:Int}(hS:Old S w)(h:da w S v cs)(hb:yg cs n z)(hn:n<=100000000):
  dh PG N.jN #[v] w (dw w fun v' w2=>dC w2 (Nw (fun _=>False) w w2) v' z):=by
 have:=tQ hS h (fun c hc=>by have:=hb.2.2.1 c hc;omega) (by have:=hb.2.1;omega);rw[hb.1]at this;exact this
theorem Gn{S:Nat->Prop}{w:World}{v:Value}{k:Nat}{x:Int}(hS:Old S w)(hx:ed w S v k x)(hk:k<=40000000):
  dh PG N.zQ #[v] w (dw w fun v' w2=>dC w2 (Nw (fun _=>False) w w2) v' x):=by
 have hw:cN w.heap.size w w:=cN.refl;replace hx:=hx.cG (S':=Cv S w.heap.size []) fun _ h=>.inl h;obtain⟨b1,a1,n1,c1,rfl⟩:=hx.shape;refine AZ (by simp) ?_;conv=>whnf
 refine bz (cE hw (Φ:=fun _ w' v w2=>∃cs,da w2 (Nw (fun _=>False) w' w2) v cs∧yg cs (2*k) (x)) (fun ρ w' r=>o8 (Rel.old r hS) (hx.rel r hS) (by omega)) ?_);rintro ρ wa1 v1 wb1 iv1 r he hw h_ ⟨cs,k1,bcs⟩;clear hx;have hc:=k1.cw (S:=fun _=>False) r.bu (mN h_);clear r;clear k1;obtain⟨acs,ccs,rfl,lcs⟩:=hc.shape;conv=>whnf
 refine bz (cE hw (Φ:=fun _ w' v w2=>dC w2 (Nw (fun _=>False) w' w2) v (x)) (fun ρ w' r=>DP (Rel.old r (bs w)) (hc.rel r (bs w)) bcs (by omega)) ?_);rintro ρ wa2 v2 wb2 iv2 r he hw h_ hn;clear hc;have hC:=hn.cw (S:=fun _=>False) r.bu (mN h_);clear r;obtain⟨s2_0,s2_1,s2_2,s2_3,rfl⟩:=hC.shape;conv=>whnf
 intro ρe we re;exact⟨_,rfl,hw.tr re.cC,hC.out re (bs w)⟩
theorem kE{S:Nat->Prop}{w:World}{v:Value}{k:Nat}{x:Int}(hS:Old S w)(hx:ed w S v k x)(hk:k<=40000000):
  dh PG N.tv #[v] w (dw w fun v' w2=>dC w2 (Nw (fun _=>False) w w2) v' (-x)):=by
 have hw:cN w.heap.size w w:=cN.refl;replace hx:=hx.cG (S':=Cv S w.heap.size []) fun _ h=>.inl h;obtain⟨b1,a1,n1,c1,rfl⟩:=hx.shape;replace hx:=hx.neg;refine xY (by simp) ?_;conv=>whnf
 refine bz (cE hw (Φ:=fun _ w' v w2=>dC w2 (Nw (fun _=>False) w' w2) v (-x)) (fun ρ w' r=>Gn (Rel.old r hS) (hx.rel r hS) hk) ?_);rintro ρ wa1 v1 wb1 iv1 r he hw h_ hn;clear hx;have hC:=hn.cw (S:=fun _=>False) r.bu (mN h_);clear r;obtain⟨s1_0,s1_1,s1_2,s1_3,rfl⟩:=hC.shape;conv=>whnf
 intro ρe we re;exact⟨_,rfl,hw.tr re.cC,hC.out re (bs w)⟩
theorem vR{S:Nat->Prop}{w:World}{v:Value}{k:Nat}{x:Int}(hS:Old S w)(hx:ed w S v k x)(hk:k<=40000000):
  dh PG N.xG #[v] w (dw w fun v' w2=>dC w2 (Nw (fun _=>False) w w2) v' ((x.natAbs:Int))):=by
 have hw:cN w.heap.size w w:=cN.refl;replace hx:=hx.cG (S':=Cv S w.heap.size []) fun _ h=>.inl h;obtain⟨b1,a1,n1,c1,rfl⟩:=hx.shape;replace hx:=hx.abs;refine y6 (by simp) ?_;conv=>whnf
 refine bz (cE hw (Φ:=fun _ w' v w2=>dC w2 (Nw (fun _=>False) w' w2) v ((x.natAbs:Int))) (fun ρ w' r=>Gn (Rel.old r hS) (hx.rel r hS) hk) ?_);rintro ρ wa1 v1 wb1 iv1 r he hw h_ hn;clear hx;have hC:=hn.cw (S:=fun _=>False) r.bu (mN h_);clear r;obtain⟨s1_0,s1_1,s1_2,s1_3,rfl⟩:=hC.shape;conv=>whnf
 intro ρe we re;exact⟨_,rfl,hw.tr re.cC,hC.out re (bs w)⟩
theorem ID{S:Nat->Prop}{w:World}{v:Value}{cs:List Int}{i:Nat}(hS:Old S w)(h:da w S v cs):
  dh PG N.Bf #[v,.int .i64 i] w (dw w fun v' _=>v'= .int .i64 (cs.getD i 0)):=by
 obtain⟨a,c,rfl,hc⟩:=h.shape;refine Bh (by simp) ?_;conv=>whnf
 refine dE.mk (fun hi=>?_) (fun hi=>?_)
 ·have hi:i<cs.length:=by simpa using hi
  obtain⟨x,hx⟩:∃x,cs[i]? =some x:=⟨_,aB hi⟩
  obtain⟨ad,rfl,q1,q2⟩:=h.load hx;conv=>whnf
  refine⟨ad,rfl,⟨by omega,by omega⟩,?_⟩;conv=>whnf
  refine⟨.int .i64 x,fun ρ w' r=>?_,?_⟩
  ·rw[aC];exact jC hS cN.refl r q1 q2
  conv=>whnf
  intro ρ w2 r;exact⟨_,rfl,r.cC,by rw[List.getD,hx];rfl⟩
 ·have hi:cs.length<=i:=by
   have:¬i<cs.length:=by simpa using hi
   omega
  conv=>whnf
  intro ρ w2 r;exact⟨_,rfl,r.cC,by rw[List.getD,List.getElem?_eq_none hi];rfl⟩
theorem val_zero{ls:List Nat}(h:∀x∈ls,x=0):val ls=0:=by
 induction ls with
 |nil=>rfl
 |cons l r ih=>rw[val,h l aJ,ih fun x hx=>h x (aD _ hx)]
theorem Hg{ls:List Nat}{x:Nat}(h:x∈ls)(hx:x≠0):0<val ls:=by
 induction ls with
 |nil=>cases h
 |cons l r ih=>
  rw[val];rcases List.mem_cons.1 h with rfl|h
  ·omega
  ·have:=ih h;omega
theorem fc{S:Nat->Prop}{w:World}{v:Value}{x:Int}(hS:Old S w)(hx:ie w S v x):
  dh PG N.xD #[v] w (dw w fun v' _=>v'= .int .i64 x.sign):=by
 obtain⟨b,ls,⟨lv,rfl,h1⟩,hz⟩:=hx;obtain⟨a,c,rfl,_,ha⟩:=h1.sl;have hle1:=h1.le;refine yX (by simp) ?_;conv=>whnf
 refine⟨Nat×World,fun z=>⟨[(1,.o (.p 0 0)),(3,.o (.v (.int .i64 z.1)))],[(0,.box T.Int [.v (.bool b),.v (.slice a ls.length c)])],1,[],z.2⟩,fun z=>ls.length-z.1,
  fun z=>z.1<=ls.length∧cN w.heap.size w z.2∧∀x∈ls.take z.1,x=0,?_,?_⟩
 ·intro ρ w' r;exact⟨(0,w'),⟨by simp,r.cC,by simp⟩,Sub.gen [] r ⟨rfl,trivial⟩ ⟨rfl,rfl,trivial⟩ (by simp[dG,cW.scopd,At.sc]) (by simp[cV,SV.sc,At.sc]) (by rfl) (fun lo hi h=>h)⟩
 rintro⟨i,w1⟩ ⟨hi,hw,ht⟩;dsimp only at hi hw ht ⊢;conv=>whnf
 refine dE.mk (fun hib=>?_) (fun hib=>?_)
 ·have hib:i<ls.length:=by simpa using hib
  obtain⟨y,hy⟩:∃x,ls[i]? =some x:=⟨_,aB hib⟩
  obtain⟨ad,rfl,q1,q2⟩:=ha i y hy;conv=>whnf
  refine⟨ad,rfl,⟨by omega,by omega⟩,?_⟩;conv=>whnf
  refine⟨.int .u32 y,fun ρ w' r=>by rw[aC,aR];exact jC hS hw r q1 q2,?_⟩;conv=>whnf
  refine dE.mk (fun hne=>?_) (fun hne=>?_)
  ·have hne:y≠0:=fun h=>by rw[h]at hne;simp at hne
   have hp:=Hg (aF hy) hne;conv=>whnf
   cases b with
   |true=>
    rw[GR]at hz;conv=>whnf
    intro ρ w2 r;exact⟨_,rfl,hw.tr r.cC,by rw[bX (by omega)];rfl⟩
   |false=>
    rw[Ii]at hz;conv=>whnf
    intro ρ w2 r;exact⟨_,rfl,hw.tr r.cC,by rw[b9 (by omega)];rfl⟩
  have hne:y=0:=by simpa using hne
  subst hne;have ht2:∀x∈ls.take (i+1),x=0:=fun x hx=>by
   rw[List.take_add_one,hy]at hx;rcases bR.1 hx with hx|hx
   ·exact ht x hx
   ·simpa using hx
  conv=>whnf
  refine⟨((i+1:Nat):Int),by rw[wrap64]<;>omega,?_⟩;conv=>whnf
  intro ρ3 w3 r3;exact⟨(i+1,w3),⟨hib,hw.tr r3.cC,ht2⟩,Sub.gen [] r3 ⟨rfl,trivial⟩ ⟨rfl,rfl,trivial⟩ (by simp[dG,cW.scopd,At.sc]) (by simp[cV,SV.sc,At.sc]) (by rfl) (fun lo hi h=>h),by dsimp only;omega⟩
 have hib:i=ls.length:=by
  have:¬i<ls.length:=by simpa using hib
  omega
 subst hib;rw[ai]at ht;conv=>whnf
 intro ρ w2 r;refine⟨_,rfl,hw.tr r.cC,?_⟩;rw[<-hz,val_zero ht]
 cases b<;>rfl
end Go.Ex
