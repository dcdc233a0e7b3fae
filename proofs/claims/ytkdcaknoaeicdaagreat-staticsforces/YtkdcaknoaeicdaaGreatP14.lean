/- Texts L46 to L50: lemmas, each with its conditions. -/
import Derived.Test.YtkdcaknoaeicdaaGreatP13
namespace Go.Ex
variable{d:Int}{M:List (List Int)}{f:eh}
def ez(M:List (List Int))(r c:Nat):Int:=(M.getD r []).getD c 0
theorem getD_set_ne{α:Type}{l:List α}{i j:Nat}{x d:α}(h:i≠j):(l.set i x).getD j d=l.getD j d:=by rw[List.getD,aY h,<-List.getD]
theorem mQ{α:Type}{l:List α}{i:Nat}{x d:α}(h:i<l.length):(l.set i x).getD i d=x:=by rw[List.getD,aV h];rfl
theorem jP{r c r' c':Nat}(h:r'≠r∨c'≠c):ez (putAt M r c d) r' c'=ez M r' c':=by
 unfold ez putAt;by_cases h1:r'=r
 ·subst h1;have h2:c≠c':=h.elim (fun h=>absurd rfl h) fun h=>h.symm;rcases aO r' M.length with h3|h3
  ·rw[mQ h3,getD_set_ne h2]
  ·rw[List.set_eq_of_length_le h3]
 ·rw[getD_set_ne (Ne.symm h1)]
theorem Er{r c:Nat}(hr:r<M.length)(hc:c<(M.getD r []).length):ez (putAt M r c d) r c=d:=by
 unfold ez putAt;rw[mQ hr,mQ hc]
theorem gk(M:List (List Int))(r c:Nat)(d:Int):tT M r c d=putAt M r c (ez M r c+d):=rfl
theorem Ct{i:Nat}{b:Int×Int×Rat}(hb:f.bars[i]? =some b):f.bars.getD i (0,0,0)=b:=by rw[List.getD,hb];rfl
theorem vE{f:eh}{M:List (List Int)}{i c r:Nat}(h:c≠i):∀k,ez (eR f M i k) r c=ez M r c
 |0=>rfl
 |k+1=>by
  rw[eR];rw[gk,jP (.inr h),gk,jP (.inr h)];exact vE h k
theorem mR(f:eh){r c:Nat}:∀i,i<=c->ez (df f i) r c=0
 |0,_=>by
  unfold ez df;rcases aO r (3*f.nodes.length)with h|h
  ·rw[show (List.replicate (3*f.nodes.length) (List.replicate f.cols (0:Int))).getD r []=List.replicate f.cols 0 by rw[List.getD,List.getElem?_replicate,if_pos h];rfl,List.getD,List.getElem?_replicate];split<;>rfl
  ·rw[show (List.replicate (3*f.nodes.length) (List.replicate f.cols (0:Int))).getD r []=[] by rw[List.getD,List.getElem?_replicate,aL (by omega)];rfl];rfl
 |i+1,h=>by rw[df,vE (by omega)];exact mR f i (by omega)
theorem toNat_add{a:Int}{k ka:Nat}(h:a=ka):(3*a+(k:Int)).toNat=3*ka+k:=by omega
theorem Bt{f:eh}{M:List (List Int)}{i r ka kb:Nat}{b:Int×Int×Rat}(hb:f.bars[i]? =some b)(ea:b.1=ka)(eb:b.2.1=kb):∀k,k<=3->k<=r % 3->ez (eR f M i k) r i=ez M r i
 |0,_,_=>rfl
 |k+1,h3,h=>by
  rw[eR];rw[Ct hb,toNat_add ea,toNat_add eb,gk,jP (.inl (by omega)),gk,jP (.inl (by omega))];exact Bt hb ea eb k (by omega) (by omega)
theorem oM{i r ka kb k:Nat}{b:Int×Int×Rat}(hb:f.bars[i]? =some b)(ea:b.1=ka)(eb:b.2.1=kb)(hk:k<=3)(h:k<=r % 3):ez (eR f (df f i) i k) r i=0:=by
 rw[Bt hb ea eb k hk h];exact mR f i (aF _)
theorem zW{f:eh}{r c:Nat}(h:c<f.bars.length):∀k,ez (fA f k) r c=ez (df f f.bars.length) r c
 |0=>rfl
 |k+1=>by
  rw[fA];rw[jP (.inr (by omega))];exact zW h k
theorem wi{f:eh}{r i:Nat}:∀k,k<=i->ez (fA f k) r (f.bars.length+i)=0
 |0,_=>mR f _ (by omega)
 |k+1,h=>by
  rw[fA];rw[jP (.inr (by omega))];exact wi k (by omega)
def gg(s:Int×Int×Rat):Nat:=(3*s.1+s.2.1).toNat
theorem Bu{f:eh}(hw:∀k,∀l∈fA f k,l.length=f.cols)(hlen:∀k,(fA f k).length=3*f.nodes.length)(OG:∀s∈f.cV,gg s<3*f.nodes.length){r i:Nat}{s:Int×Int×Rat}(hs:f.cV[i]? =some s):
  ∀k,i<k->ez (fA f k) r (f.bars.length+i)=if r=gg s then 1 else 0
 |0,h=>by omega
 |k+1,h=>by
  rw[fA];rcases aO i k with h1|h1
  ·rw[jP (.inr (by omega))];exact Bu hw hlen OG hs k h1
  ·have:i=k:=by omega
   subst this;have hg:f.cV.getD i (0,0,0)=s:=by rw[List.getD,hs];rfl
   have UO:=OG s (aC hs);have hi:=(aD.1 hs).1;rw[hg];by_cases h2:r=gg s
   ·rw[if_pos h2,h2];have hm:gg s<(fA f i).length:=by rw[hlen];exact UO
    exact Er hm (by
     show f.bars.length+i<((fA f i).getD (gg s) []).length;rw[List.getD,aB hm];show f.bars.length+i<((fA f i)[gg s]).length;rw[hw i _ (aX hm),eh.cols]
     omega)
   ·rw[aL h2];exact(jP (r:=gg s) (.inl h2)).trans (wi i (aF _))
end Go.Ex
namespace Go.Ex
open Go Go.Sx Go.Proofs
end Go.Ex
namespace Go.Sx
open Go Go.Ex Go.Proofs
variable{cs:List Value}{O:Nat->Sx.dg}
theorem Rel.OC{H:Hp}{nx:Nat}{iv:Iv}{B:Nat}{w w':World}(r:Rel H nx iv B w O w'){id t m sz:Nat}(h:dC H id=some (.vec t sz cs))(hm:cs.length=m*sz)(Ri:m<=maxLen)(hs:0<sz)(h1:∀u∈cs,u.oneCell'=true):
  iM w' (Cv FF B (lN (O id) iv)) sz ((At.w id m).den O) cs m:=by
 rcases r.fits h with⟨hn,rfl⟩|⟨hn,spare,h2,h3,h4⟩
 ·have St:m=0:=by
   rcases bK m with h|h
   ·exact h
   ·have:=Nat.mul_pos h hs;simp at hm;omega
  subst St;have Qf:(At.w id 0).den O= .slice none 0 0:=by simp[At.den,hn]
  rw[Qf];exact⟨aP _,by simp,by simp,none,0,rfl,aF _,fun j u h=>by cases h⟩
 ·have Qf:(At.w id m).den O= .slice (some ⟨(O id).g,0,none⟩) m (O id).cap:=by simp[At.den,hn]
  rw[Qf];have Og:=r.low id _ h hn;refine⟨Ri,hm,h1,_,_,rfl,?_,fun j u hu=>⟨_,rfl,.inr ⟨Og.1,_,_,EP hn,aF _,bZ _⟩,?_⟩⟩
  ·rw[List.length_append,hm]at h3;exact bm (show m*sz<=(O id).cap*sz by omega) hs
  ·rw[dW,cell_of h2,aR,aK (aD.1 hu).1];exact hu
end Go.Sx
namespace Go.Ex
open Go Go.Sx Go.Proofs
variable{S:Nat->Prop}{f:eh}
theorem Md{i k ka kb:Nat}{b:Int×Int×Rat}{d:Int}{la lb:List Int}(hb:f.bars[i]? =some b)(ea:b.1=ka)(eb:b.2.1=kb)(PY:ka≠kb)(hk:k<3)(hd:(sP f b).getD k 0=d)
  (Pc:(eR f (df f i) i k)[3*ka+k]? =some la) (Oc:((eR f (df f i) i k).set (3*ka+k) (la.set i d))[3*kb+k]? =some lb):
  ((eR f (df f i) i k).set (3*ka+k) (la.set i d)).set (3*kb+k) (lb.set i (-d))=eR f (df f i) i (k+1):=by
 have z1:=oM (r:=3*ka+k) hb ea eb (show k<=3 by omega) (by omega);have z2:=oM (r:=3*kb+k) hb ea eb (show k<=3 by omega) (by omega);have hga:(eR f (df f i) i k).getD (3*ka+k) []=la:=by rw[List.getD,Pc];rfl
 have hgb:((eR f (df f i) i k).set (3*ka+k) (la.set i d)).getD (3*kb+k) []=lb:=by rw[List.getD,Oc];rfl
 have e1:tT (eR f (df f i) i k) (3*ka+k) i d=(eR f (df f i) i k).set (3*ka+k) (la.set i d):=by
  rw[gk,z1,Int.zero_add,putAt,hga]
 rw[eR];rw[Ct hb,hd,toNat_add ea,toNat_add eb,e1,tT,hgb];have z3:lb.getD i 0=0:=by
  rw[<-hgb,getD_set_ne (show 3*ka+k≠3*kb+k by omega)];exact z2
 rw[z3,Int.zero_add]
set_option maxHeartbeats 2000000 in
theorem wE{w:World}{vn vb vs:Value}(hS:Old S w)(hf:dS w S vn vb vs f)(Oh:eV f=0):
  di PG N.tf #[.agg #[vn,vb,vs]] w (dw w fun v' w2=>si w2 (Nf w w2) v' (gu f)∧FT (gu f) 2000000):=by
 have hw:=bR w;have OI:=mS Oh;obtain⟨an,cn,ab,cb,aq,cq,rfl,rfl,rfl,Q6,Qm,RH⟩:=hf.shape;obtain⟨R1,Rn,Ro⟩:=And.intro OI.n (And.intro OI.b OI.s);have PT:f.cols=f.bars.length+f.cV.length:=rfl;obtain⟨m,hm⟩:∃m,3*f.nodes.length=m:=⟨_,rfl⟩
 refine x7 (by simp) ?_
 refine⟨Nat×List Value×World×Iv,fun z=>⟨[(1,pP 0 0),(3,.o (.w 1 z.2.1.length)),(4,iN z.1)],[(1,.vec T.Lint 1 z.2.1),(0,.box T.Frame [.v (.slice an f.nodes.length cn),.v (.slice ab f.bars.length cb),.v (.slice aq f.cV.length cq)])],2,z.2.2.2,z.2.2.1⟩,fun z=>m-z.1,
  fun z=>z.1<=m∧z.2.1.length=z.1∧dm w.heap.size w z.2.2.1∧gv z.2.2.1 w.heap.size z.2.2.2 z.2.1 f.cols (List.replicate z.1 (List.replicate f.cols 0)),?_,?_⟩
 ·intro O w' r3;exact⟨(0,[],w',[]),⟨aP _,rfl,hw.tr r3.cP,gv.nil⟩,Sub.nil 3 T.Lint 1 rfl (by simp[jX,SV.sc,At.sc,fT]) r3 fun ρ1 r1=>Sub.gn [] r1⟩
 clear hw;rintro⟨i,rv,w1,iv⟩ ⟨hi,Ok,hw,hE⟩;dsimp only at hi Ok hw hE ⊢;refine⟨(m:Int),wo,?_⟩;refine dM.mk ?_ ?_<;>intro OF
 ·have OF:i<m:=by simpa using OF
  refine cC (cE hw (fun _ w' v w2=>v= .int .i64 f.cols) (fun O w' r=>ja (hf.cH (kS hw r hS)) ⟨Rn,Ro⟩) ?_);rintro O _ _ _ OM r he hw h_ rfl;have Tz:=gv.cF hE r he (mC h_);clear r;clear hE;refine⟨f.cols,f.cols,rfl,rfl,aF _,by omega,by omega,?_⟩;refine sE hτ (id3:=3) (id2:=2) (tH:=[(1,.vec T.Lint 1 rv),(0,.box T.Frame [.v (.slice an f.nodes.length cn),.v (.slice ab f.bars.length cb),.v (.slice aq f.cV.length cq)])]) rfl rfl rfl rfl (by simp) ⟨rfl,rfl,trivial⟩ rfl rfl (fun O w' r r2 Sz=>?_);have hn:=(r.fits (id:=2) rfl).1;have OG:w'.ownsRow 0 T.int 1 (.slice (some ⟨(O 2).g,0,none⟩) f.cols f.cols) f.cols ((List.replicate f.cols (0:Int)).map fun z=>.int .i64 z):=
   ⟨by simp,.inr ⟨(O 2).g,f.cols,(List.replicate f.cols (Value.int .i64 0)).toArray,rfl,aP _,r.arr 2 _ _ rfl,aF _,by unfold maxLen;omega,by simp,by simp⟩⟩
  have OZ:=(Tz.rel r).push (gx:=(O 2).g) (l:=List.replicate f.cols 0) (fun g hg e=>Rel.not r (gV _) hg 2 _ rfl hn e.symm) (r.low 2 _ rfl hn).1 (by simp) OG;rw[<-List.replicate_succ']at OZ;have hgv:lN (O 2) OM=((O 2).g,(O 2).g+1)::OM:=by unfold lN;rw[hn]
  have S7:=r.low 3 _ rfl (r.fits (id:=3) rfl).1;have Sz:w'.heap[(O 3).g]? =some (.cells #[.slice (some ⟨(O 2).g,0,none⟩) f.cols f.cols] T.Lint (0,0)):=Sz;have Uc:=OZ.mono (iv':=((O 3).g,(O 3).g+1)::((O 2).g,(O 2).g+1)::OM) fun p hp=>List.mem_cons_of_mem _ hp;have PE:=hw.tr r.cP;have hC3:Cf w (((O 3).g,(O 3).g+1)::((O 2).g,(O 2).g+1)::OM) (O 3).g:=.inr ⟨S7.1,_,_,aG,aF _,bZ _⟩;rw[hgv];clear Tz hw r OG hn OZ hgv r2 S7;generalize (O 2).g=gx at*
  generalize (O 3).g=gy at*
  generalize (gy,gy+1)::(gx,gx+1)::OM=OJ at*
  refine⟨[.slice (some ⟨gx,0,none⟩) f.cols f.cols],rfl,by simp[Value.oneCell'],fun ρ2 w2 r2 _=>⟨_,rfl,fun j u hu=>?_⟩,?_⟩
  ·have h5:=Rel.same r2 (gV _) hC3;rw[dW,cell_of (h5.trans Sz)];rcases j with _|j
   ·exact hu
   ·cases hu
  refine⟨by omega,by omega,by unfold maxLen;omega,((i+1:Nat):Int),wo,?_⟩;intro ρ3 w6 r3;exact⟨(i+1,rv++[.slice (some ⟨gx,0,none⟩) f.cols f.cols],w6,_),⟨OF,by simp[Ok],PE.tr r3.cP,Uc.rel r3⟩,Sub.gn [(1,4)] r3 (hE:=⟨rfl,by dsimp only;rw[List.length_append,List.length_singleton];rfl,rfl,trivial⟩),by dsimp only;omega⟩
 have OF:i=m:=aQ hi (by simpa using OF);subst OF;have hE0:gv w1 w.heap.size iv rv f.cols (df f 0):=by rw[df,hm];exact hE
 have VZ:FT (df f 0) 2000000:=fun l hl z hz=>by
  rw[df]at hl;rw[bP hl]at hz;rw[bP hz];exact⟨by decide,by decide⟩
 clear hE;rw[Ok]
 refine⟨Nat×World×Iv,fun z=>⟨[(1,pP 0 0),(3,.o (.w 1 i)),(5,iN z.1)],[(1,.vec T.Lint 1 rv),(0,.box T.Frame [.v (.slice an f.nodes.length cn),.v (.slice ab f.bars.length cb),.v (.slice aq f.cV.length cq)])],2,z.2.2,z.2.1⟩,fun z=>f.bars.length-z.1,
  fun z=>z.1<=f.bars.length∧dm w.heap.size w z.2.1∧gv z.2.1 w.heap.size z.2.2 rv f.cols (df f z.1)∧FT (df f z.1) 2000000,?_,?_⟩
 ·intro O w' r3;exact⟨(0,w',_),⟨aP _,hw.tr r3.cP,hE0.rel r3,VZ⟩,Sub.gn [] r3⟩
 clear hw hE0 VZ hi;rintro⟨j,w2,iv⟩ ⟨hj,hw,hE,Oe⟩;dsimp only at hj hw hE Oe ⊢;refine dM.mk ?_ ?_<;>intro Pf
 ·have Pf:j<f.bars.length:=by simpa using Pf
  obtain⟨b,hb⟩:∃b,f.bars[j]? =some b:=⟨_,aB Pf⟩
  obtain⟨hA,hB⟩:=OI.MQ b (aC hb);have OH:=(LO Oh (aC hb)).1;obtain⟨ka,pa,ea,hka,-,VW,⟨_,_⟩,⟨_,_⟩,⟨_,_⟩⟩:=OI.node hA.1 hA.2;obtain⟨kb,pb,eb,OK,-,VX,⟨_,_⟩,⟨_,_⟩,⟨_,_⟩⟩:=OI.node hB.1 hB.2;have PY:ka≠kb:=fun e=>OH (by rw[ea,eb,e]);obtain⟨adb,cs,hadb,hF,-,hlb0⟩:=hf.bars.load (by decide) hb;obtain⟨g0,g1,g2,g3,g4,g5,g6,g7,rfl,hF⟩:=hF;have hbD:sP f b=[pb.1-pa.1,pb.2.1-pa.2.1,pb.2.2-pa.2.2]:=by rw[sP,VW,VX]
  refine cC (cE hw (fun _ w' v w2=>v= .agg #[.int .i64 (pb.1-pa.1),.int .i64 (pb.2.1-pa.2.1),.int .i64 (pb.2.2-pa.2.2)]) (fun O w' r=>(BO (S:=S) (oS hS r) (hf.cH (kS hw r hS)) OI hb).mono fun _ _ ⟨v2,e1,e2,e3⟩=>⟨v2,e1,e2,by rw[e3,VW,VX]⟩) ?_);rintro O _ _ _ OJ r he hw h_ rfl;have Tz:=gv.cF hE r he (mC h_);clear r;clear hE hF;rw[ea,eb]at hlb0;obtain⟨ds,hds⟩:∃ds:List Value,ds=[.int .i64 (pb.1-pa.1),.int .i64 (pb.2.1-pa.2.1),.int .i64 (pb.2.2-pa.2.2)]:=⟨_,rfl⟩
  refine⟨Nat×World×Iv,fun z=>⟨[(1,pP 0 0),(3,.o (.w 1 i)),(5,iN j),(6,pP 2 0),(7,iN z.1)],[(2,.arr 189 ds),(1,.vec T.Lint 1 rv),(0,.box T.Frame [.v (.slice an f.nodes.length cn),.v (.slice ab f.bars.length cb),.v (.slice aq f.cV.length cq)])],3,z.2.2,z.2.1⟩,fun z=>3-z.1,
   fun z=>z.1<=3∧dm w.heap.size w z.2.1∧gv z.2.1 w.heap.size z.2.2 rv f.cols (eR f (df f j) j z.1)∧FT (eR f (df f j) j z.1) 2000000,?_,?_⟩
  ·intro O w' r3;exact⟨(0,w',_),⟨aP _,hw.tr r3.cP,Tz.rel r3,Oe⟩,Sub.aAo 2 (vs:=ds) (by rw[hds];rfl) r3 fun r4=>Sub.gn [] r4⟩
  clear hw Tz Oe;rintro⟨k,w3,iv⟩ ⟨hk,hw,hE,Oe⟩;dsimp only at hk hw hE Oe ⊢;refine dM.mk ?_ ?_<;>intro Vd
  ·have hk3:k<3:=by have:=aI Vd;omega
   obtain⟨d,hd⟩:∃d,(sP f b).getD k 0=d:=⟨_,rfl⟩
   have hdb: -2000000<=d∧d<=2000000:=by
    rw[<-hd,hbD];rcases(show k=0∨k=1∨k=2 by omega)with rfl|rfl|rfl<;>simp[List.getD]<;>omega
   have hdk:ds[k]? =some (.int .i64 d):=by
    rw[hds,<-hd,hbD];rcases(show k=0∨k=1∨k=2 by omega)with rfl|rfl|rfl<;>rfl
   have hMl:(eR f (df f j) j k).length=3*f.nodes.length:=by rw[<-hE.len];have:=hE.len;omega
   obtain⟨la,Pc⟩:∃l,(eR f (df f j) j k)[3*ka+k]? =some l:=⟨_,aB (by first|omega|(rw [bE];omega))⟩
   have hlaw:=hE.wid la (aC Pc);obtain⟨za,VG⟩:∃z,la[j]? =some z:=⟨_,aB (by omega)⟩
   obtain⟨va,Va⟩:∃v,rv[3*ka+k]? =some v:=⟨_,aB (by have:=(aD.1 Pc).1;rw[hE.len];exact this)⟩
   obtain⟨aa5,ca5,rfl⟩:=hE.form Va;obtain⟨ada5,Sv,-,-⟩:=hE.load Va Pc VG;refine cK hτ dZ [.x 0,.x 1,.x 2,.x 3,.x 4,.x 5,.x 6,.x 7,.x 8,.x 9,.x 10,.x 11,.x 12,.x 13,.x 14,.x 15,.x 16,.x 17] (by kernel_rfl) (by kernel_rfl) ?_;refine⟨adb,hadb,by omega,.int .i64 (ka:Int),fun O w' r=>?_,?_⟩
   ·obtain⟨k1,k2⟩:=hlb0 0 _ rfl;rw[cG (w:=w) (w2:=w') (by simp only[dE];exact(hw.tr r.cP).block _ (hS _ k1))];simp only[aE,kE]at k2 ⊢;exact k2
   refine⟨((3*ka:Nat):Int),wo,((3*ka+k:Nat):Int),wo,by rw[Ok,aR,aT],by omega,.slice aa5 f.cols ca5,by rw[aE,aT];exact Va,by omega,.int .i64 d,by rw[aR,aE,aT];exact hdk,ada5,Sv,by omega,?_⟩;intro O w' r;obtain⟨g,hg,h1,h2,h3,h4⟩:=hE.store r (z:=d) Va Pc (show j<f.cols by omega);rw[Sv]at hg;injection hg with hg;subst hg;refine⟨h1,h2,h3,fun w5 Qg=>?_⟩;obtain⟨k1,k2,k3,-,-⟩:=h4 w5 Qg;replace hw:=(hw.tr r.cP).tr k2;replace Oe:=Oe.set (r:=3*ka+k) (c:=j) (z:=d) (t2:=2000000) (by omega) Pc (by omega);replace hE:=k1;clear h1 h2 h3 h4 Qg k1 k2 k3 r Sv;obtain⟨lb,Oc⟩:∃l,((eR f (df f j) j k).set (3*ka+k) (la.set j d))[3*kb+k]? =some l:=⟨_,aB (by first|omega|(rw [bE];omega))⟩
   have hlbw:=hE.wid lb (aC Oc);obtain⟨zb,SO⟩:∃z,lb[j]? =some z:=⟨_,aB (by omega)⟩
   obtain⟨vb,UX⟩:∃v,rv[3*kb+k]? =some v:=⟨_,aB (by have:=(aD.1 Oc).1;rw[hE.len];exact this)⟩
   obtain⟨ab5,cb5,rfl⟩:=hE.form UX;obtain⟨adb5,Sw,-,-⟩:=hE.load UX Oc SO;refine cK hτ dZ [.x 0,.x 1,.x 2,.x 3,.x 4,.x 5,.x 6,.x 7,.x 8,.x 9,.x 10,.x 11,.x 12,.x 13,.x 14,.x 15,.x 16,.x 17,.x 18] (by kernel_rfl) (by kernel_rfl) ?_;refine⟨adb,hadb,by omega,.int .i64 (kb:Int),fun O w' r=>?_,?_⟩
   ·obtain⟨k1,k2⟩:=hlb0 1 _ rfl;rw[cG (w:=w) (w2:=w') (by simp only[dE];exact(hw.tr r.cP).block _ (hS _ k1))];simp only[aE,kE]at k2 ⊢;exact k2
   refine⟨((3*kb:Nat):Int),wo,((3*kb+k:Nat):Int),wo,by rw[Ok,aR,aT],by omega,.slice ab5 f.cols cb5,by rw[aE,aT];exact UX,by omega,.int .i64 d,by rw[aR,aE,aT];exact hdk,-d,wo,adb5,Sw,by omega,?_⟩;intro O w' r;obtain⟨g,hg,h1,h2,h3,h4⟩:=hE.store r (z:=(-d)) UX Oc (show j<f.cols by omega);rw[Sw]at hg;injection hg with hg;subst hg;refine⟨h1,h2,h3,fun w5 Qg=>?_⟩;obtain⟨k1,k2,k3,-,-⟩:=h4 w5 Qg;replace hw:=(hw.tr r.cP).tr k2;replace Oe:=Oe.set (r:=3*kb+k) (c:=j) (z:=(-d)) (t2:=2000000) (by omega) Oc (by omega);replace hE:=k1;clear h1 h2 h3 h4 Qg k1 k2 k3 r Sw;rw[Md hb ea eb PY hk3 hd Pc Oc]at hE Oe;refine⟨((k+1:Nat):Int),wo,?_⟩;intro ρ3 w6 r3;exact⟨(k+1,w6,_),⟨hk3,hw.tr r3.cP,hE.rel r3,Oe⟩,Sub.gn [] r3,by dsimp only;omega⟩
  have Vd:k=3:=by have:=aH Vd;omega
  subst Vd;refine⟨((j+1:Nat):Int),wo,?_⟩;intro ρ3 w6 r3;exact⟨(j+1,w6,_),⟨Pf,hw.tr r3.cP,hE.rel r3,Oe⟩,Sub.gn [] r3,by dsimp only;omega⟩
 have Pf:j=f.bars.length:=aQ hj (by simpa using Pf);subst Pf
 refine⟨Nat×World×Iv,fun z=>⟨[(1,pP 0 0),(3,.o (.w 1 i)),(8,iN z.1)],[(1,.vec T.Lint 1 rv),(0,.box T.Frame [.v (.slice an f.nodes.length cn),.v (.slice ab f.bars.length cb),.v (.slice aq f.cV.length cq)])],2,z.2.2,z.2.1⟩,fun z=>f.cV.length-z.1,
  fun z=>z.1<=f.cV.length∧dm w.heap.size w z.2.1∧gv z.2.1 w.heap.size z.2.2 rv f.cols (fA f z.1)∧FT (fA f z.1) 2000000,?_,?_⟩
 ·intro O w' r3;exact⟨(0,w',_),⟨aP _,hw.tr r3.cP,hE.rel r3,Oe⟩,Sub.gn [] r3⟩
 clear hw hE Oe hj;rintro⟨j,w2,iv⟩ ⟨hj,hw,hE,Oe⟩;dsimp only at hj hw hE Oe ⊢;refine dM.mk ?_ ?_<;>intro Pf
 ·have Pf:j<f.cV.length:=by simpa using Pf
  obtain⟨s,hs⟩:∃b,f.cV[j]? =some b:=⟨_,aB Pf⟩
  obtain⟨hA,hB⟩:=OI.sup s (aC hs);obtain⟨ks,VH⟩:=Int.eq_ofNat_of_zero_le (show 0<=3*s.1+s.2.1 by omega);have hMl:=nd f j;obtain⟨l,hl⟩:∃l,(fA f j)[ks]? =some l:=⟨_,aB (by omega)⟩
  have hlw:=hE.wid l (aC hl);obtain⟨v,hv⟩:∃v,rv[ks]? =some v:=⟨_,aB (by rw[hE.len];omega)⟩
  obtain⟨a5,c5,rfl⟩:=hE.form hv;obtain⟨z0,OQ⟩:∃z,l[f.bars.length+j]? =some z:=⟨_,aB (by omega)⟩
  obtain⟨ad5,ha5,-,-⟩:=hE.load hv hl OQ;obtain⟨adb,cs,PY,hF,-,Oc⟩:=hf.cV.load (by decide) hs;obtain⟨g0,g1,g2,g3,g4,g5,g6,g7,rfl,hF⟩:=hF;refine cK hτ dZ [.x 0,.x 1,.x 2,.x 3,.x 4,.x 5,.x 6,.x 7,.x 8,.x 9,.x 10,.x 11,.x 12,.x 13,.x 14,.x 15,.x 16,.x 17,.x 18,.x 19,.x 20,.x 21,.x 22,.x 23] (by kernel_rfl) (by kernel_rfl) ?_;refine⟨adb,PY,by omega,.int .i64 s.1,fun O w' r=>?_,?_⟩
  ·obtain⟨k1,k2⟩:=Oc 0 _ rfl;rw[cG (w:=w) (w2:=w') (by simp only[dE];exact(hw.tr r.cP).block _ (hS _ k1))];simp only[aE,kE]at k2 ⊢;exact k2
  refine⟨3*s.1,wo,adb,PY,by omega,.int .i64 s.2.1,fun O w' r=>?_,?_⟩
  ·obtain⟨k1,k2⟩:=Oc 1 _ rfl;rw[cG (w:=w) (w2:=w') (by simp only[dE];exact(hw.tr r.cP).block _ (hS _ k1))];simp only[aE,kE]at k2 ⊢;exact k2
  refine⟨((ks:Nat):Int),wo,by rw[Ok,aT],by omega,.slice a5 f.cols c5,by rw[aE,aT];exact hv,((f.bars.length+j:Nat):Int),wo,ad5,ha5,by omega,?_⟩;intro O w' r;obtain⟨g,hg,h1,h2,h3,h4⟩:=hE.store r (z:=1) hv hl (show f.bars.length+j<f.cols by omega);rw[ha5]at hg;injection hg with hg;subst hg;refine⟨h1,h2,h3,fun w5 Qg=>?_⟩;obtain⟨k1,k2,k3,-,-⟩:=h4 w5 Qg;replace hw:=(hw.tr r.cP).tr k2;have Rp:=Oe.set (r:=ks) (c:=f.bars.length+j) (z:=1) (t2:=2000000) (by omega) hl (by omega);rw[FV hs VH hl]at k1 Rp;clear h1 h2 h3 h4 Qg k2 k3 r hE;refine⟨((j+1:Nat):Int),wo,?_⟩;intro ρ3 w6 r3;exact⟨(j+1,w6,_),⟨Pf,hw.tr r3.cP,k1.rel r3,Rp⟩,Sub.gn [] r3,by dsimp only;omega⟩
 have Pf:j=f.cV.length:=aQ hj (by simpa using Pf);subst Pf;intro ρe we re;have OZ:=hE.rel re;have hMl:=nd f f.cV.length;have Q5:=hE.len;refine⟨_,rfl,hw.tr re.cP,⟨rv,?_,hE.len,fun i u x k1 k2=>?_⟩,Oe⟩
 ·rw[show (gu f).length=rv.length from hE.len.symm];have h5:=re.iR (id:=1) (sz:=1) (m:=rv.length) rfl (by simp) (by unfold maxLen;omega) (by decide) hE.one;rw[show (i:Nat)=rv.length by omega];exact h5.cI fun g hg=>.inr hg
 ·obtain⟨a,c,rfl⟩:=hE.form k1;have PO:=hE.wid x (aC k2);refine⟨by rw[PO];unfold maxLen;omega,by simp,fun v hv=>by obtain⟨z,_,rfl⟩:=aU.1 hv;rfl,a,c,by rw[PO],?_,fun t v hv=>?_⟩
  ·rw[PO];obtain⟨a2,c2,e,h⟩:=jk (hE.row i _ x k1 k2);injection e with e1 e2 e3;omega
  ·rw[aM]at hv
   cases ht:x[t]? with
   |none=>rw[ht]at hv;cases hv
   |some z=>
    rw[ht]at hv;simp only[Option.map_some,Option.some.injEq]at hv;subst hv;obtain⟨ad,h1,h2,h3⟩:=OZ.load k1 k2 ht;exact⟨ad,h1,Cv.nw h2 re,by rw[aT]at h3;exact h3⟩
end Go.Ex
namespace Go.Ex
open Go Go.Sx Go.Proofs
variable{M:List (List Int)}{l:List Int}{xs:List Rat}{g n:Nat}{S:Nat->Prop}{O:Nat->Sx.dg}{v:Value}
theorem uZ{i:Nat}{z:Int}(h:l[i]? =some z):dN (l.take (i+1))=dN (l.take i)++[(z:Rat)]:=by rw[dN,List.take_add_one,h,List.map_append];rfl
theorem u6{w:World}{B e sz:Nat}{xs:List Value}(h:w.ownsRow B e sz v n xs):w.ownsRow 0 e sz v n xs:=⟨h.1,h.2.imp id fun⟨g,cap,cur,e1,_,rest⟩=>⟨g,cap,cur,e1,aP _,rest⟩⟩
theorem Cv.fin{H:Hp}{nx:Nat}{iv:Iv}{w0 w1 w':World}(hg:Cf w0 iv g)(r:Rel H nx iv w0.heap.size w1 O w'):Cf w0 [(w0.heap.size,w'.heap.size)] g:=by
 rcases hg with hg|⟨h1,lo,hi,h2,h3,h4⟩
 ·exact hg.elim
 ·exact .inr ⟨h1,_,_,bB.2 rfl,h1,by have:=r.qd lo hi h2;have:=r.size;omega⟩
theorem Cv.new{w w2:World}(hg:Cf w [(w.heap.size,w2.heap.size)] g):Nf w w2 g:=by
 rcases hg with hg|⟨h1,lo,hi,h2,h3,h4⟩
 ·exact hg.elim
 ·simp at h2;obtain⟨rfl,rfl⟩:=h2;exact .inr ⟨h3,h4⟩
theorem OD.x{w w2:World}(h:OD w w2 v xs)(hn:xs.length=n):dP w2 FF w.heap.size [(w.heap.size,w2.heap.size)] v n xs:=by
 subst hn;obtain⟨css,h1,h2,h3,h4⟩:=h;have hl:=ownsRow.low h1;refine⟨⟨css,u6 h1,h2,h2,fun j cs q k1 k2=>(h4 j cs q k1 k2).cI fun g hg=>⟨?_,hg.2⟩⟩,fun g e=>.inr ⟨(hl g e).1,_,_,bB.2 rfl,(hl g e).1,(hl g e).2⟩⟩;rcases hg.1 with h|h
 ·exact h.elim
 ·exact .inr ⟨h.1,_,_,bB.2 rfl,h.1,h.2⟩
structure nh(w:World)(B:Nat)(iv:Iv)(v:Value)(M:List (List Rat)):Prop where
 row:∃rv,w.ownsRow 0 T.fU 1 v M.length rv∧rv.length=M.length∧(∀u∈rv,u.oneCell'=true)∧∀(i:Nat) u x,rv[i]? =some u->M[i]? =some x->cJ w (Bs FF B iv v) u x
 new:∀g,v.ownBlock=some g->Cv FF B iv g
section
variable{H:Hp}{nx:Nat}{iv iv':Iv}{B:Nat}{w w' w2:World}{O:Nat->Sx.dg}{v:Value}{M:List (List Rat)}
theorem nh.cH(h:nh w B iv v M)(hk:∀g,Cv FF B iv g->w2.heap[g]? =w.heap[g]?):nh w2 B iv v M:=by
 obtain⟨⟨rv,h1,h2,h3,h4⟩,h5⟩:=h;exact⟨⟨rv,ownsRow.cH h1 fun g hg=>hk g (h5 g hg),h2,h3,fun i u x k1 k2=>cJ.cH (h4 i u x k1 k2) fun g hg=>hk g hg.1⟩,h5⟩
theorem nh.rel(h:nh w B iv v M)(r:Rel H nx iv B w O w')(hS:∀g,FF g->g<B):nh w' B iv v M:=h.cH fun _ hg=>Rel.same r hS hg
theorem nh.mono(h:nh w B iv v M)(hm:∀p,p∈iv->p∈iv'):nh w B iv' v M:=by
 obtain⟨⟨rv,h1,h2,h3,h4⟩,h5⟩:=h;exact⟨⟨rv,h1,h2,h3,fun i u x k1 k2=>cJ.cI (h4 i u x k1 k2) fun g hg=>Bs.mono hm hg⟩,fun g hg=>(h5 g hg).mono hm⟩
theorem nh.cF(h:nh w B iv v M)(r:Rel H nx iv B w O w')(hS:∀g,FF g->g<B)(he:Ext w' w2)(hm:∀p,p∈iv->p∈iv'):nh w2 B iv' v M:=((h.rel r hS).cH fun g hg=>he.block g (Rel.old r hS g hg)).mono hm
theorem nh.dA(h:nh w2 w'.heap.size [(w'.heap.size,w2.heap.size)] v M)(hB:B<=w'.heap.size)(hm:(w'.heap.size,w2.heap.size)∈iv):nh w2 B iv v M:=by
 have key:∀g,Cv FF w'.heap.size [(w'.heap.size,w2.heap.size)] g->Cv FF B iv g:=fun g hg=>(Cv.new hg).dA hB hm;obtain⟨⟨rv,h1,h2,h3,h4⟩,h5⟩:=h;exact⟨⟨rv,h1,h2,h3,fun i u x k1 k2=>cJ.cI (h4 i u x k1 k2) fun g hg=>⟨key g hg.1,hg.2⟩⟩,fun g hg=>key g (h5 g hg)⟩
theorem nh.c(h:nh w B iv v M):cQ w (Cv FF B iv) v M:=by
 obtain⟨⟨rv,h1,h2,h3,h4⟩,h5⟩:=h;refine⟨rv,?_,h2,fun i u x k1 k2=>cJ.cI (h4 i u x k1 k2) fun g hg=>hg.1⟩;rcases h1.2 with⟨e,h0⟩|⟨g,cap,cur,e,_,hc,hn,hm,hs,ht⟩
 ·have:rv=[]:=List.eq_nil_of_length_eq_zero (by rw[h2,h0]);subst this;rw[e,h0];exact⟨aP _,rfl,by simp,none,0,rfl,aF _,fun j u h=>by cases h⟩
 ·subst e;refine⟨aZ hn hm,h1.1,h3,_,cap,rfl,hn,fun j u hu=>⟨_,rfl,h5 g rfl,?_⟩⟩;have:=h1.cells (g:=g) rfl j u hu;exact this
end
theorem At.NC{id:Nat}:((At.w id n).den O).oneCell'=true:=by
 cases h:(O id).nil<;>simp[At.den,h,Value.oneCell']
theorem Fh{w:World}(hS:Old S w)(hM:si w S v M)(hR:M.length<=1000)(hn:∀l∈M,l.length<=1000)(hb:∀l∈M,∀z∈l,-1000000000<=z∧z<=1000000000):
  di PG N.sY #[v] w (dw w fun v' w2=>nh w2 w.heap.size [(w.heap.size,w2.heap.size)] v' (M.map dN)):=by
 have hw:=bR w;obtain⟨am,cm,rfl,-,RD⟩:=dD.shape hM;unfold maxLen at RD;refine BA (by simp) ?_
 refine⟨Nat×List Value×World×Iv,fun z=>⟨[(0,sV am M.length cm),(3,.o (.w 0 z.2.1.length)),(4,iN z.1)],[(0,.vec T.fU 1 z.2.1)],1,z.2.2.2,z.2.2.1⟩,fun z=>M.length-z.1,
  fun z=>z.1<=M.length∧dm w.heap.size w z.2.2.1∧dR z.2.2.1 (Cf w z.2.2.2) z.2.1 ((M.take z.1).map dN),?_,?_⟩
 ·intro O w' r;exact⟨(0,[],w',[]),⟨aP _,hw.tr r.cP,by simp[dR]⟩,Sub.nil 3 T.fU 1 rfl (by simp[jX,SV.sc,At.sc,fT]) r fun ρ1 r1=>Sub.gn [] r1⟩
 clear hw;rintro⟨i,rv,w1,iv⟩ ⟨hi,hw,hK⟩;dsimp only at hi hw hK ⊢;have Ok:rv.length=i:=by rw[hK.1,aJ,aW];omega
 refine dM.mk ?_ ?_<;>intro OF
 ·have OF:i<M.length:=by simpa using OF
  obtain⟨l,hl⟩:∃x,M[i]? =some x:=⟨_,aB OF⟩
  have SA:=hn l (aC hl);have Oc:=hb l (aC hl);obtain⟨adm,um,Qs,PK,km1,km2⟩:=dD.load hM hl;obtain⟨al,cl,rfl,-,Ql⟩:=PK.shape
  refine⟨Nat×List (List Value)×World×Iv,fun z=>⟨[(0,sV am M.length cm),(3,.o (.w 0 rv.length)),(4,iN i),(5,.o (.w 1 z.2.1.length)),(6,iN z.1)],[(1,.vec T.Rat 4 z.2.1.flatten),(0,.vec T.fU 1 rv)],2,z.2.2.2,z.2.2.1⟩,fun z=>l.length-z.1,
   fun z=>z.1<=l.length∧dm w.heap.size w z.2.2.1∧dR z.2.2.1 (Cf w z.2.2.2) rv ((M.take i).map dN)∧eD z.2.2.1 (Cf w z.2.2.2) z.2.1 (dN (l.take z.1)),?_,?_⟩
  ·intro O w' r;exact⟨(0,[],w',_),⟨aP _,hw.tr r.cP,hK.rel r (cB w),eD.nil⟩,Sub.nil 5 T.Rat 4 rfl (by simp[jX,SV.sc,At.sc,fT]) r fun ρ1 r1=>Sub.gn [] r1⟩
  clear hw hK;rintro⟨k,css,w3,iv⟩ ⟨hk,hw,hK,hG⟩;dsimp only at hk hw hK hG ⊢;have OY:=eN hG.four;have Sy:css.length=k:=by rw[hG.len,dN,aJ,aW];omega
  refine⟨adm,Qs,by omega,.slice al l.length cl,rd1 km2 hw (hS _ km1),?_⟩;refine dM.mk ?_ ?_<;>intro OK
  ·have OK:k<l.length:=by simpa using OK
   obtain⟨z,hz⟩:∃x,l[k]? =some x:=⟨_,aB OK⟩
   have SO:=Oc z (aC hz);obtain⟨adx,PS,hSx,Oj⟩:=FR.at PK hz;refine⟨adm,Qs,by omega,.slice al l.length cl,rd1 km2 hw (hS _ km1),adx,PS,by omega,.int .i64 z,rd1 Oj hw (hS _ hSx),?_⟩;refine cC (cE hw (fun _ w' v w2=>cU w2 (Nf w' w2) v (z:Rat)) (fun O w' r=>lz z w' (by omega)) ?_);rintro O _ _ _ OM r he hw h_ hn;replace hK:=hK.cF r (cB w) he (mC h_);replace hG:=hG.cF r (cB w) he (mC h_);have hd:=hn.dA (S:=FF) r.cD (mN h_);clear r hn;obtain⟨A0,A1,A2,A3,A4,A5,A6,A7,rfl⟩:=hd.shape;have S5:=hG.push (cs:=[.bool A0,.slice A1 A2 A3,.bool A4,.slice A5 A6 A7]) (q:=(z:Rat)) ⟨_,_,_,_,_,_,_,_,rfl,hd⟩ rfl;rw[<-uZ hz]at S5;have QR:css.flatten++([.bool A0,.slice A1 A2 A3,.bool A4,.slice A5 A6 A7]:List Value)=(css++([[.bool A0,.slice A1 A2 A3,.bool A4,.slice A5 A6 A7]]:List (List Value))).flatten:=by simp
   refine .inl ?_;refine⟨by omega,by omega,by unfold maxLen;omega,((k+1:Nat):Int),wo,?_⟩;intro ρ3 w6 r3;exact⟨(k+1,css++[[.bool A0,.slice A1 A2 A3,.bool A4,.slice A5 A6 A7]],w6,_),⟨OK,hw.tr r3.cP,hK.rel r3 (cB w),S5.rel r3 (cB w)⟩,Sub.gn [(1,3)] r3 ⟨by dsimp only;rw[<-QR];rfl,rfl,trivial⟩ ⟨rfl,rfl,rfl,by dsimp only;rw[List.length_append,List.length_singleton];rfl,rfl,trivial⟩,by dsimp only;omega⟩
  have OK:k=l.length:=aQ hk (by simpa using OK);have TQ:dN (l.take k)=dN l:=by rw[OK,bC]
  rw[TQ]at hG;refine sE hτ (id3:=2) (id2:=1) (tH:=[(0,.vec T.fU 1 rv)]) rfl rfl rfl rfl (by simp) (by first|exact⟨rfl,trivial⟩|exact⟨rfl,rfl,trivial⟩) rfl rfl (fun O w' r r2 Sz=>?_);have OG:=eD.list ((hG.rel r (cB w)).cI fun g hg=>Cv.mono (iv':=((O 2).g,(O 2).g+1)::lN (O 1) iv) hg fun p hp=>List.mem_cons_of_mem _ (uu p hp)) ((r.OC (id:=1) (sz:=4) (m:=css.length) rfl OY (by unfold maxLen;omega) (by decide) hG.one).cI fun g hg=>Cv.mono hg fun p hp=>List.mem_cons_of_mem _ hp);have QQ:((At.w 1 css.length).den O).oneCell'=true:=At.NC;have S7:=r.low 2 _ rfl (r.fits (id:=2) rfl).1;have hC3:Cf w (((O 2).g,(O 2).g+1)::lN (O 1) iv) (O 2).g:=.inr ⟨S7.1,_,_,aG,aF _,bZ _⟩;have PI:∀p,p∈iv->p∈((O 2).g,(O 2).g+1)::lN (O 1) iv:=fun p hp=>List.mem_cons_of_mem _ (uu p hp);have PE:=hw.tr r.cP;have hK1:=(hK.rel r (cB w)).cI fun g hg=>Cv.mono hg PI;clear r2 S7;generalize (At.w 1 css.length).den O=ur at*
  generalize (O 2).g=gy at*
  generalize (gy,gy+1)::lN (O 1) iv=OJ at*
  refine⟨[ur],rfl,by simpa using QQ,fun ρ2 w2 r2 _=>⟨_,rfl,fun j u hu=>?_⟩,?_⟩
  ·have h5:=Rel.same r2 (gV _) hC3;rw[dW,cell_of (h5.trans Sz)];rcases j with _|j
   ·exact hu
   ·cases hu
  refine⟨by simp,by omega,by unfold maxLen;omega,?_⟩;have Qw:=hK1.push QQ OG;rw[show (M.take i).map dN++[dN l]=(M.take (i+1)).map dN by rw[List.take_add_one,hl];simp]at Qw;refine⟨((i+1:Nat):Int),wo,?_⟩;intro ρ3 w6 r3;exact⟨(i+1,rv++[ur],w6,_),⟨OF,PE.tr r3.cP,Qw.rel r3 (cB w)⟩,Sub.gn [(0,3)] r3 (hE:=⟨rfl,by dsimp only;rw[List.length_append,List.length_singleton];rfl,rfl,trivial⟩),by dsimp only;omega⟩
 have OF:i=M.length:=aQ hi (by simpa using OF);rw[show (M.take i).map dN=M.map dN by rw[OF,bC]]at hK;intro ρe we re;refine⟨_,rfl,hw.tr re.cP,⟨rv,by rw[<-hK.1];exact u6 (yj re (id:=0) rfl (by simp) (by decide)),hK.1,hK.2.1,fun i u x k1 k2=>cJ.cI (cJ.cH (hK.2.2 i u x k1 k2) fun g hg=>Rel.same re (cB w) hg) fun g hg=>⟨hg.fin re,fun e=>Rel.not re (cB w) hg 0 _ rfl (CR e).1 (CR e).2⟩⟩,fun g e=>?_⟩;have hl:=re.low 0 _ rfl (CR e).1;rw[(CR e).2]at hl;exact .inr ⟨hl.1,_,_,bB.2 rfl,hl.1,hl.2⟩
theorem IJ{w:World}(hS:Old S w)(hM:si w S v M)(hR:M.length<=1000)(hn:∀l∈M,l.length<=1000)(hb:∀l∈M,∀z∈l,-1000000000<=z∧z<=1000000000):
  di PG N.sY #[v] w (dw w fun v' w2=>cQ w2 (Nf w w2) v' (M.map dN)):=
 (Fh hS hM hR hn hb).mono fun _ _ ⟨v2,e1,e2,e3⟩=>⟨v2,e1,e2,cQ.cI e3.c fun _ hg=>hg.new⟩
theorem u7{w:World}(hS:Old S w)(hx:cR w S v xs)(hn:xs.length<=1000)(hb:∀q∈xs,rl q<=90000):
  di PG N.l8 #[v] w (dw w fun v' w2=>dP w2 FF w.heap.size [(w.heap.size,w2.heap.size)] v' xs.length (cX xs (-1))):=by
 have hw:=bR w;have Ri:rl (-1)=1:=by decide
 have R0:=hx;obtain⟨ax,cx,rfl,-,-⟩:=cY.shape R0;refine uH (by simp) ?_;refine cC (cE hw (fun _ w' v w2=>cU w2 (Nf w' w2) v (((-1:Int)):Rat)) (fun O w' r=>lz (-1) w' (by decide)) ?_);rintro O _ _ _ OM r he hw h_ hn;have hd:=hn.dA (S:=FF) r.cD (mN h_);clear r hn;obtain⟨A0,A1,A2,A3,A4,A5,A6,A7,rfl⟩:=hd.shape;refine cC (cE hw (fun _ w' v w2=>dP w2 FF w'.heap.size [(w'.heap.size,w2.heap.size)] v xs.length (cX xs (-1))) (fun O w' r=>((show k7 [] xs (-1)=cX xs (-1)from CQ xs (-1))▸Fi (b:=(-1:Rat)) (S:=fun g=>S g∨Cf w OM g) (fun g hg=>hg.elim (oS hS r g) (Rel.old r (cB w) g)) (cR.nil w' _) (cR.cI (cR.cH hx (kS hw r hS)) fun g hg=>.inl hg) (((hd.rel r (cB w)).l (by decide)).cI fun g hg=>.inr hg) (.inl rfl) (by omega) (fun y hy=>by have:=hb y hy;omega)).mono fun _ _ ⟨v2,e1,e2,_,e3⟩=>⟨v2,e1,e2,e3.x (by rw[cX,aJ])⟩) ?_);rintro O _ _ _ OJ r he hw h_ hn;clear hd;have hr:=dP.dA (S:=FF) hn r.cD (mN h_);clear r;clear hn;exact rtn hw fun ρe we re=>hr.out re
theorem Fj{w:World}(hS:Old S w)(hx:cR w S v xs)(hn:xs.length<=1000)(hb:∀q∈xs,rl q<=90000):
  di PG N.l8 #[v] w (dw w fun v' w2=>cJ w2 (Nf w w2) v' (cX xs (-1))):=
 (u7 hS hx hn hb).mono fun _ _ ⟨v2,e1,e2,e3⟩=>⟨v2,e1,e2,cJ.cI e3.c fun _ hg=>hg.new⟩
end Go.Ex
namespace Go.Ex
variable{s:Int×Int×Rat}{M:List (List Int)}{fl:List Rat}{t:Nat}{u y z:Nat->Rat}{f:eh}
theorem MP{r c:Nat}:dL (M.map dN) r c=((ez M r c:Int):Rat):=by
 have key:∀l:List Int,(dN l).getD c 0=((l.getD c 0:Int):Rat):=fun l=>by
  rw[dN,List.getD,List.getD,aM]
  cases l[c]? <;>rfl
 unfold dL ez;rw[<-key];congr 1;rw[List.getD,List.getD,aM]
 cases M[r]? <;>rfl
theorem Gj(f:eh)(r c:Nat):dL (cO f) r c=((ez (gu f) r c:Int):Rat):=MP
def Nb(n:Nat)(M:List (List Int)):Prop:=∀l∈M,l.length=n
theorem Nb.put{n r c:Nat}{d:Int}(h:Nb n M):Nb n (putAt M r c d):=fun l hl=>by
 unfold putAt at hl;rcases aO r M.length with hr|hr
 ·rcases bJ hl with hl|rfl
  ·exact h l hl
  ·rw[bE,List.getD,aB hr];exact h _ (aX hr)
 ·rw[List.set_eq_of_length_le hr]at hl;exact h l hl
theorem Bv{f:eh}{M:List (List Int)}{n i:Nat}(h:Nb n M):∀k,Nb n (eR f M i k)
 |0=>h
 |k+1=>by rw[eR];rw[gk,gk];exact((Bv h k).put).put
theorem zX(f:eh):∀i,Nb f.cols (df f i)
 |0=>fun l hl=>by rw[df]at hl;rw[bP hl,bF]
 |i+1=>by rw[df];exact Bv (zX f i) 3
theorem jZ(f:eh):∀i,Nb f.cols (fA f i)
 |0=>zX f _
 |i+1=>by rw[fA];exact(jZ f i).put
theorem oN(M:List (List Int))(r c:Nat)(d:Int):(putAt M r c d).length=M.length:=bE ..
theorem tZ(f:eh)(M:List (List Int))(i:Nat):∀k,(eR f M i k).length=M.length
 |0=>rfl
 |k+1=>by rw[eR];rw[gk,gk,oN,oN];exact tZ f M i k
theorem rN(f:eh):∀i,(df f i).length=3*f.nodes.length
 |0=>bF ..
 |i+1=>by rw[df,tZ];exact rN f i
theorem mz(f:eh):∀i,(fA f i).length=3*f.nodes.length
 |0=>rN f _
 |i+1=>by rw[fA,oN];exact mz f i
theorem ed(f:eh):fg f.cols (cO f):=fun r hr=>by
 obtain⟨l,hl,rfl⟩:=aU.1 hr;rw[dN,aJ];exact jZ f _ l hl
theorem fc(f:eh):(cO f).length=3*f.nodes.length:=by rw[cO,aJ];exact mz f _
structure GI(f:eh):Prop where
 co:∀p∈f.nodes,(-1000000<=p.1∧p.1<=1000000)∧(-1000000<=p.2.1∧p.2.1<=1000000)∧(-1000000<=p.2.2∧p.2.2<=1000000)
 MQ:∀b∈f.bars,∃ka kb:Nat,b.1=ka∧b.2.1=kb∧ka<f.nodes.length∧kb<f.nodes.length∧ka≠kb∧0<b.2.2
 sup:∀s∈f.cV,gg s<3*f.nodes.length∧0<=s.2.2
 one:∀(i j:Nat) s t,f.cV[i]? =some s->f.cV[j]? =some t->gg s=gg t->i=j
 n:f.nodes.length<=20
 b:f.bars.length<=60
 s:f.cV.length<=60
theorem Hv{α:Type}{l:List α}{x:α}(h:x∈l):∃i:Nat,l[i]? =some x:=by
 obtain⟨i,hi,rfl⟩:=List.mem_iff_getElem.1 h;exact⟨i,aB hi⟩
theorem Nc(h:eV f=0):GI f:=by
 have OI:=mS h;obtain⟨⟨h1,h2,h3⟩,h4,h5,h6⟩:=vF h;have VQ:∀(k:Nat) s,f.cV[k]? =some s->jL f.nodes.length s.1∧(0<=s.2.1∧s.2.1<=2)∧ie s∉(f.cV.take k).map ie∧0<=s.2.2:=fun k s hs=>qp.1 (ig h6 k s hs);have OG:∀(k:Nat) s,f.cV[k]? =some s->(gg s:Int)=3*s.1+s.2.1∧gg s<3*f.nodes.length:=fun k s hs=>by
  obtain⟨⟨a1,a2⟩,⟨a3,a4⟩,-,-⟩:=VQ k s hs;unfold gg;omega
 have lt:∀(i j:Nat) s t,i<j->f.cV[i]? =some s->f.cV[j]? =some t->gg s≠gg t:=fun i j s t Pm hs ht e=>by
  obtain⟨⟨a1,a2⟩,⟨a3,a4⟩,-,-⟩:=VQ i s hs;obtain⟨⟨b1,b2⟩,⟨b3,b4⟩,b5,-⟩:=VQ j t ht;have e1:=(OG i s hs).1;have e2:=(OG j t ht).1;refine b5 (aU.2 ⟨s,aC (i:=i) (by rw[bU Pm];exact hs),?_⟩);exact Prod.ext (by show s.1=t.1;omega) (by show s.2.1=t.2.1;omega)
 refine⟨OI.co,fun b hb=>?_,fun s hs=>?_,fun i j s t hs ht e=>?_,h1,h2,h3⟩
 ·obtain⟨k,hk⟩:=Hv hb;obtain⟨⟨⟨a1,a2⟩,a3,a4⟩,a5,-,a6⟩:=nR.1 (ig h5 k b hk);exact⟨b.1.toNat,b.2.1.toNat,by omega,by omega,by omega,by omega,by omega,a6⟩
 ·obtain⟨k,hk⟩:=Hv hs;exact⟨(OG k s hk).2,(VQ k s hk).2.2.2⟩
 ·rcases bq i j with h7|h7|h7
  ·exact absurd e (lt i j s t h7 hs ht)
  ·exact h7
  ·exact absurd e.symm (lt j i t s h7 ht hs)
theorem Es(M:List (List Int))(r c r' c':Nat)(d:Int):ez (putAt M r c d) r' c'=d∨ez (putAt M r c d) r' c'=ez M r' c':=by
 by_cases h:r'=r∧c'=c
 ·obtain⟨rfl,rfl⟩:=h;rcases aO r' M.length with h1|h1
  ·rcases aO c' (M.getD r' []).length with h2|h2
   ·exact .inl (Er h1 h2)
   ·refine .inr ?_;unfold ez putAt;rw[mQ h1,List.set_eq_of_length_le h2]
  ·refine .inr ?_;unfold ez putAt;rw[List.set_eq_of_length_le h1]
 ·exact .inr (jP (by
   by_cases h1:r'=r
   ·exact .inr fun h2=>h ⟨h1,h2⟩
   ·exact .inl h1))
theorem Et{k:Nat}(hk:k<f.nodes.length):f.node (k:Int)∈f.nodes:=by
 rw[eh.node,aE,List.getD,aB hk];exact aX hk
section
variable{f:eh}(h:GI f)
include h
theorem GI.dif{b:Int×Int×Rat}(hb:b∈f.bars)(k:Nat): -2000000<=(sP f b).getD k 0∧(sP f b).getD k 0<=2000000:=by
 obtain⟨ka,kb,ea,eb,hka,OK,-,-⟩:=h.MQ b hb;obtain⟨⟨a1,a2⟩,⟨a3,a4⟩,a5,a6⟩:=h.co _ (Et hka);obtain⟨⟨b1,b2⟩,⟨b3,b4⟩,b5,b6⟩:=h.co _ (Et OK);rw[sP,ea,eb]
 match k with
 |0=>simp[List.getD];omega
 |1=>simp[List.getD];omega
 |2=>simp[List.getD];omega
 |k+3=>simp[List.getD]
theorem GI.Eu{i:Nat}{b:Int×Int×Rat}(hb:f.bars[i]? =some b)(r:Nat):∀k,k<=3-> -2000000<=ez (eR f (df f i) i k) r i∧ez (eR f (df f i) i k) r i<=2000000
 |0,_=>by
  have:=mR f (r:=r) i (aF i);rw[eR,this];omega
 |k+1,hk=>by
  obtain⟨ka,kb,ea,eb,-,-,OH,-⟩:=h.MQ b (aC hb);have ih:=GI.Eu hb r k (by omega);have hd:=h.dif (aC hb) k;have z1:=oM (r:=3*ka+k) hb ea eb (show k<=3 by omega) (by omega);have z2:=oM (r:=3*kb+k) hb ea eb (show k<=3 by omega) (by omega);rw[eR];rw[Ct hb,toNat_add ea,toNat_add eb,gk,gk,z1,jP (r':=3*kb+k) (.inl (by omega)),z2];rcases Es (putAt (eR f (df f i) i k) (3*ka+k) i (0+(sP f b).getD k 0)) (3*kb+k) i r i (0+ -(sP f b).getD k 0)with e|e
  ·rw[e];omega
  ·rw[e];rcases Es (eR f (df f i) i k) (3*ka+k) i r i (0+(sP f b).getD k 0)with e|e
   ·rw[e];omega
   ·rw[e];exact ih
theorem GI.Hw{i r:Nat}(hi:i<f.bars.length):∀j,i<j->j<=f.bars.length-> -2000000<=ez (df f j) r i∧ez (df f j) r i<=2000000
 |0,h1,_=>by omega
 |j+1,h1,h2=>by
  rw[df];rcases aO i j with h3|h3
  ·rw[vE (by omega)];exact GI.Hw hi j h3 (by omega)
  ·rw[show j=i by omega];exact h.Eu (aB hi) r 3 (aF _)
theorem GI.Gk{r i:Nat}(hs:f.cV[i]? =some s):ez (gu f) r (f.bars.length+i)=if r=gg s then 1 else 0:=
 Bu (jZ f) (mz f) (fun s hs=>(h.sup s hs).1) hs _ (aD.1 hs).1
theorem GI.Nd(r c:Nat): -2000000<=ez (gu f) r c∧ez (gu f) r c<=2000000:=by
 rcases aO c f.bars.length with hc|hc
 ·rw[gu,zW hc];exact h.Hw hc _ hc (aF _)
 ·rcases aO c f.cols with h1|h1
  ·obtain⟨i,rfl⟩:∃i,c=f.bars.length+i:=⟨c-f.bars.length,by omega⟩
   rw[eh.cols]at h1;rw[h.Gk (aB (show i<f.cV.length by omega))];split<;>omega
  ·have:ez (gu f) r c=0:=by
    unfold ez;rw[List.getD,List.getElem?_eq_none]
    ·rfl
    ·rcases aO r (gu f).length with h2|h2
     ·rw[List.getD,aB h2];show((gu f)[r]).length<=c;rw[jZ f _ _ (aX h2)];exact h1
     ·rw[List.getD,List.getElem?_eq_none h2];exact aP _
   rw[this];omega
theorem GI.vG(r c:Nat):Ib 2000000 (dL (cO f) r c):=by
 rw[Gj];have:=h.Nd r c;exact Ib.int (by omega)
theorem GI.mT:Bi (cO f) f.cols 2000000:=fun j _=>⟨1,by decide,Ib.one (by decide),fun t _=>by rw[bu];exact h.vG j t⟩
theorem GI.only{x:Nat->Rat}(hx:∀j,j<(cO f).length->mulR (cO f) f.cols x j=0)(h0:∀t,t<f.bars.length->x t=0):∀t,t<f.cols->x t=0:=fun t ht=>by
 rcases aO t f.bars.length with h1|h1
 ·exact h0 t h1
 ·obtain⟨i,rfl⟩:∃i,t=f.bars.length+i:=⟨t-f.bars.length,by omega⟩
  have hi:i<f.cV.length:=by unfold eh.cols at ht;omega
  have hs:=aB hi;have hr:=h.sup _ (aX hi);have h2:=hx (gg f.cV[i]) (by rw[fc];exact hr.1);unfold mulR at h2;rw[gE ht fun k hk OH=>?_,Gj,h.Gk hs,if_pos rfl]at h2
  ·have e:((1:Int):Rat)*x (f.bars.length+i)=x (f.bars.length+i):=bu _
   rwa [e]at h2
  ·rcases aO k f.bars.length with h3|h3
   ·rw[h0 k h3,bD]
   ·obtain⟨i',rfl⟩:∃i,k=f.bars.length+i:=⟨k-f.bars.length,by omega⟩
    have Se:i'<f.cV.length:=by unfold eh.cols at hk;omega
    have TN:=aB Se;rw[Gj,h.Gk TN,aL fun e=>OH (by rw[h.one i i' _ _ hs TN e])];exact bL _
theorem GI.KX(ht:t<f.bars.length):0<(cW f).getD t 0:=by
 obtain⟨_,_,_,_,_,_,_,h1⟩:=h.MQ _ (aX ht);rw[cW,List.getD,aK (by rw[aJ];exact ht),aM,aB ht];exact h1
theorem GI.Ev(t:Nat):0<=(cW f).getD t 0:=by
 rw[List.getD]
 cases ht:(cW f)[t]? with
 |none=>exact Rat.le_refl
 |some q=>
  show 0<=q;have hm:=aC ht;rcases bG.1 hm with hm|hm
  ·obtain⟨b,hb,rfl⟩:=aU.1 hm;obtain⟨_,_,_,_,_,_,_,h1⟩:=h.MQ b hb;exact Rat.le_of_lt h1
  ·obtain⟨s,hs,rfl⟩:=aU.1 hm;exact(h.sup s hs).2
theorem GI.xV:vB (cO f) f.cols fun t=>(cW f).getD t 0:=by
 refine⟨ed f,fun t _=>h.Ev t,fun x hx h0=>h.only hx fun t ht=>?_⟩;have h1:=wX (f:=fun t=>(cW f).getD t 0*(x t*x t)) (n:=f.cols) (fun k _=>Rat.mul_nonneg (h.Ev k) (sq_nonneg _)) (by rw[h0];exact Rat.le_refl) t (by unfold eh.cols;omega);have h2:=h.KX ht;rcases Rat.mul_eq_zero.1 h1 with h3|h3
 ·rw[h3]at h2;exact absurd h2 (Rat.lt_irrefl)
 ·rcases Rat.mul_eq_zero.1 h3 with h4|h4<;>exact h4
end
theorem sU(f:Nat->Rat)(a:Nat):∀b,cd f (a+b)=cd f a+cd (fun k=>f (a+k)) b
 |0=>(bX _).symm
 |b+1=>by rw[show a+(b+1)=a+b+1 by omega,cd,cd,sU f a b,Rat.add_assoc]
theorem Ir{M:List (List Rat)}{n k:Nat}(hk:k<n):(fa M n).getD k []=M.map fun r=>r.getD k 0:=by
 unfold fa;exact getD_some (by rw[aM,bp hk];rfl)
theorem Ew{M:List (List Rat)}{n k i:Nat}(hk:k<n):dL (fa M n) k i=dL M i k:=by
 rw[dL,dL,Ir hk];rcases aO i M.length with h|h
 ·have hr:=aB h;rw[getD_some (show (M.map fun r=>r.getD k 0)[i]? =some (M[i].getD k 0) by rw[aM,hr];rfl),getD_some hr]
 ·rw[iH (by rw[aJ];exact h),show M.getD i []=[] by rw[List.getD,List.getElem?_eq_none h];rfl];rfl
theorem Bw(M:List (List Rat))(n:Nat):fg M.length (fa M n):=fun r hr=>by
 obtain⟨k,_,rfl⟩:=aU.1 hr;exact aJ ..
theorem ta(M:List (List Rat))(n:Nat):(fa M n).length=n:=by simp[fa]
section
variable{M:List (List Rat)}{n:Nat}
theorem Is{k:Nat}(hk:k<n):mulR (fa M n) M.length y k=cd (fun i=>dL M i k*y i) M.length:=cL fun i _=>by rw[Ew hk]
def ju(M:List (List Rat))(n:Nat)(fl:List Rat):List (List Rat):=(M.map fun r=>List.replicate M.length 0++r)++(List.range n).map fun j=>(M.map fun r=>r.getD j 0)++(List.replicate n 0).set j (fl.getD j 0)
theorem jC(fl:List Rat):(ju M n fl).length=M.length+n:=by unfold ju;rw[List.length_append,aJ,aJ,List.length_range]
theorem qq(hM:fg n M)(fl:List Rat):fg (M.length+n) (ju M n fl):=fun r hr=>by
 rcases bG.1 hr with hr|hr
 ·obtain⟨x,hx,rfl⟩:=aU.1 hr;rw[List.length_append,bF,hM x hx]
 ·obtain⟨x,hx,rfl⟩:=aU.1 hr;rw[List.length_append,aJ,bE,bF]
theorem Cu{i:Nat}(hi:i<M.length):(t<M.length->dL (ju M n fl) i t=0)∧dL (ju M n fl) i (M.length+t)=dL M i t:=by
 have hr:=aB hi;have h:(ju M n fl)[i]? =some (List.replicate M.length 0++M[i]):=by
  unfold ju;rw[aK (by rw[aJ];exact hi),aM,hr];rfl
 refine⟨fun ht=>?_,?_⟩
 ·rw[dL,getD_some h];exact getD_some (by rw[aK (by rw[bF];exact ht),List.getElem?_replicate,if_pos ht])
 ·rw[dL,dL,getD_some h,getD_some hr,List.getD,List.getD,aN (by rw[bF];exact Nat.le_add_right _ _),bF,Nat.add_sub_cancel_left]
theorem zY{j:Nat}(hj:j<n):(t<M.length->dL (ju M n fl) (M.length+j) t=dL M t j)∧(t<n->dL (ju M n fl) (M.length+j) (M.length+t)=if t=j then fl.getD j 0 else 0):=by
 have h:(ju M n fl)[M.length+j]? =some ((M.map fun r=>r.getD j 0)++(List.replicate n 0).set j (fl.getD j 0)):=by
  unfold ju;rw[aN (by rw[aJ];exact Nat.le_add_right _ _),aJ,Nat.add_sub_cancel_left,aM,bp hj];rfl
 refine⟨fun ht=>?_,fun ht=>?_⟩
 ·have hr:=aB ht;rw[dL,dL,getD_some h,getD_some hr];exact getD_some (by rw[aK (by rw[aJ];exact ht),aM,hr];rfl)
 ·rw[dL,getD_some h];by_cases e:t=j
  ·subst e;rw[if_pos rfl];exact getD_some (by rw[aN (by rw[aJ];exact Nat.le_add_right _ _),aJ,Nat.add_sub_cancel_left,aV (by rw[bF];exact ht)])
  ·rw[aL e];exact getD_some (by rw[aN (by rw[aJ];exact Nat.le_add_right _ _),aJ,Nat.add_sub_cancel_left,aY (Ne.symm e),List.getElem?_replicate,if_pos ht])
theorem Bx{i:Nat}(hi:i<M.length):mulR (ju M n fl) (M.length+n) z i=mulR M n (fun t=>z (M.length+t)) i:=by
 unfold mulR;rw[sU,cL (g:=fun _=>0) fun t ht=>by rw[(Cu hi).1 ht,bL],eC,Rat.zero_add];exact cL fun t _=>by rw[(Cu hi).2]
theorem By{j:Nat}(hj:j<n):mulR (ju M n fl) (M.length+n) z (M.length+j)=cd (fun i=>dL M i j*z i) M.length+fl.getD j 0*z (M.length+j):=by
 unfold mulR;rw[sU,cL fun t ht=>by rw[(zY hj).1 ht]];congr 1;rw[gE hj fun t ht OH=>by rw[(zY hj).2 ht,aL OH,bL],(zY hj).2 hj,if_pos rfl]
theorem Iu(h:∀j,j<M.length->mulR M n y j=0):cd (fun t=>y t*cd (fun i=>dL M i t*u i) M.length) n=0:=by
 rw[cL (g:=fun t=>cd (fun i=>y t*(dL M i t*u i)) M.length) fun t _=>by rw[ek],p9,cL (g:=fun _=>0) fun i hi=>?_,eC];have h1:=h i hi;unfold mulR at h1;rw[cL (g:=fun t=>dL M i t*y t*u i) fun t _=>by grind,qj,h1,bL]
end
section
variable{M:List (List Rat)}{n:Nat}{fl b:List Rat}
theorem jt.aAg(hM:fg n M){x:List Rat}(h:jt M n (fun t=>fl.getD t 0) b x):∃u,fD (fa M n) (cX (eO x fl) (-1)) M.length=some u:=by
 cases e:fD (fa M n) (cX (eO x fl) (-1)) M.length with
 |some u=>exact⟨u,rfl⟩
 |none=>
  obtain⟨y,y1,y2⟩:=sS (Bw M n) e;rw[ta]at y1 y2;refine absurd ?_ y2;have UN:∀j,j<M.length->mulR M n y j=0:=fun j hj=>Eq.trans (cL fun t ht=>by rw[Ew ht,bo]) (y1 j hj);obtain⟨c,hc⟩:=Hn hM UN;have hb:∀t,t<n->(cX (eO x fl) (-1)).getD t 0= -(fl.getD t 0*x.getD t 0):=fun t ht=>by
   have h1:=lW (a:=x) (b:=fl) (t:=t) (by rw[h.len];exact ht);have hl:t<(eO x fl).length:=by rw[eO,List.length_mapIdx,h.len];exact ht
   rw[getD_some (aB hl)]at h1;rw[getD_some (show (cX (eO x fl) (-1))[t]? =some ((eO x fl)[t]* -1) by rw[cX,aM,aB hl];rfl),h1];grind
  have e1:cd (fun t=>y t*(cX (eO x fl) (-1)).getD t 0) n= -(tA (fun t=>fl.getD t 0) (fun t=>x.getD t 0) y n):=by
   unfold tA;rw[<-nO];exact cL fun t ht=>by rw[hb t ht];grind
  rw[e1,vC (x':=fun t=>x.getD t 0) (fun _ _=>rfl) hc,tY,cL (g:=fun _=>0) fun k hk=>by rw[tX,h.st k hk,bD],eC];rfl
theorem Gl(x fl:List Rat){n:Nat}(hx:x.length=n)(ht:t<n):(cX (eO x fl) (-1)).getD t 0= -(fl.getD t 0*x.getD t 0):=by
 have h1:=lW (a:=x) (b:=fl) (t:=t) (by rw[hx];exact ht);have hl:t<(eO x fl).length:=by rw[eO,List.length_mapIdx,hx];exact ht
 rw[getD_some (aB hl)]at h1;rw[getD_some (show (cX (eO x fl) (-1))[t]? =some ((eO x fl)[t]* -1) by rw[cX,aM,aB hl];rfl),h1];grind
theorem KY(hM:fg n M){x u:List Rat}(hb:b.length=M.length)(h:jt M n (fun t=>fl.getD t 0) b x)(hu:fD (fa M n) (cX (eO x fl) (-1)) M.length=some u):
  (u++x).length=M.length+n∧∀j,j<(ju M n fl).length->mulR (ju M n fl) (M.length+n) (fun t=>(u++x).getD t 0) j=(b++iB n).getD j 0:=by
 obtain⟨u1,u2⟩:=jz (Bw M n) hu;rw[ta]at u2;have ha:∀t,t<M.length->(u++x).getD t 0=u.getD t 0:=fun t ht=>by rw[List.getD,aK (by omega),<-List.getD]
 have hc:∀t,(u++x).getD (M.length+t) 0=x.getD t 0:=fun t=>by rw[List.getD,aN (by omega),u1,Nat.add_sub_cancel_left,<-List.getD]
 refine⟨by rw[List.length_append,u1,h.len],fun j hj=>?_⟩;rw[jC]at hj;rw[kW];rcases aO j M.length with h1|h1
 ·rw[Bx h1,sT (y:=fun t=>x.getD t 0) fun t _=>hc t];exact h.eq j h1
 ·obtain⟨k,rfl⟩:∃k,j=M.length+k:=⟨j-M.length,by omega⟩
  have hk:k<n:=by omega
  rw[By hk,hc,iH (l:=b) (by omega),cL (g:=fun i=>dL M i k*u.getD i 0) fun i hi=>by rw[ha i hi]];have h2:=u2 k hk;rw[Is hk,Gl x fl h.len hk]at h2;rw[h2];grind
theorem KZ(hM:fg n M){z:List Rat}(hb:b.length=M.length)(hz:fD (ju M n fl) (b++iB n) (M.length+n)=some z):jt M n (fun t=>fl.getD t 0) b (z.drop M.length):=by
 obtain⟨z1,z2⟩:=jz (qq hM fl) hz;have hd:∀t,(z.drop M.length).getD t 0=z.getD (M.length+t) 0:=fun t=>by rw[List.getD,List.getD,List.getElem?_drop]
 refine⟨by rw[List.length_drop,z1];omega,fun j hj=>?_,fun k hk=>?_⟩
 ·have h1:=z2 j (by rw[jC];omega);rw[Bx hj,kW]at h1;rw[<-h1];exact sT (fun t _=>hd t) j
 ·have h0:=Iu (u:=fun i=>z.getD i 0) (zQ hM hk);unfold tA;have e:cd (fun t=>fl.getD t 0*(dL (cS M n) k t*(z.drop M.length).getD t 0)) n= -cd (fun t=>dL (cS M n) k t*cd (fun i=>dL M i t*z.getD i 0) M.length) n:=by
   rw[<-nO];refine cL fun t ht=>?_;have h1:=z2 (M.length+t) (by rw[jC];omega);rw[By ht,kW,iH (l:=b) (by omega)]at h1;rw[hd];grind
  rw[e,h0];rfl
end
end Go.Ex
namespace Go.Ex
open Go Go.Sx Go.Proofs
variable{S:Nat->Prop}
section
variable{S S':Nat->Prop}{H:Hp}{nx:Nat}{iv iv':Iv}{B:Nat}{w w' w2:World}{O:Nat->Sx.dg}{v:Value}{M:List (List Int)}
theorem si.rel(h:si w (Cv S B iv) v M)(r:Rel H nx iv B w O w')(hS:∀g,S g->g<B):si w' (Cv S B iv) v M:=si.cH h fun _ hg=>Rel.same r hS hg
theorem si.dA(h:si w2 (Nf w' w2) v M)(hB:B<=w'.heap.size)(hm:(w'.heap.size,w2.heap.size)∈iv):si w2 (Cv S B iv) v M:=si.cI h fun _ hg=>hg.dA hB hm
end
set_option maxHeartbeats 1000000 in
theorem CS{w:World}{vn vb vs vl:Value}{f:eh}{l:List Ld}(hS:Old S w)(hf:dS w S vn vb vs f)(hl:ff w S vl l)(R1:f.nodes.length<=20)(OI:rh f.nodes.length l):
  di PG N.te #[.agg #[vn,vb,vs],vl] w (dw w fun v' w2=>cJ w2 (Nf w w2) v' (eY f l)):=by
 have hw:=bR w;obtain⟨an,cn,ab,cb,aq,cq,rfl,rfl,rfl,Q6,Qm,RH⟩:=hf.shape;obtain⟨al,cl,rfl,PV,Ql⟩:=hl.shape;have hl200:=OI.len;refine x6 (by simp) ?_;refine⟨((3*f.nodes.length:Nat):Int),wo,?_⟩;obtain⟨m,hm⟩:∃m,3*f.nodes.length=m:=⟨_,rfl⟩
 rw[hm]
 refine⟨m,m,rfl,rfl,aF _,by omega,by omega,Nat×World,fun z=>⟨[(1,sV al l.length cl),(5,.o (.s 1 0 m m)),(6,iN z.1)],[(1,.arr T.int (zv (fO f.nodes.length l z.1)))],2,[],z.2⟩,fun z=>l.length-z.1,
  fun z=>z.1<=l.length∧dm w.heap.size w z.2∧Ly (fO f.nodes.length l z.1) (3000000*z.1),?_,?_⟩
 ·intro O w' r3;exact⟨(0,w'),⟨aP _,hw.tr r3.cP,fun z hz=>by rw[fO]at hz;rw[bP hz];exact⟨Int.le_refl _,Int.le_refl _⟩⟩,Sub.gn [] r3 ⟨by dsimp only;rw[fO,hm,zv,List.map_replicate];rfl,trivial⟩⟩
 rintro⟨i,w1⟩ ⟨hi,hw,Oe⟩;dsimp only at hi hw Oe ⊢;refine dM.mk ?_ ?_<;>intro OF
 ·have OF:i<l.length:=by simpa using OF
  obtain⟨x,hx⟩:∃x,l[i]? =some x:=⟨_,aB OF⟩
  obtain⟨hn,SR,Rh,hx3⟩:=OI.ld x (aC hx);obtain⟨kn,hkn⟩:=Int.eq_ofNat_of_zero_le hn.1;obtain⟨adx,cs,PS,hP,-,Oj⟩:=hl.load (by decide) hx;have hP:cs=[.int .i64 x.1,.int .i64 x.2.1,.int .i64 x.2.2.1,.int .i64 x.2.2.2]:=hP;subst hP;obtain⟨s0,VC⟩:∃s,fO f.nodes.length l i=s:=⟨_,rfl⟩
  rw[VC]at Oe;have RS:s0.length=m:=by rw[<-VC,kC,hm]
  obtain⟨z0,OQ⟩:∃z,s0[3*kn]? =some z:=⟨_,aB (by omega)⟩
  obtain⟨z1,OU⟩:∃z,s0[3*kn+1]? =some z:=⟨_,aB (by omega)⟩
  obtain⟨z2,Ox⟩:∃z,s0[3*kn+2]? =some z:=⟨_,aB (by omega)⟩
  have b0:=Oe z0 (aC OQ);have b1:=Oe z1 (aC OU);have b2:=Oe z2 (aC Ox);have n1:gM s0 x 1=s0.set (3*kn) (z0+x.2.1):=(mm (k:=0) (j:=3*kn) (by omega) rfl OQ).symm;have n2:gM s0 x 2=(s0.set (3*kn) (z0+x.2.1)).set (3*kn+1) (z1+x.2.2.1):=by
   rw[<-n1];exact(mm (k:=1) (j:=3*kn+1) (by omega) rfl (by rw[n1,aY (by omega)];exact OU)).symm
  have n3:gM s0 x 3=((s0.set (3*kn) (z0+x.2.1)).set (3*kn+1) (z1+x.2.2.1)).set (3*kn+2) (z2+x.2.2.2):=by
   rw[<-n2];exact(mm (k:=2) (j:=3*kn+2) (by omega) rfl (by rw[n2,aY (by omega),aY (by omega)];exact Ox)).symm
  have Q3:gM s0 x 3=fO f.nodes.length l (i+1):=by rw[fO,show l.getD i (0,0,0,0)=x by rw[List.getD,hx];rfl,VC]
  have hbd1:=Oe.set (j:=3*kn) (z:=z0+x.2.1) (t2:=3000000*i+1000000) (by omega) (by omega);have Rp:=hbd1.set (j:=3*kn+1) (z:=z1+x.2.2.1) (t2:=3000000*i+2000000) (by omega) (by omega);have hbd3:=Rp.set (j:=3*kn+2) (z:=z2+x.2.2.2) (t2:=3000000*i+3000000) (by omega) (by omega);rw[<-n3,Q3]at hbd3;rw[VC];refine⟨adx,PS,by omega,.int .i64 x.1,fun O w' r=>?_,?_⟩
  ·obtain⟨k1,k2⟩:=Oj 0 _ rfl;rw[cG (w:=w) (w2:=w') (by simp only[dE];exact(hw.tr r.cP).block _ (hS _ k1))];simp only[aE,kE]at k2 ⊢;exact k2
  refine⟨((3*kn:Nat):Int),wo,?_⟩;refine cK hτ dZ [.x 0,.x 1,.x 2,.x 3,.x 4,.x 5,.x 6,.x 7,.x 8,.x 9,.x 10,.x 11,.x 12,.x 13,.x 14,.x 15,.x 16,.x 17,.x 18,.x 19,.x 20,.x 21,.x 22,.x 23,.x 24,.x 25,.x 26,.x 27,.x 28,.x 29,.x 30,.x 31,.x 32,.x 33,.x 34,.x 35,.x 36,.x 37,.x 38,.x 39,.x 40,.x 41,.x 42,.x 43,.x 44,.x 45] (by kernel_rfl) (by kernel_rfl) ?_;refine⟨((3*kn+1:Nat):Int),wo,((3*kn+2:Nat):Int),wo,by omega,.int .i64 z0,by rw[aE,aT,aR];exact CM OQ,adx,PS,by omega,.int .i64 x.2.1,fun O w' r=>?_,?_⟩
  ·obtain⟨k1,k2⟩:=Oj 1 _ rfl;rw[cG (w:=w) (w2:=w') (by simp only[dE];exact(hw.tr r.cP).block _ (hS _ k1))];simp only[aE,kE]at k2 ⊢;exact k2
  refine⟨z0+x.2.1,wo,((3*kn+1:Nat):Int),wo,by omega,.int .i64 z1,by rw[aE,aT,aR];exact CM OU,adx,PS,by omega,.int .i64 x.2.2.1,fun O w' r=>?_,?_⟩
  ·obtain⟨k1,k2⟩:=Oj 2 _ rfl;rw[cG (w:=w) (w2:=w') (by simp only[dE];exact(hw.tr r.cP).block _ (hS _ k1))];simp only[aE,kE]at k2 ⊢;exact k2
  refine⟨z1+x.2.2.1,wo,((3*kn+2:Nat):Int),wo,by omega,.int .i64 z2,by rw[aE,aT,aR];exact CM Ox,adx,PS,by omega,.int .i64 x.2.2.2,fun O w' r=>?_,?_⟩
  ·obtain⟨k1,k2⟩:=Oj 3 _ rfl;rw[cG (w:=w) (w2:=w') (by simp only[dE];exact(hw.tr r.cP).block _ (hS _ k1))];simp only[aE,kE]at k2 ⊢;exact k2
  refine⟨z2+x.2.2.2,wo,by omega,by rw[D5];(try rw[bE]);(try rw[bE]);omega,zv ((s0).set (3*kn) (z0+x.2.1)),?_,?_⟩
  ·rw[aE,aT,aR];exact D6 (by (try rw[bE]);(try rw[bE]);omega)
  refine⟨by omega,by rw[D5];(try rw[bE]);(try rw[bE]);omega,zv (((s0).set (3*kn) (z0+x.2.1)).set (3*kn+1) (z1+x.2.2.1)),?_,?_⟩
  ·rw[aE,aT,aR];exact D6 (by (try rw[bE]);(try rw[bE]);omega)
  refine⟨by omega,by rw[D5];(try rw[bE]);(try rw[bE]);omega,zv ((((s0).set (3*kn) (z0+x.2.1)).set (3*kn+1) (z1+x.2.2.1)).set (3*kn+2) (z2+x.2.2.2)),?_,?_⟩
  ·rw[aE,aT,aR];exact D6 (by (try rw[bE]);(try rw[bE]);omega)
  refine⟨((i+1:Nat):Int),wo,?_⟩;intro ρ3 w6 r3;exact⟨(i+1,w6),⟨OF,hw.tr r3.cP,fun z hz=>by have:=hbd3 z hz;dsimp only;omega⟩,Sub.gn [] r3 ⟨by dsimp only;rw[<-Q3,n3];rfl,trivial⟩,by dsimp only;omega⟩
 have OF:i=l.length:=aQ hi (by simpa using OF);subst OF;obtain⟨s0,VC⟩:∃s,fO f.nodes.length l l.length=s:=⟨_,rfl⟩
 have RS:s0.length=m:=by rw[<-VC,kC,hm]
 rw[VC]at Oe ⊢
 refine⟨Nat×List (List Value)×World×Iv,fun z=>⟨[(5,.o (.s 1 0 m m)),(8,.o (.w 2 z.2.1.length)),(9,iN z.1)],[(2,.vec T.Rat 4 z.2.1.flatten),(1,.arr T.int (zv s0))],3,z.2.2.2,z.2.2.1⟩,fun z=>m-z.1,
  fun z=>z.1<=m∧dm w.heap.size w z.2.2.1∧eD z.2.2.1 (Cf w z.2.2.2) z.2.1 (dN (s0.take z.1)),?_,?_⟩
 ·intro O w' r;exact⟨(0,[],w',_),⟨aP _,hw.tr r.cP,eD.nil⟩,Sub.nil 8 T.Rat 4 rfl (by simp[jX,SV.sc,At.sc,fT]) r fun ρ1 r1=>Sub.gn [] r1⟩
 rintro⟨i,css,w1,iv⟩ ⟨hi,hw,hG⟩;dsimp only at hi hw hG ⊢;have OY:=eN hG.four;have Sy:css.length=i:=by rw[hG.len,dN,aJ,aW];omega
 refine dM.mk ?_ ?_<;>intro OF
 ·have OF:i<m:=by simpa using OF
  obtain⟨z,hz⟩:∃z,s0[i]? =some z:=⟨_,aB (by omega)⟩
  have SO:=Oe z (aC hz);refine⟨by omega,.int .i64 z,by rw[aE,aT,aR];exact CM hz,?_⟩;refine cC (cE hw (fun _ w' v w2=>cU w2 (Nf w' w2) v (z:Rat)) (fun O w' r=>lz z w' (by omega)) ?_);rintro O _ _ _ OM r he hw h_ hn;replace hG:=hG.cF r (cB w) he (mC h_);have hd:=hn.dA (S:=FF) r.cD (mN h_);obtain⟨A0,A1,A2,A3,A4,A5,A6,A7,rfl⟩:=hd.shape;have S5:=hG.push (cs:=[.bool A0,.slice A1 A2 A3,.bool A4,.slice A5 A6 A7]) (q:=(z:Rat)) ⟨_,_,_,_,_,_,_,_,rfl,hd⟩ rfl;rw[<-uZ hz]at S5;have QR:css.flatten++([.bool A0,.slice A1 A2 A3,.bool A4,.slice A5 A6 A7]:List Value)=(css++([[.bool A0,.slice A1 A2 A3,.bool A4,.slice A5 A6 A7]]:List (List Value))).flatten:=by simp
  refine .inl ?_;refine⟨by omega,by omega,by unfold maxLen;omega,((i+1:Nat):Int),wo,?_⟩;intro ρ3 w6 r3;exact⟨(i+1,css++[[.bool A0,.slice A1 A2 A3,.bool A4,.slice A5 A6 A7]],w6,_),⟨OF,hw.tr r3.cP,S5.rel r3 (cB w)⟩,Sub.gn [(2,4)] r3 ⟨by dsimp only;rw[<-QR];rfl,rfl,trivial⟩ ⟨rfl,by dsimp only;rw[List.length_append,List.length_singleton];rfl,rfl,trivial⟩,by dsimp only;omega⟩
 have OF:i=m:=aQ hi (by simpa using OF);have TQ:dN (s0.take i)=eY f l:=by rw[eY,VC,OF,<-RS,bC]
 rw[TQ]at hG;intro ρe we re;refine⟨_,rfl,hw.tr re.cP,?_⟩;have h5:=re.iR (id:=2) (sz:=4) (m:=css.length) rfl OY (by unfold maxLen;omega) (by decide) hG.one;exact eD.list ((hG.rel re (cB w)).cI fun g hg=>Cv.nw hg re) (h5.cI fun g hg=>.inr hg)
end Go.Ex
namespace Go.Ex
open Go
section
theorem Gm:∀(N m:Nat) (g:Nat->Nat),(∀i,i<m->g i<N)->(∀i j,i<m->j<m->g i=g j->i=j)->m<=N
 |0,m,g,h1,_=>by
  rcases bK m with h|h
  ·omega
  ·exact absurd (h1 0 h) (Nat.not_lt_zero _)
 |N+1,m,g,h1,h2=>by
  by_cases h:∃i,i<m∧g i=N
  ·obtain⟨i0,hi,e⟩:=h
   have:=Gm N (m-1) (fun i=>if i<i0 then g i else g (i+1)) (fun i Se=>by
    show(if i<i0 then g i else g (i+1))<N;split
    ·rename_i Od;have:=h1 i (by omega);have:g i≠N:=fun e2=>by have:=h2 i i0 (by omega) hi (by rw[e2,e]);omega
     omega
    ·have:=h1 (i+1) (by omega);have:g (i+1)≠N:=fun e2=>by have:=h2 (i+1) i0 (by omega) hi (by rw[e2,e]);omega
     omega) (fun i j Se hj' e2=>by
    have e3:(if i<i0 then g i else g (i+1))=(if j<i0 then g j else g (j+1)):=e2;split at e3<;>split at e3
    ·exact h2 _ _ (by omega) (by omega) e3
    ·have:=h2 _ _ (by omega) (by omega) e3;omega
    ·have:=h2 _ _ (by omega) (by omega) e3;omega
    ·have:=h2 _ _ (by omega) (by omega) e3;omega)
   omega
  ·exact Nat.le_succ_of_le (Gm N m g (fun i hi=>by
    have:=h1 i hi;have:g i≠N:=fun e=>h ⟨i,hi,e⟩
    omega) h2)
structure FrS(f:eh):Prop extends GI f where
 n4:f.nodes.length<=4
 b6:f.bars.length<=6
variable{f:eh}
theorem FrS.s12(h:FrS f):f.cV.length<=12:=by
 have:=Gm (3*f.nodes.length) f.cV.length (fun i=>gg (f.cV.getD i (0,0,0))) (fun i hi=>by
  have e:f.cV.getD i (0,0,0)=f.cV[i]:=getD_some (aB hi);show gg (f.cV.getD i (0,0,0))<_;rw[e]
  exact(h.sup _ (aX hi)).1) (fun i j hi hj e=>by
  have e1:f.cV.getD i (0,0,0)=f.cV[i]:=getD_some (aB hi);have e2:f.cV.getD j (0,0,0)=f.cV[j]:=getD_some (aB hj);have e:gg (f.cV.getD i (0,0,0))=gg (f.cV.getD j (0,0,0)):=e;rw[e1,e2]at e
  exact h.one i j _ _ (aB hi) (aB hj) e)
 have:=h.n4;omega
theorem FrS.Lw(h:FrS f):f.cols<=18:=by
 have h1:=h.s12;have h2:=h.b6;unfold eh.cols;omega
theorem FrS.Ka(h:FrS f):(cO f).length<=12:=by
 rw[fc];have:=h.n4;omega
theorem aAT:18*2000000<=wt 1:=by decide
theorem FrS.size(h:FrS f):ln (fB 2000000 (cO f).length)<=13:=by
 have:=h.Ka;have h2:=Mv (B:=2000000) (R:=18) (l:=1) (n:=(cO f).length) (by omega) aAT;omega
theorem FrS.ht{c:Nat}(h:FrS f)(hc:c<=f.cols):Ht (cN (cO f) c).1 20:=fun r hr q hq=>by
 have:=sR (ed f) h.mT (by decide) hc r hr q hq;have:=h.size;omega
end
end Go.Ex
namespace Go.Ex
open Go Go.Sx Go.Proofs
variable{M:List (List Rat)}{s:List Int}{l:List Ld}{h0 n:Nat}{S:Nat->Prop}{vb vl vn vs:Value}{f:eh}
theorem u9{B h:Nat}(hM:fg n M)(hW:Bi M n B)(hB:1<=B)(hh:ln (fB B M.length)+1<=h):uQ M n h:=
 ⟨fun i hi r hr q hq=>by have:=KL hM hW hB hi r hr q hq;omega,fun i hi k hk q hq=>by have:=KM hM hW hB hi hk q hq;omega⟩
theorem Ac{B h:Nat}(hM:fg n M)(hW:Bi M n B)(hB:1<=B)(hh:ln (fB B M.length)+1<=h):Ht (dX M n).1 h:=fun r hr q hq=>by
 rw[(sQ hM hW).2]at hr;have:=sR hM hW hB (aF n) r (List.mem_of_mem_take hr) q hq;omega
theorem JS{α β:Type}(g:List α->List β)(hg:∀r,(g r).length=r.length):∀M:List (List α),eP (M.map g)=eP M
 |[]=>rfl
 |r::M=>hg r
theorem Fl(hlen:fg n M)(Uj:0<M.length∨n=0):eP (M.map jS)=n:=by
 rw[JS jS fun r=>wF r]
 cases M with
 |nil=>
  rcases Uj with h|h
  ·exact absurd h (Nat.lt_irrefl 0)
  ·exact h.symm
 |cons r M=>exact hlen r aG
section
variable{S:Nat->Prop}{w:World}{v u:Value}{M:List (List Rat)}{b:List Rat}{n h0:Nat}
theorem CT(hlen:fg n M)(hc:eP (M.map jS)=n):∀r∈M.map jS,r.length=eP (M.map jS):=fun r hr=>by
 obtain⟨x,hx,rfl⟩:=aU.1 hr;rw[hc,wF];exact hlen x hx
theorem Me(hB:∀c,c<=n->Ht (cN M c).1 h0):Ht M h0:=hB 0 (aP _)
theorem Fm(h:cQ w S v M)(hq:Ht M h0)(hh:3*h0<=90000):dF w S v (fR (M.map Ex.jS)):=by
 rw[Ad];exact h.l fun r hr q QL=>by have:=hq r hr q QL;omega
theorem HT(hS:Old S w)(h:cQ w S v M)(hlen:fg n M)(Uj:0<M.length∨n=0)(hR:M.length<=1000)(hn:n<=1000)(hB:∀c,c<=n->Ht (cN M c).1 h0)(hh:3*h0<=90000):
  di PG N.oP #[v] w (dw w fun v' w2=>cQ w2 (Nf w w2) v' (cS M n)):=by
 have hc:=Fl hlen Uj;refine(HR (h0:=h0) hS h.jS (Fm h (Me hB) hh) (CT hlen hc) (by rw[aJ];exact hR) (by rw[hc];exact hn) (by rw[hc,Ad];exact hB) hh).mono fun e w2 ⟨v2,e1,e2,e3⟩=>⟨v2,e1,e2,by rw[Ad,hc]at e3;exact e3⟩
theorem CU(hS:Old S w)(h:cQ w S v M)(hb:cJ w S u b)(hlen:fg n M)(Uj:0<M.length∨n=0)(Pg:b.length=M.length)(hbq:∀q∈b,rl q<=100000)(hMq:Ht M h0)(hR:M.length<=1000)(hn:n<=999)(hB:∀c,c<=n->Ht (cN (dJ M b) c).1 h0)(hh:3*h0<=90000):
  di PG N.pz #[v,u] w (dw w fun v' w2=>(fD M b n=none∧v'= .tuple #[.slice none 0 0,.bool false])∨∃x vx,fD M b n=some x∧v'= .tuple #[vx,.bool true]∧cJ w2 (Nf w w2) vx x):=by
 have hc:=Fl hlen Uj;refine(JR (h0:=h0) (b:=jS b) hS h.jS (Fm h hMq hh) (by rw[mo];exact hb.l hbq) (CT hlen hc) (by rw[wF,aJ];exact Pg) (by rw[aJ];exact hR) (by rw[hc];exact hn) (by rw[hc,Ad,mo];exact hB) hh).mono fun e w2 ⟨v2,e1,e2,e3⟩=>⟨v2,e1,e2,?_⟩
 rw[Ad,mo,hc,aJ]at e3;unfold fD;rcases e3 with⟨j,h1,h2,h3,h4⟩|⟨h1,vx,h2,h3⟩
 ·left;refine⟨?_,h4⟩;rw[aL fun QO=>h3 (QO j h2 h1)]
 ·right;refine⟨_,vx,if_pos fun j h4 h5=>h1 j h5 h4,h2,h3⟩
end
theorem FrS.col(h:FrS f):0<3*f.nodes.length∨f.cols=0:=by
 rcases bK f.nodes.length with h0|h0
 ·right;have h1:f.bars=[]:=List.eq_nil_iff_forall_not_mem.2 fun b hb=>by
   obtain⟨ka,kb,_,_,h3,_⟩:=h.MQ b hb;omega
  have h2:f.cV=[]:=List.eq_nil_iff_forall_not_mem.2 fun s hs=>by
   have:=(h.sup s hs).1;omega
  unfold eh.cols;rw[h1,h2];rfl
 ·left;omega
theorem Fo{w:World}(hS:Old S w)(hf:dS w S vn vb vs f)(Oh:eV f=0)(PH:FrS f):
  di PG N.po #[.agg #[vn,vb,vs]] w (dw w fun v' w2=>cQ w2 (Nf w w2) v' (cS (cO f) f.cols)):=by
 have hw:=bR w;obtain⟨an,cn,ab,cb,aq,cq,rfl,rfl,rfl,Q6,Qm,RH⟩:=hf.shape;have PT:f.cols=f.bars.length+f.cV.length:=rfl;have Qe:=fc f;have Uk:=PH.Lw;have S8:=PH.Ka;have hlen:=ed f;refine uD (by simp) ?_;refine cC (cE hw (fun _ w' v w2=>si w2 (Nf w' w2) v (gu f)∧FT (gu f) 2000000) (fun O w' r=>wE (oS hS r) (hf.cH (kS hw r hS)) Oh) ?_);rintro O _ _ _ OM r he hw h_ ⟨hn,SO⟩;have hZ:=si.dA (S:=FF) hn r.cD (mN h_);obtain⟨az,cz,rfl,-,-⟩:=dD.shape hZ;refine cC (cE hw (fun _ w' v w2=>cQ w2 (Nf w' w2) v (cO f)) (fun O w' r=>IJ (Rel.old r (cB w)) (si.rel hZ r (cB w)) (by rw[<-aJ (f:=dN)];exact aZ S8 (by decide)) (fun l hl=>by rw[jZ f _ l hl];omega) (fun l hl z hz=>by have:=SO l hl z hz;omega)) ?_);rintro O _ _ _ OJ r he hw h_ hn;have hM:=cQ.dA (S:=FF) hn r.cD (mN h_);obtain⟨am,cm,rfl,-,-⟩:=dD.shape hM;refine cC (cE hw (fun _ w' v w2=>cQ w2 (Nf w' w2) v (cS (cO f) f.cols)) (fun O w' r=>HT (h0:=20) (Rel.old r (cB w)) (cQ.rel hM r (cB w)) hlen (by rw[Qe];exact PH.col) (by omega) (by omega) (fun c hc=>PH.ht hc) (by decide)) ?_);rintro O _ _ _ OP r he hw h_ hn;have hK:=cQ.dA (S:=FF) hn r.cD (mN h_);obtain⟨ak,ck,rfl,-,-⟩:=dD.shape hK;exact rtn hw fun ρe we re=>cQ.cI (cQ.rel hK re (cB w)) fun g hg=>Cv.nw hg re
theorem OE{w:World}(hl:ff w S vl l):di PG N.Bz #[vl] w (dw w fun v' _=>∃d,v'= .bool d):=by
 have hw:=bR w;obtain⟨al,cl,rfl,-,Ql⟩:=hl.shape;refine DF (by simp) ?_;refine dM.mk ?_ ?_<;>intro h1
 ·conv=>whnf
  exact rtn hw fun ρe we re=>⟨_,rfl⟩
 refine dM.mk ?_ ?_<;>intro h1
 ·conv=>whnf
  exact rtn hw fun ρe we re=>⟨_,rfl⟩
 exact rtn hw fun ρe we re=>⟨_,rfl⟩
theorem BP{w:World}(hS:Old S w)(hf:dS w S vn vb vs f)(hl:ff w S vl l):di PG N.nT #[.agg #[vn,vb,vs],vl] w (dw w fun v' _=>v'= .int .i64 (uU f.nodes.length l)):=by
 have hw:=bR w;obtain⟨an,cn,ab,cb,aq,cq,rfl,rfl,rfl,Q6,Qm,RH⟩:=hf.shape;obtain⟨al,cl,rfl,PV,Ql⟩:=hl.shape;unfold maxLen at Ql;refine rF (by simp) ?_;refine dM.mk ?_ ?_<;>intro h1
 ·have h1:=aI h1;exact rtn hw fun ρe we re=>by show Value.int .i64 _=_;rw[uU,if_pos (by omega)]
 have h1:=aH h1
 refine⟨Nat×World×Iv,fun z=>⟨[(1,sV al l.length cl),(2,pP 0 0),(5,iN z.1)],[(0,.box T.Frame [.v (.slice an f.nodes.length cn),.v (.slice ab f.bars.length cb),.v (.slice aq f.cV.length cq)])],1,z.2.2,z.2.1⟩,fun z=>l.length-z.1,
  fun z=>z.1<=l.length∧dm w.heap.size w z.2.1∧uU f.nodes.length l=ec (fun _=>j9 f.nodes.length) (l.take z.1) (l.drop z.1),?_,?_⟩
 ·intro O w' r3;exact⟨(0,w',[]),⟨aP _,hw.tr r3.cP,by rw[uU,aL (by omega)];rfl⟩,Sub.gn [] r3⟩
 clear hw;rintro⟨i,w1,iv⟩ ⟨hi,hw,hE⟩;dsimp only at hi hw hE ⊢;refine dM.mk ?_ ?_<;>intro OF
 ·have OF:i<l.length:=by simpa using OF
  obtain⟨x,hx⟩:∃x,l[i]? =some x:=⟨_,aB OF⟩
  obtain⟨adx,cs,PS,hP,-,Oj⟩:=hl.load (by decide) hx;have hP:cs=[.int .i64 x.1,.int .i64 x.2.1,.int .i64 x.2.2.1,.int .i64 x.2.2.2]:=hP;subst hP;refine cK hτ dZ [.x 0,.x 1,.x 2,.x 3,.x 4,.x 5,.x 6,.x 7] (by kernel_rfl) (by kernel_rfl) ?_;refine⟨adx,PS,by omega,.int .i64 x.1,fun O w' r=>?_,?_⟩
  ·obtain⟨k1,k2⟩:=Oj 0 _ rfl;rw[cG (w:=w) (w2:=w') (by simp only[dE];exact(hw.tr r.cP).block _ (hS _ k1))];simp only[aE,kE]at k2 ⊢;exact k2
  refine cE hw (fun _ w' v w2=>∃d,v= .bool d∧(d=true↔jL f.nodes.length x.1)) (fun O w' r=>qw _ _ _ _ _ _ _ _ _ _ w') ?_;rintro O _ _ _ OM r he hw h_ ⟨d,rfl,hd⟩;clear r
  cases d
  ·have hc:j9 f.nodes.length x=6:=by
    unfold j9;rw[aL fun h=>by have:=hd.2 h;cases this]
   exact rtn hw fun ρe we re=>by show Value.int .i64 _=_;rw[hE,cT hx hc (by decide)]
  have hd:=hd.1 rfl;refine⟨adx,PS,by omega,[.int .i64 x.1,.int .i64 x.2.1,.int .i64 x.2.2.1,.int .i64 x.2.2.2],rfl,rdO Oj hw hS,?_⟩;refine cC (cE hw (fun _ w' v w2=>∃d,v= .bool d∧(d=true↔MI x.2)) (fun O w' r=>JP x w') ?_);rintro O _ _ _ OJ r he hw h_ ⟨d2,rfl,PD⟩;clear r
  cases d2
  ·have hc:j9 f.nodes.length x=2:=by
    unfold j9;rw[if_pos hd,aL fun h=>by have:=PD.2 h;cases this]
   exact rtn hw fun ρe we re=>by show Value.int .i64 _=_;rw[hE,cT hx hc (by decide)]
  have PD:=PD.1 rfl;have hc:j9 f.nodes.length x=0:=by
   unfold j9;rw[if_pos hd];exact if_pos PD
  rw[gW hx hc]at hE;refine⟨((i+1:Nat):Int),wo,?_⟩;intro ρ3 w6 r3;exact⟨(i+1,w6,_),⟨OF,hw.tr r3.cP,hE⟩,Sub.gn [] r3,by dsimp only;omega⟩
 have OF:i=l.length:=aQ hi (by simpa using OF);rw[iu (by omega)]at hE;exact rtn hw fun ρe we re=>by show Value.int .i64 _=_;rw[hE]
theorem jF{w:World}(hS:Old S w)(hf:dS w S vn vb vs f)(hl:ff w S vl l):di PG N.ox #[.agg #[vn,vb,vs],vl] w (dw w fun v' _=>v'= .int .i64 (jI f l)):=by
 have hw:=bR w;obtain⟨an,cn,ab,cb,aq,cq,rfl,rfl,rfl,Q6,Qm,RH⟩:=hf.shape;obtain⟨al,cl,rfl,PV,Ql⟩:=hl.shape;obtain⟨e0,EE⟩:∃e,eV f=e:=⟨_,rfl⟩
 refine sZ (by simp) ?_;refine cC (cE hw (fun _ w' v w2=>v= .int .i64 e0) (fun O w' r=>(Fe (oS hS r) (hf.cH (kS hw r hS))).mono fun _ _ ⟨v2,e1,e2,e3⟩=>⟨v2,e1,e2,by rw[e3,EE]⟩) ?_);rintro O _ _ _ OM r he hw h_ rfl;clear r;refine dM.mk ?_ ?_<;>intro he
 ·have he:e0≠0:=by simpa using he
  exact rtn hw fun ρe we re=>by show Value.int .i64 _=_;rw[jI,if_pos (by rw[EE];exact he),EE]
 have he:e0=0:=by simpa using he
 refine cC (cE hw (fun _ w' v w2=>v= .int .i64 (uU f.nodes.length l)) (fun O w' r=>BP (oS hS r) (hf.cH (kS hw r hS)) (hl.cH (kS hw r hS))) ?_);rintro O _ _ _ OJ r he hw h_ rfl;clear r he;exact rtn hw fun ρe we re=>by show Value.int .i64 _=_;rw[jI,aL (by rw[EE,he];decide)]
theorem aAD(h:eV f≠0∨f.nodes.length<=4∧f.bars.length<=6)(h0:eV f=0):FrS f:=⟨Nc h0,(h.resolve_left fun e=>e h0).1,(h.resolve_left fun e=>e h0).2⟩
theorem CV{x r:List Rat}{i:Nat}(h:M[i]? =some r):(jg M x)[i]? =some (eF r x r.length):=by rw[jg,aM,h];rfl
theorem JT{x:List Rat}{h:Nat}(hlen:fg n M)(hM:Ht M h)(hx:∀q∈x,rl q+1<=h)(h2:2<=h):∀q∈jg M x,rl q<=2*h*n+2:=fun q hq=>by
 obtain⟨r,hr,rfl⟩:=aU.1 hq;have:=qS (fun q hq=>hM r hr q hq) hx h2 r.length;rw[hlen r hr]at this ⊢;exact this
theorem LQ{w:World}{v u:Value}{x:List Rat}(OG:∀r∈M,r.length=x.length)(hqM:Ht M h0)(hqx:∀q∈x,rl q+1<=h0)(h2:2<=h0)(hb:2*h0*x.length<=90000)(hh:h0<=90000)(hR:M.length<=1000)(hS:Old S w)(hM:cQ w S v M)(hx:cR w S u x):
  di PG N.ki #[.agg #[v,.int .i64 n],u] w (dw w fun v' w2=>dP w2 FF w.heap.size [(w.heap.size,w2.heap.size)] v' M.length (jg M x)):=by
 have hw:=bR w;obtain⟨am,cm,rfl,Rb,RD⟩:=dD.shape hM;obtain⟨ax,cx,rfl,Sl,Uw⟩:=cY.shape hx;refine oW (by simp) ?_
 refine⟨M.length,M.length,rfl,rfl,aF _,by omega,by omega,Nat×List (List Value)×Iv×World,fun z=>⟨[(1,sV ax x.length cx),(5,.o (.s 1 0 M.length M.length)),(13,sV am M.length cm),(14,iZ M.length),(15,iN z.1)],[(0,.box T.dc [.v (.slice am M.length cm),.v (.int .i64 n)]),(1,.arr T.Rat z.2.1.flatten)],2,z.2.2.1,z.2.2.2⟩,fun z=>M.length-z.1,
  fun z=>z.1<=M.length∧dm w.heap.size w z.2.2.2∧fo z.2.2.2 (Cf w z.2.2.1) (M.length) z.1 z.2.1 (jg M x),?_,?_⟩
 ·intro O w' r;exact⟨(0,List.replicate (M.length) f0,_,w'),⟨by simp,hw.tr r.cP,fo.start _ _ _ _⟩,Sub.gn [] r⟩
 clear hw;rintro⟨i,css,iv,w1⟩ ⟨hi,hw,hF⟩;dsimp only at hi hw hF ⊢;refine dM.mk ?_ ?_<;>intro h
 ·have h:i<M.length:=by simpa using h
  obtain⟨y,hy⟩:∃r,M[i]? =some r:=⟨_,aB h⟩
  have TO:=OG y (aC hy);obtain⟨adm,um,Qs,PK,km1,km2⟩:=dD.load hM hy;obtain⟨a0,c0,rfl,VB,-⟩:=cY.shape PK;refine⟨adm,Qs,by omega,.slice a0 y.length c0,rd1 km2 hw (hS _ km1),?_⟩;refine cC (cE hw (fun _ w' v w2=>cU w2 (Nf w' w2) v (eF y x y.length)) (fun O w' r=>DZ (h:=h0) (oS hS r) (cR.cH (cJ.l PK fun q hq=>by have:=hqM y (aC hy) q hq;omega) (kS hw r hS)) (cR.cH hx (kS hw r hS)) (by omega) (fun q hq=>hqM y (aC hy) q hq) hqx h2 (by rw[TO];exact hb)) ?_);rintro O _ _ _ OM r he hw h_ hn;replace hF:=hF.cF r (cB w) he (mC h_);have hd:=hn.dA (S:=FF) r.cD (mN h_);clear r;obtain⟨A0,A1,A2,A3,A4,A5,A6,A7,rfl⟩:=hd.shape;have OO:=hF.next h (q:=_) (CV hy) hd
  refine⟨by omega,by have:=hF.flat;omega,(css.set i [.bool A0,.slice A1 A2 A3,.bool A4,.slice A5 A6 A7]).flatten,?_,?_⟩
  ·have:=iL (cs:=[.bool A0,.slice A1 A2 A3,.bool A4,.slice A5 A6 A7]) hF.four (show i<css.length by rw[hF.len];exact h);rw[<-this];simp
  refine⟨((i+1:Nat):Int),wo,?_⟩;intro ρ3 w3 r3;exact⟨(i+1,css.set i [.bool A0,.slice A1 A2 A3,.bool A4,.slice A5 A6 A7],_,w3),⟨h,hw.tr r3.cP,OO.rel r3 (cB w)⟩,Sub.gn [] r3,by dsimp only;omega⟩
 have h:i=M.length:=aQ hi (by simpa using h);subst h;exact rtn hw fun ρe we re=>hF.done (by rw[iQ]) (by unfold maxLen;omega) re (id:=1) rfl (re.nn 1 _ rfl (by intros;simp) (by simp))
set_option maxHeartbeats 400000 in
theorem Fp{w:World}{v u t:Value}{x p:List Rat}(hlen:fg n M)(hqM:Ht M h0)(hqx:∀q∈x,rl q+1<=h0)(h2:2<=h0)(hb:2*h0*x.length<=90000)(hh:h0<=90000)(hR:M.length<=1000)(hS:Old S w)(hM:cQ w S v M)(hx:cR w S u x)(hp:cR w S t p)(PN:p.length=M.length)(hqp:∀q∈p,rl q<=1):
  di PG N.nV #[.agg #[v,.int .i64 n],u,t] w (dw w fun v' _=>∃d,v'= .bool d∧(d=true↔x.length=n∧∀(j:Nat) a b,(jg M x)[j]? =some a->p[j]? =some b->a+b=0)):=by
 have hw:=bR w;obtain⟨am,cm,rfl,Rb,RD⟩:=dD.shape hM;obtain⟨ax,cx,rfl,Sl,Uw⟩:=cY.shape hx;obtain⟨ap,cp,rfl,WC,hmp⟩:=cY.shape hp;refine rH (by simp) ?_;refine dM.mk ?_ ?_<;>intro hl
 ·have hl:x.length≠n:=fun e=>by rw[e]at hl;simp at hl
  exact rtn hw fun ρe we re=>⟨false,rfl,iff_of_false (by simp) fun h=>hl h.1⟩
 have RU:(x.length:Int)=n:=by simpa using hl
 have Pb:x.length=n:=by omega
 clear hl RU;refine cC (cE hw (fun _ w' v w2=>dP w2 FF w'.heap.size [(w'.heap.size,w2.heap.size)] v M.length (jg M x)) (fun O w' r=>LQ (h0:=h0) (fun y hy=>(hlen y hy).trans Pb.symm) hqM hqx h2 hb hh hR (oS hS r) (cQ.cH hM (kS hw r hS)) (cR.cH hx (kS hw r hS))) ?_);rintro O _ _ _ OM r he hw h_ hn;have hT:=(hn.dA (S:=FF) r.cD (mN h_)).c;clear r;clear hn;have Qe:(jg M x).length=M.length:=iQ M x;have htb:=JT hlen hqM hqx h2;have h2n:2*h0*n<=90000:=by rw[<-Pb];exact hb
 obtain⟨at_,ct,rfl,-,-⟩:=cY.shape hT;rw[Qe];generalize jg M x=t at*
 refine⟨Nat×World×Iv,fun z=>⟨[(2,sV ap p.length cp),(16,sV at_ M.length ct),(17,iZ M.length),(18,iN z.1)],[],1,z.2.2,z.2.1⟩,fun z=>M.length-z.1,
  fun z=>z.1<=M.length∧dm w.heap.size w z.2.1∧cJ z.2.1 (Cf w z.2.2) (.slice at_ M.length ct) t∧∀j a b,j<z.1->t[j]? =some a->p[j]? =some b->a+b=0,?_,?_⟩
 ·intro O w' r3;exact⟨(0,w',_),⟨aP _,hw.tr r3.cP,by have:=cJ.rel hT r3 (cB w);rw[Qe]at this;exact this,fun j a b hj=>absurd hj (Nat.not_lt_zero j)⟩,Sub.gn [] r3⟩
 clear hw hT;rintro⟨i,w1,iv⟩ ⟨hi,hw,hT,hz⟩;dsimp only at hi hw hT hz ⊢;refine dM.mk ?_ ?_<;>intro OF
 ·have OF:i<M.length:=by simpa using OF
  obtain⟨a,ha⟩:∃q,t[i]? =some q:=⟨_,aB (by omega)⟩
  obtain⟨b,Of⟩:∃q,p[i]? =some q:=⟨_,aB (by omega)⟩
  obtain⟨ada,csa,VY,Tj,-,Pc⟩:=cY.load hT ha;obtain⟨f0,f1,f2,f3,f4,f5,f6,f7,rfl,Tj⟩:=Tj;have Tj:=Tj.l (by have:=htb a (aC ha);omega);obtain⟨adb,csb,PY,Ul,-,Oc⟩:=cY.load hp Of;obtain⟨q0,q1,q2,q3,q4,q5,q6,q7,rfl,Ul⟩:=Ul;refine⟨ada,VY,by omega,[.bool f0,.slice f1 f2 f3,.bool f4,.slice f5 f6 f7],rfl,fun O w' r j u hu=>?_,?_⟩
  ·obtain⟨k1,k2⟩:=Pc j u hu;rw[aE,cG (w:=w1) (w2:=w') (by rw[dE,dE];exact Rel.same r (cB w) k1)];exact k2
  refine cK hτ dZ [.x 0,.x 1,.x 2,.x 3,.x 4,.x 5,.x 6,.x 7] (by kernel_rfl) (by kernel_rfl) ?_;refine⟨adb,PY,by omega,[.bool q0,.slice q1 q2 q3,.bool q4,.slice q5 q6 q7],rfl,rdO Oc hw hS,?_⟩;refine cE hw (fun _ w' v w2=>cU w2 (Nf w' w2) v (a+b)) (fun O w' r=>Gw (S:=Cv S w.heap.size iv) (Rel.old r hS) ((Tj.rel r (cB w)).cI fun g hg=>ui hg).v ((Ul.cH (kS hw r hS)).cI fun g hg=>.inl hg).v) ?_;rintro O _ _ _ OJ r he hw h_ hn;replace hT:=cJ.cF hT r (cB w) he (mC h_);have hd:=hn.dA (S:=FF) r.cD (mN h_);clear r;obtain⟨A0,A1,A2,A3,A4,A5,A6,A7,rfl⟩:=hd.shape;refine cE hw (fun _ w' v w2=>∃d,v= .bool d∧(d=true↔a+b=0)) (fun O w' r=>mh (S:=Cf w OJ) (Rel.old r (cB w)) ((hd.rel r (cB w)).l (by have:=oO a b;have:=htb a (aC ha);have:=hqp b (aC Of);omega))) ?_;rintro O _ _ _ OP r he hw h_ ⟨d,rfl,RT⟩;replace hT:=cJ.cF hT r (cB w) he (mC h_);clear hd;clear r
  cases d
  ·conv=>whnf
   exact rtn hw fun ρe we re=>⟨false,rfl,iff_of_false (by simp) fun h=>by have:=RT.2 (h.2 i a b ha Of);cases this⟩
  refine⟨((i+1:Nat):Int),wo,?_⟩;intro ρ3 w3 r3;refine⟨(i+1,w3,_),⟨OF,hw.tr r3.cP,cJ.rel hT r3 (cB w),fun j a2 b2 hj h5 h6=>?_⟩,Sub.gn [] r3,by dsimp only;omega⟩;rcases aO j i with h|h
  ·exact hz j a2 b2 h h5 h6
  obtain rfl:j=i:=by dsimp only at hj;omega
  rw[ha]at h5;rw[Of]at h6;injection h5 with h5;injection h6 with h6;rw[<-h5,<-h6];exact RT.1 rfl
 have OF:i=M.length:=aQ hi (by simpa using OF);exact rtn hw fun ρe we re=>⟨true,rfl,iff_of_true rfl ⟨Pb,fun j a b h5 h6=>hz j a b (by have:=(aD.1 h5).1;omega) h5 h6⟩⟩
def EqB(f:eh)(l:List Ld)(b:Rat)(x:List Rat):Prop:=x.length=f.cols∧jg (cO f) x=cX (eY f l) (-b)
theorem HU(h:FrS f):Ht (cO f) 4:=fun r hr q hq=>by
 obtain⟨i,hi⟩:=aS hr;obtain⟨t,ht⟩:=aS hq;have:=h.vG i t;rw[dL,getD_some hi,getD_some ht]at this;obtain⟨z,rfl,hz⟩:=this;have:rl ((z:Int):Rat)<=2:=Mc (by omega);omega
theorem Dj{x:List Rat}:(x.length=f.cols∧∀(j:Nat) a b,(jg (cO f) x)[j]? =some a->(eY f l)[j]? =some b->a+b=0)↔EqB f l 1 x:=by
 refine and_congr_right fun _=>⟨fun h=>?_,fun h j a b h1 h2=>?_⟩
 ·refine fw 0 (by rw[iQ,cX,aJ,fz,fc]) fun i hi=>?_;have Tu:i<(eY f l).length:=by rw[iQ,fc]at hi;rw[fz];exact hi
  have:=h i _ _ (aB hi) (aB Tu);rw[List.getD,aB hi,cX,List.getD,aM,aB Tu];show(jg (cO f) x)[i]=(eY f l)[i]* -1;grind
 ·rw[h,cX,aM,h2]at h1;injection h1 with h1;have h1:b* -1=a:=h1;rw[<-h1];grind
theorem LS{t:Int}(h:Ly s t)(ht:0<=t)(j:Nat): -t<=s.getD j 0∧s.getD j 0<=t:=by
 rcases aO j s.length with hj|hj
 ·rw[getD_some (aB hj)];exact h _ (aX hj)
 ·rw[List.getD,List.getElem?_eq_none hj];show -t<=0∧0<=t;omega
theorem CX{s:List Int}{x:Ld}{t:Int}(h:Ly s t)(ht:0<=t)(hx:(-1000000<=x.2.1∧x.2.1<=1000000)∧(-1000000<=x.2.2.1∧x.2.2.1<=1000000)∧(-1000000<=x.2.2.2∧x.2.2.2<=1000000)):∀k,k<=3->Ly (gM s x k) (t+1000000*(k:Int))
 |0,_=>by rw[gM];simpa using h
 |k+1,hk=>by
  have ih:=CX h ht hx k (by omega);have hd: -1000000<=(Nq x).getD k 0∧(Nq x).getD k 0<=1000000:=by
   rcases(show k=0∨k=1∨k=2 by omega)with rfl|rfl|rfl
   ·exact hx.1
   ·exact hx.2.1
   ·exact hx.2.2
  have hg:=LS ih (by omega) (3*x.1+k).toNat;rw[gM,Hk];exact ih.set (by omega) (by omega)
theorem wG{n:Nat}{l:List Ld}(OI:rh n l):∀i,i<=l.length->Ly (fO n l i) (3000000*(i:Int))
 |0,_=>fun z hz=>by rw[bP hz];decide
 |i+1,hi=>by
  have ih:=wG OI i (by omega);have hm:l.getD i (0,0,0,0)∈l:=by rw[getD_some (aB (show i<l.length by omega))];exact aX _
  have:=CX ih (by omega) (OI.ld _ hm).2 3 (aF _);rw[fO];intro z hz;have:=this z hz;omega
theorem Dk(hn:f.nodes.length<=20)(OI:rh f.nodes.length l):∀q∈eY f l,rl q<=1:=fun q hq=>by
 obtain⟨z,hz,rfl⟩:=aU.1 hq;have:=wG OI l.length (aF _) z hz;have hl:=OI.len;exact wB (by omega) (by omega)
end Go.Ex
namespace Go.Ex
variable{M:List (List Rat)}{l:Nat}{g:Nat->Rat}{D p q:Rat}
structure rO(f:eh):Prop extends FrS f where
 fx:∀q∈cW f,rl q<=3
def Bl(b:List Rat):Prop:=∀t,Ib 1000000000 (b.getD t 0)
theorem Ib.w{B:Nat}(h:Ib B q)(k:B<=wt l):Ib (wt l) q:=h.mono k
theorem vH(a b:Nat)(h:a+b<=l):wt a*wt b<=wt l:=by rw[<-Cr];exact Be h
theorem Ib.xW{a b:Nat}(h:Ib (wt a) p)(k:Ib (wt b) q)(hl:a+b<=l):Ib (wt l) (p*q):=(h.mul k).mono (vH a b hl)
theorem Ib.up{a:Nat}(h:Ib (wt a) p)(hl:a<=l):Ib (wt l) p:=h.mono (Be hl)
theorem Ib.aAU{a n:Nat}(hn:n<=18)(h:∀k,k<n->Ib (wt a) (g k))(hl:a+1<=l):Ib (wt l) (cd g n):=
 (Ib.sum n h).mono (aZ (Nat.mul_le_mul_right _ (aZ hn (by decide:18<=wt 1))) (vH 1 a (by omega)))
theorem Den.mono{K L:Nat}{l:List Rat}(h:Den K D l)(k:K<=L):Den L D l:=⟨h.1,h.2.1.mono k,fun t=>(h.2.2 t).mono k⟩
theorem Gi.mono{K L:Nat}(h:Gi K D M)(k:K<=L):Gi L D M:=⟨h.1,h.2.1.mono k,fun i t=>(h.2.2 i t).mono k⟩
theorem Ey{k n R m:Nat}(hn:n<=R)(hR:R<=4294967295)(hl:k+1<=l)(hm:l*R+1<=m):ln (fB (wt k) n)<=m∧fB (wt k) n<=wt m:=by
 have h1:=Mv (B:=wt k) (l:=l) hn (aZ (Nat.mul_le_mul_right _ (aZ hR (by decide:4294967295<=wt 1))) (vH 1 k (by omega)));have h2:l*n+1<=m:=aZ (Nat.succ_le_succ (b9 _ hn)) hm;exact⟨aZ h1 h2,Nat.le_of_lt (gI.1 (aZ h1 h2))⟩
section
variable{f:eh}{b x x0 c u:List Rat}
theorem FrS.Cx(h:FrS f)(hb:Bl b):Bi (dJ (cO f) b) (f.cols+1) (wt 1):=fun j hj=>by
 rw[eB]at hj;have hw:=fun t=>jy (b:=b) (t:=t) (ed f) hj;refine⟨1,by decide,Ib.one lV,fun t ht=>?_⟩;rw[bu];rcases aO t f.cols with h1|h1
 ·rw[(hw t).1 h1];exact(h.vG j t).w (by decide)
 ·rw[show t=f.cols by omega,(hw 0).2];exact(hb j).w (by decide)
theorem FrS.Ez(h:FrS f):ln (fB (wt 1) (dJ (cO f) b).length)<=25:=by
 rw[eB];exact(Ey (l:=2) h.Ka (by decide) (by decide) (by decide)).1
theorem FrS.aAV(h:FrS f)(hb:Bl b)(h0:fD (cO f) b f.cols=some x0):∃D,Den (wt 25) D x0:=by
 obtain⟨D,hD⟩:=zS (ed f) (h.Cx hb) lV h0;exact⟨D,hD.mono (Ey (l:=2) h.Ka (by decide) (by decide) (by decide)).2⟩
theorem FrS.ker(h:FrS f):∃D,Gi (wt 13) D (cS (cO f) f.cols):=by
 obtain⟨D,hD⟩:=MO (ed f) h.mT (by decide);exact⟨D,hD.mono (Nat.le_of_lt (gI.1 h.size))⟩
theorem FrS.Hx(h:FrS f):(cS (cO f) f.cols).length<=18:=by
 have h1:=Gg (ed f);have h2:=h.Lw;omega
theorem z4(f:eh):(cW f).length=f.cols:=by simp[cW,eh.cols]
theorem rO.aAW(h:rO f):Den (wt 54) (kV (cW f) 18) (cW f):=KU (by rw[z4];exact h.Lw) h.fx
theorem rO.Kd(h:rO f)(hx:∃D,Den (wt 25) D x0):Bi (dJ (eU (cS (cO f) f.cols) (cW f)) (gf (cS (cO f) f.cols) (cW f) x0)) ((cS (cO f) f.cols).length+1) (wt 106):=fun i hi=>by
 rw[eB,eU,aJ]at hi;obtain⟨D0,a1,a2,a3⟩:=hx;obtain⟨D1,b1,b2,b3⟩:=h.ker;obtain⟨c1,c2,c3⟩:=h.aAW;have hn:=h.Lw;have hw:=fun t=>jy (b:=gf (cS (cO f) f.cols) (cW f) x0) (t:=t) (oL (cS (cO f) f.cols) (cW f)) (j:=i) (by rw[eU,aJ];exact hi);refine⟨kV (cW f) 18*(D1*D1)*D0,tW (tW c1 (tW b1 b1)) a1,(((c2.xW (b2.xW b2 (aF _)) (aF _)).xW a2 (by decide))),fun t ht=>?_⟩;rcases aO t (cS (cO f) f.cols).length with h1|h1
 ·rw[(hw t).1 h1,vD _ _ _ hi h1];unfold Hu tA;rw[<-ek];refine Ib.aAU hn (fun k _=>?_) (aF _);rw[show kV (cW f) 18*(D1*D1)*D0*((cW f).getD k 0*(dL (cS (cO f) f.cols) i k*dL (cS (cO f) f.cols) t k))=(kV (cW f) 18*(cW f).getD k 0)*((D1*dL (cS (cO f) f.cols) i k)*(D1*dL (cS (cO f) f.cols) t k))*D0 by grind];exact((c3 k).xW ((b3 i k).xW (b3 t k) (aF _)) (aF _)).xW a2 (by decide)
 ·rw[show t=(cS (cO f) f.cols).length by omega,(hw 0).2,Ep _ _ _ _ hi];unfold tA;rw[show kV (cW f) 18*(D1*D1)*D0* -(cd (fun t=>(cW f).getD t 0*(dL (cS (cO f) f.cols) i t*x0.getD t 0)) f.cols)= -(kV (cW f) 18*(D1*D1)*D0*cd (fun t=>(cW f).getD t 0*(dL (cS (cO f) f.cols) i t*x0.getD t 0)) f.cols) by grind,<-ek];refine(Ib.aAU hn (fun k _=>?_) (aF _)).neg;rw[show kV (cW f) 18*(D1*D1)*D0*((cW f).getD k 0*(dL (cS (cO f) f.cols) i k*x0.getD k 0))=(kV (cW f) 18*(cW f).getD k 0)*((D1*dL (cS (cO f) f.cols) i k)*D1)*(D0*x0.getD k 0) by grind];exact((c3 k).xW ((b3 i k).xW b2 (aF _)) (aF _)).xW (a3 k) (by decide)
theorem rO.Hy(h:rO f){b:List Rat}:ln (fB (wt 106) (dJ (eU (cS (cO f) f.cols) (cW f)) b).length)<=1927:=by
 rw[eB,eU,aJ];exact(Ey (l:=107) h.Hx (by decide) (by decide) (by decide)).1
theorem rO.Ng(h:rO f)(hx:∃D,Den (wt 25) D x0)(hc:fD (eU (cS (cO f) f.cols) (cW f)) (gf (cS (cO f) f.cols) (cW f) x0) (cS (cO f) f.cols).length=some c):∀q∈c,rl q<=1927:=fun q hq=>by
 obtain⟨D,hD⟩:=zS (oL _ _) (h.Kd hx) lV hc;have h1:=hD.rl q hq;have h2:=h.Hy (b:=[]);rw[eB]at h2;omega
theorem rO.MS(h:rO f)(hb:Bl b)(Pg:b.length=(cO f).length):Bi (dJ (jh (cO f) f.cols fun t=>(cW f).getD t 0) (b++iB (cS (cO f) f.cols).length)) (f.cols+1) (wt 68):=fun j hj=>by
 rw[eB]at hj;obtain⟨D1,b1,b2,b3⟩:=h.ker;obtain⟨c1,c2,c3⟩:=h.aAW;have hw:=fun t=>jy (b:=b++iB (cS (cO f) f.cols).length) (t:=t) (qn (φ:=fun t=>(cW f).getD t 0) (ed f)) hj;rcases aO j (cO f).length with h2|h2
 ·refine⟨1,by decide,Ib.one lV,fun t ht=>?_⟩;rw[bu];rcases aO t f.cols with h1|h1
  ·rw[(hw t).1 h1,Bp h2];exact((h.vG j t).w (by decide:2000000<=wt 1)).up (by decide)
  ·rw[show t=f.cols by omega,(hw 0).2,kW];exact((hb j).w (by decide:1000000000<=wt 1)).up (by decide)
 ·obtain⟨k,rfl⟩:∃k,j=(cO f).length+k:=⟨j-(cO f).length,by omega⟩
  rw[jB]at hj;refine⟨kV (cW f) 18*D1,tW c1 b1,(c2.xW b2 (by decide)),fun t ht=>?_⟩;rcases aO t f.cols with h1|h1
  ·rw[(hw t).1 h1,Bq (by omega) h1,show kV (cW f) 18*D1*((cW f).getD t 0*dL (cS (cO f) f.cols) k t)=(kV (cW f) 18*(cW f).getD t 0)*(D1*dL (cS (cO f) f.cols) k t) by grind];exact(c3 t).xW (b3 k t) (by decide)
  ·rw[show t=f.cols by omega,(hw 0).2,kW,iH (l:=b) (by omega),bD];exact Ib.zero _
theorem rO.Ke(h:rO f){b:List Rat}:ln (fB (wt 68) (dJ (jh (cO f) f.cols fun t=>(cW f).getD t 0) b).length)<=2071:=by
 rw[eB,jB];have h1:=h.Hx;have h2:=h.Ka;exact(Ey (l:=69) (R:=30) (by omega) (by decide) (by decide) (by decide)).1
theorem Kf(h:rl q<=3):Ib (wt 3) (q.den:Rat):=⟨(q.den:Int),rfl,by have:=(Hr h).2;omega⟩
theorem Nh(h:rl q<=3):Ib (wt 3) ((q.den:Rat)*q):=by rw[Hq];exact⟨q.num,rfl,Nat.le_of_lt (Hr h).1⟩
theorem MT(q:Rat):(q.den:Rat)≠0:=fun e=>by
 have:((q.den:Int):Rat)=((0:Int):Rat):=e;exact q.den_nz (by have:=Rat.intCast_inj.1 this;omega)
theorem rO.fxD(h:rO f){t:Nat}(ht:t<f.cols):rl ((cW f).getD t 0)<=3:=by
 have hl:t<(cW f).length:=by rw[z4];exact ht
 rw[getD_some (aB hl)];exact h.fx _ (aX hl)
theorem rO.MU(h:rO f)(hb:Bl b)(Pg:b.length=(cO f).length):Bi (dJ (ju (cO f) f.cols (cW f)) (b++iB f.cols)) ((cO f).length+f.cols+1) (wt 4):=fun j hj=>by
 rw[eB,jC]at hj;have hw:=fun t=>jy (b:=b++iB f.cols) (t:=t) (qq (ed f) (cW f)) (j:=j) (by rw[jC];exact hj);rcases aO j (cO f).length with h2|h2
 ·refine⟨1,by decide,Ib.one lV,fun t ht=>?_⟩;rw[bu];rcases aO t ((cO f).length+f.cols)with h1|h1
  ·rw[(hw t).1 h1];rcases aO t (cO f).length with h3|h3
   ·rw[(Cu h2).1 h3];exact Ib.zero _
   ·obtain⟨s,rfl⟩:∃s,t=(cO f).length+s:=⟨t-(cO f).length,by omega⟩
    rw[(Cu (t:=s) h2).2];exact((h.vG j s).w (by decide:2000000<=wt 1)).up (by decide)
  ·rw[show t=(cO f).length+f.cols by omega,(hw 0).2,kW];exact((hb j).w (by decide:1000000000<=wt 1)).up (by decide)
 ·obtain⟨k,rfl⟩:∃k,j=(cO f).length+k:=⟨j-(cO f).length,by omega⟩
  have hk:k<f.cols:=by omega
  have hq:=h.fxD hk;refine⟨(((cW f).getD k 0).den:Rat),MT _,(Kf hq).up (by decide),fun t ht=>?_⟩;rcases aO t ((cO f).length+f.cols)with h1|h1
  ·rw[(hw t).1 h1];rcases aO t (cO f).length with h3|h3
   ·rw[(zY (t:=t) hk).1 h3];exact(Kf hq).xW ((h.vG t k).w (by decide:2000000<=wt 1)) (by decide)
   ·obtain⟨s,rfl⟩:∃s,t=(cO f).length+s:=⟨t-(cO f).length,by omega⟩
    rw[(zY (t:=s) hk).2 (by omega)];split
    ·exact(Nh hq).up (by decide)
    ·rw[bD];exact Ib.zero _
  ·rw[show t=(cO f).length+f.cols by omega,(hw 0).2,kW,iH (l:=b) (by omega),bD];exact Ib.zero _
theorem rO.Ni(h:rO f)(hb:Bl b)(Pg:b.length=(cO f).length)(hx:jt (cO f) f.cols (fun t=>(cW f).getD t 0) b x):∃D,Den (wt 151) D x:=by
 obtain⟨u,hu⟩:=hx.aAg (ed f);obtain⟨s1,s2⟩:=KY (ed f) Pg hx hu;obtain⟨z,hz⟩:=kA (qq (ed f) (cW f)) s2;have h1:=KZ (ed f) Pg hz;have h2:=h.xV.one hx h1;obtain⟨D,d1,d2,d3⟩:=zS (qq (ed f) (cW f)) (h.MU hb Pg) lV hz;have h3:fB (wt 4) (ju (cO f) f.cols (cW f)).length<=wt 151:=by
  rw[jC];have h1:=h.Lw;have h2:=h.Ka;exact(Ey (l:=5) (R:=30) (by omega) (by decide) (by decide) (by decide)).2
 refine⟨D,d1,d2.mono h3,fun t=>?_⟩;rw[h2,List.getD,List.getElem?_drop,<-List.getD];exact(d3 _).mono h3
theorem rO.aAX(h:rO f)(hb:Bl b)(Pg:b.length=(cO f).length)(hx:jt (cO f) f.cols (fun t=>(cW f).getD t 0) b x):∀q∈x,rl q<=152:=fun q hq=>by
 obtain⟨D,hD⟩:=h.Ni hb Pg hx;have:=hD.rl q hq;have h2:ln (wt 151)<=152:=gI.2 (Hf (by decide));omega
end
end Go.Ex
