/- Texts X54 to X75: lemmas, each with its conditions. -/
import Derived.Test.YtgkpbdkechfgmaaGreatP5
namespace Go.Ex
open Go Go.Sx Go.Proofs
variable{x1 x2 y1 y2:Int}{S:Nat->Prop}{p q:Rat}{u:Value}{w:World}
theorem KE{v:Value}(U:Old S w)(G:iC w S v x1 x2)(hy:iC w S u y1 y2)(hl0:ln x1.natAbs<=100000)(Qt:ln x2.natAbs<=100000)(Ps:ln y1.natAbs<=100000)(hl3:ln y2.natAbs<=100000):
  eC PG Fn.u6 #[v,u] w (eI w fun v' I=>cY I (Nf w I) v' ((ratio x1 x2)+(ratio y1 y2))):=by
 have V:=bR w;have r1:=gn x1 x2;have r2:=gn y1 y2;have A:=oy (ratio x1 x2) (ratio y1 y2);have r4:=jy (ratio x1 x2) (ratio y1 y2);have r5:=uW (ratio y1 y2);have r6:=yZ (ratio x1 x2) (ratio y1 y2);replace G:=G.cF (S':=Cv S w.heap.size []) fun _ h=>.inl h;replace hy:=hy.cF (S':=Cv S w.heap.size []) fun _ h=>.inl h;obtain⟨b1,a1,n1,c1,b2,a2,n2,c2,rfl⟩:=G.shape;obtain⟨b3,a3,n3,c3,b4,a4,n4,c4,rfl⟩:=hy.shape;refine By bv ?_;refine dP [.x 0,.x 2,.x 1,.x 3,.x 4,.x 5,.x 6] ?_;refine cE V (pR dM ((ratio x1 x2))) (fun O J r=>jh (rlo r U) (G.rel r U) be be) ?_;rintro O _ _ _ OK r R V h_ Z;replace hy:=hy.cH r U R (mC h_);have hX:=Z.cF (nw r h_);obtain⟨A0,A1,A2,A3,A4,A5,A6,A7,rfl⟩:=hX.shape;refine cE V (pR dM ((ratio y1 y2))) (fun O J r=>jh (rlo r U) (hy.rel r U) be be) ?_;rintro O _ _ _ OH r R V h_ Z;replace hX:=hX.cH r oF R (mC h_);have hY:=Z.cF (nw r h_);obtain⟨C0,C1,C2,C3,C4,C5,C6,C7,rfl⟩:=hY.shape;refine cE V (pR dM ((ratio x1 x2)+(ratio y1 y2))) (fun O J r=>Gt (rlo r oF) (hX.rel r oF) (hY.rel r oF) be be) ?_;rintro O _ _ _ OW r R V h_ Z;have hP:=Z.cF (nw r h_);obtain⟨E0,E1,E2,E3,E4,E5,E6,E7,rfl⟩:=hP.shape;refine cE V (pR cY ((ratio x1 x2)+(ratio y1 y2))) (fun O J r=>qS (rlo r oF) (hP.rel r oF) be) ?_;rintro O _ _ _ Ow r R V h_ Z;have hC:=Z.cF (nw r h_);obtain⟨F0,F1,F2,F3,F4,F5,F6,F7,rfl⟩:=hC.shape;exact rtn V fun GT we re=>hC.out re oF
theorem KF{v:Value}(U:Old S w)(G:iC w S v x1 x2)(hy:iC w S u y1 y2)(hl0:ln x1.natAbs<=100000)(Qt:ln x2.natAbs<=100000)(Ps:ln y1.natAbs<=100000)(hl3:ln y2.natAbs<=100000):
  eC PG Fn.u5 #[v,u] w (eI w fun v' I=>cY I (Nf w I) v' ((ratio x1 x2)*(ratio y1 y2))):=by
 have V:=bR w;have r1:=gn x1 x2;have r2:=gn y1 y2;have A:=oy (ratio x1 x2) (ratio y1 y2);have r4:=jy (ratio x1 x2) (ratio y1 y2);have r5:=uW (ratio y1 y2);have r6:=yZ (ratio x1 x2) (ratio y1 y2);replace G:=G.cF (S':=Cv S w.heap.size []) fun _ h=>.inl h;replace hy:=hy.cF (S':=Cv S w.heap.size []) fun _ h=>.inl h;obtain⟨b1,a1,n1,c1,b2,a2,n2,c2,rfl⟩:=G.shape;obtain⟨b3,a3,n3,c3,b4,a4,n4,c4,rfl⟩:=hy.shape;refine Bx bv ?_;refine dP [.x 0,.x 2,.x 1,.x 3,.x 4,.x 5,.x 6] ?_;refine cE V (pR dM ((ratio x1 x2))) (fun O J r=>jh (rlo r U) (G.rel r U) be be) ?_;rintro O _ _ _ OK r R V h_ Z;replace hy:=hy.cH r U R (mC h_);have hX:=Z.cF (nw r h_);obtain⟨A0,A1,A2,A3,A4,A5,A6,A7,rfl⟩:=hX.shape;refine cE V (pR dM ((ratio y1 y2))) (fun O J r=>jh (rlo r U) (hy.rel r U) be be) ?_;rintro O _ _ _ OH r R V h_ Z;replace hX:=hX.cH r oF R (mC h_);have hY:=Z.cF (nw r h_);obtain⟨C0,C1,C2,C3,C4,C5,C6,C7,rfl⟩:=hY.shape;refine cE V (pR dM ((ratio x1 x2)*(ratio y1 y2))) (fun O J r=>Jy (rlo r oF) (hX.rel r oF) (hY.rel r oF) be be) ?_;rintro O _ _ _ OW r R V h_ Z;have hP:=Z.cF (nw r h_);obtain⟨E0,E1,E2,E3,E4,E5,E6,E7,rfl⟩:=hP.shape;refine cE V (pR cY ((ratio x1 x2)*(ratio y1 y2))) (fun O J r=>qS (rlo r oF) (hP.rel r oF) be) ?_;rintro O _ _ _ Ow r R V h_ Z;have hC:=Z.cF (nw r h_);obtain⟨F0,F1,F2,F3,F4,F5,F6,F7,rfl⟩:=hC.shape;exact rtn V fun GT we re=>hC.out re oF
theorem KG{v:Value}(U:Old S w)(G:iC w S v x1 x2)(hy:iC w S u y1 y2)(hl0:ln x1.natAbs<=100000)(Qt:ln x2.natAbs<=100000)(Ps:ln y1.natAbs<=100000)(hl3:ln y2.natAbs<=100000):
  eC PG Fn.u9 #[v,u] w (eI w fun v' I=>cY I (Nf w I) v' ((ratio x1 x2)-(ratio y1 y2))):=by
 have V:=bR w;have r1:=gn x1 x2;have r2:=gn y1 y2;have A:=oy (ratio x1 x2) (ratio y1 y2);have r4:=jy (ratio x1 x2) (ratio y1 y2);have r5:=uW (ratio y1 y2);have r6:=yZ (ratio x1 x2) (ratio y1 y2);replace G:=G.cF (S':=Cv S w.heap.size []) fun _ h=>.inl h;replace hy:=hy.cF (S':=Cv S w.heap.size []) fun _ h=>.inl h;obtain⟨b1,a1,n1,c1,b2,a2,n2,c2,rfl⟩:=G.shape;obtain⟨b3,a3,n3,c3,b4,a4,n4,c4,rfl⟩:=hy.shape;refine CC bv ?_;refine dP [.x 0,.x 2,.x 1,.x 3,.x 4,.x 5,.x 6,.x 7] ?_;refine cE V (pR dM ((ratio x1 x2))) (fun O J r=>jh (rlo r U) (G.rel r U) be be) ?_;rintro O _ _ _ OK r R V h_ Z;replace hy:=hy.cH r U R (mC h_);have hX:=Z.cF (nw r h_);obtain⟨A0,A1,A2,A3,A4,A5,A6,A7,rfl⟩:=hX.shape;refine cE V (pR dM ((ratio y1 y2))) (fun O J r=>jh (rlo r U) (hy.rel r U) be be) ?_;rintro O _ _ _ OH r R V h_ Z;replace hX:=hX.cH r oF R (mC h_);have hY:=Z.cF (nw r h_);obtain⟨C0,C1,C2,C3,C4,C5,C6,C7,rfl⟩:=hY.shape;refine cM (If:=fun _ J v I=>dM I (Nw (Cf w OH) J I) v (-(ratio y1 y2))) (fun O J r=>Jx (rlo r oF) (hY.rel r oF)) ?_;rintro O Pm v3 Pg r R hb Z;replace V:=V.tr hb;replace hX:=hX.cH (K:=(Pm.heap.size,Pg.heap.size)::OH) r oF R fun x G=>aA _ G;have hM:=Z.old r.cR;generalize (Pm.heap.size,Pg.heap.size)::OH=OW at*
 obtain⟨E0,E1,E2,E3,E4,E5,E6,E7,rfl⟩:=hM.shape;refine cE V (pR dM ((ratio x1 x2)-(ratio y1 y2))) (fun O J r=>(Rat.sub_eq_add_neg (ratio x1 x2) (ratio y1 y2))▸Gt (rlo r oF) (hX.rel r oF) (hM.rel r oF) be be) ?_;rintro O _ _ _ Ow r R V h_ Z;have hP:=Z.cF (nw r h_);obtain⟨F0,F1,F2,F3,F4,F5,F6,F7,rfl⟩:=hP.shape;refine cE V (pR cY ((ratio x1 x2)-(ratio y1 y2))) (fun O J r=>qS (rlo r oF) (hP.rel r oF) be) ?_;rintro O _ _ _ Qg r R V h_ Z;have hC:=Z.cF (nw r h_);obtain⟨G0,G1,G2,G3,G4,G5,G6,G7,rfl⟩:=hC.shape;exact rtn V fun GT we re=>hC.out re oF
theorem Md{v:Value}{f g:Rat}(U:Old S w)(hf:dM w S v f)(F:dM w S u g)(SW:rl f<=10000000000)(hlg:rl g<=10000000000):
  eC PG Fn.ku #[v,u] w (eI w fun v' I=>v'=iV (rs (f-g))):=by
 have V:=bR w;have l1:=iA f;have l2:=gE f;have l3:=iA g;have l4:=gE g;have m0:=dm f.num g.den;have m1:=dm g.num f.den;replace hf:=hf.cF (S':=Cv S w.heap.size []) fun _ h=>.inl h;replace F:=F.cF (S':=Cv S w.heap.size []) fun _ h=>.inl h;obtain⟨b1,a1,n1,c1,b2,a2,n2,c2,rfl⟩:=hf.shape;obtain⟨b3,a3,n3,c3,b4,a4,n4,c4,rfl⟩:=F.shape;have TC:=hf.num;have Pp:=hf.den;have Ri:=F.num;have Qr:=F.den;refine oX bv ?_;refine dP [.x 0,.x 1,.x 2,.x 3,.x 5,.x 6,.x 7,.x 8,.x 4,.x 9,.x 10,.x 11] ?_;refine cE V (pR eF (f.num*(g.den:Int))) (fun O J r=>gl (rlo r U) (TC.rel r U) (Qr.rel r U) be be) ?_;rintro O _ _ _ OK r R V h_ Z;replace Pp:=Pp.cH r U R (mC h_);replace Ri:=Ri.cH r U R (mC h_);have hA:=Z.cF (nw r h_);obtain⟨A0,A1,A2,A3,rfl⟩:=hA.shape;refine cE V (pR eF (g.num*(f.den:Int))) (fun O J r=>gl (rlo r U) (Ri.rel r U) (Pp.rel r U) be be) ?_;rintro O _ _ _ OH r R V h_ Z;replace hA:=hA.cH r oF R (mC h_);have hB:=Z.cF (nw r h_);obtain⟨C0,C1,C2,C3,rfl⟩:=hB.shape;refine cE V (pE (iV (rs (f-g)))) (fun O J r=>(Kp f g)▸Jm (rlo r oF) (hA.rel r oF) (hB.rel r oF) be be) ?_;rintro O _ _ _ OW r R V h_ rfl;exact rtn V fun GT we re=>rfl
theorem KH{v:Value}(U:Old S w)(G:iC w S v x1 x2)(hy:iC w S u y1 y2)(hl0:ln x1.natAbs<=100000)(Qt:ln x2.natAbs<=100000)(Ps:ln y1.natAbs<=100000)(hl3:ln y2.natAbs<=100000):
  eC PG Fn.u4 #[v,u] w (eI w fun v' I=>v'=iV (rs ((ratio x1 x2)-(ratio y1 y2)))):=by
 have V:=bR w;have r1:=gn x1 x2;have r2:=gn y1 y2;have A:=oy (ratio x1 x2) (ratio y1 y2);have r4:=jy (ratio x1 x2) (ratio y1 y2);have r5:=uW (ratio y1 y2);have r6:=yZ (ratio x1 x2) (ratio y1 y2);replace G:=G.cF (S':=Cv S w.heap.size []) fun _ h=>.inl h;replace hy:=hy.cF (S':=Cv S w.heap.size []) fun _ h=>.inl h;obtain⟨b1,a1,n1,c1,b2,a2,n2,c2,rfl⟩:=G.shape;obtain⟨b3,a3,n3,c3,b4,a4,n4,c4,rfl⟩:=hy.shape;refine Bw bv ?_;refine dP [.x 0,.x 2,.x 1,.x 3,.x 4,.x 5] ?_;refine cE V (pR dM ((ratio x1 x2))) (fun O J r=>jh (rlo r U) (G.rel r U) be be) ?_;rintro O _ _ _ OK r R V h_ Z;replace hy:=hy.cH r U R (mC h_);have hX:=Z.cF (nw r h_);obtain⟨A0,A1,A2,A3,A4,A5,A6,A7,rfl⟩:=hX.shape;refine cE V (pR dM ((ratio y1 y2))) (fun O J r=>jh (rlo r U) (hy.rel r U) be be) ?_;rintro O _ _ _ OH r R V h_ Z;replace hX:=hX.cH r oF R (mC h_);have hY:=Z.cF (nw r h_);obtain⟨C0,C1,C2,C3,C4,C5,C6,C7,rfl⟩:=hY.shape;refine cE V (pE (iV (rs ((ratio x1 x2)-(ratio y1 y2))))) (fun O J r=>Md (rlo r oF) (hX.rel r oF) (hY.rel r oF) be be) ?_;rintro O _ _ _ OW r R V h_ rfl;exact rtn V fun GT we re=>rfl
theorem Gl:rs q=0↔q=0:=by rw[rs,Int.sign_eq_zero_iff_zero,Rat.num_eq_zero]
theorem KI{v:Value}(U:Old S w)(G:iC w S v x1 x2)(hy:iC w S u y1 y2)(hl0:ln x1.natAbs<=100000)(Qt:ln x2.natAbs<=100000)(Ps:ln y1.natAbs<=100000)(hl3:ln y2.natAbs<=100000):
  eC PG Fn.u7 #[v,u] w (eI w fun v' I=>((ratio y1 y2)=0/\v'= .tuple #[Cb,iV 9])\/((ratio y1 y2)≠0/\∃q,v'= .tuple #[q,iV 0]/\cY I (Nf w I) q ((ratio x1 x2) / (ratio y1 y2)))):=by
 have V:=bR w;have r1:=gn x1 x2;have r2:=gn y1 y2;have A:=oy (ratio x1 x2) (ratio y1 y2);have r4:=jy (ratio x1 x2) (ratio y1 y2);have r5:=uW (ratio y1 y2);have r6:=yZ (ratio x1 x2) (ratio y1 y2);replace G:=G.cF (S':=Cv S w.heap.size []) fun _ h=>.inl h;replace hy:=hy.cF (S':=Cv S w.heap.size []) fun _ h=>.inl h;obtain⟨b1,a1,n1,c1,b2,a2,n2,c2,rfl⟩:=G.shape;obtain⟨b3,a3,n3,c3,b4,a4,n4,c4,rfl⟩:=hy.shape;refine Bz bv ?_;refine cD (cE V (pR dM ((ratio y1 y2))) (fun O J r=>jh (rlo r U) (hy.rel r U) be be) ?_);rintro O _ _ _ OK r R V h_ Z;replace G:=G.cH r U R (mC h_);have hY:=Z.cF (nw r h_);obtain⟨A0,A1,A2,A3,A4,A5,A6,A7,rfl⟩:=hY.shape;refine cD (cE V (pE (iV (rs (ratio y1 y2)))) (fun O J r=>LK (rlo r oF) (hY.rel r oF)) ?_);rintro O _ _ _ OH r R V h_ rfl;replace G:=G.cH r U R (mC h_);replace hY:=hY.cH r oF R (mC h_);apply bS<;>intro h
 .have h:rs (ratio y1 y2)=0:=by simpa using h
  exact rtn V fun GT we re=>.inl ⟨Gl.1 h,rfl⟩
 have h:(ratio y1 y2)≠0:=fun e=>by rw[e]at h;exact absurd h bi
 have r7:=MP (ratio x1 x2) h;refine dP [.x 0,.x 2,.x 1,.x 3,.x 4,.x 5,.x 6] ?_;refine cE V (pR dM ((ratio x1 x2))) (fun O J r=>jh (rlo r U) (G.rel r U) be be) ?_;rintro O _ _ _ OW r R V h_ Z;replace hY:=hY.cH r oF R (mC h_);have hX:=Z.cF (nw r h_);obtain⟨C0,C1,C2,C3,C4,C5,C6,C7,rfl⟩:=hX.shape;refine cE V (pR dM ((ratio x1 x2) / (ratio y1 y2))) (fun O J r=>NL (rlo r oF) (hX.rel r oF) (hY.rel r oF) be be h) ?_;rintro O _ _ _ Ow r R V h_ Z;have hP:=Z.cF (nw r h_);obtain⟨E0,E1,E2,E3,E4,E5,E6,E7,rfl⟩:=hP.shape;refine cE V (pR cY ((ratio x1 x2) / (ratio y1 y2))) (fun O J r=>qS (rlo r oF) (hP.rel r oF) be) ?_;rintro O _ _ _ Qg r R V h_ Z;have hC:=Z.cF (nw r h_);obtain⟨F0,F1,F2,F3,F4,F5,F6,F7,rfl⟩:=hC.shape;exact rtn V fun GT we re=>.inr ⟨h,_,rfl,hC.out re oF⟩
theorem KJ{n:Int}(Y: -9223372036854775808<=n)(X:n<=9223372036854775807):rl (n:Rat)<=2:=by
 have:=pr Y X;unfold rl;rw[Rat.num_intCast,Rat.den_intCast];have:ln 1=1:=by decide
 omega
theorem FH(n:Int)(w:World)(Y: -9223372036854775808<=n)(X:n<=9223372036854775807):
  eC PG Fn.vg #[iV n] w (eI w fun v' I=>cY I (Nf w I) v' (n:Rat)):=by
 have V:=bR w;have hl:=KJ Y X;refine zB bv ?_;refine cD (cE V (pR dM (n)) (fun O J r=>LL n J Y X) ?_);rintro O _ _ _ OK r R V h_ Z;have hX:=Z.cF (nw r h_);obtain⟨A0,A1,A2,A3,A4,A5,A6,A7,rfl⟩:=hX.shape;refine cD (cE V (pR cY (n)) (fun O J r=>qS (rlo r oF) (hX.rel r oF) be) ?_);rintro O _ _ _ OH r R V h_ Z;have hC:=Z.cF (nw r h_);obtain⟨C0,C1,C2,C3,C4,C5,C6,C7,rfl⟩:=hC.shape;exact rtn V fun GT we re=>hC.out re oF
theorem FR(a b:Int)(w:World)(h1a: -9223372036854775808<=a)(h2a:a<=9223372036854775807)(h1b: -9223372036854775808<=b)(h2b:b<=9223372036854775807):
  eC PG Fn.vY #[iV a,iV b] w (eI w fun v' I=>(b=0/\v'= .tuple #[Cb,iV 9])\/(b≠0/\∃q,v'= .tuple #[q,iV 0]/\cY I (Nf w I) q (Rat.divInt a b))):=by
 have V:=bR w;have ha:=pr h1a h2a;have hb:=pr h1b h2b;refine yx bv ?_;apply bS<;>intro h
 .have h:b=0:=by simpa using h
  exact rtn V fun GT we re=>.inl ⟨h,rfl⟩
 have h:b≠0:=by simpa using h
 have hq:=j8 (a:=a) h;refine cD (cE V (pR eF a) (fun O J r=>oB a J h1a h2a) ?_);rintro O _ _ _ OK r R V h_ Z;have hA:=Z.cF (nw r h_);obtain⟨A0,A1,A2,A3,rfl⟩:=hA.shape;refine cD (cE V (pR eF b) (fun O J r=>oB b J h1b h2b) ?_);rintro O _ _ _ OH r R V h_ Z;replace hA:=hA.cH r oF R (mC h_);have hB:=Z.cF (nw r h_);obtain⟨C0,C1,C2,C3,rfl⟩:=hB.shape;refine cD (cE V (pR dM (Rat.divInt a b)) (fun O J r=>vA (rlo r oF) (hA.rel r oF) (hB.rel r oF) h be be) ?_);rintro O _ _ _ OW r R V h_ Z;have hP:=Z.cF (nw r h_);obtain⟨E0,E1,E2,E3,E4,E5,E6,E7,rfl⟩:=hP.shape;refine cD (cE V (pR cY (Rat.divInt a b)) (fun O J r=>qS (rlo r oF) (hP.rel r oF) be) ?_);rintro O _ _ _ Ow r R V h_ Z;have hC:=Z.cF (nw r h_);obtain⟨F0,F1,F2,F3,F4,F5,F6,F7,rfl⟩:=hC.shape;exact rtn V fun GT we re=>.inr ⟨h,_,rfl,hC.out re oF⟩
theorem KK(ad:Addr)(i j:Nat):(ad.add i).add j=ad.add (i+j):=by
 unfold Addr.add;split<;>split<;>simp_all<;>omega
def pt(w:World)(S:Nat->Prop)(v:Value)(q:Rat):Prop:=∃a b,iC w S v a b/\ratio a b=q/\ln a.natAbs<=100000/\ln b.natAbs<=100000
theorem pt.cK{I:World}{v:Value}(h:pt w S v q)(E:∀g,S g->I.heap[g]? =w.heap[g]?):pt I S v q:=by
 obtain⟨a,b,Y,X⟩:=h;exact⟨a,b,Y.cK E,X⟩
theorem pt.shape{v:Value}(h:pt w S v q):∃b a n c b2 a2 n2 c2,v= .agg #[.bool b,.slice a n c,.bool b2,.slice a2 n2 c2]:=by
 obtain⟨a,b,Y,_⟩:=h;exact Y.shape
theorem zg(q:Rat):ratio q.num q.den=q:=by rw[ratio,aF (ja q),Rat.num_divInt_den]
theorem cY.v{v:Value}(h:cY w S v q)(hl:rl q<=100000):pt w S v q:=
 ⟨_,_,h.r,zg q,bB (iA q) hl,bB (gE q) hl⟩
section
variable{S S':Nat->Prop}{H:Hp}{nx:Nat}{iv K:Iv}{B:Nat}{w J I:World}{O:Nat->Sx.da}{v:Value}{q:Rat}
end
theorem JY{v:Value}(U:Old S w)(hp:pt w S v p)(hq:pt w S u q):eC PG Fn.u6 #[v,u] w (eI w fun v' I=>cY I (Nf w I) v' (p+q)):=by
 obtain⟨a,b,Y,rfl,X,N⟩:=hp;obtain⟨c,d,k1,rfl,k2,k3⟩:=hq;exact KE U Y k1 X N k2 k3
theorem zO{v:Value}(U:Old S w)(hp:pt w S v p)(hq:pt w S u q):eC PG Fn.u5 #[v,u] w (eI w fun v' I=>cY I (Nf w I) v' (p*q)):=by
 obtain⟨a,b,Y,rfl,X,N⟩:=hp;obtain⟨c,d,k1,rfl,k2,k3⟩:=hq;exact KF U Y k1 X N k2 k3
theorem JW{v:Value}(U:Old S w)(hp:pt w S v p)(hq:pt w S u q):eC PG Fn.u9 #[v,u] w (eI w fun v' I=>cY I (Nf w I) v' (p-q)):=by
 obtain⟨a,b,Y,rfl,X,N⟩:=hp;obtain⟨c,d,k1,rfl,k2,k3⟩:=hq;exact KG U Y k1 X N k2 k3
theorem FI{v:Value}(U:Old S w)(hp:pt w S v p)(hq:pt w S u q):eC PG Fn.u4 #[v,u] w (eI w fun v' _=>v'=iV (rs (p-q))):=by
 obtain⟨a,b,Y,rfl,X,N⟩:=hp;obtain⟨c,d,k1,rfl,k2,k3⟩:=hq;exact KH U Y k1 X N k2 k3
theorem MV{v:Value}(U:Old S w)(hp:pt w S v p)(hq:pt w S u q):eC PG Fn.u7 #[v,u] w (eI w fun v' I=>(q=0/\v'= .tuple #[Cb,iV 9])\/(q≠0/\∃r,v'= .tuple #[r,iV 0]/\cY I (Nf w I) r (p / q))):=by
 obtain⟨a,b,Y,rfl,X,N⟩:=hp;obtain⟨c,d,k1,rfl,k2,k3⟩:=hq;exact KI U Y k1 X N k2 k3
end Go.Ex
namespace Go.Ex
theorem MD(q:Rat):rs (-q)= -rs q:=by rw[rs,rs,Rat.neg_num,Int.sign_neg]
end Go.Ex
namespace Go.Ex
open Go Go.Sx Go.Proofs
variable{b:Bool}{x z:Int}{L:List Int}{ls:List Nat}{k n:Nat}{S:Nat->Prop}{lv:Value}{w:World}
def fI(w:World)(S:Nat->Prop)(v:Value)(k:Nat)(z:Int):Prop:=∃neg ls,tm w S v neg ls/\sg neg (val ls)=z/\ls.length<=k
theorem fI.cK{I:World}{v:Value}(h:fI w S v k z)(E:∀g,S g->I.heap[g]? =w.heap[g]?):fI I S v k z:=by
 obtain⟨n,l,Y,X⟩:=h;exact⟨n,l,Y.cK E,X⟩
theorem fI.cF{S':Nat->Prop}{v:Value}(h:fI w S v k z)(E:∀g,S g->S' g):fI w S' v k z:=by
 obtain⟨n,l,Y,X⟩:=h;exact⟨n,l,Y.cF E,X⟩
theorem fI.r{v:Value}(h:fI w S v k z):jR w S v z:=by
 obtain⟨n,l,Y,X,_⟩:=h;exact⟨n,l,Y,X⟩
theorem fI.shape{v:Value}(h:fI w S v k z):∃b a n c,v= .agg #[.bool b,.slice a n c]:=h.r.shape
theorem dK.l{v:Value}(h:dK w S v z)(E:ln z.natAbs<=k):fI w S v k z:=by
 obtain⟨l,Y,X,N⟩:=h;obtain⟨_,_,hl⟩:=Y;have:=eE hl.lm X;rw[N]at this;exact⟨_,l,⟨_,‹_›,hl⟩,by rw[N,BQ],be⟩
section
variable{S S':Nat->Prop}{H:Hp}{nx:Nat}{iv K:Iv}{B:Nat}{w J I:World}{O:Nat->Sx.da}{v:Value}{k:Nat}{z:Int}
theorem fI.rel(h:fI w (Cv S B iv) v k z)(r:Rel H nx iv B w O J)(U:∀g,S g->g<B):fI J (Cv S B iv) v k z:=h.cK fun _ F=>rls r U F
theorem fI.cH(h:fI w (Cv S B iv) v k z)(r:Rel H nx iv B w O J)(U:∀g,S g->g<B)(R:Ext J I)(hm:∀p,p∈iv->p∈K):fI I (Cv S B K) v k z:=
 ((h.rel r U).cK fun g F=>R.block g (rlo r U g F)).cF fun _ F=>F.mono hm
end
section
variable{S S':Nat->Prop}{H:Hp}{nx:Nat}{iv K:Iv}{B:Nat}{w J I:World}{O:Nat->Sx.da}{v:Value}{L:List Int}
theorem de.rel(h:de w (Cv S B iv) v L)(r:Rel H nx iv B w O J)(U:∀g,S g->g<B):de J (Cv S B iv) v L:=de.cK h fun _ F=>rls r U F
theorem de.cH(h:de w (Cv S B iv) v L)(r:Rel H nx iv B w O J)(U:∀g,S g->g<B)(R:Ext J I)(hm:∀p,p∈iv->p∈K):de I (Cv S B K) v L:=
 (de.cK (h.rel r U) fun g F=>R.block g (rlo r U g F)).cF fun _ F=>F.mono hm
theorem de.iR(h:de I (Nf J I) v L)(hB:B<=J.heap.size)(hm:(J.heap.size,I.heap.size)∈iv):de I (Cv S B iv) v L:=de.cF h fun _ F=>F.iR hB hm
end
def Mk(b:Bool):Int:=if b then -1 else 1
theorem Me(b:Bool):Mk b=1\/Mk b= -1:=by cases b<;>simp[Mk]
theorem LQ(b:Bool)(n:Nat):Mk b*(n:Int)=sg b n:=by cases b<;>simp[Mk,sg]
theorem Fo{v:Value}{neg:Bool}(U:Old S w)(h:tm w S v neg ls)(hl:ls.length<=40000000):
  eC PG Fn.mL #[v] w (eI w fun v' I=>de I (Nf w I) v' (di (Mk neg) ls)):=by
 obtain⟨lv,rfl,hL⟩:=h;have Ou:=hL.lm;obtain⟨a,c,rfl,hc,Oz⟩:=hL.sl;refine uk bv ?_
 cases neg with
 |true=>
  refine⟨Nat×World,fun z=>⟨[(1,pP 0 0),(3,.o (.v (iV (-1)))),(4,.o (.w 1 (2*z.1))),(5,iZ z.1)],[(1,.vec T.int 1 ((di (-1) (ls.take z.1)).map (Value.int .i64))),(0,.box T.Int [.v (.bool true),.v (.slice a ls.length c)])],2,[],z.2⟩,fun z=>ls.length-z.1,
   fun z=>Bq w z.2/\z.1<=ls.length,?_,?_⟩
  .intro O J r
   exact⟨(0,J),⟨r.cN,bv⟩,Sub.nil 4 T.int 1 rfl (by simp[kL,SV.sc,At.sc,fp]) r fun Id r1=>
    sbgn [] r1⟩
  rintro⟨i,w1⟩ ⟨V,D⟩;dsimp only at V D ⊢;have R4:((di (-1) (ls.take i)).map (Value.int .i64)).length=2*i:=by rw[aM,gp,aZ];omega
  apply bS<;>intro h
  .have h:=dL h;obtain⟨x,G⟩:=gO ls i;have Pe:=Ou x (aG G);obtain⟨ad,rfl,q1,q2⟩:=Oz i x G;have TO:di (-1) (ls.take (i+1))=di (-1) (ls.take i)++[(-1)*((x % 65536:Nat):Int),(-1)*((x / 65536:Nat):Int)]:=by rw[aY,G,Option.toList_some,oH];rfl
   refine⟨ad,rfl,be,.int .u32 x,fun O J r=>?_,?_⟩
   .rw[aJ,aw];exact kF U V r q1 q2
   refine⟨(x:Int),wo,bi,((x % 65536:Nat):Int),rfl,(-1)*((x % 65536:Nat):Int),wo,bi,((x / 65536:Nat):Int),by rw[show (x:Int).tdiv 65536=((x / 65536:Nat):Int)from rfl,wrap64]<;>omega,(-1)*((x / 65536:Nat):Int),wo,?_⟩;refine .inl ?_;refine⟨by rw[R4,aw],be,mx,((i+1:Nat):Int),wo,?_⟩;intro IR w3 A;have S8:(di (-1) (ls.take (i+1))).map (Value.int .i64)=(di (-1) (ls.take i)).map (Value.int .i64)++[iV ((-1)*((x % 65536:Nat):Int)),iV ((-1)*((x / 65536:Nat):Int))]:=by
    rw[TO];simp
   exact⟨(i+1,w3),⟨V.tr A.cN,by dsimp only;omega⟩,sbgn [(1,3)] A ⟨by dsimp only;rw[S8];rfl,rfl,trivial⟩,by dsimp only;omega⟩
  have h:i=ls.length:=by
   have:¬i<ls.length:=by simpa using h
   omega
  subst h;rw[bG]at R4 ⊢;intro GT we re;have OD:=re.Cc (id:=1) (m:=2*ls.length) rfl (by rw[R4,aw]) bi;have QS:=qV OD (by rw[gp]) mx;refine⟨_,rfl,V.tr re.cN,de.cF QS fun g F=>.inr ?_⟩;have:=ownsRow.low OD g F;exact this
 |false=>
  refine⟨Nat×World,fun z=>⟨[(1,pP 0 0),(3,.o (.v (iV (1)))),(4,.o (.w 1 (2*z.1))),(5,iZ z.1)],[(1,.vec T.int 1 ((di (1) (ls.take z.1)).map (Value.int .i64))),(0,.box T.Int [.v (.bool false),.v (.slice a ls.length c)])],2,[],z.2⟩,fun z=>ls.length-z.1,
   fun z=>Bq w z.2/\z.1<=ls.length,?_,?_⟩
  .intro O J r
   exact⟨(0,J),⟨r.cN,bv⟩,Sub.nil 4 T.int 1 rfl (by simp[kL,SV.sc,At.sc,fp]) r fun Id r1=>
    sbgn [] r1⟩
  rintro⟨i,w1⟩ ⟨V,D⟩;dsimp only at V D ⊢;have R4:((di (1) (ls.take i)).map (Value.int .i64)).length=2*i:=by rw[aM,gp,aZ];omega
  apply bS<;>intro h
  .have h:=dL h;obtain⟨x,G⟩:=gO ls i;have Pe:=Ou x (aG G);obtain⟨ad,rfl,q1,q2⟩:=Oz i x G;have TO:di (1) (ls.take (i+1))=di (1) (ls.take i)++[(1)*((x % 65536:Nat):Int),(1)*((x / 65536:Nat):Int)]:=by rw[aY,G,Option.toList_some,oH];rfl
   refine⟨ad,rfl,be,.int .u32 x,fun O J r=>?_,?_⟩
   .rw[aJ,aw];exact kF U V r q1 q2
   refine⟨(x:Int),wo,bi,((x % 65536:Nat):Int),rfl,(1)*((x % 65536:Nat):Int),wo,bi,((x / 65536:Nat):Int),by rw[show (x:Int).tdiv 65536=((x / 65536:Nat):Int)from rfl,wrap64]<;>omega,(1)*((x / 65536:Nat):Int),wo,?_⟩;refine .inl ?_;refine⟨by rw[R4,aw],be,mx,((i+1:Nat):Int),wo,?_⟩;intro IR w3 A;have S8:(di (1) (ls.take (i+1))).map (Value.int .i64)=(di (1) (ls.take i)).map (Value.int .i64)++[iV ((1)*((x % 65536:Nat):Int)),iV ((1)*((x / 65536:Nat):Int))]:=by
    rw[TO];simp
   exact⟨(i+1,w3),⟨V.tr A.cN,by dsimp only;omega⟩,sbgn [(1,3)] A ⟨by dsimp only;rw[S8];rfl,rfl,trivial⟩,by dsimp only;omega⟩
  have h:i=ls.length:=by
   have:¬i<ls.length:=by simpa using h
   omega
  subst h;rw[bG]at R4 ⊢;intro GT we re;have OD:=re.Cc (id:=1) (m:=2*ls.length) rfl (by rw[R4,aw]) bi;have QS:=qV OD (by rw[gp]) mx;refine⟨_,rfl,V.tr re.cN,de.cF QS fun g F=>.inr ?_⟩;have:=ownsRow.low OD g F;exact this
def AP(L:List Int)(n:Nat)(z:Int):Prop:=dI L=z/\L.length<=n/\(∀c∈L,-65535<=c/\c<=65535)/\(0<=z->∀c∈L,0<=c)
theorem AQ(s:Int)(h:val ls=0):∀c∈di s ls,c=0:=fun c hc=>by
 induction ls with
 |nil=>cases hc
 |cons l r ih=>
  have h:l+4294967296*val r=0:=h;have Y:l=0:=by omega
  have X:val r=0:=by omega
  subst Y;rw[di]at hc;rcases List.mem_cons.1 hc with rfl|hc
  .simp
  rcases List.mem_cons.1 hc with rfl|hc
  .simp
  .exact ih X hc
theorem fI.EM{v:Value}(h:fI w S v k z):∃b a ls c,v= .agg #[.bool b,.slice a ls.length c]/\dF w S (.slice a ls.length c) ls/\sg b (val ls)=z/\ls.length<=k:=by
 obtain⟨b,ls,⟨lv,rfl,hl⟩,hz,E⟩:=h;obtain⟨a,c,rfl,_⟩:=hl.sl;exact⟨b,a,ls,c,rfl,hl,hz,E⟩
theorem fI.ln{v:Value}(h:fI w S v k z):ln z.natAbs<=k:=by
 obtain⟨b,a,ls,c,_,hl,hz,E⟩:=h.EM;rw[<-hz,sI];exact KD hl.lm E
theorem fI.neg(h:fI w S (.agg #[.bool b,lv]) k z):fI w S (.agg #[.bool (!b),lv]) k (-z):=by
 obtain⟨b,ls,⟨lv,e,hl⟩,hz,E⟩:=h;simp only[Value.agg.injEq,Array.mk.injEq,List.cons.injEq,Value.bool.injEq,and_true]at e;obtain⟨rfl,rfl⟩:=e;refine⟨_,ls,⟨_,rfl,hl⟩,?_,E⟩;rw[<-hz]
 cases b<;>simp[sg]
theorem fI.abs(h:fI w S (.agg #[.bool b,lv]) k z):fI w S (.agg #[.bool false,lv]) k (z.natAbs:Int):=by
 obtain⟨b,ls,⟨lv,e,hl⟩,hz,E⟩:=h;simp only[Value.agg.injEq,Array.mk.injEq,List.cons.injEq,Value.bool.injEq,and_true]at e;obtain⟨rfl,rfl⟩:=e;exact⟨_,ls,⟨_,rfl,hl⟩,by rw[<-hz,sI];rfl,E⟩
theorem qW{v:Value}(U:Old S w)(h:fI w S v k z)(E:k<=40000000):
  eC PG Fn.mL #[v] w (eI w fun v' I=>∃L,de I (Nf w I) v' L/\AP L (2*k) z):=by
 obtain⟨b,ls,D,hz,hl⟩:=h;have Ou:Lm ls:=by obtain⟨_,_,h⟩:=D;exact h.lm
 refine(Fo U D be).mono fun _ I ⟨v2,e1,e2,e3⟩=>⟨v2,e1,e2,_,e3,by rw[Bt,LQ,hz],by rw[gp];omega,ye (Me b) Ou,fun h0=>?_⟩
 cases b with
 |false=>exact fun c hc=>(wR Ou c hc).1
 |true=>
  rw[Jj]at hz;exact fun c hc=>by rw[AQ _ (show val ls=0 by omega) c hc];decide
theorem Fp{v:Value}(U:Old S w)(h:de w S v L)(hb:AP L n z)(Z:n<=100000000):
  eC PG Fn.jg #[v] w (eI w fun v' I=>dK I (Nf w I) v' z):=by
 have:=vC U h (fun c hc=>by have:=hb.2.2.1 c hc;omega) (by have:=hb.2.1;omega);rw[hb.1]at this;exact this
theorem KL{v:Value}(U:Old S w)(G:fI w S v k x)(E:k<=40000000):
  eC PG Fn.BD #[v] w (eI w fun v' I=>dK I (Nf w I) v' x):=by
 have V:=bR w;replace G:=G.cF (S':=Cv S w.heap.size []) fun _ h=>.inl h;obtain⟨b1,a1,n1,c1,rfl⟩:=G.shape;refine CB bv ?_;refine cD (cE V (fun _ J v I=>∃L,de I (Nf J I) v L/\AP L (2*k) (x)) (fun O J r=>qW (rlo r U) (G.rel r U) be) ?_);rintro O _ _ _ OK r R V h_ ⟨L,k1,bcs⟩;have hc:=k1.cF (nw r h_);obtain⟨acs,ccs,rfl,lcs⟩:=hc.shape;refine cD (cE V (pR dK (x)) (fun O J r=>Fp (rlo r oF) (hc.rel r oF) bcs be) ?_);rintro O _ _ _ OH r R V h_ Z;have hC:=Z.cF (nw r h_);obtain⟨A0,A1,A2,A3,rfl⟩:=hC.shape;exact rtn V fun GT we re=>hC.out re oF
theorem mr{v:Value}(U:Old S w)(G:fI w S v k x)(E:k<=40000000):
  eC PG Fn.wB #[v] w (eI w fun v' I=>dK I (Nf w I) v' (-x)):=by
 have V:=bR w;replace G:=G.cF (S':=Cv S w.heap.size []) fun _ h=>.inl h;obtain⟨b1,a1,n1,c1,rfl⟩:=G.shape;replace G:=G.neg;refine zI bv ?_;refine cD (cE V (pR dK (-x)) (fun O J r=>KL (rlo r U) (G.rel r U) E) ?_);rintro O _ _ _ OK r R V h_ Z;have hC:=Z.cF (nw r h_);obtain⟨A0,A1,A2,A3,rfl⟩:=hC.shape;exact rtn V fun GT we re=>hC.out re oF
theorem xX{v:Value}(U:Old S w)(G:fI w S v k x)(E:k<=40000000):
  eC PG Fn.yn #[v] w (eI w fun v' I=>dK I (Nf w I) v' ((x.natAbs:Int))):=by
 have V:=bR w;replace G:=G.cF (S':=Cv S w.heap.size []) fun _ h=>.inl h;obtain⟨b1,a1,n1,c1,rfl⟩:=G.shape;replace G:=G.abs;refine AE bv ?_;refine cD (cE V (pR dK ((x.natAbs:Int))) (fun O J r=>KL (rlo r U) (G.rel r U) E) ?_);rintro O _ _ _ OK r R V h_ Z;have hC:=Z.cF (nw r h_);obtain⟨A0,A1,A2,A3,rfl⟩:=hC.shape;exact rtn V fun GT we re=>hC.out re oF
theorem Ls{v:Value}{i:Nat}(U:Old S w)(h:de w S v L):
  eC PG Fn.Dh #[v,iV i] w (eI w fun v' _=>v'=iV (L.getD i 0)):=by
 obtain⟨a,c,rfl,hc⟩:=h.shape;refine Dl bv ?_;apply bS<;>intro D
 .have D:=dL D;obtain⟨x,G⟩:=gO L i;obtain⟨ad,rfl,q1,q2⟩:=h.load G;refine⟨ad,rfl,be,iV x,fun O J r=>?_,?_⟩
  .rw[aJ];exact kF U jv.refl r q1 q2
  intro O I r;exact⟨_,rfl,r.cN,by rw[List.getD,G];rfl⟩
 .have D:L.length<=i:=by
   have:¬i<L.length:=by simpa using D
   omega
  intro O I r;exact⟨_,rfl,r.cN,by rw[List.getD,List.getElem?_eq_none D];rfl⟩
theorem val_zero(h:∀x∈ls,x=0):val ls=0:=by
 induction ls with
 |nil=>rfl
 |cons l r ih=>rw[val,h l aI,ih fun x G=>h x (aA _ G)]
theorem LR{x:Nat}(h:x∈ls)(G:x≠0):0<val ls:=by
 induction ls with
 |nil=>cases h
 |cons l r ih=>
  rw[val];rcases List.mem_cons.1 h with rfl|h
  .omega
  .have:=ih h;omega
theorem gP{v:Value}(U:Old S w)(G:jR w S v x):
  eC PG Fn.yi #[v] w (eI w fun v' _=>v'=iV x.sign):=by
 obtain⟨b,ls,⟨lv,rfl,Y⟩,hz⟩:=G;obtain⟨a,c,rfl,_,ha⟩:=Y.sl;have hle1:=Y.le;refine AA bv ?_
 refine⟨Nat×World,fun z=>⟨[(1,pP 0 0),(3,iZ z.1)],[(0,.box T.Int [.v (.bool b),.v (.slice a ls.length c)])],1,[],z.2⟩,fun z=>ls.length-z.1,
  fun z=>z.1<=ls.length/\Bq w z.2/\∀x∈ls.take z.1,x=0,?_,?_⟩
 .intro O J r;exact⟨(0,J),⟨bv,r.cN,bv⟩,sbgn [] r⟩
 rintro⟨i,w1⟩ ⟨D,V,ht⟩;dsimp only at D V ht ⊢;apply bS<;>intro Ny
 .have Ny:=dL Ny;obtain⟨y,hy⟩:=gO ls i;obtain⟨ad,rfl,q1,q2⟩:=ha i y hy;refine⟨ad,rfl,be,.int .u32 y,fun O J r=>by rw[aJ,aw];exact kF U V r q1 q2,?_⟩;apply bS<;>intro OB
  .have OB:y≠0:=fun h=>by rw[h]at OB;simp at OB
   have hp:=LR (aG hy) OB
   cases b with
   |true=>
    rw[Jj]at hz;intro O I r;exact⟨_,rfl,V.tr r.cN,by rw[bj be];rfl⟩
   |false=>
    rw[M3]at hz;intro O I r;exact⟨_,rfl,V.tr r.cN,by rw[bp be];rfl⟩
  have OB:y=0:=by simpa using OB
  subst OB;have RS:∀x∈ls.take (i+1),x=0:=fun x G=>by
   rw[aY,hy]at G;rcases bV.1 G with G|G
   .exact ht x G
   .simpa using G
  refine inc i ?_;intro IR w3 A;exact⟨(i+1,w3),⟨Ny,V.tr A.cN,RS⟩,sbgn [] A,dec Ny⟩
 have Ny:i=ls.length:=by
  have:¬i<ls.length:=by simpa using Ny
  omega
 subst Ny;rw[bG]at ht;intro O I r;refine⟨_,rfl,V.tr r.cN,?_⟩;rw[<-hz,val_zero ht]
 cases b<;>rfl
theorem AP.at(h:AP L n z)(i:Nat): -65535<=L.getD i 0/\L.getD i 0<=65535:=by
 rw[List.getD]
 cases hj:L[i]? with
 |none=>simp
 |some d=>exact h.2.2.1 d (aG hj)
end Go.Ex
namespace Go.Sx
open Go Go.Ex Go.Proofs
variable{L:List Int}{O:Nat->Sx.da}
theorem Rel.LS{H:Hp}{nx:Nat}{iv:Iv}{B:Nat}{w J:World}(r:Rel H nx iv B w O J){id m:Nat}(h:cw H id=some (.vec T.int 1 (L.map (Value.int .i64))))(hm:m=L.length)(hl:m<=maxLen):
  ∃S',Old S' J/\de J S' ((SV.o (.w id m)).den O) L:=by
 have OD:=r.Cc (m:=m) h (by rw[aM,hm,aw]) bi;exact⟨_,fun g F=>(ownsRow.low OD g F).2,qV OD hm hl⟩
end Go.Sx
namespace Go.Ex
open Go Go.Sx Go.Proofs
section
variable{x y:Int}{L:List Int}{k:Nat}{S:Nat->Prop}{O:Nat->Sx.da}{u:Value}{w:World}
theorem mQ{H:Hp}{nx:Nat}{iv:Iv}{B:Nat}{J:World}(r:Rel H nx iv B w O J){id m:Nat}{z:Int}(h:cw H id=some (.vec T.int 1 (L.map (Value.int .i64))))(hm:m=L.length)(hl:m<=100000000)
  (hb:∀c∈L,-1152921504606846976<=c/\c<=1152921504606846976) (hz:dI L=z):eC PG Fn.jg #[(SV.o (.w id m)).den O] J (eI J fun v' I=>dK I (Nf J I) v' z):=by
 subst hz;obtain⟨S',Y,X⟩:=r.LS h hm mx;exact vC Y X hb be
theorem Fq{v:Value}{l:Nat}(U:Old S w)(G:fI w S v k x)(hy:fI w S u l y)(E:k<=10000000)(hl:l<=10000000):
  eC PG Fn.BC #[v,u] w (eI w fun v' I=>dK I (Nf w I) v' (x+y)):=by
 have V:=bR w;replace G:=G.cF (S':=Cv S w.heap.size []) fun _ h=>.inl h;replace hy:=hy.cF (S':=Cv S w.heap.size []) fun _ h=>.inl h;obtain⟨b1,a1,n1,c1,rfl⟩:=G.shape;obtain⟨b2,a2,n2,c2,rfl⟩:=hy.shape;refine CA bv ?_;refine dP [.x 0,.x 2,.x 1,.x 3,.x 4,.x 5] ?_;refine cE V (fun _ J v I=>∃L,de I (Nf J I) v L/\AP L (2*k) (x)) (fun O J r=>qW (rlo r U) (G.rel r U) be) ?_;rintro O _ _ _ OK r R V h_ ⟨ca,k1,bca⟩;replace hy:=hy.cH r U R (mC h_);have Og:=k1.cF (nw r h_);obtain⟨aca,cca,rfl,lca⟩:=Og.shape;refine cE V (fun _ J v I=>∃L,de I (Nf J I) v L/\AP L (2*l) (y)) (fun O J r=>qW (rlo r U) (hy.rel r U) be) ?_;rintro O _ _ _ OH r R V h_ ⟨cb,k1,bcb⟩;replace Og:=Og.cH r oF R (mC h_);have PZ:=k1.cF (nw r h_);obtain⟨acb,ccb,rfl,lcb⟩:=PZ.shape
 refine⟨Nat×World×Iv,fun z=>⟨[(4,pP 2 0),(5,sV aca ca.length cca),(6,sV acb cb.length ccb),(7,.o (.w 3 z.1)),(8,iZ z.1)],[(3,.vec T.int 1 (((List.range z.1).map fun j=>ca.getD j 0+cb.getD j 0).map (Value.int .i64))),(2,.box T.Int [.v (.bool false),.v nls])],4,z.2.2,z.2.1⟩,fun z=>max ca.length cb.length-z.1,
  fun z=>z.1<=max ca.length cb.length/\Bq w z.2.1/\de z.2.1 (Cf w z.2.2) (.slice aca ca.length cca) ca/\de z.2.1 (Cf w z.2.2) (.slice acb cb.length ccb) cb,?_,?_⟩
 .intro O J r
  exact⟨(0,J,OH),⟨bv,V.tr r.cN,Og.rel r oF,PZ.rel r oF⟩,Sub.nil 7 T.int 1 rfl (by simp[kL,SV.sc,At.sc,fp]) r fun Id r1=>
   sbgn [] r1⟩
 rintro⟨i,w1,iv⟩ ⟨D,V,Og,PZ⟩;dsimp only at D V Og PZ ⊢;have l1:=bca.2.1;have l2:=bcb.2.1;apply bS<;>intro Ny
 .have Ny:i<max ca.length cb.length:=by
   have:=aE Ny;omega
  have q1:=bca.at i;have q2:=bcb.at i;refine cD (cE V (pE (iV (ca.getD i 0))) (fun O J r=>Ls (rlo r oF) (Og.rel r oF)) ?_);rintro O Pm v3 Pg OW r R V h_ rfl;replace Og:=Og.cH r oF R (mC h_);replace PZ:=PZ.cH r oF R (mC h_);refine cD (cE V (pE (iV (cb.getD i 0))) (fun O J r=>Ls (rlo r oF) (PZ.rel r oF)) ?_);rintro O _ _ _ Ow r R V h_ rfl;replace Og:=Og.cH r oF R (mC h_);replace PZ:=PZ.cH r oF R (mC h_);refine⟨ca.getD i 0+cb.getD i 0,wo,?_⟩;refine .inl ?_;refine⟨bv,be,mx,((i+1:Nat):Int),wo,?_⟩;intro IR w3 A;have S8:((List.range (i+1)).map fun j=>ca.getD j 0+cb.getD j 0).map (Value.int .i64)=((List.range i).map fun j=>ca.getD j 0+cb.getD j 0).map (Value.int .i64)++[iV (ca.getD i 0+cb.getD i 0)]:=by
   rw[bZ,aU,aU];rfl
  exact⟨(i+1,w3,_),⟨Ny,V.tr A.cN,Og.rel A oF,PZ.rel A oF⟩,sbgn [(3,5)] A ⟨by dsimp only;rw[S8];rfl,rfl,trivial⟩,dec Ny⟩
 have Ny:i=max ca.length cb.length:=by
  have:=aC Ny;omega
 generalize Of:((List.range i).map fun j=>ca.getD j 0+cb.getD j 0)=L;have hz:dI L=x+y:=by
  rw[<-Of,yc,yd,pA ca i be,pA cb i be,bca.1,bcb.1]
 have hlen:i=L.length:=by rw[<-Of];simp
 have PX:∀c∈L,-1152921504606846976<=c/\c<=1152921504606846976:=fun c hc=>by
  rw[<-Of]at hc;obtain⟨j,_,rfl⟩:=aV.1 hc;have:=bca.at j;have:=bcb.at j;omega
 refine cD (cE V (pR dK (x+y)) (fun O J r=>mQ r rfl hlen be PX hz) ?_);rintro O _ _ _ OW r R V h_ Z;have hC:=Z.cF (nw r h_);obtain⟨A0,A1,A2,A3,rfl⟩:=hC.shape;exact rtn V fun GT we re=>hC.out re oF
theorem Ce{v:Value}{l:Nat}(U:Old S w)(G:fI w S v k x)(hy:fI w S u l y)(E:k<=10000000)(hl:l<=10000000):
  eC PG Fn.yo #[v,u] w (eI w fun v' I=>dK I (Nf w I) v' (x-y)):=by
 have PS:=hy.ln;have V:=bR w;replace G:=G.cF (S':=Cv S w.heap.size []) fun _ h=>.inl h;replace hy:=hy.cF (S':=Cv S w.heap.size []) fun _ h=>.inl h;obtain⟨b1,a1,n1,c1,rfl⟩:=G.shape;obtain⟨b2,a2,n2,c2,rfl⟩:=hy.shape;refine AF bv ?_;refine dP (idO 5) ?_;refine cE V (pR dK (-y)) (fun O J r=>mr (rlo r U) (hy.rel r U) be) ?_;rintro O _ _ _ OK r R V h_ Z;replace G:=G.cH r U R (mC h_);have hm:=Z.cF (nw r h_);obtain⟨A0,A1,A2,A3,rfl⟩:=hm.shape;refine cE V (pR dK (x-y)) (fun O J r=>?_) ?_
 .have h:=Fq (rlo r U) (G.rel r U) (((hm.rel r oF).l (k:=l) (by rw[Int.natAbs_neg];exact PS)).cF fun g F=>Cv.false F) E hl;rw[<-Int.sub_eq_add_neg]at h;exact h
 rintro O _ _ _ OH r R V h_ Z;have hC:=Z.cF (nw r h_);obtain⟨C0,C1,C2,C3,rfl⟩:=hC.shape;exact rtn V fun GT we re=>hC.out re oF
theorem Hz{v:Value}{l:Nat}(U:Old S w)(G:fI w S v k x)(hy:fI w S u l y)(E:k<=10000000)(hl:l<=10000000):
  eC PG Fn.tM #[v,u] w (eI w fun v' _=>v'=iV (x-y).sign):=by
 have V:=bR w;replace G:=G.cF (S':=Cv S w.heap.size []) fun _ h=>.inl h;replace hy:=hy.cF (S':=Cv S w.heap.size []) fun _ h=>.inl h;obtain⟨b1,a1,n1,c1,rfl⟩:=G.shape;obtain⟨b2,a2,n2,c2,rfl⟩:=hy.shape;refine wx bv ?_;refine cD (cE V (pR dK (x-y)) (fun O J r=>Ce (rlo r U) (G.rel r U) (hy.rel r U) E hl) ?_);rintro O _ _ _ OK r R V h_ Z;have hd:=Z.cF (nw r h_);obtain⟨A0,A1,A2,A3,rfl⟩:=hd.shape;refine cD (cE V (pE (iV (x-y).sign)) (fun O J r=>gP (rlo r oF) (hd.rel r oF).r) ?_);rintro O _ _ _ OH r R V h_ rfl;exact rtn V fun GT we re=>rfl
end
variable{S:Nat->Prop}
theorem IA{x y:Int}(G: -65535<=x/\x<=65535)(hy: -65535<=y/\y<=65535):(x*y).natAbs<=4294836225:=by
 rw[Int.natAbs_mul];exact Nat.mul_le_mul (show x.natAbs<=65535 by omega) (show y.natAbs<=65535 by omega)
theorem B4{a b:List Int}{i k:Nat}(E:k<=i+1)(h:i<k\/a.length<=k):iF a b i k=fh a b i:=by
 rcases h with h|h
 .rw[fh,show i+1=k by omega]
 .obtain⟨m,hm⟩:∃m,i+1=k+m:=⟨i+1-k,be⟩
  rw[fh,hm,FG a b i k m h]
theorem Cg{w:World}{v u:Value}{k l:Nat}{x y:Int}(U:Old S w)(G:fI w S v k x)(hy:fI w S u l y)(E:k<=10000000)(hl:l<=10000000):
  eC PG Fn.yj #[v,u] w (eI w fun v' I=>dK I (Nf w I) v' (x*y)):=by
 have V:=bR w;replace G:=G.cF (S':=Cv S w.heap.size []) fun _ h=>.inl h;replace hy:=hy.cF (S':=Cv S w.heap.size []) fun _ h=>.inl h;obtain⟨b1,a1,n1,c1,rfl⟩:=G.shape;obtain⟨b2,a2,n2,c2,rfl⟩:=hy.shape;refine AB bv ?_;refine dP [.x 0,.x 2,.x 1,.x 3,.x 4,.x 5] ?_;refine cE V (fun _ J v I=>∃L,de I (Nf J I) v L/\AP L (2*k) (x)) (fun O J r=>qW (rlo r U) (G.rel r U) be) ?_;rintro O _ _ _ OK r R V h_ ⟨ca,k1,bca⟩;replace hy:=hy.cH r U R (mC h_);have Og:=k1.cF (nw r h_);obtain⟨aca,cca,rfl,lca⟩:=Og.shape;refine cE V (fun _ J v I=>∃L,de I (Nf J I) v L/\AP L (2*l) (y)) (fun O J r=>qW (rlo r U) (hy.rel r U) be) ?_;rintro O _ _ _ OH r R V h_ ⟨cb,k1,bcb⟩;replace Og:=Og.cH r oF R (mC h_);have PZ:=k1.cF (nw r h_);obtain⟨acb,ccb,rfl,lcb⟩:=PZ.shape;have l1:=bca.2.1;have l2:=bcb.2.1
 refine⟨Nat×World,fun z=>⟨[(4,pP 2 0),(5,sV aca ca.length cca),(6,sV acb cb.length ccb),(7,.o (.w 3 z.1)),(8,iN z.1)],[(3,.vec T.int 1 (((List.range z.1).map (fh ca cb)).map (Value.int .i64))),(2,.box T.Int [.v (.bool false),.v nls])],4,OH,z.2⟩,fun z=>ca.length+cb.length-z.1,
  fun z=>(z.1+1<=ca.length+cb.length\/z.1=0)/\Bq w z.2/\de z.2 (Cf w OH) (.slice aca ca.length cca) ca/\de z.2 (Cf w OH) (.slice acb cb.length ccb) cb,?_,?_⟩
 .intro O J r
  exact⟨(0,J),⟨bv,V.tr r.cN,Og.rel r oF,PZ.rel r oF⟩,Sub.nil 7 T.int 1 rfl (by simp[kL,SV.sc,At.sc,fp]) r fun Id r1=>
   sbgn [] r1⟩
 rintro⟨i,w1⟩ ⟨D,V,Og,PZ⟩;dsimp only at D V Og PZ ⊢;refine⟨((i+1:Nat):Int),wo,((ca.length+cb.length:Nat):Int),wo,?_⟩;apply bS<;>intro Ny
 .have Ny:i+1<ca.length+cb.length:=by
   have:=aE Ny;omega
  refine⟨(i:Int)-cb.length,wo,(i:Int)-cb.length+1,wo,?_⟩;conv=>whnf
  rw[show max 0 ((i:Int)-cb.length+1)=((i+1-cb.length:Nat):Int) by omega];obtain⟨k0,SM⟩:∃k0,k0=i+1-cb.length:=⟨_,rfl⟩
  rw[<-SM]
  refine⟨Nat×World,fun z=>⟨[(4,pP 2 0),(5,sV aca ca.length cca),(6,sV acb cb.length ccb),(7,.o (.w 3 i)),(8,iN i),(9,.o (.v (iV (iF ca cb i z.1)))),(10,iN z.1)],[(3,.vec T.int 1 (((List.range i).map (fh ca cb)).map (Value.int .i64))),(2,.box T.Int [.v (.bool false),.v nls])],4,OH,z.2⟩,fun z=>i+1-z.1,
   fun z=>k0<=z.1/\z.1<=i+1/\Bq w z.2/\de z.2 (Cf w OH) (.slice aca ca.length cca) ca/\de z.2 (Cf w OH) (.slice acb cb.length ccb) cb,?_,?_⟩
  .intro O J r;refine⟨(k0,J),⟨bv,by dsimp only;omega,V.tr r.cN,Og.rel r oF,PZ.rel r oF⟩,sbgn [] r (hE:=⟨rfl,rfl,rfl,rfl,rfl,?_,rfl,trivial⟩)⟩;dsimp only
   rw[FE ca cb i k0 k0 (fun j hj=>be) be lr];rfl
  rintro⟨j,I⟩ ⟨hj0,hj1,V,Og,PZ⟩;dsimp only at hj0 hj1 V Og PZ ⊢;conv=>whnf
  apply bS<;>intro Ol
  .have Ol:j<=i:=by
    have:=aE Ol;omega
   apply bS<;>intro hja
   .have hja:j<ca.length:=by
     have:=aE hja;omega
    obtain⟨p,hp⟩:=gO ca j;obtain⟨q,hq⟩:=gO cb (i-j);obtain⟨ad,rfl,q1,q2⟩:=Og.load hp;obtain⟨ad2,rfl,q3,q4⟩:=PZ.load hq;have e1:ca.getD j 0=p:=by rw[List.getD,hp];rfl
    have e2:cb.getD (i-j) 0=q:=by rw[List.getD,hq];rfl
    have e3:iF ca cb i (j+1)=iF ca cb i j+p*q:=by rw[iF,e1,aH Ol,e2]
    have m1:=bca.at j;have m2:=bcb.at (i-j);rw[e1]at m1;rw[e2]at m2;have m3:=IA m1 m2;have m4:=lX (a:=ca) (b:=cb) (i:=i) bca.2.2.1 bcb.2.2.1 j;refine dP (idO 14) ?_;refine⟨ad,rfl,be,iV p,fun O J r=>?_,?_⟩
    .rw[aJ,cO (w:=I) (I:=J) (by rw[eV];exact rls (S:=FF) r oF q1)];exact q2
    refine⟨((i-j:Nat):Int),wo,ad2,rfl,be,iV q,fun O J r=>?_,?_⟩
    .rw[aJ,cO (w:=I) (I:=J) (by rw[eV];exact rls (S:=FF) r oF q3)];exact q4
    refine⟨p*q,wo,iF ca cb i (j+1),by rw[e3,wrap64]<;>omega,((j+1:Nat):Int),wo,?_⟩;intro IR w3 A;exact⟨(j+1,w3),⟨by dsimp only;omega,by dsimp only;omega,V.tr A.cN,Og.rel A oF,PZ.rel A oF⟩,sbgn [] A,by dsimp only;omega⟩
   have hja:ca.length<=j:=by
    have:=aC hja;omega
   rw[B4 hj1 (.inr hja)];have m4:=lX (a:=ca) (b:=cb) (i:=i) bca.2.2.1 bcb.2.2.1 (i+1);refine .inl ?_;refine⟨bv,be,mx,((i+1:Nat):Int),wo,?_⟩;intro IR w3 A;have S8:((List.range (i+1)).map (fh ca cb)).map (Value.int .i64)=((List.range i).map (fh ca cb)).map (Value.int .i64)++[iV (fh ca cb i)]:=by
    rw[bZ,aU,aU];rfl
   exact⟨(i+1,w3),⟨.inl Ny,V.tr A.cN,Og.rel A oF,PZ.rel A oF⟩,sbgn [(3,5)] A ⟨by dsimp only;rw[S8];rfl,rfl,trivial⟩,by dsimp only;omega⟩
  have Ol:i<j:=by
   have:=aC Ol;omega
  rw[B4 hj1 (.inl Ol)];have m4:=lX (a:=ca) (b:=cb) (i:=i) bca.2.2.1 bcb.2.2.1 (i+1);refine .inl ?_;refine⟨bv,be,mx,((i+1:Nat):Int),wo,?_⟩;intro IR w3 A;have S8:((List.range (i+1)).map (fh ca cb)).map (Value.int .i64)=((List.range i).map (fh ca cb)).map (Value.int .i64)++[iV (fh ca cb i)]:=by
   rw[bZ,aU,aU];rfl
  exact⟨(i+1,w3),⟨.inl Ny,V.tr A.cN,Og.rel A oF,PZ.rel A oF⟩,sbgn [(3,5)] A ⟨by dsimp only;rw[S8];rfl,rfl,trivial⟩,by dsimp only;omega⟩
 have Ny:ca.length+cb.length<=i+1:=by
  have:=aC Ny;omega
 generalize Of:((List.range i).map (fh ca cb))=L;have hz:dI L=x*y:=by
  rw[<-Of,yc,JM ca cb i Ny,bca.1,bcb.1]
 have hlen:i=L.length:=by rw[<-Of];simp
 have PX:∀c∈L,-1152921504606846976<=c/\c<=1152921504606846976:=fun c hc=>by
  rw[<-Of]at hc;obtain⟨j,hj,rfl⟩:=aV.1 hc;have hj:=List.mem_range.1 hj;have:=lX (a:=ca) (b:=cb) (i:=j) bca.2.2.1 bcb.2.2.1 (j+1);rw[fh];omega
 refine cD (cE V (pR dK (x*y)) (fun O J r=>mQ r rfl hlen be PX hz) ?_);rintro O _ _ _ OW r R V h_ Z;have hC:=Z.cF (nw r h_);obtain⟨A0,A1,A2,A3,rfl⟩:=hC.shape;exact rtn V fun GT we re=>hC.out re oF
end Go.Ex
namespace Go.Ex
theorem HR{b r r2 q C8 n c:Int}(h:C8=b*q+r)(hr:r*65536+c=b*n+r2):c+65536*C8=b*(n+65536*q)+r2:=by
 rw[h,Int.mul_add,Int.mul_add,Int.mul_left_comm b 65536 q];omega
theorem I0{x y Q E9:Int}(hy:y≠0)(h:(x.natAbs:Int)=(y.natAbs:Int)*Q+E9)(h0:0<=E9)(Y:E9<(y.natAbs:Int)):
  (if x<0/\0<E9 then(if (x<0)↔(y<0)then(Q+1)else -(Q+1))else(if (x<0)↔(y<0)then Q else -Q))=x / y/\(if x<0/\0<E9 then(y.natAbs:Int)-E9 else E9)=x % y:=by
 have key:∀q r:Int,r+y*q=x->0<=r->r<(y.natAbs:Int)->q=x / y/\r=x % y:=by
  intro q r e1 e2 e3;have m:x % y=r:=by
   rw[<-e1,Int.add_mul_emod_self_left];rcases Int.lt_or_lt_of_ne hy with h|h
   .rw[<-Int.emod_neg,Int.emod_eq_of_lt e2 be]
   .exact Int.emod_eq_of_lt e2 be
  have d:=Int.mul_ediv_add_emod x y;rw[m]at d;exact⟨(Int.eq_of_mul_eq_mul_left hy be),m.symm⟩
 by_cases G:x<0
 .have ex:(x.natAbs:Int)= -x:=by omega
  by_cases hy':y<0
  .have ey:(y.natAbs:Int)= -y:=by omega
   rw[ex,ey,Int.neg_mul]at h;by_cases hR:0<E9
   .rw[aH (show x<0/\0<E9 from⟨G,hR⟩),aH (show x<0/\0<E9 from⟨G,hR⟩),aH (show (x<0)↔(y<0) by simp[G,hy'])];exact key _ _ (by rw[Int.mul_add,Int.mul_one];omega) be be
   .rw[aF (show ¬(x<0/\0<E9) by omega),aF (show ¬(x<0/\0<E9) by omega),aH (show (x<0)↔(y<0) by simp[G,hy'])];exact key _ _ be h0 Y
  .have ey:(y.natAbs:Int)=y:=by omega
   rw[ex,ey]at h;have Z:¬((x<0)↔(y<0)):=by simp[G,hy']
   by_cases hR:0<E9
   .rw[aH (show x<0/\0<E9 from⟨G,hR⟩),aH (show x<0/\0<E9 from⟨G,hR⟩),aF Z];exact key _ _ (by rw[Int.mul_neg,Int.mul_add,Int.mul_one];omega) be be
   .rw[aF (show ¬(x<0/\0<E9) by omega),aF (show ¬(x<0/\0<E9) by omega),aF Z];exact key _ _ (by rw[Int.mul_neg];omega) h0 Y
 .have ex:(x.natAbs:Int)=x:=by omega
  rw[aF (show ¬(x<0/\0<E9) by omega),aF (show ¬(x<0/\0<E9) by omega)];by_cases hy':y<0
  .have ey:(y.natAbs:Int)= -y:=by omega
   rw[ex,ey,Int.neg_mul]at h;rw[aF (show ¬((x<0)↔(y<0)) by simp[G,hy'])];exact key _ _ (by rw[Int.mul_neg];omega) h0 Y
  .have ey:(y.natAbs:Int)=y:=by omega
   rw[ex,ey]at h;rw[aH (show (x<0)↔(y<0) by simp[G,hy'])];exact key _ _ be h0 Y
theorem gJ(z:Int):(z<0/\z.sign= -1)\/(z=0/\z.sign=0)\/(0<z/\z.sign=1):=by
 rcases Int.lt_trichotomy z 0 with h|h|h
 .exact .inl ⟨h,bj h⟩
 .exact .inr (.inl ⟨h,by rw[h];rfl⟩)
 .exact .inr (.inr ⟨h,bp h⟩)
end Go.Ex
namespace Go.Ex
open Go Go.Sx Go.Proofs
variable{x y:Int}{Q:List Int}{k:Nat}{S:Nat->Prop}{a:Option Addr}{q:Rat}{u:Value}{w:World}
def KN:Value:=.agg #[.bool false,nls]
theorem dK.nil(w:World)(S:Nat->Prop):dK w S (.agg #[.bool false,nls]) 0:=⟨[],⟨_,rfl,dF.nil _ _⟩,fun x h=>by simp at h,rfl⟩
theorem Nm(h:∀c∈Q,0<=c/\c<=65535):0<=dI Q:=by
 induction Q with
 |nil=>exact Int.le_refl _
 |cons c r ih=>
  have Y:=h c aI;have X:=ih fun x G=>h x (aA _ G);rw[dI];omega
theorem zh{n:Int}(h:0<=n)(X:n<4294967296):ln n.natAbs<=1:=gC.2 (by show n.natAbs<4294967296^1;omega)
theorem IB{v:Value}{l:Nat}(U:Old S w)(G:fI w S v k x)(hy:fI w S u l y)(E:k<=1000000)(hl:l<=1000000):
  eC PG Fn.nW #[v,u] w (eI w fun v' I=>(y=0/\v'= .tuple #[KN,KN,iV 9])\/(y≠0/\∃q r,v'= .tuple #[q,r,iV 0]/\dK I (Nf w I) q (x / y)/\dK I (Nf w I) r (x % y))):=by
 have V:=bR w;replace G:=G.cF (S':=Cv S w.heap.size []) fun _ h=>.inl h;replace hy:=hy.cF (S':=Cv S w.heap.size []) fun _ h=>.inl h;obtain⟨b1,a1,n1,c1,rfl⟩:=G.shape;obtain⟨b2,a2,n2,c2,rfl⟩:=hy.shape;refine wk bv ?_;have PS:=hy.ln;refine cD (cE V (pE (iV y.sign)) (fun O J r=>gP (rlo r U) (hy.rel r U).r) ?_);rintro O _ _ _ OK r R V h_ rfl;replace G:=G.cH r U R (mC h_);replace hy:=hy.cH r U R (mC h_);apply bS<;>intro PL
 .have PL:y=0:=by rcases gJ y with h|h|h<;>simp[h]at PL ⊢
  exact rtn V fun GT we re=>.inl ⟨PL,rfl⟩
 have PL:y≠0:=fun e=>by rw[e]at PL;simp at PL
 refine dP [.x 0,.x 3,.p 5,.x 1,.x 2,.x 4,.x 5,.x 6,.x 7] ?_;refine cE V (pR dK ((x.natAbs:Int))) (fun O J r=>xX (rlo r U) (G.rel r U) be) ?_;rintro O _ _ _ OH r R V h_ Z;replace G:=G.cH r U R (mC h_);replace hy:=hy.cH r U R (mC h_);have hsx:=Z.cF (nw r h_);obtain⟨A0,A1,A2,A3,rfl⟩:=hsx.shape;have OZ:=G.ln;refine cE V (fun _ J v I=>∃L,de I (Nf J I) v L/\AP L (2*k) ((x.natAbs:Int))) (fun O J r=>qW (rlo r oF) ((hsx.rel r oF).l (k:=k) (by rw[Int.natAbs_natCast];exact OZ)) be) ?_;rintro O _ _ _ OW r R V h_ ⟨ca,k1,bca⟩;replace G:=G.cH r U R (mC h_);replace hy:=hy.cH r U R (mC h_);have Og:=k1.cF (nw r h_);obtain⟨aca,cca,rfl,lca⟩:=Og.shape;refine cE V (pR dK ((y.natAbs:Int))) (fun O J r=>xX (rlo r U) (hy.rel r U) be) ?_;rintro O _ _ _ Ow r R V h_ Z;replace G:=G.cH r U R (mC h_);replace hy:=hy.cH r U R (mC h_);replace Og:=Og.cH r oF R (mC h_);have OO:=Z.cF (nw r h_);obtain⟨C0,C1,C2,C3,rfl⟩:=OO.shape;generalize hB:(y.natAbs:Int)=B at*
 have l1:=bca.2.1;have hB0:0<B:=by omega
 have lB:ln B.natAbs<=l:=by rw[<-hB,Int.natAbs_natCast];exact PS
 refine⟨(ca.length:Int)-1,wo,Nat×List Int×Int×(Bool×Option Addr×Nat×Nat)×World×Iv,fun z=>⟨[(2,pP 0 0),(3,pP 1 0),(4,pP 2 0),(5,pP 3 0),(6,iZ 0),(7,sV aca ca.length cca),(8,pP 4 0),(9,.o (.w 6 z.2.1.length)),(10,pP 5 0),(11,.o (.v (iV ((z.1:Int)-1))))],[(6,.vec T.int 1 (z.2.1.map (Value.int .i64))),(5,.box T.Int [.v (.bool z.2.2.2.1.1),.v (.slice z.2.2.2.1.2.1 z.2.2.2.1.2.2.1 z.2.2.2.1.2.2.2)]),(4,.box T.Int [.v (.bool C0),.v (.slice C1 C2 C3)]),(3,.box T.Int [.v (.bool false),.v nls]),(2,.box T.Int [.v (.bool false),.v nls]),(1,.box T.Int [.v (.bool b2),.v (.slice a2 n2 c2)]),(0,.box T.Int [.v (.bool b1),.v (.slice a1 n1 c1)])],7,z.2.2.2.2.2,z.2.2.2.2.1⟩,fun z=>z.1,
  fun z=>z.1<=ca.length/\z.2.1.length+z.1=ca.length/\(∀c∈z.2.1,0<=c/\c<=65535)/\dI (ca.drop z.1)=B*dI z.2.1+z.2.2.1/\0<=z.2.2.1/\z.2.2.1<B/\Bq w z.2.2.2.2.1/\fI z.2.2.2.2.1 (Cv S w.heap.size z.2.2.2.2.2) (.agg #[.bool b1,.slice a1 n1 c1]) k x/\fI z.2.2.2.2.1 (Cv S w.heap.size z.2.2.2.2.2) (.agg #[.bool b2,.slice a2 n2 c2]) l y/\de z.2.2.2.2.1 (Cf w z.2.2.2.2.2) (.slice aca ca.length cca) ca/\dK z.2.2.2.2.1 (Cf w z.2.2.2.2.2) (.agg #[.bool C0,.slice C1 C2 C3]) B/\dK z.2.2.2.2.1 (Cf w z.2.2.2.2.2) (.agg #[.bool z.2.2.2.1.1,.slice z.2.2.2.1.2.1 z.2.2.2.1.2.2.1 z.2.2.2.1.2.2.2]) z.2.2.1,?_,?_⟩
 .intro O J r
  exact⟨(ca.length,[],0,(false,none,0,0),J,Ow),⟨lr,bv,bv,by simp[dI],Int.le_refl _,hB0,V.tr r.cN,G.rel r U,hy.rel r U,Og.rel r oF,OO.rel r oF,dK.nil _ _⟩,Sub.nil 9 T.int 1 rfl (by simp[kL,SV.sc,At.sc]) r fun Id r1=>
   sbgn [] r1⟩
 rintro⟨j,Q,E9,⟨br,ar,nr,cr⟩,w1,iv⟩ ⟨hj,hQ,hd,hv,hR0,hR1,V,G,hy,Og,OO,hr⟩;dsimp only at hj hQ hd hv hR0 hR1 V G hy Og OO hr ⊢;apply bS<;>intro Ny
 .obtain⟨i,rfl⟩:∃i,j=i+1:=⟨j-1,by have:(j:Int)-1≥0:=aE Ny;omega⟩
  rw[show ((i+1:Nat):Int)-1=(i:Int) by omega];obtain⟨d,Rg⟩:=gO ca i;have QU:=bca.2.2.1 d (aG Rg);have Ot:=bca.2.2.2 be d (aG Rg);have lR:ln E9.natAbs<=l:=bB (fA be) lB;have lU:ln (65536:Int).natAbs<=1:=by decide
  have m1:=dm E9 65536;have m2:=zh (n:=d) Ot be;have m3:=nU (E9*65536) d;refine dP [.x 0,.x 3,.x 4,.x 5,.x 6,.x 1,.x 2,.x 7,.x 8,.x 9] ?_;obtain⟨ad,Q4,q1,q2⟩:=Og.load Rg;refine⟨ad,Q4,be,iV d,fun O J r=>?_,?_⟩
  .rw[aJ,cO (w:=w1) (I:=J) (by rw[eV];exact rls (S:=FF) r oF q1)];exact q2
  refine cE V (pR dK (65536)) (fun O J r=>mq _ J bi bi) ?_;rintro O Rr v5 SH Qg r R V h_ Z;replace G:=G.cH r U R (mC h_);replace hy:=hy.cH r U R (mC h_);replace Og:=Og.cH r oF R (mC h_);replace OO:=OO.cH r oF R (mC h_);replace hr:=hr.cH r oF R (mC h_);have hu:=Z.cF (nw r h_);obtain⟨E0,E1,E2,E3,rfl⟩:=hu.shape;refine cE V (pR dK (E9*65536)) (fun O J r=>Cg (rlo r oF) ((hr.rel r oF).l (k:=1000001) be) ((hu.rel r oF).l (k:=1000001) be) be be) ?_;rintro O SI v6 SX SY r R V h_ Z;replace G:=G.cH r U R (mC h_);replace hy:=hy.cH r U R (mC h_);replace Og:=Og.cH r oF R (mC h_);replace OO:=OO.cH r oF R (mC h_);have hp:=Z.cF (nw r h_);obtain⟨F0,F1,F2,F3,rfl⟩:=hp.shape;refine cE V (pR dK (d)) (fun O J r=>mq _ J be be) ?_;rintro O wa7 v7 wb7 Ul r R V h_ Z;replace G:=G.cH r U R (mC h_);replace hy:=hy.cH r U R (mC h_);replace Og:=Og.cH r oF R (mC h_);replace OO:=OO.cH r oF R (mC h_);replace hp:=hp.cH r oF R (mC h_);have hdd:=Z.cF (nw r h_);obtain⟨G0,G1,G2,G3,rfl⟩:=hdd.shape;refine cE V (pR dK (E9*65536+d)) (fun O J r=>Fq (rlo r oF) ((hp.rel r oF).l (k:=1000002) be) ((hdd.rel r oF).l (k:=1000002) be) be be) ?_;rintro O UG v8 Uj Sj r R V h_ Z;replace G:=G.cH r U R (mC h_);replace hy:=hy.cH r U R (mC h_);replace Og:=Og.cH r oF R (mC h_);replace OO:=OO.cH r oF R (mC h_);have hr:=Z.cF (nw r h_);obtain⟨J0,J1,J2,J3,rfl⟩:=hr.shape;generalize QZ:E9*65536+d=R2 at*
  have hR20:0<=R2:=by omega
  have hR21:R2<65536*B:=by omega
  refine⟨Nat×Nat×Nat×World×Iv,fun z=>⟨[(2,pP 0 0),(3,pP 1 0),(4,pP 2 0),(5,pP 3 0),(6,iZ 0),(7,sV aca ca.length cca),(8,pP 4 0),(9,.o (.w 6 Q.length)),(10,pP 5 0),(11,.o (.v (iV ((i:Int))))),(12,iN z.1),(13,iN z.2.2.1)],[(6,.vec T.int 1 (Q.map (Value.int .i64))),(5,.box T.Int [.v (.bool J0),.v (.slice J1 J2 J3)]),(4,.box T.Int [.v (.bool C0),.v (.slice C1 C2 C3)]),(3,.box T.Int [.v (.bool false),.v nls]),(2,.box T.Int [.v (.bool false),.v nls]),(1,.box T.Int [.v (.bool b2),.v (.slice a2 n2 c2)]),(0,.box T.Int [.v (.bool b1),.v (.slice a1 n1 c1)])],7,z.2.2.2.2,z.2.2.2.1⟩,fun z=>z.2.1,
   fun z=>z.2.2.1=2^z.2.1 / 2/\z.1+2^z.2.1<=65536/\((z.1:Nat):Int)*B<=R2/\R2<((z.1+2^z.2.1:Nat):Int)*B/\Bq w z.2.2.2.1/\fI z.2.2.2.1 (Cv S w.heap.size z.2.2.2.2) (.agg #[.bool b1,.slice a1 n1 c1]) k x/\fI z.2.2.2.1 (Cv S w.heap.size z.2.2.2.2) (.agg #[.bool b2,.slice a2 n2 c2]) l y/\de z.2.2.2.1 (Cf w z.2.2.2.2) (.slice aca ca.length cca) ca/\dK z.2.2.2.1 (Cf w z.2.2.2.2) (.agg #[.bool C0,.slice C1 C2 C3]) B/\dK z.2.2.2.1 (Cf w z.2.2.2.2) (.agg #[.bool J0,.slice J1 J2 J3]) R2,?_,?_⟩
  .intro O J r
   exact⟨(0,16,32768,J,Sj),⟨by show 32768=2^16 / 2;decide,by show 0+2^16<=65536;decide,by dsimp only;omega,by dsimp only;rw[show ((0+2^16:Nat):Int)=65536 from rfl];exact hR21,V.tr r.cN,G.rel r U,hy.rel r U,Og.rel r oF,OO.rel r oF,hr.rel r oF⟩,
    sbgn [] r⟩
  rintro⟨n,e,bit,w5,iv⟩ ⟨Ub,hn1,Qx,UO,V,G,hy,Og,OO,hr⟩;dsimp only at Ub hn1 Qx UO V G hy Og OO hr ⊢;apply bS<;>intro TF
  .have TF:0<2^e / 2:=by have:((bit:Nat):Int)>0:=aE TF;omega
   obtain⟨f,rfl⟩:∃f,e=f+1:=by
    cases e with
    |zero=>exact absurd TF bi
    |succ f=>exact⟨f,rfl⟩
   have e1:2^(f+1)=2*2^f:=by rw[Nat.pow_succ];omega
   have e2:2^(f+1) / 2=2^f:=by omega
   obtain rfl:bit=2^f:=by omega
   rw[e1]at hn1 UO;have hp0:=bu f;generalize hp:2^f=p at*
   have m4:=zh (n:=((n+p:Nat):Int)) be be;have m5:=dm B ((n+p:Nat):Int);have m6:ln R2.natAbs<=l+1:=by
    refine bB (fA (b:=((65536:Int)*B).natAbs) be) ?_;have:=dm 65536 B;omega
   refine dP [.x 0,.x 1,.x 2,.x 3,.x 6,.x 4,.x 5,.x 7,.x 8] ?_;refine⟨((n+p:Nat):Int),wo,?_⟩;refine cE V (pR dK (((n+p:Nat):Int))) (fun O J r=>mq _ J be be) ?_;rintro O RV v9 R8 Sh r R V h_ Z;replace G:=G.cH r U R (mC h_);replace hy:=hy.cH r U R (mC h_);replace Og:=Og.cH r oF R (mC h_);replace OO:=OO.cH r oF R (mC h_);replace hr:=hr.cH r oF R (mC h_);have hu:=Z.cF (nw r h_);obtain⟨K0,K1,K2,K3,rfl⟩:=hu.shape;refine cE V (pR dK (B*((n+p:Nat):Int))) (fun O J r=>Cg (rlo r oF) ((OO.rel r oF).l (k:=1000001) be) ((hu.rel r oF).l (k:=1000001) be) be be) ?_;rintro O wa10 v10 wb10 Q6 r R V h_ Z;replace G:=G.cH r U R (mC h_);replace hy:=hy.cH r U R (mC h_);replace Og:=Og.cH r oF R (mC h_);replace OO:=OO.cH r oF R (mC h_);replace hr:=hr.cH r oF R (mC h_);have Pk:=Z.cF (nw r h_);obtain⟨N0,N1,N2,N3,rfl⟩:=Pk.shape;refine cE V (pE (iV (B*((n+p:Nat):Int)-R2).sign)) (fun O J r=>Hz (rlo r oF) ((Pk.rel r oF).l (k:=1000001) be) ((hr.rel r oF).l (k:=1000001) be) be be) ?_;rintro O QK v11 QV PQ r R V h_ rfl;replace G:=G.cH r U R (mC h_);replace hy:=hy.cH r U R (mC h_);replace Og:=Og.cH r oF R (mC h_);replace OO:=OO.cH r oF R (mC h_);replace hr:=hr.cH r oF R (mC h_);have hs:=gJ (B*((n+p:Nat):Int)-R2);apply bS<;>intro hle
   .have hle:=aE hle;have To:((n+p:Nat):Int)*B<=R2:=by rw[Int.mul_comm];omega
    refine⟨((n+p:Nat):Int),wo,bi,((2^f / 2:Nat):Int),by rw[hp,show((p:Nat):Int).tdiv 2=((p / 2:Nat):Int)from rfl,wrap64]<;>omega,?_⟩;intro IR w3 A;exact⟨(n+p,f,2^f / 2,w3,_),⟨rfl,by dsimp only;omega,To,by dsimp only;rw[hp,show n+p+p=n+2*p by omega];exact UO,V.tr A.cN,G.rel A U,hy.rel A U,Og.rel A oF,OO.rel A oF,hr.rel A oF⟩,sbgn [] A,by dsimp only;omega⟩
   have hle:=aC hle;have To:R2<((n+p:Nat):Int)*B:=by rw[Int.mul_comm];omega
   refine⟨bi,((2^f / 2:Nat):Int),by rw[hp,show((p:Nat):Int).tdiv 2=((p / 2:Nat):Int)from rfl,wrap64]<;>omega,?_⟩;intro IR w3 A;exact⟨(n,f,2^f / 2,w3,_),⟨rfl,by dsimp only;omega,Qx,by dsimp only;rw[hp];exact To,V.tr A.cN,G.rel A U,hy.rel A U,Og.rel A oF,OO.rel A oF,hr.rel A oF⟩,sbgn [] A,by dsimp only;omega⟩
  have TF:¬0<2^e / 2:=by have:¬((bit:Nat):Int)>0:=aC TF;omega
  obtain rfl:e=0:=by
   cases e with
   |zero=>rfl
   |succ f=>exact absurd (show 0<2^(f+1) / 2 by rw[Nat.pow_succ];have:=bu f;omega) TF
  rw[show n+2^0=n+1 from rfl]at hn1 UO;rw[Int.natCast_add,Int.add_mul]at UO;rw[Int.mul_comm]at Qx;rw[Int.mul_comm]at UO;have m4:=zh (n:=((n:Nat):Int)) be be;have m5:=dm B ((n:Nat):Int);have m6:ln R2.natAbs<=l+1:=by
   refine bB (fA (b:=((65536:Int)*B).natAbs) be) ?_;have:=dm 65536 B;omega
  refine dP (idO 7) ?_;refine cE V (pR dK (((n:Nat):Int))) (fun O J r=>mq _ J be be) ?_;rintro O RV v9 R8 Sh r R V h_ Z;replace G:=G.cH r U R (mC h_);replace hy:=hy.cH r U R (mC h_);replace Og:=Og.cH r oF R (mC h_);replace OO:=OO.cH r oF R (mC h_);replace hr:=hr.cH r oF R (mC h_);have hu:=Z.cF (nw r h_);obtain⟨K0,K1,K2,K3,rfl⟩:=hu.shape;refine cE V (pR dK (B*((n:Nat):Int))) (fun O J r=>Cg (rlo r oF) ((OO.rel r oF).l (k:=1000001) be) ((hu.rel r oF).l (k:=1000001) be) be be) ?_;rintro O wa10 v10 wb10 Q6 r R V h_ Z;replace G:=G.cH r U R (mC h_);replace hy:=hy.cH r U R (mC h_);replace Og:=Og.cH r oF R (mC h_);replace OO:=OO.cH r oF R (mC h_);replace hr:=hr.cH r oF R (mC h_);have Pk:=Z.cF (nw r h_);obtain⟨N0,N1,N2,N3,rfl⟩:=Pk.shape;refine cE V (pR dK (R2-B*((n:Nat):Int))) (fun O J r=>Ce (rlo r oF) ((hr.rel r oF).l (k:=1000002) be) ((Pk.rel r oF).l (k:=1000002) be) be be) ?_;rintro O QK v11 QV PQ r R V h_ Z;replace G:=G.cH r U R (mC h_);replace hy:=hy.cH r U R (mC h_);replace Og:=Og.cH r oF R (mC h_);replace OO:=OO.cH r oF R (mC h_);have hr3:=Z.cF (nw r h_);obtain⟨O0,O1,O2,O3,rfl⟩:=hr3.shape;generalize hR3:R2-B*((n:Nat):Int)=R3 at*
  refine .inl ?_;refine⟨by rw[aM,aw],fun u hu=>by obtain⟨_,_,rfl⟩:=aV.1 hu;rfl,rfl,be,mx,(i:Int)-1,wo,?_⟩;intro IR w3 A;have Qq:dI (ca.drop i)=B*dI (((n:Nat):Int)::Q)+R3:=by
   rw[Dc Rg,dI];exact HR hv (by rw[<-hR3,<-QZ];omega)
  exact⟨(i,((n:Nat):Int)::Q,R3,(O0,O1,O2,O3),w3,_),⟨by dsimp only;omega,by dsimp only;rw[List.length_cons];omega,fun c hc=>by
    rcases List.mem_cons.1 hc with rfl|hc
    .omega
    .exact hd c hc,Qq,by dsimp only;omega,by dsimp only;omega,V.tr A.cN,G.rel A U,hy.rel A U,Og.rel A oF,OO.rel A oF,hr3.rel A oF⟩,
   sbgn [(6,8)] A (hE:=⟨rfl,rfl,rfl,rfl,rfl,rfl,rfl,by dsimp only;rw[show (((n:Nat):Int)::Q).length=1+Q.length by rw[List.length_cons,Nat.add_comm]];rfl,rfl,rfl,trivial⟩),by dsimp only;omega⟩
 obtain rfl:j=0:=by have:¬(j:Int)-1≥0:=aC Ny;omega
 rw[List.drop_zero,bca.1]at hv;rw[<-hB]at hv hR1;have key:=I0 PL hv hR0 hR1;rw[hB]at key hv hR1;have lq:ln (dI Q).natAbs<=k+1:=by
  have Y:=Nm hd;have X:1*dI Q<=B*dI Q:=Int.mul_le_mul_of_nonneg_right be Y;exact bB (fA (b:=x.natAbs) be) be
 have lR:ln E9.natAbs<=l:=bB (fA be) lB;have sx:=gJ x;have sy:=gJ y;have sr:=gJ E9;refine cD (cE V (pR dK (dI Q)) (fun O J r=>mQ r rfl rfl be (fun c hc=>by have:=hd c hc;omega) rfl) ?_);rintro O _ _ _ Qg r R V h_ Z;replace G:=G.cH r U R (mC h_);replace hy:=hy.cH r U R (mC h_);replace OO:=OO.cH r oF R (mC h_);replace hr:=hr.cH r oF R (mC h_);have hq:=Z.cF (nw r h_);obtain⟨E0,E1,E2,E3,rfl⟩:=hq.shape;refine cD (cE V (pE (iV x.sign)) (fun O J r=>gP (rlo r U) (G.rel r U).r) ?_);rintro O _ _ _ SY r R V h_ rfl;replace G:=G.cH r U R (mC h_);replace hy:=hy.cH r U R (mC h_);replace OO:=OO.cH r oF R (mC h_);replace hr:=hr.cH r oF R (mC h_);replace hq:=hq.cH r oF R (mC h_);apply bS<;>intro hxs
 .have hxs:=aE hxs;refine cD (cE V (pE (iV E9.sign)) (fun O J r=>gP (rlo r oF) (hr.rel r oF).r) ?_);rintro O wa7 v7 wb7 Ul r R V h_ rfl;replace G:=G.cH r U R (mC h_);replace hy:=hy.cH r U R (mC h_);replace OO:=OO.cH r oF R (mC h_);replace hr:=hr.cH r oF R (mC h_);replace hq:=hq.cH r oF R (mC h_);apply bS<;>intro Ux
  .have Ux:=aE Ux;rw[aH (show x<0/\0<E9 by omega),aH (show x<0/\0<E9 by omega)]at key;have m7:=nU (dI Q) 1;have m8:ln (1:Int).natAbs<=1:=by decide
   have m9:ln (B-E9).natAbs<=l:=bB (fA be) lB;refine dP [.x 0,.x 3,.x 4,.x 1,.x 2,.x 5,.x 6,.x 7] ?_;refine cE V (pR dK (1)) (fun O J r=>mq _ J be be) ?_;rintro O UG v8 Uj Sj r R V h_ Z;replace G:=G.cH r U R (mC h_);replace hy:=hy.cH r U R (mC h_);replace OO:=OO.cH r oF R (mC h_);replace hr:=hr.cH r oF R (mC h_);replace hq:=hq.cH r oF R (mC h_);have hu:=Z.cF (nw r h_);obtain⟨J0,J1,J2,J3,rfl⟩:=hu.shape;refine cE V (pR dK (dI Q+1)) (fun O J r=>Fq (rlo r oF) ((hq.rel r oF).l (k:=1000003) be) ((hu.rel r oF).l (k:=1000003) be) be be) ?_;rintro O RV v9 R8 Sh r R V h_ Z;replace G:=G.cH r U R (mC h_);replace hy:=hy.cH r U R (mC h_);replace OO:=OO.cH r oF R (mC h_);replace hr:=hr.cH r oF R (mC h_);have Pq:=Z.cF (nw r h_);obtain⟨K0,K1,K2,K3,rfl⟩:=Pq.shape;refine cE V (pR dK (B-E9)) (fun O J r=>Ce (rlo r oF) ((OO.rel r oF).l (k:=1000003) be) ((hr.rel r oF).l (k:=1000003) be) be be) ?_;rintro O wa10 v10 wb10 Q6 r R V h_ Z;replace G:=G.cH r U R (mC h_);replace hy:=hy.cH r U R (mC h_);replace Pq:=Pq.cH r oF R (mC h_);have R1:=Z.cF (nw r h_);obtain⟨N0,N1,N2,N3,rfl⟩:=R1.shape;refine dP [.x 0,.x 3,.x 1,.x 2,.x 4,.x 5,.x 6] ?_;refine cE V (pE (iV x.sign)) (fun O J r=>gP (rlo r U) (G.rel r U).r) ?_;rintro O _ _ _ PQ r R V h_ rfl;replace hy:=hy.cH r U R (mC h_);replace Pq:=Pq.cH r oF R (mC h_);replace R1:=R1.cH r oF R (mC h_);refine cE V (pE (iV y.sign)) (fun O J r=>gP (rlo r U) (hy.rel r U).r) ?_;rintro O _ _ _ RM r R V h_ rfl;replace Pq:=Pq.cH r oF R (mC h_);replace R1:=R1.cH r oF R (mC h_);apply bS<;>intro OB
   .have Z:¬((x<0)↔(y<0)):=fun e=>by
     have e2:decide (x.sign<0)=decide (y.sign<0):=decide_eq_decide.2 be;rw[e2]at OB;simp at OB
    rw[aF Z]at key;refine cD (cE V (pR dK (-(dI Q+1))) (fun O J r=>mr (rlo r oF) ((Pq.rel r oF).l (k:=1000003) be) be) ?_);rintro O _ _ _ Tm r R V h_ Z;replace R1:=R1.cH r oF R (mC h_);have Ro:=Z.cF (nw r h_);obtain⟨P0,P1,P2,P3,rfl⟩:=Ro.shape;refine iK hτ pB (.two 0 (.two 1 (.one 2 (.one 3 (.one 4 .nil))) 2 (.one 1 (.one 3 (.one 4 .nil)))) 1 (.one 0 (.one 2 (.one 3 (.one 4 .nil))))) d4 ?_;refine⟨?_,?_⟩
    .refine⟨?_,?_⟩
     .exact rtn V fun GT we re=>.inr ⟨PL,_,_,rfl,key.1▸Ro.out re oF,key.2▸R1.out re oF⟩
     .exact rtn V fun GT we re=>.inr ⟨PL,_,_,rfl,key.1▸Ro.out re oF,key.2▸R1.out re oF⟩
    .exact rtn V fun GT we re=>.inr ⟨PL,_,_,rfl,key.1▸Ro.out re oF,key.2▸R1.out re oF⟩
   have Z:(x<0)↔(y<0):=by
    have e2:decide (x.sign<0)=decide (y.sign<0):=by simpa using OB
    have:=decide_eq_decide.1 e2;omega
   rw[aH Z]at key;refine iK hτ pB (.two 0 (.two 1 (.one 2 (.one 3 (.one 4 .nil))) 2 (.one 1 (.one 3 (.one 4 .nil)))) 1 (.one 0 (.one 2 (.one 3 (.one 4 .nil))))) d4 ?_;refine⟨?_,?_⟩
   .refine⟨?_,?_⟩
    .exact rtn V fun GT we re=>.inr ⟨PL,_,_,rfl,key.1▸Pq.out re oF,key.2▸R1.out re oF⟩
    .exact rtn V fun GT we re=>.inr ⟨PL,_,_,rfl,key.1▸Pq.out re oF,key.2▸R1.out re oF⟩
   .exact rtn V fun GT we re=>.inr ⟨PL,_,_,rfl,key.1▸Pq.out re oF,key.2▸R1.out re oF⟩
  have Ux:=aC Ux;rw[aF (show ¬(x<0/\0<E9) by omega),aF (show ¬(x<0/\0<E9) by omega)]at key;refine dP [.x 0,.x 3,.x 1,.x 2,.x 4,.x 5,.x 6] ?_;refine cE V (pE (iV x.sign)) (fun O J r=>gP (rlo r U) (G.rel r U).r) ?_;rintro O UG v8 Uj Sj r R V h_ rfl;replace hy:=hy.cH r U R (mC h_);replace OO:=OO.cH r oF R (mC h_);replace hr:=hr.cH r oF R (mC h_);replace hq:=hq.cH r oF R (mC h_);refine cE V (pE (iV y.sign)) (fun O J r=>gP (rlo r U) (hy.rel r U).r) ?_;rintro O RV v9 R8 Sh r R V h_ rfl;replace OO:=OO.cH r oF R (mC h_);replace hr:=hr.cH r oF R (mC h_);replace hq:=hq.cH r oF R (mC h_);apply bS<;>intro OB
  .have Z:¬((x<0)↔(y<0)):=fun e=>by
    have e2:decide (x.sign<0)=decide (y.sign<0):=decide_eq_decide.2 be;rw[e2]at OB;simp at OB
   rw[aF Z]at key;refine cD (cE V (pR dK (-(dI Q))) (fun O J r=>mr (rlo r oF) ((hq.rel r oF).l (k:=1000003) be) be) ?_);rintro O _ _ _ Q6 r R V h_ Z;replace OO:=OO.cH r oF R (mC h_);replace hr:=hr.cH r oF R (mC h_);have Ro:=Z.cF (nw r h_);obtain⟨N0,N1,N2,N3,rfl⟩:=Ro.shape;refine iK hτ pB (.two 0 (.two 1 (.one 2 (.one 3 (.one 4 .nil))) 2 (.one 1 (.one 3 (.one 4 .nil)))) 1 (.one 0 (.one 2 (.one 3 (.one 4 .nil))))) d4 ?_;refine⟨?_,?_⟩
   .refine⟨?_,?_⟩
    .exact rtn V fun GT we re=>.inr ⟨PL,_,_,rfl,key.1▸Ro.out re oF,key.2▸hr.out re oF⟩
    .exact rtn V fun GT we re=>.inr ⟨PL,_,_,rfl,key.1▸Ro.out re oF,key.2▸hr.out re oF⟩
   .exact rtn V fun GT we re=>.inr ⟨PL,_,_,rfl,key.1▸Ro.out re oF,key.2▸hr.out re oF⟩
  have Z:(x<0)↔(y<0):=by
   have e2:decide (x.sign<0)=decide (y.sign<0):=by simpa using OB
   have:=decide_eq_decide.1 e2;omega
  rw[aH Z]at key;refine iK hτ pB (.two 0 (.two 1 (.one 2 (.one 3 (.one 4 .nil))) 2 (.one 1 (.one 3 (.one 4 .nil)))) 1 (.one 0 (.one 2 (.one 3 (.one 4 .nil))))) d4 ?_;refine⟨?_,?_⟩
  .refine⟨?_,?_⟩
   .exact rtn V fun GT we re=>.inr ⟨PL,_,_,rfl,key.1▸hq.out re oF,key.2▸hr.out re oF⟩
   .exact rtn V fun GT we re=>.inr ⟨PL,_,_,rfl,key.1▸hq.out re oF,key.2▸hr.out re oF⟩
  .exact rtn V fun GT we re=>.inr ⟨PL,_,_,rfl,key.1▸hq.out re oF,key.2▸hr.out re oF⟩
 have hxs:=aC hxs;rw[aF (show ¬(x<0/\0<E9) by omega),aF (show ¬(x<0/\0<E9) by omega)]at key;refine dP [.x 0,.x 3,.x 1,.x 2,.x 4,.x 5,.x 6] ?_;refine cE V (pE (iV x.sign)) (fun O J r=>gP (rlo r U) (G.rel r U).r) ?_;rintro O _ _ _ Ul r R V h_ rfl;replace hy:=hy.cH r U R (mC h_);replace OO:=OO.cH r oF R (mC h_);replace hr:=hr.cH r oF R (mC h_);replace hq:=hq.cH r oF R (mC h_);refine cE V (pE (iV y.sign)) (fun O J r=>gP (rlo r U) (hy.rel r U).r) ?_;rintro O _ _ _ Sj r R V h_ rfl;replace OO:=OO.cH r oF R (mC h_);replace hr:=hr.cH r oF R (mC h_);replace hq:=hq.cH r oF R (mC h_);apply bS<;>intro OB
 .have Z:¬((x<0)↔(y<0)):=fun e=>by
   have e2:decide (x.sign<0)=decide (y.sign<0):=decide_eq_decide.2 be;rw[e2]at OB;simp at OB
  rw[aF Z]at key;refine cD (cE V (pR dK (-(dI Q))) (fun O J r=>mr (rlo r oF) ((hq.rel r oF).l (k:=1000003) be) be) ?_);rintro O _ _ _ Sh r R V h_ Z;replace OO:=OO.cH r oF R (mC h_);replace hr:=hr.cH r oF R (mC h_);have Ro:=Z.cF (nw r h_);obtain⟨K0,K1,K2,K3,rfl⟩:=Ro.shape;refine iK hτ pB (.two 0 (.two 1 (.one 2 (.one 3 (.one 4 .nil))) 2 (.one 1 (.one 3 (.one 4 .nil)))) 1 (.one 0 (.one 2 (.one 3 (.one 4 .nil))))) d4 ?_;refine⟨?_,?_⟩
  .refine⟨?_,?_⟩
   .exact rtn V fun GT we re=>.inr ⟨PL,_,_,rfl,key.1▸Ro.out re oF,key.2▸hr.out re oF⟩
   .exact rtn V fun GT we re=>.inr ⟨PL,_,_,rfl,key.1▸Ro.out re oF,key.2▸hr.out re oF⟩
  .exact rtn V fun GT we re=>.inr ⟨PL,_,_,rfl,key.1▸Ro.out re oF,key.2▸hr.out re oF⟩
 have Z:(x<0)↔(y<0):=by
  have e2:decide (x.sign<0)=decide (y.sign<0):=by simpa using OB
  have:=decide_eq_decide.1 e2;omega
 rw[aH Z]at key;refine iK hτ pB (.two 0 (.two 1 (.one 2 (.one 3 (.one 4 .nil))) 2 (.one 1 (.one 3 (.one 4 .nil)))) 1 (.one 0 (.one 2 (.one 3 (.one 4 .nil))))) d4 ?_;refine⟨?_,?_⟩
 .refine⟨?_,?_⟩
  .exact rtn V fun GT we re=>.inr ⟨PL,_,_,rfl,key.1▸hq.out re oF,key.2▸hr.out re oF⟩
  .exact rtn V fun GT we re=>.inr ⟨PL,_,_,rfl,key.1▸hq.out re oF,key.2▸hr.out re oF⟩
 .exact rtn V fun GT we re=>.inr ⟨PL,_,_,rfl,key.1▸hq.out re oF,key.2▸hr.out re oF⟩
theorem ij{v:Value}{l:Nat}(U:Old S w)(G:fI w S v k x)(hy:fI w S u l y)(E:k<=1000000)(hl:l<=1000000)(h0:y≠0):
  eC PG Fn.nW #[v,u] w (eI w fun v' I=>∃q r,v'= .tuple #[q,r,iV 0]/\dK I (Nf w I) q (x / y)/\dK I (Nf w I) r (x % y)):=
 (IB U G hy E hl).mono fun _ _ ⟨v2,e1,e2,e3⟩=>⟨v2,e1,e2,e3.elim (fun h=>absurd h.1 h0) fun h=>h.2⟩
theorem Mf(x:Nat){y:Nat}(h:y≠0):ln (Nat.gcd x y)<=ln y:=fA (Nat.le_of_dvd be (Nat.gcd_dvd_right x y))
theorem Ft{a b:Int}(hb:b≠0):a / (b.sign*(Nat.gcd a.natAbs b.natAbs:Nat))=(Rat.divInt a b).num/\b / (b.sign*(Nat.gcd a.natAbs b.natAbs:Nat))=((Rat.divInt a b).den:Int):=by
 obtain⟨Y,X⟩:=B1 (a:=a) hb;have d1:((Nat.gcd a.natAbs b.natAbs:Nat):Int) ∣ a:=Int.ofNat_dvd_left.2 (Nat.gcd_dvd_left _ _);have d2:((Nat.gcd a.natAbs b.natAbs:Nat):Int) ∣ b:=Int.ofNat_dvd_left.2 (Nat.gcd_dvd_right _ _);have sg:b.sign=1\/b.sign= -1:=by rcases gJ b with h|h|h<;>omega
 have key:∀c:Int,((Nat.gcd a.natAbs b.natAbs:Nat):Int) ∣ c->b.sign*(Nat.gcd a.natAbs b.natAbs:Nat) ∣ c:=fun c hc=>by
  rcases sg with h|h<;>rw[h]
  .rw[Int.one_mul];exact hc
  .rw[Int.neg_one_mul];exact Int.neg_dvd.2 hc
 rw[<-Y,<-X,Int.tdiv_eq_ediv_of_dvd (key a d1),Int.tdiv_eq_ediv_of_dvd (key b d2)];exact⟨rfl,rfl⟩
theorem B5{v:Value}{l:Nat}(U:Old S w)(G:fI w S v k x)(hy:fI w S u l y)(E:k<=1000000)(hl:l<=1000000):
  eC PG Fn.tJ #[v,u] w (eI w fun v' I=>dK I (Nf w I) v' ((Nat.gcd x.natAbs y.natAbs:Nat):Int)):=by
 have V:=bR w;replace G:=G.cF (S':=Cv S w.heap.size []) fun _ h=>.inl h;replace hy:=hy.cF (S':=Cv S w.heap.size []) fun _ h=>.inl h;obtain⟨b1,a1,n1,c1,rfl⟩:=G.shape;obtain⟨b2,a2,n2,c2,rfl⟩:=hy.shape;refine wj bv ?_;have OZ:=G.ln;have PS:=hy.ln;refine dP [.x 0,.x 2,.x 1,.x 3,.x 4,.x 5] ?_;refine cE V (pR dK ((x.natAbs:Int))) (fun O J r=>xX (rlo r U) (G.rel r U) be) ?_;rintro O _ _ _ OK r R V h_ Z;clear G;replace hy:=hy.cH r U R (mC h_);have ha:=Z.cF (nw r h_);clear r;obtain⟨A0,A1,A2,A3,rfl⟩:=ha.shape;refine cE V (pR dK ((y.natAbs:Int))) (fun O J r=>xX (rlo r U) (hy.rel r U) be) ?_;rintro O _ _ _ OH r R V h_ Z;clear hy;replace ha:=ha.cH r oF R (mC h_);have hc:=Z.cF (nw r h_);clear r;obtain⟨C0,C1,C2,C3,rfl⟩:=hc.shape
 refine⟨Nat×Nat×(Bool×Option Addr×Nat×Nat)×(Bool×Option Addr×Nat×Nat)×World×Iv,fun z=>⟨[(2,pP 0 0),(3,pP 1 0),(4,pP 2 0)],[(2,.box T.Int [.v (.bool false),.v nls]),(1,.box T.Int [.v (.bool z.2.2.2.1.1),.v (.slice z.2.2.2.1.2.1 z.2.2.2.1.2.2.1 z.2.2.2.1.2.2.2)]),(0,.box T.Int [.v (.bool z.2.2.1.1),.v (.slice z.2.2.1.2.1 z.2.2.1.2.2.1 z.2.2.1.2.2.2)])],3,z.2.2.2.2.2,z.2.2.2.2.1⟩,fun z=>z.2.1,
  fun z=>Nat.gcd z.1 z.2.1=Nat.gcd x.natAbs y.natAbs/\ln z.1<=1000000/\ln z.2.1<=1000000/\Bq w z.2.2.2.2.1/\dK z.2.2.2.2.1 (Cf w z.2.2.2.2.2) (.agg #[.bool z.2.2.1.1,.slice z.2.2.1.2.1 z.2.2.1.2.2.1 z.2.2.1.2.2.2]) (z.1:Int)/\dK z.2.2.2.2.1 (Cf w z.2.2.2.2.2) (.agg #[.bool z.2.2.2.1.1,.slice z.2.2.2.1.2.1 z.2.2.2.1.2.2.1 z.2.2.2.1.2.2.2]) (z.2.1:Int),?_,?_⟩
 .intro O J r
  exact⟨(x.natAbs,y.natAbs,(A0,A1,A2,A3),(C0,C1,C2,C3),J,OH),⟨rfl,by dsimp only;omega,by dsimp only;omega,V.tr r.cN,ha.rel r oF,hc.rel r oF⟩,
   sbgn [] r⟩
 clear V ha hc;rintro⟨a,b,⟨ba,aa,na,ca⟩,⟨bb,ab,nb,cb⟩,w1,iv⟩ ⟨F,Q9,PT,V,ha,hc⟩;dsimp only at F Q9 PT V ha hc ⊢;refine cD (cE V (pE (iV (b:Int).sign)) (fun O J r=>gP (rlo r oF) (hc.rel r oF).r) ?_);rintro O _ _ _ OW r R V h_ rfl;replace ha:=ha.cH r oF R (mC h_);replace hc:=hc.cH r oF R (mC h_);clear r;have sb:=gJ (b:Int);apply bS<;>intro h
 .have h:=aE h;have hb0:0<b:=by omega
  have hm:=bz a hb0;have Ou:ln (a % b)<=1000000:=bB (fA be) PT;refine cD (cE V (fun _ J v I=>∃q r,v= .tuple #[q,r,iV 0]/\dK I (Nf J I) q ((a:Int) / b)/\dK I (Nf J I) r ((a:Int) % b)) (fun O J r=>ij (rlo r oF) ((ha.rel r oF).l (k:=1000000) Q9) ((hc.rel r oF).l (k:=1000000) PT) be be be) ?_);rintro O _ _ _ Ow r R V h_ ⟨q,rr,rfl,k1,k2⟩;clear ha;replace hc:=hc.cH r oF R (mC h_);have hq:=k1.cF (nw r h_);have hr:=k2.cF (nw r h_);clear r;obtain⟨s4_0a,s4_0b,s4_0c,s4_0d,rfl⟩:=hq.shape;obtain⟨s4_1a,s4_1b,s4_1c,s4_1d,rfl⟩:=hr.shape;clear k1 k2 hq;refine iK hτ pB (.two 0 (.two 1 (.one 2 (.one 3 .nil)) 2 (.one 1 (.one 3 .nil))) 1 (.one 0 (.one 2 (.one 3 .nil)))) d4 ?_;refine⟨?_,?_⟩
  .conv=>whnf
   refine⟨?_,?_⟩
   .conv=>whnf
    intro IR w3 A;exact⟨(b,a % b,(bb,ab,nb,cb),(s4_1a,s4_1b,s4_1c,s4_1d),w3,_),⟨by dsimp only;rw[<-F,Nat.gcd_comm a b,Nat.gcd_rec b a,Nat.gcd_comm],PT,Ou,V.tr A.cN,hc.rel A oF,hr.rel A oF⟩,sbgn [] A,hm⟩
   .conv=>whnf
    intro IR w3 A;exact⟨(b,a % b,(bb,ab,nb,cb),(s4_1a,s4_1b,s4_1c,s4_1d),w3,_),⟨by dsimp only;rw[<-F,Nat.gcd_comm a b,Nat.gcd_rec b a,Nat.gcd_comm],PT,Ou,V.tr A.cN,hc.rel A oF,hr.rel A oF⟩,sbgn [] A,hm⟩
  .conv=>whnf
   intro IR w3 A;exact⟨(b,a % b,(bb,ab,nb,cb),(s4_1a,s4_1b,s4_1c,s4_1d),w3,_),⟨by dsimp only;rw[<-F,Nat.gcd_comm a b,Nat.gcd_rec b a,Nat.gcd_comm],PT,Ou,V.tr A.cN,hc.rel A oF,hr.rel A oF⟩,sbgn [] A,hm⟩
 have h:=aC h;obtain rfl:b=0:=by omega
 rw[Nat.gcd_zero_right]at F;subst F;clear hc;exact rtn V fun GT we re=>ha.out re oF
theorem LU{v:Value}{l:Nat}(U:Old S w)(G:fI w S v k x)(hy:fI w S u l y)(E:k<=1000000)(hl:l<=1000000)(PL:y≠0):
  eC PG Fn.rY #[v,u] w (eI w fun v' I=>cY I (Nf w I) v' (Rat.divInt x y)):=by
 have V:=bR w;replace G:=G.cF (S':=Cv S w.heap.size []) fun _ h=>.inl h;replace hy:=hy.cF (S':=Cv S w.heap.size []) fun _ h=>.inl h;obtain⟨b1,a1,n1,c1,rfl⟩:=G.shape;obtain⟨b2,a2,n2,c2,rfl⟩:=hy.shape;refine qu bv ?_;have OZ:=G.ln;have PS:=hy.ln;have hlg:=Mf x.natAbs (y:=y.natAbs) be;obtain⟨Z,hd⟩:=Ft (a:=x) PL;have sy:=gJ y
 refine cD (cE V (fun _ J v I=>∃n p,v= .tuple #[iV n,.bool p]/\(p=true->n=x/\x.natAbs<1073741824)) (fun O J r=>(tw (rlo r U) (G.rel r U).r).mono fun e I ⟨v2,e1,e2,e3⟩=>⟨v2,e1,e2,by
   rw[e3,jz];split
   .exact⟨_,_,rfl,fun _=>⟨rfl,‹_›⟩⟩
   .exact⟨_,_,rfl,fun h=>by cases h⟩⟩) ?_)
 rintro O _ _ _ OK r R V h_ ⟨nx,px,rfl,qx⟩;replace G:=G.cH r U R (mC h_);replace hy:=hy.cH r U R (mC h_);clear r
 refine cD (cE V (fun _ J v I=>∃n p,v= .tuple #[iV n,.bool p]/\(p=true->n=y/\y.natAbs<1073741824)) (fun O J r=>(tw (rlo r U) (hy.rel r U).r).mono fun e I ⟨v2,e1,e2,e3⟩=>⟨v2,e1,e2,by
   rw[e3,jz];split
   .exact⟨_,_,rfl,fun _=>⟨rfl,‹_›⟩⟩
   .exact⟨_,_,rfl,fun h=>by cases h⟩⟩) ?_)
 rintro O _ _ _ OH r R V h_ ⟨ny,py,rfl,qy⟩;replace G:=G.cH r U R (mC h_);replace hy:=hy.cH r U R (mC h_);clear r;apply bS<;>intro Y
 .obtain⟨e1,hxs⟩:=qx Y;replace e1:=e1.symm;subst e1;apply bS<;>intro X
  .obtain⟨e2,hys⟩:=qy X;replace e2:=e2.symm;subst e2;clear G hy;refine cD (cE V (pR cY (Rat.divInt x y)) (fun O J r=>B2 x y J be be PL) ?_);rintro O Pm v3 Pg OW r R V h_ Z;have hR:=Z.cF (nw r h_);clear r Z;obtain⟨A0,A1,A2,A3,A4,A5,A6,A7,rfl⟩:=hR.shape;exact rtn V fun GT we re=>hR.out re oF
  refine cD (cE V (pR dK (((Nat.gcd x.natAbs y.natAbs:Nat):Int))) (fun O J r=>B5 (rlo r U) (G.rel r U) (hy.rel r U) E hl) ?_);rintro O Pm v3 Pg OW r R V h_ Z;replace G:=G.cH r U R (mC h_);replace hy:=hy.cH r U R (mC h_);have F:=Z.cF (nw r h_);clear r Z;obtain⟨A0,A1,A2,A3,rfl⟩:=F.shape;refine cD (cE V (pE (iV y.sign)) (fun O J r=>gP (rlo r U) (hy.rel r U).r) ?_);rintro O RA v4 Qi Ow r R V h_ rfl;replace G:=G.cH r U R (mC h_);replace hy:=hy.cH r U R (mC h_);replace F:=F.cH r oF R (mC h_);clear r;have hgp:0<Nat.gcd x.natAbs y.natAbs:=bq _ be;generalize Nat.gcd x.natAbs y.natAbs=g at*
  apply bS<;>intro hs
  .have hs:=aE hs;rw[show y.sign= -1 by omega,Int.neg_one_mul]at Z hd;refine cD (cE V (pR dK (-(g:Int))) (fun O J r=>mr (rlo r oF) ((F.rel r oF).l (k:=1000000) (by rw[Int.natAbs_natCast];omega)) be) ?_);rintro O Rr v5 SH Qg r R V h_ Z;replace G:=G.cH r U R (mC h_);replace hy:=hy.cH r U R (mC h_);clear F;have RI:=Z.cF (nw r h_);clear r Z;obtain⟨C0,C1,C2,C3,rfl⟩:=RI.shape;refine cD (cE V (fun _ J v I=>∃q r,v= .tuple #[q,r,iV 0]/\dK I (Nf J I) q (Rat.divInt x y).num/\dK I (Nf J I) r (x % (-(g:Int)))) (fun O J r=>Z▸ij (rlo r U) (G.rel r U) ((((RI.rel r oF).l (k:=1000000) (by rw[Int.natAbs_neg,Int.natAbs_natCast];omega))).cF fun g F=>Cv.false F) E be be) ?_);rintro O SI v6 SX SY r R V h_ ⟨q,rr,rfl,k1,k2⟩;clear G;replace hy:=hy.cH r U R (mC h_);replace RI:=RI.cH r oF R (mC h_);have hq:=k1.cF (nw r h_);have hr:=k2.cF (nw r h_);clear r;obtain⟨s6_0a,s6_0b,s6_0c,s6_0d,rfl⟩:=hq.shape;obtain⟨s6_1a,s6_1b,s6_1c,s6_1d,rfl⟩:=hr.shape;clear k1 k2 hr;refine cD (cE V (fun _ J v I=>∃q r,v= .tuple #[q,r,iV 0]/\dK I (Nf J I) q ((Rat.divInt x y).den:Int)/\dK I (Nf J I) r (y % (-(g:Int)))) (fun O J r=>hd▸ij (rlo r U) (hy.rel r U) ((((RI.rel r oF).l (k:=1000000) (by rw[Int.natAbs_neg,Int.natAbs_natCast];omega))).cF fun g F=>Cv.false F) hl be be) ?_);rintro O wa7 v7 wb7 Ul r R V h_ ⟨q,rr,rfl,k1,k2⟩;clear hy;clear RI;replace hq:=hq.cH r oF R (mC h_);have Pq:=k1.cF (nw r h_);have hr:=k2.cF (nw r h_);clear r;obtain⟨s7_0a,s7_0b,s7_0c,s7_0d,rfl⟩:=Pq.shape;obtain⟨s7_1a,s7_1b,s7_1c,s7_1d,rfl⟩:=hr.shape;clear k1 k2 hr;exact rtn V fun GT we re=>(cY.of hq Pq).out re oF
  have hs:=aC hs;rw[show y.sign=1 by omega,Int.one_mul]at Z hd;refine cD (cE V (fun _ J v I=>∃q r,v= .tuple #[q,r,iV 0]/\dK I (Nf J I) q (Rat.divInt x y).num/\dK I (Nf J I) r (x % ((g:Int)))) (fun O J r=>Z▸ij (rlo r U) (G.rel r U) ((((F.rel r oF).l (k:=1000000) (by rw[Int.natAbs_natCast];omega))).cF fun g F=>Cv.false F) E be be) ?_);rintro O Rr v5 SH Qg r R V h_ ⟨q,rr,rfl,k1,k2⟩;clear G;replace hy:=hy.cH r U R (mC h_);replace F:=F.cH r oF R (mC h_);have hq:=k1.cF (nw r h_);have hr:=k2.cF (nw r h_);clear r;obtain⟨s5_0a,s5_0b,s5_0c,s5_0d,rfl⟩:=hq.shape;obtain⟨s5_1a,s5_1b,s5_1c,s5_1d,rfl⟩:=hr.shape;clear k1 k2 hr;refine cD (cE V (fun _ J v I=>∃q r,v= .tuple #[q,r,iV 0]/\dK I (Nf J I) q ((Rat.divInt x y).den:Int)/\dK I (Nf J I) r (y % ((g:Int)))) (fun O J r=>hd▸ij (rlo r U) (hy.rel r U) ((((F.rel r oF).l (k:=1000000) (by rw[Int.natAbs_natCast];omega))).cF fun g F=>Cv.false F) hl be be) ?_);rintro O SI v6 SX SY r R V h_ ⟨q,rr,rfl,k1,k2⟩;clear hy;clear F;replace hq:=hq.cH r oF R (mC h_);have Pq:=k1.cF (nw r h_);have hr:=k2.cF (nw r h_);clear r;obtain⟨s6_0a,s6_0b,s6_0c,s6_0d,rfl⟩:=Pq.shape;obtain⟨s6_1a,s6_1b,s6_1c,s6_1d,rfl⟩:=hr.shape;clear k1 k2 hr;exact rtn V fun GT we re=>(cY.of hq Pq).out re oF
 refine cD (cE V (pR dK (((Nat.gcd x.natAbs y.natAbs:Nat):Int))) (fun O J r=>B5 (rlo r U) (G.rel r U) (hy.rel r U) E hl) ?_);rintro O _ _ _ OW r R V h_ Z;replace G:=G.cH r U R (mC h_);replace hy:=hy.cH r U R (mC h_);have F:=Z.cF (nw r h_);clear r Z;obtain⟨A0,A1,A2,A3,rfl⟩:=F.shape;refine cD (cE V (pE (iV y.sign)) (fun O J r=>gP (rlo r U) (hy.rel r U).r) ?_);rintro O _ _ _ Ow r R V h_ rfl;replace G:=G.cH r U R (mC h_);replace hy:=hy.cH r U R (mC h_);replace F:=F.cH r oF R (mC h_);clear r;have hgp:0<Nat.gcd x.natAbs y.natAbs:=bq _ be;generalize Nat.gcd x.natAbs y.natAbs=g at*
 apply bS<;>intro hs
 .have hs:=aE hs;rw[show y.sign= -1 by omega,Int.neg_one_mul]at Z hd;refine cD (cE V (pR dK (-(g:Int))) (fun O J r=>mr (rlo r oF) ((F.rel r oF).l (k:=1000000) (by rw[Int.natAbs_natCast];omega)) be) ?_);rintro O Rr v5 SH Qg r R V h_ Z;replace G:=G.cH r U R (mC h_);replace hy:=hy.cH r U R (mC h_);clear F;have RI:=Z.cF (nw r h_);clear r Z;obtain⟨C0,C1,C2,C3,rfl⟩:=RI.shape;refine cD (cE V (fun _ J v I=>∃q r,v= .tuple #[q,r,iV 0]/\dK I (Nf J I) q (Rat.divInt x y).num/\dK I (Nf J I) r (x % (-(g:Int)))) (fun O J r=>Z▸ij (rlo r U) (G.rel r U) ((((RI.rel r oF).l (k:=1000000) (by rw[Int.natAbs_neg,Int.natAbs_natCast];omega))).cF fun g F=>Cv.false F) E be be) ?_);rintro O SI v6 SX SY r R V h_ ⟨q,rr,rfl,k1,k2⟩;clear G;replace hy:=hy.cH r U R (mC h_);replace RI:=RI.cH r oF R (mC h_);have hq:=k1.cF (nw r h_);have hr:=k2.cF (nw r h_);clear r;obtain⟨s6_0a,s6_0b,s6_0c,s6_0d,rfl⟩:=hq.shape;obtain⟨s6_1a,s6_1b,s6_1c,s6_1d,rfl⟩:=hr.shape;clear k1 k2 hr;refine cD (cE V (fun _ J v I=>∃q r,v= .tuple #[q,r,iV 0]/\dK I (Nf J I) q ((Rat.divInt x y).den:Int)/\dK I (Nf J I) r (y % (-(g:Int)))) (fun O J r=>hd▸ij (rlo r U) (hy.rel r U) ((((RI.rel r oF).l (k:=1000000) (by rw[Int.natAbs_neg,Int.natAbs_natCast];omega))).cF fun g F=>Cv.false F) hl be be) ?_);rintro O _ _ _ Ul r R V h_ ⟨q,rr,rfl,k1,k2⟩;clear hy;clear RI;replace hq:=hq.cH r oF R (mC h_);have Pq:=k1.cF (nw r h_);have hr:=k2.cF (nw r h_);clear r;obtain⟨s7_0a,s7_0b,s7_0c,s7_0d,rfl⟩:=Pq.shape;obtain⟨s7_1a,s7_1b,s7_1c,s7_1d,rfl⟩:=hr.shape;clear k1 k2 hr;exact rtn V fun GT we re=>(cY.of hq Pq).out re oF
 have hs:=aC hs;rw[show y.sign=1 by omega,Int.one_mul]at Z hd;refine cD (cE V (fun _ J v I=>∃q r,v= .tuple #[q,r,iV 0]/\dK I (Nf J I) q (Rat.divInt x y).num/\dK I (Nf J I) r (x % ((g:Int)))) (fun O J r=>Z▸ij (rlo r U) (G.rel r U) ((((F.rel r oF).l (k:=1000000) (by rw[Int.natAbs_natCast];omega))).cF fun g F=>Cv.false F) E be be) ?_);rintro O _ _ _ Qg r R V h_ ⟨q,rr,rfl,k1,k2⟩;clear G;replace hy:=hy.cH r U R (mC h_);replace F:=F.cH r oF R (mC h_);have hq:=k1.cF (nw r h_);have hr:=k2.cF (nw r h_);clear r;obtain⟨s5_0a,s5_0b,s5_0c,s5_0d,rfl⟩:=hq.shape;obtain⟨s5_1a,s5_1b,s5_1c,s5_1d,rfl⟩:=hr.shape;clear k1 k2 hr;refine cD (cE V (fun _ J v I=>∃q r,v= .tuple #[q,r,iV 0]/\dK I (Nf J I) q ((Rat.divInt x y).den:Int)/\dK I (Nf J I) r (y % ((g:Int)))) (fun O J r=>hd▸ij (rlo r U) (hy.rel r U) ((((F.rel r oF).l (k:=1000000) (by rw[Int.natAbs_natCast];omega))).cF fun g F=>Cv.false F) hl be be) ?_);rintro O _ _ _ SY r R V h_ ⟨q,rr,rfl,k1,k2⟩;clear hy;clear F;replace hq:=hq.cH r oF R (mC h_);have Pq:=k1.cF (nw r h_);have hr:=k2.cF (nw r h_);clear r;obtain⟨s6_0a,s6_0b,s6_0c,s6_0d,rfl⟩:=Pq.shape;obtain⟨s6_1a,s6_1b,s6_1c,s6_1d,rfl⟩:=hr.shape;clear k1 k2 hr;exact rtn V fun GT we re=>(cY.of hq Pq).out re oF
def fP(w:World)(S:Nat->Prop)(v:Value)(q:Rat):Prop:=∃b1 l1 b2 l2 a b,v= .agg #[.bool b1,l1,.bool b2,l2]/\fI w S (.agg #[.bool b1,l1]) 100000 a/\fI w S (.agg #[.bool b2,l2]) 100000 b/\ratio a b=q
theorem fP.cK{I:World}{v:Value}(h:fP w S v q)(E:∀g,S g->I.heap[g]? =w.heap[g]?):fP I S v q:=by
 obtain⟨b1,l1,b2,l2,a,b,Y,X,N,h4⟩:=h;exact⟨b1,l1,b2,l2,a,b,Y,X.cK E,N.cK E,h4⟩
theorem fP.cF{S':Nat->Prop}{v:Value}(h:fP w S v q)(E:∀g,S g->S' g):fP w S' v q:=by
 obtain⟨b1,l1,b2,l2,a,b,Y,X,N,h4⟩:=h;exact⟨b1,l1,b2,l2,a,b,Y,X.cF E,N.cF E,h4⟩
theorem fP.v{v:Value}(h:fP w S v q):pt w S v q:=by
 obtain⟨b1,l1,b2,l2,a,b,rfl,X,N,h4⟩:=h;exact⟨a,b,⟨b1,l1,b2,l2,rfl,X.r,N.r⟩,h4,X.ln,N.ln⟩
theorem fP.shape{v:Value}(h:fP w S v q):∃b a n c b2 a2 n2 c2,v= .agg #[.bool b,.slice a n c,.bool b2,.slice a2 n2 c2]:=h.v.shape
theorem fP.rl{v:Value}(h:fP w S v q):rl q<=100000:=by
 obtain⟨b1,l1,b2,l2,a,b,rfl,X,N,rfl⟩:=h;have:=gn a b;have:=X.ln;have:=N.ln;omega
theorem cY.l{v:Value}(h:cY w S v q)(hl:rl q<=100000):fP w S v q:=by
 obtain⟨b1,l1,b2,l2,Y,X,N⟩:=h;exact⟨b1,l1,b2,l2,_,_,Y,X.l (bB (iA q) hl),N.l (bB (gE q) hl),zg q⟩
theorem KO(a b:Int):rs (ratio a b)=if b.sign<0 then -a.sign else a.sign:=by
 have sb:=gJ b;rw[ratio];split
 .rw[aF be,rs,ss bi]
 .split
  .rw[show Rat.divInt a b=Rat.divInt (-a) (-b)from(Rat.neg_divInt_neg a b).symm,rs,ss be,Int.sign_neg]
  .rw[rs,ss be]
section
variable{S S':Nat->Prop}{H:Hp}{nx:Nat}{iv K:Iv}{B:Nat}{w J I:World}{O:Nat->Sx.da}{v:Value}{q:Rat}
theorem fP.rel(h:fP w (Cv S B iv) v q)(r:Rel H nx iv B w O J)(U:∀g,S g->g<B):fP J (Cv S B iv) v q:=h.cK fun _ F=>rls r U F
theorem fP.cH(h:fP w (Cv S B iv) v q)(r:Rel H nx iv B w O J)(U:∀g,S g->g<B)(R:Ext J I)(hm:∀p,p∈iv->p∈K):fP I (Cv S B K) v q:=
 ((h.rel r U).cK fun g F=>R.block g (rlo r U g F)).cF fun _ F=>F.mono hm
theorem fP.arg(h:fP w S v q)(iv:Iv):fP w (Cv S w.heap.size iv) v q:=h.cF fun _ h=>.inl h
end
theorem FW{v:Value}{a b:Int}(U:Old S w)(hp:iC w S v a b):
  eC PG Fn.nV #[v] w (eI w fun v' _=>v'=iV (rs (ratio a b))):=by
 have V:=bR w;obtain⟨b1,l1,b2,l2,rfl,ha,TS⟩:=hp;obtain⟨_,a1,n1,c1,e1⟩:=ha.shape;obtain⟨_,a2,n2,c2,e2⟩:=TS.shape;simp only[Value.agg.injEq,Array.mk.injEq,List.cons.injEq,and_true]at e1 e2;obtain⟨_,rfl⟩:=e1;obtain⟨_,rfl⟩:=e2;replace ha:=ha.cF (S':=Cv S w.heap.size []) fun _ h=>.inl h;replace TS:=TS.cF (S':=Cv S w.heap.size []) fun _ h=>.inl h;have hr:=KO a b;have sa:=gJ a;refine wV bv ?_;refine cD (cE V (pE (iV b.sign)) (fun O J r=>gP (rlo r U) (TS.rel r U)) ?_);rintro O _ _ _ OK r R V h_ rfl;replace ha:=ha.cH r U R (mC h_);apply bS<;>intro h
 .have h:=aE h;rw[aH h]at hr;refine cD (cE V (pE (iV a.sign)) (fun O J r=>gP (rlo r U) (ha.rel r U)) ?_);rintro O QT v2 PO OH r R V h_ rfl;refine⟨-a.sign,wo,?_⟩;exact rtn V fun GT we re=>by rw[hr];rfl
 have h:=aC h;rw[aF h]at hr;refine cD (cE V (pE (iV a.sign)) (fun O J r=>gP (rlo r U) (ha.rel r U)) ?_);rintro O _ _ _ OH r R V h_ rfl;exact rtn V fun GT we re=>by rw[hr];rfl
theorem Jv(a b:Int)(w:World)(h1a: -9223372036854775808<=a)(h2a:a<=9223372036854775807)(h1b: -9223372036854775808<=b)(h2b:b<=9223372036854775807):
  eC PG Fn.vo #[iV a,iV b] w (eI w fun v' I=>(b=0/\v'= .tuple #[Cb,iV 9])\/(b≠0/\∃q,v'= .tuple #[q,iV 0]/\cY I (Nf w I) q (Rat.divInt a b))):=by
 have V:=bR w;have ha:=pr h1a h2a;have TS:=pr h1b h2b;refine zD bv ?_;apply bS<;>intro h
 .have h:b=0:=by simpa using h
  exact rtn V fun GT we re=>.inl ⟨h,rfl⟩
 have h:b≠0:=by simpa using h
 refine cD (cE V (pR dK (a)) (fun O J r=>mq a J h1a h2a) ?_);rintro O _ _ _ OK r R V h_ Z;have hA:=Z.cF (nw r h_);obtain⟨A0,A1,A2,A3,rfl⟩:=hA.shape;refine cD (cE V (pR dK (b)) (fun O J r=>mq b J h1b h2b) ?_);rintro O _ _ _ OH r R V h_ Z;replace hA:=hA.cH r oF R (mC h_);have hB:=Z.cF (nw r h_);obtain⟨C0,C1,C2,C3,rfl⟩:=hB.shape;refine cD (cE V (pR cY (Rat.divInt a b)) (fun O J r=>LU (rlo r oF) ((hA.rel r oF).l (k:=2) be) ((hB.rel r oF).l (k:=2) be) be be h) ?_);rintro O _ _ _ OW r R V h_ Z;have hR:=Z.cF (nw r h_);obtain⟨E0,E1,E2,E3,E4,E5,E6,E7,rfl⟩:=hR.shape;exact rtn V fun GT we re=>.inr ⟨h,_,rfl,hR.out re oF⟩
section
variable{S S':Nat->Prop}{H:Hp}{nx:Nat}{iv K:Iv}{B:Nat}{w J I:World}{O:Nat->Sx.da}{v:Value}{a:Int}{b:Int}
end
theorem jR.short{b:Bool}{n c:Nat}{z:Int}(h:jR w S (.agg #[.bool b,.slice a n c]) z)(E:n<=k):fI w S (.agg #[.bool b,.slice a n c]) k z:=by
 obtain⟨b2,ls,⟨lv,e1,N⟩,X⟩:=h;obtain⟨a2,c2,e2,_⟩:=N.sl;subst e2;simp only[Value.agg.injEq,Array.mk.injEq,List.cons.injEq,Value.bool.injEq,Value.slice.injEq,and_true]at e1;obtain⟨rfl,rfl,e3,rfl⟩:=e1;exact⟨_,ls,⟨_,by rw[e3],N⟩,X,be⟩
def mA(w:World)(S:Nat->Prop)(L:List Value)(q:Rat):Prop:=∃b a n c b2 a2 n2 c2,L=(rC b a n c b2 a2 n2 c2)/\fP w S (.agg #[.bool b,.slice a n c,.bool b2,.slice a2 n2 c2]) q
abbrev eL:=eM mA
section
variable{S S':Nat->Prop}{H:Hp}{nx:Nat}{iv K:Iv}{B:Nat}{w J I:World}{O:Nat->Sx.da}{v:Value}{qs:List Rat}{L:List Value}{q:Rat}
theorem mA.cK(h:mA w S L q)(E:∀g,S g->I.heap[g]? =w.heap[g]?):mA I S L q:=by
 obtain⟨b,a,n,c,b2,a2,n2,c2,Y,X⟩:=h;exact⟨b,a,n,c,b2,a2,n2,c2,Y,X.cK E⟩
theorem mA.cF(h:mA w S L q)(E:∀g,S g->S' g):mA w S' L q:=by
 obtain⟨b,a,n,c,b2,a2,n2,c2,Y,X⟩:=h;exact⟨b,a,n,c,b2,a2,n2,c2,Y,X.cF E⟩
theorem eL.cK(h:eL w S v qs)(E:∀g,S g->I.heap[g]? =w.heap[g]?):eL I S v qs:=by
 obtain⟨W,Y,X,N,h4⟩:=h;exact⟨W,Y.cK E,X,N,fun j L x k1 k2=>(h4 j L x k1 k2).cK E⟩
theorem eL.cF(h:eL w S v qs)(E:∀g,S g->S' g):eL w S' v qs:=by
 obtain⟨W,Y,X,N,h4⟩:=h;exact⟨W,Y.cF E,X,N,fun j L x k1 k2=>(h4 j L x k1 k2).cF E⟩
end
section
variable{S S':Nat->Prop}{H:Hp}{nx:Nat}{iv K:Iv}{B:Nat}{w J I:World}{O:Nat->Sx.da}{v:Value}{qs:List Rat}
theorem eL.rel(h:eL w (Cv S B iv) v qs)(r:Rel H nx iv B w O J)(U:∀g,S g->g<B):eL J (Cv S B iv) v qs:=eL.cK h fun _ F=>rls r U F
theorem eL.cH(h:eL w (Cv S B iv) v qs)(r:Rel H nx iv B w O J)(U:∀g,S g->g<B)(R:Ext J I)(hm:∀p,p∈iv->p∈K):eL I (Cv S B K) v qs:=
 eL.cF (eL.cK (eL.rel h r U) fun g F=>R.block g (rlo r U g F)) fun _ F=>F.mono hm
end
section
variable{S S':Nat->Prop}{H:Hp}{nx:Nat}{iv K:Iv}{B:Nat}{w J I:World}{O:Nat->Sx.da}{v:Value}{M:List (List Rat)}
end
section
variable{S S':Nat->Prop}{H:Hp}{nx:Nat}{iv K:Iv}{B:Nat}{w J I:World}{O:Nat->Sx.da}{W:List (List Value)}{qs:List Rat}
end
end Go.Ex
namespace Go.Ex
variable{M:List (List Rat)}{s:List (List Rat)×List Nat}{c:Nat}
theorem Eh{r k E9:Nat}(E:r<=k)(hR:k<=E9)(h:∀j,r<=j->j<k->dB M j c=0):iD M c (E9-r) r=iD M c (E9-k) k:=by
 induction k with
 |zero=>
  have:r=0:=by omega
  subst this;rfl
 |succ k ih=>
  rcases aR k r with Y|Y
  .have:r=k+1:=by omega
   subst this;rfl
  .rw[ih Y be fun j X N=>h j X be,show E9-k=(E9-(k+1))+1 by omega,Ei (h k Y be)]
theorem iu{α:Type}{l:List α}{i:Nat}{x:α}(h:i<l.length):l.take i++[x]++l.drop (i+1)=l.set i x:=by
 rw[List.set_eq_take_append_cons_drop,aH h];simp
theorem Ej(h:¬s.2.length<s.1.length\/iD s.1 c (s.1.length-s.2.length) s.2.length=s.1.length):dh s c=s:=by
 unfold dh;split
 .rcases h with h|h
  .exact absurd ‹_› h
  .dsimp only;rw[if_pos h]
 .rfl
theorem Ek{k:Nat}(E:s.2.length<=k)(hl:k<s.1.length)(h:∀j,s.2.length<=j->j<k->dB s.1 j c=0)(Z:dB s.1 k c≠0):
  dh s c=(iE (scaled (jU [] s.1 s.2.length k) s.2.length c) s.2.length c s.1.length,s.2++[c]):=by
 have e:iD s.1 c (s.1.length-s.2.length) s.2.length=k:=by
  rw[Eh E be h,show s.1.length-k=(s.1.length-k-1)+1 by omega,El Z]
 unfold dh;rw[aH be];dsimp only
 rw[e,aF be,qf,kN]
end Go.Ex
namespace Go.Ex
open Go Go.Sx Go.Proofs
variable{qs:List Rat}{S:Nat->Prop}
theorem cP.l{w:World}{v:Value}(h:cP w S v qs)(hq:∀q∈qs,rl q<=100000):eL w S v qs:=by
 obtain⟨W,Y,X,N,h4⟩:=h;refine⟨W,Y,X,N,fun j L q k1 k2=>?_⟩;obtain⟨b,a,n,c,b2,a2,n2,c2,e,hc⟩:=h4 j L q k1 k2;exact⟨b,a,n,c,b2,a2,n2,c2,e,hc.l (hq q (aG k2))⟩
section
variable{S S':Nat->Prop}{H:Hp}{nx:Nat}{iv K:Iv}{B:Nat}{w J I:World}{O:Nat->Sx.da}{rv:List Value}{M:List (List Rat)}
end
end Go.Ex
