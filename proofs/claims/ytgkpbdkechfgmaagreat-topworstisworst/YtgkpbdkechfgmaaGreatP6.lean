/- Texts X54 to L31: lemmas, each with its conditions. -/
import Derived.Test.YtgkpbdkechfgmaaGreatP5
namespace Go.Ex
open Go Go.Sx Go.Proofs
variable{x1 x2 y1 y2:Int}{S:Nat->Prop}{p q:Rat}{u:Value}{w:World}
theorem HH{v:Value}(X:Old S w)(F:gK w S v x1 x2)(hy:gK w S u y1 y2)(hl0:ln x1.natAbs<=100000)(NG:ln x2.natAbs<=100000)(MP:ln y1.natAbs<=100000)(hl3:ln y2.natAbs<=100000):
  eF PG F'.sE #[v,u] w (eM w fun v' Y=>cI Y (Nf w Y) v' ((ratio x1 x2)+(ratio y1 y2))):=by
 have L:=bR w;have r1:=gC x1 x2;have r2:=gC y1 y2;have D:=kz (ratio x1 x2) (ratio y1 y2);have r4:=jz (ratio x1 x2) (ratio y1 y2);have r5:=rp (ratio y1 y2);have r6:=vU (ratio x1 x2) (ratio y1 y2);replace F:=F.bw (S':=Cv S w.heap.size []) fun _ h=>.inl h;replace hy:=hy.bw (S':=Cv S w.heap.size []) fun _ h=>.inl h;obtain⟨b1,a1,n1,c1,b2,a2,n2,c2,rfl⟩:=F.shape;obtain⟨b3,a3,n3,c3,b4,a4,n4,c4,rfl⟩:=hy.shape;refine zQ (by simp) ?_;refine cC hτ eG [.x 0,.x 2,.x 1,.x 3,.x 4,.x 5,.x 6] (by kernel_rfl) (by kernel_rfl) ?_;refine cE L (fun _ J v Y=>cV Y (Nf J Y) v ((ratio x1 x2))) (fun O J r=>jL (Rel.old r X) (F.rel r X) (by omega) (by omega)) ?_;rintro O _ _ _ LC r Z L h_ A;replace hy:=hy.bu r X Z (mC h_);have hX:=A.df (S:=FF) r.bs (mN h_);obtain⟨A0,A1,A2,A3,A4,A5,A6,A7,rfl⟩:=hX.shape;refine cE L (fun _ J v Y=>cV Y (Nf J Y) v ((ratio y1 y2))) (fun O J r=>jL (Rel.old r X) (hy.rel r X) (by omega) (by omega)) ?_;rintro O _ _ _ Kx r Z L h_ A;replace hX:=hX.bu r (bo w) Z (mC h_);have hY:=A.df (S:=FF) r.bs (mN h_);obtain⟨C0,C1,C2,C3,C4,C5,C6,C7,rfl⟩:=hY.shape;refine cE L (fun _ J v Y=>cV Y (Nf J Y) v ((ratio x1 x2)+(ratio y1 y2))) (fun O J r=>Dk (Rel.old r (bo w)) (hX.rel r (bo w)) (hY.rel r (bo w)) (by omega) (by omega)) ?_;rintro O _ _ _ LV r Z L h_ A;have hP:=A.df (S:=FF) r.bs (mN h_);obtain⟨F0,F1,F2,F3,F4,F5,F6,F7,rfl⟩:=hP.shape;refine cE L (fun _ J v Y=>cI Y (Nf J Y) v ((ratio x1 x2)+(ratio y1 y2))) (fun O J r=>rI (Rel.old r (bo w)) (hP.rel r (bo w)) (by omega)) ?_;rintro O _ _ _ MD r Z L h_ A;have hC:=A.df (S:=FF) r.bs (mN h_);obtain⟨G0,G1,G2,G3,G4,G5,G6,G7,rfl⟩:=hC.shape;exact rtn L fun I' we re=>hC.out re (bo w)
theorem HI{v:Value}(X:Old S w)(F:gK w S v x1 x2)(hy:gK w S u y1 y2)(hl0:ln x1.natAbs<=100000)(NG:ln x2.natAbs<=100000)(MP:ln y1.natAbs<=100000)(hl3:ln y2.natAbs<=100000):
  eF PG F'.sD #[v,u] w (eM w fun v' Y=>cI Y (Nf w Y) v' ((ratio x1 x2)*(ratio y1 y2))):=by
 have L:=bR w;have r1:=gC x1 x2;have r2:=gC y1 y2;have D:=kz (ratio x1 x2) (ratio y1 y2);have r4:=jz (ratio x1 x2) (ratio y1 y2);have r5:=rp (ratio y1 y2);have r6:=vU (ratio x1 x2) (ratio y1 y2);replace F:=F.bw (S':=Cv S w.heap.size []) fun _ h=>.inl h;replace hy:=hy.bw (S':=Cv S w.heap.size []) fun _ h=>.inl h;obtain⟨b1,a1,n1,c1,b2,a2,n2,c2,rfl⟩:=F.shape;obtain⟨b3,a3,n3,c3,b4,a4,n4,c4,rfl⟩:=hy.shape;refine zP (by simp) ?_;refine cC hτ eG [.x 0,.x 2,.x 1,.x 3,.x 4,.x 5,.x 6] (by kernel_rfl) (by kernel_rfl) ?_;refine cE L (fun _ J v Y=>cV Y (Nf J Y) v ((ratio x1 x2))) (fun O J r=>jL (Rel.old r X) (F.rel r X) (by omega) (by omega)) ?_;rintro O _ _ _ LC r Z L h_ A;replace hy:=hy.bu r X Z (mC h_);have hX:=A.df (S:=FF) r.bs (mN h_);obtain⟨A0,A1,A2,A3,A4,A5,A6,A7,rfl⟩:=hX.shape;refine cE L (fun _ J v Y=>cV Y (Nf J Y) v ((ratio y1 y2))) (fun O J r=>jL (Rel.old r X) (hy.rel r X) (by omega) (by omega)) ?_;rintro O _ _ _ Kx r Z L h_ A;replace hX:=hX.bu r (bo w) Z (mC h_);have hY:=A.df (S:=FF) r.bs (mN h_);obtain⟨C0,C1,C2,C3,C4,C5,C6,C7,rfl⟩:=hY.shape;refine cE L (fun _ J v Y=>cV Y (Nf J Y) v ((ratio x1 x2)*(ratio y1 y2))) (fun O J r=>Gy (Rel.old r (bo w)) (hX.rel r (bo w)) (hY.rel r (bo w)) (by omega) (by omega)) ?_;rintro O _ _ _ LV r Z L h_ A;have hP:=A.df (S:=FF) r.bs (mN h_);obtain⟨F0,F1,F2,F3,F4,F5,F6,F7,rfl⟩:=hP.shape;refine cE L (fun _ J v Y=>cI Y (Nf J Y) v ((ratio x1 x2)*(ratio y1 y2))) (fun O J r=>rI (Rel.old r (bo w)) (hP.rel r (bo w)) (by omega)) ?_;rintro O _ _ _ MD r Z L h_ A;have hC:=A.df (S:=FF) r.bs (mN h_);obtain⟨G0,G1,G2,G3,G4,G5,G6,G7,rfl⟩:=hC.shape;exact rtn L fun I' we re=>hC.out re (bo w)
theorem HJ{v:Value}(X:Old S w)(F:gK w S v x1 x2)(hy:gK w S u y1 y2)(hl0:ln x1.natAbs<=100000)(NG:ln x2.natAbs<=100000)(MP:ln y1.natAbs<=100000)(hl3:ln y2.natAbs<=100000):
  eF PG F'.sG #[v,u] w (eM w fun v' Y=>cI Y (Nf w Y) v' ((ratio x1 x2)-(ratio y1 y2))):=by
 have L:=bR w;have r1:=gC x1 x2;have r2:=gC y1 y2;have D:=kz (ratio x1 x2) (ratio y1 y2);have r4:=jz (ratio x1 x2) (ratio y1 y2);have r5:=rp (ratio y1 y2);have r6:=vU (ratio x1 x2) (ratio y1 y2);replace F:=F.bw (S':=Cv S w.heap.size []) fun _ h=>.inl h;replace hy:=hy.bw (S':=Cv S w.heap.size []) fun _ h=>.inl h;obtain⟨b1,a1,n1,c1,b2,a2,n2,c2,rfl⟩:=F.shape;obtain⟨b3,a3,n3,c3,b4,a4,n4,c4,rfl⟩:=hy.shape;refine zS (by simp) ?_;refine cC hτ eG [.x 0,.x 2,.x 1,.x 3,.x 4,.x 5,.x 6,.x 7] (by kernel_rfl) (by kernel_rfl) ?_;refine cE L (fun _ J v Y=>cV Y (Nf J Y) v ((ratio x1 x2))) (fun O J r=>jL (Rel.old r X) (F.rel r X) (by omega) (by omega)) ?_;rintro O _ _ _ LC r Z L h_ A;replace hy:=hy.bu r X Z (mC h_);have hX:=A.df (S:=FF) r.bs (mN h_);obtain⟨A0,A1,A2,A3,A4,A5,A6,A7,rfl⟩:=hX.shape;refine cE L (fun _ J v Y=>cV Y (Nf J Y) v ((ratio y1 y2))) (fun O J r=>jL (Rel.old r X) (hy.rel r X) (by omega) (by omega)) ?_;rintro O _ _ _ Kx r Z L h_ A;replace hX:=hX.bu r (bo w) Z (mC h_);have hY:=A.df (S:=FF) r.bs (mN h_);obtain⟨C0,C1,C2,C3,C4,C5,C6,C7,rfl⟩:=hY.shape;refine bz (Id:=fun _ J v Y=>cV Y (Nw (Cf w Kx) J Y) v (-(ratio y1 y2))) (fun O J r=>Gx (Rel.old r (bo w)) (hY.rel r (bo w))) ?_;rintro O M4 v3 MY r Z hb A;replace L:=L.tr hb;replace hX:=hX.bu (E:=(M4.heap.size,MY.heap.size)::Kx) r (bo w) Z fun x F=>aB _ F;have hM:=A.old r.bs;generalize (M4.heap.size,MY.heap.size)::Kx=LV at*
 obtain⟨F0,F1,F2,F3,F4,F5,F6,F7,rfl⟩:=hM.shape;refine cE L (fun _ J v Y=>cV Y (Nf J Y) v ((ratio x1 x2)-(ratio y1 y2))) (fun O J r=>(Rat.sub_eq_add_neg (ratio x1 x2) (ratio y1 y2))▸Dk (Rel.old r (bo w)) (hX.rel r (bo w)) (hM.rel r (bo w)) (by omega) (by omega)) ?_;rintro O _ _ _ MD r Z L h_ A;have hP:=A.df (S:=FF) r.bs (mN h_);obtain⟨G0,G1,G2,G3,G4,G5,G6,G7,rfl⟩:=hP.shape;refine cE L (fun _ J v Y=>cI Y (Nf J Y) v ((ratio x1 x2)-(ratio y1 y2))) (fun O J r=>rI (Rel.old r (bo w)) (hP.rel r (bo w)) (by omega)) ?_;rintro O _ _ _ OT r Z L h_ A;have hC:=A.df (S:=FF) r.bs (mN h_);obtain⟨J0,J1,J2,J3,J4,J5,J6,J7,rfl⟩:=hC.shape;exact rtn L fun I' we re=>hC.out re (bo w)
theorem JV{v:Value}{f g:Rat}(X:Old S w)(hf:cV w S v f)(R:cV w S u g)(SC:rl f<=10000000000)(hlg:rl g<=10000000000):
  eF PG F'.kF #[v,u] w (eM w fun v' Y=>v'= .int .i64 (rs (f-g))):=by
 have L:=bR w;have l1:=gJ f;have l2:=fO f;have l3:=gJ g;have l4:=fO g;have m0:=de f.num g.den;have m1:=de g.num f.den;replace hf:=hf.bw (S':=Cv S w.heap.size []) fun _ h=>.inl h;replace R:=R.bw (S':=Cv S w.heap.size []) fun _ h=>.inl h;obtain⟨b1,a1,n1,c1,b2,a2,n2,c2,rfl⟩:=hf.shape;obtain⟨b3,a3,n3,c3,b4,a4,n4,c4,rfl⟩:=R.shape;have Px:=hf.num;have MM:=hf.den;have OM:=R.num;have NP:=R.den;refine nA (by simp) ?_;refine cC hτ eG [.x 0,.x 1,.x 2,.x 3,.x 5,.x 6,.x 7,.x 8,.x 4,.x 9,.x 10,.x 11] (by kernel_rfl) (by kernel_rfl) ?_;refine cE L (fun _ J v Y=>dU Y (Nf J Y) v (f.num*(g.den:Int))) (fun O J r=>gA (Rel.old r X) (Px.rel r X) (NP.rel r X) (by omega) (by omega)) ?_;rintro O _ _ _ LC r Z L h_ A;replace MM:=MM.bu r X Z (mC h_);replace OM:=OM.bu r X Z (mC h_);have hA:=A.df (S:=FF) r.bs (mN h_);obtain⟨A0,A1,A2,A3,rfl⟩:=hA.shape;refine cE L (fun _ J v Y=>dU Y (Nf J Y) v (g.num*(f.den:Int))) (fun O J r=>gA (Rel.old r X) (OM.rel r X) (MM.rel r X) (by omega) (by omega)) ?_;rintro O _ _ _ Kx r Z L h_ A;replace hA:=hA.bu r (bo w) Z (mC h_);have hB:=A.df (S:=FF) r.bs (mN h_);obtain⟨C0,C1,C2,C3,rfl⟩:=hB.shape;refine cE L (fun _ J v Y=>v= .int .i64 (rs (f-g))) (fun O J r=>(Ha f g)▸Gl (Rel.old r (bo w)) (hA.rel r (bo w)) (hB.rel r (bo w)) (by omega) (by omega)) ?_;rintro O _ _ _ LV r Z L h_ rfl;exact rtn L fun I' we re=>rfl
theorem HK{v:Value}(X:Old S w)(F:gK w S v x1 x2)(hy:gK w S u y1 y2)(hl0:ln x1.natAbs<=100000)(NG:ln x2.natAbs<=100000)(MP:ln y1.natAbs<=100000)(hl3:ln y2.natAbs<=100000):
  eF PG F'.sC #[v,u] w (eM w fun v' Y=>v'= .int .i64 (rs ((ratio x1 x2)-(ratio y1 y2)))):=by
 have L:=bR w;have r1:=gC x1 x2;have r2:=gC y1 y2;have D:=kz (ratio x1 x2) (ratio y1 y2);have r4:=jz (ratio x1 x2) (ratio y1 y2);have r5:=rp (ratio y1 y2);have r6:=vU (ratio x1 x2) (ratio y1 y2);replace F:=F.bw (S':=Cv S w.heap.size []) fun _ h=>.inl h;replace hy:=hy.bw (S':=Cv S w.heap.size []) fun _ h=>.inl h;obtain⟨b1,a1,n1,c1,b2,a2,n2,c2,rfl⟩:=F.shape;obtain⟨b3,a3,n3,c3,b4,a4,n4,c4,rfl⟩:=hy.shape;refine zN (by simp) ?_;refine cC hτ eG [.x 0,.x 2,.x 1,.x 3,.x 4,.x 5] (by kernel_rfl) (by kernel_rfl) ?_;refine cE L (fun _ J v Y=>cV Y (Nf J Y) v ((ratio x1 x2))) (fun O J r=>jL (Rel.old r X) (F.rel r X) (by omega) (by omega)) ?_;rintro O _ _ _ LC r Z L h_ A;replace hy:=hy.bu r X Z (mC h_);have hX:=A.df (S:=FF) r.bs (mN h_);obtain⟨A0,A1,A2,A3,A4,A5,A6,A7,rfl⟩:=hX.shape;refine cE L (fun _ J v Y=>cV Y (Nf J Y) v ((ratio y1 y2))) (fun O J r=>jL (Rel.old r X) (hy.rel r X) (by omega) (by omega)) ?_;rintro O _ _ _ Kx r Z L h_ A;replace hX:=hX.bu r (bo w) Z (mC h_);have hY:=A.df (S:=FF) r.bs (mN h_);obtain⟨C0,C1,C2,C3,C4,C5,C6,C7,rfl⟩:=hY.shape;refine cE L (fun _ J v Y=>v= .int .i64 (rs ((ratio x1 x2)-(ratio y1 y2)))) (fun O J r=>JV (Rel.old r (bo w)) (hX.rel r (bo w)) (hY.rel r (bo w)) (by omega) (by omega)) ?_;rintro O _ _ _ LV r Z L h_ rfl;exact rtn L fun I' we re=>rfl
theorem zY:rs q=0↔q=0:=by rw[rs,Int.sign_eq_zero_iff_zero,Rat.num_eq_zero]
theorem HL{v:Value}(X:Old S w)(F:gK w S v x1 x2)(hy:gK w S u y1 y2)(hl0:ln x1.natAbs<=100000)(NG:ln x2.natAbs<=100000)(MP:ln y1.natAbs<=100000)(hl3:ln y2.natAbs<=100000):
  eF PG F'.sF #[v,u] w (eM w fun v' Y=>((ratio y1 y2)=0/\v'= .tuple #[HC,.int .i64 9])\/((ratio y1 y2)≠0/\∃q,v'= .tuple #[q,.int .i64 0]/\cI Y (Nf w Y) q ((ratio x1 x2) / (ratio y1 y2)))):=by
 have L:=bR w;have r1:=gC x1 x2;have r2:=gC y1 y2;have D:=kz (ratio x1 x2) (ratio y1 y2);have r4:=jz (ratio x1 x2) (ratio y1 y2);have r5:=rp (ratio y1 y2);have r6:=vU (ratio x1 x2) (ratio y1 y2);replace F:=F.bw (S':=Cv S w.heap.size []) fun _ h=>.inl h;replace hy:=hy.bw (S':=Cv S w.heap.size []) fun _ h=>.inl h;obtain⟨b1,a1,n1,c1,b2,a2,n2,c2,rfl⟩:=F.shape;obtain⟨b3,a3,n3,c3,b4,a4,n4,c4,rfl⟩:=hy.shape;refine zR (by simp) ?_;refine bp (cE L (fun _ J v Y=>cV Y (Nf J Y) v ((ratio y1 y2))) (fun O J r=>jL (Rel.old r X) (hy.rel r X) (by omega) (by omega)) ?_);rintro O _ _ _ LC r Z L h_ A;replace F:=F.bu r X Z (mC h_);have hY:=A.df (S:=FF) r.bs (mN h_);obtain⟨A0,A1,A2,A3,A4,A5,A6,A7,rfl⟩:=hY.shape;refine bp (cE L (fun _ J v Y=>v= .int .i64 (rs (ratio y1 y2))) (fun O J r=>ID (Rel.old r (bo w)) (hY.rel r (bo w))) ?_);rintro O _ _ _ Kx r Z L h_ rfl;replace F:=F.bu r X Z (mC h_);replace hY:=hY.bu r (bo w) Z (mC h_);refine ct.mk ?_ ?_<;>intro h
 ·have h:rs (ratio y1 y2)=0:=by simpa using h
  exact rtn L fun I' we re=>.inl ⟨zY.1 h,rfl⟩
 have h:(ratio y1 y2)≠0:=fun e=>by rw[e]at h;exact absurd h (by decide)
 have r7:=JB (ratio x1 x2) h;refine cC hτ eG [.x 0,.x 2,.x 1,.x 3,.x 4,.x 5,.x 6] (by kernel_rfl) (by kernel_rfl) ?_;refine cE L (fun _ J v Y=>cV Y (Nf J Y) v ((ratio x1 x2))) (fun O J r=>jL (Rel.old r X) (F.rel r X) (by omega) (by omega)) ?_;rintro O _ _ _ LV r Z L h_ A;replace hY:=hY.bu r (bo w) Z (mC h_);have hX:=A.df (S:=FF) r.bs (mN h_);obtain⟨C0,C1,C2,C3,C4,C5,C6,C7,rfl⟩:=hX.shape;refine cE L (fun _ J v Y=>cV Y (Nf J Y) v ((ratio x1 x2) / (ratio y1 y2))) (fun O J r=>Js (Rel.old r (bo w)) (hX.rel r (bo w)) (hY.rel r (bo w)) (by omega) (by omega) h) ?_;rintro O _ _ _ MD r Z L h_ A;have hP:=A.df (S:=FF) r.bs (mN h_);obtain⟨F0,F1,F2,F3,F4,F5,F6,F7,rfl⟩:=hP.shape;refine cE L (fun _ J v Y=>cI Y (Nf J Y) v ((ratio x1 x2) / (ratio y1 y2))) (fun O J r=>rI (Rel.old r (bo w)) (hP.rel r (bo w)) (by omega)) ?_;rintro O _ _ _ OT r Z L h_ A;have hC:=A.df (S:=FF) r.bs (mN h_);obtain⟨G0,G1,G2,G3,G4,G5,G6,G7,rfl⟩:=hC.shape;exact rtn L fun I' we re=>.inr ⟨h,_,rfl,hC.out re (bo w)⟩
theorem HM{n:Int}(V: -9223372036854775808<=n)(I:n<=9223372036854775807):rl (n:Rat)<=2:=by
 have:=HD V I;unfold rl;rw[Rat.num_intCast,Rat.den_intCast];have:ln 1=1:=by decide
 omega
theorem CW(n:Int)(w:World)(V: -9223372036854775808<=n)(I:n<=9223372036854775807):
  eF PG F'.tA #[.int .i64 n] w (eM w fun v' Y=>cI Y (Nf w Y) v' (n:Rat)):=by
 have L:=bR w;have hl:=HM V I;refine wJ (by simp) ?_;refine bp (cE L (fun _ J v Y=>cV Y (Nf J Y) v (n)) (fun O J r=>IE n J V I) ?_);rintro O _ _ _ LC r Z L h_ A;have hX:=A.df (S:=FF) r.bs (mN h_);obtain⟨A0,A1,A2,A3,A4,A5,A6,A7,rfl⟩:=hX.shape;refine bp (cE L (fun _ J v Y=>cI Y (Nf J Y) v (n)) (fun O J r=>rI (Rel.old r (bo w)) (hX.rel r (bo w)) (by omega)) ?_);rintro O _ _ _ Kx r Z L h_ A;have hC:=A.df (S:=FF) r.bs (mN h_);obtain⟨C0,C1,C2,C3,C4,C5,C6,C7,rfl⟩:=hC.shape;exact rtn L fun I' we re=>hC.out re (bo w)
theorem eW(ad:Addr)(i j:Nat):(ad.add i).add j=ad.add (i+j):=by
 unfold Addr.add;split<;>split<;>simp_all<;>omega
def oL(w:World)(S:Nat->Prop)(v:Value)(q:Rat):Prop:=∃a b,gK w S v a b/\ratio a b=q/\ln a.natAbs<=100000/\ln b.natAbs<=100000
theorem oL.br{Y:World}{v:Value}(h:oL w S v q)(W:∀g,S g->Y.heap[g]? =w.heap[g]?):oL Y S v q:=by
 obtain⟨a,b,V,I⟩:=h;exact⟨a,b,V.br W,I⟩
theorem oL.shape{v:Value}(h:oL w S v q):∃b a n c b2 a2 n2 c2,v= .agg #[.bool b,.slice a n c,.bool b2,.slice a2 n2 c2]:=by
 obtain⟨a,b,V,_⟩:=h;exact V.shape
theorem xK(q:Rat):ratio q.num q.den=q:=by rw[ratio,aF (jB q),Rat.num_divInt_den]
theorem cI.v{v:Value}(h:cI w S v q)(hl:rl q<=100000):oL w S v q:=
 ⟨_,_,h.r,xK q,a9 (gJ q) hl,a9 (fO q) hl⟩
section
variable{S S':Nat->Prop}{H:Hp}{nx:Nat}{iv E:Iv}{B:Nat}{w J Y:World}{O:Nat->Sx.cd}{v:Value}{q:Rat}
end
theorem zZ{v:Value}(X:Old S w)(hp:oL w S v p)(hq:oL w S u q):eF PG F'.sE #[v,u] w (eM w fun v' Y=>cI Y (Nf w Y) v' (p+q)):=by
 obtain⟨a,b,V,rfl,I,K⟩:=hp;obtain⟨c,d,k1,rfl,k2,k3⟩:=hq;exact HH X V k1 I K k2 k3
theorem wV{v:Value}(X:Old S w)(hp:oL w S v p)(hq:oL w S u q):eF PG F'.sD #[v,u] w (eM w fun v' Y=>cI Y (Nf w Y) v' (p*q)):=by
 obtain⟨a,b,V,rfl,I,K⟩:=hp;obtain⟨c,d,k1,rfl,k2,k3⟩:=hq;exact HI X V k1 I K k2 k3
theorem GW{v:Value}(X:Old S w)(hp:oL w S v p)(hq:oL w S u q):eF PG F'.sG #[v,u] w (eM w fun v' Y=>cI Y (Nf w Y) v' (p-q)):=by
 obtain⟨a,b,V,rfl,I,K⟩:=hp;obtain⟨c,d,k1,rfl,k2,k3⟩:=hq;exact HJ X V k1 I K k2 k3
theorem j3{v:Value}(X:Old S w)(hp:oL w S v p)(hq:oL w S u q):eF PG F'.sC #[v,u] w (eM w fun v' _=>v'= .int .i64 (rs (p-q))):=by
 obtain⟨a,b,V,rfl,I,K⟩:=hp;obtain⟨c,d,k1,rfl,k2,k3⟩:=hq;exact HK X V k1 I K k2 k3
theorem JK{v:Value}(X:Old S w)(hp:oL w S v p)(hq:oL w S u q):eF PG F'.sF #[v,u] w (eM w fun v' Y=>(q=0/\v'= .tuple #[HC,.int .i64 9])\/(q≠0/\∃r,v'= .tuple #[r,.int .i64 0]/\cI Y (Nf w Y) r (p / q))):=by
 obtain⟨a,b,V,rfl,I,K⟩:=hp;obtain⟨c,d,k1,rfl,k2,k3⟩:=hq;exact HL X V k1 I K k2 k3
end Go.Ex
namespace Go.Ex
theorem FR(q:Rat): -1<=rs q/\rs q<=1:=by
 unfold rs;rcases Int.lt_trichotomy q.num 0 with h|h|h
 ·rw[bU h];decide
 ·rw[h];decide
 ·rw[ba h];decide
theorem Io(q:Rat):rs (-q)= -rs q:=by rw[rs,rs,Rat.neg_num,Int.sign_neg]
end Go.Ex
namespace Go.Ex
open Go Go.Sx Go.Proofs
variable{z:Int}{ls:List Nat}{S:Nat->Prop}{w:World}
def oy(w:World)(S:Nat->Prop)(v:Value)(k:Nat)(z:Int):Prop:=∃neg ls,sR w S v neg ls/\sg neg (val ls)=z/\ls.length<=k
theorem oy.br{Y:World}{v:Value}{k:Nat}(h:oy w S v k z)(W:∀g,S g->Y.heap[g]? =w.heap[g]?):oy Y S v k z:=by
 obtain⟨n,l,V,I⟩:=h;exact⟨n,l,V.br W,I⟩
theorem oy.bw{S':Nat->Prop}{v:Value}{k:Nat}(h:oy w S v k z)(W:∀g,S g->S' g):oy w S' v k z:=by
 obtain⟨n,l,V,I⟩:=h;exact⟨n,l,V.bw W,I⟩
theorem oy.r{v:Value}{k:Nat}(h:oy w S v k z):ic w S v z:=by
 obtain⟨n,l,V,I,_⟩:=h;exact⟨n,l,V,I⟩
theorem fb.l{v:Value}{k:Nat}(h:fb w S v z)(W:ln z.natAbs<=k):oy w S v k z:=by
 obtain⟨l,V,I,K⟩:=h;obtain⟨_,_,hl⟩:=V;have:=dR hl.lm I;rw[K]at this;exact⟨_,l,⟨_,‹_›,hl⟩,by rw[K,yb],by omega⟩
section
variable{S S':Nat->Prop}{H:Hp}{nx:Nat}{iv E:Iv}{B:Nat}{w J Y:World}{O:Nat->Sx.cd}{v:Value}{k:Nat}{z:Int}
end
section
variable{S S':Nat->Prop}{H:Hp}{nx:Nat}{iv E:Iv}{B:Nat}{w J Y:World}{O:Nat->Sx.cd}{v:Value}{G:List Int}
end
theorem oy.B9{v:Value}{k:Nat}(h:oy w S v k z):∃b a ls c,v= .agg #[.bool b,.slice a ls.length c]/\cR w S (.slice a ls.length c) ls/\sg b (val ls)=z/\ls.length<=k:=by
 obtain⟨b,ls,⟨lv,rfl,hl⟩,hz,W⟩:=h;obtain⟨a,c,rfl,_⟩:=hl.sl;exact⟨b,a,ls,c,rfl,hl,hz,W⟩
theorem oy.ln{v:Value}{k:Nat}(h:oy w S v k z):ln z.natAbs<=k:=by
 obtain⟨b,a,ls,c,_,hl,hz,W⟩:=h.B9;rw[<-hz,sQ];exact HG hl.lm W
theorem val_zero(h:∀x∈ls,x=0):val ls=0:=by
 induction ls with
 |nil=>rfl
 |cons l r ih=>rw[val,h l aH,ih fun x F=>h x (aB _ F)]
theorem IL{x:Nat}(h:x∈ls)(F:x≠0):0<val ls:=by
 induction ls with
 |nil=>cases h
 |cons l r ih=>
  rw[val];rcases List.mem_cons.1 h with rfl|h
  ·omega
  ·have:=ih h;omega
theorem zt{v:Value}{x:Int}(X:Old S w)(F:ic w S v x):
  eF PG F'.wB #[v] w (eM w fun v' _=>v'= .int .i64 x.sign):=by
 obtain⟨b,ls,⟨lv,rfl,V⟩,hz⟩:=F;obtain⟨a,c,rfl,_,ha⟩:=V.sl;have hle1:=V.le;refine x8 (by simp) ?_
 refine⟨Nat×World,fun z=>⟨[(1,pP 0 0),(3,iZ z.1)],[(0,.box T.Int [.v (.bool b),.v (.slice a ls.length c)])],1,[],z.2⟩,fun z=>ls.length-z.1,
  fun z=>z.1<=ls.length/\dO w.heap.size w z.2/\∀x∈ls.take z.1,x=0,?_,?_⟩
 ·intro O J r;exact⟨(0,J),⟨by simp,r.cG,by simp⟩,Sub.gn [] r⟩
 rintro⟨i,w1⟩ ⟨N,L,ht⟩;dsimp only at N L ht ⊢;refine ct.mk ?_ ?_<;>intro Kp
 ·have Kp:i<ls.length:=by simpa using Kp
  obtain⟨y,hy⟩:∃x,ls[i]? =some x:=⟨_,aA Kp⟩
  obtain⟨ad,rfl,q1,q2⟩:=ha i y hy;refine⟨ad,rfl,by omega,.int .u32 y,fun O J r=>by rw[aG,az];exact lV X L r q1 q2,?_⟩;refine ct.mk ?_ ?_<;>intro Kq
  ·have Kq:y≠0:=fun h=>by rw[h]at Kq;simp at Kq
   have hp:=IL (aD hy) Kq
   cases b with
   |true=>
    rw[Hy]at hz;intro O Y r;exact⟨_,rfl,L.tr r.cG,by rw[bU (by omega)];rfl⟩
   |false=>
    rw[JN]at hz;intro O Y r;exact⟨_,rfl,L.tr r.cG,by rw[ba (by omega)];rfl⟩
  have Kq:y=0:=by simpa using Kq
  subst Kq;have Ou:∀x∈ls.take (i+1),x=0:=fun x F=>by
   rw[List.take_add_one,hy]at F;rcases bG.1 F with F|F
   ·exact ht x F
   ·simpa using F
  refine⟨((i+1:Nat):Int),wo,?_⟩;intro In w3 D;exact⟨(i+1,w3),⟨Kp,L.tr D.cG,Ou⟩,Sub.gn [] D,by dsimp only;omega⟩
 have Kp:i=ls.length:=by
  have:¬i<ls.length:=by simpa using Kp
  omega
 subst Kp;rw[bQ]at ht;intro O Y r;refine⟨_,rfl,L.tr r.cG,?_⟩;rw[<-hz,val_zero ht]
 cases b<;>rfl
end Go.Ex
namespace Go.Ex
theorem ub(z:Int):(z<0/\z.sign= -1)\/(z=0/\z.sign=0)\/(0<z/\z.sign=1):=by
 rcases Int.lt_trichotomy z 0 with h|h|h
 ·exact .inl ⟨h,bU h⟩
 ·exact .inr (.inl ⟨h,by rw[h];rfl⟩)
 ·exact .inr (.inr ⟨h,ba h⟩)
end Go.Ex
namespace Go.Ex
open Go Go.Sx Go.Proofs
variable{S:Nat->Prop}{a:Option Addr}{q:Rat}{w:World}
def eP(w:World)(S:Nat->Prop)(v:Value)(q:Rat):Prop:=∃b1 l1 b2 l2 a b,v= .agg #[.bool b1,l1,.bool b2,l2]/\oy w S (.agg #[.bool b1,l1]) 100000 a/\oy w S (.agg #[.bool b2,l2]) 100000 b/\ratio a b=q
theorem eP.br{Y:World}{v:Value}(h:eP w S v q)(W:∀g,S g->Y.heap[g]? =w.heap[g]?):eP Y S v q:=by
 obtain⟨b1,l1,b2,l2,a,b,V,I,K,h4⟩:=h;exact⟨b1,l1,b2,l2,a,b,V,I.br W,K.br W,h4⟩
theorem eP.bw{S':Nat->Prop}{v:Value}(h:eP w S v q)(W:∀g,S g->S' g):eP w S' v q:=by
 obtain⟨b1,l1,b2,l2,a,b,V,I,K,h4⟩:=h;exact⟨b1,l1,b2,l2,a,b,V,I.bw W,K.bw W,h4⟩
theorem eP.v{v:Value}(h:eP w S v q):oL w S v q:=by
 obtain⟨b1,l1,b2,l2,a,b,rfl,I,K,h4⟩:=h;exact⟨a,b,⟨b1,l1,b2,l2,rfl,I.r,K.r⟩,h4,I.ln,K.ln⟩
theorem eP.shape{v:Value}(h:eP w S v q):∃b a n c b2 a2 n2 c2,v= .agg #[.bool b,.slice a n c,.bool b2,.slice a2 n2 c2]:=h.v.shape
theorem eP.rl{v:Value}(h:eP w S v q):rl q<=100000:=by
 obtain⟨b1,l1,b2,l2,a,b,rfl,I,K,rfl⟩:=h;have:=gC a b;have:=I.ln;have:=K.ln;omega
theorem cI.l{v:Value}(h:cI w S v q)(hl:rl q<=100000):eP w S v q:=by
 obtain⟨b1,l1,b2,l2,V,I,K⟩:=h;exact⟨b1,l1,b2,l2,_,_,V,I.l (a9 (gJ q) hl),K.l (a9 (fO q) hl),xK q⟩
theorem HO(a b:Int):rs (ratio a b)=if b.sign<0 then -a.sign else a.sign:=by
 have sb:=ub b;rw[ratio];split
 ·rw[aF (by omega),rs,qc (by decide)]
 ·split
  ·rw[show Rat.divInt a b=Rat.divInt (-a) (-b)from(Rat.neg_divInt_neg a b).symm,rs,qc (by omega),Int.sign_neg]
  ·rw[rs,qc (by omega)]
section
variable{S S':Nat->Prop}{H:Hp}{nx:Nat}{iv E:Iv}{B:Nat}{w J Y:World}{O:Nat->Sx.cd}{v:Value}{q:Rat}
theorem eP.rel(h:eP w (Cv S B iv) v q)(r:Rel H nx iv B w O J)(X:∀g,S g->g<B):eP J (Cv S B iv) v q:=h.br fun _ R=>Rel.same r X R
theorem eP.bu(h:eP w (Cv S B iv) v q)(r:Rel H nx iv B w O J)(X:∀g,S g->g<B)(Z:Ext J Y)(hm:∀p,p∈iv->p∈E):eP Y (Cv S B E) v q:=
 ((h.rel r X).br fun g R=>Z.block g (Rel.old r X g R)).bw fun _ R=>R.mono hm
theorem eP.arg(h:eP w S v q)(iv:Iv):eP w (Cv S w.heap.size iv) v q:=h.bw fun _ h=>.inl h
end
theorem Cj{v:Value}{a b:Int}(X:Old S w)(hp:gK w S v a b):
  eF PG F'.mS #[v] w (eM w fun v' _=>v'= .int .i64 (rs (ratio a b))):=by
 have L:=bR w;obtain⟨b1,l1,b2,l2,rfl,ha,Qe⟩:=hp;obtain⟨_,a1,n1,c1,e1⟩:=ha.shape;obtain⟨_,a2,n2,c2,e2⟩:=Qe.shape;simp only[Value.agg.injEq,Array.mk.injEq,List.cons.injEq,and_true]at e1 e2;obtain⟨_,rfl⟩:=e1;obtain⟨_,rfl⟩:=e2;replace ha:=ha.bw (S':=Cv S w.heap.size []) fun _ h=>.inl h;replace Qe:=Qe.bw (S':=Cv S w.heap.size []) fun _ h=>.inl h;have hr:=HO a b;have sa:=ub a;refine tV (by simp) ?_;refine bp (cE L (fun _ J v Y=>v= .int .i64 b.sign) (fun O J r=>zt (Rel.old r X) (Qe.rel r X)) ?_);rintro O _ _ _ LC r Z L h_ rfl;replace ha:=ha.bu r X Z (mC h_);refine ct.mk ?_ ?_<;>intro h
 ·have h:=aL h;rw[if_pos h]at hr;refine bp (cE L (fun _ J v Y=>v= .int .i64 a.sign) (fun O J r=>zt (Rel.old r X) (ha.rel r X)) ?_);rintro O NX v2 MF Kx r Z L h_ rfl;refine⟨-a.sign,wo,?_⟩;exact rtn L fun I' we re=>by rw[hr];rfl
 have h:=aI h;rw[aF h]at hr;refine bp (cE L (fun _ J v Y=>v= .int .i64 a.sign) (fun O J r=>zt (Rel.old r X) (ha.rel r X)) ?_);rintro O _ _ _ Kx r Z L h_ rfl;exact rtn L fun I' we re=>by rw[hr];rfl
section
variable{S S':Nat->Prop}{H:Hp}{nx:Nat}{iv E:Iv}{B:Nat}{w J Y:World}{O:Nat->Sx.cd}{v:Value}{a:Int}{b:Int}
end
theorem ic.short{b:Bool}{n c k:Nat}{z:Int}(h:ic w S (.agg #[.bool b,.slice a n c]) z)(W:n<=k):oy w S (.agg #[.bool b,.slice a n c]) k z:=by
 obtain⟨b2,ls,⟨lv,e1,K⟩,I⟩:=h;obtain⟨a2,c2,e2,_⟩:=K.sl;subst e2;simp only[Value.agg.injEq,Array.mk.injEq,List.cons.injEq,Value.bool.injEq,Value.slice.injEq,and_true]at e1;obtain⟨rfl,rfl,e3,rfl⟩:=e1;exact⟨_,ls,⟨_,by rw[e3],K⟩,I,by omega⟩
def kl(w:World)(S:Nat->Prop)(G:List Value)(q:Rat):Prop:=∃b a n c b2 a2 n2 c2,G=[.bool b,.slice a n c,.bool b2,.slice a2 n2 c2]/\eP w S (.agg #[.bool b,.slice a n c,.bool b2,.slice a2 n2 c2]) q
abbrev dx:=eE kl
section
variable{S S':Nat->Prop}{H:Hp}{nx:Nat}{iv E:Iv}{B:Nat}{w J Y:World}{O:Nat->Sx.cd}{v:Value}{qs:List Rat}{G:List Value}{q:Rat}
theorem kl.br(h:kl w S G q)(W:∀g,S g->Y.heap[g]? =w.heap[g]?):kl Y S G q:=by
 obtain⟨b,a,n,c,b2,a2,n2,c2,V,I⟩:=h;exact⟨b,a,n,c,b2,a2,n2,c2,V,I.br W⟩
theorem kl.bw(h:kl w S G q)(W:∀g,S g->S' g):kl w S' G q:=by
 obtain⟨b,a,n,c,b2,a2,n2,c2,V,I⟩:=h;exact⟨b,a,n,c,b2,a2,n2,c2,V,I.bw W⟩
theorem dx.br(h:dx w S v qs)(W:∀g,S g->Y.heap[g]? =w.heap[g]?):dx Y S v qs:=by
 obtain⟨U,V,I,K,h4⟩:=h;exact⟨U,V.br W,I,K,fun j G x k1 k2=>(h4 j G x k1 k2).br W⟩
theorem dx.bw(h:dx w S v qs)(W:∀g,S g->S' g):dx w S' v qs:=by
 obtain⟨U,V,I,K,h4⟩:=h;exact⟨U,V.bw W,I,K,fun j G x k1 k2=>(h4 j G x k1 k2).bw W⟩
end
section
variable{S S':Nat->Prop}{H:Hp}{nx:Nat}{iv E:Iv}{B:Nat}{w J Y:World}{O:Nat->Sx.cd}{v:Value}{qs:List Rat}
theorem dx.rel(h:dx w (Cv S B iv) v qs)(r:Rel H nx iv B w O J)(X:∀g,S g->g<B):dx J (Cv S B iv) v qs:=dx.br h fun _ R=>Rel.same r X R
theorem dx.bu(h:dx w (Cv S B iv) v qs)(r:Rel H nx iv B w O J)(X:∀g,S g->g<B)(Z:Ext J Y)(hm:∀p,p∈iv->p∈E):dx Y (Cv S B E) v qs:=
 dx.bw (dx.br (dx.rel h r X) fun g R=>Z.block g (Rel.old r X g R)) fun _ R=>R.mono hm
end
section
variable{S S':Nat->Prop}{H:Hp}{nx:Nat}{iv E:Iv}{B:Nat}{w J Y:World}{O:Nat->Sx.cd}{v:Value}{M:List (List Rat)}
end
section
variable{S S':Nat->Prop}{H:Hp}{nx:Nat}{iv E:Iv}{B:Nat}{w J Y:World}{O:Nat->Sx.cd}{U:List (List Value)}{qs:List Rat}
end
end Go.Ex
namespace Go.Ex
variable{M:List (List Rat)}{s:List (List Rat)×List Nat}
theorem Bx{c r k Do:Nat}(W:r<=k)(hR:k<=Do)(h:∀j,r<=j->j<k->cT M j c=0):gN M c (Do-r) r=gN M c (Do-k) k:=by
 induction k with
 |zero=>
  have:r=0:=by omega
  subst this;rfl
 |succ k ih=>
  rcases aO k r with V|V
  ·have:r=k+1:=by omega
   subst this;rfl
  ·rw[ih V (by omega) fun j I K=>h j I (by omega),show Do-k=(Do-(k+1))+1 by omega,By (h k V (by omega))]
theorem gw{α:Type}{l:List α}{i:Nat}{x:α}(h:i<l.length):l.take i++[x]++l.drop (i+1)=l.set i x:=by
 rw[List.set_eq_take_append_cons_drop,if_pos h];simp
theorem Bz{c:Nat}(h:¬s.2.length<s.1.length\/gN s.1 c (s.1.length-s.2.length) s.2.length=s.1.length):dH s c=s:=by
 unfold dH;split
 ·rcases h with h|h
  ·exact absurd ‹_› h
  ·dsimp only;rw[if_pos h]
 ·rfl
theorem CA{c k:Nat}(W:s.2.length<=k)(hl:k<s.1.length)(h:∀j,s.2.length<=j->j<k->cT s.1 j c=0)(A:cT s.1 k c≠0):
  dH s c=(gO (scaled (iq [] s.1 s.2.length k) s.2.length c) s.2.length c s.1.length,s.2++[c]):=by
 have e:gN s.1 c (s.1.length-s.2.length) s.2.length=k:=by
  rw[Bx W (by omega) h,show s.1.length-k=(s.1.length-k-1)+1 by omega,CB A]
 unfold dH;rw[if_pos (by omega)];dsimp only
 rw[e,aF (by omega),pC,je]
end Go.Ex
namespace Go.Ex
open Go Go.Sx Go.Proofs
variable{qs:List Rat}{S:Nat->Prop}
theorem cF.l{w:World}{v:Value}(h:cF w S v qs)(hq:∀q∈qs,rl q<=100000):dx w S v qs:=by
 obtain⟨U,V,I,K,h4⟩:=h;refine⟨U,V,I,K,fun j G q k1 k2=>?_⟩;obtain⟨b,a,n,c,b2,a2,n2,c2,e,hc⟩:=h4 j G q k1 k2;exact⟨b,a,n,c,b2,a2,n2,c2,e,hc.l (hq q (aD k2))⟩
section
variable{S S':Nat->Prop}{H:Hp}{nx:Nat}{iv E:Iv}{B:Nat}{w J Y:World}{O:Nat->Sx.cd}{rv:List Value}{M:List (List Rat)}
end
end Go.Ex
namespace Go.Ex
variable{s:List (List Rat)×List Nat}
theorem fA(M:List (List Rat))(cols:Nat):(cB M cols).1.length=M.length:=by
 have key:∀(l:List Nat) (s:List (List Rat)×List Nat),(l.foldl dH s).1.length=s.1.length:=by
  intro l
  induction l with
  |nil=>exact fun s=>rfl
  |cons c l ih=>exact fun s=>by rw[List.foldl_cons,ih,mE]
 exact key _ _
theorem pX{M:List (List Rat)}{c:Nat}:∀f k j,k<=j->j<gN M c f k->cT M j c=0
 |0,k,j,V,I=>by simp only[gN]at I;omega
 |f+1,k,j,V,I=>by
  unfold gN at I;split at I
  ·rename_i h0;rcases aO k j with h|h
   ·exact pX f (k+1) j h I
   ·rw[show j=k by omega];exact h0
  ·omega
theorem jO(c:Nat)(hle:s.2.length<=s.1.length):(dH s c=s/\∀j,s.2.length<=j->j<s.1.length->cT s.1 j c=0)\/
  ∃k,s.2.length<=k/\k<s.1.length/\cT s.1 k c≠0/\dH s c=(gO (scaled (iq [] s.1 s.2.length k) s.2.length c) s.2.length c s.1.length,s.2++[c]):=by
 have V:=uc s.1 c (s.1.length-s.2.length) s.2.length;by_cases W:gN s.1 c (s.1.length-s.2.length) s.2.length=s.1.length
 ·exact .inl ⟨Bz (.inr W),fun j hj hl=>pX (s.1.length-s.2.length) s.2.length j hj (by omega)⟩
 ·exact .inr ⟨_,V.1,by omega,ud s.1 c _ _ (by omega),CA V.1 (by omega) (fun j I K=>pX _ _ j I K) (ud s.1 c _ _ (by omega))⟩
theorem rZ{p:Rat}{r s:List Rat}{c:Nat}(h:c<r.length):(r.mapIdx (ue p s)).getD c 0=r.getD c 0+p*s.getD c 0:=by
 simp only[List.getD,List.getElem?_mapIdx,aA h]
 rfl
theorem uf{r:List Rat}{k:Rat}{c:Nat}:(r.map (· *k)).getD c 0=r.getD c 0*k:=by
 simp only[List.getD,aM]
 cases r[c]? with
 |none=>exact(bD k).symm
 |some q=>rfl
theorem mF{c k n:Nat}(hl:gH n s.1)(V:s.2.length<=k)(I:k<s.1.length)(K:cT s.1 k c≠0)(e:dH s c=(gO (scaled (iq [] s.1 s.2.length k) s.2.length c) s.2.length c s.1.length,s.2++[c])):
  (∀t,cT (dH s c).1 s.2.length t=cT s.1 k t*(1 / cT s.1 k c))/\
  ∀j,j<s.1.length->j≠s.2.length->∀t,t<n->cT (dH s c).1 j t=cT s.1 (if j=k then s.2.length else j) t+ -(cT s.1 (if j=k then s.2.length else j) c)*(cT s.1 k t*(1 / cT s.1 k c)):=by
 have hp:s.2.length<s.1.length:=by omega
 have hsw:cT (iq [] s.1 s.2.length k) s.2.length c=cT s.1 k c:=FU hp I;have Pj:(scaled (iq [] s.1 s.2.length k) s.2.length c).getD s.2.length []=(s.1.getD k []).map (· *(1 / cT s.1 k c)):=by
  unfold scaled;rw[hsw,List.getD,aR (by rw[je];exact hp)];simp only[Option.getD_some]
  congr 1;rw[List.getD,List.getD,yB hp I]
 have Kr:∀j,j<s.1.length->j≠s.2.length->(scaled (iq [] s.1 s.2.length k) s.2.length c)[j]? =some (s.1.getD (if j=k then s.2.length else j) []):=fun j hj Kq=>by
  unfold scaled;rw[aY (Ne.symm Kq)];unfold iq;by_cases Ns:j=k
  ·subst Ns;rw[aR (by simpa using hj),if_pos rfl]
  ·rw[aY (Ne.symm Ns),aY (Ne.symm Kq),aF Ns,List.getD,aA hj];rfl
 have hgp:(gO (scaled (iq [] s.1 s.2.length k) s.2.length c) s.2.length c s.1.length).getD s.2.length []=(s.1.getD k []).map (· *(1 / cT s.1 k c)):=by
  rw[<-Pj];simp only[List.getD,CC]
 rw[e];refine⟨fun t=>?_,fun j hj Kq t ht=>?_⟩
 ·show((gO (scaled (iq [] s.1 s.2.length k) s.2.length c) s.2.length c s.1.length).getD s.2.length []).getD t 0=_;rw[hgp,uf];rfl
 ·have hgj:(gO (scaled (iq [] s.1 s.2.length k) s.2.length c) s.2.length c s.1.length).getD j []=(s.1.getD (if j=k then s.2.length else j) []).mapIdx (ue (-((s.1.getD (if j=k then s.2.length else j) []).getD c 0)) ((s.1.getD k []).map (· *(1 / cT s.1 k c)))):=by
   simp only[List.getD,gO,List.getElem?_mapIdx,Kr j hj Kq,Option.map_some,Option.getD_some]
   rw[if_pos ⟨hj,Kq⟩];exact congrArg (fun P=>(s.1.getD (if j=k then s.2.length else j) []).mapIdx (ue (-((s.1.getD (if j=k then s.2.length else j) []).getD c 0)) P)) Pj
  show((gO (scaled (iq [] s.1 s.2.length k) s.2.length c) s.2.length c s.1.length).getD j []).getD t 0=_;rw[hgj,rZ (by rw[hl.getD (by split<;>omega)];exact ht),uf];rfl
theorem ug{x:Rat}(h:x≠0):x*(1 / x)=1:=by rw[bf,bm,Rat.mul_inv_cancel x h]
def JX(n c:Nat)(s:List (List Rat)×List Nat):Prop:=gH n s.1/\s.2.length<=s.1.length/\(∀j t,s.2.length<=j->j<s.1.length->t<c->cT s.1 j t=0)/\(∀p∈s.2,p<c)/\
 ∀i j,i<s.2.length->j<s.1.length->cT s.1 j (s.2.getD i 0)=if j=i then 1 else 0
theorem JX.step{n c:Nat}(h:JX n c s)(hc:c<n):JX n (c+1) (dH s c):=by
 obtain⟨hl,hle,hz,NW,hu⟩:=h;rcases jO c hle with⟨e,h0⟩|⟨k,V,I,K,e⟩
 ·rw[e];refine⟨hl,hle,fun j t hj PY ht=>?_,fun p hp=>by have:=NW p hp;omega,hu⟩;rcases aO t c with h|h
  ·exact hz j t hj PY h
  ·rw[show t=c by omega];exact h0 j hj PY
 ·obtain⟨r1,r2⟩:=mF hl V I K e;have hlen:(dH s c).1.length=s.1.length:=mE s c;have e2:(dH s c).2=s.2++[c]:=by rw[e]
  have e3:(dH s c).2.length=s.2.length+1:=by rw[e2];simp
  have Mq:∀j,j<s.1.length->j≠s.2.length->cT (dH s c).1 j c=0:=fun j hj Kq=>by
   rw[r2 j hj Kq c hc,ug K,Rat.mul_one,Rat.add_neg_cancel]
  refine⟨hl.step,by rw[e3,hlen];omega,fun j t hj PY ht=>?_,fun p hp=>?_,fun i j N hj=>?_⟩
  ·rw[e3]at hj;rw[hlen]at PY;rcases aO t c with h|h
   ·rw[r2 j PY (by omega) t (by omega),hz k t V I h,hz (if j=k then s.2.length else j) t (by split<;>omega) (by split<;>omega) h,bD,ai,Rat.zero_add]
   ·rw[show t=c by omega];exact Mq j PY (by omega)
  ·rw[e2]at hp;rcases bG.1 hp with hp|hp
   ·have:=NW p hp;omega
   ·rw[bK.1 hp];omega
  ·rw[e3]at N;rw[hlen]at hj;rcases aO i s.2.length with h|h
   ·have R:(dH s c).2.getD i 0=s.2.getD i 0:=by rw[e2,List.getD,aJ h,<-List.getD]
    have hpm:s.2.getD i 0<c:=NW _ (by rw[List.getD,aA h];exact aV h);have Qz:cT s.1 k (s.2.getD i 0)=0:=hz k _ V I hpm;rw[R];by_cases hjp:j=s.2.length
    ·rw[hjp,r1,Qz,bD,aF (by omega)]
    ·rw[r2 j hj hjp _ (by omega),Qz,bD,ai,bW];by_cases Ns:j=k
     ·rw[if_pos Ns,hu i _ h (by omega),aF (by omega),aF (by omega)]
     ·rw[aF Ns,hu i j h hj]
   ·have R:(dH s c).2.getD i 0=c:=by rw[e2,List.getD,aN h,show i-s.2.length=0 by omega];rfl
    rw[R];by_cases hjp:j=s.2.length
    ·rw[hjp,r1,ug K,if_pos (by omega)]
    ·rw[Mq j hj hjp,aF (by omega)]
theorem dW{M:List (List Rat)}{n:Nat}(hl:gH n M):∀cols,cols<=n->JX n cols (cB M cols)
 |0,_=>⟨hl,aP _,fun _ _ _ _ h=>by omega,fun p hp=>(by cases hp),fun _ _ h=>(by cases h)⟩
 |c+1,h=>by
  have ih:=dW hl c (by omega);unfold cB at ih ⊢;rw[bc,List.foldl_append];exact ih.step (by omega)
abbrev Mx:=Nat->Nat->Rat
def skip(k j:Nat):Nat:=if j<k then j else j+1
def p8(k:Nat):Rat:=if k % 2=1 then -1 else 1
def cM(f:Nat->Rat):Nat->Rat
 |0=>0
 |n+1=>cM f n+f n
def ec:Nat->Mx->Rat
 |0,_=>1
 |n+1,m=>cM (fun k=>p8 k*(m 0 k*ec n fun i j=>m (i+1) (skip k j))) (n+1)
theorem bq{f g:Nat->Rat}:∀{n:Nat},(∀k,k<n->f k=g k)->cM f n=cM g n
 |0,_=>rfl
 |n+1,h=>by rw[cM,cM,bq fun k W=>h k (by omega),h n (by omega)]
theorem dD:∀(n:Nat),cM (fun _=>0) n=0
 |0=>rfl
 |n+1=>by rw[cM,dD n,bW]
theorem fN(f g:Nat->Rat):∀(n:Nat),cM (fun k=>f k+g k) n=cM f n+cM g n
 |0=>(bW 0).symm
 |n+1=>by rw[cM,cM,cM,fN f g n];grind
theorem da(p:Rat)(f:Nat->Rat):∀(n:Nat),cM (fun k=>p*f k) n=p*cM f n
 |0=>(ai p).symm
 |n+1=>by rw[cM,cM,da p f n];grind
theorem lL(f:Nat->Rat)(n:Nat):cM (fun k=> -f k) n= -cM f n:=by
 have h:=da (-1) f n;rw[show (-1:Rat)*cM f n= -cM f n by grind]at h;rw[<-h];exact bq fun k _=>by grind
theorem uq(f:Nat->Rat):∀(n:Nat),cM f (n+1)=f 0+cM (fun k=>f (k+1)) n
 |0=>by show 0+f 0=f 0+0;grind
 |n+1=>by rw[cM,uq f n,cM];grind
theorem DI{k j n:Nat}(h:j<n):skip k j<n+1:=by unfold skip;split<;>omega
theorem EL{k l:Nat}(h:k<=l)(j:Nat):skip k (skip l j)=skip (l+1) (skip k j):=by
 unfold skip;grind
theorem gU:∀{n:Nat} {m m':Mx},(∀i j,i<n->j<n->m i j=m' i j)->ec n m=ec n m'
 |0,_,_,_=>rfl
 |n+1,m,m',h=>by
  unfold ec;refine bq fun k W=>?_;rw[h 0 k (by omega) W,gU fun i j N hj=>h (i+1) (skip k j) (by omega) (DI hj)]
def fI(m:Mx)(r:Nat)(u:Nat->Rat):Mx:=fun i j=>if i=r then u j else m i j
theorem r8(m:Mx)(r k:Nat)(u:Nat->Rat):(fun i j=>fI m (r+1) u (i+1) (skip k j))=fI (fun i j=>m (i+1) (skip k j)) r fun j=>u (skip k j):=by
 funext i j
 unfold fI;by_cases h:i=r
 ·rw[if_pos h,if_pos (by omega)]
 ·rw[aF h,aF (by omega)]
theorem lM(p:Rat):∀(n r:Nat) (m:Mx),r<n->∀(u v:Nat->Rat),ec n (fI m r fun j=>u j+p*v j)=ec n (fI m r u)+p*ec n (fI m r v)
 |0,_,_,h,_,_=>by omega
 |n+1,0,m,_,u,v=>by
  unfold ec;rw[<-da,<-fN];refine bq fun k _=>?_;have e:∀x:Nat->Rat,(fun i j=>fI m 0 x (i+1) (skip k j))=fun i j=>m (i+1) (skip k j):=fun x=>by
   funext i j;unfold fI;rw[aF (by omega)]
  rw[e,e,e];unfold fI;rw[if_pos rfl,if_pos rfl,if_pos rfl];grind
 |n+1,r+1,m,h,u,v=>by
  unfold ec;rw[<-da,<-fN];refine bq fun k _=>?_;rw[r8,r8,r8,lM p n r _ (by omega) (fun j=>u (skip k j)) fun j=>v (skip k j)];have e:∀x:Nat->Rat,fI m (r+1) x 0 k=m 0 k:=fun x=>by unfold fI;rw[aF (by omega)]
  rw[e,e,e];grind
theorem uu{D':Nat->Nat->Rat}:∀{n:Nat},(∀k l,k<=l->l<n->D' k l+D' (l+1) k=0)->cM (fun k=>cM (D' k) n) (n+1)=0
 |0,_=>by show 0+0=(0:Rat);grind
 |n+1,h=>by
  have ih:=uu (D':=D') (n:=n) fun k l V I=>h k l V (by omega);have K:cM (fun k=>D' k n+D' (n+1) k) (n+1)=0:=by
   rw[bq (g:=fun _=>0) fun k W=>h k n (by omega) (by omega),dD]
  rw[fN]at K;rw[cM];have h4:cM (fun k=>cM (D' k) (n+1)) (n+1)=cM (fun k=>cM (D' k) n) (n+1)+cM (fun k=>D' k n) (n+1):=by
   rw[<-fN];rfl
  rw[h4,ih,Rat.zero_add];exact K
def sj(a b i:Nat):Nat:=if i=a then b else if i=b then a else i
theorem EM(r i:Nat):sj (r+1) (r+2) (i+1)=sj r (r+1) i+1:=by
 unfold sj;by_cases h:i=r
 ·rw[if_pos (by omega),if_pos h]
 ·rw[aF (by omega),aF h];by_cases I:i=r+1
  ·rw[if_pos (by omega),if_pos I]
  ·rw[aF (by omega),aF I]
theorem FX(k:Nat):p8 (k+1)= -p8 k:=by
 unfold p8;by_cases h:k % 2=1
 ·rw[if_pos h,aF (by omega)];grind
 ·rw[aF h,if_pos (by omega)]
theorem AY(n:Nat)(m:Mx):ec (n+2) m=cM (fun k=>cM (fun l=>p8 k*p8 l*(m 0 k*m 1 (skip k l))*ec n fun i j=>m (i+2) (skip k (skip l j))) (n+1)) (n+2):=by
 rw[ec];refine bq fun k _=>?_;rw[ec,<-da,<-da];refine bq fun l _=>?_;grind
theorem uv:∀(n r:Nat) (m:Mx),r+1<n->ec n (fun i j=>m (sj r (r+1) i) j)= -ec n m
 |0,_,_,h=>by omega
 |1,_,_,h=>by omega
 |n+2,0,m,_=>by
  rw[AY,AY,<-lL];have key:cM (fun k=>cM (fun l=>p8 k*p8 l*(m 1 k*m 0 (skip k l))*(ec n fun i j=>m (i+2) (skip k (skip l j)))+p8 k*p8 l*(m 0 k*m 1 (skip k l))*ec n fun i j=>m (i+2) (skip k (skip l j))) (n+1)) (n+2)=0:=by
   refine uu fun k l V I=>?_;have e1:skip k l=l+1:=by unfold skip;rw[aF (by omega)]
   have e2:skip (l+1) k=k:=by unfold skip;rw[if_pos (by omega)]
   have e3:(fun i j=>m (i+2) (skip (l+1) (skip k j)))=fun i j=>m (i+2) (skip k (skip l j)):=by
    funext i j;rw[EL V]
   rw[e1,e2,e3,FX];grind
  have h4:cM (fun k=>cM (fun l=>p8 k*p8 l*(m 1 k*m 0 (skip k l))*(ec n fun i j=>m (i+2) (skip k (skip l j)))+p8 k*p8 l*(m 0 k*m 1 (skip k l))*ec n fun i j=>m (i+2) (skip k (skip l j))) (n+1)) (n+2)=
    cM (fun k=>cM (fun l=>p8 k*p8 l*(m 1 k*m 0 (skip k l))*ec n fun i j=>m (i+2) (skip k (skip l j))) (n+1)) (n+2)+cM (fun k=>cM (fun l=>p8 k*p8 l*(m 0 k*m 1 (skip k l))*ec n fun i j=>m (i+2) (skip k (skip l j))) (n+1)) (n+2):=by
   rw[<-fN];exact bq fun k _=>fN _ _ _
  rw[h4]at key;have h5:cM (fun k=> -cM (fun l=>p8 k*p8 l*(m 0 k*m 1 (skip k l))*ec n fun i j=>m (i+2) (skip k (skip l j))) (n+1)) (n+2)= -cM (fun k=>cM (fun l=>p8 k*p8 l*(m 0 k*m 1 (skip k l))*ec n fun i j=>m (i+2) (skip k (skip l j))) (n+1)) (n+2):=lL _ _;rw[h5];have h6:cM (fun k=>cM (fun l=>p8 k*p8 l*(m (sj 0 1 0) k*m (sj 0 1 1) (skip k l))*ec n fun i j=>m (sj 0 1 (i+2)) (skip k (skip l j))) (n+1)) (n+2)=cM (fun k=>cM (fun l=>p8 k*p8 l*(m 1 k*m 0 (skip k l))*ec n fun i j=>m (i+2) (skip k (skip l j))) (n+1)) (n+2):=by
   refine bq fun k _=>bq fun l _=>?_;have e:∀i,sj 0 1 (i+2)=i+2:=fun i=>by unfold sj;rw[aF (by omega),aF (by omega)]
   simp only[e]
   rfl
  rw[show (0:Nat)+1=1 from rfl,h6];grind
 |n+2,r+1,m,h=>by
  rw[ec,ec,<-lL];refine bq fun k _=>?_;have e:(fun i j=>m (sj (r+1) (r+1+1) (i+1)) (skip k j))=fun i j=>m (sj r (r+1) i+1) (skip k j):=by
   funext i j
   rw[show r+1+1=r+2 from rfl,EM]
  have ih:ec (n+1) (fun i j=>m (sj r (r+1) i+1) (skip k j))= -ec (n+1) fun i j=>m (i+1) (skip k j):=uv (n+1) r (fun i j=>m (i+1) (skip k j)) (by omega);rw[e,ih];rw[show sj (r+1) (r+1+1) 0=0 by unfold sj;rw[aF (by omega),aF (by omega)]];grind
theorem mI:∀(k n:Nat) (m:Mx),k+1<n->(∀j,j<n->m 0 j=m (k+1) j)->ec n m=0
 |0,n,m,h,Z=>by
  have V:=uv n 0 m h;rw[gU (m':=m) fun i j N hj=>?_]at V
  ·grind
  ·unfold sj;by_cases h0:i=0
   ·rw[if_pos h0,h0];exact(Z j hj).symm
   ·rw[aF h0];by_cases I:i=1
    ·rw[if_pos I,I];exact Z j hj
    ·rw[aF I]
 |k+1,n,m,h,Z=>by
  have V:=uv n (k+1) m h;rw[mI k n _ (by omega) fun j hj=>?_]at V
  ·grind
  ·rw[show sj (k+1) (k+1+1) 0=0 by unfold sj;rw[aF (by omega),aF (by omega)],show sj (k+1) (k+1+1) (k+1)=k+1+1 by unfold sj;rw[if_pos rfl]];exact Z j hj
theorem AZ(m:Mx)(r:Nat):fI m r (m r)=m:=by
 funext i j
 unfold fI;by_cases h:i=r
 ·rw[if_pos h,h]
 ·rw[aF h]
theorem EN{n k:Nat}{m:Mx}(h:k+1<n):ec n (fun i j=>m (sj 0 (k+1) i) j)= -ec n m:=by
 have z:∀u:Nat->Rat,ec n (fI (fI m 0 u) (k+1) u)=0:=fun u=>mI k n _ h fun j _=>by
  unfold fI;rw[aF (by omega),if_pos rfl,if_pos rfl]
 have cm:∀u v:Nat->Rat,fI (fI m 0 u) (k+1) v=fI (fI m (k+1) v) 0 u:=fun u v=>by
  funext i j;unfold fI
  by_cases V:i=k+1
  ·rw[if_pos V,aF (by omega),if_pos V]
  ·rw[aF V,aF V]
 have l1:∀u v x:Nat->Rat,ec n (fI (fI m 0 u) (k+1) fun j=>v j+1*x j)=ec n (fI (fI m 0 u) (k+1) v)+1*ec n (fI (fI m 0 u) (k+1) x):=fun u v x=>lM 1 n (k+1) _ h v x;have l2:∀u v x:Nat->Rat,ec n (fI (fI m 0 fun j=>v j+1*x j) (k+1) u)=ec n (fI (fI m 0 v) (k+1) u)+1*ec n (fI (fI m 0 x) (k+1) u):=fun u v x=>by
  rw[cm,cm,cm];exact lM 1 n 0 _ (by omega) v x
 have V:=z fun j=>m 0 j+1*m (k+1) j;rw[l1,l2,l2,z,z]at V;have e1:fI (fI m 0 (m 0)) (k+1) (m (k+1))=m:=by rw[AZ,AZ]
 have e2:fI (fI m 0 (m (k+1))) (k+1) (m 0)=fun i j=>m (sj 0 (k+1) i) j:=by
  funext i j;unfold fI sj
  by_cases V:i=k+1
  ·rw[if_pos V,aF (by omega),if_pos V]
  ·rw[aF V];by_cases h0:i=0
   ·rw[if_pos h0,if_pos h0]
   ·rw[aF h0,aF h0,aF V]
 rw[e1,e2]at V;grind
theorem oY(f:Nat->Rat)(p:Rat)(n:Nat):cM (fun k=>f k*p) n=cM f n*p:=by
 rw[bg,<-da];exact bq fun k _=>bg ..
theorem Aa(f g:Nat->Rat):∀(n:Nat),cM (fun k=>f k-g k) n=cM f n-cM g n
 |0=>by show(0:Rat)=0-0;grind
 |n+1=>by rw[cM,cM,cM,Aa f g n];grind
theorem fD{f:Nat->Rat}{i:Nat}:∀{n:Nat},i<n->(∀k,k<n->k≠i->f k=0)->cM f n=f i
 |0,h,_=>by omega
 |n+1,h,hz=>by
  rw[cM];rcases aO i n with V|V
  ·rw[fD V fun k W Kq=>hz k (by omega) Kq,hz n (by omega) (by omega),bW]
  ·obtain rfl:i=n:=by omega
   rw[bq (g:=fun _=>0) fun k W=>hz k (by omega) (by omega),dD,Rat.zero_add]
theorem sq_nonneg(x:Rat):0<=x*x:=by
 rcases Rat.le_total (a:=0) (b:=x)with h|h
 ·exact Rat.mul_nonneg h h
 ·have:=Rat.mul_nonneg (show 0<= -x by grind) (show 0<= -x by grind);grind
end Go.Ex
namespace Go.Ex
open Go Go.Sx Go.Proofs
variable{G:List Value}{j:Nat}{S:Nat->Prop}{a a1 a2:Option Addr}{q:Rat}
theorem iB.len{w:World}(h:iB w S G q):G.length=4:=by obtain⟨_,_,_,_,_,_,_,_,rfl,_⟩:=h;rfl
def Fc(w:World)(S:Nat->Prop)(U:List (List Value))(qs:List Rat):Prop:=U.length=qs.length/\∀(j:Nat) G q,U[j]? =some G->qs[j]? =some q->iB w S G q
section
variable{S S':Nat->Prop}{w Y:World}{G:List Value}{U:List (List Value)}{q:Rat}{qs:List Rat}
theorem Fc.br(h:Fc w S U qs)(W:∀g,S g->Y.heap[g]? =w.heap[g]?):Fc Y S U qs:=⟨h.1,fun j G q V I=>(h.2 j G q V I).br W⟩
theorem Fc.bw(h:Fc w S U qs)(W:∀g,S g->S' g):Fc w S' U qs:=⟨h.1,fun j G q V I=>(h.2 j G q V I).bw W⟩
theorem Fc.xd(h:Fc w S U qs):∀G∈U,G.length=4:=fun G hc=>by
 obtain⟨j,hj⟩:=aQ hc;have hl:=(aC.1 hj).1;exact(h.2 j G _ hj (aA (by rw[<-h.1];exact hl))).len
theorem Fc.one(h:Fc w S U qs):∀u∈U.flatten,u.oneCell'=true:=fun u hu=>by
 obtain⟨G,hc,hu⟩:=List.mem_flatten.1 hu;obtain⟨j,hj⟩:=aQ hc;have hl:=(aC.1 hj).1;obtain⟨_,_,_,_,_,_,_,_,rfl,_⟩:=h.2 j G _ hj (aA (by rw[<-h.1];exact hl));simp at hu;rcases hu with rfl|rfl|rfl|rfl<;>rfl
theorem Fc.set(h:Fc w S U qs)(hq:iB w S G q):Fc w S (U.set j G) (qs.set j q):=by
 refine⟨by simp[h.1],fun i c p V I=>?_⟩;by_cases Lt:j=i
 ·subst Lt;have hl:=(aC.1 V).1;rw[aR (by simpa using hl)]at V;rw[aR (by have:=h.1;simp at hl;omega)]at I;injection V with V;injection I with I;subst V I;exact hq
 ·rw[aY Lt]at V I;exact h.2 i c p V I
end
def fL(w:World)(C S:Nat->Prop)(v:Value)(qs:List Rat):Prop:=∃U,gi w C 4 v U.flatten qs.length/\Fc w S U qs
section
variable{C C' S S':Nat->Prop}{H:Hp}{nx:Nat}{iv E:Iv}{B:Nat}{w J Y:World}{O:Nat->Sx.cd}{v:Value}{qs:List Rat}
theorem fL.br(h:fL w C S v qs)(W:∀g,C g\/S g->Y.heap[g]? =w.heap[g]?):fL Y C S v qs:=by
 obtain⟨U,V,I⟩:=h;exact⟨U,V.br fun g R=>W g (.inl R),I.br fun g R=>W g (.inr R)⟩
theorem fL.bw(h:fL w C S v qs)(W:∀g,C g->C' g)(Qy:∀g,S g->S' g):fL w C' S' v qs:=by
 obtain⟨U,V,I⟩:=h;exact⟨U,V.bw W,I.bw Qy⟩
end
def gE(w:World)(S:Nat->Prop)(v:Value)(n:Nat)(qs:List Rat):Prop:=∃U,w.ownsRow 0 T.Rat 4 v n U.flatten/\U.length=n/\Fc w S U qs
section
variable{S S' C:Nat->Prop}{H:Hp}{nx n:Nat}{iv E:Iv}{B:Nat}{w J Y:World}{O:Nat->Sx.cd}{v:Value}{qs:List Rat}
theorem gE.br(h:gE w S v n qs)(W:∀g,S g\/v.ownBlock=some g->Y.heap[g]? =w.heap[g]?):gE Y S v n qs:=by
 obtain⟨U,V,I,K⟩:=h;exact⟨U,ownsRow.br V fun g R=>W g (.inr R),I,K.br fun g R=>W g (.inl R)⟩
theorem gE.bw(h:gE w S v n qs)(W:∀g,S g->S' g):gE w S' v n qs:=by
 obtain⟨U,V,I,K⟩:=h;exact⟨U,V,I,K.bw W⟩
theorem gE.len(h:gE w S v n qs):qs.length=n:=by
 obtain⟨U,V,I,K⟩:=h;rw[<-K.1,I]
theorem gE.form(h:gE w S v n qs):∃a c,v= .slice a n c/\n<=c:=by
 obtain⟨U,V,I,K⟩:=h;exact fQ V
theorem gE.le(h:gE w S v n qs):n<=maxLen:=by
 obtain⟨U,V,I,K⟩:=h;rcases V.2 with⟨_,h0⟩|⟨_,_,_,_,_,_,V,I,_⟩
 ·omega
 ·omega
theorem gE.read(h:gE w S v n qs):fL w (fun g=>v.ownBlock=some g) S v qs:=by
 have hl:=h.len;have A:=h.le;obtain⟨U,V,I,K⟩:=h;refine⟨U,?_,K⟩;rw[hl];rcases V.2 with⟨rfl,rfl⟩|⟨g,cap,cur,rfl,hb,hc,Ph,Md,LL,Nr⟩
 ·refine⟨A,V.1,K.one,none,0,rfl,aE _,fun j u hu=>?_⟩;have:=V.1;rw[Nat.zero_mul]at this;rw[List.eq_nil_of_length_eq_zero this]at hu
  cases hu
 ·refine⟨A,V.1,K.one,_,cap,rfl,Ph,fun j u hu=>⟨_,rfl,rfl,?_⟩⟩;exact V.cells (g:=g) rfl j u hu
theorem gE.store{c n1 c1 n2 c2:Nat}{b b2:Bool}(h:gE w S (.slice a n c) n qs)(hj:j<n)(hf:cI w S (.agg #[.bool b,.slice a1 n1 c1,.bool b2,.slice a2 n2 c2]) q)(PJ:∀g,(Value.slice a n c).ownBlock=some g->¬S g)(X:Old S w):
  ∃g,a=some ⟨g,0,none⟩/\((⟨g,0,none⟩:Addr).add ((j:Int).toNat*4)).spot=none/\((⟨g,0,none⟩:Addr).add ((j:Int).toNat*4)).block=g/\
   (∀k,k<4->(w.cell? (((⟨g,0,none⟩:Addr).add ((j:Int).toNat*4)).add k)).isSome=true/\w.frozen? (((⟨g,0,none⟩:Addr).add ((j:Int).toNat*4)).add k)=false)/\
   ∀Y,Y=setCells w ((⟨g,0,none⟩:Addr).add ((j:Int).toNat*4)) [.bool b,.slice a1 n1 c1,.bool b2,.slice a2 n2 c2]->gE Y S (.slice a n c) n (qs.set j q)/\w.grownBy Y (some g)/\Y.heap.size=w.heap.size:=by
 obtain⟨U,V,I,K⟩:=h;obtain⟨g,rfl,Kt,MG,Ll,LL⟩:=nM (nv:=[.bool b,.slice a1 n1 c1,.bool b2,.slice a2 n2 c2]) V rfl hj rfl (by decide);have LH:(⟨g,0,none⟩:Addr).add ((j:Int).toNat*4)=⟨g,j*4,none⟩:=by rw[aG,cZ,aU]
 refine⟨g,rfl,by rw[LH],by rw[LH],fun k W=>by rw[LH];exact Kt k W,fun Y Ln=>?_⟩;rw[LH]at Ln;subst Ln;have QS:=jU (G:=[.bool b,.slice a1 n1 c1,.bool b2,.slice a2 n2 c2]) K.xd (show j<U.length by omega);rw[QS]at MG;have Ma:∀x,S x->(setCells w ⟨g,j*4,none⟩ [.bool b,.slice a1 n1 c1,.bool b2,.slice a2 n2 c2]).heap[x]? =w.heap[x]? :=fun x F=>
  Ll.block x (X x F) fun e=>PJ g rfl (by injection e with e;rw[<-e];exact F)
 exact⟨⟨_,MG,by simpa using I,(K.br Ma).set (hf.br Ma).yT⟩,Ll,LL⟩
structure dV(w:World)(S:Nat->Prop)(B:Nat)(iv:Iv)(v:Value)(n:Nat)(qs:List Rat):Prop where
 row:gE w (fun g=>Cv S B iv g/\v.ownBlock≠some g) v n qs
 new:∀g,v.ownBlock=some g->Cv FF B iv g
theorem dV.br(h:dV w S B iv v n qs)(W:∀g,Cv S B iv g->Y.heap[g]? =w.heap[g]?):dV Y S B iv v n qs:=
 ⟨h.row.br fun g R=>W g (R.elim (fun h=>h.1) fun R=>(h.new g R).elim (fun h=>h.elim) .inr),h.new⟩
theorem dV.rel(h:dV w S B iv v n qs)(r:Rel H nx iv B w O J)(X:∀g,S g->g<B):dV J S B iv v n qs:=h.br fun _ R=>Rel.same r X R
theorem dV.bu(h:dV w S B iv v n qs)(r:Rel H nx iv B w O J)(X:∀g,S g->g<B)(Z:Ext J Y)(hm:∀p,p∈iv->p∈E):dV Y S B E v n qs:=
 have I:=(h.rel r X).br fun g R=>Z.block g (Rel.old r X g R)
 ⟨I.row.bw fun _ R=>⟨R.1.mono hm,R.2⟩,fun g R=>(I.new g R).mono hm⟩
theorem dV.df(h:dV Y FF J.heap.size [(J.heap.size,Y.heap.size)] v n qs)(hB:B<=J.heap.size)(hm:(J.heap.size,Y.heap.size)∈iv):dV Y S B iv v n qs:=by
 have key:∀g {F9:Nat->Prop},Cv FF J.heap.size [(J.heap.size,Y.heap.size)] g->Cv F9 B iv g:=fun g F9 R=>by
  rcases R with R|⟨V,lo,N,I,K,h4⟩
  ·exact R.elim
  ·simp at I;obtain⟨rfl,rfl⟩:=I;exact .inr ⟨by omega,_,_,hm,K,h4⟩
 exact⟨h.row.bw fun g R=>⟨key g R.1,R.2⟩,fun g R=>key g (h.new g R)⟩
theorem dV.read(h:dV w S B iv v n qs):fL w (Cv S B iv) (Cv S B iv) v qs:=
 h.row.read.bw (fun g R=>(h.new g R).elim (fun h=>h.elim) .inr) fun _ R=>R.1
end
section
variable{S S':Nat->Prop}{H:Hp}{nx n:Nat}{iv E:Iv}{B:Nat}{w J Y:World}{O:Nat->Sx.cd}{v:Value}{qs:List Rat}
theorem dV.store{c n1 c1 n2 c2:Nat}{b b2:Bool}(h:dV J S B iv (.slice a n c) n qs)(hj:j<n)(hf:cI J (fun g=>Cv S B iv g/\(Value.slice a n c).ownBlock≠some g) (.agg #[.bool b,.slice a1 n1 c1,.bool b2,.slice a2 n2 c2]) q)
  (r:Rel H nx iv B w O J) (X:∀g,S g->g<B):
  ∃g,a=some ⟨g,0,none⟩/\((⟨g,0,none⟩:Addr).add ((j:Int).toNat*4)).spot=none/\
   (∀k,k<4->(J.cell? (((⟨g,0,none⟩:Addr).add ((j:Int).toNat*4)).add k)).isSome=true/\J.frozen? (((⟨g,0,none⟩:Addr).add ((j:Int).toNat*4)).add k)=false)/\
   (∀id b,cO H id=some b->(O id).nil=false->(O id).g≠((⟨g,0,none⟩:Addr).add ((j:Int).toNat*4)).block)/\Cv FF B iv g/\
   ∀Y,Y=setCells J ((⟨g,0,none⟩:Addr).add ((j:Int).toNat*4)) [.bool b,.slice a1 n1 c1,.bool b2,.slice a2 n2 c2]->dV Y S B iv (.slice a n c) n (qs.set j q)/\J.grownBy Y (some g)/\Y.heap.size=J.heap.size:=by
 obtain⟨g,rfl,V,I,K,h4⟩:=h.row.store hj hf (fun g R F=>F.2 R) (fun x F=>Rel.old r X x F.1);refine⟨g,rfl,V,K,fun id b hb A=>by rw[I];exact Rel.not r X (Hr (h.new g rfl)) id b hb A,h.new g rfl,fun Y Ln=>?_⟩;obtain⟨k1,k2,k3⟩:=h4 Y Ln;exact⟨⟨k1,h.new⟩,k2,k3⟩
end
end Go.Ex
namespace Go.Sx
open Go Go.Ex Go.Proofs
variable{G:List Value}{O:Nat->Sx.cd}
theorem Sub.wi{B:Nat}{l tl:Env}{nx:Nat}{H tH:Hp}{iv:Iv}{w J:World}{id t n c:Nat}{e:TypeId}(r:Rel H nx iv B w O J)(LK:cO H id=some (.arr e G))(ht:eX l t=some (.o (.s id 0 n c)))
  (hs:rS H tH) (ho:yx id tH=true) (V:AJ l tl) (I:lj nx tl):
  Sub B l nx O J ⟨(t,.o (.v (.slice (some ⟨(O id).g,0,none⟩) n c)))::tl,tH,nx,((O id).g,(O id).g+1)::iv,J⟩:=by
 refine⟨O,r.free LK (by simp) (r.fits LK).1 hs ho,fun u v hv=>?_⟩;rw[dm]at hv;split at hv
 ·rename_i e;subst e;injection hv with hv;subst hv;exact⟨trivial,_,ht,rfl⟩
 ·exact⟨I.get u v hv,v,V.get u v hv,rfl⟩
end Go.Sx
namespace Go.Ex
open Go Go.Sx Go.Proofs
end Go.Ex
namespace Go.Ex
open Go Go.Sx Go.Proofs
def dL(w:World)(S:Nat->Prop)(rv:List Value)(G9:List (List Rat)):Prop:=rv.length=G9.length/\(∀u∈rv,u.oneCell'=true)/\∀(i:Nat) u r,rv[i]? =some u->G9[i]? =some r->cF w S u r
section
variable{S S':Nat->Prop}{H:Hp}{nx:Nat}{iv E:Iv}{B:Nat}{w J Y:World}{O:Nat->Sx.cd}{rv:List Value}{G9:List (List Rat)}
theorem dL.br(h:dL w S rv G9)(W:∀g,S g->Y.heap[g]? =w.heap[g]?):dL Y S rv G9:=⟨h.1,h.2.1,fun i u x V I=>cF.br (h.2.2 i u x V I) W⟩
theorem dL.bw(h:dL w S rv G9)(W:∀g,S g->S' g):dL w S' rv G9:=⟨h.1,h.2.1,fun i u x V I=>cF.bw (h.2.2 i u x V I) W⟩
theorem dL.rel(h:dL w (Cv S B iv) rv G9)(r:Rel H nx iv B w O J)(X:∀g,S g->g<B):dL J (Cv S B iv) rv G9:=h.br fun _ R=>Rel.same r X R
theorem dL.push{u:Value}{x:List Rat}(h:dL w S rv G9)(hu:u.oneCell'=true)(F:cF w S u x):dL w S (rv++[u]) (G9++[x]):=by
 refine⟨by simp[h.1],fun v hv=>?_,fun i v y V I=>?_⟩
 ·rcases bG.1 hv with hv|hv
  ·exact h.2.1 v hv
  ·simp at hv;subst hv;exact hu
 ·rcases aO i rv.length with N|N
  ·rw[aJ N]at V;rw[aJ (by rw[<-h.1];exact N)]at I;exact h.2.2 i v y V I
  ·have NU:i=rv.length:=by have:=(aC.1 V).1;simp at this;omega
   subst NU;rw[aN (aE _),bC]at V;rw[h.1,aN (aE _),bC]at I;simp at V I;subst V I;exact F
end
end Go.Ex
namespace Go.Ex
theorem FT(s:List (List Rat)×List Nat)(c:Nat):(dH s c).2=s.2\/(dH s c).2=s.2++[c]:=by
 unfold dH;split
 ·dsimp only
  split
  ·exact .inl rfl
  ·exact .inr rfl
 ·exact .inl rfl
theorem gb(M:List (List Rat)):∀c:Nat,(∀p∈((List.range c).foldl dH (M,[])).2,p<c)/\(((List.range c).foldl dH (M,[])).2).Pairwise (· < ·)/\((List.range c).filter fun j=>decide (j∉((List.range c).foldl dH (M,[])).2)).length+((List.range c).foldl dH (M,[])).2.length=c:=by
 intro c
 induction c with
 |zero=>simp
 |succ c ih=>
  rw[bc,List.foldl_append,List.foldl_cons,List.foldl_nil];generalize (List.range c).foldl dH (M,[])=s at*
  obtain⟨V,I,K⟩:=ih;have hc:c∉s.2:=fun h=>by have:=V c h;omega
  rcases FT s c with e|e
  ·rw[e];refine⟨fun p hp=>by have:=V p hp;omega,I,?_⟩;rw[List.filter_append,List.length_append];simp only[List.filter_cons,hc,not_false_eq_true,decide_true,if_true,List.filter_nil,List.length_singleton]
   omega
  ·rw[e];refine⟨fun p hp=>?_,?_,?_⟩
   ·rcases bG.1 hp with hp|hp
    ·have:=V p hp;omega
    ·simp at hp;omega
   ·rw[List.pairwise_append];exact⟨I,by simp,fun a ha b hb=>by simp at hb;subst hb;exact V a ha⟩
   ·rw[List.filter_append,List.length_append];have:(List.range c).filter (fun j=>decide (j∉s.2++[c]))=(List.range c).filter (fun j=>decide (j∉s.2)):=List.filter_congr fun j hj=>by
     have:=List.mem_range.1 hj;have Kq:j≠c:=by omega
     simp[Kq]
    have h0:(([c]:List Nat).filter fun j=>decide (j∉s.2++[c])).length=0:=by simp
    rw[this,List.length_append,List.length_singleton,h0];omega
end Go.Ex
namespace Go.Ex
open Go Go.Sx Go.Proofs
variable{G:List Value}{O:Nat->Sx.cd}
section
variable{S S':Nat->Prop}{H:Hp}{nx:Nat}{iv E:Iv}{B:Nat}{w J Y:World}{O:Nat->Sx.cd}{v:Value}{M:List (List (Int×Int))}
end
def eL(xs ys:List Rat):Nat->Rat
 |0=>0
 |i+1=>eL xs ys i+xs.getD i 0*ys.getD i 0
theorem wU{xs ys:List Rat}{h:Nat}(F:∀q∈xs,rl q+1<=h)(hy:∀q∈ys,rl q+1<=h)(I:2<=h):∀i:Nat,rl (eL xs ys i)<=2*h*i+2
 |0=>by rw[eL];exact a9 (by decide:rl 0<=2) (by omega)
 |i+1=>by
  have K:=wU F hy I i;have h4:=kz (eL xs ys i) (xs.getD i 0*ys.getD i 0);have h5:=jz (xs.getD i 0) (ys.getD i 0);have h6:=D6 F I i;have h7:=D6 hy I i;rw[eL,bS];omega
section
variable{S S':Nat->Prop}{H:Hp}{nx:Nat}{iv E:Iv}{B:Nat}{w J Y:World}{O:Nat->Sx.cd}{v:Value}{qs:List Rat}
end
section
variable{S S':Nat->Prop}{H:Hp}{nx:Nat}{iv E:Iv}{B:Nat}{w J Y:World}{O:Nat->Sx.cd}{v:Value}{M:List (List Rat)}
end
section
variable{S S':Nat->Prop}{H:Hp}{nx:Nat}{iv E:Iv}{B:Nat}{w J Y:World}{O:Nat->Sx.cd}{v:List Value}{M:List (List Rat)}
end
abbrev Jz(gm Do:Nat):Value:=.slice (some ⟨gm,0,none⟩) Do Do
def Ko(S:Nat->Prop)(B:Nat)(iv:Iv)(gm Do:Nat)(rv:List Value)(g:Nat):Prop:=Cv S B iv g/\¬Mb (Jz gm Do) rv g
structure KN(w:World)(S:Nat->Prop)(B:Nat)(iv:Iv)(gm Do n:Nat)(rv:List Value)(M:List (List Rat)):Prop where
 mat:Jn w (Ko S B iv gm Do rv) (Jz gm Do) rv n M
 xo:∀g,Mb (Jz gm Do) rv g->Cv FF B iv g
 rows:rv.length=Do
section
variable{S S':Nat->Prop}{H:Hp}{nx gm Do n:Nat}{iv E:Iv}{B:Nat}{w J Y:World}{O:Nat->Sx.cd}{rv:List Value}{M:List (List Rat)}
structure aAF(w:World)(S:Nat->Prop)(B:Nat)(iv:Iv)(gm Do n:Nat)(rv:List Value)(M:List (List Rat))(i:Nat)(vb:Value):Prop where
 out:w.ownsRow 0 T.row 1 (Jz gm Do) Do (rv.set i vb)
 was:∃w0,KN w0 S B iv gm Do n rv M/\∀g,Cv S B iv g->g≠gm->w.heap[g]? =w0.heap[g]?
end
section
variable{S:Nat->Prop}{H:Hp}{nx gm Do:Nat}{iv E:Iv}{B:Nat}{w J Y:World}{O:Nat->Sx.cd}{rv:List Value}{U:List (List Value)}{qs:List Rat}
end
inductive Tp where
 |nil
 |x (i:Nat) (t:Tp)
 |two (i:Nat) (t:Tp) (j:Nat) (u:Tp)
 |wi (id:Nat) (t:Tp)
section
variable{P:Program}{τ:l9}{ops:Array Oper}{B n nx:Nat}{l:Env}{H:Hp}{iv:Iv}{w J:World}{O:Nat->Sx.cd}{a:Act}
end
theorem qz{l tl:Env}{nx t id n:Nat}(A:(O id).nil=false)(ht:eX l t=some (.o (.w id n)))(V:AJ l tl)(I:lj nx tl):∀u v,eX ((t,.o (.v (.slice (some ⟨(O id).g,0,none⟩) n (O id).cap)))::tl) u=some v->v.sc nx/\∃v',eX l u=some v'/\v'.den O=v.den O:=fun u v hv=>by
 rw[dm]at hv;split at hv
 ·rename_i e;subst e;injection hv with hv;subst hv;exact⟨trivial,_,ht,by simp[SV.den,At.den,A]⟩
 ·exact⟨I.get u v hv,v,V.get u v hv,rfl⟩
theorem Hs{H:Hp}{nx:Nat}{iv:Iv}{B:Nat}{w J:World}(r:Rel H nx iv B w O J){id t m sz:Nat}(h:cO H id=some (.vec t sz G))(hm:G.length=m*sz)(Ov:m<=maxLen)(hs:0<sz)(h0:0<m)(V:∀u∈G,u.oneCell'=true):
  (O id).nil=false/\B<=(O id).g/\gi J (fun g=>g=(O id).g) sz (.slice (some ⟨(O id).g,0,none⟩) m (O id).cap) G m:=by
 rcases r.vec id t sz _ h with⟨A,rfl⟩|⟨A,spare,hb,hc,Md⟩
 ·have:=Nat.mul_pos h0 hs;simp at hm;omega
 ·refine⟨A,(r.low id _ h A).1,Ov,hm,V,some ⟨(O id).g,0,none⟩,(O id).cap,rfl,?_,fun j x F=>⟨_,rfl,rfl,?_⟩⟩
  ·have V:(G++spare).length=G.length+spare.length:=List.length_append;have I:m*sz<=(O id).cap*sz:=by omega
   exact Nat.le_of_mul_le_mul_right I hs
  ·rw[cZ,cell_of hb,aU,aJ (aC.1 F).1];exact F
end Go.Ex
namespace Go.Ex
section
variable{M:List (List Rat)}{b:List Rat}{n:Nat}
def dF(M:List (List Rat))(b:List Rat):List (List Rat):=M.mapIdx fun i r=>r++[b.getD i 0]
theorem iJ(hl:gH n M):gH (n+1) (dF M b):=fun r hr=>by
 obtain⟨i,N⟩:=aQ hr;unfold dF at N;rw[List.getElem?_mapIdx]at N
 cases F:M[i]? with
 |none=>rw[F]at N;cases N
 |some x=>
  rw[F]at N;injection N with N;subst N;rw[List.length_append,hl x (aD F)];rfl
theorem eH:(dF M b).length=M.length:=by simp[dF]
end
end Go.Ex
namespace Go.Ex
open Go Go.Sx Go.Proofs
variable{q:Rat}
section
variable{S:Nat->Prop}{H:Hp}{nx:Nat}{iv0:Iv}{B:Nat}{w J Y:World}{O:Nat->Sx.cd}{v:Value}{xs:List Rat}
end
theorem iM:rs q<0↔q<0:=by rw[rs,Int.sign_neg_iff,<-Int.not_le,Rat.num_nonneg,Rat.not_le]
theorem jD:0<rs q↔0<q:=by
 have h:=iM (q:= -q);rw[Io]at h;constructor
 ·intro k;have:=h.1 (by omega);grind
 ·intro k;have:=h.2 (by grind);omega
theorem Ci{p:Rat}:rs (p-q)<0↔p<q:=by rw[iM];constructor<;>intro h<;>grind
theorem Ch{p:Rat}:0<rs (p-q)↔q<p:=by rw[jD,<-Rat.lt_iff_sub_pos]
end Go.Ex
namespace Go.Ex
variable{G8 M:List (List Rat)}{s:List (List Rat)×List Nat}{pv:List Nat}{j:Nat}{p q:Nat->Nat}{u:Nat->Rat}
def jA:List Nat->(Nat->Rat)->Rat
 |[],_=>0
 |t::l,g=>g t+jA l g
theorem uh{g h:Nat->Rat}:∀{l:List Nat},(∀t∈l,g t=h t)->jA l g=jA l h
 |[],_=>rfl
 |t::l,e=>by show g t+_=h t+_;rw[e t aH,uh fun s hs=>e s (aB _ hs)]
theorem yC{g:Nat->Rat}:∀{l:List Nat},(∀t∈l,g t=0)->jA l g=0
 |[],_=>rfl
 |t::l,e=>by show g t+_=0;rw[e t aH,yC fun s hs=>e s (aB _ hs),bW]
theorem sh(g:Nat->Rat):∀l k:List Nat,jA (l++k) g=jA l g+jA k g
 |[],k=>(Rat.zero_add _).symm
 |t::l,k=>by show g t+jA (l++k) g=g t+jA l g+jA k g;rw[sh g l k,Rat.add_assoc]
theorem AX(g:Nat->Rat):∀l:List Nat,jA l (fun t=> -g t)= -jA l g
 |[]=>rfl
 |t::l=>by show -g t+jA l _= -(g t+jA l g);rw[AX g l,Rat.neg_add]
theorem si(p:Nat->Bool)(g:Nat->Rat):∀l:List Nat,jA l g=jA (l.filter p) g+jA (l.filter fun t=> !p t) g
 |[]=>(bW 0).symm
 |t::l=>by
  show g t+jA l g=_;rw[si p g l,List.filter_cons,List.filter_cons]
  cases p t with
  |true=>show _=g t+_+_;rw[Rat.add_assoc];rfl
  |false=>
   show _=jA (l.filter p) g+(g t+_)
   rw[<-Rat.add_assoc,Rat.add_comm (g t),Rat.add_assoc]
theorem ui{g:Nat->Rat}{s:Nat}:∀{l:List Nat},l.Nodup->s∈l->(∀t∈l,t≠s->g t=0)->jA l g=g s
 |[],_,hm,_=>by cases hm
 |t::l,A,hm,h=>by
  show g t+jA l g=g s;have OB:=List.nodup_cons.1 A;rcases List.mem_cons.1 hm with rfl|hm
  ·rw[yC fun u hu=>h u (aB _ hu) fun e=>OB.1 (e▸hu),bW]
  ·rw[h t aH (fun e=>OB.1 (e▸hm)),Rat.zero_add,ui OB.2 hm fun u hu=>h u (aB _ hu)]
theorem uj{l:List Rat}{i t:Nat}{v:Rat}:(l.set i v).getD t 0=if i=t/\i<l.length then v else l.getD t 0:=by
 simp only[List.getD,List.getElem?_set]
 by_cases h:i=t
 ·subst h;by_cases hl:i<l.length
  ·simp[hl]
  ·simp[hl]
 ·simp[h]
theorem uk{D':Nat->List Rat}{pv:List Nat}{f:Nat->Rat}(hF:∀i,D' (i+1)=(D' i).set (pv.getD i 0) (f i)){t:Nat}(ht:t∉pv):∀i,i<=pv.length->(D' i).getD t 0=(D' 0).getD t 0
 |0,_=>rfl
 |i+1,h=>by
  rw[hF,uj,aF fun e=>ht (by rw[<-e.1,List.getD,aA (by omega)];exact aV _)];exact uk hF ht i (by omega)
theorem FV(hp:pv.Pairwise (· < ·)){i:Nat}(Lt:j<i)(N:i<pv.length):pv.getD j 0<pv.getD i 0:=by
 rw[List.getD,List.getD,aA N,aA (by omega)];exact List.pairwise_iff_getElem.1 hp j i _ _ Lt
theorem mG{D':Nat->List Rat}{pv:List Nat}{f:Nat->Rat}{n:Nat}(hF:∀i,D' (i+1)=(D' i).set (pv.getD i 0) (f i))(hl:∀i,(D' i).length=n)(hp:pv.Pairwise (· < ·))(A:∀p∈pv,p<n){j:Nat}:∀i,i<=pv.length->j<i->(D' i).getD (pv.getD j 0) 0=f j
 |0,_,h=>by omega
 |i+1,h,hj=>by
  rw[hF,uj];rcases aO j i with V|V
  ·have:=FV hp V (by omega);rw[aF (by omega)];exact mG hF hl hp A i (by omega) V
  ·have e:j=i:=by omega
   subst e;have hm:pv.getD j 0<(D' j).length:=by rw[hl];exact A _ (by rw[List.getD,aA (by omega)];exact aV _)
   rw[if_pos ⟨rfl,hm⟩]
abbrev gl(pv:List Nat)(n:Nat):List Nat:=(List.range n).filter fun c=>decide (c∉pv)
section
variable{M:List (List Rat)}{x:List Rat}{n:Nat}
end
structure Diff(FS:List (List Rat))(pv:List Nat)(n:Nat)(x:List Rat):Prop where
 up:pv.Pairwise (· < ·)
 lt:∀p∈pv,p<n
 le:pv.length<=FS.length
 unit:∀i j,i<pv.length->j<FS.length->cT FS j (pv.getD i 0)=if j=i then 1 else 0
 sum:∀j,j<FS.length->jA (List.range n) (fun t=>cT FS j t*x.getD t 0)=cT FS j n
section
variable{FS:List (List Rat)}{pv:List Nat}{n:Nat}{x:List Rat}
theorem pY{t:Nat}(h:t∈pv):∃j,j<pv.length/\pv.getD j 0=t:=by
 obtain⟨j,hj,rfl⟩:=List.mem_iff_getElem.1 h;exact⟨j,hj,by rw[List.getD,aA hj];rfl⟩
theorem nQ{c t:Nat}(ht:t∉pv)(hc:c<n):(fC FS pv n c pv.length).getD t 0=if t=c then 1 else 0:=by
 rw[uk (D':=fC FS pv n c) (fun i=>fm FS pv n c i) ht _ (aE _)];show((List.replicate n (0:Rat)).set c 1).getD t 0=_;rw[uj,aa];by_cases h:c=t
 ·rw[if_pos ⟨h,hc⟩,if_pos h.symm]
 ·rw[aF (fun e=>h e.1),aF (fun e=>h e.symm)];simp only[List.getD,List.getElem?_replicate]
  split<;>rfl
theorem Diff.Kk(h:Diff FS pv n x){c:Nat}(hj:j<pv.length):(fC FS pv n c pv.length).getD (pv.getD j 0) 0= -(cT FS j c):=
 mG (D':=fC FS pv n c) (f:=fun i=> -(cT FS i c)) (fun i=>fm FS pv n c i) (jG FS pv n c) h.up h.lt _ (aE _) hj
theorem qS{t:Nat}(ht:t∉pv):(fh FS pv n pv.length).getD t 0=0:=by
 rw[uk (D':=fh FS pv n) (fun i=>fo FS pv n i) ht _ (aE _)];show(List.replicate n (0:Rat)).getD t 0=0;simp only[List.getD,List.getElem?_replicate]
 split<;>rfl
theorem Diff.Ke(h:Diff FS pv n x)(hj:j<pv.length):(fh FS pv n pv.length).getD (pv.getD j 0) 0=cT FS j n:=
 mG (D':=fh FS pv n) (f:=fun i=>cT FS i n) (fun i=>fo FS pv n i) (jH FS pv n) h.up h.lt _ (aE _) hj
theorem pZ:(gl pv n).Nodup:=List.Pairwise.filter _ List.nodup_range
theorem jw{c:Nat}:c∈gl pv n↔c<n/\c∉pv:=by
 unfold gl;rw[List.mem_filter,List.mem_range,decide_eq_true_eq]
theorem Diff.rest(h:Diff FS pv n x){t:Nat}(ht:t<n):x.getD t 0+(fh FS pv n pv.length).getD t 0* -1=jA (gl pv n) fun c=>x.getD c 0*(fC FS pv n c pv.length).getD t 0:=by
 by_cases hp:t∈pv
 ·obtain⟨j,hj,rfl⟩:=pY hp;have hs:=h.sum j (Nat.lt_of_lt_of_le hj h.le);rw[si (fun c=>decide (c∉pv)),ui (s:=pv.getD j 0) (l:=(List.range n).filter fun t=> !decide (t∉pv)) (List.Pairwise.filter _ List.nodup_range) (List.mem_filter.2 ⟨List.mem_range.2 ht,by rw[bI fun e=>e hp];rfl⟩) (fun s hs Kq=>?_),h.unit j j hj (Nat.lt_of_lt_of_le hj h.le),if_pos rfl,bm]at hs
  ·rw[h.Ke hj,uh (h:=fun c=> -(cT FS j c*x.getD c 0)) fun c hc=>by rw[h.Kk hj,Rat.mul_neg,bg],AX,<-hs];generalize x.getD (pv.getD j 0) 0=q;generalize jA _ _=s;rw[Rat.mul_neg,Rat.mul_one,Rat.neg_add,<-Rat.add_assoc,Rat.add_comm q,Rat.add_assoc,Rat.add_neg_cancel,bW]
  ·have Li:s∈pv:=by simpa using(List.mem_filter.1 hs).2
   obtain⟨i,N,rfl⟩:=pY Li;rw[h.unit i j N (Nat.lt_of_lt_of_le hj h.le),aF (fun e=>Kq (by rw[e])),bD]
 ·rw[qS hp,bD,bW,ui (s:=t) pZ (jw.2 ⟨ht,hp⟩) fun c hc Kq=>by rw[nQ hp (jw.1 hc).1,aF (Ne.symm Kq),ai],nQ hp ht,if_pos rfl,Rat.mul_one]
theorem nR{k:Nat}(W:k<(gl pv n).length):(gl pv n).getD k 0∈gl pv n:=by rw[List.getD,aA W];exact aV W
theorem mH{k:Nat}{r:List Rat}(h:(dX FS pv n n)[k]? =some r):k<(gl pv n).length/\r=fC FS pv n ((gl pv n).getD k 0) pv.length:=by
 unfold dX at h;rw[aM]at h;obtain⟨c,hc,rfl⟩:=Option.map_eq_some_iff.1 h;refine⟨(aC.1 hc).1,?_⟩;rw[List.getD,hc];rfl
theorem FW{i k:Nat}(N:i<(gl pv n).length)(W:k<(gl pv n).length)(e:(gl pv n).getD i 0=(gl pv n).getD k 0):i=k:=by
 rw[List.getD,List.getD,aA N,aA W]at e;rcases Nat.lt_trichotomy i k with h|h|h
 ·exact absurd e (List.pairwise_iff_getElem.1 pZ i k N W h)
 ·exact h
 ·exact absurd e.symm (List.pairwise_iff_getElem.1 pZ k i W N h)
theorem uo{k i:Nat}{r s:List Rat}(hr:(dX FS pv n n)[k]? =some r)(hs:(dX FS pv n n)[i]? =some s):s.getD ((gl pv n).getD k 0) 0=if i=k then 1 else 0:=by
 obtain⟨W,-⟩:=mH hr;obtain⟨N,rfl⟩:=mH hs;have hm:=jw.1 (nR W);rw[nQ hm.2 (jw.1 (nR N)).1];by_cases h:i=k
 ·rw[h,if_pos rfl,if_pos rfl]
 ·rw[aF (fun e=>h (FW N W e.symm)),aF h]
end
theorem nS(f:Nat->Nat->Rat)(m:Nat):∀n,cM (fun i=>cM (f i) m) n=cM (fun j=>cM (fun i=>f i j) n) m
 |0=>(dD m).symm
 |n+1=>by
  show cM (fun i=>cM (f i) m) n+cM (f n) m=cM (fun j=>cM (fun i=>f i j) n+f n j) m;rw[fN,nS f m n]
theorem p9(x y:List Rat):∀n,eL x y n=cM (fun t=>x.getD t 0*y.getD t 0) n
 |0=>rfl
 |n+1=>by rw[eL,p9 x y n];rfl
theorem sk{f:Nat->Rat}:∀{n:Nat},(∀k,k<n->0<=f k)->0<=cM f n
 |0,_=>Rat.le_refl
 |n+1,h=>by
  have V:=sk (n:=n) fun k W=>h k (by omega);have I:=h n (by omega);show 0<=cM f n+f n;grind
theorem sn{f:Nat->Rat}:∀{n:Nat},(∀k,k<n->0<=f k)->cM f n<=0->∀k,k<n->f k=0
 |0,_,_,k,W=>by omega
 |n+1,h,h0,k,W=>by
  have V:=sk (n:=n) fun k W=>h k (by omega);have I:=h n (by omega);have K:cM f n+f n<=0:=h0;rcases aO k n with h4|h4
  ·exact sn (fun k W=>h k (by omega)) (by grind) k h4
  ·rw[show k=n by omega];grind
section
variable{m m':Mx}{n w p:Nat}{κ:Rat}{q:Nat->Rat}
end
def dK(G8:Mx)(r n:Nat)(v:Nat->Rat):Prop:=∃c:Nat->Rat,∀t,t<n->v t=cM (fun i=>c i*G8 i t) r
structure Rf(G8:Mx)(p:Nat->Nat)(r n:Nat):Prop where
 lt:∀i,i<r->p i<n
 mono:∀i j,i<j->j<r->p i<p j
 unit:∀i j,i<r->j<r->G8 j (p i)=if j=i then 1 else 0
 lead:∀i t,i<r->t<p i->G8 i t=0
section
variable{G8 D':Mx}{p q:Nat->Nat}{r s n:Nat}{v:Nat->Rat}
theorem Rf.coeff(h:Rf G8 p r n)(hv:dK G8 r n v):∀t,t<n->v t=cM (fun i=>v (p i)*G8 i t) r:=by
 obtain⟨c,hc⟩:=hv;intro t ht;rw[hc t ht];refine bq fun i N=>?_;rw[hc (p i) (h.lt i N),fD N fun k W Kq=>by rw[h.unit i k N W,aF Kq,ai],h.unit i i N N,if_pos rfl,Rat.mul_one]
theorem Rf.HZ(h:Rf G8 p r n)(hv:dK G8 r n v){t:Nat}(ht:t<n)(h0:v t≠0)(hz:∀k,k<t->v k=0):∃i,i<r/\p i=t:=by
 refine Decidable.byContradiction fun Of=>h0 ?_;rw[h.coeff hv t ht,bq (g:=fun _=>0) fun i N=>?_,dD];rcases Nat.lt_trichotomy (p i) t with V|V|V
 ·rw[hz _ V,bD]
 ·exact absurd ⟨i,N,V⟩ Of
 ·rw[h.lead i t N V,ai]
theorem Rf.IQ(h:Rf G8 p r n)(k:Rf D' q s n)(hE:∀i,i<r->dK D' s n (G8 i)){i:Nat}(N:i<r):∃j,j<s/\q j=p i:=
 k.HZ (hE i N) (h.lt i N) (by rw[h.unit i i N N,if_pos rfl];decide) fun t ht=>h.lead i t N ht
theorem Rf.FY(h:Rf G8 p r n)(k:Rf D' q s n)(hE:∀i,i<r->dK D' s n (G8 i))(hF:∀j,j<s->dK G8 r n (D' j)):∀i,i<r->i<s/\p i=q i:=by
 intro i
 induction i using Nat.strongRecOn with
 |ind i ih=>
  intro N;obtain⟨j,hj,e1⟩:=h.IQ k hE N;have Lc:i<=j:=by
   refine Nat.le_of_not_lt fun LG=>?_;have V:=(ih j LG (by omega)).2;have I:=h.mono j i LG N;omega
  have his:i<s:=by omega
  refine⟨his,?_⟩;obtain⟨l,hl,e2⟩:=k.IQ h hF his;have hli:i<=l:=by
   refine Nat.le_of_not_lt fun LG=>?_;have V:=(ih l LG hl).2;have I:=k.mono l i LG his;omega
  have K:q i<=q j:=by
   rcases aO i j with h4|h4
   ·exact Nat.le_of_lt (k.mono i j h4 hj)
   ·rw[show i=j by omega];exact aE _
  have h5:p i<=p l:=by
   rcases aO i l with h4|h4
   ·exact Nat.le_of_lt (h.mono i l h4 hl)
   ·rw[show i=l by omega];exact aE _
  omega
theorem Rf.one(h:Rf G8 p r n)(k:Rf D' q s n)(hE:∀i,i<r->dK D' s n (G8 i))(hF:∀j,j<s->dK G8 r n (D' j)):r=s/\(∀i,i<r->p i=q i)/\∀i t,i<r->t<n->G8 i t=D' i t:=by
 have V:=h.FY k hE hF;have I:=k.FY h hF hE;have hrs:r=s:=by
  rcases Nat.lt_trichotomy r s with K|K|K
  ·have:=(I r K).1;omega
  ·exact K
  ·have:=(V s K).1;omega
 refine⟨hrs,fun i N=>(V i N).2,fun i t N ht=>?_⟩;rw[k.coeff (hE i N) t ht,fD (i:=i) (by omega) fun j hj Kq=>by rw[<-(V j (by omega)).2,h.unit j i (by omega) N,aF (Ne.symm Kq),bD],<-(V i N).2,h.unit i i N N,if_pos rfl,bm]
end
theorem dK.row{G8:Mx}{r n i:Nat}(N:i<r):dK G8 r n (G8 i):=⟨fun k=>if k=i then 1 else 0,fun t _=>by
 rw[fD N fun k _ Kq=>by simp only[aF Kq,bD]]
 simp only[if_pos,bm]⟩
theorem dK.add{G8:Mx}{r n:Nat}{v:Nat->Rat}(h:dK G8 r n u)(k:dK G8 r n v)(x:Rat):dK G8 r n fun t=>u t+x*v t:=by
 obtain⟨c,hc⟩:=h;obtain⟨d,hd⟩:=k;refine⟨fun i=>c i+x*d i,fun t ht=>?_⟩;show u t+x*v t=cM (fun i=>(c i+x*d i)*G8 i t) r;rw[hc t ht,hd t ht,<-da,<-fN];exact bq fun i _=>by grind
theorem dK.mul{G8:Mx}{r n:Nat}(h:dK G8 r n u)(x:Rat):dK G8 r n fun t=>u t*x:=by
 obtain⟨c,hc⟩:=h;refine⟨fun i=>c i*x,fun t ht=>?_⟩;show u t*x=cM (fun i=>(c i*x)*G8 i t) r;rw[hc t ht,<-oY];exact bq fun i _=>by grind
theorem dK.congr{G8:Mx}{r n:Nat}{v:Nat->Rat}(h:dK G8 r n u)(e:∀t,t<n->v t=u t):dK G8 r n v:=by
 obtain⟨c,hc⟩:=h;exact⟨c,fun t ht=>by rw[e t ht,hc t ht]⟩
theorem dK.trans{G8 D':Mx}{r s n:Nat}{v:Nat->Rat}(h:dK G8 r n v)(k:∀i,i<r->dK D' s n (G8 i)):dK D' s n v:=by
 obtain⟨c,hc⟩:=h;have key:∀m,m<=r->dK D' s n fun t=>cM (fun i=>c i*G8 i t) m:=by
  intro m
  induction m with
  |zero=>intro _;exact⟨fun _=>0,fun t _=>by rw[bq (g:=fun _=>0) fun i _=>bD _,dD];rfl⟩
  |succ m ih=>
   intro hm;exact(ih (by omega)).add (k m (by omega)) (c m)
 exact(key r (aE _)).congr fun t ht=>hc t ht
def FZ(s:List (List Rat)×List Nat):Prop:=(∀i j,i<j->j<s.2.length->s.2.getD i 0<s.2.getD j 0)/\∀i t,i<s.2.length->t<s.2.getD i 0->cT s.1 i t=0
theorem FZ.step{n c:Nat}(h:FZ s)(hr:JX n c s)(hc:c<n):FZ (dH s c):=by
 obtain⟨hl,hle,hz,NW,hu⟩:=hr;rcases jO c hle with⟨e,-⟩|⟨k,V,I,K,e⟩
 ·rw[e];exact h
 ·obtain⟨r1,r2⟩:=mF hl V I K e;have e2:(dH s c).2=s.2++[c]:=by rw[e]
  have hold:∀i,i<s.2.length->(dH s c).2.getD i 0=s.2.getD i 0:=fun i N=>by rw[e2,List.getD,aJ N,<-List.getD]
  have Pb:(dH s c).2.getD s.2.length 0=c:=by rw[e2,List.getD,aN (aE _),bC];rfl
  have LG:∀i,i<s.2.length->s.2.getD i 0<c:=fun i N=>NW _ (by rw[List.getD,aA N];exact aV _);have hlen:(dH s c).2.length=s.2.length+1:=by rw[e2];simp
  refine⟨fun i j Lt hj=>?_,fun i t N ht=>?_⟩
  ·rw[hlen]at hj;rcases aO j s.2.length with h4|h4
   ·rw[hold i (by omega),hold j h4];exact h.1 i j Lt h4
   ·rw[show j=s.2.length by omega,Pb,hold i (by omega)];exact LG i (by omega)
  ·rw[hlen]at N;rcases aO i s.2.length with h4|h4
   ·rw[hold i h4]at ht;have h5:=LG i h4;rw[r2 i (by omega) (by omega) t (by omega),hz k t V I (by omega),aF (by omega),h.2 i t h4 ht,bD,ai,Rat.zero_add]
   ·rw[show i=s.2.length by omega]at ht ⊢;rw[Pb]at ht;rw[r1,hz k t V I ht,bD]
theorem qT{M:List (List Rat)}{n:Nat}(hl:gH n M):∀cols,cols<=n->FZ (cB M cols)
 |0,_=>⟨fun _ _ _ h=>(by cases h),fun _ _ h=>(by cases h)⟩
 |c+1,h=>by
  have ih:=qT hl c (by omega);have hr:=dW hl c (by omega);unfold cB at ih hr ⊢;rw[bc,List.foldl_append];exact ih.step hr (by omega)
theorem CD{n:Nat}(hl:gH n M):Rf (cT (cB M n).1) (fun i=>(cB M n).2.getD i 0) (cB M n).2.length n:=by
 obtain⟨V,I,K,h4,h5⟩:=dW hl n (aE _);obtain⟨k1,k2⟩:=qT hl n (aE _);refine⟨fun i N=>h4 _ (by rw[List.getD,aA N];exact aV _),k1,fun i j N hj=>h5 i j N (by omega),k2⟩
theorem H0{c n:Nat}(hl:gH n s.1)(hle:s.2.length<=s.1.length):(∀j,j<s.1.length->dK (cT s.1) s.1.length n (cT (dH s c).1 j))/\∀j,j<s.1.length->dK (cT (dH s c).1) s.1.length n (cT s.1 j):=by
 rcases jO c hle with⟨e,-⟩|⟨k,V,I,K,e⟩
 ·rw[e];exact⟨fun j hj=>dK.row hj,fun j hj=>dK.row hj⟩
 ·obtain⟨r1,r2⟩:=mF hl V I K e;have hp:s.2.length<s.1.length:=by omega
  have a1:dK (cT s.1) s.1.length n (cT (dH s c).1 s.2.length):=((dK.row I).mul (1 / cT s.1 k c)).congr fun t _=>r1 t;have b1:dK (cT (dH s c).1) s.1.length n (cT s.1 k):=((dK.row hp).mul (cT s.1 k c)).congr fun t _=>by rw[r1,Rat.mul_assoc,bg (1 / _),ug K,Rat.mul_one]
  refine⟨fun j hj=>?_,fun j hj=>?_⟩
  ·by_cases h4:j=s.2.length
   ·rw[h4];exact a1
   ·exact((dK.row (show (if j=k then s.2.length else j)<s.1.length by split<;>omega)).add (dK.row I) (-(cT s.1 (if j=k then s.2.length else j) c)*(1 / cT s.1 k c))).congr fun t ht=>by rw[r2 j hj h4 t ht];grind
  ·by_cases h4:j=k
   ·rw[h4];exact b1
   ·obtain⟨i,N,Kq,Lt⟩:∃i,i<s.1.length/\i≠s.2.length/\(if i=k then s.2.length else i)=j:=by
     by_cases h5:j=s.2.length
     ·exact⟨k,I,fun e6=>h4 (h5.trans e6.symm),by rw[if_pos rfl,h5]⟩
     ·exact⟨j,hj,h5,aF h4⟩
    refine((dK.row N).add (dK.row hp) (cT s.1 j c)).congr fun t ht=>?_;rw[r2 i N Kq t ht,Lt,r1];grind
theorem jx{M:List (List Rat)}{n:Nat}(hl:gH n M):∀cols,cols<=n->(∀j,j<M.length->dK (cT M) M.length n (cT (cB M cols).1 j))/\∀j,j<M.length->dK (cT (cB M cols).1) M.length n (cT M j)
 |0,_=>⟨fun j hj=>dK.row hj,fun j hj=>dK.row hj⟩
 |c+1,h=>by
  obtain⟨i1,i2⟩:=jx hl c (by omega);have hr:=dW hl c (by omega);have V:=fA M c;have I:=H0 (c:=c) hr.1 hr.2.1;rw[V]at I;have e:(cB M (c+1))=dH (cB M c) c:=by unfold cB;rw[bc,List.foldl_append];rfl
  rw[e];exact⟨fun j hj=>(I.1 j hj).trans i1,fun j hj=>(i2 j hj).trans I.2⟩
theorem dK.cut{G8:Mx}{r m n:Nat}{v:Nat->Rat}(h:dK G8 m n v)(hz:∀i t,r<=i->i<m->t<n->G8 i t=0):dK G8 r n v:=by
 refine h.trans fun i N=>?_;rcases aO i r with V|V
 ·exact dK.row V
 ·exact⟨fun _=>0,fun t ht=>by rw[hz i t V N ht,bq (g:=fun _=>0) fun k _=>bD _,dD]⟩
theorem Ab{n r:Nat}{D':Mx}(hl:gH n M)(k:Rf D' q r n)(V:∀i,i<r->dK (cT M) M.length n (D' i))(I:∀j,j<M.length->dK D' r n (cT M j)):
  (cB M n).2.length=r/\(∀i,i<r->(cB M n).2.getD i 0=q i)/\∀i t,i<r->t<n->cT (cB M n).1 i t=D' i t:=by
 obtain⟨a1,a2⟩:=jx hl n (aE _);obtain⟨-,hle,hz,-,-⟩:=dW hl n (aE _);rw[fA]at hle hz;have h:=CD hl;obtain⟨e1,e2,e3⟩:=h.one k (fun i N=>(a1 i (by omega)).trans I) fun j hj=>((V j hj).trans a2).cut fun i t N hm ht=>hz i t N hm ht;exact⟨e1,fun i N=>e2 i (by omega),fun i t N ht=>e3 i t (by omega) ht⟩
structure Ru(G8:Mx)(p:Nat->Nat)(r n:Nat):Prop where
 lt:∀i,i<r->p i<n
 inj:∀i j,i<r->j<r->p i=p j->i=j
 unit:∀i j,i<r->j<r->G8 j (p i)=if j=i then 1 else 0
 lead:∀i t,i<r->t<p i->G8 i t=0
def kT(G8:Mx)(p:Nat->Nat)(r:Nat)(v:Nat->Rat)(k t:Nat):Rat:=v t-cM (fun i=>if p i<k then v (p i)*G8 i t else 0) r
theorem Fa(G8:Mx)(p:Nat->Nat)(r:Nat)(v:Nat->Rat)(t:Nat):kT G8 p r v 0 t=v t:=by
 unfold kT;rw[bq (g:=fun _=>0) fun i _=>aF (by omega),dD];grind
section
variable{G8:Mx}{p:Nat->Nat}{r n:Nat}{v:Nat->Rat}
theorem Fb{k t:Nat}(h:∀i,i<r->p i≠k):kT G8 p r v (k+1) t=kT G8 p r v k t:=by
 unfold kT;rw[bq fun i N=>?_];have:=h i N;by_cases V:p i<k
 ·rw[if_pos V,if_pos (by omega)]
 ·rw[aF V,aF (by omega)]
theorem Ip(h:Ru G8 p r n){i:Nat}(N:i<r):kT G8 p r v (p i) (p i)=v (p i):=by
 unfold kT;rw[bq (g:=fun _=>0) fun j hj=>?_,dD]
 ·grind
 ·by_cases V:p j<p i
  ·rw[if_pos V,h.unit i j N hj,aF (fun e=>by rw[e]at V;omega),ai]
  ·rw[aF V]
theorem Fe(h:Ru G8 p r n){i t:Nat}(N:i<r):kT G8 p r v (p i+1) t=kT G8 p r v (p i) t+ -(kT G8 p r v (p i) (p i))*G8 i t:=by
 rw[Ip h N];unfold kT;have e:cM (fun j=>if p j<p i+1 then v (p j)*G8 j t else 0) r=cM (fun j=>(if p j<p i then v (p j)*G8 j t else 0)+(if j=i then v (p i)*G8 i t else 0)) r:=by
  refine bq fun j hj=>?_;by_cases V:j=i
  ·subst V;rw[if_pos (by omega),aF (by omega),if_pos rfl,Rat.zero_add]
  ·have I:p j≠p i:=fun e=>V (h.inj j i hj N e);rw[aF V,bW];by_cases K:p j<p i
   ·rw[if_pos K,if_pos (by omega)]
   ·rw[aF K,aF (by omega)]
 rw[e,fN,fD N fun k _ Kq=>aF Kq,if_pos rfl];grind
theorem DJ(h:Ru G8 p r n){i:Nat}(N:i<r):kT G8 p r v n (p i)=0:=by
 unfold kT;rw[fD N fun k W Kq=>?_,if_pos (h.lt i N),h.unit i i N N,if_pos rfl]
 ·grind
 ·rw[if_pos (h.lt k W),h.unit i k N W,aF Kq,ai]
end
def j5(G8:Mx)(r:Nat)(u:Nat->Rat)(k:Nat):Mx:=fun i t=>if i=r then u t / u k else G8 i t+ -(G8 i k)*(u t / u k)
theorem Ru.push{G8:Mx}{r n k:Nat}(h:Ru G8 p r n)(W:k<n)(hu:∀i,i<r->u (p i)=0)(h0:u k≠0)(hz:∀t,t<k->u t=0):
  Ru (j5 G8 r u k) (fun i=>if i=r then k else p i) (r+1) n:=by
 have Kq:∀i,i<r->p i≠k:=fun i N e=>h0 (e▸hu i N);have Mq:u k / u k=1:=by rw[bf,Rat.mul_inv_cancel _ h0]
 have Ky:∀i,i<r->u (p i) / u k=0:=fun i N=>by rw[hu i N,bf,bD]
 refine⟨fun i N=>?_,fun i j N hj e=>?_,fun i j N hj=>?_,fun i t N ht=>?_⟩
 ·split
  ·exact W
  ·exact h.lt i (by omega)
 ·by_cases V:i=r
  ·by_cases I:j=r
   ·omega
   ·rw[if_pos V,aF I]at e;exact absurd e.symm (Kq j (by omega))
  ·by_cases I:j=r
   ·rw[aF V,if_pos I]at e;exact absurd e (Kq i (by omega))
   ·rw[aF V,aF I]at e;exact h.inj i j (by omega) (by omega) e
 ·unfold j5;by_cases V:i=r
  ·rw[if_pos V];by_cases I:j=r
   ·rw[if_pos I,if_pos (by omega),Mq]
   ·rw[aF I,aF (by omega),Mq];grind
  ·rw[aF V];by_cases I:j=r
   ·rw[if_pos I,aF (by omega),Ky i (by omega)]
   ·rw[aF I,Ky i (by omega),ai,bW];exact h.unit i j (by omega) (by omega)
 ·unfold j5;by_cases V:i=r
  ·rw[if_pos V]at ht;rw[if_pos V,hz t ht,bf,bD]
  ·rw[aF V]at ht;rw[aF V,h.lead i t (by omega) ht,Rat.zero_add];rcases aO t k with I|I
   ·rw[hz t I,bf,bD,ai]
   ·rw[h.lead i k (by omega) (by omega)];grind
def iy(G8:Mx)(r:Nat)(v:Nat->Rat):Mx:=fun i t=>if i=r then v t else G8 i t
section
variable{G8:Mx}{p:Nat->Nat}{r n k:Nat}{u v:Nat->Rat}
theorem EO(i:Nat)(N:i<r):dK (iy G8 r v) (r+1) n (G8 i):=(dK.row (show i<r+1 by omega)).congr fun t _=>by unfold iy;rw[aF (by omega)]
theorem Iq(hu:∀t,t<n->u t=kT G8 p r v n t)(hl:∀i,i<r->p i<n):dK (iy G8 r v) (r+1) n u:=by
 refine⟨fun i=>if i=r then 1 else -(v (p i)),fun t ht=>?_⟩;rw[hu t ht];show kT G8 p r v n t=cM (fun i=>(if i=r then 1 else -(v (p i)))*iy G8 r v i t) r+(if r=r then 1 else -(v (p r)))*iy G8 r v r t;rw[if_pos rfl,bq (g:=fun i=> -(v (p i)*G8 i t)) fun i N=>by unfold iy;rw[aF (by omega),aF (by omega),Rat.neg_mul],lL];unfold kT iy;rw[if_pos rfl,bq (g:=fun i=>v (p i)*G8 i t) fun i N=>if_pos (hl i N)];grind
theorem Ff(hu:dK (iy G8 r v) (r+1) n u):∀i,i<r+1->dK (iy G8 r v) (r+1) n (j5 G8 r u k i):=fun i N=>by
 by_cases V:i=r
 ·exact(hu.mul (1 / u k)).congr fun t _=>by unfold j5;rw[if_pos V,bf,bf,bm]
 ·exact((EO i (by omega)).add hu (-(G8 i k)*(1 / u k))).congr fun t _=>by unfold j5;rw[aF V,bf,bf];grind
theorem DK(h0:u k≠0):dK (j5 G8 r u k) (r+1) n u:=((dK.row (show r<r+1 by omega)).mul (u k)).congr fun t _=>by
 unfold j5;rw[if_pos rfl,Rat.div_mul_cancel h0]
theorem oZ(h0:u k≠0)(i:Nat)(N:i<r):dK (j5 G8 r u k) (r+1) n (G8 i):=((dK.row (show i<r+1 by omega)).add (DK h0) (G8 i k / u k)).congr fun t _=>by
 unfold j5;rw[aF (by omega),bf,bf];grind
theorem yD(h0:u k≠0)(hu:∀t,t<n->u t=kT G8 p r v n t)(hl:∀i,i<r->p i<n):dK (j5 G8 r u k) (r+1) n v:=by
 have V:dK (iy G8 r u) (r+1) n v:=by
  refine⟨fun i=>if i=r then 1 else v (p i),fun t ht=>?_⟩;show v t=cM (fun i=>(if i=r then 1 else v (p i))*iy G8 r u i t) r+(if r=r then 1 else v (p r))*iy G8 r u r t;rw[if_pos rfl,bq (g:=fun i=>v (p i)*G8 i t) fun i N=>by unfold iy;rw[aF (by omega),aF (by omega)]];unfold iy;rw[if_pos rfl,hu t ht];unfold kT;rw[bq (g:=fun i=>v (p i)*G8 i t) fun i N=>if_pos (hl i N)];grind
 refine V.trans fun i N=>?_;by_cases I:i=r
 ·exact(DK h0).congr fun t _=>by unfold iy;rw[if_pos I]
 ·exact(oZ h0 i (by omega)).congr fun t _=>by unfold iy;rw[aF I]
end
def kY(row rP:List Rat)(by_:Rat):List Rat:=row.mapIdx (ue (-by_) rP)
theorem qU(row rP:List Rat)(b:Rat):(kY row rP b).length=row.length:=List.length_mapIdx
theorem uw(row rP:List Rat):kY row rP 0=row:=by
 refine bJ fun j=>?_;rw[kY,List.getElem?_mapIdx]
 cases row[j]? with
 |none=>rfl
 |some q=>exact congrArg some (by rw[ue,Rat.neg_zero,bD,bW])
def ml(row:List Rat):Nat->Nat->Nat
 |0,k=>k
 |f+1,k=>if row.getD k 0=0 then ml row f (k+1)else k
def qV(row:List Rat)(cols:Nat):Nat:=ml row cols 0
theorem Fh{row:List Rat}{k:Nat}:∀(f j:Nat),(∀i,j<=i->i<j+k->row.getD i 0=0)->k<=f->(k<f->row.getD (j+k) 0≠0)->ml row f j=j+k:=by
 induction k with
 |zero=>
  intro f j _ _ h
  cases f with
  |zero=>rfl
  |succ f=>rw[ml,aF (by have:=h (by omega);rwa [bj]at this)];rfl
 |succ k ih=>
  intro f j h0 hf h
  cases f with
  |zero=>omega
  |succ f=>
   rw[ml,if_pos (h0 j (aE _) (by omega)),ih f (j+1) (fun i V I=>h0 i (by omega) (by omega)) (by omega) (fun V=>by rw[Nat.add_assoc,Nat.add_comm 1 k];exact h (by omega))];omega
theorem DL{row:List Rat}{cols k:Nat}(h0:∀i,i<k->row.getD i 0=0)(W:k<=cols)(h:k<cols->row.getD k 0≠0):qV row cols=k:=by
 rw[qV,Fh (k:=k) cols 0 (fun i _ I=>h0 i (by omega)) W (fun V=>by rw[aU];exact h V),aU]
abbrev tT:=List (List Rat)×List (Option Nat)×List Nat
def ed(G8:List (List Rat))(at_:List (Option Nat))(row:List Rat):Nat->List Rat
 |0=>row
 |k+1=>match at_.getD k none with
  |some j=>kY (ed G8 at_ row k) (G8.getD j []) ((ed G8 at_ row k).getD k 0)
  |none=>ed G8 at_ row k
theorem fy(G8:List (List Rat))(at_:List (Option Nat))(row:List Rat):∀k,(ed G8 at_ row k).length=row.length
 |0=>rfl
 |k+1=>by
  rw[ed];split
  ·rw[qU,fy G8 at_ row k]
  ·exact fy G8 at_ row k
def fJ(G8:List (List Rat))(u:List Rat)(p i:Nat):List (List Rat):=G8.mapIdx fun j r=>if j<i then kY r u (r.getD p 0)else r
def jI(cols:Nat)(s:tT)(i:Nat)(row:List Rat):tT:=
 let r:=ed s.1 s.2.1 row cols
 let p:=qV r cols
 if p=cols then s else
  let u:=r.map (· / r.getD p 0)
  (fJ s.1 u p s.1.length++[u],s.2.1.set p (some s.1.length),s.2.2++[i])
def fp(M:List (List Rat))(cols:Nat):Nat->tT
 |0=>([],List.replicate cols none,[])
 |i+1=>jI cols (fp M cols i) i (M.getD i [])
def cN(s:tT):Nat->List (List Rat)×List Nat×List Nat
 |0=>([],[],[])
 |k+1=>match s.2.1.getD k none with
  |some r=>((cN s k).1++[s.1.getD r []],(cN s k).2.1++[k],(cN s k).2.2++[s.2.2.getD r 0])
  |none=>cN s k
def dI(M:List (List Rat))(cols:Nat):List (List Rat)×List Nat×List Nat:=cN (fp M cols M.length) cols
structure qW(n cols i:Nat)(s:tT):Prop where
 len:gH n s.1
 at_:s.2.1.length=cols
 rP:s.2.2.length=s.1.length
 lt:∀(k r:Nat),s.2.1[k]? =some (some r)->r<s.1.length
 le:s.1.length<=i
 fr:∀j∈s.2.2,j<i
theorem eh(G8:List (List Rat))(u:List Rat)(p i:Nat):(fJ G8 u p i).length=G8.length:=List.length_mapIdx
theorem CE(G8:List (List Rat))(u:List Rat)(p:Nat):fJ G8 u p 0=G8:=by
 refine bJ fun j=>?_;rw[fJ,List.getElem?_mapIdx]
 cases G8[j]? <;>rfl
theorem Ad{u:List Rat}{p i:Nat}{r:List Rat}(h:G8[i]? =some r):(fJ G8 u p i)[i]? =some r:=by
 rw[fJ,List.getElem?_mapIdx,h];exact congrArg some (aF (Nat.lt_irrefl i))
theorem ux{u:List Rat}{p i:Nat}{r:List Rat}(h:G8[i]? =some r):fJ G8 u p (i+1)=(fJ G8 u p i).set i (kY r u (r.getD p 0)):=by
 refine bJ fun j=>?_;have N:=(aC.1 h).1;by_cases hj:i=j
 ·subst hj;rw[aR (by rw[eh];exact N),fJ,List.getElem?_mapIdx,h];exact congrArg some (if_pos (bV i))
 ·rw[aY hj,fJ,fJ,List.getElem?_mapIdx,List.getElem?_mapIdx]
  cases G8[j]? with
  |none=>rfl
  |some r=>
   have e:(j<i+1)↔(j<i):=by omega
   simp only[Option.map_some,e]
theorem ES{u:List Rat}{p i n:Nat}(h:gH n G8):gH n (fJ G8 u p i):=fun r hr=>by
 obtain⟨j,hj⟩:=aQ hr;rw[fJ,List.getElem?_mapIdx]at hj
 cases hE:G8[j]? with
 |none=>rw[hE]at hj;cases hj
 |some x=>
  rw[hE]at hj;have F:=h x (aD hE);simp only[Option.map_some,Option.some.injEq]at hj;subst hj;split
  ·rw[qU];exact F
  ·exact F
theorem qW.start(n cols:Nat):qW n cols 0 ([],List.replicate cols none,[]):=
 ⟨(fun r hr=>by cases hr),aa ..,rfl,(fun (k r:Nat) h=>by rw[List.getElem?_replicate]at h;split at h<;>cases h),aE _,fun j hj=>by cases hj⟩
theorem qW.step{n cols i:Nat}{s:tT}(h:qW n cols i s){row:List Rat}(hr:row.length=n):qW n cols (i+1) (jI cols s i row):=by
 unfold jI;dsimp only
 split
 ·exact⟨h.len,h.at_,h.rP,h.lt,Nat.le_succ_of_le h.le,fun j hj=>Nat.lt_succ_of_lt (h.fr j hj)⟩
 ·refine⟨fun r hm=>?_,by simp[h.at_],by simp[h.rP,eh],fun k r W=>?_,?_,fun j hj=>?_⟩
  ·rcases bG.1 hm with hm|hm
   ·exact ES h.len r hm
   ·rw[bK]at hm;subst hm;rw[aK,fy,hr]
  ·dsimp only at W ⊢;rw[List.length_append,eh,List.length_singleton];rw[List.getElem?_set]at W;split at W
   ·split at W
    ·injection W with W;injection W with W;omega
    ·cases W
   ·have:=h.lt k r W;omega
  ·dsimp only
   rw[List.length_append,eh,List.length_singleton];have:=h.le;omega
  ·rcases bG.1 hj with hj|hj
   ·exact Nat.lt_succ_of_lt (h.fr j hj)
   ·rw[bK]at hj;omega
theorem uy{M:List (List Rat)}{n:Nat}(cols:Nat)(hM:gH n M):∀i,i<=M.length->qW n cols i (fp M cols i)
 |0,_=>qW.start n cols
 |i+1,N=>by
  have hm:=aA (l:=M) (show i<M.length by omega);refine(uy cols hM i (by omega)).step ?_;rw[List.getD,hm];exact hM _ (aD hm)
structure eS where
 nodes:List (Int×Int×Int)
 bars:List (Int×Int×Rat)
 cJ:List (Int×Int×Rat)
def eS.cols(f:eS):Nat:=f.bars.length+f.cJ.length
def eS.node(f:eS)(n:Int):Int×Int×Int:=f.nodes.getD n.toNat (0,0,0)
def uz(f:eS)(b:Int×Int×Rat):List Int:=[(f.node b.2.1).1-(f.node b.1).1,(f.node b.2.1).2.1-(f.node b.1).2.1,(f.node b.2.1).2.2-(f.node b.1).2.2]
def vA(M:List (List Int))(r c:Nat)(d:Int):List (List Int):=M.set r ((M.getD r []).set c ((M.getD r []).getD c 0+d))
def putAt(M:List (List Int))(r c:Nat)(d:Int):List (List Int):=M.set r ((M.getD r []).set c d)
def ee(f:eS)(M:List (List Int))(i:Nat):Nat->List (List Int)
 |0=>M
 |k+1=>
  let b:=f.bars.getD i (0,0,0)
  let d:=(uz f b).getD k 0
  vA (vA (ee f M i k) (3*b.1+k).toNat i d) (3*b.2.1+k).toNat i (-d)
def du(f:eS):Nat->List (List Int)
 |0=>List.replicate (3*f.nodes.length) (List.replicate f.cols 0)
 |i+1=>ee f (du f i) i 3
def eN(f:eS):Nat->List (List Int)
 |0=>du f f.bars.length
 |i+1=>
  let s:=f.cJ.getD i (0,0,0)
  putAt (eN f i) (3*s.1+s.2.1).toNat (f.bars.length+i) 1
def iK(f:eS):List (List Int):=eN f f.cJ.length
def dh(l:List Int):List Rat:=l.map fun(n:Int)=>(n:Rat)
def cK(f:eS):List (List Rat):=(iK f).map dh
def kx(M:List (List Rat))(cols:Nat):List (List Rat):=(List.range cols).map fun k=>M.map fun r=>r.getD k 0
abbrev Ld:=Int×Int×Int×Int
def Ae(s:List Int)(r:Nat)(d:Int):List Int:=s.set r (s.getD r 0+d)
def cz(l:List Rat)(b:Rat):List Rat:=l.map (· *b)
def fe(a b:List Rat):List Rat:=a.mapIdx fun i x=>x*b.getD i 0
def cX(f:eS):List Rat:=f.bars.map (·.2.2)++f.cJ.map (·.2.2)
def jP(M:List (List Rat))(b:List Rat):List (List Rat):=M.mapIdx fun i r=>r++[b.getD i 0]
def jf(M:List (List Rat))(cols:Nat):List (List Rat):=dX (dI M cols).1 (dI M cols).2.1 cols cols
def mJ(M:List (List Rat))(b:List Rat)(cols:Nat):Option (List Rat):=
 let e:=dI (jP M b) (cols+1)
 if cols∈e.2.1 then none else some (fh e.1 e.2.1 cols e.2.1.length)
def dY(st:List (List Rat))(fl:List Rat):List (List Rat):=st.map fun s=>st.map fun r=>eL (fe s fl) r s.length
def fW(st:List (List Rat))(fl x:List Rat):List Rat:=st.map fun s=> -(eL (fe s fl) x s.length)
def j6(st:List (List Rat))(c x:List Rat):Nat->List Rat
 |0=>x
 |i+1=>(j6 st c x i).mapIdx fun k q=>q+c.getD i 0*(st.getD i []).getD k 0
end Go.Ex
