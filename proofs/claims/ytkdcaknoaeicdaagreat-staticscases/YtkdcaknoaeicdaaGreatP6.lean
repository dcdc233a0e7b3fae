/- Texts L9 to X61: lemmas, each with its conditions. -/
import Derived.Test.YtkdcaknoaeicdaaGreatP5
namespace Go.Ex
variable{cs:List Int}{ls:List Nat}{i:Nat}{f:Nat->Int}
def fq(f:Nat->Int):Nat->Int
 |0=>0
 |n+1=>f 0+65536*fq (fun i=>f (i+1)) n
theorem Ab(f:Nat->Int)(n:Nat):dR ((List.range n).map f)=fq f n:=by
 induction n generalizing f with
 |zero=>rfl
 |succ n ih=>
  rw[List.range_succ_eq_map,List.map_cons,List.map_map,dR,fq,<-ih];rfl
theorem Ac(f g:Nat->Int)(n:Nat):fq (fun i=>f i+g i) n=fq f n+fq g n:=by
 induction n generalizing f g with
 |zero=>rfl
 |succ n ih=>simp only[fq,ih];omega
theorem H7(k:Int)(f:Nat->Int)(n:Nat):fq (fun i=>k*f i) n=k*fq f n:=by
 induction n generalizing f with
 |zero=>simp[fq]
 |succ n ih=>simp only[fq,ih,Int.mul_add];rw[Int.mul_left_comm]
theorem xf{n:Nat}(h:∀i,i<n->f i=0):fq f n=0:=by
 induction n generalizing f with
 |zero=>rfl
 |succ n ih=>rw[fq,h 0 (by omega),ih fun i hi=>h (i+1) (by omega)];rfl
theorem qJ(a:List Int)(n:Nat)(h:a.length<=n):fq (fun i=>a.getD i 0) n=dR a:=by
 induction a generalizing n with
 |nil=>exact xf fun i _=>by simp
 |cons c r ih=>
  obtain⟨m,rfl⟩:∃m,n=m+1:=⟨n-1,by simp at h;omega⟩
  have e:=ih m (by simpa using h);rw[fq,dR,<-e];simp[List.getD]
def ie(a b:List Int)(i:Nat):Nat->Int
 |0=>0
 |k+1=>ie a b i k+a.getD k 0*(if k<=i then b.getD (i-k) 0 else 0)
def gL(a b:List Int)(i:Nat):Int:=ie a b i (i+1)
theorem Js(b:List Int)(i k:Nat):ie [] b i k=0:=by
 induction k with
 |zero=>rfl
 |succ k ih=>rw[ie,ih];simp
theorem H8(c:Int)(r b:List Int)(i k:Nat):ie (c::r) b (i+1) (k+1)=c*b.getD (i+1) 0+ie r b i k:=by
 induction k with
 |zero=>simp[ie]
 |succ k ih=>
  rw[ie,ih,ie];have e:(c::r).getD (k+1) 0=r.getD k 0:=by simp[List.getD]
  rw[e];have e2:(if k+1<=i+1 then b.getD (i+1-(k+1)) 0 else 0)=(if k<=i then b.getD (i-k) 0 else 0):=by
   by_cases h:k<=i
   ·rw[if_pos h,if_pos (by omega),show i+1-(k+1)=i-k by omega]
   ·rw[aK h,aK (by omega)]
  rw[e2,Int.add_assoc]
theorem Fu(c:Int)(r b:List Int)(i:Nat):gL (c::r) b (i+1)=c*b.getD (i+1) 0+gL r b i:=H8 c r b i (i+1)
theorem Fv(c:Int)(r b:List Int):gL (c::r) b 0=c*b.getD 0 0:=by simp[gL,ie]
theorem Lk(a b:List Int)(n:Nat)(h:a.length+b.length<=n+1):fq (gL a b) n=dR a*dR b:=by
 induction a generalizing n with
 |nil=>
  rw[show gL [] b=fun _=>(0:Int)from funext fun i=>Js b i _,xf fun _ _=>rfl];simp[dR]
 |cons c r ih=>
  cases n with
  |zero=>
   have hb:b=[]:=List.eq_nil_of_length_eq_zero (by simp at h;omega);subst hb;simp[fq,dR]
  |succ m=>
   have e1:fq (gL (c::r) b) (m+1)=fq (fun i=>c*b.getD i 0) (m+1)+65536*fq (gL r b) m:=by
    have e2:fq (fun i=>gL (c::r) b (i+1)) m=fq (fun i=>c*b.getD (i+1) 0) m+fq (gL r b) m:=by
     rw[<-Ac];congr 1
     funext i
     exact Fu c r b i
    rw[fq,fq,e2,Fv,Int.mul_add];omega
   have h':r.length+b.length<=m+1:=by simp at h;omega
   rw[e1,ih m h',H7,qJ b (m+1) (by omega),dR,Int.add_mul,Int.mul_assoc]
theorem H9(a b:List Int)(i k k0:Nat)(h0:∀j,j<k0->b.length<=i-j)(hk:k0<=i+1)(h:k<=k0):ie a b i k=0:=by
 induction k with
 |zero=>rfl
 |succ k ih=>
  rw[ie,ih (by omega),if_pos (by omega)];have:b.getD (i-k) 0=0:=by rw[List.getD,List.getElem?_eq_none (h0 k (by omega))];rfl
  rw[this];simp
theorem Ha(a b:List Int)(i k m:Nat)(h:a.length<=k):ie a b i (k+m)=ie a b i k:=by
 induction m with
 |zero=>rfl
 |succ m ih=>
  rw[<-Nat.add_assoc,ie,ih];have:a.getD (k+m) 0=0:=by rw[List.getD,List.getElem?_eq_none (by omega)];rfl
  rw[this];simp
theorem mm{a b:List Int}(ha:∀x∈a,-65535<=x∧x<=65535)(hb:∀x∈b,-65535<=x∧x<=65535)(k:Nat):(ie a b i k).natAbs<=4294836225*k:=by
 have key:∀(l:List Int) (j:Nat),(∀x∈l,-65535<=x∧x<=65535)->(l.getD j 0).natAbs<=65535:=fun l j h=>by
  rw[List.getD]
  cases hj:l[j]? with
  |none=>simp
  |some d=>have:=h d (aC hj);simp;omega
 induction k with
 |zero=>simp[ie]
 |succ k ih=>
  rw[ie];have h1:=key a k ha;have h2:(if k<=i then b.getD (i-k) 0 else 0).natAbs<=65535:=by
   split
   ·exact key b _ hb
   ·simp
  have h3:=Nat.mul_le_mul h1 h2;rw[<-Int.natAbs_mul]at h3;generalize a.getD k 0*(if k<=i then b.getD (i-k) 0 else 0)=p at*
  omega
def eF(s:Int):List Nat->List Int
 |[]=>[]
 |l::r=>s*((l % 65536:Nat):Int)::s*((l / 65536:Nat):Int)::eF s r
theorem Dy(s:Int)(ls:List Nat):dR (eF s ls)=s*(val ls:Int):=by
 induction ls with
 |nil=>simp[eF,dR,val]
 |cons l r ih=>
  rw[eF,dR,dR,ih,val];have e1:((l+4294967296*val r:Nat):Int)=((l % 65536:Nat):Int)+65536*((l / 65536:Nat):Int)+4294967296*((val r:Nat):Int):=by omega
  rw[e1,Int.mul_add,Int.mul_add,Int.mul_add];rw[Int.mul_left_comm 65536 s,Int.mul_left_comm s 65536,Int.mul_left_comm s 4294967296];omega
theorem pQ(s:Int)(a b:List Nat):eF s (a++b)=eF s a++eF s b:=by
 induction a with
 |nil=>rfl
 |cons l r ih=>simp[eF,ih]
theorem iT(s:Int)(ls:List Nat):(eF s ls).length=2*ls.length:=by
 induction ls with
 |nil=>rfl
 |cons l r ih=>simp[eF,ih];omega
theorem Ad{s:Int}(hs:s=1∨s= -1)(h:Lm ls):∀c∈eF s ls,-65535<=c∧c<=65535:=by
 induction ls with
 |nil=>intro c hc;cases hc
 |cons l r ih=>
  have hl:=h l aG;intro c hc;rw[eF]at hc;rcases List.mem_cons.1 hc with rfl|hc
  ·rcases hs with rfl|rfl<;>omega
  rcases List.mem_cons.1 hc with rfl|hc
  ·rcases hs with rfl|rfl<;>omega
  ·exact ih (fun x hx=>h x (List.mem_cons_of_mem _ hx)) c hc
theorem yS(h:Lm ls):∀c∈eF 1 ls,0<=c∧c<=65535:=fun c hc=>by
 induction ls with
 |nil=>cases hc
 |cons l r ih=>
  have hl:=h l aG;rw[eF]at hc;rcases List.mem_cons.1 hc with rfl|hc
  ·omega
  rcases List.mem_cons.1 hc with rfl|hc
  ·omega
  ·exact ih (fun x hx=>h x (List.mem_cons_of_mem _ hx)) hc
theorem Fw{c:Int}(h:cs[i]? =some c):dR (cs.drop i)=c+65536*dR (cs.drop (i+1)):=by
 rw[List.drop_eq_getElem_cons (aD.1 h).1,dR];have:=(aD.1 h).2;rw[this]
end Go.Ex
namespace Go.Ex
open Go Go.Sx Go.Proofs
variable{x1 x2 y1 y2:Int}{ls:List Nat}{S:Nat->Prop}{p q:Rat}{u:Value}{w:World}
theorem M6{k:Nat}(h:Lm ls)(hl:ls.length<=k):ln (val ls)<=k:=gP.2 (Nat.lt_of_lt_of_le (o6 h) (Cd hl))
theorem Cv.false{B:Nat}{iv:Iv}{g:Nat}(h:Cv FF B iv g):Cv S B iv g:=h.elim (fun h=>h.elim) .inr
theorem M7{v:Value}(hS:Old S w)(hx:iU w S v x1 x2)(hy:iU w S u y1 y2)(hl0:ln x1.natAbs<=100000)(Rl:ln x2.natAbs<=100000)(Pa:ln y1.natAbs<=100000)(SF:ln y2.natAbs<=100000):
  eD PG N.wR #[v,u] w (eG w fun v' w2=>cS w2 (Nf w w2) v' ((ratio x1 x2)+(ratio y1 y2))):=by
 have hw:=bR w;have r1:=iS x1 x2;have r2:=iS y1 y2;have r3:=nP (ratio x1 x2) (ratio y1 y2);have r4:=j9 (ratio x1 x2) (ratio y1 y2);have r5:=tL (ratio y1 y2);have r6:=AX (ratio x1 x2) (ratio y1 y2);replace hx:=hx.cJ (S':=Cv S w.heap.size []) fun _ h=>.inl h;replace hy:=hy.cJ (S':=Cv S w.heap.size []) fun _ h=>.inl h;obtain⟨b1,a1,n1,c1,b2,a2,n2,c2,rfl⟩:=hx.shape;obtain⟨b3,a3,n3,c3,b4,a4,n4,c4,rfl⟩:=hy.shape;refine EK (by simp) ?_;refine cK hτ da [.x 0,.x 2,.x 1,.x 3,.x 4,.x 5,.x 6] (by kernel_rfl) (by kernel_rfl) ?_;refine cE hw (fun _ w' v w2=>dW w2 (Nf w' w2) v ((ratio x1 x2))) (fun O w' r=>kh (Rel.old r hS) (hx.rel r hS) (by omega) (by omega)) ?_;rintro O _ _ _ OP r he hw h_ hn;replace hy:=hy.cG r hS he (mC h_);have hX:=hn.dB (S:=FF) r.cF (mN h_);obtain⟨A0,A1,A2,A3,A4,A5,A6,A7,rfl⟩:=hX.shape;refine cE hw (fun _ w' v w2=>dW w2 (Nf w' w2) v ((ratio y1 y2))) (fun O w' r=>kh (Rel.old r hS) (hy.rel r hS) (by omega) (by omega)) ?_;rintro O _ _ _ ON r he hw h_ hn;replace hX:=hX.cG r (cC w) he (mC h_);have hY:=hn.dB (S:=FF) r.cF (mN h_);obtain⟨C0,C1,C2,C3,C4,C5,C6,C7,rfl⟩:=hY.shape;refine cE hw (fun _ w' v w2=>dW w2 (Nf w' w2) v ((ratio x1 x2)+(ratio y1 y2))) (fun O w' r=>JH (Rel.old r (cC w)) (hX.rel r (cC w)) (hY.rel r (cC w)) (by omega) (by omega)) ?_;rintro O _ _ _ OU r he hw h_ hn;have hP:=hn.dB (S:=FF) r.cF (mN h_);obtain⟨F0,F1,F2,F3,F4,F5,F6,F7,rfl⟩:=hP.shape;refine cE hw (fun _ w' v w2=>cS w2 (Nf w' w2) v ((ratio x1 x2)+(ratio y1 y2))) (fun O w' r=>rY (Rel.old r (cC w)) (hP.rel r (cC w)) (by omega)) ?_;rintro O _ _ _ OW r he hw h_ hn;have hC:=hn.dB (S:=FF) r.cF (mN h_);obtain⟨G0,G1,G2,G3,G4,G5,G6,G7,rfl⟩:=hC.shape;exact rtn hw fun ρe we re=>hC.out re (cC w)
theorem M8{v:Value}(hS:Old S w)(hx:iU w S v x1 x2)(hy:iU w S u y1 y2)(hl0:ln x1.natAbs<=100000)(Rl:ln x2.natAbs<=100000)(Pa:ln y1.natAbs<=100000)(SF:ln y2.natAbs<=100000):
  eD PG N.wS #[v,u] w (eG w fun v' w2=>cS w2 (Nf w w2) v' ((ratio x1 x2)*(ratio y1 y2))):=by
 have hw:=bR w;have r1:=iS x1 x2;have r2:=iS y1 y2;have r3:=nP (ratio x1 x2) (ratio y1 y2);have r4:=j9 (ratio x1 x2) (ratio y1 y2);have r5:=tL (ratio y1 y2);have r6:=AX (ratio x1 x2) (ratio y1 y2);replace hx:=hx.cJ (S':=Cv S w.heap.size []) fun _ h=>.inl h;replace hy:=hy.cJ (S':=Cv S w.heap.size []) fun _ h=>.inl h;obtain⟨b1,a1,n1,c1,b2,a2,n2,c2,rfl⟩:=hx.shape;obtain⟨b3,a3,n3,c3,b4,a4,n4,c4,rfl⟩:=hy.shape;refine EL (by simp) ?_;refine cK hτ da [.x 0,.x 2,.x 1,.x 3,.x 4,.x 5,.x 6] (by kernel_rfl) (by kernel_rfl) ?_;refine cE hw (fun _ w' v w2=>dW w2 (Nf w' w2) v ((ratio x1 x2))) (fun O w' r=>kh (Rel.old r hS) (hx.rel r hS) (by omega) (by omega)) ?_;rintro O _ _ _ OP r he hw h_ hn;replace hy:=hy.cG r hS he (mC h_);have hX:=hn.dB (S:=FF) r.cF (mN h_);obtain⟨A0,A1,A2,A3,A4,A5,A6,A7,rfl⟩:=hX.shape;refine cE hw (fun _ w' v w2=>dW w2 (Nf w' w2) v ((ratio y1 y2))) (fun O w' r=>kh (Rel.old r hS) (hy.rel r hS) (by omega) (by omega)) ?_;rintro O _ _ _ ON r he hw h_ hn;replace hX:=hX.cG r (cC w) he (mC h_);have hY:=hn.dB (S:=FF) r.cF (mN h_);obtain⟨C0,C1,C2,C3,C4,C5,C6,C7,rfl⟩:=hY.shape;refine cE hw (fun _ w' v w2=>dW w2 (Nf w' w2) v ((ratio x1 x2)*(ratio y1 y2))) (fun O w' r=>MY (Rel.old r (cC w)) (hX.rel r (cC w)) (hY.rel r (cC w)) (by omega) (by omega)) ?_;rintro O _ _ _ OU r he hw h_ hn;have hP:=hn.dB (S:=FF) r.cF (mN h_);obtain⟨F0,F1,F2,F3,F4,F5,F6,F7,rfl⟩:=hP.shape;refine cE hw (fun _ w' v w2=>cS w2 (Nf w' w2) v ((ratio x1 x2)*(ratio y1 y2))) (fun O w' r=>rY (Rel.old r (cC w)) (hP.rel r (cC w)) (by omega)) ?_;rintro O _ _ _ OW r he hw h_ hn;have hC:=hn.dB (S:=FF) r.cF (mN h_);obtain⟨G0,G1,G2,G3,G4,G5,G6,G7,rfl⟩:=hC.shape;exact rtn hw fun ρe we re=>hC.out re (cC w)
theorem M9{v:Value}(hS:Old S w)(hx:iU w S v x1 x2)(hy:iU w S u y1 y2)(hl0:ln x1.natAbs<=100000)(Rl:ln x2.natAbs<=100000)(Pa:ln y1.natAbs<=100000)(SF:ln y2.natAbs<=100000):
  eD PG N.wU #[v,u] w (eG w fun v' w2=>cS w2 (Nf w w2) v' ((ratio x1 x2)-(ratio y1 y2))):=by
 have hw:=bR w;have r1:=iS x1 x2;have r2:=iS y1 y2;have r3:=nP (ratio x1 x2) (ratio y1 y2);have r4:=j9 (ratio x1 x2) (ratio y1 y2);have r5:=tL (ratio y1 y2);have r6:=AX (ratio x1 x2) (ratio y1 y2);replace hx:=hx.cJ (S':=Cv S w.heap.size []) fun _ h=>.inl h;replace hy:=hy.cJ (S':=Cv S w.heap.size []) fun _ h=>.inl h;obtain⟨b1,a1,n1,c1,b2,a2,n2,c2,rfl⟩:=hx.shape;obtain⟨b3,a3,n3,c3,b4,a4,n4,c4,rfl⟩:=hy.shape;refine EP (by simp) ?_;refine cK hτ da [.x 0,.x 2,.x 1,.x 3,.x 4,.x 5,.x 6,.x 7] (by kernel_rfl) (by kernel_rfl) ?_;refine cE hw (fun _ w' v w2=>dW w2 (Nf w' w2) v ((ratio x1 x2))) (fun O w' r=>kh (Rel.old r hS) (hx.rel r hS) (by omega) (by omega)) ?_;rintro O _ _ _ OP r he hw h_ hn;replace hy:=hy.cG r hS he (mC h_);have hX:=hn.dB (S:=FF) r.cF (mN h_);obtain⟨A0,A1,A2,A3,A4,A5,A6,A7,rfl⟩:=hX.shape;refine cE hw (fun _ w' v w2=>dW w2 (Nf w' w2) v ((ratio y1 y2))) (fun O w' r=>kh (Rel.old r hS) (hy.rel r hS) (by omega) (by omega)) ?_;rintro O _ _ _ ON r he hw h_ hn;replace hX:=hX.cG r (cC w) he (mC h_);have hY:=hn.dB (S:=FF) r.cF (mN h_);obtain⟨C0,C1,C2,C3,C4,C5,C6,C7,rfl⟩:=hY.shape;refine cO (Φ:=fun _ w' v w2=>dW w2 (Nw (Cf w ON) w' w2) v (-(ratio y1 y2))) (fun O w' r=>MX (Rel.old r (cC w)) (hY.rel r (cC w))) ?_;rintro O PX v3 PT r he hb hn;replace hw:=hw.tr hb;replace hX:=hX.cG (iv':=(PX.heap.size,PT.heap.size)::ON) r (cC w) he fun x hx=>List.mem_cons_of_mem _ hx;have hM:=hn.old r.cF;generalize (PX.heap.size,PT.heap.size)::ON=OU at*
 obtain⟨F0,F1,F2,F3,F4,F5,F6,F7,rfl⟩:=hM.shape;refine cE hw (fun _ w' v w2=>dW w2 (Nf w' w2) v ((ratio x1 x2)-(ratio y1 y2))) (fun O w' r=>(Rat.sub_eq_add_neg (ratio x1 x2) (ratio y1 y2))▸JH (Rel.old r (cC w)) (hX.rel r (cC w)) (hM.rel r (cC w)) (by omega) (by omega)) ?_;rintro O _ _ _ OW r he hw h_ hn;have hP:=hn.dB (S:=FF) r.cF (mN h_);obtain⟨G0,G1,G2,G3,G4,G5,G6,G7,rfl⟩:=hP.shape;refine cE hw (fun _ w' v w2=>cS w2 (Nf w' w2) v ((ratio x1 x2)-(ratio y1 y2))) (fun O w' r=>rY (Rel.old r (cC w)) (hP.rel r (cC w)) (by omega)) ?_;rintro O _ _ _ Pb r he hw h_ hn;have hC:=hn.dB (S:=FF) r.cF (mN h_);obtain⟨J0,J1,J2,J3,J4,J5,J6,J7,rfl⟩:=hC.shape;exact rtn hw fun ρe we re=>hC.out re (cC w)
theorem aAh{v:Value}{f g:Rat}(hS:Old S w)(hf:dW w S v f)(hg:dW w S u g)(hlf:rl f<=10000000000)(hlg:rl g<=10000000000):
  eD PG N.mP #[v,u] w (eG w fun v' w2=>v'= .int .i64 (rs (f-g))):=by
 have hw:=bR w;have l1:=fp f;have l2:=fF f;have l3:=fp g;have l4:=fF g;have m0:=cd f.num g.den;have m1:=cd g.num f.den;replace hf:=hf.cJ (S':=Cv S w.heap.size []) fun _ h=>.inl h;replace hg:=hg.cJ (S':=Cv S w.heap.size []) fun _ h=>.inl h;obtain⟨b1,a1,n1,c1,b2,a2,n2,c2,rfl⟩:=hf.shape;obtain⟨b3,a3,n3,c3,b4,a4,n4,c4,rfl⟩:=hg.shape;have UO:=hf.num;have Q2:=hf.den;have So:=hg.num;have RY:=hg.den;refine pe (by simp) ?_;refine cK hτ da [.x 0,.x 1,.x 2,.x 3,.x 5,.x 6,.x 7,.x 8,.x 4,.x 9,.x 10,.x 11] (by kernel_rfl) (by kernel_rfl) ?_;refine cE hw (fun _ w' v w2=>eQ w2 (Nf w' w2) v (f.num*(g.den:Int))) (fun O w' r=>iP (Rel.old r hS) (UO.rel r hS) (RY.rel r hS) (by omega) (by omega)) ?_;rintro O _ _ _ OP r he hw h_ hn;replace Q2:=Q2.cG r hS he (mC h_);replace So:=So.cG r hS he (mC h_);have hA:=hn.dB (S:=FF) r.cF (mN h_);obtain⟨A0,A1,A2,A3,rfl⟩:=hA.shape;refine cE hw (fun _ w' v w2=>eQ w2 (Nf w' w2) v (g.num*(f.den:Int))) (fun O w' r=>iP (Rel.old r hS) (So.rel r hS) (Q2.rel r hS) (by omega) (by omega)) ?_;rintro O _ _ _ ON r he hw h_ hn;replace hA:=hA.cG r (cC w) he (mC h_);have hB:=hn.dB (S:=FF) r.cF (mN h_);obtain⟨C0,C1,C2,C3,rfl⟩:=hB.shape;refine cE hw (fun _ w' v w2=>v= .int .i64 (rs (f-g))) (fun O w' r=>(NI f g)▸MI (Rel.old r (cC w)) (hA.rel r (cC w)) (hB.rel r (cC w)) (by omega) (by omega)) ?_;rintro O _ _ _ OU r he hw h_ rfl;exact rtn hw fun ρe we re=>rfl
theorem Ma{v:Value}(hS:Old S w)(hx:iU w S v x1 x2)(hy:iU w S u y1 y2)(hl0:ln x1.natAbs<=100000)(Rl:ln x2.natAbs<=100000)(Pa:ln y1.natAbs<=100000)(SF:ln y2.natAbs<=100000):
  eD PG N.wP #[v,u] w (eG w fun v' w2=>v'= .int .i64 (rs ((ratio x1 x2)-(ratio y1 y2)))):=by
 have hw:=bR w;have r1:=iS x1 x2;have r2:=iS y1 y2;have r3:=nP (ratio x1 x2) (ratio y1 y2);have r4:=j9 (ratio x1 x2) (ratio y1 y2);have r5:=tL (ratio y1 y2);have r6:=AX (ratio x1 x2) (ratio y1 y2);replace hx:=hx.cJ (S':=Cv S w.heap.size []) fun _ h=>.inl h;replace hy:=hy.cJ (S':=Cv S w.heap.size []) fun _ h=>.inl h;obtain⟨b1,a1,n1,c1,b2,a2,n2,c2,rfl⟩:=hx.shape;obtain⟨b3,a3,n3,c3,b4,a4,n4,c4,rfl⟩:=hy.shape;refine EI (by simp) ?_;refine cK hτ da [.x 0,.x 2,.x 1,.x 3,.x 4,.x 5] (by kernel_rfl) (by kernel_rfl) ?_;refine cE hw (fun _ w' v w2=>dW w2 (Nf w' w2) v ((ratio x1 x2))) (fun O w' r=>kh (Rel.old r hS) (hx.rel r hS) (by omega) (by omega)) ?_;rintro O _ _ _ OP r he hw h_ hn;replace hy:=hy.cG r hS he (mC h_);have hX:=hn.dB (S:=FF) r.cF (mN h_);obtain⟨A0,A1,A2,A3,A4,A5,A6,A7,rfl⟩:=hX.shape;refine cE hw (fun _ w' v w2=>dW w2 (Nf w' w2) v ((ratio y1 y2))) (fun O w' r=>kh (Rel.old r hS) (hy.rel r hS) (by omega) (by omega)) ?_;rintro O _ _ _ ON r he hw h_ hn;replace hX:=hX.cG r (cC w) he (mC h_);have hY:=hn.dB (S:=FF) r.cF (mN h_);obtain⟨C0,C1,C2,C3,C4,C5,C6,C7,rfl⟩:=hY.shape;refine cE hw (fun _ w' v w2=>v= .int .i64 (rs ((ratio x1 x2)-(ratio y1 y2)))) (fun O w' r=>aAh (Rel.old r (cC w)) (hX.rel r (cC w)) (hY.rel r (cC w)) (by omega) (by omega)) ?_;rintro O _ _ _ OU r he hw h_ rfl;exact rtn hw fun ρe we re=>rfl
theorem kg:rs q=0↔q=0:=by rw[rs,Int.sign_eq_zero_iff_zero,Rat.num_eq_zero]
theorem Mc{v:Value}(hS:Old S w)(hx:iU w S v x1 x2)(hy:iU w S u y1 y2)(hl0:ln x1.natAbs<=100000)(Rl:ln x2.natAbs<=100000)(Pa:ln y1.natAbs<=100000)(SF:ln y2.natAbs<=100000):
  eD PG N.wT #[v,u] w (eG w fun v' w2=>((ratio y1 y2)=0∧v'= .tuple #[B6,.int .i64 9])∨((ratio y1 y2)≠0∧∃q,v'= .tuple #[q,.int .i64 0]∧cS w2 (Nf w w2) q ((ratio x1 x2) / (ratio y1 y2)))):=by
 have hw:=bR w;have r1:=iS x1 x2;have r2:=iS y1 y2;have r3:=nP (ratio x1 x2) (ratio y1 y2);have r4:=j9 (ratio x1 x2) (ratio y1 y2);have r5:=tL (ratio y1 y2);have r6:=AX (ratio x1 x2) (ratio y1 y2);replace hx:=hx.cJ (S':=Cv S w.heap.size []) fun _ h=>.inl h;replace hy:=hy.cJ (S':=Cv S w.heap.size []) fun _ h=>.inl h;obtain⟨b1,a1,n1,c1,b2,a2,n2,c2,rfl⟩:=hx.shape;obtain⟨b3,a3,n3,c3,b4,a4,n4,c4,rfl⟩:=hy.shape;refine EN (by simp) ?_;refine cD (cE hw (fun _ w' v w2=>dW w2 (Nf w' w2) v ((ratio y1 y2))) (fun O w' r=>kh (Rel.old r hS) (hy.rel r hS) (by omega) (by omega)) ?_);rintro O _ _ _ OP r he hw h_ hn;replace hx:=hx.cG r hS he (mC h_);have hY:=hn.dB (S:=FF) r.cF (mN h_);obtain⟨A0,A1,A2,A3,A4,A5,A6,A7,rfl⟩:=hY.shape;refine cD (cE hw (fun _ w' v w2=>v= .int .i64 (rs (ratio y1 y2))) (fun O w' r=>Nc (Rel.old r (cC w)) (hY.rel r (cC w))) ?_);rintro O _ _ _ ON r he hw h_ rfl;replace hx:=hx.cG r hS he (mC h_);replace hY:=hY.cG r (cC w) he (mC h_);refine dI.mk ?_ ?_<;>intro h
 ·have h:rs (ratio y1 y2)=0:=by simpa using h
  exact rtn hw fun ρe we re=>.inl ⟨kg.1 h,rfl⟩
 have h:(ratio y1 y2)≠0:=fun e=>by rw[e]at h;exact absurd h (by decide)
 have r7:=La (ratio x1 x2) h;refine cK hτ da [.x 0,.x 2,.x 1,.x 3,.x 4,.x 5,.x 6] (by kernel_rfl) (by kernel_rfl) ?_;refine cE hw (fun _ w' v w2=>dW w2 (Nf w' w2) v ((ratio x1 x2))) (fun O w' r=>kh (Rel.old r hS) (hx.rel r hS) (by omega) (by omega)) ?_;rintro O _ _ _ OU r he hw h_ hn;replace hY:=hY.cG r (cC w) he (mC h_);have hX:=hn.dB (S:=FF) r.cF (mN h_);obtain⟨C0,C1,C2,C3,C4,C5,C6,C7,rfl⟩:=hX.shape;refine cE hw (fun _ w' v w2=>dW w2 (Nf w' w2) v ((ratio x1 x2) / (ratio y1 y2))) (fun O w' r=>aBK (Rel.old r (cC w)) (hX.rel r (cC w)) (hY.rel r (cC w)) (by omega) (by omega) h) ?_;rintro O _ _ _ OW r he hw h_ hn;have hP:=hn.dB (S:=FF) r.cF (mN h_);obtain⟨F0,F1,F2,F3,F4,F5,F6,F7,rfl⟩:=hP.shape;refine cE hw (fun _ w' v w2=>cS w2 (Nf w' w2) v ((ratio x1 x2) / (ratio y1 y2))) (fun O w' r=>rY (Rel.old r (cC w)) (hP.rel r (cC w)) (by omega)) ?_;rintro O _ _ _ Pb r he hw h_ hn;have hC:=hn.dB (S:=FF) r.cF (mN h_);obtain⟨G0,G1,G2,G3,G4,G5,G6,G7,rfl⟩:=hC.shape;exact rtn hw fun ρe we re=>.inr ⟨h,_,rfl,hC.out re (cC w)⟩
theorem Md{n:Int}(h1: -9223372036854775808<=n)(h2:n<=9223372036854775807):rl (n:Rat)<=2:=by
 have:=mV h1 h2;unfold rl;rw[Rat.num_intCast,Rat.den_intCast];have:ln 1=1:=by decide
 omega
theorem Hb(n:Int)(w:World)(h1: -9223372036854775808<=n)(h2:n<=9223372036854775807):
  eD PG N.xx #[.int .i64 n] w (eG w fun v' w2=>cS w2 (Nf w w2) v' (n:Rat)):=by
 have hw:=bR w;have hl:=Md h1 h2;refine BF (by simp) ?_;refine cD (cE hw (fun _ w' v w2=>dW w2 (Nf w' w2) v (n)) (fun O w' r=>Nd n w' h1 h2) ?_);rintro O _ _ _ OP r he hw h_ hn;have hX:=hn.dB (S:=FF) r.cF (mN h_);obtain⟨A0,A1,A2,A3,A4,A5,A6,A7,rfl⟩:=hX.shape;refine cD (cE hw (fun _ w' v w2=>cS w2 (Nf w' w2) v (n)) (fun O w' r=>rY (Rel.old r (cC w)) (hX.rel r (cC w)) (by omega)) ?_);rintro O _ _ _ ON r he hw h_ hn;have hC:=hn.dB (S:=FF) r.cF (mN h_);obtain⟨C0,C1,C2,C3,C4,C5,C6,C7,rfl⟩:=hC.shape;exact rtn hw fun ρe we re=>hC.out re (cC w)
theorem Hl(a b:Int)(w:World)(h1a: -9223372036854775808<=a)(h2a:a<=9223372036854775807)(h1b: -9223372036854775808<=b)(h2b:b<=9223372036854775807):
  eD PG N.yA #[.int .i64 a,.int .i64 b] w (eG w fun v' w2=>(b=0∧v'= .tuple #[B6,.int .i64 9])∨(b≠0∧∃q,v'= .tuple #[q,.int .i64 0]∧cS w2 (Nf w w2) q (Rat.divInt a b))):=by
 have hw:=bR w;have ha:=mV h1a h2a;have hb:=mV h1b h2b;refine BI (by simp) ?_;refine dI.mk ?_ ?_<;>intro h
 ·have h:b=0:=by simpa using h
  exact rtn hw fun ρe we re=>.inl ⟨h,rfl⟩
 have h:b≠0:=by simpa using h
 have hq:=kW (a:=a) h;refine cD (cE hw (fun _ w' v w2=>eQ w2 (Nf w' w2) v a) (fun O w' r=>pI a w' h1a h2a) ?_);rintro O _ _ _ OP r he hw h_ hn;have hA:=hn.dB (S:=FF) r.cF (mN h_);obtain⟨A0,A1,A2,A3,rfl⟩:=hA.shape;refine cD (cE hw (fun _ w' v w2=>eQ w2 (Nf w' w2) v b) (fun O w' r=>pI b w' h1b h2b) ?_);rintro O _ _ _ ON r he hw h_ hn;replace hA:=hA.cG r (cC w) he (mC h_);have hB:=hn.dB (S:=FF) r.cF (mN h_);obtain⟨C0,C1,C2,C3,rfl⟩:=hB.shape;refine cD (cE hw (fun _ w' v w2=>dW w2 (Nf w' w2) v (Rat.divInt a b)) (fun O w' r=>xP (Rel.old r (cC w)) (hA.rel r (cC w)) (hB.rel r (cC w)) h (by omega) (by omega)) ?_);rintro O _ _ _ OU r he hw h_ hn;have hP:=hn.dB (S:=FF) r.cF (mN h_);obtain⟨F0,F1,F2,F3,F4,F5,F6,F7,rfl⟩:=hP.shape;refine cD (cE hw (fun _ w' v w2=>cS w2 (Nf w' w2) v (Rat.divInt a b)) (fun O w' r=>rY (Rel.old r (cC w)) (hP.rel r (cC w)) (by omega)) ?_);rintro O _ _ _ OW r he hw h_ hn;have hC:=hn.dB (S:=FF) r.cF (mN h_);obtain⟨G0,G1,G2,G3,G4,G5,G6,G7,rfl⟩:=hC.shape;exact rtn hw fun ρe we re=>.inr ⟨h,_,rfl,hC.out re (cC w)⟩
theorem kK(ad:Addr)(i j:Nat):(ad.add i).add j=ad.add (i+j):=by
 unfold Addr.add;split<;>split<;>simp_all<;>omega
def qz(w:World)(S:Nat->Prop)(v:Value)(q:Rat):Prop:=∃a b,iU w S v a b∧ratio a b=q∧ln a.natAbs<=100000∧ln b.natAbs<=100000
theorem qz.cI{w2:World}{v:Value}(h:qz w S v q)(hk:∀g,S g->w2.heap[g]? =w.heap[g]?):qz w2 S v q:=by
 obtain⟨a,b,h1,h2⟩:=h;exact⟨a,b,h1.cI hk,h2⟩
theorem qz.shape{v:Value}(h:qz w S v q):∃b a n c b2 a2 n2 c2,v= .agg #[.bool b,.slice a n c,.bool b2,.slice a2 n2 c2]:=by
 obtain⟨a,b,h1,_⟩:=h;exact h1.shape
theorem pK(q:Rat):ratio q.num q.den=q:=by rw[ratio,aK (gK q),Rat.num_divInt_den]
theorem cS.v{v:Value}(h:cS w S v q)(hl:rl q<=100000):qz w S v q:=
 ⟨_,_,h.r,pK q,aY (fp q) hl,aY (fF q) hl⟩
section
variable{S S':Nat->Prop}{H:Hp}{nx:Nat}{iv iv':Iv}{B:Nat}{w w' w2:World}{O:Nat->Sx.di}{v:Value}{q:Rat}
end
theorem EY{v:Value}(hS:Old S w)(hp:qz w S v p)(hq:qz w S u q):eD PG N.wR #[v,u] w (eG w fun v' w2=>cS w2 (Nf w w2) v' (p+q)):=by
 obtain⟨a,b,h1,rfl,h2,h3⟩:=hp;obtain⟨c,d,k1,rfl,k2,k3⟩:=hq;exact M7 hS h1 k1 h2 h3 k2 k3
theorem BN{v:Value}(hS:Old S w)(hp:qz w S v p)(hq:qz w S u q):eD PG N.wS #[v,u] w (eG w fun v' w2=>cS w2 (Nf w w2) v' (p*q)):=by
 obtain⟨a,b,h1,rfl,h2,h3⟩:=hp;obtain⟨c,d,k1,rfl,k2,k3⟩:=hq;exact M8 hS h1 k1 h2 h3 k2 k3
theorem Lv{v:Value}(hS:Old S w)(hp:qz w S v p)(hq:qz w S u q):eD PG N.wU #[v,u] w (eG w fun v' w2=>cS w2 (Nf w w2) v' (p-q)):=by
 obtain⟨a,b,h1,rfl,h2,h3⟩:=hp;obtain⟨c,d,k1,rfl,k2,k3⟩:=hq;exact M9 hS h1 k1 h2 h3 k2 k3
theorem xB{v:Value}(hS:Old S w)(hp:qz w S v p)(hq:qz w S u q):eD PG N.wP #[v,u] w (eG w fun v' _=>v'= .int .i64 (rs (p-q))):=by
 obtain⟨a,b,h1,rfl,h2,h3⟩:=hp;obtain⟨c,d,k1,rfl,k2,k3⟩:=hq;exact Ma hS h1 k1 h2 h3 k2 k3
theorem aA2{v:Value}(hS:Old S w)(hp:qz w S v p)(hq:qz w S u q):eD PG N.wT #[v,u] w (eG w fun v' w2=>(q=0∧v'= .tuple #[B6,.int .i64 9])∨(q≠0∧∃r,v'= .tuple #[r,.int .i64 0]∧cS w2 (Nf w w2) r (p / q))):=by
 obtain⟨a,b,h1,rfl,h2,h3⟩:=hp;obtain⟨c,d,k1,rfl,k2,k3⟩:=hq;exact Mc hS h1 k1 h2 h3 k2 k3
end Go.Ex
namespace Go.Ex
theorem FR(q:Rat): -1<=rs q∧rs q<=1:=by
 unfold rs;rcases Int.lt_trichotomy q.num 0 with h|h|h
 ·rw[bZ h];decide
 ·rw[h];decide
 ·rw[bf h];decide
theorem aAN(q:Rat):rs (-q)= -rs q:=by rw[rs,rs,Rat.neg_num,Int.sign_neg]
end Go.Ex
namespace Go.Ex
open Go Go.Sx Go.Proofs
variable{b:Bool}{x z:Int}{cs:List Int}{ls:List Nat}{S:Nat->Prop}{lv:Value}{w:World}
def fa(w:World)(S:Nat->Prop)(v:Value)(k:Nat)(z:Int):Prop:=∃neg ls,vO w S v neg ls∧sg neg (val ls)=z∧ls.length<=k
theorem fa.cI{w2:World}{v:Value}{k:Nat}(h:fa w S v k z)(hk:∀g,S g->w2.heap[g]? =w.heap[g]?):fa w2 S v k z:=by
 obtain⟨n,l,h1,h2⟩:=h;exact⟨n,l,h1.cI hk,h2⟩
theorem fa.cJ{S':Nat->Prop}{v:Value}{k:Nat}(h:fa w S v k z)(hk:∀g,S g->S' g):fa w S' v k z:=by
 obtain⟨n,l,h1,h2⟩:=h;exact⟨n,l,h1.cJ hk,h2⟩
theorem fa.r{v:Value}{k:Nat}(h:fa w S v k z):jt w S v z:=by
 obtain⟨n,l,h1,h2,_⟩:=h;exact⟨n,l,h1,h2⟩
theorem fa.shape{v:Value}{k:Nat}(h:fa w S v k z):∃b a n c,v= .agg #[.bool b,.slice a n c]:=h.r.shape
theorem dO.l{v:Value}{k:Nat}(h:dO w S v z)(hk:ln z.natAbs<=k):fa w S v k z:=by
 obtain⟨l,h1,h2,h3⟩:=h;obtain⟨_,_,hl⟩:=h1;have:=eP hl.lm h2;rw[h3]at this;exact⟨_,l,⟨_,‹_›,hl⟩,by rw[h3,DU],by omega⟩
section
variable{S S':Nat->Prop}{H:Hp}{nx:Nat}{iv iv':Iv}{B:Nat}{w w' w2:World}{O:Nat->Sx.di}{v:Value}{k:Nat}{z:Int}
theorem fa.rel(h:fa w (Cv S B iv) v k z)(r:Rel H nx iv B w O w')(hS:∀g,S g->g<B):fa w' (Cv S B iv) v k z:=h.cI fun _ hg=>Rel.same r hS hg
theorem fa.cG(h:fa w (Cv S B iv) v k z)(r:Rel H nx iv B w O w')(hS:∀g,S g->g<B)(he:Ext w' w2)(hm:∀p,p∈iv->p∈iv'):fa w2 (Cv S B iv') v k z:=
 ((h.rel r hS).cI fun g hg=>he.block g (Rel.old r hS g hg)).cJ fun _ hg=>hg.mono hm
end
section
variable{S S':Nat->Prop}{H:Hp}{nx:Nat}{iv iv':Iv}{B:Nat}{w w' w2:World}{O:Nat->Sx.di}{v:Value}{cs:List Int}
theorem eC.rel(h:eC w (Cv S B iv) v cs)(r:Rel H nx iv B w O w')(hS:∀g,S g->g<B):eC w' (Cv S B iv) v cs:=eC.cI h fun _ hg=>Rel.same r hS hg
theorem eC.cG(h:eC w (Cv S B iv) v cs)(r:Rel H nx iv B w O w')(hS:∀g,S g->g<B)(he:Ext w' w2)(hm:∀p,p∈iv->p∈iv'):eC w2 (Cv S B iv') v cs:=
 (eC.cI (h.rel r hS) fun g hg=>he.block g (Rel.old r hS g hg)).cJ fun _ hg=>hg.mono hm
theorem eC.dB(h:eC w2 (Nf w' w2) v cs)(hB:B<=w'.heap.size)(hm:(w'.heap.size,w2.heap.size)∈iv):eC w2 (Cv S B iv) v cs:=eC.cJ h fun _ hg=>hg.dB hB hm
end
def sgn(b:Bool):Int:=if b then -1 else 1
theorem aAi(b:Bool):sgn b=1∨sgn b= -1:=by cases b<;>simp[sgn]
theorem Nk(b:Bool)(n:Nat):sgn b*(n:Int)=sg b n:=by cases b<;>simp[sgn,sg]
theorem IJ{v:Value}{neg:Bool}(hS:Old S w)(h:vO w S v neg ls)(hl:ls.length<=40000000):
  eD PG N.nR #[v] w (eG w fun v' w2=>eC w2 (Nf w w2) v' (eF (sgn neg) ls)):=by
 obtain⟨lv,rfl,hL⟩:=h;have PZ:=hL.lm;obtain⟨a,c,rfl,hc,Oy⟩:=hL.sl;refine wy (by simp) ?_
 cases neg with
 |true=>
  refine⟨Nat×World,fun z=>⟨[(1,pP 0 0),(3,.o (.v (.int .i64 (-1)))),(4,.o (.w 1 (2*z.1))),(5,iZ z.1)],[(1,.vec T.int 1 ((eF (-1) (ls.take z.1)).map (Value.int .i64))),(0,.box T.Int [.v (.bool true),.v (.slice a ls.length c)])],2,[],z.2⟩,fun z=>ls.length-z.1,
   fun z=>dm w.heap.size w z.2∧z.1<=ls.length,?_,?_⟩
  ·intro O w' r
   exact⟨(0,w'),⟨r.cQ,by simp⟩,Sub.nil 4 T.int 1 rfl (by simp[jQ,SV.sc,At.sc,fP]) r fun ρ1 r1=>
    Sub.gn [] r1⟩
  rintro⟨i,w1⟩ ⟨hw,hi⟩;dsimp only at hw hi ⊢;have S3:((eF (-1) (ls.take i)).map (Value.int .i64)).length=2*i:=by rw[aJ,iT,aW];omega
  refine dI.mk ?_ ?_<;>intro h
  ·have h:i<ls.length:=by simpa using h
   obtain⟨x,hx⟩:∃x,ls[i]? =some x:=⟨_,aB h⟩
   have QK:=PZ x (aC hx);obtain⟨ad,rfl,q1,q2⟩:=Oy i x hx;have Ud:eF (-1) (ls.take (i+1))=eF (-1) (ls.take i)++[(-1)*((x % 65536:Nat):Int),(-1)*((x / 65536:Nat):Int)]:=by rw[List.take_add_one,hx,Option.toList_some,pQ];rfl
   refine⟨ad,rfl,by omega,.int .u32 x,fun O w' r=>?_,?_⟩
   ·rw[aE,aU];exact kR hS hw r q1 q2
   refine⟨(x:Int),wo,by decide,((x % 65536:Nat):Int),rfl,(-1)*((x % 65536:Nat):Int),wo,by decide,((x / 65536:Nat):Int),by rw[show (x:Int).tdiv 65536=((x / 65536:Nat):Int)from rfl,wrap64]<;>omega,(-1)*((x / 65536:Nat):Int),wo,?_⟩;refine .inl ?_;refine⟨by rw[S3,aU],by omega,by unfold maxLen;omega,((i+1:Nat):Int),wo,?_⟩;intro ρ3 w3 r3;have Th:(eF (-1) (ls.take (i+1))).map (Value.int .i64)=(eF (-1) (ls.take i)).map (Value.int .i64)++[.int .i64 ((-1)*((x % 65536:Nat):Int)),.int .i64 ((-1)*((x / 65536:Nat):Int))]:=by
    rw[Ud];simp
   exact⟨(i+1,w3),⟨hw.tr r3.cQ,by dsimp only;omega⟩,Sub.gn [(1,3)] r3 ⟨by dsimp only;rw[Th];rfl,rfl,trivial⟩,by dsimp only;omega⟩
  have h:i=ls.length:=by
   have:¬i<ls.length:=by simpa using h
   omega
  subst h;rw[bG]at S3 ⊢;intro ρe we re;have OK:=re.Ei (id:=1) (m:=2*ls.length) rfl (by rw[S3,aU]) (by decide);have Pz:=rZ OK (by rw[iT]) (by unfold maxLen;omega);refine⟨_,rfl,hw.tr re.cQ,eC.cJ Pz fun g hg=>.inr ?_⟩;have:=ownsRow.low OK g hg;exact this
 |false=>
  refine⟨Nat×World,fun z=>⟨[(1,pP 0 0),(3,.o (.v (.int .i64 (1)))),(4,.o (.w 1 (2*z.1))),(5,iZ z.1)],[(1,.vec T.int 1 ((eF (1) (ls.take z.1)).map (Value.int .i64))),(0,.box T.Int [.v (.bool false),.v (.slice a ls.length c)])],2,[],z.2⟩,fun z=>ls.length-z.1,
   fun z=>dm w.heap.size w z.2∧z.1<=ls.length,?_,?_⟩
  ·intro O w' r
   exact⟨(0,w'),⟨r.cQ,by simp⟩,Sub.nil 4 T.int 1 rfl (by simp[jQ,SV.sc,At.sc,fP]) r fun ρ1 r1=>
    Sub.gn [] r1⟩
  rintro⟨i,w1⟩ ⟨hw,hi⟩;dsimp only at hw hi ⊢;have S3:((eF (1) (ls.take i)).map (Value.int .i64)).length=2*i:=by rw[aJ,iT,aW];omega
  refine dI.mk ?_ ?_<;>intro h
  ·have h:i<ls.length:=by simpa using h
   obtain⟨x,hx⟩:∃x,ls[i]? =some x:=⟨_,aB h⟩
   have QK:=PZ x (aC hx);obtain⟨ad,rfl,q1,q2⟩:=Oy i x hx;have Ud:eF (1) (ls.take (i+1))=eF (1) (ls.take i)++[(1)*((x % 65536:Nat):Int),(1)*((x / 65536:Nat):Int)]:=by rw[List.take_add_one,hx,Option.toList_some,pQ];rfl
   refine⟨ad,rfl,by omega,.int .u32 x,fun O w' r=>?_,?_⟩
   ·rw[aE,aU];exact kR hS hw r q1 q2
   refine⟨(x:Int),wo,by decide,((x % 65536:Nat):Int),rfl,(1)*((x % 65536:Nat):Int),wo,by decide,((x / 65536:Nat):Int),by rw[show (x:Int).tdiv 65536=((x / 65536:Nat):Int)from rfl,wrap64]<;>omega,(1)*((x / 65536:Nat):Int),wo,?_⟩;refine .inl ?_;refine⟨by rw[S3,aU],by omega,by unfold maxLen;omega,((i+1:Nat):Int),wo,?_⟩;intro ρ3 w3 r3;have Th:(eF (1) (ls.take (i+1))).map (Value.int .i64)=(eF (1) (ls.take i)).map (Value.int .i64)++[.int .i64 ((1)*((x % 65536:Nat):Int)),.int .i64 ((1)*((x / 65536:Nat):Int))]:=by
    rw[Ud];simp
   exact⟨(i+1,w3),⟨hw.tr r3.cQ,by dsimp only;omega⟩,Sub.gn [(1,3)] r3 ⟨by dsimp only;rw[Th];rfl,rfl,trivial⟩,by dsimp only;omega⟩
  have h:i=ls.length:=by
   have:¬i<ls.length:=by simpa using h
   omega
  subst h;rw[bG]at S3 ⊢;intro ρe we re;have OK:=re.Ei (id:=1) (m:=2*ls.length) rfl (by rw[S3,aU]) (by decide);have Pz:=rZ OK (by rw[iT]) (by unfold maxLen;omega);refine⟨_,rfl,hw.tr re.cQ,eC.cJ Pz fun g hg=>.inr ?_⟩;have:=ownsRow.low OK g hg;exact this
def CK(cs:List Int)(n:Nat)(z:Int):Prop:=dR cs=z∧cs.length<=n∧(∀c∈cs,-65535<=c∧c<=65535)∧(0<=z->∀c∈cs,0<=c)
theorem CL(s:Int)(h:val ls=0):∀c∈eF s ls,c=0:=fun c hc=>by
 induction ls with
 |nil=>cases hc
 |cons l r ih=>
  have h:l+4294967296*val r=0:=h;have h1:l=0:=by omega
  have h2:val r=0:=by omega
  subst h1;rw[eF]at hc;rcases List.mem_cons.1 hc with rfl|hc
  ·simp
  rcases List.mem_cons.1 hc with rfl|hc
  ·simp
  ·exact ih h2 hc
theorem fa.Gv{v:Value}{k:Nat}(h:fa w S v k z):∃b a ls c,v= .agg #[.bool b,.slice a ls.length c]∧dP w S (.slice a ls.length c) ls∧sg b (val ls)=z∧ls.length<=k:=by
 obtain⟨b,ls,⟨lv,rfl,hl⟩,hz,hk⟩:=h;obtain⟨a,c,rfl,_⟩:=hl.sl;exact⟨b,a,ls,c,rfl,hl,hz,hk⟩
theorem fa.ln{v:Value}{k:Nat}(h:fa w S v k z):ln z.natAbs<=k:=by
 obtain⟨b,a,ls,c,_,hl,hz,hk⟩:=h.Gv;rw[<-hz,tf];exact M6 hl.lm hk
theorem fa.neg{k:Nat}(h:fa w S (.agg #[.bool b,lv]) k z):fa w S (.agg #[.bool (!b),lv]) k (-z):=by
 obtain⟨b,ls,⟨lv,e,hl⟩,hz,hk⟩:=h;simp only[Value.agg.injEq,Array.mk.injEq,List.cons.injEq,Value.bool.injEq,and_true]at e;obtain⟨rfl,rfl⟩:=e;refine⟨_,ls,⟨_,rfl,hl⟩,?_,hk⟩;rw[<-hz]
 cases b<;>simp[sg]
theorem fa.abs{k:Nat}(h:fa w S (.agg #[.bool b,lv]) k z):fa w S (.agg #[.bool false,lv]) k (z.natAbs:Int):=by
 obtain⟨b,ls,⟨lv,e,hl⟩,hz,hk⟩:=h;simp only[Value.agg.injEq,Array.mk.injEq,List.cons.injEq,Value.bool.injEq,and_true]at e;obtain⟨rfl,rfl⟩:=e;exact⟨_,ls,⟨_,rfl,hl⟩,by rw[<-hz,tf];rfl,hk⟩
theorem r9{v:Value}{k:Nat}(hS:Old S w)(h:fa w S v k z)(hk:k<=40000000):
  eD PG N.nR #[v] w (eG w fun v' w2=>∃cs,eC w2 (Nf w w2) v' cs∧CK cs (2*k) z):=by
 obtain⟨b,ls,hi,hz,hl⟩:=h;have PZ:Lm ls:=by obtain⟨_,_,h⟩:=hi;exact h.lm
 refine(IJ hS hi (by omega)).mono fun _ w2 ⟨v2,e1,e2,e3⟩=>⟨v2,e1,e2,_,e3,by rw[Dy,Nk,hz],by rw[iT];omega,Ad (aAi b) PZ,fun h0=>?_⟩
 cases b with
 |false=>exact fun c hc=>(yS PZ c hc).1
 |true=>
  rw[MF]at hz;exact fun c hc=>by rw[CL _ (show val ls=0 by omega) c hc];decide
theorem IK{v:Value}{n:Nat}(hS:Old S w)(h:eC w S v cs)(hb:CK cs n z)(hn:n<=100000000):
  eD PG N.kf #[v] w (eG w fun v' w2=>dO w2 (Nf w w2) v' z):=by
 have:=xR hS h (fun c hc=>by have:=hb.2.2.1 c hc;omega) (by have:=hb.2.1;omega);rw[hb.1]at this;exact this
theorem Me{v:Value}{k:Nat}(hS:Old S w)(hx:fa w S v k x)(hk:k<=40000000):
  eD PG N.DF #[v] w (eG w fun v' w2=>dO w2 (Nf w w2) v' x):=by
 have hw:=bR w;replace hx:=hx.cJ (S':=Cv S w.heap.size []) fun _ h=>.inl h;obtain⟨b1,a1,n1,c1,rfl⟩:=hx.shape;refine ER (by simp) ?_;refine cD (cE hw (fun _ w' v w2=>∃cs,eC w2 (Nf w' w2) v cs∧CK cs (2*k) (x)) (fun O w' r=>r9 (Rel.old r hS) (hx.rel r hS) (by omega)) ?_);rintro O _ _ _ OP r he hw h_ ⟨cs,k1,bcs⟩;have hc:=k1.dB (S:=FF) r.cF (mN h_);obtain⟨acs,ccs,rfl,lcs⟩:=hc.shape;refine cD (cE hw (fun _ w' v w2=>dO w2 (Nf w' w2) v (x)) (fun O w' r=>IK (Rel.old r (cC w)) (hc.rel r (cC w)) bcs (by omega)) ?_);rintro O _ _ _ ON r he hw h_ hn;have hC:=hn.dB (S:=FF) r.cF (mN h_);obtain⟨A0,A1,A2,A3,rfl⟩:=hC.shape;exact rtn hw fun ρe we re=>hC.out re (cC w)
theorem mY{v:Value}{k:Nat}(hS:Old S w)(hx:fa w S v k x)(hk:k<=40000000):
  eD PG N.xu #[v] w (eG w fun v' w2=>dO w2 (Nf w w2) v' (-x)):=by
 have hw:=bR w;replace hx:=hx.cJ (S':=Cv S w.heap.size []) fun _ h=>.inl h;obtain⟨b1,a1,n1,c1,rfl⟩:=hx.shape;replace hx:=hx.neg;refine BD (by simp) ?_;refine cD (cE hw (fun _ w' v w2=>dO w2 (Nf w' w2) v (-x)) (fun O w' r=>Me (Rel.old r hS) (hx.rel r hS) hk) ?_);rintro O _ _ _ OP r he hw h_ hn;have hC:=hn.dB (S:=FF) r.cF (mN h_);obtain⟨A0,A1,A2,A3,rfl⟩:=hC.shape;exact rtn hw fun ρe we re=>hC.out re (cC w)
theorem zO{v:Value}{k:Nat}(hS:Old S w)(hx:fa w S v k x)(hk:k<=40000000):
  eD PG N.Ak #[v] w (eG w fun v' w2=>dO w2 (Nf w w2) v' ((x.natAbs:Int))):=by
 have hw:=bR w;replace hx:=hx.cJ (S':=Cv S w.heap.size []) fun _ h=>.inl h;obtain⟨b1,a1,n1,c1,rfl⟩:=hx.shape;replace hx:=hx.abs;refine Bz (by simp) ?_;refine cD (cE hw (fun _ w' v w2=>dO w2 (Nf w' w2) v ((x.natAbs:Int))) (fun O w' r=>Me (Rel.old r hS) (hx.rel r hS) hk) ?_);rintro O _ _ _ OP r he hw h_ hn;have hC:=hn.dB (S:=FF) r.cF (mN h_);obtain⟨A0,A1,A2,A3,rfl⟩:=hC.shape;exact rtn hw fun ρe we re=>hC.out re (cC w)
theorem aAE{v:Value}{i:Nat}(hS:Old S w)(h:eC w S v cs):
  eD PG N.Fz #[v,.int .i64 i] w (eG w fun v' _=>v'= .int .i64 (cs.getD i 0)):=by
 obtain⟨a,c,rfl,hc⟩:=h.shape;refine GB (by simp) ?_;refine dI.mk ?_ ?_<;>intro hi
 ·have hi:i<cs.length:=by simpa using hi
  obtain⟨x,hx⟩:∃x,cs[i]? =some x:=⟨_,aB hi⟩
  obtain⟨ad,rfl,q1,q2⟩:=h.load hx;refine⟨ad,rfl,by omega,.int .i64 x,fun O w' r=>?_,?_⟩
  ·rw[aE];exact kR hS dm.refl r q1 q2
  intro O w2 r;exact⟨_,rfl,r.cQ,by rw[List.getD,hx];rfl⟩
 ·have hi:cs.length<=i:=by
   have:¬i<cs.length:=by simpa using hi
   omega
  intro O w2 r;exact⟨_,rfl,r.cQ,by rw[List.getD,List.getElem?_eq_none hi];rfl⟩
theorem val_zero(h:∀x∈ls,x=0):val ls=0:=by
 induction ls with
 |nil=>rfl
 |cons l r ih=>rw[val,h l aG,ih fun x hx=>h x (List.mem_cons_of_mem _ hx)]
theorem Nl{x:Nat}(h:x∈ls)(hx:x≠0):0<val ls:=by
 induction ls with
 |nil=>cases h
 |cons l r ih=>
  rw[val];rcases List.mem_cons.1 h with rfl|h
  ·omega
  ·have:=ih h;omega
theorem gi{v:Value}(hS:Old S w)(hx:jt w S v x):
  eD PG N.Ah #[v] w (eG w fun v' _=>v'= .int .i64 x.sign):=by
 obtain⟨b,ls,⟨lv,rfl,h1⟩,hz⟩:=hx;obtain⟨a,c,rfl,_,ha⟩:=h1.sl;have hle1:=h1.le;refine Bw (by simp) ?_
 refine⟨Nat×World,fun z=>⟨[(1,pP 0 0),(3,iZ z.1)],[(0,.box T.Int [.v (.bool b),.v (.slice a ls.length c)])],1,[],z.2⟩,fun z=>ls.length-z.1,
  fun z=>z.1<=ls.length∧dm w.heap.size w z.2∧∀x∈ls.take z.1,x=0,?_,?_⟩
 ·intro O w' r;exact⟨(0,w'),⟨by simp,r.cQ,by simp⟩,Sub.gn [] r⟩
 rintro⟨i,w1⟩ ⟨hi,hw,ht⟩;dsimp only at hi hw ht ⊢;refine dI.mk ?_ ?_<;>intro OI
 ·have OI:i<ls.length:=by simpa using OI
  obtain⟨y,hy⟩:∃x,ls[i]? =some x:=⟨_,aB OI⟩
  obtain⟨ad,rfl,q1,q2⟩:=ha i y hy;refine⟨ad,rfl,by omega,.int .u32 y,fun O w' r=>by rw[aE,aU];exact kR hS hw r q1 q2,?_⟩;refine dI.mk ?_ ?_<;>intro OJ
  ·have OJ:y≠0:=fun h=>by rw[h]at OJ;simp at OJ
   have hp:=Nl (aC hy) OJ
   cases b with
   |true=>
    rw[MF]at hz;intro O w2 r;exact⟨_,rfl,hw.tr r.cQ,by rw[bZ (by omega)];rfl⟩
   |false=>
    rw[aA4]at hz;intro O w2 r;exact⟨_,rfl,hw.tr r.cQ,by rw[bf (by omega)];rfl⟩
  have OJ:y=0:=by simpa using OJ
  subst OJ;have Ss:∀x∈ls.take (i+1),x=0:=fun x hx=>by
   rw[List.take_add_one,hy]at hx;rcases bK.1 hx with hx|hx
   ·exact ht x hx
   ·simpa using hx
  refine⟨((i+1:Nat):Int),wo,?_⟩;intro ρ3 w3 r3;exact⟨(i+1,w3),⟨OI,hw.tr r3.cQ,Ss⟩,Sub.gn [] r3,by dsimp only;omega⟩
 have OI:i=ls.length:=by
  have:¬i<ls.length:=by simpa using OI
  omega
 subst OI;rw[bG]at ht;intro O w2 r;refine⟨_,rfl,hw.tr r.cQ,?_⟩;rw[<-hz,val_zero ht]
 cases b<;>rfl
theorem CK.at{n:Nat}(h:CK cs n z)(i:Nat): -65535<=cs.getD i 0∧cs.getD i 0<=65535:=by
 rw[List.getD]
 cases hj:cs[i]? with
 |none=>simp
 |some d=>exact h.2.2.1 d (aC hj)
end Go.Ex
namespace Go.Sx
open Go Go.Ex Go.Proofs
variable{cs:List Int}{O:Nat->Sx.di}
theorem Rel.Nm{H:Hp}{nx:Nat}{iv:Iv}{B:Nat}{w w':World}(r:Rel H nx iv B w O w'){id m:Nat}(h:dE H id=some (.vec T.int 1 (cs.map (Value.int .i64))))(hm:m=cs.length)(hl:m<=maxLen):
  ∃S',Old S' w'∧eC w' S' ((SV.o (.w id m)).den O) cs:=by
 have OK:=r.Ei (m:=m) h (by rw[aJ,hm,aU]) (by decide);exact⟨_,fun g hg=>(ownsRow.low OK g hg).2,rZ OK hm hl⟩
end Go.Sx
namespace Go.Ex
open Go Go.Sx Go.Proofs
variable{x y:Int}{cs:List Int}{S:Nat->Prop}{O:Nat->Sx.di}{u:Value}{w:World}
theorem nU{H:Hp}{nx:Nat}{iv:Iv}{B:Nat}{w':World}(r:Rel H nx iv B w O w'){id m:Nat}{z:Int}(h:dE H id=some (.vec T.int 1 (cs.map (Value.int .i64))))(hm:m=cs.length)(hl:m<=100000000)
  (hb:∀c∈cs,-1152921504606846976<=c∧c<=1152921504606846976) (hz:dR cs=z):eD PG N.kf #[(SV.o (.w id m)).den O] w' (eG w' fun v' w2=>dO w2 (Nf w' w2) v' z):=by
 subst hz;obtain⟨S',h1,h2⟩:=r.Nm h hm (by unfold maxLen;omega);exact xR h1 h2 hb (by omega)
theorem Ba{v:Value}{k l:Nat}(hS:Old S w)(hx:fa w S v k x)(hy:fa w S u l y)(hk:k<=10000000)(hl:l<=10000000):
  eD PG N.DC #[v,u] w (eG w fun v' w2=>dO w2 (Nf w w2) v' (x+y)):=by
 have hw:=bR w;replace hx:=hx.cJ (S':=Cv S w.heap.size []) fun _ h=>.inl h;replace hy:=hy.cJ (S':=Cv S w.heap.size []) fun _ h=>.inl h;obtain⟨b1,a1,n1,c1,rfl⟩:=hx.shape;obtain⟨b2,a2,n2,c2,rfl⟩:=hy.shape;refine EH (by simp) ?_;refine cK hτ da [.x 0,.x 2,.x 1,.x 3,.x 4,.x 5] (by kernel_rfl) (by kernel_rfl) ?_;refine cE hw (fun _ w' v w2=>∃cs,eC w2 (Nf w' w2) v cs∧CK cs (2*k) (x)) (fun O w' r=>r9 (Rel.old r hS) (hx.rel r hS) (by omega)) ?_;rintro O _ _ _ OP r he hw h_ ⟨ca,k1,bca⟩;replace hy:=hy.cG r hS he (mC h_);have PJ:=k1.dB (S:=FF) r.cF (mN h_);obtain⟨aca,cca,rfl,lca⟩:=PJ.shape;refine cE hw (fun _ w' v w2=>∃cs,eC w2 (Nf w' w2) v cs∧CK cs (2*l) (y)) (fun O w' r=>r9 (Rel.old r hS) (hy.rel r hS) (by omega)) ?_;rintro O _ _ _ ON r he hw h_ ⟨cb,k1,bcb⟩;replace PJ:=PJ.cG r (cC w) he (mC h_);have QG:=k1.dB (S:=FF) r.cF (mN h_);obtain⟨acb,ccb,rfl,lcb⟩:=QG.shape
 refine⟨Nat×World×Iv,fun z=>⟨[(4,pP 2 0),(5,sV aca ca.length cca),(6,sV acb cb.length ccb),(7,.o (.w 3 z.1)),(8,iZ z.1)],[(3,.vec T.int 1 (((List.range z.1).map fun j=>ca.getD j 0+cb.getD j 0).map (Value.int .i64))),(2,.box T.Int [.v (.bool false),.v (.slice none 0 0)])],4,z.2.2,z.2.1⟩,fun z=>max ca.length cb.length-z.1,
  fun z=>z.1<=max ca.length cb.length∧dm w.heap.size w z.2.1∧eC z.2.1 (Cf w z.2.2) (.slice aca ca.length cca) ca∧eC z.2.1 (Cf w z.2.2) (.slice acb cb.length ccb) cb,?_,?_⟩
 ·intro O w' r
  exact⟨(0,w',ON),⟨by simp,hw.tr r.cQ,PJ.rel r (cC w),QG.rel r (cC w)⟩,Sub.nil 7 T.int 1 rfl (by simp[jQ,SV.sc,At.sc,fP]) r fun ρ1 r1=>
   Sub.gn [] r1⟩
 rintro⟨i,w1,iv⟩ ⟨hi,hw,PJ,QG⟩;dsimp only at hi hw PJ QG ⊢;have l1:=bca.2.1;have l2:=bcb.2.1;refine dI.mk ?_ ?_<;>intro OI
 ·have OI:i<max ca.length cb.length:=by
   have:=aI OI;omega
  have q1:=bca.at i;have q2:=bcb.at i;refine cD (cE hw (fun _ w' v w2=>v= .int .i64 (ca.getD i 0)) (fun O w' r=>aAE (Rel.old r (cC w)) (PJ.rel r (cC w))) ?_);rintro O PX v3 PT OU r he hw h_ rfl;replace PJ:=PJ.cG r (cC w) he (mC h_);replace QG:=QG.cG r (cC w) he (mC h_);refine cD (cE hw (fun _ w' v w2=>v= .int .i64 (cb.getD i 0)) (fun O w' r=>aAE (Rel.old r (cC w)) (QG.rel r (cC w))) ?_);rintro O _ _ _ OW r he hw h_ rfl;replace PJ:=PJ.cG r (cC w) he (mC h_);replace QG:=QG.cG r (cC w) he (mC h_);refine⟨ca.getD i 0+cb.getD i 0,wo,?_⟩;refine .inl ?_;refine⟨by simp,by omega,by unfold maxLen;omega,((i+1:Nat):Int),wo,?_⟩;intro ρ3 w3 r3;have Th:((List.range (i+1)).map fun j=>ca.getD j 0+cb.getD j 0).map (Value.int .i64)=((List.range i).map fun j=>ca.getD j 0+cb.getD j 0).map (Value.int .i64)++[.int .i64 (ca.getD i 0+cb.getD i 0)]:=by
   rw[bT,List.map_append,List.map_append];rfl
  exact⟨(i+1,w3,_),⟨OI,hw.tr r3.cQ,PJ.rel r3 (cC w),QG.rel r3 (cC w)⟩,Sub.gn [(3,5)] r3 ⟨by dsimp only;rw[Th];rfl,rfl,trivial⟩,by dsimp only;omega⟩
 have OI:i=max ca.length cb.length:=by
  have:=aH OI;omega
 generalize PE:((List.range i).map fun j=>ca.getD j 0+cb.getD j 0)=cs;have hz:dR cs=x+y:=by
  rw[<-PE,Ab,Ac,qJ ca i (by omega),qJ cb i (by omega),bca.1,bcb.1]
 have hlen:i=cs.length:=by rw[<-PE];simp
 have Ok:∀c∈cs,-1152921504606846976<=c∧c<=1152921504606846976:=fun c hc=>by
  rw[<-PE]at hc;obtain⟨j,_,rfl⟩:=aT.1 hc;have:=bca.at j;have:=bcb.at j;omega
 refine cD (cE hw (fun _ w' v w2=>dO w2 (Nf w' w2) v (x+y)) (fun O w' r=>nU r rfl hlen (by omega) Ok hz) ?_);rintro O _ _ _ OU r he hw h_ hn;have hC:=hn.dB (S:=FF) r.cF (mN h_);obtain⟨A0,A1,A2,A3,rfl⟩:=hC.shape;exact rtn hw fun ρe we re=>hC.out re (cC w)
theorem Ek{v:Value}{k l:Nat}(hS:Old S w)(hx:fa w S v k x)(hy:fa w S u l y)(hk:k<=10000000)(hl:l<=10000000):
  eD PG N.Aj #[v,u] w (eG w fun v' w2=>dO w2 (Nf w w2) v' (x-y)):=by
 have Qb:=hy.ln;have hw:=bR w;replace hx:=hx.cJ (S':=Cv S w.heap.size []) fun _ h=>.inl h;replace hy:=hy.cJ (S':=Cv S w.heap.size []) fun _ h=>.inl h;obtain⟨b1,a1,n1,c1,rfl⟩:=hx.shape;obtain⟨b2,a2,n2,c2,rfl⟩:=hy.shape;refine By (by simp) ?_;refine cK hτ da [.x 0,.x 1,.x 2,.x 3,.x 4] (by kernel_rfl) (by kernel_rfl) ?_;refine cE hw (fun _ w' v w2=>dO w2 (Nf w' w2) v (-y)) (fun O w' r=>mY (Rel.old r hS) (hy.rel r hS) (by omega)) ?_;rintro O _ _ _ OP r he hw h_ hn;replace hx:=hx.cG r hS he (mC h_);have hm:=hn.dB (S:=FF) r.cF (mN h_);obtain⟨A0,A1,A2,A3,rfl⟩:=hm.shape;refine cE hw (fun _ w' v w2=>dO w2 (Nf w' w2) v (x-y)) (fun O w' r=>?_) ?_
 ·have h:=Ba (Rel.old r hS) (hx.rel r hS) (((hm.rel r (cC w)).l (k:=l) (by rw[cB];exact Qb)).cJ fun g hg=>Cv.false hg) hk hl;rw[<-Int.sub_eq_add_neg]at h;exact h
 rintro O _ _ _ ON r he hw h_ hn;have hC:=hn.dB (S:=FF) r.cF (mN h_);obtain⟨C0,C1,C2,C3,rfl⟩:=hC.shape;exact rtn hw fun ρe we re=>hC.out re (cC w)
theorem KQ{v:Value}{k l:Nat}(hS:Old S w)(hx:fa w S v k x)(hy:fa w S u l y)(hk:k<=10000000)(hl:l<=10000000):
  eD PG N.ue #[v,u] w (eG w fun v' _=>v'= .int .i64 (x-y).sign):=by
 have hw:=bR w;replace hx:=hx.cJ (S':=Cv S w.heap.size []) fun _ h=>.inl h;replace hy:=hy.cJ (S':=Cv S w.heap.size []) fun _ h=>.inl h;obtain⟨b1,a1,n1,c1,rfl⟩:=hx.shape;obtain⟨b2,a2,n2,c2,rfl⟩:=hy.shape;refine yf (by simp) ?_;refine cD (cE hw (fun _ w' v w2=>dO w2 (Nf w' w2) v (x-y)) (fun O w' r=>Ek (Rel.old r hS) (hx.rel r hS) (hy.rel r hS) hk hl) ?_);rintro O _ _ _ OP r he hw h_ hn;have hd:=hn.dB (S:=FF) r.cF (mN h_);obtain⟨A0,A1,A2,A3,rfl⟩:=hd.shape;refine cD (cE hw (fun _ w' v w2=>v= .int .i64 (x-y).sign) (fun O w' r=>gi (Rel.old r (cC w)) (hd.rel r (cC w)).r) ?_);rintro O _ _ _ ON r he hw h_ rfl;exact rtn hw fun ρe we re=>rfl
end Go.Ex
namespace Go.Ex
open Go Go.Sx Go.Proofs
variable{S:Nat->Prop}
theorem KR{x y:Int}(hx: -65535<=x∧x<=65535)(hy: -65535<=y∧y<=65535):(x*y).natAbs<=4294836225:=by
 rw[Int.natAbs_mul];exact Nat.mul_le_mul (show x.natAbs<=65535 by omega) (show y.natAbs<=65535 by omega)
theorem D8{a b:List Int}{i k:Nat}(hk:k<=i+1)(h:i<k∨a.length<=k):ie a b i k=gL a b i:=by
 rcases h with h|h
 ·rw[gL,show i+1=k by omega]
 ·obtain⟨m,hm⟩:∃m,i+1=k+m:=⟨i+1-k,by omega⟩
  rw[gL,hm,Ha a b i k m h]
theorem iR{w:World}{v u:Value}{k l:Nat}{x y:Int}(hS:Old S w)(hx:fa w S v k x)(hy:fa w S u l y)(hk:k<=10000000)(hl:l<=10000000):
  eD PG N.Ai #[v,u] w (eG w fun v' w2=>dO w2 (Nf w w2) v' (x*y)):=by
 have hw:=bR w;replace hx:=hx.cJ (S':=Cv S w.heap.size []) fun _ h=>.inl h;replace hy:=hy.cJ (S':=Cv S w.heap.size []) fun _ h=>.inl h;obtain⟨b1,a1,n1,c1,rfl⟩:=hx.shape;obtain⟨b2,a2,n2,c2,rfl⟩:=hy.shape;refine Bx (by simp) ?_;refine cK hτ da [.x 0,.x 2,.x 1,.x 3,.x 4,.x 5] (by kernel_rfl) (by kernel_rfl) ?_;refine cE hw (fun _ w' v w2=>∃cs,eC w2 (Nf w' w2) v cs∧CK cs (2*k) (x)) (fun O w' r=>r9 (Rel.old r hS) (hx.rel r hS) (by omega)) ?_;rintro O _ _ _ OP r he hw h_ ⟨ca,k1,bca⟩;replace hy:=hy.cG r hS he (mC h_);have PJ:=k1.dB (S:=FF) r.cF (mN h_);obtain⟨aca,cca,rfl,lca⟩:=PJ.shape;refine cE hw (fun _ w' v w2=>∃cs,eC w2 (Nf w' w2) v cs∧CK cs (2*l) (y)) (fun O w' r=>r9 (Rel.old r hS) (hy.rel r hS) (by omega)) ?_;rintro O _ _ _ ON r he hw h_ ⟨cb,k1,bcb⟩;replace PJ:=PJ.cG r (cC w) he (mC h_);have QG:=k1.dB (S:=FF) r.cF (mN h_);obtain⟨acb,ccb,rfl,lcb⟩:=QG.shape;have l1:=bca.2.1;have l2:=bcb.2.1
 refine⟨Nat×World,fun z=>⟨[(4,pP 2 0),(5,sV aca ca.length cca),(6,sV acb cb.length ccb),(7,.o (.w 3 z.1)),(8,iN z.1)],[(3,.vec T.int 1 (((List.range z.1).map (gL ca cb)).map (Value.int .i64))),(2,.box T.Int [.v (.bool false),.v (.slice none 0 0)])],4,ON,z.2⟩,fun z=>ca.length+cb.length-z.1,
  fun z=>(z.1+1<=ca.length+cb.length∨z.1=0)∧dm w.heap.size w z.2∧eC z.2 (Cf w ON) (.slice aca ca.length cca) ca∧eC z.2 (Cf w ON) (.slice acb cb.length ccb) cb,?_,?_⟩
 ·intro O w' r
  exact⟨(0,w'),⟨by simp,hw.tr r.cQ,PJ.rel r (cC w),QG.rel r (cC w)⟩,Sub.nil 7 T.int 1 rfl (by simp[jQ,SV.sc,At.sc,fP]) r fun ρ1 r1=>
   Sub.gn [] r1⟩
 rintro⟨i,w1⟩ ⟨hi,hw,PJ,QG⟩;dsimp only at hi hw PJ QG ⊢;refine⟨((i+1:Nat):Int),wo,((ca.length+cb.length:Nat):Int),wo,?_⟩;refine dI.mk ?_ ?_<;>intro OI
 ·have OI:i+1<ca.length+cb.length:=by
   have:=aI OI;omega
  refine⟨(i:Int)-cb.length,wo,(i:Int)-cb.length+1,wo,?_⟩;conv=>whnf
  rw[show max 0 ((i:Int)-cb.length+1)=((i+1-cb.length:Nat):Int) by omega];obtain⟨k0,Sd⟩:∃k0,k0=i+1-cb.length:=⟨_,rfl⟩
  rw[<-Sd]
  refine⟨Nat×World,fun z=>⟨[(4,pP 2 0),(5,sV aca ca.length cca),(6,sV acb cb.length ccb),(7,.o (.w 3 i)),(8,iN i),(9,.o (.v (.int .i64 (ie ca cb i z.1)))),(10,iN z.1)],[(3,.vec T.int 1 (((List.range i).map (gL ca cb)).map (Value.int .i64))),(2,.box T.Int [.v (.bool false),.v (.slice none 0 0)])],4,ON,z.2⟩,fun z=>i+1-z.1,
   fun z=>k0<=z.1∧z.1<=i+1∧dm w.heap.size w z.2∧eC z.2 (Cf w ON) (.slice aca ca.length cca) ca∧eC z.2 (Cf w ON) (.slice acb cb.length ccb) cb,?_,?_⟩
  ·intro O w' r;refine⟨(k0,w'),⟨by simp,by dsimp only;omega,hw.tr r.cQ,PJ.rel r (cC w),QG.rel r (cC w)⟩,Sub.gn [] r (hE:=⟨rfl,rfl,rfl,rfl,rfl,?_,rfl,trivial⟩)⟩;dsimp only
   rw[H9 ca cb i k0 k0 (fun j hj=>by omega) (by omega) (aF _)];rfl
  rintro⟨j,w2⟩ ⟨Vb,hj1,hw,PJ,QG⟩;dsimp only at Vb hj1 hw PJ QG ⊢;conv=>whnf
  refine dI.mk ?_ ?_<;>intro PH
  ·have PH:j<=i:=by
    have:=aI PH;omega
   refine dI.mk ?_ ?_<;>intro hja
   ·have hja:j<ca.length:=by
     have:=aI hja;omega
    obtain⟨p,hp⟩:∃p,ca[j]? =some p:=⟨_,aB hja⟩
    obtain⟨q,hq⟩:∃q,cb[i-j]? =some q:=⟨_,aB (by omega)⟩
    obtain⟨ad,rfl,q1,q2⟩:=PJ.load hp;obtain⟨ad2,rfl,q3,q4⟩:=QG.load hq;have e1:ca.getD j 0=p:=by rw[List.getD,hp];rfl
    have e2:cb.getD (i-j) 0=q:=by rw[List.getD,hq];rfl
    have e3:ie ca cb i (j+1)=ie ca cb i j+p*q:=by rw[ie,e1,if_pos PH,e2]
    have m1:=bca.at j;have m2:=bcb.at (i-j);rw[e1]at m1;rw[e2]at m2;have m3:=KR m1 m2;have m4:=mm (a:=ca) (b:=cb) (i:=i) bca.2.2.1 bcb.2.2.1 j;refine cK hτ da [.x 0,.x 1,.x 2,.x 3,.x 4,.x 5,.x 6,.x 7,.x 8,.x 9,.x 10,.x 11,.x 12,.x 13] (by kernel_rfl) (by kernel_rfl) ?_;refine⟨ad,rfl,by omega,.int .i64 p,fun O w' r=>?_,?_⟩
    ·rw[aE,cH (w:=w2) (w2:=w') (by rw[dD];exact Rel.same (S:=FF) r (cC w) q1)];exact q2
    refine⟨((i-j:Nat):Int),wo,ad2,rfl,by omega,.int .i64 q,fun O w' r=>?_,?_⟩
    ·rw[aE,cH (w:=w2) (w2:=w') (by rw[dD];exact Rel.same (S:=FF) r (cC w) q3)];exact q4
    refine⟨p*q,wo,ie ca cb i (j+1),by rw[e3,wrap64]<;>omega,((j+1:Nat):Int),wo,?_⟩;intro ρ3 w3 r3;exact⟨(j+1,w3),⟨by dsimp only;omega,by dsimp only;omega,hw.tr r3.cQ,PJ.rel r3 (cC w),QG.rel r3 (cC w)⟩,Sub.gn [] r3,by dsimp only;omega⟩
   have hja:ca.length<=j:=by
    have:=aH hja;omega
   rw[D8 hj1 (.inr hja)];have m4:=mm (a:=ca) (b:=cb) (i:=i) bca.2.2.1 bcb.2.2.1 (i+1);refine .inl ?_;refine⟨by simp,by omega,by unfold maxLen;omega,((i+1:Nat):Int),wo,?_⟩;intro ρ3 w3 r3;have Th:((List.range (i+1)).map (gL ca cb)).map (Value.int .i64)=((List.range i).map (gL ca cb)).map (Value.int .i64)++[.int .i64 (gL ca cb i)]:=by
    rw[bT,List.map_append,List.map_append];rfl
   exact⟨(i+1,w3),⟨.inl OI,hw.tr r3.cQ,PJ.rel r3 (cC w),QG.rel r3 (cC w)⟩,Sub.gn [(3,5)] r3 ⟨by dsimp only;rw[Th];rfl,rfl,trivial⟩,by dsimp only;omega⟩
  have PH:i<j:=by
   have:=aH PH;omega
  rw[D8 hj1 (.inl PH)];have m4:=mm (a:=ca) (b:=cb) (i:=i) bca.2.2.1 bcb.2.2.1 (i+1);refine .inl ?_;refine⟨by simp,by omega,by unfold maxLen;omega,((i+1:Nat):Int),wo,?_⟩;intro ρ3 w3 r3;have Th:((List.range (i+1)).map (gL ca cb)).map (Value.int .i64)=((List.range i).map (gL ca cb)).map (Value.int .i64)++[.int .i64 (gL ca cb i)]:=by
   rw[bT,List.map_append,List.map_append];rfl
  exact⟨(i+1,w3),⟨.inl OI,hw.tr r3.cQ,PJ.rel r3 (cC w),QG.rel r3 (cC w)⟩,Sub.gn [(3,5)] r3 ⟨by dsimp only;rw[Th];rfl,rfl,trivial⟩,by dsimp only;omega⟩
 have OI:ca.length+cb.length<=i+1:=by
  have:=aH OI;omega
 generalize PE:((List.range i).map (gL ca cb))=cs;have hz:dR cs=x*y:=by
  rw[<-PE,Ab,Lk ca cb i OI,bca.1,bcb.1]
 have hlen:i=cs.length:=by rw[<-PE];simp
 have Ok:∀c∈cs,-1152921504606846976<=c∧c<=1152921504606846976:=fun c hc=>by
  rw[<-PE]at hc;obtain⟨j,hj,rfl⟩:=aT.1 hc;have hj:=List.mem_range.1 hj;have:=mm (a:=ca) (b:=cb) (i:=j) bca.2.2.1 bcb.2.2.1 (j+1);rw[gL];omega
 refine cD (cE hw (fun _ w' v w2=>dO w2 (Nf w' w2) v (x*y)) (fun O w' r=>nU r rfl hlen (by omega) Ok hz) ?_);rintro O _ _ _ OU r he hw h_ hn;have hC:=hn.dB (S:=FF) r.cF (mN h_);obtain⟨A0,A1,A2,A3,rfl⟩:=hC.shape;exact rtn hw fun ρe we re=>hC.out re (cC w)
end Go.Ex
namespace Go.Ex
theorem JZ{b r r2 q X n c:Int}(h:X=b*q+r)(hr:r*65536+c=b*n+r2):c+65536*X=b*(n+65536*q)+r2:=by
 rw[h,Int.mul_add,Int.mul_add,Int.mul_left_comm b 65536 q];omega
theorem Ks{x y Q R:Int}(hy:y≠0)(h:(x.natAbs:Int)=(y.natAbs:Int)*Q+R)(h0:0<=R)(h1:R<(y.natAbs:Int)):
  (if x<0∧0<R then(if (x<0)↔(y<0)then(Q+1)else -(Q+1))else(if (x<0)↔(y<0)then Q else -Q))=x / y∧(if x<0∧0<R then(y.natAbs:Int)-R else R)=x % y:=by
 have key:∀q r:Int,r+y*q=x->0<=r->r<(y.natAbs:Int)->q=x / y∧r=x % y:=by
  intro q r e1 e2 e3;have m:x % y=r:=by
   rw[<-e1,Int.add_mul_emod_self_left];rcases Int.lt_or_lt_of_ne hy with h|h
   ·rw[<-Int.emod_neg,Int.emod_eq_of_lt e2 (by omega)]
   ·exact Int.emod_eq_of_lt e2 (by omega)
  have d:=Int.mul_ediv_add_emod x y;rw[m]at d;exact⟨(Int.eq_of_mul_eq_mul_left hy (by omega)),m.symm⟩
 by_cases hx:x<0
 ·have ex:(x.natAbs:Int)= -x:=by omega
  by_cases hy':y<0
  ·have ey:(y.natAbs:Int)= -y:=by omega
   rw[ex,ey,Int.neg_mul]at h;by_cases hR:0<R
   ·rw[if_pos (show x<0∧0<R from⟨hx,hR⟩),if_pos (show x<0∧0<R from⟨hx,hR⟩),if_pos (show (x<0)↔(y<0) by simp[hx,hy'])];exact key _ _ (by rw[Int.mul_add,Int.mul_one];omega) (by omega) (by omega)
   ·rw[aK (show ¬(x<0∧0<R) by omega),aK (show ¬(x<0∧0<R) by omega),if_pos (show (x<0)↔(y<0) by simp[hx,hy'])];exact key _ _ (by omega) h0 h1
  ·have ey:(y.natAbs:Int)=y:=by omega
   rw[ex,ey]at h;have hn:¬((x<0)↔(y<0)):=by simp[hx,hy']
   by_cases hR:0<R
   ·rw[if_pos (show x<0∧0<R from⟨hx,hR⟩),if_pos (show x<0∧0<R from⟨hx,hR⟩),aK hn];exact key _ _ (by rw[Int.mul_neg,Int.mul_add,Int.mul_one];omega) (by omega) (by omega)
   ·rw[aK (show ¬(x<0∧0<R) by omega),aK (show ¬(x<0∧0<R) by omega),aK hn];exact key _ _ (by rw[Int.mul_neg];omega) h0 h1
 ·have ex:(x.natAbs:Int)=x:=by omega
  rw[aK (show ¬(x<0∧0<R) by omega),aK (show ¬(x<0∧0<R) by omega)];by_cases hy':y<0
  ·have ey:(y.natAbs:Int)= -y:=by omega
   rw[ex,ey,Int.neg_mul]at h;rw[aK (show ¬((x<0)↔(y<0)) by simp[hx,hy'])];exact key _ _ (by rw[Int.mul_neg];omega) h0 h1
  ·have ey:(y.natAbs:Int)=y:=by omega
   rw[ex,ey]at h;rw[if_pos (show (x<0)↔(y<0) by simp[hx,hy'])];exact key _ _ (by omega) h0 h1
theorem gH(z:Int):(z<0∧z.sign= -1)∨(z=0∧z.sign=0)∨(0<z∧z.sign=1):=by
 rcases Int.lt_trichotomy z 0 with h|h|h
 ·exact .inl ⟨h,bZ h⟩
 ·exact .inr (.inl ⟨h,by rw[h];rfl⟩)
 ·exact .inr (.inr ⟨h,bf h⟩)
end Go.Ex
namespace Go.Ex
open Go Go.Sx Go.Proofs
variable{Q:List Int}{S:Nat->Prop}
def Mg:Value:=.agg #[.bool false,.slice none 0 0]
theorem dO.nil(w:World)(S:Nat->Prop):dO w S (.agg #[.bool false,.slice none 0 0]) 0:=⟨[],⟨_,rfl,dP.nil _ _⟩,fun x h=>by simp at h,rfl⟩
theorem aB0(h:∀c∈Q,0<=c∧c<=65535):0<=dR Q:=by
 induction Q with
 |nil=>exact Int.le_refl _
 |cons c r ih=>
  have h1:=h c aG;have h2:=ih fun x hx=>h x (List.mem_cons_of_mem _ hx);rw[dR];omega
theorem Bb{n:Int}(h:0<=n)(h2:n<4294967296):ln n.natAbs<=1:=gP.2 (by show n.natAbs<4294967296^1;omega)
theorem KU{w:World}{v u:Value}{k l:Nat}{x y:Int}(hS:Old S w)(hx:fa w S v k x)(hy:fa w S u l y)(hk:k<=1000000)(hl:l<=1000000):
  eD PG N.oq #[v,u] w (eG w fun v' w2=>(y=0∧v'= .tuple #[Mg,Mg,.int .i64 9])∨(y≠0∧∃q r,v'= .tuple #[q,r,.int .i64 0]∧dO w2 (Nf w w2) q (x / y)∧dO w2 (Nf w w2) r (x % y))):=by
 have hw:=bR w;replace hx:=hx.cJ (S':=Cv S w.heap.size []) fun _ h=>.inl h;replace hy:=hy.cJ (S':=Cv S w.heap.size []) fun _ h=>.inl h;obtain⟨b1,a1,n1,c1,rfl⟩:=hx.shape;obtain⟨b2,a2,n2,c2,rfl⟩:=hy.shape;refine yh (by simp) ?_;have Qb:=hy.ln;refine cD (cE hw (fun _ w' v w2=>v= .int .i64 y.sign) (fun O w' r=>gi (Rel.old r hS) (hy.rel r hS).r) ?_);rintro O _ _ _ OP r he hw h_ rfl;replace hx:=hx.cG r hS he (mC h_);replace hy:=hy.cG r hS he (mC h_);refine dI.mk ?_ ?_<;>intro Pw
 ·have Pw:y=0:=by rcases gH y with h|h|h<;>simp[h]at Pw ⊢
  exact rtn hw fun ρe we re=>.inl ⟨Pw,rfl⟩
 have Pw:y≠0:=fun e=>by rw[e]at Pw;simp at Pw
 refine cK hτ da [.x 0,.x 3,.p 5,.x 1,.x 2,.x 4,.x 5,.x 6,.x 7] (by kernel_rfl) (by kernel_rfl) ?_;refine cE hw (fun _ w' v w2=>dO w2 (Nf w' w2) v ((x.natAbs:Int))) (fun O w' r=>zO (Rel.old r hS) (hx.rel r hS) (by omega)) ?_;rintro O _ _ _ ON r he hw h_ hn;replace hx:=hx.cG r hS he (mC h_);replace hy:=hy.cG r hS he (mC h_);have hsx:=hn.dB (S:=FF) r.cF (mN h_);obtain⟨A0,A1,A2,A3,rfl⟩:=hsx.shape;have Oo:=hx.ln;refine cE hw (fun _ w' v w2=>∃cs,eC w2 (Nf w' w2) v cs∧CK cs (2*k) ((x.natAbs:Int))) (fun O w' r=>r9 (Rel.old r (cC w)) ((hsx.rel r (cC w)).l (k:=k) (by rw[Int.natAbs_natCast];exact Oo)) (by omega)) ?_;rintro O _ _ _ OU r he hw h_ ⟨ca,k1,bca⟩;replace hx:=hx.cG r hS he (mC h_);replace hy:=hy.cG r hS he (mC h_);have PJ:=k1.dB (S:=FF) r.cF (mN h_);obtain⟨aca,cca,rfl,lca⟩:=PJ.shape;refine cE hw (fun _ w' v w2=>dO w2 (Nf w' w2) v ((y.natAbs:Int))) (fun O w' r=>zO (Rel.old r hS) (hy.rel r hS) (by omega)) ?_;rintro O _ _ _ OW r he hw h_ hn;replace hx:=hx.cG r hS he (mC h_);replace hy:=hy.cG r hS he (mC h_);replace PJ:=PJ.cG r (cC w) he (mC h_);have OX:=hn.dB (S:=FF) r.cF (mN h_);obtain⟨C0,C1,C2,C3,rfl⟩:=OX.shape;generalize hB:(y.natAbs:Int)=B at*
 have l1:=bca.2.1;have hB0:0<B:=by omega
 have lB:ln B.natAbs<=l:=by rw[<-hB,Int.natAbs_natCast];exact Qb
 refine⟨(ca.length:Int)-1,wo,Nat×List Int×Int×(Bool×Option Addr×Nat×Nat)×World×Iv,fun z=>⟨[(2,pP 0 0),(3,pP 1 0),(4,pP 2 0),(5,pP 3 0),(6,iZ 0),(7,sV aca ca.length cca),(8,pP 4 0),(9,.o (.w 6 z.2.1.length)),(10,pP 5 0),(11,.o (.v (.int .i64 ((z.1:Int)-1))))],[(6,.vec T.int 1 (z.2.1.map (Value.int .i64))),(5,.box T.Int [.v (.bool z.2.2.2.1.1),.v (.slice z.2.2.2.1.2.1 z.2.2.2.1.2.2.1 z.2.2.2.1.2.2.2)]),(4,.box T.Int [.v (.bool C0),.v (.slice C1 C2 C3)]),(3,.box T.Int [.v (.bool false),.v (.slice none 0 0)]),(2,.box T.Int [.v (.bool false),.v (.slice none 0 0)]),(1,.box T.Int [.v (.bool b2),.v (.slice a2 n2 c2)]),(0,.box T.Int [.v (.bool b1),.v (.slice a1 n1 c1)])],7,z.2.2.2.2.2,z.2.2.2.2.1⟩,fun z=>z.1,
  fun z=>z.1<=ca.length∧z.2.1.length+z.1=ca.length∧(∀c∈z.2.1,0<=c∧c<=65535)∧dR (ca.drop z.1)=B*dR z.2.1+z.2.2.1∧0<=z.2.2.1∧z.2.2.1<B∧dm w.heap.size w z.2.2.2.2.1∧fa z.2.2.2.2.1 (Cv S w.heap.size z.2.2.2.2.2) (.agg #[.bool b1,.slice a1 n1 c1]) k x∧fa z.2.2.2.2.1 (Cv S w.heap.size z.2.2.2.2.2) (.agg #[.bool b2,.slice a2 n2 c2]) l y∧eC z.2.2.2.2.1 (Cf w z.2.2.2.2.2) (.slice aca ca.length cca) ca∧dO z.2.2.2.2.1 (Cf w z.2.2.2.2.2) (.agg #[.bool C0,.slice C1 C2 C3]) B∧dO z.2.2.2.2.1 (Cf w z.2.2.2.2.2) (.agg #[.bool z.2.2.2.1.1,.slice z.2.2.2.1.2.1 z.2.2.2.1.2.2.1 z.2.2.2.1.2.2.2]) z.2.2.1,?_,?_⟩
 ·intro O w' r
  exact⟨(ca.length,[],0,(false,none,0,0),w',OW),⟨aF _,by simp,by simp,by simp[dR],Int.le_refl _,hB0,hw.tr r.cQ,hx.rel r hS,hy.rel r hS,PJ.rel r (cC w),OX.rel r (cC w),dO.nil _ _⟩,Sub.nil 9 T.int 1 rfl (by simp[jQ,SV.sc,At.sc]) r fun ρ1 r1=>
   Sub.gn [] r1⟩
 rintro⟨j,Q,R,⟨br,ar,nr,cr⟩,w1,iv⟩ ⟨hj,hQ,hd,hv,hR0,hR1,hw,hx,hy,PJ,OX,hr⟩;dsimp only at hj hQ hd hv hR0 hR1 hw hx hy PJ OX hr ⊢;refine dI.mk ?_ ?_<;>intro OI
 ·obtain⟨i,rfl⟩:∃i,j=i+1:=⟨j-1,by have:(j:Int)-1≥0:=aI OI;omega⟩
  rw[show ((i+1:Nat):Int)-1=(i:Int) by omega];obtain⟨d,Sl⟩:∃d,ca[i]? =some d:=⟨_,aB (by omega)⟩
  have Vj:=bca.2.2.1 d (aC Sl);have PM:=bca.2.2.2 (by omega) d (aC Sl);have lR:ln R.natAbs<=l:=aY (fM (by omega)) lB;have lU:ln (65536:Int).natAbs<=1:=by decide
  have m1:=cd R 65536;have m2:=Bb (n:=d) PM (by omega);have m3:=iw (R*65536) d;refine cK hτ da [.x 0,.x 3,.x 4,.x 5,.x 6,.x 1,.x 2,.x 7,.x 8,.x 9] (by kernel_rfl) (by kernel_rfl) ?_;obtain⟨ad,ha0,q1,q2⟩:=PJ.load Sl;refine⟨ad,ha0,by omega,.int .i64 d,fun O w' r=>?_,?_⟩
  ·rw[aE,cH (w:=w1) (w2:=w') (by rw[dD];exact Rel.same (S:=FF) r (cC w) q1)];exact q2
  refine cE hw (fun _ w' v w2=>dO w2 (Nf w' w2) v (65536)) (fun O w' r=>lN _ w' (by decide) (by decide)) ?_;rintro O R1 v5 RR Pb r he hw h_ hn;replace hx:=hx.cG r hS he (mC h_);replace hy:=hy.cG r hS he (mC h_);replace PJ:=PJ.cG r (cC w) he (mC h_);replace OX:=OX.cG r (cC w) he (mC h_);replace hr:=hr.cG r (cC w) he (mC h_);have hu:=hn.dB (S:=FF) r.cF (mN h_);obtain⟨F0,F1,F2,F3,rfl⟩:=hu.shape;refine cE hw (fun _ w' v w2=>dO w2 (Nf w' w2) v (R*65536)) (fun O w' r=>iR (Rel.old r (cC w)) ((hr.rel r (cC w)).l (k:=1000001) (by omega)) ((hu.rel r (cC w)).l (k:=1000001) (by omega)) (by omega) (by omega)) ?_;rintro O Rx v6 SG Qk r he hw h_ hn;replace hx:=hx.cG r hS he (mC h_);replace hy:=hy.cG r hS he (mC h_);replace PJ:=PJ.cG r (cC w) he (mC h_);replace OX:=OX.cG r (cC w) he (mC h_);have hp:=hn.dB (S:=FF) r.cF (mN h_);obtain⟨G0,G1,G2,G3,rfl⟩:=hp.shape;refine cE hw (fun _ w' v w2=>dO w2 (Nf w' w2) v (d)) (fun O w' r=>lN _ w' (by omega) (by omega)) ?_;rintro O UL v7 UM TA r he hw h_ hn;replace hx:=hx.cG r hS he (mC h_);replace hy:=hy.cG r hS he (mC h_);replace PJ:=PJ.cG r (cC w) he (mC h_);replace OX:=OX.cG r (cC w) he (mC h_);replace hp:=hp.cG r (cC w) he (mC h_);have hdd:=hn.dB (S:=FF) r.cF (mN h_);obtain⟨J0,J1,J2,J3,rfl⟩:=hdd.shape;refine cE hw (fun _ w' v w2=>dO w2 (Nf w' w2) v (R*65536+d)) (fun O w' r=>Ba (Rel.old r (cC w)) ((hp.rel r (cC w)).l (k:=1000002) (by omega)) ((hdd.rel r (cC w)).l (k:=1000002) (by omega)) (by omega) (by omega)) ?_;rintro O SH v8 Ri RF r he hw h_ hn;replace hx:=hx.cG r hS he (mC h_);replace hy:=hy.cG r hS he (mC h_);replace PJ:=PJ.cG r (cC w) he (mC h_);replace OX:=OX.cG r (cC w) he (mC h_);have hr:=hn.dB (S:=FF) r.cF (mN h_);obtain⟨K0,K1,K2,K3,rfl⟩:=hr.shape;generalize Qc:R*65536+d=R2 at*
  have hR20:0<=R2:=by omega
  have hR21:R2<65536*B:=by omega
  refine⟨Nat×Nat×Nat×World×Iv,fun z=>⟨[(2,pP 0 0),(3,pP 1 0),(4,pP 2 0),(5,pP 3 0),(6,iZ 0),(7,sV aca ca.length cca),(8,pP 4 0),(9,.o (.w 6 Q.length)),(10,pP 5 0),(11,.o (.v (.int .i64 ((i:Int))))),(12,iN z.1),(13,iN z.2.2.1)],[(6,.vec T.int 1 (Q.map (Value.int .i64))),(5,.box T.Int [.v (.bool K0),.v (.slice K1 K2 K3)]),(4,.box T.Int [.v (.bool C0),.v (.slice C1 C2 C3)]),(3,.box T.Int [.v (.bool false),.v (.slice none 0 0)]),(2,.box T.Int [.v (.bool false),.v (.slice none 0 0)]),(1,.box T.Int [.v (.bool b2),.v (.slice a2 n2 c2)]),(0,.box T.Int [.v (.bool b1),.v (.slice a1 n1 c1)])],7,z.2.2.2.2,z.2.2.2.1⟩,fun z=>z.2.1,
   fun z=>z.2.2.1=2^z.2.1 / 2∧z.1+2^z.2.1<=65536∧((z.1:Nat):Int)*B<=R2∧R2<((z.1+2^z.2.1:Nat):Int)*B∧dm w.heap.size w z.2.2.2.1∧fa z.2.2.2.1 (Cv S w.heap.size z.2.2.2.2) (.agg #[.bool b1,.slice a1 n1 c1]) k x∧fa z.2.2.2.1 (Cv S w.heap.size z.2.2.2.2) (.agg #[.bool b2,.slice a2 n2 c2]) l y∧eC z.2.2.2.1 (Cf w z.2.2.2.2) (.slice aca ca.length cca) ca∧dO z.2.2.2.1 (Cf w z.2.2.2.2) (.agg #[.bool C0,.slice C1 C2 C3]) B∧dO z.2.2.2.1 (Cf w z.2.2.2.2) (.agg #[.bool K0,.slice K1 K2 K3]) R2,?_,?_⟩
  ·intro O w' r
   exact⟨(0,16,32768,w',RF),⟨by show 32768=2^16 / 2;decide,by show 0+2^16<=65536;decide,by dsimp only;omega,by dsimp only;rw[show ((0+2^16:Nat):Int)=65536 from rfl];exact hR21,hw.tr r.cQ,hx.rel r hS,hy.rel r hS,PJ.rel r (cC w),OX.rel r (cC w),hr.rel r (cC w)⟩,
    Sub.gn [] r⟩
  rintro⟨n,e,bit,w5,iv⟩ ⟨hn0,hn1,Rr,Vt,hw,hx,hy,PJ,OX,hr⟩;dsimp only at hn0 hn1 Rr Vt hw hx hy PJ OX hr ⊢;refine dI.mk ?_ ?_<;>intro UP
  ·have UP:0<2^e / 2:=by have:((bit:Nat):Int)>0:=aI UP;omega
   obtain⟨f,rfl⟩:∃f,e=f+1:=by
    cases e with
    |zero=>exact absurd UP (by decide)
    |succ f=>exact⟨f,rfl⟩
   have e1:2^(f+1)=2*2^f:=by rw[Nat.pow_succ];omega
   have e2:2^(f+1) / 2=2^f:=by omega
   obtain rfl:bit=2^f:=by omega
   rw[e1]at hn1 Vt;have Wv:=bo f;generalize hp:2^f=p at*
   have m4:=Bb (n:=((n+p:Nat):Int)) (by omega) (by omega);have m5:=cd B ((n+p:Nat):Int);have m6:ln R2.natAbs<=l+1:=by
    refine aY (fM (b:=((65536:Int)*B).natAbs) (by omega)) ?_;have:=cd 65536 B;omega
   refine cK hτ da [.x 0,.x 1,.x 2,.x 3,.x 6,.x 4,.x 5,.x 7,.x 8] (by kernel_rfl) (by kernel_rfl) ?_;refine⟨((n+p:Nat):Int),wo,?_⟩;refine cE hw (fun _ w' v w2=>dO w2 (Nf w' w2) v (((n+p:Nat):Int))) (fun O w' r=>lN _ w' (by omega) (by omega)) ?_;rintro O Qm v9 Qf Rg r he hw h_ hn;replace hx:=hx.cG r hS he (mC h_);replace hy:=hy.cG r hS he (mC h_);replace PJ:=PJ.cG r (cC w) he (mC h_);replace OX:=OX.cG r (cC w) he (mC h_);replace hr:=hr.cG r (cC w) he (mC h_);have hu:=hn.dB (S:=FF) r.cF (mN h_);obtain⟨N0,N1,N2,N3,rfl⟩:=hu.shape;refine cE hw (fun _ w' v w2=>dO w2 (Nf w' w2) v (B*((n+p:Nat):Int))) (fun O w' r=>iR (Rel.old r (cC w)) ((OX.rel r (cC w)).l (k:=1000001) (by omega)) ((hu.rel r (cC w)).l (k:=1000001) (by omega)) (by omega) (by omega)) ?_;rintro O VR v10 VS Qz r he hw h_ hn;replace hx:=hx.cG r hS he (mC h_);replace hy:=hy.cG r hS he (mC h_);replace PJ:=PJ.cG r (cC w) he (mC h_);replace OX:=OX.cG r (cC w) he (mC h_);replace hr:=hr.cG r (cC w) he (mC h_);have QU:=hn.dB (S:=FF) r.cF (mN h_);obtain⟨O0,O1,O2,O3,rfl⟩:=QU.shape;refine cE hw (fun _ w' v w2=>v= .int .i64 (B*((n+p:Nat):Int)-R2).sign) (fun O w' r=>KQ (Rel.old r (cC w)) ((QU.rel r (cC w)).l (k:=1000001) (by omega)) ((hr.rel r (cC w)).l (k:=1000001) (by omega)) (by omega) (by omega)) ?_;rintro O Qn v11 Qy Og r he hw h_ rfl;replace hx:=hx.cG r hS he (mC h_);replace hy:=hy.cG r hS he (mC h_);replace PJ:=PJ.cG r (cC w) he (mC h_);replace OX:=OX.cG r (cC w) he (mC h_);replace hr:=hr.cG r (cC w) he (mC h_);have hs:=gH (B*((n+p:Nat):Int)-R2);refine dI.mk ?_ ?_<;>intro hle
   ·have hle:=aI hle;have VU:((n+p:Nat):Int)*B<=R2:=by rw[Int.mul_comm];omega
    refine⟨((n+p:Nat):Int),wo,by decide,((2^f / 2:Nat):Int),by rw[hp,show((p:Nat):Int).tdiv 2=((p / 2:Nat):Int)from rfl,wrap64]<;>omega,?_⟩;intro ρ3 w3 r3;exact⟨(n+p,f,2^f / 2,w3,_),⟨rfl,by dsimp only;omega,VU,by dsimp only;rw[hp,show n+p+p=n+2*p by omega];exact Vt,hw.tr r3.cQ,hx.rel r3 hS,hy.rel r3 hS,PJ.rel r3 (cC w),OX.rel r3 (cC w),hr.rel r3 (cC w)⟩,Sub.gn [] r3,by dsimp only;omega⟩
   have hle:=aH hle;have VU:R2<((n+p:Nat):Int)*B:=by rw[Int.mul_comm];omega
   refine⟨by decide,((2^f / 2:Nat):Int),by rw[hp,show((p:Nat):Int).tdiv 2=((p / 2:Nat):Int)from rfl,wrap64]<;>omega,?_⟩;intro ρ3 w3 r3;exact⟨(n,f,2^f / 2,w3,_),⟨rfl,by dsimp only;omega,Rr,by dsimp only;rw[hp];exact VU,hw.tr r3.cQ,hx.rel r3 hS,hy.rel r3 hS,PJ.rel r3 (cC w),OX.rel r3 (cC w),hr.rel r3 (cC w)⟩,Sub.gn [] r3,by dsimp only;omega⟩
  have UP:¬0<2^e / 2:=by have:¬((bit:Nat):Int)>0:=aH UP;omega
  obtain rfl:e=0:=by
   cases e with
   |zero=>rfl
   |succ f=>exact absurd (show 0<2^(f+1) / 2 by rw[Nat.pow_succ];have:=bo f;omega) UP
  rw[show n+2^0=n+1 from rfl]at hn1 Vt;rw[Int.natCast_add,Int.add_mul]at Vt;rw[Int.mul_comm]at Rr;rw[Int.mul_comm]at Vt;have m4:=Bb (n:=((n:Nat):Int)) (by omega) (by omega);have m5:=cd B ((n:Nat):Int);have m6:ln R2.natAbs<=l+1:=by
   refine aY (fM (b:=((65536:Int)*B).natAbs) (by omega)) ?_;have:=cd 65536 B;omega
  refine cK hτ da [.x 0,.x 1,.x 2,.x 3,.x 4,.x 5,.x 6] (by kernel_rfl) (by kernel_rfl) ?_;refine cE hw (fun _ w' v w2=>dO w2 (Nf w' w2) v (((n:Nat):Int))) (fun O w' r=>lN _ w' (by omega) (by omega)) ?_;rintro O Qm v9 Qf Rg r he hw h_ hn;replace hx:=hx.cG r hS he (mC h_);replace hy:=hy.cG r hS he (mC h_);replace PJ:=PJ.cG r (cC w) he (mC h_);replace OX:=OX.cG r (cC w) he (mC h_);replace hr:=hr.cG r (cC w) he (mC h_);have hu:=hn.dB (S:=FF) r.cF (mN h_);obtain⟨N0,N1,N2,N3,rfl⟩:=hu.shape;refine cE hw (fun _ w' v w2=>dO w2 (Nf w' w2) v (B*((n:Nat):Int))) (fun O w' r=>iR (Rel.old r (cC w)) ((OX.rel r (cC w)).l (k:=1000001) (by omega)) ((hu.rel r (cC w)).l (k:=1000001) (by omega)) (by omega) (by omega)) ?_;rintro O VR v10 VS Qz r he hw h_ hn;replace hx:=hx.cG r hS he (mC h_);replace hy:=hy.cG r hS he (mC h_);replace PJ:=PJ.cG r (cC w) he (mC h_);replace OX:=OX.cG r (cC w) he (mC h_);replace hr:=hr.cG r (cC w) he (mC h_);have QU:=hn.dB (S:=FF) r.cF (mN h_);obtain⟨O0,O1,O2,O3,rfl⟩:=QU.shape;refine cE hw (fun _ w' v w2=>dO w2 (Nf w' w2) v (R2-B*((n:Nat):Int))) (fun O w' r=>Ek (Rel.old r (cC w)) ((hr.rel r (cC w)).l (k:=1000002) (by omega)) ((QU.rel r (cC w)).l (k:=1000002) (by omega)) (by omega) (by omega)) ?_;rintro O Qn v11 Qy Og r he hw h_ hn;replace hx:=hx.cG r hS he (mC h_);replace hy:=hy.cG r hS he (mC h_);replace PJ:=PJ.cG r (cC w) he (mC h_);replace OX:=OX.cG r (cC w) he (mC h_);have hr3:=hn.dB (S:=FF) r.cF (mN h_);obtain⟨P0,P1,P2,P3,rfl⟩:=hr3.shape;generalize hR3:R2-B*((n:Nat):Int)=R3 at*
  refine .inl ?_;refine⟨by rw[aJ,aU],fun u hu=>by obtain⟨_,_,rfl⟩:=aT.1 hu;rfl,rfl,by omega,by unfold maxLen;omega,(i:Int)-1,wo,?_⟩;intro ρ3 w3 r3;have Rd:dR (ca.drop i)=B*dR (((n:Nat):Int)::Q)+R3:=by
   rw[Fw Sl,dR];exact JZ hv (by rw[<-hR3,<-Qc];omega)
  exact⟨(i,((n:Nat):Int)::Q,R3,(P0,P1,P2,P3),w3,_),⟨by dsimp only;omega,by dsimp only;rw[List.length_cons];omega,fun c hc=>by
    rcases List.mem_cons.1 hc with rfl|hc
    ·omega
    ·exact hd c hc,Rd,by dsimp only;omega,by dsimp only;omega,hw.tr r3.cQ,hx.rel r3 hS,hy.rel r3 hS,PJ.rel r3 (cC w),OX.rel r3 (cC w),hr3.rel r3 (cC w)⟩,
   Sub.gn [(6,8)] r3 (hE:=⟨rfl,rfl,rfl,rfl,rfl,rfl,rfl,by dsimp only;rw[show (((n:Nat):Int)::Q).length=1+Q.length by rw[List.length_cons,Nat.add_comm]];rfl,rfl,rfl,trivial⟩),by dsimp only;omega⟩
 obtain rfl:j=0:=by have:¬(j:Int)-1≥0:=aH OI;omega
 rw[List.drop_zero,bca.1]at hv;rw[<-hB]at hv hR1;have key:=Ks Pw hv hR0 hR1;rw[hB]at key hv hR1;have lq:ln (dR Q).natAbs<=k+1:=by
  have h1:=aB0 hd;have h2:1*dR Q<=B*dR Q:=Int.mul_le_mul_of_nonneg_right (by omega) h1;exact aY (fM (b:=x.natAbs) (by omega)) (by omega)
 have lR:ln R.natAbs<=l:=aY (fM (by omega)) lB;have sx:=gH x;have sy:=gH y;have sr:=gH R;refine cD (cE hw (fun _ w' v w2=>dO w2 (Nf w' w2) v (dR Q)) (fun O w' r=>nU r rfl rfl (by omega) (fun c hc=>by have:=hd c hc;omega) rfl) ?_);rintro O _ _ _ Pb r he hw h_ hn;replace hx:=hx.cG r hS he (mC h_);replace hy:=hy.cG r hS he (mC h_);replace OX:=OX.cG r (cC w) he (mC h_);replace hr:=hr.cG r (cC w) he (mC h_);have hq:=hn.dB (S:=FF) r.cF (mN h_);obtain⟨F0,F1,F2,F3,rfl⟩:=hq.shape;refine cD (cE hw (fun _ w' v w2=>v= .int .i64 x.sign) (fun O w' r=>gi (Rel.old r hS) (hx.rel r hS).r) ?_);rintro O _ _ _ Qk r he hw h_ rfl;replace hx:=hx.cG r hS he (mC h_);replace hy:=hy.cG r hS he (mC h_);replace OX:=OX.cG r (cC w) he (mC h_);replace hr:=hr.cG r (cC w) he (mC h_);replace hq:=hq.cG r (cC w) he (mC h_);refine dI.mk ?_ ?_<;>intro hxs
 ·have hxs:=aI hxs;refine cD (cE hw (fun _ w' v w2=>v= .int .i64 R.sign) (fun O w' r=>gi (Rel.old r (cC w)) (hr.rel r (cC w)).r) ?_);rintro O UL v7 UM TA r he hw h_ rfl;replace hx:=hx.cG r hS he (mC h_);replace hy:=hy.cG r hS he (mC h_);replace OX:=OX.cG r (cC w) he (mC h_);replace hr:=hr.cG r (cC w) he (mC h_);replace hq:=hq.cG r (cC w) he (mC h_);refine dI.mk ?_ ?_<;>intro Vx
  ·have Vx:=aI Vx;rw[if_pos (show x<0∧0<R by omega),if_pos (show x<0∧0<R by omega)]at key;have m7:=iw (dR Q) 1;have m8:ln (1:Int).natAbs<=1:=by decide
   have m9:ln (B-R).natAbs<=l:=aY (fM (by omega)) lB;refine cK hτ da [.x 0,.x 3,.x 4,.x 1,.x 2,.x 5,.x 6,.x 7] (by kernel_rfl) (by kernel_rfl) ?_;refine cE hw (fun _ w' v w2=>dO w2 (Nf w' w2) v (1)) (fun O w' r=>lN _ w' (by omega) (by omega)) ?_;rintro O SH v8 Ri RF r he hw h_ hn;replace hx:=hx.cG r hS he (mC h_);replace hy:=hy.cG r hS he (mC h_);replace OX:=OX.cG r (cC w) he (mC h_);replace hr:=hr.cG r (cC w) he (mC h_);replace hq:=hq.cG r (cC w) he (mC h_);have hu:=hn.dB (S:=FF) r.cF (mN h_);obtain⟨K0,K1,K2,K3,rfl⟩:=hu.shape;refine cE hw (fun _ w' v w2=>dO w2 (Nf w' w2) v (dR Q+1)) (fun O w' r=>Ba (Rel.old r (cC w)) ((hq.rel r (cC w)).l (k:=1000003) (by omega)) ((hu.rel r (cC w)).l (k:=1000003) (by omega)) (by omega) (by omega)) ?_;rintro O Qm v9 Qf Rg r he hw h_ hn;replace hx:=hx.cG r hS he (mC h_);replace hy:=hy.cG r hS he (mC h_);replace OX:=OX.cG r (cC w) he (mC h_);replace hr:=hr.cG r (cC w) he (mC h_);have QO:=hn.dB (S:=FF) r.cF (mN h_);obtain⟨N0,N1,N2,N3,rfl⟩:=QO.shape;refine cE hw (fun _ w' v w2=>dO w2 (Nf w' w2) v (B-R)) (fun O w' r=>Ek (Rel.old r (cC w)) ((OX.rel r (cC w)).l (k:=1000003) (by omega)) ((hr.rel r (cC w)).l (k:=1000003) (by omega)) (by omega) (by omega)) ?_;rintro O VR v10 VS Qz r he hw h_ hn;replace hx:=hx.cG r hS he (mC h_);replace hy:=hy.cG r hS he (mC h_);replace QO:=QO.cG r (cC w) he (mC h_);have Sf:=hn.dB (S:=FF) r.cF (mN h_);obtain⟨O0,O1,O2,O3,rfl⟩:=Sf.shape;refine cK hτ da [.x 0,.x 3,.x 1,.x 2,.x 4,.x 5,.x 6] (by kernel_rfl) (by kernel_rfl) ?_;refine cE hw (fun _ w' v w2=>v= .int .i64 x.sign) (fun O w' r=>gi (Rel.old r hS) (hx.rel r hS).r) ?_;rintro O _ _ _ Og r he hw h_ rfl;replace hy:=hy.cG r hS he (mC h_);replace QO:=QO.cG r (cC w) he (mC h_);replace Sf:=Sf.cG r (cC w) he (mC h_);refine cE hw (fun _ w' v w2=>v= .int .i64 y.sign) (fun O w' r=>gi (Rel.old r hS) (hy.rel r hS).r) ?_;rintro O _ _ _ RT r he hw h_ rfl;replace QO:=QO.cG r (cC w) he (mC h_);replace Sf:=Sf.cG r (cC w) he (mC h_);refine dI.mk ?_ ?_<;>intro OJ
   ·have hn:¬((x<0)↔(y<0)):=fun e=>by
     have e2:decide (x.sign<0)=decide (y.sign<0):=decide_eq_decide.2 (by omega);rw[e2]at OJ;simp at OJ
    rw[aK hn]at key;refine cD (cE hw (fun _ w' v w2=>dO w2 (Nf w' w2) v (-(dR Q+1))) (fun O w' r=>mY (Rel.old r (cC w)) ((QO.rel r (cC w)).l (k:=1000003) (by omega)) (by omega)) ?_);rintro O _ _ _ iv13 r he hw h_ hn;replace Sf:=Sf.cG r (cC w) he (mC h_);have Su:=hn.dB (S:=FF) r.cF (mN h_);obtain⟨T0,T1,T2,T3,rfl⟩:=Su.shape;refine iq hτ da (.two 0 (.two 1 (.one 2 (.one 3 (.one 4 .nil))) 2 (.one 1 (.one 3 (.one 4 .nil)))) 1 (.one 0 (.one 2 (.one 3 (.one 4 .nil))))) (by kernel_rfl) ?_;refine⟨?_,?_⟩
    ·refine⟨?_,?_⟩
     ·exact rtn hw fun ρe we re=>.inr ⟨Pw,_,_,rfl,key.1▸Su.out re (cC w),key.2▸Sf.out re (cC w)⟩
     ·exact rtn hw fun ρe we re=>.inr ⟨Pw,_,_,rfl,key.1▸Su.out re (cC w),key.2▸Sf.out re (cC w)⟩
    ·exact rtn hw fun ρe we re=>.inr ⟨Pw,_,_,rfl,key.1▸Su.out re (cC w),key.2▸Sf.out re (cC w)⟩
   have hn:(x<0)↔(y<0):=by
    have e2:decide (x.sign<0)=decide (y.sign<0):=by simpa using OJ
    have:=decide_eq_decide.1 e2;omega
   rw[if_pos hn]at key;refine iq hτ da (.two 0 (.two 1 (.one 2 (.one 3 (.one 4 .nil))) 2 (.one 1 (.one 3 (.one 4 .nil)))) 1 (.one 0 (.one 2 (.one 3 (.one 4 .nil))))) (by kernel_rfl) ?_;refine⟨?_,?_⟩
   ·refine⟨?_,?_⟩
    ·exact rtn hw fun ρe we re=>.inr ⟨Pw,_,_,rfl,key.1▸QO.out re (cC w),key.2▸Sf.out re (cC w)⟩
    ·exact rtn hw fun ρe we re=>.inr ⟨Pw,_,_,rfl,key.1▸QO.out re (cC w),key.2▸Sf.out re (cC w)⟩
   ·exact rtn hw fun ρe we re=>.inr ⟨Pw,_,_,rfl,key.1▸QO.out re (cC w),key.2▸Sf.out re (cC w)⟩
  have Vx:=aH Vx;rw[aK (show ¬(x<0∧0<R) by omega),aK (show ¬(x<0∧0<R) by omega)]at key;refine cK hτ da [.x 0,.x 3,.x 1,.x 2,.x 4,.x 5,.x 6] (by kernel_rfl) (by kernel_rfl) ?_;refine cE hw (fun _ w' v w2=>v= .int .i64 x.sign) (fun O w' r=>gi (Rel.old r hS) (hx.rel r hS).r) ?_;rintro O SH v8 Ri RF r he hw h_ rfl;replace hy:=hy.cG r hS he (mC h_);replace OX:=OX.cG r (cC w) he (mC h_);replace hr:=hr.cG r (cC w) he (mC h_);replace hq:=hq.cG r (cC w) he (mC h_);refine cE hw (fun _ w' v w2=>v= .int .i64 y.sign) (fun O w' r=>gi (Rel.old r hS) (hy.rel r hS).r) ?_;rintro O Qm v9 Qf Rg r he hw h_ rfl;replace OX:=OX.cG r (cC w) he (mC h_);replace hr:=hr.cG r (cC w) he (mC h_);replace hq:=hq.cG r (cC w) he (mC h_);refine dI.mk ?_ ?_<;>intro OJ
  ·have hn:¬((x<0)↔(y<0)):=fun e=>by
    have e2:decide (x.sign<0)=decide (y.sign<0):=decide_eq_decide.2 (by omega);rw[e2]at OJ;simp at OJ
   rw[aK hn]at key;refine cD (cE hw (fun _ w' v w2=>dO w2 (Nf w' w2) v (-(dR Q))) (fun O w' r=>mY (Rel.old r (cC w)) ((hq.rel r (cC w)).l (k:=1000003) (by omega)) (by omega)) ?_);rintro O _ _ _ Qz r he hw h_ hn;replace OX:=OX.cG r (cC w) he (mC h_);replace hr:=hr.cG r (cC w) he (mC h_);have Su:=hn.dB (S:=FF) r.cF (mN h_);obtain⟨O0,O1,O2,O3,rfl⟩:=Su.shape;refine iq hτ da (.two 0 (.two 1 (.one 2 (.one 3 (.one 4 .nil))) 2 (.one 1 (.one 3 (.one 4 .nil)))) 1 (.one 0 (.one 2 (.one 3 (.one 4 .nil))))) (by kernel_rfl) ?_;refine⟨?_,?_⟩
   ·refine⟨?_,?_⟩
    ·exact rtn hw fun ρe we re=>.inr ⟨Pw,_,_,rfl,key.1▸Su.out re (cC w),key.2▸hr.out re (cC w)⟩
    ·exact rtn hw fun ρe we re=>.inr ⟨Pw,_,_,rfl,key.1▸Su.out re (cC w),key.2▸hr.out re (cC w)⟩
   ·exact rtn hw fun ρe we re=>.inr ⟨Pw,_,_,rfl,key.1▸Su.out re (cC w),key.2▸hr.out re (cC w)⟩
  have hn:(x<0)↔(y<0):=by
   have e2:decide (x.sign<0)=decide (y.sign<0):=by simpa using OJ
   have:=decide_eq_decide.1 e2;omega
  rw[if_pos hn]at key;refine iq hτ da (.two 0 (.two 1 (.one 2 (.one 3 (.one 4 .nil))) 2 (.one 1 (.one 3 (.one 4 .nil)))) 1 (.one 0 (.one 2 (.one 3 (.one 4 .nil))))) (by kernel_rfl) ?_;refine⟨?_,?_⟩
  ·refine⟨?_,?_⟩
   ·exact rtn hw fun ρe we re=>.inr ⟨Pw,_,_,rfl,key.1▸hq.out re (cC w),key.2▸hr.out re (cC w)⟩
   ·exact rtn hw fun ρe we re=>.inr ⟨Pw,_,_,rfl,key.1▸hq.out re (cC w),key.2▸hr.out re (cC w)⟩
  ·exact rtn hw fun ρe we re=>.inr ⟨Pw,_,_,rfl,key.1▸hq.out re (cC w),key.2▸hr.out re (cC w)⟩
 have hxs:=aH hxs;rw[aK (show ¬(x<0∧0<R) by omega),aK (show ¬(x<0∧0<R) by omega)]at key;refine cK hτ da [.x 0,.x 3,.x 1,.x 2,.x 4,.x 5,.x 6] (by kernel_rfl) (by kernel_rfl) ?_;refine cE hw (fun _ w' v w2=>v= .int .i64 x.sign) (fun O w' r=>gi (Rel.old r hS) (hx.rel r hS).r) ?_;rintro O _ _ _ TA r he hw h_ rfl;replace hy:=hy.cG r hS he (mC h_);replace OX:=OX.cG r (cC w) he (mC h_);replace hr:=hr.cG r (cC w) he (mC h_);replace hq:=hq.cG r (cC w) he (mC h_);refine cE hw (fun _ w' v w2=>v= .int .i64 y.sign) (fun O w' r=>gi (Rel.old r hS) (hy.rel r hS).r) ?_;rintro O _ _ _ RF r he hw h_ rfl;replace OX:=OX.cG r (cC w) he (mC h_);replace hr:=hr.cG r (cC w) he (mC h_);replace hq:=hq.cG r (cC w) he (mC h_);refine dI.mk ?_ ?_<;>intro OJ
 ·have hn:¬((x<0)↔(y<0)):=fun e=>by
   have e2:decide (x.sign<0)=decide (y.sign<0):=decide_eq_decide.2 (by omega);rw[e2]at OJ;simp at OJ
  rw[aK hn]at key;refine cD (cE hw (fun _ w' v w2=>dO w2 (Nf w' w2) v (-(dR Q))) (fun O w' r=>mY (Rel.old r (cC w)) ((hq.rel r (cC w)).l (k:=1000003) (by omega)) (by omega)) ?_);rintro O _ _ _ Rg r he hw h_ hn;replace OX:=OX.cG r (cC w) he (mC h_);replace hr:=hr.cG r (cC w) he (mC h_);have Su:=hn.dB (S:=FF) r.cF (mN h_);obtain⟨N0,N1,N2,N3,rfl⟩:=Su.shape;refine iq hτ da (.two 0 (.two 1 (.one 2 (.one 3 (.one 4 .nil))) 2 (.one 1 (.one 3 (.one 4 .nil)))) 1 (.one 0 (.one 2 (.one 3 (.one 4 .nil))))) (by kernel_rfl) ?_;refine⟨?_,?_⟩
  ·refine⟨?_,?_⟩
   ·exact rtn hw fun ρe we re=>.inr ⟨Pw,_,_,rfl,key.1▸Su.out re (cC w),key.2▸hr.out re (cC w)⟩
   ·exact rtn hw fun ρe we re=>.inr ⟨Pw,_,_,rfl,key.1▸Su.out re (cC w),key.2▸hr.out re (cC w)⟩
  ·exact rtn hw fun ρe we re=>.inr ⟨Pw,_,_,rfl,key.1▸Su.out re (cC w),key.2▸hr.out re (cC w)⟩
 have hn:(x<0)↔(y<0):=by
  have e2:decide (x.sign<0)=decide (y.sign<0):=by simpa using OJ
  have:=decide_eq_decide.1 e2;omega
 rw[if_pos hn]at key;refine iq hτ da (.two 0 (.two 1 (.one 2 (.one 3 (.one 4 .nil))) 2 (.one 1 (.one 3 (.one 4 .nil)))) 1 (.one 0 (.one 2 (.one 3 (.one 4 .nil))))) (by kernel_rfl) ?_;refine⟨?_,?_⟩
 ·refine⟨?_,?_⟩
  ·exact rtn hw fun ρe we re=>.inr ⟨Pw,_,_,rfl,key.1▸hq.out re (cC w),key.2▸hr.out re (cC w)⟩
  ·exact rtn hw fun ρe we re=>.inr ⟨Pw,_,_,rfl,key.1▸hq.out re (cC w),key.2▸hr.out re (cC w)⟩
 ·exact rtn hw fun ρe we re=>.inr ⟨Pw,_,_,rfl,key.1▸hq.out re (cC w),key.2▸hr.out re (cC w)⟩
end Go.Ex
