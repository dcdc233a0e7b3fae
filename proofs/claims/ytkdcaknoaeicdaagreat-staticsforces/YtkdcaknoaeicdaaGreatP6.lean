/- Texts L9 to X61: lemmas, each with its conditions. -/
import Derived.Test.YtkdcaknoaeicdaaGreatP5
namespace Go.Ex
variable{cs:List Int}{ls:List Nat}{i:Nat}{f:Nat->Int}
def fe(f:Nat->Int):Nat->Int
 |0=>0
 |n+1=>f 0+65536*fe (fun i=>f (i+1)) n
theorem z7(f:Nat->Int)(n:Nat):dQ ((List.range n).map f)=fe f n:=by
 induction n generalizing f with
 |zero=>rfl
 |succ n ih=>
  rw[List.range_succ_eq_map,List.map_cons,List.map_map,dQ,fe,<-ih];rfl
theorem z8(f g:Nat->Int)(n:Nat):fe (fun i=>f i+g i) n=fe f n+fe g n:=by
 induction n generalizing f g with
 |zero=>rfl
 |succ n ih=>simp only[fe,ih];omega
theorem Gq(k:Int)(f:Nat->Int)(n:Nat):fe (fun i=>k*f i) n=k*fe f n:=by
 induction n generalizing f with
 |zero=>simp[fe]
 |succ n ih=>simp only[fe,ih,Int.mul_add];rw[Int.mul_left_comm]
theorem wk{n:Nat}(h:∀i,i<n->f i=0):fe f n=0:=by
 induction n generalizing f with
 |zero=>rfl
 |succ n ih=>rw[fe,h 0 (by omega),ih fun i hi=>h (i+1) (by omega)];rfl
theorem pg(a:List Int)(n:Nat)(h:a.length<=n):fe (fun i=>a.getD i 0) n=dQ a:=by
 induction a generalizing n with
 |nil=>exact wk fun i _=>by simp
 |cons c r ih=>
  obtain⟨m,rfl⟩:∃m,n=m+1:=⟨n-1,by simp at h;omega⟩
  have e:=ih m (by simpa using h);rw[fe,dQ,<-e];simp[List.getD]
def iU(a b:List Int)(i:Nat):Nat->Int
 |0=>0
 |k+1=>iU a b i k+a.getD k 0*(if k<=i then b.getD (i-k) 0 else 0)
def gG(a b:List Int)(i:Nat):Int:=iU a b i (i+1)
theorem Iw(b:List Int)(i k:Nat):iU [] b i k=0:=by
 induction k with
 |zero=>rfl
 |succ k ih=>rw[iU,ih];simp
theorem Gr(c:Int)(r b:List Int)(i k:Nat):iU (c::r) b (i+1) (k+1)=c*b.getD (i+1) 0+iU r b i k:=by
 induction k with
 |zero=>simp[iU]
 |succ k ih=>
  rw[iU,ih,iU];have e:(c::r).getD (k+1) 0=r.getD k 0:=by simp[List.getD]
  rw[e];have e2:(if k+1<=i+1 then b.getD (i+1-(k+1)) 0 else 0)=(if k<=i then b.getD (i-k) 0 else 0):=by
   by_cases h:k<=i
   ·rw[if_pos h,if_pos (by omega),show i+1-(k+1)=i-k by omega]
   ·rw[aL h,aL (by omega)]
  rw[e2,Int.add_assoc]
theorem FA(c:Int)(r b:List Int)(i:Nat):gG (c::r) b (i+1)=c*b.getD (i+1) 0+gG r b i:=Gr c r b i (i+1)
theorem FB(c:Int)(r b:List Int):gG (c::r) b 0=c*b.getD 0 0:=by simp[gG,iU]
theorem Kk(a b:List Int)(n:Nat)(h:a.length+b.length<=n+1):fe (gG a b) n=dQ a*dQ b:=by
 induction a generalizing n with
 |nil=>
  rw[show gG [] b=fun _=>(0:Int)from funext fun i=>Iw b i _,wk fun _ _=>rfl];simp[dQ]
 |cons c r ih=>
  cases n with
  |zero=>
   have hb:b=[]:=List.eq_nil_of_length_eq_zero (by simp at h;omega);subst hb;simp[fe,dQ]
  |succ m=>
   have e1:fe (gG (c::r) b) (m+1)=fe (fun i=>c*b.getD i 0) (m+1)+65536*fe (gG r b) m:=by
    have e2:fe (fun i=>gG (c::r) b (i+1)) m=fe (fun i=>c*b.getD (i+1) 0) m+fe (gG r b) m:=by
     rw[<-z8];congr 1
     funext i
     exact FA c r b i
    rw[fe,fe,e2,FB,Int.mul_add];omega
   have h':r.length+b.length<=m+1:=by simp at h;omega
   rw[e1,ih m h',Gq,pg b (m+1) (by omega),dQ,Int.add_mul,Int.mul_assoc]
theorem Gs(a b:List Int)(i k k0:Nat)(h0:∀j,j<k0->b.length<=i-j)(hk:k0<=i+1)(h:k<=k0):iU a b i k=0:=by
 induction k with
 |zero=>rfl
 |succ k ih=>
  rw[iU,ih (by omega),if_pos (by omega)];have:b.getD (i-k) 0=0:=by rw[List.getD,List.getElem?_eq_none (h0 k (by omega))];rfl
  rw[this];simp
theorem Gt(a b:List Int)(i k m:Nat)(h:a.length<=k):iU a b i (k+m)=iU a b i k:=by
 induction m with
 |zero=>rfl
 |succ m ih=>
  rw[<-Nat.add_assoc,iU,ih];have:a.getD (k+m) 0=0:=by rw[List.getD,List.getElem?_eq_none (by omega)];rfl
  rw[this];simp
theorem mU{a b:List Int}(ha:∀x∈a,-65535<=x∧x<=65535)(hb:∀x∈b,-65535<=x∧x<=65535)(k:Nat):(iU a b i k).natAbs<=4294836225*k:=by
 have key:∀(l:List Int) (j:Nat),(∀x∈l,-65535<=x∧x<=65535)->(l.getD j 0).natAbs<=65535:=fun l j h=>by
  rw[List.getD]
  cases hj:l[j]? with
  |none=>simp
  |some d=>have:=h d (aC hj);simp;omega
 induction k with
 |zero=>simp[iU]
 |succ k ih=>
  rw[iU];have h1:=key a k ha;have h2:(if k<=i then b.getD (i-k) 0 else 0).natAbs<=65535:=by
   split
   ·exact key b _ hb
   ·simp
  have h3:=Nat.mul_le_mul h1 h2;rw[<-Int.natAbs_mul]at h3;generalize a.getD k 0*(if k<=i then b.getD (i-k) 0 else 0)=p at*
  omega
def eA(s:Int):List Nat->List Int
 |[]=>[]
 |l::r=>s*((l % 65536:Nat):Int)::s*((l / 65536:Nat):Int)::eA s r
theorem DD(s:Int)(ls:List Nat):dQ (eA s ls)=s*(val ls:Int):=by
 induction ls with
 |nil=>simp[eA,dQ,val]
 |cons l r ih=>
  rw[eA,dQ,dQ,ih,val];have e1:((l+4294967296*val r:Nat):Int)=((l % 65536:Nat):Int)+65536*((l / 65536:Nat):Int)+4294967296*((val r:Nat):Int):=by omega
  rw[e1,Int.mul_add,Int.mul_add,Int.mul_add];rw[Int.mul_left_comm 65536 s,Int.mul_left_comm s 65536,Int.mul_left_comm s 4294967296];omega
theorem ow(s:Int)(a b:List Nat):eA s (a++b)=eA s a++eA s b:=by
 induction a with
 |nil=>rfl
 |cons l r ih=>simp[eA,ih]
theorem iJ(s:Int)(ls:List Nat):(eA s ls).length=2*ls.length:=by
 induction ls with
 |nil=>rfl
 |cons l r ih=>simp[eA,ih];omega
theorem zc{s:Int}(hs:s=1∨s= -1)(h:Lm ls):∀c∈eA s ls,-65535<=c∧c<=65535:=by
 induction ls with
 |nil=>intro c hc;cases hc
 |cons l r ih=>
  have hl:=h l aG;intro c hc;rw[eA]at hc;rcases List.mem_cons.1 hc with rfl|hc
  ·rcases hs with rfl|rfl<;>omega
  rcases List.mem_cons.1 hc with rfl|hc
  ·rcases hs with rfl|rfl<;>omega
  ·exact ih (fun x hx=>h x (List.mem_cons_of_mem _ hx)) c hc
theorem xX(h:Lm ls):∀c∈eA 1 ls,0<=c∧c<=65535:=fun c hc=>by
 induction ls with
 |nil=>cases hc
 |cons l r ih=>
  have hl:=h l aG;rw[eA]at hc;rcases List.mem_cons.1 hc with rfl|hc
  ·omega
  rcases List.mem_cons.1 hc with rfl|hc
  ·omega
  ·exact ih (fun x hx=>h x (List.mem_cons_of_mem _ hx)) hc
theorem FC{c:Int}(h:cs[i]? =some c):dQ (cs.drop i)=c+65536*dQ (cs.drop (i+1)):=by
 rw[List.drop_eq_getElem_cons (aD.1 h).1,dQ];have:=(aD.1 h).2;rw[this]
end Go.Ex
namespace Go.Ex
open Go Go.Sx Go.Proofs
variable{x1 x2 y1 y2:Int}{ls:List Nat}{S:Nat->Prop}{p q:Rat}{u:Value}{w:World}
theorem Lc{k:Nat}(h:Lm ls)(hl:ls.length<=k):ln (val ls)<=k:=gI.2 (Nat.lt_of_lt_of_le (oD h) (Be hl))
theorem Cv.false{B:Nat}{iv:Iv}{g:Nat}(h:Cv FF B iv g):Cv S B iv g:=h.elim (fun h=>h.elim) .inr
theorem Le{v:Value}(hS:Old S w)(hx:iO w S v x1 x2)(hy:iO w S u y1 y2)(hl0:ln x1.natAbs<=100000)(RU:ln x2.natAbs<=100000)(Pb:ln y1.natAbs<=100000)(Rd:ln y2.natAbs<=100000):
  di PG N.vL #[v,u] w (dw w fun v' w2=>cU w2 (Nf w w2) v' ((ratio x1 x2)+(ratio y1 y2))):=by
 have hw:=bR w;have r1:=iI x1 x2;have r2:=iI y1 y2;have r3:=oO (ratio x1 x2) (ratio y1 y2);have r4:=j0 (ratio x1 x2) (ratio y1 y2);have r5:=pe (ratio y1 y2);have r6:=zZ (ratio x1 x2) (ratio y1 y2);replace hx:=hx.cI (S':=Cv S w.heap.size []) fun _ h=>.inl h;replace hy:=hy.cI (S':=Cv S w.heap.size []) fun _ h=>.inl h;obtain⟨b1,a1,n1,c1,b2,a2,n2,c2,rfl⟩:=hx.shape;obtain⟨b3,a3,n3,c3,b4,a4,n4,c4,rfl⟩:=hy.shape;refine DN (by simp) ?_;refine cK hτ dZ [.x 0,.x 2,.x 1,.x 3,.x 4,.x 5,.x 6] (by kernel_rfl) (by kernel_rfl) ?_;refine cE hw (fun _ w' v w2=>dT w2 (Nf w' w2) v ((ratio x1 x2))) (fun O w' r=>kN (Rel.old r hS) (hx.rel r hS) (by omega) (by omega)) ?_;rintro O _ _ _ OM r he hw h_ hn;replace hy:=hy.cF r hS he (mC h_);have hX:=hn.dA (S:=FF) r.cD (mN h_);obtain⟨A0,A1,A2,A3,A4,A5,A6,A7,rfl⟩:=hX.shape;refine cE hw (fun _ w' v w2=>dT w2 (Nf w' w2) v ((ratio y1 y2))) (fun O w' r=>kN (Rel.old r hS) (hy.rel r hS) (by omega) (by omega)) ?_;rintro O _ _ _ OJ r he hw h_ hn;replace hX:=hX.cF r (cB w) he (mC h_);have hY:=hn.dA (S:=FF) r.cD (mN h_);obtain⟨C0,C1,C2,C3,C4,C5,C6,C7,rfl⟩:=hY.shape;refine cE hw (fun _ w' v w2=>dT w2 (Nf w' w2) v ((ratio x1 x2)+(ratio y1 y2))) (fun O w' r=>IN (Rel.old r (cB w)) (hX.rel r (cB w)) (hY.rel r (cB w)) (by omega) (by omega)) ?_;rintro O _ _ _ OP r he hw h_ hn;have hP:=hn.dA (S:=FF) r.cD (mN h_);obtain⟨E0,E1,E2,E3,E4,E5,E6,E7,rfl⟩:=hP.shape;refine cE hw (fun _ w' v w2=>cU w2 (Nf w' w2) v ((ratio x1 x2)+(ratio y1 y2))) (fun O w' r=>qz (Rel.old r (cB w)) (hP.rel r (cB w)) (by omega)) ?_;rintro O _ _ _ OR r he hw h_ hn;have hC:=hn.dA (S:=FF) r.cD (mN h_);obtain⟨F0,F1,F2,F3,F4,F5,F6,F7,rfl⟩:=hC.shape;exact rtn hw fun ρe we re=>hC.out re (cB w)
theorem Lf{v:Value}(hS:Old S w)(hx:iO w S v x1 x2)(hy:iO w S u y1 y2)(hl0:ln x1.natAbs<=100000)(RU:ln x2.natAbs<=100000)(Pb:ln y1.natAbs<=100000)(Rd:ln y2.natAbs<=100000):
  di PG N.vM #[v,u] w (dw w fun v' w2=>cU w2 (Nf w w2) v' ((ratio x1 x2)*(ratio y1 y2))):=by
 have hw:=bR w;have r1:=iI x1 x2;have r2:=iI y1 y2;have r3:=oO (ratio x1 x2) (ratio y1 y2);have r4:=j0 (ratio x1 x2) (ratio y1 y2);have r5:=pe (ratio y1 y2);have r6:=zZ (ratio x1 x2) (ratio y1 y2);replace hx:=hx.cI (S':=Cv S w.heap.size []) fun _ h=>.inl h;replace hy:=hy.cI (S':=Cv S w.heap.size []) fun _ h=>.inl h;obtain⟨b1,a1,n1,c1,b2,a2,n2,c2,rfl⟩:=hx.shape;obtain⟨b3,a3,n3,c3,b4,a4,n4,c4,rfl⟩:=hy.shape;refine DO (by simp) ?_;refine cK hτ dZ [.x 0,.x 2,.x 1,.x 3,.x 4,.x 5,.x 6] (by kernel_rfl) (by kernel_rfl) ?_;refine cE hw (fun _ w' v w2=>dT w2 (Nf w' w2) v ((ratio x1 x2))) (fun O w' r=>kN (Rel.old r hS) (hx.rel r hS) (by omega) (by omega)) ?_;rintro O _ _ _ OM r he hw h_ hn;replace hy:=hy.cF r hS he (mC h_);have hX:=hn.dA (S:=FF) r.cD (mN h_);obtain⟨A0,A1,A2,A3,A4,A5,A6,A7,rfl⟩:=hX.shape;refine cE hw (fun _ w' v w2=>dT w2 (Nf w' w2) v ((ratio y1 y2))) (fun O w' r=>kN (Rel.old r hS) (hy.rel r hS) (by omega) (by omega)) ?_;rintro O _ _ _ OJ r he hw h_ hn;replace hX:=hX.cF r (cB w) he (mC h_);have hY:=hn.dA (S:=FF) r.cD (mN h_);obtain⟨C0,C1,C2,C3,C4,C5,C6,C7,rfl⟩:=hY.shape;refine cE hw (fun _ w' v w2=>dT w2 (Nf w' w2) v ((ratio x1 x2)*(ratio y1 y2))) (fun O w' r=>LY (Rel.old r (cB w)) (hX.rel r (cB w)) (hY.rel r (cB w)) (by omega) (by omega)) ?_;rintro O _ _ _ OP r he hw h_ hn;have hP:=hn.dA (S:=FF) r.cD (mN h_);obtain⟨E0,E1,E2,E3,E4,E5,E6,E7,rfl⟩:=hP.shape;refine cE hw (fun _ w' v w2=>cU w2 (Nf w' w2) v ((ratio x1 x2)*(ratio y1 y2))) (fun O w' r=>qz (Rel.old r (cB w)) (hP.rel r (cB w)) (by omega)) ?_;rintro O _ _ _ OR r he hw h_ hn;have hC:=hn.dA (S:=FF) r.cD (mN h_);obtain⟨F0,F1,F2,F3,F4,F5,F6,F7,rfl⟩:=hC.shape;exact rtn hw fun ρe we re=>hC.out re (cB w)
theorem Lg{v:Value}(hS:Old S w)(hx:iO w S v x1 x2)(hy:iO w S u y1 y2)(hl0:ln x1.natAbs<=100000)(RU:ln x2.natAbs<=100000)(Pb:ln y1.natAbs<=100000)(Rd:ln y2.natAbs<=100000):
  di PG N.vO #[v,u] w (dw w fun v' w2=>cU w2 (Nf w w2) v' ((ratio x1 x2)-(ratio y1 y2))):=by
 have hw:=bR w;have r1:=iI x1 x2;have r2:=iI y1 y2;have r3:=oO (ratio x1 x2) (ratio y1 y2);have r4:=j0 (ratio x1 x2) (ratio y1 y2);have r5:=pe (ratio y1 y2);have r6:=zZ (ratio x1 x2) (ratio y1 y2);replace hx:=hx.cI (S':=Cv S w.heap.size []) fun _ h=>.inl h;replace hy:=hy.cI (S':=Cv S w.heap.size []) fun _ h=>.inl h;obtain⟨b1,a1,n1,c1,b2,a2,n2,c2,rfl⟩:=hx.shape;obtain⟨b3,a3,n3,c3,b4,a4,n4,c4,rfl⟩:=hy.shape;refine DS (by simp) ?_;refine cK hτ dZ [.x 0,.x 2,.x 1,.x 3,.x 4,.x 5,.x 6,.x 7] (by kernel_rfl) (by kernel_rfl) ?_;refine cE hw (fun _ w' v w2=>dT w2 (Nf w' w2) v ((ratio x1 x2))) (fun O w' r=>kN (Rel.old r hS) (hx.rel r hS) (by omega) (by omega)) ?_;rintro O _ _ _ OM r he hw h_ hn;replace hy:=hy.cF r hS he (mC h_);have hX:=hn.dA (S:=FF) r.cD (mN h_);obtain⟨A0,A1,A2,A3,A4,A5,A6,A7,rfl⟩:=hX.shape;refine cE hw (fun _ w' v w2=>dT w2 (Nf w' w2) v ((ratio y1 y2))) (fun O w' r=>kN (Rel.old r hS) (hy.rel r hS) (by omega) (by omega)) ?_;rintro O _ _ _ OJ r he hw h_ hn;replace hX:=hX.cF r (cB w) he (mC h_);have hY:=hn.dA (S:=FF) r.cD (mN h_);obtain⟨C0,C1,C2,C3,C4,C5,C6,C7,rfl⟩:=hY.shape;refine cM (Φ:=fun _ w' v w2=>dT w2 (Nw (Cf w OJ) w' w2) v (-(ratio y1 y2))) (fun O w' r=>LX (Rel.old r (cB w)) (hY.rel r (cB w))) ?_;rintro O PX v3 PU r he hb hn;replace hw:=hw.tr hb;replace hX:=hX.cF (iv':=(PX.heap.size,PU.heap.size)::OJ) r (cB w) he fun x hx=>List.mem_cons_of_mem _ hx;have hM:=hn.old r.cD;generalize (PX.heap.size,PU.heap.size)::OJ=OP at*
 obtain⟨E0,E1,E2,E3,E4,E5,E6,E7,rfl⟩:=hM.shape;refine cE hw (fun _ w' v w2=>dT w2 (Nf w' w2) v ((ratio x1 x2)-(ratio y1 y2))) (fun O w' r=>(Rat.sub_eq_add_neg (ratio x1 x2) (ratio y1 y2))▸IN (Rel.old r (cB w)) (hX.rel r (cB w)) (hM.rel r (cB w)) (by omega) (by omega)) ?_;rintro O _ _ _ OR r he hw h_ hn;have hP:=hn.dA (S:=FF) r.cD (mN h_);obtain⟨F0,F1,F2,F3,F4,F5,F6,F7,rfl⟩:=hP.shape;refine cE hw (fun _ w' v w2=>cU w2 (Nf w' w2) v ((ratio x1 x2)-(ratio y1 y2))) (fun O w' r=>qz (Rel.old r (cB w)) (hP.rel r (cB w)) (by omega)) ?_;rintro O _ _ _ Ou r he hw h_ hn;have hC:=hn.dA (S:=FF) r.cD (mN h_);obtain⟨G0,G1,G2,G3,G4,G5,G6,G7,rfl⟩:=hC.shape;exact rtn hw fun ρe we re=>hC.out re (cB w)
theorem aAJ{v:Value}{f g:Rat}(hS:Old S w)(hf:dT w S v f)(hg:dT w S u g)(hlf:rl f<=10000000000)(hlg:rl g<=10000000000):
  di PG N.lg #[v,u] w (dw w fun v' w2=>v'= .int .i64 (rs (f-g))):=by
 have hw:=bR w;have l1:=fb f;have l2:=ew f;have l3:=fb g;have l4:=ew g;have m0:=cZ f.num g.den;have m1:=cZ g.num f.den;replace hf:=hf.cI (S':=Cv S w.heap.size []) fun _ h=>.inl h;replace hg:=hg.cI (S':=Cv S w.heap.size []) fun _ h=>.inl h;obtain⟨b1,a1,n1,c1,b2,a2,n2,c2,rfl⟩:=hf.shape;obtain⟨b3,a3,n3,c3,b4,a4,n4,c4,rfl⟩:=hg.shape;have To:=hf.num;have QJ:=hf.den;have SS:=hg.num;have RG:=hg.den;refine pI (by simp) ?_;refine cK hτ dZ [.x 0,.x 1,.x 2,.x 3,.x 5,.x 6,.x 7,.x 8,.x 4,.x 9,.x 10,.x 11] (by kernel_rfl) (by kernel_rfl) ?_;refine cE hw (fun _ w' v w2=>eK w2 (Nf w' w2) v (f.num*(g.den:Int))) (fun O w' r=>iE (Rel.old r hS) (To.rel r hS) (RG.rel r hS) (by omega) (by omega)) ?_;rintro O _ _ _ OM r he hw h_ hn;replace QJ:=QJ.cF r hS he (mC h_);replace SS:=SS.cF r hS he (mC h_);have hA:=hn.dA (S:=FF) r.cD (mN h_);obtain⟨A0,A1,A2,A3,rfl⟩:=hA.shape;refine cE hw (fun _ w' v w2=>eK w2 (Nf w' w2) v (g.num*(f.den:Int))) (fun O w' r=>iE (Rel.old r hS) (SS.rel r hS) (QJ.rel r hS) (by omega) (by omega)) ?_;rintro O _ _ _ OJ r he hw h_ hn;replace hA:=hA.cF r (cB w) he (mC h_);have hB:=hn.dA (S:=FF) r.cD (mN h_);obtain⟨C0,C1,C2,C3,rfl⟩:=hB.shape;refine cE hw (fun _ w' v w2=>v= .int .i64 (rs (f-g))) (fun O w' r=>(MR f g)▸LN (Rel.old r (cB w)) (hA.rel r (cB w)) (hB.rel r (cB w)) (by omega) (by omega)) ?_;rintro O _ _ _ OP r he hw h_ rfl;exact rtn hw fun ρe we re=>rfl
theorem Lh{v:Value}(hS:Old S w)(hx:iO w S v x1 x2)(hy:iO w S u y1 y2)(hl0:ln x1.natAbs<=100000)(RU:ln x2.natAbs<=100000)(Pb:ln y1.natAbs<=100000)(Rd:ln y2.natAbs<=100000):
  di PG N.vJ #[v,u] w (dw w fun v' w2=>v'= .int .i64 (rs ((ratio x1 x2)-(ratio y1 y2)))):=by
 have hw:=bR w;have r1:=iI x1 x2;have r2:=iI y1 y2;have r3:=oO (ratio x1 x2) (ratio y1 y2);have r4:=j0 (ratio x1 x2) (ratio y1 y2);have r5:=pe (ratio y1 y2);have r6:=zZ (ratio x1 x2) (ratio y1 y2);replace hx:=hx.cI (S':=Cv S w.heap.size []) fun _ h=>.inl h;replace hy:=hy.cI (S':=Cv S w.heap.size []) fun _ h=>.inl h;obtain⟨b1,a1,n1,c1,b2,a2,n2,c2,rfl⟩:=hx.shape;obtain⟨b3,a3,n3,c3,b4,a4,n4,c4,rfl⟩:=hy.shape;refine DL (by simp) ?_;refine cK hτ dZ [.x 0,.x 2,.x 1,.x 3,.x 4,.x 5] (by kernel_rfl) (by kernel_rfl) ?_;refine cE hw (fun _ w' v w2=>dT w2 (Nf w' w2) v ((ratio x1 x2))) (fun O w' r=>kN (Rel.old r hS) (hx.rel r hS) (by omega) (by omega)) ?_;rintro O _ _ _ OM r he hw h_ hn;replace hy:=hy.cF r hS he (mC h_);have hX:=hn.dA (S:=FF) r.cD (mN h_);obtain⟨A0,A1,A2,A3,A4,A5,A6,A7,rfl⟩:=hX.shape;refine cE hw (fun _ w' v w2=>dT w2 (Nf w' w2) v ((ratio y1 y2))) (fun O w' r=>kN (Rel.old r hS) (hy.rel r hS) (by omega) (by omega)) ?_;rintro O _ _ _ OJ r he hw h_ hn;replace hX:=hX.cF r (cB w) he (mC h_);have hY:=hn.dA (S:=FF) r.cD (mN h_);obtain⟨C0,C1,C2,C3,C4,C5,C6,C7,rfl⟩:=hY.shape;refine cE hw (fun _ w' v w2=>v= .int .i64 (rs ((ratio x1 x2)-(ratio y1 y2)))) (fun O w' r=>aAJ (Rel.old r (cB w)) (hX.rel r (cB w)) (hY.rel r (cB w)) (by omega) (by omega)) ?_;rintro O _ _ _ OP r he hw h_ rfl;exact rtn hw fun ρe we re=>rfl
theorem lD:rs q=0↔q=0:=by rw[rs,Int.sign_eq_zero_iff_zero,Rat.num_eq_zero]
theorem Li{v:Value}(hS:Old S w)(hx:iO w S v x1 x2)(hy:iO w S u y1 y2)(hl0:ln x1.natAbs<=100000)(RU:ln x2.natAbs<=100000)(Pb:ln y1.natAbs<=100000)(Rd:ln y2.natAbs<=100000):
  di PG N.vN #[v,u] w (dw w fun v' w2=>((ratio y1 y2)=0∧v'= .tuple #[Af,.int .i64 9])∨((ratio y1 y2)≠0∧∃q,v'= .tuple #[q,.int .i64 0]∧cU w2 (Nf w w2) q ((ratio x1 x2) / (ratio y1 y2)))):=by
 have hw:=bR w;have r1:=iI x1 x2;have r2:=iI y1 y2;have r3:=oO (ratio x1 x2) (ratio y1 y2);have r4:=j0 (ratio x1 x2) (ratio y1 y2);have r5:=pe (ratio y1 y2);have r6:=zZ (ratio x1 x2) (ratio y1 y2);replace hx:=hx.cI (S':=Cv S w.heap.size []) fun _ h=>.inl h;replace hy:=hy.cI (S':=Cv S w.heap.size []) fun _ h=>.inl h;obtain⟨b1,a1,n1,c1,b2,a2,n2,c2,rfl⟩:=hx.shape;obtain⟨b3,a3,n3,c3,b4,a4,n4,c4,rfl⟩:=hy.shape;refine DQ (by simp) ?_;refine cC (cE hw (fun _ w' v w2=>dT w2 (Nf w' w2) v ((ratio y1 y2))) (fun O w' r=>kN (Rel.old r hS) (hy.rel r hS) (by omega) (by omega)) ?_);rintro O _ _ _ OM r he hw h_ hn;replace hx:=hx.cF r hS he (mC h_);have hY:=hn.dA (S:=FF) r.cD (mN h_);obtain⟨A0,A1,A2,A3,A4,A5,A6,A7,rfl⟩:=hY.shape;refine cC (cE hw (fun _ w' v w2=>v= .int .i64 (rs (ratio y1 y2))) (fun O w' r=>Mh (Rel.old r (cB w)) (hY.rel r (cB w))) ?_);rintro O _ _ _ OJ r he hw h_ rfl;replace hx:=hx.cF r hS he (mC h_);replace hY:=hY.cF r (cB w) he (mC h_);refine dM.mk ?_ ?_<;>intro h
 ·have h:rs (ratio y1 y2)=0:=by simpa using h
  exact rtn hw fun ρe we re=>.inl ⟨lD.1 h,rfl⟩
 have h:(ratio y1 y2)≠0:=fun e=>by rw[e]at h;exact absurd h (by decide)
 have r7:=Kb (ratio x1 x2) h;refine cK hτ dZ [.x 0,.x 2,.x 1,.x 3,.x 4,.x 5,.x 6] (by kernel_rfl) (by kernel_rfl) ?_;refine cE hw (fun _ w' v w2=>dT w2 (Nf w' w2) v ((ratio x1 x2))) (fun O w' r=>kN (Rel.old r hS) (hx.rel r hS) (by omega) (by omega)) ?_;rintro O _ _ _ OP r he hw h_ hn;replace hY:=hY.cF r (cB w) he (mC h_);have hX:=hn.dA (S:=FF) r.cD (mN h_);obtain⟨C0,C1,C2,C3,C4,C5,C6,C7,rfl⟩:=hX.shape;refine cE hw (fun _ w' v w2=>dT w2 (Nf w' w2) v ((ratio x1 x2) / (ratio y1 y2))) (fun O w' r=>aA8 (Rel.old r (cB w)) (hX.rel r (cB w)) (hY.rel r (cB w)) (by omega) (by omega) h) ?_;rintro O _ _ _ OR r he hw h_ hn;have hP:=hn.dA (S:=FF) r.cD (mN h_);obtain⟨E0,E1,E2,E3,E4,E5,E6,E7,rfl⟩:=hP.shape;refine cE hw (fun _ w' v w2=>cU w2 (Nf w' w2) v ((ratio x1 x2) / (ratio y1 y2))) (fun O w' r=>qz (Rel.old r (cB w)) (hP.rel r (cB w)) (by omega)) ?_;rintro O _ _ _ Ou r he hw h_ hn;have hC:=hn.dA (S:=FF) r.cD (mN h_);obtain⟨F0,F1,F2,F3,F4,F5,F6,F7,rfl⟩:=hC.shape;exact rtn hw fun ρe we re=>.inr ⟨h,_,rfl,hC.out re (cB w)⟩
theorem Lj{n:Int}(h1: -9223372036854775808<=n)(h2:n<=9223372036854775807):rl (n:Rat)<=2:=by
 have:=mD h1 h2;unfold rl;rw[Rat.num_intCast,Rat.den_intCast];have:ln 1=1:=by decide
 omega
theorem Gu(n:Int)(w:World)(h1: -9223372036854775808<=n)(h2:n<=9223372036854775807):
  di PG N.xF #[.int .i64 n] w (dw w fun v' w2=>cU w2 (Nf w w2) v' (n:Rat)):=by
 have hw:=bR w;have hl:=Lj h1 h2;refine AI (by simp) ?_;refine cC (cE hw (fun _ w' v w2=>dT w2 (Nf w' w2) v (n)) (fun O w' r=>Mi n w' h1 h2) ?_);rintro O _ _ _ OM r he hw h_ hn;have hX:=hn.dA (S:=FF) r.cD (mN h_);obtain⟨A0,A1,A2,A3,A4,A5,A6,A7,rfl⟩:=hX.shape;refine cC (cE hw (fun _ w' v w2=>cU w2 (Nf w' w2) v (n)) (fun O w' r=>qz (Rel.old r (cB w)) (hX.rel r (cB w)) (by omega)) ?_);rintro O _ _ _ OJ r he hw h_ hn;have hC:=hn.dA (S:=FF) r.cD (mN h_);obtain⟨C0,C1,C2,C3,C4,C5,C6,C7,rfl⟩:=hC.shape;exact rtn hw fun ρe we re=>hC.out re (cB w)
theorem HI(a b:Int)(w:World)(h1a: -9223372036854775808<=a)(h2a:a<=9223372036854775807)(h1b: -9223372036854775808<=b)(h2b:b<=9223372036854775807):
  di PG N.xI #[.int .i64 a,.int .i64 b] w (dw w fun v' w2=>(b=0∧v'= .tuple #[Af,.int .i64 9])∨(b≠0∧∃q,v'= .tuple #[q,.int .i64 0]∧cU w2 (Nf w w2) q (Rat.divInt a b))):=by
 have hw:=bR w;have ha:=mD h1a h2a;have hb:=mD h1b h2b;refine AM (by simp) ?_;refine dM.mk ?_ ?_<;>intro h
 ·have h:b=0:=by simpa using h
  exact rtn hw fun ρe we re=>.inl ⟨h,rfl⟩
 have h:b≠0:=by simpa using h
 have hq:=jx (a:=a) h;refine cC (cE hw (fun _ w' v w2=>eK w2 (Nf w' w2) v a) (fun O w' r=>oh a w' h1a h2a) ?_);rintro O _ _ _ OM r he hw h_ hn;have hA:=hn.dA (S:=FF) r.cD (mN h_);obtain⟨A0,A1,A2,A3,rfl⟩:=hA.shape;refine cC (cE hw (fun _ w' v w2=>eK w2 (Nf w' w2) v b) (fun O w' r=>oh b w' h1b h2b) ?_);rintro O _ _ _ OJ r he hw h_ hn;replace hA:=hA.cF r (cB w) he (mC h_);have hB:=hn.dA (S:=FF) r.cD (mN h_);obtain⟨C0,C1,C2,C3,rfl⟩:=hB.shape;refine cC (cE hw (fun _ w' v w2=>dT w2 (Nf w' w2) v (Rat.divInt a b)) (fun O w' r=>wI (Rel.old r (cB w)) (hA.rel r (cB w)) (hB.rel r (cB w)) h (by omega) (by omega)) ?_);rintro O _ _ _ OP r he hw h_ hn;have hP:=hn.dA (S:=FF) r.cD (mN h_);obtain⟨E0,E1,E2,E3,E4,E5,E6,E7,rfl⟩:=hP.shape;refine cC (cE hw (fun _ w' v w2=>cU w2 (Nf w' w2) v (Rat.divInt a b)) (fun O w' r=>qz (Rel.old r (cB w)) (hP.rel r (cB w)) (by omega)) ?_);rintro O _ _ _ OR r he hw h_ hn;have hC:=hn.dA (S:=FF) r.cD (mN h_);obtain⟨F0,F1,F2,F3,F4,F5,F6,F7,rfl⟩:=hC.shape;exact rtn hw fun ρe we re=>.inr ⟨h,_,rfl,hC.out re (cB w)⟩
theorem GC(ad:Addr)(i j:Nat):(ad.add i).add j=ad.add (i+j):=by
 unfold Addr.add;split<;>split<;>simp_all<;>omega
def qY(w:World)(S:Nat->Prop)(v:Value)(q:Rat):Prop:=∃a b,iO w S v a b∧ratio a b=q∧ln a.natAbs<=100000∧ln b.natAbs<=100000
theorem qY.cH{w2:World}{v:Value}(h:qY w S v q)(hk:∀g,S g->w2.heap[g]? =w.heap[g]?):qY w2 S v q:=by
 obtain⟨a,b,h1,h2⟩:=h;exact⟨a,b,h1.cH hk,h2⟩
theorem qY.shape{v:Value}(h:qY w S v q):∃b a n c b2 a2 n2 c2,v= .agg #[.bool b,.slice a n c,.bool b2,.slice a2 n2 c2]:=by
 obtain⟨a,b,h1,_⟩:=h;exact h1.shape
theorem om(q:Rat):ratio q.num q.den=q:=by rw[ratio,aL (gF q),Rat.num_divInt_den]
theorem cU.v{v:Value}(h:cU w S v q)(hl:rl q<=100000):qY w S v q:=
 ⟨_,_,h.r,om q,aZ (fb q) hl,aZ (ew q) hl⟩
section
variable{S S':Nat->Prop}{H:Hp}{nx:Nat}{iv iv':Iv}{B:Nat}{w w' w2:World}{O:Nat->Sx.dg}{v:Value}{q:Rat}
end
theorem Gw{v:Value}(hS:Old S w)(hp:qY w S v p)(hq:qY w S u q):di PG N.vL #[v,u] w (dw w fun v' w2=>cU w2 (Nf w w2) v' (p+q)):=by
 obtain⟨a,b,h1,rfl,h2,h3⟩:=hp;obtain⟨c,d,k1,rfl,k2,k3⟩:=hq;exact Le hS h1 k1 h2 h3 k2 k3
theorem AQ{v:Value}(hS:Old S w)(hp:qY w S v p)(hq:qY w S u q):di PG N.vM #[v,u] w (dw w fun v' w2=>cU w2 (Nf w w2) v' (p*q)):=by
 obtain⟨a,b,h1,rfl,h2,h3⟩:=hp;obtain⟨c,d,k1,rfl,k2,k3⟩:=hq;exact Lf hS h1 k1 h2 h3 k2 k3
theorem Kt{v:Value}(hS:Old S w)(hp:qY w S v p)(hq:qY w S u q):di PG N.vO #[v,u] w (dw w fun v' w2=>cU w2 (Nf w w2) v' (p-q)):=by
 obtain⟨a,b,h1,rfl,h2,h3⟩:=hp;obtain⟨c,d,k1,rfl,k2,k3⟩:=hq;exact Lg hS h1 k1 h2 h3 k2 k3
theorem Gv{v:Value}(hS:Old S w)(hp:qY w S v p)(hq:qY w S u q):di PG N.vJ #[v,u] w (dw w fun v' _=>v'= .int .i64 (rs (p-q))):=by
 obtain⟨a,b,h1,rfl,h2,h3⟩:=hp;obtain⟨c,d,k1,rfl,k2,k3⟩:=hq;exact Lh hS h1 k1 h2 h3 k2 k3
theorem No{v:Value}(hS:Old S w)(hp:qY w S v p)(hq:qY w S u q):di PG N.vN #[v,u] w (dw w fun v' w2=>(q=0∧v'= .tuple #[Af,.int .i64 9])∨(q≠0∧∃r,v'= .tuple #[r,.int .i64 0]∧cU w2 (Nf w w2) r (p / q))):=by
 obtain⟨a,b,h1,rfl,h2,h3⟩:=hp;obtain⟨c,d,k1,rfl,k2,k3⟩:=hq;exact Li hS h1 k1 h2 h3 k2 k3
end Go.Ex
namespace Go.Ex
theorem NV(q:Rat):rs (-q)= -rs q:=by rw[rs,rs,Rat.neg_num,Int.sign_neg]
end Go.Ex
namespace Go.Ex
open Go Go.Sx Go.Proofs
variable{b:Bool}{x z:Int}{cs:List Int}{ls:List Nat}{S:Nat->Prop}{lv:Value}{w:World}
def fS(w:World)(S:Nat->Prop)(v:Value)(k:Nat)(z:Int):Prop:=∃neg ls,uW w S v neg ls∧sg neg (val ls)=z∧ls.length<=k
theorem fS.cH{w2:World}{v:Value}{k:Nat}(h:fS w S v k z)(hk:∀g,S g->w2.heap[g]? =w.heap[g]?):fS w2 S v k z:=by
 obtain⟨n,l,h1,h2⟩:=h;exact⟨n,l,h1.cH hk,h2⟩
theorem fS.cI{S':Nat->Prop}{v:Value}{k:Nat}(h:fS w S v k z)(hk:∀g,S g->S' g):fS w S' v k z:=by
 obtain⟨n,l,h1,h2⟩:=h;exact⟨n,l,h1.cI hk,h2⟩
theorem fS.r{v:Value}{k:Nat}(h:fS w S v k z):jc w S v z:=by
 obtain⟨n,l,h1,h2,_⟩:=h;exact⟨n,l,h1,h2⟩
theorem fS.shape{v:Value}{k:Nat}(h:fS w S v k z):∃b a n c,v= .agg #[.bool b,.slice a n c]:=h.r.shape
theorem dK.l{v:Value}{k:Nat}(h:dK w S v z)(hk:ln z.natAbs<=k):fS w S v k z:=by
 obtain⟨l,h1,h2,h3⟩:=h;obtain⟨_,_,hl⟩:=h1;have:=eJ hl.lm h2;rw[h3]at this;exact⟨_,l,⟨_,‹_›,hl⟩,by rw[h3,CW],by omega⟩
section
variable{S S':Nat->Prop}{H:Hp}{nx:Nat}{iv iv':Iv}{B:Nat}{w w' w2:World}{O:Nat->Sx.dg}{v:Value}{k:Nat}{z:Int}
theorem fS.rel(h:fS w (Cv S B iv) v k z)(r:Rel H nx iv B w O w')(hS:∀g,S g->g<B):fS w' (Cv S B iv) v k z:=h.cH fun _ hg=>Rel.same r hS hg
theorem fS.cF(h:fS w (Cv S B iv) v k z)(r:Rel H nx iv B w O w')(hS:∀g,S g->g<B)(he:Ext w' w2)(hm:∀p,p∈iv->p∈iv'):fS w2 (Cv S B iv') v k z:=
 ((h.rel r hS).cH fun g hg=>he.block g (Rel.old r hS g hg)).cI fun _ hg=>hg.mono hm
end
section
variable{S S':Nat->Prop}{H:Hp}{nx:Nat}{iv iv':Iv}{B:Nat}{w w' w2:World}{O:Nat->Sx.dg}{v:Value}{cs:List Int}
theorem du.rel(h:du w (Cv S B iv) v cs)(r:Rel H nx iv B w O w')(hS:∀g,S g->g<B):du w' (Cv S B iv) v cs:=du.cH h fun _ hg=>Rel.same r hS hg
theorem du.cF(h:du w (Cv S B iv) v cs)(r:Rel H nx iv B w O w')(hS:∀g,S g->g<B)(he:Ext w' w2)(hm:∀p,p∈iv->p∈iv'):du w2 (Cv S B iv') v cs:=
 (du.cH (h.rel r hS) fun g hg=>he.block g (Rel.old r hS g hg)).cI fun _ hg=>hg.mono hm
theorem du.dA(h:du w2 (Nf w' w2) v cs)(hB:B<=w'.heap.size)(hm:(w'.heap.size,w2.heap.size)∈iv):du w2 (Cv S B iv) v cs:=du.cI h fun _ hg=>hg.dA hB hm
end
def sgn(b:Bool):Int:=if b then -1 else 1
theorem aAK(b:Bool):sgn b=1∨sgn b= -1:=by cases b<;>simp[sgn]
theorem Mn(b:Bool)(n:Nat):sgn b*(n:Int)=sg b n:=by cases b<;>simp[sgn,sg]
theorem H2{v:Value}{neg:Bool}(hS:Old S w)(h:uW w S v neg ls)(hl:ls.length<=40000000):
  di PG N.nB #[v] w (dw w fun v' w2=>du w2 (Nf w w2) v' (eA (sgn neg) ls)):=by
 obtain⟨lv,rfl,hL⟩:=h;have PR:=hL.lm;obtain⟨a,c,rfl,hc,OS⟩:=hL.sl;refine vg (by simp) ?_
 cases neg with
 |true=>
  refine⟨Nat×World,fun z=>⟨[(1,pP 0 0),(3,.o (.v (.int .i64 (-1)))),(4,.o (.w 1 (2*z.1))),(5,iZ z.1)],[(1,.vec T.int 1 ((eA (-1) (ls.take z.1)).map (Value.int .i64))),(0,.box T.Int [.v (.bool true),.v (.slice a ls.length c)])],2,[],z.2⟩,fun z=>ls.length-z.1,
   fun z=>dm w.heap.size w z.2∧z.1<=ls.length,?_,?_⟩
  ·intro O w' r
   exact⟨(0,w'),⟨r.cP,by simp⟩,Sub.nil 4 T.int 1 rfl (by simp[jX,SV.sc,At.sc,fT]) r fun ρ1 r1=>
    Sub.gn [] r1⟩
  rintro⟨i,w1⟩ ⟨hw,hi⟩;dsimp only at hw hi ⊢;have SA:((eA (-1) (ls.take i)).map (Value.int .i64)).length=2*i:=by rw[aJ,iJ,aW];omega
  refine dM.mk ?_ ?_<;>intro h
  ·have h:i<ls.length:=by simpa using h
   obtain⟨x,hx⟩:∃x,ls[i]? =some x:=⟨_,aB h⟩
   have Py:=PR x (aC hx);obtain⟨ad,rfl,q1,q2⟩:=OS i x hx;have UC:eA (-1) (ls.take (i+1))=eA (-1) (ls.take i)++[(-1)*((x % 65536:Nat):Int),(-1)*((x / 65536:Nat):Int)]:=by rw[List.take_add_one,hx,Option.toList_some,ow];rfl
   refine⟨ad,rfl,by omega,.int .u32 x,fun O w' r=>?_,?_⟩
   ·rw[aE,aT];exact jv hS hw r q1 q2
   refine⟨(x:Int),wo,by decide,((x % 65536:Nat):Int),rfl,(-1)*((x % 65536:Nat):Int),wo,by decide,((x / 65536:Nat):Int),by rw[show (x:Int).tdiv 65536=((x / 65536:Nat):Int)from rfl,wrap64]<;>omega,(-1)*((x / 65536:Nat):Int),wo,?_⟩;refine .inl ?_;refine⟨by rw[SA,aT],by omega,by unfold maxLen;omega,((i+1:Nat):Int),wo,?_⟩;intro ρ3 w3 r3;have TJ:(eA (-1) (ls.take (i+1))).map (Value.int .i64)=(eA (-1) (ls.take i)).map (Value.int .i64)++[.int .i64 ((-1)*((x % 65536:Nat):Int)),.int .i64 ((-1)*((x / 65536:Nat):Int))]:=by
    rw[UC];simp
   exact⟨(i+1,w3),⟨hw.tr r3.cP,by dsimp only;omega⟩,Sub.gn [(1,3)] r3 ⟨by dsimp only;rw[TJ];rfl,rfl,trivial⟩,by dsimp only;omega⟩
  have h:i=ls.length:=by
   have:¬i<ls.length:=by simpa using h
   omega
  subst h;rw[bC]at SA ⊢;intro ρe we re;have OG:=re.Dq (id:=1) (m:=2*ls.length) rfl (by rw[SA,aT]) (by decide);have PT:=rA OG (by rw[iJ]) (by unfold maxLen;omega);refine⟨_,rfl,hw.tr re.cP,du.cI PT fun g hg=>.inr ?_⟩;have:=ownsRow.low OG g hg;exact this
 |false=>
  refine⟨Nat×World,fun z=>⟨[(1,pP 0 0),(3,.o (.v (.int .i64 (1)))),(4,.o (.w 1 (2*z.1))),(5,iZ z.1)],[(1,.vec T.int 1 ((eA (1) (ls.take z.1)).map (Value.int .i64))),(0,.box T.Int [.v (.bool false),.v (.slice a ls.length c)])],2,[],z.2⟩,fun z=>ls.length-z.1,
   fun z=>dm w.heap.size w z.2∧z.1<=ls.length,?_,?_⟩
  ·intro O w' r
   exact⟨(0,w'),⟨r.cP,by simp⟩,Sub.nil 4 T.int 1 rfl (by simp[jX,SV.sc,At.sc,fT]) r fun ρ1 r1=>
    Sub.gn [] r1⟩
  rintro⟨i,w1⟩ ⟨hw,hi⟩;dsimp only at hw hi ⊢;have SA:((eA (1) (ls.take i)).map (Value.int .i64)).length=2*i:=by rw[aJ,iJ,aW];omega
  refine dM.mk ?_ ?_<;>intro h
  ·have h:i<ls.length:=by simpa using h
   obtain⟨x,hx⟩:∃x,ls[i]? =some x:=⟨_,aB h⟩
   have Py:=PR x (aC hx);obtain⟨ad,rfl,q1,q2⟩:=OS i x hx;have UC:eA (1) (ls.take (i+1))=eA (1) (ls.take i)++[(1)*((x % 65536:Nat):Int),(1)*((x / 65536:Nat):Int)]:=by rw[List.take_add_one,hx,Option.toList_some,ow];rfl
   refine⟨ad,rfl,by omega,.int .u32 x,fun O w' r=>?_,?_⟩
   ·rw[aE,aT];exact jv hS hw r q1 q2
   refine⟨(x:Int),wo,by decide,((x % 65536:Nat):Int),rfl,(1)*((x % 65536:Nat):Int),wo,by decide,((x / 65536:Nat):Int),by rw[show (x:Int).tdiv 65536=((x / 65536:Nat):Int)from rfl,wrap64]<;>omega,(1)*((x / 65536:Nat):Int),wo,?_⟩;refine .inl ?_;refine⟨by rw[SA,aT],by omega,by unfold maxLen;omega,((i+1:Nat):Int),wo,?_⟩;intro ρ3 w3 r3;have TJ:(eA (1) (ls.take (i+1))).map (Value.int .i64)=(eA (1) (ls.take i)).map (Value.int .i64)++[.int .i64 ((1)*((x % 65536:Nat):Int)),.int .i64 ((1)*((x / 65536:Nat):Int))]:=by
    rw[UC];simp
   exact⟨(i+1,w3),⟨hw.tr r3.cP,by dsimp only;omega⟩,Sub.gn [(1,3)] r3 ⟨by dsimp only;rw[TJ];rfl,rfl,trivial⟩,by dsimp only;omega⟩
  have h:i=ls.length:=by
   have:¬i<ls.length:=by simpa using h
   omega
  subst h;rw[bC]at SA ⊢;intro ρe we re;have OG:=re.Dq (id:=1) (m:=2*ls.length) rfl (by rw[SA,aT]) (by decide);have PT:=rA OG (by rw[iJ]) (by unfold maxLen;omega);refine⟨_,rfl,hw.tr re.cP,du.cI PT fun g hg=>.inr ?_⟩;have:=ownsRow.low OG g hg;exact this
def BR(cs:List Int)(n:Nat)(z:Int):Prop:=dQ cs=z∧cs.length<=n∧(∀c∈cs,-65535<=c∧c<=65535)∧(0<=z->∀c∈cs,0<=c)
theorem BS(s:Int)(h:val ls=0):∀c∈eA s ls,c=0:=fun c hc=>by
 induction ls with
 |nil=>cases hc
 |cons l r ih=>
  have h:l+4294967296*val r=0:=h;have h1:l=0:=by omega
  have h2:val r=0:=by omega
  subst h1;rw[eA]at hc;rcases List.mem_cons.1 hc with rfl|hc
  ·simp
  rcases List.mem_cons.1 hc with rfl|hc
  ·simp
  ·exact ih h2 hc
theorem fS.GB{v:Value}{k:Nat}(h:fS w S v k z):∃b a ls c,v= .agg #[.bool b,.slice a ls.length c]∧dO w S (.slice a ls.length c) ls∧sg b (val ls)=z∧ls.length<=k:=by
 obtain⟨b,ls,⟨lv,rfl,hl⟩,hz,hk⟩:=h;obtain⟨a,c,rfl,_⟩:=hl.sl;exact⟨b,a,ls,c,rfl,hl,hz,hk⟩
theorem fS.ln{v:Value}{k:Nat}(h:fS w S v k z):ln z.natAbs<=k:=by
 obtain⟨b,a,ls,c,_,hl,hz,hk⟩:=h.GB;rw[<-hz,sn];exact Lc hl.lm hk
theorem fS.neg{k:Nat}(h:fS w S (.agg #[.bool b,lv]) k z):fS w S (.agg #[.bool (!b),lv]) k (-z):=by
 obtain⟨b,ls,⟨lv,e,hl⟩,hz,hk⟩:=h;simp only[Value.agg.injEq,Array.mk.injEq,List.cons.injEq,Value.bool.injEq,and_true]at e;obtain⟨rfl,rfl⟩:=e;refine⟨_,ls,⟨_,rfl,hl⟩,?_,hk⟩;rw[<-hz]
 cases b<;>simp[sg]
theorem fS.abs{k:Nat}(h:fS w S (.agg #[.bool b,lv]) k z):fS w S (.agg #[.bool false,lv]) k (z.natAbs:Int):=by
 obtain⟨b,ls,⟨lv,e,hl⟩,hz,hk⟩:=h;simp only[Value.agg.injEq,Array.mk.injEq,List.cons.injEq,Value.bool.injEq,and_true]at e;obtain⟨rfl,rfl⟩:=e;exact⟨_,ls,⟨_,rfl,hl⟩,by rw[<-hz,sn];rfl,hk⟩
theorem rC{v:Value}{k:Nat}(hS:Old S w)(h:fS w S v k z)(hk:k<=40000000):
  di PG N.nB #[v] w (dw w fun v' w2=>∃cs,du w2 (Nf w w2) v' cs∧BR cs (2*k) z):=by
 obtain⟨b,ls,hi,hz,hl⟩:=h;have PR:Lm ls:=by obtain⟨_,_,h⟩:=hi;exact h.lm
 refine(H2 hS hi (by omega)).mono fun _ w2 ⟨v2,e1,e2,e3⟩=>⟨v2,e1,e2,_,e3,by rw[DD,Mn,hz],by rw[iJ];omega,zc (aAK b) PR,fun h0=>?_⟩
 cases b with
 |false=>exact fun c hc=>(xX PR c hc).1
 |true=>
  rw[LH]at hz;exact fun c hc=>by rw[BS _ (show val ls=0 by omega) c hc];decide
theorem H3{v:Value}{n:Nat}(hS:Old S w)(h:du w S v cs)(hb:BR cs n z)(hn:n<=100000000):
  di PG N.kL #[v] w (dw w fun v' w2=>dK w2 (Nf w w2) v' z):=by
 have:=wK hS h (fun c hc=>by have:=hb.2.2.1 c hc;omega) (by have:=hb.2.1;omega);rw[hb.1]at this;exact this
theorem Lk{v:Value}{k:Nat}(hS:Old S w)(hx:fS w S v k x)(hk:k<=40000000):
  di PG N.CH #[v] w (dw w fun v' w2=>dK w2 (Nf w w2) v' x):=by
 have hw:=bR w;replace hx:=hx.cI (S':=Cv S w.heap.size []) fun _ h=>.inl h;obtain⟨b1,a1,n1,c1,rfl⟩:=hx.shape;refine DT (by simp) ?_;refine cC (cE hw (fun _ w' v w2=>∃cs,du w2 (Nf w' w2) v cs∧BR cs (2*k) (x)) (fun O w' r=>rC (Rel.old r hS) (hx.rel r hS) (by omega)) ?_);rintro O _ _ _ OM r he hw h_ ⟨cs,k1,bcs⟩;have hc:=k1.dA (S:=FF) r.cD (mN h_);obtain⟨acs,ccs,rfl,lcs⟩:=hc.shape;refine cC (cE hw (fun _ w' v w2=>dK w2 (Nf w' w2) v (x)) (fun O w' r=>H3 (Rel.old r (cB w)) (hc.rel r (cB w)) bcs (by omega)) ?_);rintro O _ _ _ OJ r he hw h_ hn;have hC:=hn.dA (S:=FF) r.cD (mN h_);obtain⟨A0,A1,A2,A3,rfl⟩:=hC.shape;exact rtn hw fun ρe we re=>hC.out re (cB w)
theorem mG{v:Value}{k:Nat}(hS:Old S w)(hx:fS w S v k x)(hk:k<=40000000):
  di PG N.xD #[v] w (dw w fun v' w2=>dK w2 (Nf w w2) v' (-x)):=by
 have hw:=bR w;replace hx:=hx.cI (S':=Cv S w.heap.size []) fun _ h=>.inl h;obtain⟨b1,a1,n1,c1,rfl⟩:=hx.shape;replace hx:=hx.neg;refine AG (by simp) ?_;refine cC (cE hw (fun _ w' v w2=>dK w2 (Nf w' w2) v (-x)) (fun O w' r=>Lk (Rel.old r hS) (hx.rel r hS) hk) ?_);rintro O _ _ _ OM r he hw h_ hn;have hC:=hn.dA (S:=FF) r.cD (mN h_);obtain⟨A0,A1,A2,A3,rfl⟩:=hC.shape;exact rtn hw fun ρe we re=>hC.out re (cB w)
theorem yR{v:Value}{k:Nat}(hS:Old S w)(hx:fS w S v k x)(hk:k<=40000000):
  di PG N.zk #[v] w (dw w fun v' w2=>dK w2 (Nf w w2) v' ((x.natAbs:Int))):=by
 have hw:=bR w;replace hx:=hx.cI (S':=Cv S w.heap.size []) fun _ h=>.inl h;obtain⟨b1,a1,n1,c1,rfl⟩:=hx.shape;replace hx:=hx.abs;refine BE (by simp) ?_;refine cC (cE hw (fun _ w' v w2=>dK w2 (Nf w' w2) v ((x.natAbs:Int))) (fun O w' r=>Lk (Rel.old r hS) (hx.rel r hS) hk) ?_);rintro O _ _ _ OM r he hw h_ hn;have hC:=hn.dA (S:=FF) r.cD (mN h_);obtain⟨A0,A1,A2,A3,rfl⟩:=hC.shape;exact rtn hw fun ρe we re=>hC.out re (cB w)
theorem NL{v:Value}{i:Nat}(hS:Old S w)(h:du w S v cs):
  di PG N.FG #[v,.int .i64 i] w (dw w fun v' _=>v'= .int .i64 (cs.getD i 0)):=by
 obtain⟨a,c,rfl,hc⟩:=h.shape;refine FI (by simp) ?_;refine dM.mk ?_ ?_<;>intro hi
 ·have hi:i<cs.length:=by simpa using hi
  obtain⟨x,hx⟩:∃x,cs[i]? =some x:=⟨_,aB hi⟩
  obtain⟨ad,rfl,q1,q2⟩:=h.load hx;refine⟨ad,rfl,by omega,.int .i64 x,fun O w' r=>?_,?_⟩
  ·rw[aE];exact jv hS dm.refl r q1 q2
  intro O w2 r;exact⟨_,rfl,r.cP,by rw[List.getD,hx];rfl⟩
 ·have hi:cs.length<=i:=by
   have:¬i<cs.length:=by simpa using hi
   omega
  intro O w2 r;exact⟨_,rfl,r.cP,by rw[List.getD,List.getElem?_eq_none hi];rfl⟩
theorem val_zero(h:∀x∈ls,x=0):val ls=0:=by
 induction ls with
 |nil=>rfl
 |cons l r ih=>rw[val,h l aG,ih fun x hx=>h x (List.mem_cons_of_mem _ hx)]
theorem Mo{x:Nat}(h:x∈ls)(hx:x≠0):0<val ls:=by
 induction ls with
 |nil=>cases h
 |cons l r ih=>
  rw[val];rcases List.mem_cons.1 h with rfl|h
  ·omega
  ·have:=ih h;omega
theorem gY{v:Value}(hS:Old S w)(hx:jc w S v x):
  di PG N.zh #[v] w (dw w fun v' _=>v'= .int .i64 x.sign):=by
 obtain⟨b,ls,⟨lv,rfl,h1⟩,hz⟩:=hx;obtain⟨a,c,rfl,_,ha⟩:=h1.sl;have hle1:=h1.le;refine BB (by simp) ?_
 refine⟨Nat×World,fun z=>⟨[(1,pP 0 0),(3,iZ z.1)],[(0,.box T.Int [.v (.bool b),.v (.slice a ls.length c)])],1,[],z.2⟩,fun z=>ls.length-z.1,
  fun z=>z.1<=ls.length∧dm w.heap.size w z.2∧∀x∈ls.take z.1,x=0,?_,?_⟩
 ·intro O w' r;exact⟨(0,w'),⟨by simp,r.cP,by simp⟩,Sub.gn [] r⟩
 rintro⟨i,w1⟩ ⟨hi,hw,ht⟩;dsimp only at hi hw ht ⊢;refine dM.mk ?_ ?_<;>intro OF
 ·have OF:i<ls.length:=by simpa using OF
  obtain⟨y,hy⟩:∃x,ls[i]? =some x:=⟨_,aB OF⟩
  obtain⟨ad,rfl,q1,q2⟩:=ha i y hy;refine⟨ad,rfl,by omega,.int .u32 y,fun O w' r=>by rw[aE,aT];exact jv hS hw r q1 q2,?_⟩;refine dM.mk ?_ ?_<;>intro OH
  ·have OH:y≠0:=fun h=>by rw[h]at OH;simp at OH
   have hp:=Mo (aC hy) OH
   cases b with
   |true=>
    rw[LH]at hz;intro O w2 r;exact⟨_,rfl,hw.tr r.cP,by rw[bc (by omega)];rfl⟩
   |false=>
    rw[Nt]at hz;intro O w2 r;exact⟨_,rfl,hw.tr r.cP,by rw[bh (by omega)];rfl⟩
  have OH:y=0:=by simpa using OH
  subst OH;have SZ:∀x∈ls.take (i+1),x=0:=fun x hx=>by
   rw[List.take_add_one,hy]at hx;rcases bG.1 hx with hx|hx
   ·exact ht x hx
   ·simpa using hx
  refine⟨((i+1:Nat):Int),wo,?_⟩;intro ρ3 w3 r3;exact⟨(i+1,w3),⟨OF,hw.tr r3.cP,SZ⟩,Sub.gn [] r3,by dsimp only;omega⟩
 have OF:i=ls.length:=by
  have:¬i<ls.length:=by simpa using OF
  omega
 subst OF;rw[bC]at ht;intro O w2 r;refine⟨_,rfl,hw.tr r.cP,?_⟩;rw[<-hz,val_zero ht]
 cases b<;>rfl
theorem BR.at{n:Nat}(h:BR cs n z)(i:Nat): -65535<=cs.getD i 0∧cs.getD i 0<=65535:=by
 rw[List.getD]
 cases hj:cs[i]? with
 |none=>simp
 |some d=>exact h.2.2.1 d (aC hj)
end Go.Ex
namespace Go.Sx
open Go Go.Ex Go.Proofs
variable{cs:List Int}{O:Nat->Sx.dg}
theorem Rel.Mp{H:Hp}{nx:Nat}{iv:Iv}{B:Nat}{w w':World}(r:Rel H nx iv B w O w'){id m:Nat}(h:dC H id=some (.vec T.int 1 (cs.map (Value.int .i64))))(hm:m=cs.length)(hl:m<=maxLen):
  ∃S',Old S' w'∧du w' S' ((SV.o (.w id m)).den O) cs:=by
 have OG:=r.Dq (m:=m) h (by rw[aJ,hm,aT]) (by decide);exact⟨_,fun g hg=>(ownsRow.low OG g hg).2,rA OG hm hl⟩
end Go.Sx
namespace Go.Ex
open Go Go.Sx Go.Proofs
variable{x y:Int}{cs:List Int}{S:Nat->Prop}{O:Nat->Sx.dg}{u:Value}{w:World}
theorem nF{H:Hp}{nx:Nat}{iv:Iv}{B:Nat}{w':World}(r:Rel H nx iv B w O w'){id m:Nat}{z:Int}(h:dC H id=some (.vec T.int 1 (cs.map (Value.int .i64))))(hm:m=cs.length)(hl:m<=100000000)
  (hb:∀c∈cs,-1152921504606846976<=c∧c<=1152921504606846976) (hz:dQ cs=z):di PG N.kL #[(SV.o (.w id m)).den O] w' (dw w' fun v' w2=>dK w2 (Nf w' w2) v' z):=by
 subst hz;obtain⟨S',h1,h2⟩:=r.Mp h hm (by unfold maxLen;omega);exact wK h1 h2 hb (by omega)
theorem Aj{v:Value}{k l:Nat}(hS:Old S w)(hx:fS w S v k x)(hy:fS w S u l y)(hk:k<=10000000)(hl:l<=10000000):
  di PG N.CE #[v,u] w (dw w fun v' w2=>dK w2 (Nf w w2) v' (x+y)):=by
 have hw:=bR w;replace hx:=hx.cI (S':=Cv S w.heap.size []) fun _ h=>.inl h;replace hy:=hy.cI (S':=Cv S w.heap.size []) fun _ h=>.inl h;obtain⟨b1,a1,n1,c1,rfl⟩:=hx.shape;obtain⟨b2,a2,n2,c2,rfl⟩:=hy.shape;refine DK (by simp) ?_;refine cK hτ dZ [.x 0,.x 2,.x 1,.x 3,.x 4,.x 5] (by kernel_rfl) (by kernel_rfl) ?_;refine cE hw (fun _ w' v w2=>∃cs,du w2 (Nf w' w2) v cs∧BR cs (2*k) (x)) (fun O w' r=>rC (Rel.old r hS) (hx.rel r hS) (by omega)) ?_;rintro O _ _ _ OM r he hw h_ ⟨ca,k1,bca⟩;replace hy:=hy.cF r hS he (mC h_);have Oz:=k1.dA (S:=FF) r.cD (mN h_);obtain⟨aca,cca,rfl,lca⟩:=Oz.shape;refine cE hw (fun _ w' v w2=>∃cs,du w2 (Nf w' w2) v cs∧BR cs (2*l) (y)) (fun O w' r=>rC (Rel.old r hS) (hy.rel r hS) (by omega)) ?_;rintro O _ _ _ OJ r he hw h_ ⟨cb,k1,bcb⟩;replace Oz:=Oz.cF r (cB w) he (mC h_);have Pv:=k1.dA (S:=FF) r.cD (mN h_);obtain⟨acb,ccb,rfl,lcb⟩:=Pv.shape
 refine⟨Nat×World×Iv,fun z=>⟨[(4,pP 2 0),(5,sV aca ca.length cca),(6,sV acb cb.length ccb),(7,.o (.w 3 z.1)),(8,iZ z.1)],[(3,.vec T.int 1 (((List.range z.1).map fun j=>ca.getD j 0+cb.getD j 0).map (Value.int .i64))),(2,.box T.Int [.v (.bool false),.v (.slice none 0 0)])],4,z.2.2,z.2.1⟩,fun z=>max ca.length cb.length-z.1,
  fun z=>z.1<=max ca.length cb.length∧dm w.heap.size w z.2.1∧du z.2.1 (Cf w z.2.2) (.slice aca ca.length cca) ca∧du z.2.1 (Cf w z.2.2) (.slice acb cb.length ccb) cb,?_,?_⟩
 ·intro O w' r
  exact⟨(0,w',OJ),⟨by simp,hw.tr r.cP,Oz.rel r (cB w),Pv.rel r (cB w)⟩,Sub.nil 7 T.int 1 rfl (by simp[jX,SV.sc,At.sc,fT]) r fun ρ1 r1=>
   Sub.gn [] r1⟩
 rintro⟨i,w1,iv⟩ ⟨hi,hw,Oz,Pv⟩;dsimp only at hi hw Oz Pv ⊢;have l1:=bca.2.1;have l2:=bcb.2.1;refine dM.mk ?_ ?_<;>intro OF
 ·have OF:i<max ca.length cb.length:=by
   have:=aI OF;omega
  have q1:=bca.at i;have q2:=bcb.at i;refine cC (cE hw (fun _ w' v w2=>v= .int .i64 (ca.getD i 0)) (fun O w' r=>NL (Rel.old r (cB w)) (Oz.rel r (cB w))) ?_);rintro O PX v3 PU OP r he hw h_ rfl;replace Oz:=Oz.cF r (cB w) he (mC h_);replace Pv:=Pv.cF r (cB w) he (mC h_);refine cC (cE hw (fun _ w' v w2=>v= .int .i64 (cb.getD i 0)) (fun O w' r=>NL (Rel.old r (cB w)) (Pv.rel r (cB w))) ?_);rintro O _ _ _ OR r he hw h_ rfl;replace Oz:=Oz.cF r (cB w) he (mC h_);replace Pv:=Pv.cF r (cB w) he (mC h_);refine⟨ca.getD i 0+cb.getD i 0,wo,?_⟩;refine .inl ?_;refine⟨by simp,by omega,by unfold maxLen;omega,((i+1:Nat):Int),wo,?_⟩;intro ρ3 w3 r3;have TJ:((List.range (i+1)).map fun j=>ca.getD j 0+cb.getD j 0).map (Value.int .i64)=((List.range i).map fun j=>ca.getD j 0+cb.getD j 0).map (Value.int .i64)++[.int .i64 (ca.getD i 0+cb.getD i 0)]:=by
   rw[bT,List.map_append,List.map_append];rfl
  exact⟨(i+1,w3,_),⟨OF,hw.tr r3.cP,Oz.rel r3 (cB w),Pv.rel r3 (cB w)⟩,Sub.gn [(3,5)] r3 ⟨by dsimp only;rw[TJ];rfl,rfl,trivial⟩,by dsimp only;omega⟩
 have OF:i=max ca.length cb.length:=by
  have:=aH OF;omega
 generalize Ov:((List.range i).map fun j=>ca.getD j 0+cb.getD j 0)=cs;have hz:dQ cs=x+y:=by
  rw[<-Ov,z7,z8,pg ca i (by omega),pg cb i (by omega),bca.1,bcb.1]
 have hlen:i=cs.length:=by rw[<-Ov];simp
 have Oe:∀c∈cs,-1152921504606846976<=c∧c<=1152921504606846976:=fun c hc=>by
  rw[<-Ov]at hc;obtain⟨j,_,rfl⟩:=aU.1 hc;have:=bca.at j;have:=bcb.at j;omega
 refine cC (cE hw (fun _ w' v w2=>dK w2 (Nf w' w2) v (x+y)) (fun O w' r=>nF r rfl hlen (by omega) Oe hz) ?_);rintro O _ _ _ OP r he hw h_ hn;have hC:=hn.dA (S:=FF) r.cD (mN h_);obtain⟨A0,A1,A2,A3,rfl⟩:=hC.shape;exact rtn hw fun ρe we re=>hC.out re (cB w)
theorem Ds{v:Value}{k l:Nat}(hS:Old S w)(hx:fS w S v k x)(hy:fS w S u l y)(hk:k<=10000000)(hl:l<=10000000):
  di PG N.zj #[v,u] w (dw w fun v' w2=>dK w2 (Nf w w2) v' (x-y)):=by
 have Qa:=hy.ln;have hw:=bR w;replace hx:=hx.cI (S':=Cv S w.heap.size []) fun _ h=>.inl h;replace hy:=hy.cI (S':=Cv S w.heap.size []) fun _ h=>.inl h;obtain⟨b1,a1,n1,c1,rfl⟩:=hx.shape;obtain⟨b2,a2,n2,c2,rfl⟩:=hy.shape;refine BD (by simp) ?_;refine cK hτ dZ [.x 0,.x 1,.x 2,.x 3,.x 4] (by kernel_rfl) (by kernel_rfl) ?_;refine cE hw (fun _ w' v w2=>dK w2 (Nf w' w2) v (-y)) (fun O w' r=>mG (Rel.old r hS) (hy.rel r hS) (by omega)) ?_;rintro O _ _ _ OM r he hw h_ hn;replace hx:=hx.cF r hS he (mC h_);have hm:=hn.dA (S:=FF) r.cD (mN h_);obtain⟨A0,A1,A2,A3,rfl⟩:=hm.shape;refine cE hw (fun _ w' v w2=>dK w2 (Nf w' w2) v (x-y)) (fun O w' r=>?_) ?_
 ·have h:=Aj (Rel.old r hS) (hx.rel r hS) (((hm.rel r (cB w)).l (k:=l) (by rw[bz];exact Qa)).cI fun g hg=>Cv.false hg) hk hl;rw[<-Int.sub_eq_add_neg]at h;exact h
 rintro O _ _ _ OJ r he hw h_ hn;have hC:=hn.dA (S:=FF) r.cD (mN h_);obtain⟨C0,C1,C2,C3,rfl⟩:=hC.shape;exact rtn hw fun ρe we re=>hC.out re (cB w)
theorem JY{v:Value}{k l:Nat}(hS:Old S w)(hx:fS w S v k x)(hy:fS w S u l y)(hk:k<=10000000)(hl:l<=10000000):
  di PG N.tu #[v,u] w (dw w fun v' _=>v'= .int .i64 (x-y).sign):=by
 have hw:=bR w;replace hx:=hx.cI (S':=Cv S w.heap.size []) fun _ h=>.inl h;replace hy:=hy.cI (S':=Cv S w.heap.size []) fun _ h=>.inl h;obtain⟨b1,a1,n1,c1,rfl⟩:=hx.shape;obtain⟨b2,a2,n2,c2,rfl⟩:=hy.shape;refine xh (by simp) ?_;refine cC (cE hw (fun _ w' v w2=>dK w2 (Nf w' w2) v (x-y)) (fun O w' r=>Ds (Rel.old r hS) (hx.rel r hS) (hy.rel r hS) hk hl) ?_);rintro O _ _ _ OM r he hw h_ hn;have hd:=hn.dA (S:=FF) r.cD (mN h_);obtain⟨A0,A1,A2,A3,rfl⟩:=hd.shape;refine cC (cE hw (fun _ w' v w2=>v= .int .i64 (x-y).sign) (fun O w' r=>gY (Rel.old r (cB w)) (hd.rel r (cB w)).r) ?_);rintro O _ _ _ OJ r he hw h_ rfl;exact rtn hw fun ρe we re=>rfl
end Go.Ex
namespace Go.Ex
open Go Go.Sx Go.Proofs
variable{S:Nat->Prop}
theorem JZ{x y:Int}(hx: -65535<=x∧x<=65535)(hy: -65535<=y∧y<=65535):(x*y).natAbs<=4294836225:=by
 rw[Int.natAbs_mul];exact Nat.mul_le_mul (show x.natAbs<=65535 by omega) (show y.natAbs<=65535 by omega)
theorem Cg{a b:List Int}{i k:Nat}(hk:k<=i+1)(h:i<k∨a.length<=k):iU a b i k=gG a b i:=by
 rcases h with h|h
 ·rw[gG,show i+1=k by omega]
 ·obtain⟨m,hm⟩:∃m,i+1=k+m:=⟨i+1-k,by omega⟩
  rw[gG,hm,Gt a b i k m h]
theorem iG{w:World}{v u:Value}{k l:Nat}{x y:Int}(hS:Old S w)(hx:fS w S v k x)(hy:fS w S u l y)(hk:k<=10000000)(hl:l<=10000000):
  di PG N.zi #[v,u] w (dw w fun v' w2=>dK w2 (Nf w w2) v' (x*y)):=by
 have hw:=bR w;replace hx:=hx.cI (S':=Cv S w.heap.size []) fun _ h=>.inl h;replace hy:=hy.cI (S':=Cv S w.heap.size []) fun _ h=>.inl h;obtain⟨b1,a1,n1,c1,rfl⟩:=hx.shape;obtain⟨b2,a2,n2,c2,rfl⟩:=hy.shape;refine BC (by simp) ?_;refine cK hτ dZ [.x 0,.x 2,.x 1,.x 3,.x 4,.x 5] (by kernel_rfl) (by kernel_rfl) ?_;refine cE hw (fun _ w' v w2=>∃cs,du w2 (Nf w' w2) v cs∧BR cs (2*k) (x)) (fun O w' r=>rC (Rel.old r hS) (hx.rel r hS) (by omega)) ?_;rintro O _ _ _ OM r he hw h_ ⟨ca,k1,bca⟩;replace hy:=hy.cF r hS he (mC h_);have Oz:=k1.dA (S:=FF) r.cD (mN h_);obtain⟨aca,cca,rfl,lca⟩:=Oz.shape;refine cE hw (fun _ w' v w2=>∃cs,du w2 (Nf w' w2) v cs∧BR cs (2*l) (y)) (fun O w' r=>rC (Rel.old r hS) (hy.rel r hS) (by omega)) ?_;rintro O _ _ _ OJ r he hw h_ ⟨cb,k1,bcb⟩;replace Oz:=Oz.cF r (cB w) he (mC h_);have Pv:=k1.dA (S:=FF) r.cD (mN h_);obtain⟨acb,ccb,rfl,lcb⟩:=Pv.shape;have l1:=bca.2.1;have l2:=bcb.2.1
 refine⟨Nat×World,fun z=>⟨[(4,pP 2 0),(5,sV aca ca.length cca),(6,sV acb cb.length ccb),(7,.o (.w 3 z.1)),(8,iN z.1)],[(3,.vec T.int 1 (((List.range z.1).map (gG ca cb)).map (Value.int .i64))),(2,.box T.Int [.v (.bool false),.v (.slice none 0 0)])],4,OJ,z.2⟩,fun z=>ca.length+cb.length-z.1,
  fun z=>(z.1+1<=ca.length+cb.length∨z.1=0)∧dm w.heap.size w z.2∧du z.2 (Cf w OJ) (.slice aca ca.length cca) ca∧du z.2 (Cf w OJ) (.slice acb cb.length ccb) cb,?_,?_⟩
 ·intro O w' r
  exact⟨(0,w'),⟨by simp,hw.tr r.cP,Oz.rel r (cB w),Pv.rel r (cB w)⟩,Sub.nil 7 T.int 1 rfl (by simp[jX,SV.sc,At.sc,fT]) r fun ρ1 r1=>
   Sub.gn [] r1⟩
 rintro⟨i,w1⟩ ⟨hi,hw,Oz,Pv⟩;dsimp only at hi hw Oz Pv ⊢;refine⟨((i+1:Nat):Int),wo,((ca.length+cb.length:Nat):Int),wo,?_⟩;refine dM.mk ?_ ?_<;>intro OF
 ·have OF:i+1<ca.length+cb.length:=by
   have:=aI OF;omega
  refine⟨(i:Int)-cb.length,wo,(i:Int)-cb.length+1,wo,?_⟩;conv=>whnf
  rw[show max 0 ((i:Int)-cb.length+1)=((i+1-cb.length:Nat):Int) by omega];obtain⟨k0,Sr⟩:∃k0,k0=i+1-cb.length:=⟨_,rfl⟩
  rw[<-Sr]
  refine⟨Nat×World,fun z=>⟨[(4,pP 2 0),(5,sV aca ca.length cca),(6,sV acb cb.length ccb),(7,.o (.w 3 i)),(8,iN i),(9,.o (.v (.int .i64 (iU ca cb i z.1)))),(10,iN z.1)],[(3,.vec T.int 1 (((List.range i).map (gG ca cb)).map (Value.int .i64))),(2,.box T.Int [.v (.bool false),.v (.slice none 0 0)])],4,OJ,z.2⟩,fun z=>i+1-z.1,
   fun z=>k0<=z.1∧z.1<=i+1∧dm w.heap.size w z.2∧du z.2 (Cf w OJ) (.slice aca ca.length cca) ca∧du z.2 (Cf w OJ) (.slice acb cb.length ccb) cb,?_,?_⟩
  ·intro O w' r;refine⟨(k0,w'),⟨by simp,by dsimp only;omega,hw.tr r.cP,Oz.rel r (cB w),Pv.rel r (cB w)⟩,Sub.gn [] r (hE:=⟨rfl,rfl,rfl,rfl,rfl,?_,rfl,trivial⟩)⟩;dsimp only
   rw[Gs ca cb i k0 k0 (fun j hj=>by omega) (by omega) (aF _)];rfl
  rintro⟨j,w2⟩ ⟨Uv,hj1,hw,Oz,Pv⟩;dsimp only at Uv hj1 hw Oz Pv ⊢;conv=>whnf
  refine dM.mk ?_ ?_<;>intro Oy
  ·have Oy:j<=i:=by
    have:=aI Oy;omega
   refine dM.mk ?_ ?_<;>intro hja
   ·have hja:j<ca.length:=by
     have:=aI hja;omega
    obtain⟨p,hp⟩:∃p,ca[j]? =some p:=⟨_,aB hja⟩
    obtain⟨q,hq⟩:∃q,cb[i-j]? =some q:=⟨_,aB (by omega)⟩
    obtain⟨ad,rfl,q1,q2⟩:=Oz.load hp;obtain⟨ad2,rfl,q3,q4⟩:=Pv.load hq;have e1:ca.getD j 0=p:=by rw[List.getD,hp];rfl
    have e2:cb.getD (i-j) 0=q:=by rw[List.getD,hq];rfl
    have e3:iU ca cb i (j+1)=iU ca cb i j+p*q:=by rw[iU,e1,if_pos Oy,e2]
    have m1:=bca.at j;have m2:=bcb.at (i-j);rw[e1]at m1;rw[e2]at m2;have m3:=JZ m1 m2;have m4:=mU (a:=ca) (b:=cb) (i:=i) bca.2.2.1 bcb.2.2.1 j;refine cK hτ dZ [.x 0,.x 1,.x 2,.x 3,.x 4,.x 5,.x 6,.x 7,.x 8,.x 9,.x 10,.x 11,.x 12,.x 13] (by kernel_rfl) (by kernel_rfl) ?_;refine⟨ad,rfl,by omega,.int .i64 p,fun O w' r=>?_,?_⟩
    ·rw[aE,cG (w:=w2) (w2:=w') (by rw[dE];exact Rel.same (S:=FF) r (cB w) q1)];exact q2
    refine⟨((i-j:Nat):Int),wo,ad2,rfl,by omega,.int .i64 q,fun O w' r=>?_,?_⟩
    ·rw[aE,cG (w:=w2) (w2:=w') (by rw[dE];exact Rel.same (S:=FF) r (cB w) q3)];exact q4
    refine⟨p*q,wo,iU ca cb i (j+1),by rw[e3,wrap64]<;>omega,((j+1:Nat):Int),wo,?_⟩;intro ρ3 w3 r3;exact⟨(j+1,w3),⟨by dsimp only;omega,by dsimp only;omega,hw.tr r3.cP,Oz.rel r3 (cB w),Pv.rel r3 (cB w)⟩,Sub.gn [] r3,by dsimp only;omega⟩
   have hja:ca.length<=j:=by
    have:=aH hja;omega
   rw[Cg hj1 (.inr hja)];have m4:=mU (a:=ca) (b:=cb) (i:=i) bca.2.2.1 bcb.2.2.1 (i+1);refine .inl ?_;refine⟨by simp,by omega,by unfold maxLen;omega,((i+1:Nat):Int),wo,?_⟩;intro ρ3 w3 r3;have TJ:((List.range (i+1)).map (gG ca cb)).map (Value.int .i64)=((List.range i).map (gG ca cb)).map (Value.int .i64)++[.int .i64 (gG ca cb i)]:=by
    rw[bT,List.map_append,List.map_append];rfl
   exact⟨(i+1,w3),⟨.inl OF,hw.tr r3.cP,Oz.rel r3 (cB w),Pv.rel r3 (cB w)⟩,Sub.gn [(3,5)] r3 ⟨by dsimp only;rw[TJ];rfl,rfl,trivial⟩,by dsimp only;omega⟩
  have Oy:i<j:=by
   have:=aH Oy;omega
  rw[Cg hj1 (.inl Oy)];have m4:=mU (a:=ca) (b:=cb) (i:=i) bca.2.2.1 bcb.2.2.1 (i+1);refine .inl ?_;refine⟨by simp,by omega,by unfold maxLen;omega,((i+1:Nat):Int),wo,?_⟩;intro ρ3 w3 r3;have TJ:((List.range (i+1)).map (gG ca cb)).map (Value.int .i64)=((List.range i).map (gG ca cb)).map (Value.int .i64)++[.int .i64 (gG ca cb i)]:=by
   rw[bT,List.map_append,List.map_append];rfl
  exact⟨(i+1,w3),⟨.inl OF,hw.tr r3.cP,Oz.rel r3 (cB w),Pv.rel r3 (cB w)⟩,Sub.gn [(3,5)] r3 ⟨by dsimp only;rw[TJ];rfl,rfl,trivial⟩,by dsimp only;omega⟩
 have OF:ca.length+cb.length<=i+1:=by
  have:=aH OF;omega
 generalize Ov:((List.range i).map (gG ca cb))=cs;have hz:dQ cs=x*y:=by
  rw[<-Ov,z7,Kk ca cb i OF,bca.1,bcb.1]
 have hlen:i=cs.length:=by rw[<-Ov];simp
 have Oe:∀c∈cs,-1152921504606846976<=c∧c<=1152921504606846976:=fun c hc=>by
  rw[<-Ov]at hc;obtain⟨j,hj,rfl⟩:=aU.1 hc;have hj:=List.mem_range.1 hj;have:=mU (a:=ca) (b:=cb) (i:=j) bca.2.2.1 bcb.2.2.1 (j+1);rw[gG];omega
 refine cC (cE hw (fun _ w' v w2=>dK w2 (Nf w' w2) v (x*y)) (fun O w' r=>nF r rfl hlen (by omega) Oe hz) ?_);rintro O _ _ _ OP r he hw h_ hn;have hC:=hn.dA (S:=FF) r.cD (mN h_);obtain⟨A0,A1,A2,A3,rfl⟩:=hC.shape;exact rtn hw fun ρe we re=>hC.out re (cB w)
end Go.Ex
namespace Go.Ex
theorem I9{b r r2 q X n c:Int}(h:X=b*q+r)(hr:r*65536+c=b*n+r2):c+65536*X=b*(n+65536*q)+r2:=by
 rw[h,Int.mul_add,Int.mul_add,Int.mul_left_comm b 65536 q];omega
theorem Jw{x y Q R:Int}(hy:y≠0)(h:(x.natAbs:Int)=(y.natAbs:Int)*Q+R)(h0:0<=R)(h1:R<(y.natAbs:Int)):
  (if x<0∧0<R then(if (x<0)↔(y<0)then(Q+1)else -(Q+1))else(if (x<0)↔(y<0)then Q else -Q))=x / y∧(if x<0∧0<R then(y.natAbs:Int)-R else R)=x % y:=by
 have key:∀q r:Int,r+y*q=x->0<=r->r<(y.natAbs:Int)->q=x / y∧r=x % y:=by
  intro q r e1 e2 e3;have m:x % y=r:=by
   rw[<-e1,Int.add_mul_emod_self_left];rcases Int.lt_or_lt_of_ne hy with h|h
   ·rw[<-Int.emod_neg,Int.emod_eq_of_lt e2 (by omega)]
   ·exact Int.emod_eq_of_lt e2 (by omega)
  have d:=Int.mul_ediv_add_emod x y;rw[m]at d;exact⟨(Int.eq_of_mul_eq_mul_left hy (by omega)),m.symm⟩
 by_cases hx:x<0
 ·have ex:(x.natAbs:Int)= -x:=by omega
  by_cases hy':y<0
  ·have ey:(y.natAbs:Int)= -y:=by omega
   rw[ex,ey,Int.neg_mul]at h;by_cases hR:0<R
   ·rw[if_pos (show x<0∧0<R from⟨hx,hR⟩),if_pos (show x<0∧0<R from⟨hx,hR⟩),if_pos (show (x<0)↔(y<0) by simp[hx,hy'])];exact key _ _ (by rw[Int.mul_add,Int.mul_one];omega) (by omega) (by omega)
   ·rw[aL (show ¬(x<0∧0<R) by omega),aL (show ¬(x<0∧0<R) by omega),if_pos (show (x<0)↔(y<0) by simp[hx,hy'])];exact key _ _ (by omega) h0 h1
  ·have ey:(y.natAbs:Int)=y:=by omega
   rw[ex,ey]at h;have hn:¬((x<0)↔(y<0)):=by simp[hx,hy']
   by_cases hR:0<R
   ·rw[if_pos (show x<0∧0<R from⟨hx,hR⟩),if_pos (show x<0∧0<R from⟨hx,hR⟩),aL hn];exact key _ _ (by rw[Int.mul_neg,Int.mul_add,Int.mul_one];omega) (by omega) (by omega)
   ·rw[aL (show ¬(x<0∧0<R) by omega),aL (show ¬(x<0∧0<R) by omega),aL hn];exact key _ _ (by rw[Int.mul_neg];omega) h0 h1
 ·have ex:(x.natAbs:Int)=x:=by omega
  rw[aL (show ¬(x<0∧0<R) by omega),aL (show ¬(x<0∧0<R) by omega)];by_cases hy':y<0
  ·have ey:(y.natAbs:Int)= -y:=by omega
   rw[ex,ey,Int.neg_mul]at h;rw[aL (show ¬((x<0)↔(y<0)) by simp[hx,hy'])];exact key _ _ (by rw[Int.mul_neg];omega) h0 h1
  ·have ey:(y.natAbs:Int)=y:=by omega
   rw[ex,ey]at h;rw[if_pos (show (x<0)↔(y<0) by simp[hx,hy'])];exact key _ _ (by omega) h0 h1
theorem gD(z:Int):(z<0∧z.sign= -1)∨(z=0∧z.sign=0)∨(0<z∧z.sign=1):=by
 rcases Int.lt_trichotomy z 0 with h|h|h
 ·exact .inl ⟨h,bc h⟩
 ·exact .inr (.inl ⟨h,by rw[h];rfl⟩)
 ·exact .inr (.inr ⟨h,bh h⟩)
end Go.Ex
namespace Go.Ex
open Go Go.Sx Go.Proofs
variable{Q:List Int}{S:Nat->Prop}
def Ln:Value:=.agg #[.bool false,.slice none 0 0]
theorem dK.nil(w:World)(S:Nat->Prop):dK w S (.agg #[.bool false,.slice none 0 0]) 0:=⟨[],⟨_,rfl,dO.nil _ _⟩,fun x h=>by simp at h,rfl⟩
theorem aAp(h:∀c∈Q,0<=c∧c<=65535):0<=dQ Q:=by
 induction Q with
 |nil=>exact Int.le_refl _
 |cons c r ih=>
  have h1:=h c aG;have h2:=ih fun x hx=>h x (List.mem_cons_of_mem _ hx);rw[dQ];omega
theorem Ak{n:Int}(h:0<=n)(h2:n<4294967296):ln n.natAbs<=1:=gI.2 (by show n.natAbs<4294967296^1;omega)
theorem Ja{w:World}{v u:Value}{k l:Nat}{x y:Int}(hS:Old S w)(hx:fS w S v k x)(hy:fS w S u l y)(hk:k<=1000000)(hl:l<=1000000):
  di PG N.oQ #[v,u] w (dw w fun v' w2=>(y=0∧v'= .tuple #[Ln,Ln,.int .i64 9])∨(y≠0∧∃q r,v'= .tuple #[q,r,.int .i64 0]∧dK w2 (Nf w w2) q (x / y)∧dK w2 (Nf w w2) r (x % y))):=by
 have hw:=bR w;replace hx:=hx.cI (S':=Cv S w.heap.size []) fun _ h=>.inl h;replace hy:=hy.cI (S':=Cv S w.heap.size []) fun _ h=>.inl h;obtain⟨b1,a1,n1,c1,rfl⟩:=hx.shape;obtain⟨b2,a2,n2,c2,rfl⟩:=hy.shape;refine xl (by simp) ?_;have Qa:=hy.ln;refine cC (cE hw (fun _ w' v w2=>v= .int .i64 y.sign) (fun O w' r=>gY (Rel.old r hS) (hy.rel r hS).r) ?_);rintro O _ _ _ OM r he hw h_ rfl;replace hx:=hx.cF r hS he (mC h_);replace hy:=hy.cF r hS he (mC h_);refine dM.mk ?_ ?_<;>intro Pp
 ·have Pp:y=0:=by rcases gD y with h|h|h<;>simp[h]at Pp ⊢
  exact rtn hw fun ρe we re=>.inl ⟨Pp,rfl⟩
 have Pp:y≠0:=fun e=>by rw[e]at Pp;simp at Pp
 refine cK hτ dZ [.x 0,.x 3,.p 5,.x 1,.x 2,.x 4,.x 5,.x 6,.x 7] (by kernel_rfl) (by kernel_rfl) ?_;refine cE hw (fun _ w' v w2=>dK w2 (Nf w' w2) v ((x.natAbs:Int))) (fun O w' r=>yR (Rel.old r hS) (hx.rel r hS) (by omega)) ?_;rintro O _ _ _ OJ r he hw h_ hn;replace hx:=hx.cF r hS he (mC h_);replace hy:=hy.cF r hS he (mC h_);have hsx:=hn.dA (S:=FF) r.cD (mN h_);obtain⟨A0,A1,A2,A3,rfl⟩:=hsx.shape;have Oj:=hx.ln;refine cE hw (fun _ w' v w2=>∃cs,du w2 (Nf w' w2) v cs∧BR cs (2*k) ((x.natAbs:Int))) (fun O w' r=>rC (Rel.old r (cB w)) ((hsx.rel r (cB w)).l (k:=k) (by rw[Int.natAbs_natCast];exact Oj)) (by omega)) ?_;rintro O _ _ _ OP r he hw h_ ⟨ca,k1,bca⟩;replace hx:=hx.cF r hS he (mC h_);replace hy:=hy.cF r hS he (mC h_);have Oz:=k1.dA (S:=FF) r.cD (mN h_);obtain⟨aca,cca,rfl,lca⟩:=Oz.shape;refine cE hw (fun _ w' v w2=>dK w2 (Nf w' w2) v ((y.natAbs:Int))) (fun O w' r=>yR (Rel.old r hS) (hy.rel r hS) (by omega)) ?_;rintro O _ _ _ OR r he hw h_ hn;replace hx:=hx.cF r hS he (mC h_);replace hy:=hy.cF r hS he (mC h_);replace Oz:=Oz.cF r (cB w) he (mC h_);have OT:=hn.dA (S:=FF) r.cD (mN h_);obtain⟨C0,C1,C2,C3,rfl⟩:=OT.shape;generalize hB:(y.natAbs:Int)=B at*
 have l1:=bca.2.1;have hB0:0<B:=by omega
 have lB:ln B.natAbs<=l:=by rw[<-hB,Int.natAbs_natCast];exact Qa
 refine⟨(ca.length:Int)-1,wo,Nat×List Int×Int×(Bool×Option Addr×Nat×Nat)×World×Iv,fun z=>⟨[(2,pP 0 0),(3,pP 1 0),(4,pP 2 0),(5,pP 3 0),(6,iZ 0),(7,sV aca ca.length cca),(8,pP 4 0),(9,.o (.w 6 z.2.1.length)),(10,pP 5 0),(11,.o (.v (.int .i64 ((z.1:Int)-1))))],[(6,.vec T.int 1 (z.2.1.map (Value.int .i64))),(5,.box T.Int [.v (.bool z.2.2.2.1.1),.v (.slice z.2.2.2.1.2.1 z.2.2.2.1.2.2.1 z.2.2.2.1.2.2.2)]),(4,.box T.Int [.v (.bool C0),.v (.slice C1 C2 C3)]),(3,.box T.Int [.v (.bool false),.v (.slice none 0 0)]),(2,.box T.Int [.v (.bool false),.v (.slice none 0 0)]),(1,.box T.Int [.v (.bool b2),.v (.slice a2 n2 c2)]),(0,.box T.Int [.v (.bool b1),.v (.slice a1 n1 c1)])],7,z.2.2.2.2.2,z.2.2.2.2.1⟩,fun z=>z.1,
  fun z=>z.1<=ca.length∧z.2.1.length+z.1=ca.length∧(∀c∈z.2.1,0<=c∧c<=65535)∧dQ (ca.drop z.1)=B*dQ z.2.1+z.2.2.1∧0<=z.2.2.1∧z.2.2.1<B∧dm w.heap.size w z.2.2.2.2.1∧fS z.2.2.2.2.1 (Cv S w.heap.size z.2.2.2.2.2) (.agg #[.bool b1,.slice a1 n1 c1]) k x∧fS z.2.2.2.2.1 (Cv S w.heap.size z.2.2.2.2.2) (.agg #[.bool b2,.slice a2 n2 c2]) l y∧du z.2.2.2.2.1 (Cf w z.2.2.2.2.2) (.slice aca ca.length cca) ca∧dK z.2.2.2.2.1 (Cf w z.2.2.2.2.2) (.agg #[.bool C0,.slice C1 C2 C3]) B∧dK z.2.2.2.2.1 (Cf w z.2.2.2.2.2) (.agg #[.bool z.2.2.2.1.1,.slice z.2.2.2.1.2.1 z.2.2.2.1.2.2.1 z.2.2.2.1.2.2.2]) z.2.2.1,?_,?_⟩
 ·intro O w' r
  exact⟨(ca.length,[],0,(false,none,0,0),w',OR),⟨aF _,by simp,by simp,by simp[dQ],Int.le_refl _,hB0,hw.tr r.cP,hx.rel r hS,hy.rel r hS,Oz.rel r (cB w),OT.rel r (cB w),dK.nil _ _⟩,Sub.nil 9 T.int 1 rfl (by simp[jX,SV.sc,At.sc]) r fun ρ1 r1=>
   Sub.gn [] r1⟩
 rintro⟨j,Q,R,⟨br,ar,nr,cr⟩,w1,iv⟩ ⟨hj,hQ,hd,hv,hR0,hR1,hw,hx,hy,Oz,OT,hr⟩;dsimp only at hj hQ hd hv hR0 hR1 hw hx hy Oz OT hr ⊢;refine dM.mk ?_ ?_<;>intro OF
 ·obtain⟨i,rfl⟩:∃i,j=i+1:=⟨j-1,by have:(j:Int)-1≥0:=aI OF;omega⟩
  rw[show ((i+1:Nat):Int)-1=(i:Int) by omega];obtain⟨d,RT⟩:∃d,ca[i]? =some d:=⟨_,aB (by omega)⟩
  have WO:=bca.2.2.1 d (aC RT);have PD:=bca.2.2.2 (by omega) d (aC RT);have lR:ln R.natAbs<=l:=aZ (fI (by omega)) lB;have lU:ln (65536:Int).natAbs<=1:=by decide
  have m1:=cZ R 65536;have m2:=Ak (n:=d) PD (by omega);have m3:=ij (R*65536) d;refine cK hτ dZ [.x 0,.x 3,.x 4,.x 5,.x 6,.x 1,.x 2,.x 7,.x 8,.x 9] (by kernel_rfl) (by kernel_rfl) ?_;obtain⟨ad,ha0,q1,q2⟩:=Oz.load RT;refine⟨ad,ha0,by omega,.int .i64 d,fun O w' r=>?_,?_⟩
  ·rw[aE,cG (w:=w1) (w2:=w') (by rw[dE];exact Rel.same (S:=FF) r (cB w) q1)];exact q2
  refine cE hw (fun _ w' v w2=>dK w2 (Nf w' w2) v (65536)) (fun O w' r=>ku _ w' (by decide) (by decide)) ?_;rintro O RL v5 RI Ou r he hw h_ hn;replace hx:=hx.cF r hS he (mC h_);replace hy:=hy.cF r hS he (mC h_);replace Oz:=Oz.cF r (cB w) he (mC h_);replace OT:=OT.cF r (cB w) he (mC h_);replace hr:=hr.cF r (cB w) he (mC h_);have hu:=hn.dA (S:=FF) r.cD (mN h_);obtain⟨E0,E1,E2,E3,rfl⟩:=hu.shape;refine cE hw (fun _ w' v w2=>dK w2 (Nf w' w2) v (R*65536)) (fun O w' r=>iG (Rel.old r (cB w)) ((hr.rel r (cB w)).l (k:=1000001) (by omega)) ((hu.rel r (cB w)).l (k:=1000001) (by omega)) (by omega) (by omega)) ?_;rintro O Qx v6 RA Q7 r he hw h_ hn;replace hx:=hx.cF r hS he (mC h_);replace hy:=hy.cF r hS he (mC h_);replace Oz:=Oz.cF r (cB w) he (mC h_);replace OT:=OT.cF r (cB w) he (mC h_);have hp:=hn.dA (S:=FF) r.cD (mN h_);obtain⟨F0,F1,F2,F3,rfl⟩:=hp.shape;refine cE hw (fun _ w' v w2=>dK w2 (Nf w' w2) v (d)) (fun O w' r=>ku _ w' (by omega) (by omega)) ?_;rintro O Vl v7 Vm R4 r he hw h_ hn;replace hx:=hx.cF r hS he (mC h_);replace hy:=hy.cF r hS he (mC h_);replace Oz:=Oz.cF r (cB w) he (mC h_);replace OT:=OT.cF r (cB w) he (mC h_);replace hp:=hp.cF r (cB w) he (mC h_);have hdd:=hn.dA (S:=FF) r.cD (mN h_);obtain⟨G0,G1,G2,G3,rfl⟩:=hdd.shape;refine cE hw (fun _ w' v w2=>dK w2 (Nf w' w2) v (R*65536+d)) (fun O w' r=>Aj (Rel.old r (cB w)) ((hp.rel r (cB w)).l (k:=1000002) (by omega)) ((hdd.rel r (cB w)).l (k:=1000002) (by omega)) (by omega) (by omega)) ?_;rintro O R7 v8 RN QZ r he hw h_ hn;replace hx:=hx.cF r hS he (mC h_);replace hy:=hy.cF r hS he (mC h_);replace Oz:=Oz.cF r (cB w) he (mC h_);replace OT:=OT.cF r (cB w) he (mC h_);have hr:=hn.dA (S:=FF) r.cD (mN h_);obtain⟨J0,J1,J2,J3,rfl⟩:=hr.shape;generalize Qh:R*65536+d=R2 at*
  have hR20:0<=R2:=by omega
  have hR21:R2<65536*B:=by omega
  refine⟨Nat×Nat×Nat×World×Iv,fun z=>⟨[(2,pP 0 0),(3,pP 1 0),(4,pP 2 0),(5,pP 3 0),(6,iZ 0),(7,sV aca ca.length cca),(8,pP 4 0),(9,.o (.w 6 Q.length)),(10,pP 5 0),(11,.o (.v (.int .i64 ((i:Int))))),(12,iN z.1),(13,iN z.2.2.1)],[(6,.vec T.int 1 (Q.map (Value.int .i64))),(5,.box T.Int [.v (.bool J0),.v (.slice J1 J2 J3)]),(4,.box T.Int [.v (.bool C0),.v (.slice C1 C2 C3)]),(3,.box T.Int [.v (.bool false),.v (.slice none 0 0)]),(2,.box T.Int [.v (.bool false),.v (.slice none 0 0)]),(1,.box T.Int [.v (.bool b2),.v (.slice a2 n2 c2)]),(0,.box T.Int [.v (.bool b1),.v (.slice a1 n1 c1)])],7,z.2.2.2.2,z.2.2.2.1⟩,fun z=>z.2.1,
   fun z=>z.2.2.1=2^z.2.1 / 2∧z.1+2^z.2.1<=65536∧((z.1:Nat):Int)*B<=R2∧R2<((z.1+2^z.2.1:Nat):Int)*B∧dm w.heap.size w z.2.2.2.1∧fS z.2.2.2.1 (Cv S w.heap.size z.2.2.2.2) (.agg #[.bool b1,.slice a1 n1 c1]) k x∧fS z.2.2.2.1 (Cv S w.heap.size z.2.2.2.2) (.agg #[.bool b2,.slice a2 n2 c2]) l y∧du z.2.2.2.1 (Cf w z.2.2.2.2) (.slice aca ca.length cca) ca∧dK z.2.2.2.1 (Cf w z.2.2.2.2) (.agg #[.bool C0,.slice C1 C2 C3]) B∧dK z.2.2.2.1 (Cf w z.2.2.2.2) (.agg #[.bool J0,.slice J1 J2 J3]) R2,?_,?_⟩
  ·intro O w' r
   exact⟨(0,16,32768,w',QZ),⟨by show 32768=2^16 / 2;decide,by show 0+2^16<=65536;decide,by dsimp only;omega,by dsimp only;rw[show ((0+2^16:Nat):Int)=65536 from rfl];exact hR21,hw.tr r.cP,hx.rel r hS,hy.rel r hS,Oz.rel r (cB w),OT.rel r (cB w),hr.rel r (cB w)⟩,
    Sub.gn [] r⟩
  rintro⟨n,e,bit,w5,iv⟩ ⟨hn0,hn1,RY,VK,hw,hx,hy,Oz,OT,hr⟩;dsimp only at hn0 hn1 RY VK hw hx hy Oz OT hr ⊢;refine dM.mk ?_ ?_<;>intro Ts
  ·have Ts:0<2^e / 2:=by have:((bit:Nat):Int)>0:=aI Ts;omega
   obtain⟨f,rfl⟩:∃f,e=f+1:=by
    cases e with
    |zero=>exact absurd Ts (by decide)
    |succ f=>exact⟨f,rfl⟩
   have e1:2^(f+1)=2*2^f:=by rw[Nat.pow_succ];omega
   have e2:2^(f+1) / 2=2^f:=by omega
   obtain rfl:bit=2^f:=by omega
   rw[e1]at hn1 VK;have WK:=bl f;generalize hp:2^f=p at*
   have m4:=Ak (n:=((n+p:Nat):Int)) (by omega) (by omega);have m5:=cZ B ((n+p:Nat):Int);have m6:ln R2.natAbs<=l+1:=by
    refine aZ (fI (b:=((65536:Int)*B).natAbs) (by omega)) ?_;have:=cZ 65536 B;omega
   refine cK hτ dZ [.x 0,.x 1,.x 2,.x 3,.x 6,.x 4,.x 5,.x 7,.x 8] (by kernel_rfl) (by kernel_rfl) ?_;refine⟨((n+p:Nat):Int),wo,?_⟩;refine cE hw (fun _ w' v w2=>dK w2 (Nf w' w2) v (((n+p:Nat):Int))) (fun O w' r=>ku _ w' (by omega) (by omega)) ?_;rintro O Q1 v9 QU Qn r he hw h_ hn;replace hx:=hx.cF r hS he (mC h_);replace hy:=hy.cF r hS he (mC h_);replace Oz:=Oz.cF r (cB w) he (mC h_);replace OT:=OT.cF r (cB w) he (mC h_);replace hr:=hr.cF r (cB w) he (mC h_);have hu:=hn.dA (S:=FF) r.cD (mN h_);obtain⟨K0,K1,K2,K3,rfl⟩:=hu.shape;refine cE hw (fun _ w' v w2=>dK w2 (Nf w' w2) v (B*((n+p:Nat):Int))) (fun O w' r=>iG (Rel.old r (cB w)) ((OT.rel r (cB w)).l (k:=1000001) (by omega)) ((hu.rel r (cB w)).l (k:=1000001) (by omega)) (by omega) (by omega)) ?_;rintro O QS v10 QT Qi r he hw h_ hn;replace hx:=hx.cF r hS he (mC h_);replace hy:=hy.cF r hS he (mC h_);replace Oz:=Oz.cF r (cB w) he (mC h_);replace OT:=OT.cF r (cB w) he (mC h_);replace hr:=hr.cF r (cB w) he (mC h_);have QF:=hn.dA (S:=FF) r.cD (mN h_);obtain⟨N0,N1,N2,N3,rfl⟩:=QF.shape;refine cE hw (fun _ w' v w2=>v= .int .i64 (B*((n+p:Nat):Int)-R2).sign) (fun O w' r=>JY (Rel.old r (cB w)) ((QF.rel r (cB w)).l (k:=1000001) (by omega)) ((hr.rel r (cB w)).l (k:=1000001) (by omega)) (by omega) (by omega)) ?_;rintro O RO v11 R8 QV r he hw h_ rfl;replace hx:=hx.cF r hS he (mC h_);replace hy:=hy.cF r hS he (mC h_);replace Oz:=Oz.cF r (cB w) he (mC h_);replace OT:=OT.cF r (cB w) he (mC h_);replace hr:=hr.cF r (cB w) he (mC h_);have hs:=gD (B*((n+p:Nat):Int)-R2);refine dM.mk ?_ ?_<;>intro hle
   ·have hle:=aI hle;have Uo:((n+p:Nat):Int)*B<=R2:=by rw[Int.mul_comm];omega
    refine⟨((n+p:Nat):Int),wo,by decide,((2^f / 2:Nat):Int),by rw[hp,show((p:Nat):Int).tdiv 2=((p / 2:Nat):Int)from rfl,wrap64]<;>omega,?_⟩;intro ρ3 w3 r3;exact⟨(n+p,f,2^f / 2,w3,_),⟨rfl,by dsimp only;omega,Uo,by dsimp only;rw[hp,show n+p+p=n+2*p by omega];exact VK,hw.tr r3.cP,hx.rel r3 hS,hy.rel r3 hS,Oz.rel r3 (cB w),OT.rel r3 (cB w),hr.rel r3 (cB w)⟩,Sub.gn [] r3,by dsimp only;omega⟩
   have hle:=aH hle;have Uo:R2<((n+p:Nat):Int)*B:=by rw[Int.mul_comm];omega
   refine⟨by decide,((2^f / 2:Nat):Int),by rw[hp,show((p:Nat):Int).tdiv 2=((p / 2:Nat):Int)from rfl,wrap64]<;>omega,?_⟩;intro ρ3 w3 r3;exact⟨(n,f,2^f / 2,w3,_),⟨rfl,by dsimp only;omega,RY,by dsimp only;rw[hp];exact Uo,hw.tr r3.cP,hx.rel r3 hS,hy.rel r3 hS,Oz.rel r3 (cB w),OT.rel r3 (cB w),hr.rel r3 (cB w)⟩,Sub.gn [] r3,by dsimp only;omega⟩
  have Ts:¬0<2^e / 2:=by have:¬((bit:Nat):Int)>0:=aH Ts;omega
  obtain rfl:e=0:=by
   cases e with
   |zero=>rfl
   |succ f=>exact absurd (show 0<2^(f+1) / 2 by rw[Nat.pow_succ];have:=bl f;omega) Ts
  rw[show n+2^0=n+1 from rfl]at hn1 VK;rw[Int.natCast_add,Int.add_mul]at VK;rw[Int.mul_comm]at RY;rw[Int.mul_comm]at VK;have m4:=Ak (n:=((n:Nat):Int)) (by omega) (by omega);have m5:=cZ B ((n:Nat):Int);have m6:ln R2.natAbs<=l+1:=by
   refine aZ (fI (b:=((65536:Int)*B).natAbs) (by omega)) ?_;have:=cZ 65536 B;omega
  refine cK hτ dZ [.x 0,.x 1,.x 2,.x 3,.x 4,.x 5,.x 6] (by kernel_rfl) (by kernel_rfl) ?_;refine cE hw (fun _ w' v w2=>dK w2 (Nf w' w2) v (((n:Nat):Int))) (fun O w' r=>ku _ w' (by omega) (by omega)) ?_;rintro O Q1 v9 QU Qn r he hw h_ hn;replace hx:=hx.cF r hS he (mC h_);replace hy:=hy.cF r hS he (mC h_);replace Oz:=Oz.cF r (cB w) he (mC h_);replace OT:=OT.cF r (cB w) he (mC h_);replace hr:=hr.cF r (cB w) he (mC h_);have hu:=hn.dA (S:=FF) r.cD (mN h_);obtain⟨K0,K1,K2,K3,rfl⟩:=hu.shape;refine cE hw (fun _ w' v w2=>dK w2 (Nf w' w2) v (B*((n:Nat):Int))) (fun O w' r=>iG (Rel.old r (cB w)) ((OT.rel r (cB w)).l (k:=1000001) (by omega)) ((hu.rel r (cB w)).l (k:=1000001) (by omega)) (by omega) (by omega)) ?_;rintro O QS v10 QT Qi r he hw h_ hn;replace hx:=hx.cF r hS he (mC h_);replace hy:=hy.cF r hS he (mC h_);replace Oz:=Oz.cF r (cB w) he (mC h_);replace OT:=OT.cF r (cB w) he (mC h_);replace hr:=hr.cF r (cB w) he (mC h_);have QF:=hn.dA (S:=FF) r.cD (mN h_);obtain⟨N0,N1,N2,N3,rfl⟩:=QF.shape;refine cE hw (fun _ w' v w2=>dK w2 (Nf w' w2) v (R2-B*((n:Nat):Int))) (fun O w' r=>Ds (Rel.old r (cB w)) ((hr.rel r (cB w)).l (k:=1000002) (by omega)) ((QF.rel r (cB w)).l (k:=1000002) (by omega)) (by omega) (by omega)) ?_;rintro O RO v11 R8 QV r he hw h_ hn;replace hx:=hx.cF r hS he (mC h_);replace hy:=hy.cF r hS he (mC h_);replace Oz:=Oz.cF r (cB w) he (mC h_);replace OT:=OT.cF r (cB w) he (mC h_);have hr3:=hn.dA (S:=FF) r.cD (mN h_);obtain⟨O0,O1,O2,O3,rfl⟩:=hr3.shape;generalize hR3:R2-B*((n:Nat):Int)=R3 at*
  refine .inl ?_;refine⟨by rw[aJ,aT],fun u hu=>by obtain⟨_,_,rfl⟩:=aU.1 hu;rfl,rfl,by omega,by unfold maxLen;omega,(i:Int)-1,wo,?_⟩;intro ρ3 w3 r3;have RR:dQ (ca.drop i)=B*dQ (((n:Nat):Int)::Q)+R3:=by
   rw[FC RT,dQ];exact I9 hv (by rw[<-hR3,<-Qh];omega)
  exact⟨(i,((n:Nat):Int)::Q,R3,(O0,O1,O2,O3),w3,_),⟨by dsimp only;omega,by dsimp only;rw[List.length_cons];omega,fun c hc=>by
    rcases List.mem_cons.1 hc with rfl|hc
    ·omega
    ·exact hd c hc,RR,by dsimp only;omega,by dsimp only;omega,hw.tr r3.cP,hx.rel r3 hS,hy.rel r3 hS,Oz.rel r3 (cB w),OT.rel r3 (cB w),hr3.rel r3 (cB w)⟩,
   Sub.gn [(6,8)] r3 (hE:=⟨rfl,rfl,rfl,rfl,rfl,rfl,rfl,by dsimp only;rw[show (((n:Nat):Int)::Q).length=1+Q.length by rw[List.length_cons,Nat.add_comm]];rfl,rfl,rfl,trivial⟩),by dsimp only;omega⟩
 obtain rfl:j=0:=by have:¬(j:Int)-1≥0:=aH OF;omega
 rw[List.drop_zero,bca.1]at hv;rw[<-hB]at hv hR1;have key:=Jw Pp hv hR0 hR1;rw[hB]at key hv hR1;have lq:ln (dQ Q).natAbs<=k+1:=by
  have h1:=aAp hd;have h2:1*dQ Q<=B*dQ Q:=Int.mul_le_mul_of_nonneg_right (by omega) h1;exact aZ (fI (b:=x.natAbs) (by omega)) (by omega)
 have lR:ln R.natAbs<=l:=aZ (fI (by omega)) lB;have sx:=gD x;have sy:=gD y;have sr:=gD R;refine cC (cE hw (fun _ w' v w2=>dK w2 (Nf w' w2) v (dQ Q)) (fun O w' r=>nF r rfl rfl (by omega) (fun c hc=>by have:=hd c hc;omega) rfl) ?_);rintro O _ _ _ Ou r he hw h_ hn;replace hx:=hx.cF r hS he (mC h_);replace hy:=hy.cF r hS he (mC h_);replace OT:=OT.cF r (cB w) he (mC h_);replace hr:=hr.cF r (cB w) he (mC h_);have hq:=hn.dA (S:=FF) r.cD (mN h_);obtain⟨E0,E1,E2,E3,rfl⟩:=hq.shape;refine cC (cE hw (fun _ w' v w2=>v= .int .i64 x.sign) (fun O w' r=>gY (Rel.old r hS) (hx.rel r hS).r) ?_);rintro O _ _ _ Q7 r he hw h_ rfl;replace hx:=hx.cF r hS he (mC h_);replace hy:=hy.cF r hS he (mC h_);replace OT:=OT.cF r (cB w) he (mC h_);replace hr:=hr.cF r (cB w) he (mC h_);replace hq:=hq.cF r (cB w) he (mC h_);refine dM.mk ?_ ?_<;>intro hxs
 ·have hxs:=aI hxs;refine cC (cE hw (fun _ w' v w2=>v= .int .i64 R.sign) (fun O w' r=>gY (Rel.old r (cB w)) (hr.rel r (cB w)).r) ?_);rintro O Vl v7 Vm R4 r he hw h_ rfl;replace hx:=hx.cF r hS he (mC h_);replace hy:=hy.cF r hS he (mC h_);replace OT:=OT.cF r (cB w) he (mC h_);replace hr:=hr.cF r (cB w) he (mC h_);replace hq:=hq.cF r (cB w) he (mC h_);refine dM.mk ?_ ?_<;>intro VO
  ·have VO:=aI VO;rw[if_pos (show x<0∧0<R by omega),if_pos (show x<0∧0<R by omega)]at key;have m7:=ij (dQ Q) 1;have m8:ln (1:Int).natAbs<=1:=by decide
   have m9:ln (B-R).natAbs<=l:=aZ (fI (by omega)) lB;refine cK hτ dZ [.x 0,.x 3,.x 4,.x 1,.x 2,.x 5,.x 6,.x 7] (by kernel_rfl) (by kernel_rfl) ?_;refine cE hw (fun _ w' v w2=>dK w2 (Nf w' w2) v (1)) (fun O w' r=>ku _ w' (by omega) (by omega)) ?_;rintro O R7 v8 RN QZ r he hw h_ hn;replace hx:=hx.cF r hS he (mC h_);replace hy:=hy.cF r hS he (mC h_);replace OT:=OT.cF r (cB w) he (mC h_);replace hr:=hr.cF r (cB w) he (mC h_);replace hq:=hq.cF r (cB w) he (mC h_);have hu:=hn.dA (S:=FF) r.cD (mN h_);obtain⟨J0,J1,J2,J3,rfl⟩:=hu.shape;refine cE hw (fun _ w' v w2=>dK w2 (Nf w' w2) v (dQ Q+1)) (fun O w' r=>Aj (Rel.old r (cB w)) ((hq.rel r (cB w)).l (k:=1000003) (by omega)) ((hu.rel r (cB w)).l (k:=1000003) (by omega)) (by omega) (by omega)) ?_;rintro O Q1 v9 QU Qn r he hw h_ hn;replace hx:=hx.cF r hS he (mC h_);replace hy:=hy.cF r hS he (mC h_);replace OT:=OT.cF r (cB w) he (mC h_);replace hr:=hr.cF r (cB w) he (mC h_);have QL:=hn.dA (S:=FF) r.cD (mN h_);obtain⟨K0,K1,K2,K3,rfl⟩:=QL.shape;refine cE hw (fun _ w' v w2=>dK w2 (Nf w' w2) v (B-R)) (fun O w' r=>Ds (Rel.old r (cB w)) ((OT.rel r (cB w)).l (k:=1000003) (by omega)) ((hr.rel r (cB w)).l (k:=1000003) (by omega)) (by omega) (by omega)) ?_;rintro O QS v10 QT Qi r he hw h_ hn;replace hx:=hx.cF r hS he (mC h_);replace hy:=hy.cF r hS he (mC h_);replace QL:=QL.cF r (cB w) he (mC h_);have SL:=hn.dA (S:=FF) r.cD (mN h_);obtain⟨N0,N1,N2,N3,rfl⟩:=SL.shape;refine cK hτ dZ [.x 0,.x 3,.x 1,.x 2,.x 4,.x 5,.x 6] (by kernel_rfl) (by kernel_rfl) ?_;refine cE hw (fun _ w' v w2=>v= .int .i64 x.sign) (fun O w' r=>gY (Rel.old r hS) (hx.rel r hS).r) ?_;rintro O _ _ _ QV r he hw h_ rfl;replace hy:=hy.cF r hS he (mC h_);replace QL:=QL.cF r (cB w) he (mC h_);replace SL:=SL.cF r (cB w) he (mC h_);refine cE hw (fun _ w' v w2=>v= .int .i64 y.sign) (fun O w' r=>gY (Rel.old r hS) (hy.rel r hS).r) ?_;rintro O _ _ _ iv12 r he hw h_ rfl;replace QL:=QL.cF r (cB w) he (mC h_);replace SL:=SL.cF r (cB w) he (mC h_);refine dM.mk ?_ ?_<;>intro OH
   ·have hn:¬((x<0)↔(y<0)):=fun e=>by
     have e2:decide (x.sign<0)=decide (y.sign<0):=decide_eq_decide.2 (by omega);rw[e2]at OH;simp at OH
    rw[aL hn]at key;refine cC (cE hw (fun _ w' v w2=>dK w2 (Nf w' w2) v (-(dQ Q+1))) (fun O w' r=>mG (Rel.old r (cB w)) ((QL.rel r (cB w)).l (k:=1000003) (by omega)) (by omega)) ?_);rintro O _ _ _ iv13 r he hw h_ hn;replace SL:=SL.cF r (cB w) he (mC h_);have S2:=hn.dA (S:=FF) r.cD (mN h_);obtain⟨P0,P1,P2,P3,rfl⟩:=S2.shape;refine iY hτ dZ (.two 0 (.two 1 (.one 2 (.one 3 (.one 4 .nil))) 2 (.one 1 (.one 3 (.one 4 .nil)))) 1 (.one 0 (.one 2 (.one 3 (.one 4 .nil))))) (by kernel_rfl) ?_;refine⟨?_,?_⟩
    ·refine⟨?_,?_⟩
     ·exact rtn hw fun ρe we re=>.inr ⟨Pp,_,_,rfl,key.1▸S2.out re (cB w),key.2▸SL.out re (cB w)⟩
     ·exact rtn hw fun ρe we re=>.inr ⟨Pp,_,_,rfl,key.1▸S2.out re (cB w),key.2▸SL.out re (cB w)⟩
    ·exact rtn hw fun ρe we re=>.inr ⟨Pp,_,_,rfl,key.1▸S2.out re (cB w),key.2▸SL.out re (cB w)⟩
   have hn:(x<0)↔(y<0):=by
    have e2:decide (x.sign<0)=decide (y.sign<0):=by simpa using OH
    have:=decide_eq_decide.1 e2;omega
   rw[if_pos hn]at key;refine iY hτ dZ (.two 0 (.two 1 (.one 2 (.one 3 (.one 4 .nil))) 2 (.one 1 (.one 3 (.one 4 .nil)))) 1 (.one 0 (.one 2 (.one 3 (.one 4 .nil))))) (by kernel_rfl) ?_;refine⟨?_,?_⟩
   ·refine⟨?_,?_⟩
    ·exact rtn hw fun ρe we re=>.inr ⟨Pp,_,_,rfl,key.1▸QL.out re (cB w),key.2▸SL.out re (cB w)⟩
    ·exact rtn hw fun ρe we re=>.inr ⟨Pp,_,_,rfl,key.1▸QL.out re (cB w),key.2▸SL.out re (cB w)⟩
   ·exact rtn hw fun ρe we re=>.inr ⟨Pp,_,_,rfl,key.1▸QL.out re (cB w),key.2▸SL.out re (cB w)⟩
  have VO:=aH VO;rw[aL (show ¬(x<0∧0<R) by omega),aL (show ¬(x<0∧0<R) by omega)]at key;refine cK hτ dZ [.x 0,.x 3,.x 1,.x 2,.x 4,.x 5,.x 6] (by kernel_rfl) (by kernel_rfl) ?_;refine cE hw (fun _ w' v w2=>v= .int .i64 x.sign) (fun O w' r=>gY (Rel.old r hS) (hx.rel r hS).r) ?_;rintro O R7 v8 RN QZ r he hw h_ rfl;replace hy:=hy.cF r hS he (mC h_);replace OT:=OT.cF r (cB w) he (mC h_);replace hr:=hr.cF r (cB w) he (mC h_);replace hq:=hq.cF r (cB w) he (mC h_);refine cE hw (fun _ w' v w2=>v= .int .i64 y.sign) (fun O w' r=>gY (Rel.old r hS) (hy.rel r hS).r) ?_;rintro O Q1 v9 QU Qn r he hw h_ rfl;replace OT:=OT.cF r (cB w) he (mC h_);replace hr:=hr.cF r (cB w) he (mC h_);replace hq:=hq.cF r (cB w) he (mC h_);refine dM.mk ?_ ?_<;>intro OH
  ·have hn:¬((x<0)↔(y<0)):=fun e=>by
    have e2:decide (x.sign<0)=decide (y.sign<0):=decide_eq_decide.2 (by omega);rw[e2]at OH;simp at OH
   rw[aL hn]at key;refine cC (cE hw (fun _ w' v w2=>dK w2 (Nf w' w2) v (-(dQ Q))) (fun O w' r=>mG (Rel.old r (cB w)) ((hq.rel r (cB w)).l (k:=1000003) (by omega)) (by omega)) ?_);rintro O _ _ _ Qi r he hw h_ hn;replace OT:=OT.cF r (cB w) he (mC h_);replace hr:=hr.cF r (cB w) he (mC h_);have S2:=hn.dA (S:=FF) r.cD (mN h_);obtain⟨N0,N1,N2,N3,rfl⟩:=S2.shape;refine iY hτ dZ (.two 0 (.two 1 (.one 2 (.one 3 (.one 4 .nil))) 2 (.one 1 (.one 3 (.one 4 .nil)))) 1 (.one 0 (.one 2 (.one 3 (.one 4 .nil))))) (by kernel_rfl) ?_;refine⟨?_,?_⟩
   ·refine⟨?_,?_⟩
    ·exact rtn hw fun ρe we re=>.inr ⟨Pp,_,_,rfl,key.1▸S2.out re (cB w),key.2▸hr.out re (cB w)⟩
    ·exact rtn hw fun ρe we re=>.inr ⟨Pp,_,_,rfl,key.1▸S2.out re (cB w),key.2▸hr.out re (cB w)⟩
   ·exact rtn hw fun ρe we re=>.inr ⟨Pp,_,_,rfl,key.1▸S2.out re (cB w),key.2▸hr.out re (cB w)⟩
  have hn:(x<0)↔(y<0):=by
   have e2:decide (x.sign<0)=decide (y.sign<0):=by simpa using OH
   have:=decide_eq_decide.1 e2;omega
  rw[if_pos hn]at key;refine iY hτ dZ (.two 0 (.two 1 (.one 2 (.one 3 (.one 4 .nil))) 2 (.one 1 (.one 3 (.one 4 .nil)))) 1 (.one 0 (.one 2 (.one 3 (.one 4 .nil))))) (by kernel_rfl) ?_;refine⟨?_,?_⟩
  ·refine⟨?_,?_⟩
   ·exact rtn hw fun ρe we re=>.inr ⟨Pp,_,_,rfl,key.1▸hq.out re (cB w),key.2▸hr.out re (cB w)⟩
   ·exact rtn hw fun ρe we re=>.inr ⟨Pp,_,_,rfl,key.1▸hq.out re (cB w),key.2▸hr.out re (cB w)⟩
  ·exact rtn hw fun ρe we re=>.inr ⟨Pp,_,_,rfl,key.1▸hq.out re (cB w),key.2▸hr.out re (cB w)⟩
 have hxs:=aH hxs;rw[aL (show ¬(x<0∧0<R) by omega),aL (show ¬(x<0∧0<R) by omega)]at key;refine cK hτ dZ [.x 0,.x 3,.x 1,.x 2,.x 4,.x 5,.x 6] (by kernel_rfl) (by kernel_rfl) ?_;refine cE hw (fun _ w' v w2=>v= .int .i64 x.sign) (fun O w' r=>gY (Rel.old r hS) (hx.rel r hS).r) ?_;rintro O _ _ _ R4 r he hw h_ rfl;replace hy:=hy.cF r hS he (mC h_);replace OT:=OT.cF r (cB w) he (mC h_);replace hr:=hr.cF r (cB w) he (mC h_);replace hq:=hq.cF r (cB w) he (mC h_);refine cE hw (fun _ w' v w2=>v= .int .i64 y.sign) (fun O w' r=>gY (Rel.old r hS) (hy.rel r hS).r) ?_;rintro O _ _ _ QZ r he hw h_ rfl;replace OT:=OT.cF r (cB w) he (mC h_);replace hr:=hr.cF r (cB w) he (mC h_);replace hq:=hq.cF r (cB w) he (mC h_);refine dM.mk ?_ ?_<;>intro OH
 ·have hn:¬((x<0)↔(y<0)):=fun e=>by
   have e2:decide (x.sign<0)=decide (y.sign<0):=decide_eq_decide.2 (by omega);rw[e2]at OH;simp at OH
  rw[aL hn]at key;refine cC (cE hw (fun _ w' v w2=>dK w2 (Nf w' w2) v (-(dQ Q))) (fun O w' r=>mG (Rel.old r (cB w)) ((hq.rel r (cB w)).l (k:=1000003) (by omega)) (by omega)) ?_);rintro O _ _ _ Qn r he hw h_ hn;replace OT:=OT.cF r (cB w) he (mC h_);replace hr:=hr.cF r (cB w) he (mC h_);have S2:=hn.dA (S:=FF) r.cD (mN h_);obtain⟨K0,K1,K2,K3,rfl⟩:=S2.shape;refine iY hτ dZ (.two 0 (.two 1 (.one 2 (.one 3 (.one 4 .nil))) 2 (.one 1 (.one 3 (.one 4 .nil)))) 1 (.one 0 (.one 2 (.one 3 (.one 4 .nil))))) (by kernel_rfl) ?_;refine⟨?_,?_⟩
  ·refine⟨?_,?_⟩
   ·exact rtn hw fun ρe we re=>.inr ⟨Pp,_,_,rfl,key.1▸S2.out re (cB w),key.2▸hr.out re (cB w)⟩
   ·exact rtn hw fun ρe we re=>.inr ⟨Pp,_,_,rfl,key.1▸S2.out re (cB w),key.2▸hr.out re (cB w)⟩
  ·exact rtn hw fun ρe we re=>.inr ⟨Pp,_,_,rfl,key.1▸S2.out re (cB w),key.2▸hr.out re (cB w)⟩
 have hn:(x<0)↔(y<0):=by
  have e2:decide (x.sign<0)=decide (y.sign<0):=by simpa using OH
  have:=decide_eq_decide.1 e2;omega
 rw[if_pos hn]at key;refine iY hτ dZ (.two 0 (.two 1 (.one 2 (.one 3 (.one 4 .nil))) 2 (.one 1 (.one 3 (.one 4 .nil)))) 1 (.one 0 (.one 2 (.one 3 (.one 4 .nil))))) (by kernel_rfl) ?_;refine⟨?_,?_⟩
 ·refine⟨?_,?_⟩
  ·exact rtn hw fun ρe we re=>.inr ⟨Pp,_,_,rfl,key.1▸hq.out re (cB w),key.2▸hr.out re (cB w)⟩
  ·exact rtn hw fun ρe we re=>.inr ⟨Pp,_,_,rfl,key.1▸hq.out re (cB w),key.2▸hr.out re (cB w)⟩
 ·exact rtn hw fun ρe we re=>.inr ⟨Pp,_,_,rfl,key.1▸hq.out re (cB w),key.2▸hr.out re (cB w)⟩
end Go.Ex
