/- Texts L9 to X61: lemmas, each with its conditions. -/
import Derived.Test.YtkdcaknoaeicdaaGreatP5
namespace Go.Ex
variable{cs:List Int}{ls:List Nat}{i:Nat}{f:Nat->Int}
def fh(f:Nat->Int):Nat->Int
 |0=>0
 |n+1=>f 0+65536*fh (fun i=>f (i+1)) n
theorem zB(f:Nat->Int)(n:Nat):dP ((List.range n).map f)=fh f n:=by
 induction n generalizing f with
 |zero=>rfl
 |succ n ih=>
  rw[List.range_succ_eq_map,List.map_cons,List.map_map,dP,fh,<-ih];rfl
theorem zC(f g:Nat->Int)(n:Nat):fh (fun i=>f i+g i) n=fh f n+fh g n:=by
 induction n generalizing f g with
 |zero=>rfl
 |succ n ih=>simp only[fh,ih];omega
theorem Fm(k:Int)(f:Nat->Int)(n:Nat):fh (fun i=>k*f i) n=k*fh f n:=by
 induction n generalizing f with
 |zero=>simp[fh]
 |succ n ih=>simp only[fh,ih,Int.mul_add];rw[Int.mul_left_comm]
theorem wC{n:Nat}(h:∀i,i<n->f i=0):fh f n=0:=by
 induction n generalizing f with
 |zero=>rfl
 |succ n ih=>rw[fh,h 0 (by omega),ih fun i hi=>h (i+1) (by omega)];rfl
theorem pG(a:List Int)(n:Nat)(h:a.length<=n):fh (fun i=>a.getD i 0) n=dP a:=by
 induction a generalizing n with
 |nil=>exact wC fun i _=>by simp
 |cons c r ih=>
  obtain⟨m,rfl⟩:∃m,n=m+1:=⟨n-1,by simp at h;omega⟩
  have e:=ih m (by simpa using h);rw[fh,dP,<-e];simp[List.getD]
def iL(a b:List Int)(i:Nat):Nat->Int
 |0=>0
 |k+1=>iL a b i k+a.getD k 0*(if k<=i then b.getD (i-k) 0 else 0)
def gF(a b:List Int)(i:Nat):Int:=iL a b i (i+1)
theorem Hz(b:List Int)(i k:Nat):iL [] b i k=0:=by
 induction k with
 |zero=>rfl
 |succ k ih=>rw[iL,ih];simp
theorem Fo(c:Int)(r b:List Int)(i k:Nat):iL (c::r) b (i+1) (k+1)=c*b.getD (i+1) 0+iL r b i k:=by
 induction k with
 |zero=>simp[iL]
 |succ k ih=>
  rw[iL,ih,iL];have e:(c::r).getD (k+1) 0=r.getD k 0:=by simp[List.getD]
  rw[e];have e2:(if k+1<=i+1 then b.getD (i+1-(k+1)) 0 else 0)=(if k<=i then b.getD (i-k) 0 else 0):=by
   by_cases h:k<=i
   ·rw[if_pos h,if_pos (by omega),show i+1-(k+1)=i-k by omega]
   ·rw[aK h,aK (by omega)]
  rw[e2,Int.add_assoc]
theorem EK(c:Int)(r b:List Int)(i:Nat):gF (c::r) b (i+1)=c*b.getD (i+1) 0+gF r b i:=Fo c r b i (i+1)
theorem EL(c:Int)(r b:List Int):gF (c::r) b 0=c*b.getD 0 0:=by simp[gF,iL]
theorem Jq(a b:List Int)(n:Nat)(h:a.length+b.length<=n+1):fh (gF a b) n=dP a*dP b:=by
 induction a generalizing n with
 |nil=>
  rw[show gF [] b=fun _=>(0:Int)from funext fun i=>Hz b i _,wC fun _ _=>rfl];simp[dP]
 |cons c r ih=>
  cases n with
  |zero=>
   have hb:b=[]:=List.eq_nil_of_length_eq_zero (by simp at h;omega);subst hb;simp[fh,dP]
  |succ m=>
   have e1:fh (gF (c::r) b) (m+1)=fh (fun i=>c*b.getD i 0) (m+1)+65536*fh (gF r b) m:=by
    have e2:fh (fun i=>gF (c::r) b (i+1)) m=fh (fun i=>c*b.getD (i+1) 0) m+fh (gF r b) m:=by
     rw[<-zC];congr 1
     funext i
     exact EK c r b i
    rw[fh,fh,e2,EL,Int.mul_add];omega
   have h':r.length+b.length<=m+1:=by simp at h;omega
   rw[e1,ih m h',Fm,pG b (m+1) (by omega),dP,Int.add_mul,Int.mul_assoc]
theorem Fp(a b:List Int)(i k k0:Nat)(h0:∀j,j<k0->b.length<=i-j)(hk:k0<=i+1)(h:k<=k0):iL a b i k=0:=by
 induction k with
 |zero=>rfl
 |succ k ih=>
  rw[iL,ih (by omega),if_pos (by omega)];have:b.getD (i-k) 0=0:=by rw[List.getD,List.getElem?_eq_none (h0 k (by omega))];rfl
  rw[this];simp
theorem Fq(a b:List Int)(i k m:Nat)(h:a.length<=k):iL a b i (k+m)=iL a b i k:=by
 induction m with
 |zero=>rfl
 |succ m ih=>
  rw[<-Nat.add_assoc,iL,ih];have:a.getD (k+m) 0=0:=by rw[List.getD,List.getElem?_eq_none (by omega)];rfl
  rw[this];simp
theorem lz{a b:List Int}(ha:∀x∈a,-65535<=x∧x<=65535)(hb:∀x∈b,-65535<=x∧x<=65535)(k:Nat):(iL a b i k).natAbs<=4294836225*k:=by
 have key:∀(l:List Int) (j:Nat),(∀x∈l,-65535<=x∧x<=65535)->(l.getD j 0).natAbs<=65535:=fun l j h=>by
  rw[List.getD]
  cases hj:l[j]? with
  |none=>simp
  |some d=>have:=h d (aC hj);simp;omega
 induction k with
 |zero=>simp[iL]
 |succ k ih=>
  rw[iL];have h1:=key a k ha;have h2:(if k<=i then b.getD (i-k) 0 else 0).natAbs<=65535:=by
   split
   ·exact key b _ hb
   ·simp
  have h3:=Nat.mul_le_mul h1 h2;rw[<-Int.natAbs_mul]at h3;generalize a.getD k 0*(if k<=i then b.getD (i-k) 0 else 0)=p at*
  omega
def eC(s:Int):List Nat->List Int
 |[]=>[]
 |l::r=>s*((l % 65536:Nat):Int)::s*((l / 65536:Nat):Int)::eC s r
theorem CX(s:Int)(ls:List Nat):dP (eC s ls)=s*(val ls:Int):=by
 induction ls with
 |nil=>simp[eC,dP,val]
 |cons l r ih=>
  rw[eC,dP,dP,ih,val];have e1:((l+4294967296*val r:Nat):Int)=((l % 65536:Nat):Int)+65536*((l / 65536:Nat):Int)+4294967296*((val r:Nat):Int):=by omega
  rw[e1,Int.mul_add,Int.mul_add,Int.mul_add];rw[Int.mul_left_comm 65536 s,Int.mul_left_comm s 65536,Int.mul_left_comm s 4294967296];omega
theorem oU(s:Int)(a b:List Nat):eC s (a++b)=eC s a++eC s b:=by
 induction a with
 |nil=>rfl
 |cons l r ih=>simp[eC,ih]
theorem iF(s:Int)(ls:List Nat):(eC s ls).length=2*ls.length:=by
 induction ls with
 |nil=>rfl
 |cons l r ih=>simp[eC,ih];omega
theorem zD{s:Int}(hs:s=1∨s= -1)(h:Lm ls):∀c∈eC s ls,-65535<=c∧c<=65535:=by
 induction ls with
 |nil=>intro c hc;cases hc
 |cons l r ih=>
  have hl:=h l aG;intro c hc;rw[eC]at hc;rcases List.mem_cons.1 hc with rfl|hc
  ·rcases hs with rfl|rfl<;>omega
  rcases List.mem_cons.1 hc with rfl|hc
  ·rcases hs with rfl|rfl<;>omega
  ·exact ih (fun x hx=>h x (List.mem_cons_of_mem _ hx)) c hc
theorem wz(h:Lm ls):∀c∈eC 1 ls,0<=c∧c<=65535:=fun c hc=>by
 induction ls with
 |nil=>cases hc
 |cons l r ih=>
  have hl:=h l aG;rw[eC]at hc;rcases List.mem_cons.1 hc with rfl|hc
  ·omega
  rcases List.mem_cons.1 hc with rfl|hc
  ·omega
  ·exact ih (fun x hx=>h x (List.mem_cons_of_mem _ hx)) hc
theorem EM{c:Int}(h:cs[i]? =some c):dP (cs.drop i)=c+65536*dP (cs.drop (i+1)):=by
 rw[List.drop_eq_getElem_cons (aD.1 h).1,dP];have:=(aD.1 h).2;rw[this]
end Go.Ex
namespace Go.Ex
open Go Go.Sx Go.Proofs
variable{x1 x2 y1 y2:Int}{ls:List Nat}{S:Nat->Prop}{p q:Rat}{u:Value}{w:World}
theorem Kp{k:Nat}(h:Lm ls)(hl:ls.length<=k):ln (val ls)<=k:=gQ.2 (Nat.lt_of_lt_of_le (nT h) (BL hl))
theorem Cv.false{B:Nat}{iv:Iv}{g:Nat}(h:Cv FF B iv g):Cv S B iv g:=h.elim (fun h=>h.elim) .inr
theorem Kq{v:Value}(hS:Old S w)(hx:iG w S v x1 x2)(hy:iG w S u y1 y2)(S4:ln x1.natAbs<=100000)(R8:ln x2.natAbs<=100000)(Pn:ln y1.natAbs<=100000)(R7:ln y2.natAbs<=100000):
  eD PG N.uj #[v,u] w (eG w fun v' w2=>cS w2 (Nf w w2) v' ((ratio x1 x2)+(ratio y1 y2))):=by
 have hw:=bR w;have r1:=iE x1 x2;have r2:=iE y1 y2;have r3:=pE (ratio x1 x2) (ratio y1 y2);have r4:=j9 (ratio x1 x2) (ratio y1 y2);have r5:=rh (ratio y1 y2);have r6:=yw (ratio x1 x2) (ratio y1 y2);replace hx:=hx.cJ (S':=Cv S w.heap.size []) fun _ h=>.inl h;replace hy:=hy.cJ (S':=Cv S w.heap.size []) fun _ h=>.inl h;obtain⟨b1,a1,n1,c1,b2,a2,n2,c2,rfl⟩:=hx.shape;obtain⟨b3,a3,n3,c3,b4,a4,n4,c4,rfl⟩:=hy.shape;refine Cg (by simp) ?_;refine cN hτ dm [.x 0,.x 2,.x 1,.x 3,.x 4,.x 5,.x 6] (by kernel_rfl) (by kernel_rfl) ?_;refine cE hw (fun _ w' v w2=>dS w2 (Nf w' w2) v ((ratio x1 x2))) (fun O w' r=>kF (Rel.old r hS) (hx.rel r hS) (by omega) (by omega)) ?_;rintro O _ _ _ OM r he hw h_ hn;replace hy:=hy.cG r hS he (mC h_);have hX:=hn.dE (S:=FF) r.cF (mN h_);obtain⟨A0,A1,A2,A3,A4,A5,A6,A7,rfl⟩:=hX.shape;refine cE hw (fun _ w' v w2=>dS w2 (Nf w' w2) v ((ratio y1 y2))) (fun O w' r=>kF (Rel.old r hS) (hy.rel r hS) (by omega) (by omega)) ?_;rintro O _ _ _ OK r he hw h_ hn;replace hX:=hX.cG r (cC w) he (mC h_);have hY:=hn.dE (S:=FF) r.cF (mN h_);obtain⟨C0,C1,C2,C3,C4,C5,C6,C7,rfl⟩:=hY.shape;refine cE hw (fun _ w' v w2=>dS w2 (Nf w' w2) v ((ratio x1 x2)+(ratio y1 y2))) (fun O w' r=>HW (Rel.old r (cC w)) (hX.rel r (cC w)) (hY.rel r (cC w)) (by omega) (by omega)) ?_;rintro O _ _ _ OS r he hw h_ hn;have hP:=hn.dE (S:=FF) r.cF (mN h_);obtain⟨E0,E1,E2,E3,E4,E5,E6,E7,rfl⟩:=hP.shape;refine cE hw (fun _ w' v w2=>cS w2 (Nf w' w2) v ((ratio x1 x2)+(ratio y1 y2))) (fun O w' r=>qY (Rel.old r (cC w)) (hP.rel r (cC w)) (by omega)) ?_;rintro O _ _ _ Oe r he hw h_ hn;have hC:=hn.dE (S:=FF) r.cF (mN h_);obtain⟨F0,F1,F2,F3,F4,F5,F6,F7,rfl⟩:=hC.shape;exact rtn hw fun ρe we re=>hC.out re (cC w)
theorem Kr{v:Value}(hS:Old S w)(hx:iG w S v x1 x2)(hy:iG w S u y1 y2)(S4:ln x1.natAbs<=100000)(R8:ln x2.natAbs<=100000)(Pn:ln y1.natAbs<=100000)(R7:ln y2.natAbs<=100000):
  eD PG N.uo #[v,u] w (eG w fun v' w2=>cS w2 (Nf w w2) v' ((ratio x1 x2)*(ratio y1 y2))):=by
 have hw:=bR w;have r1:=iE x1 x2;have r2:=iE y1 y2;have r3:=pE (ratio x1 x2) (ratio y1 y2);have r4:=j9 (ratio x1 x2) (ratio y1 y2);have r5:=rh (ratio y1 y2);have r6:=yw (ratio x1 x2) (ratio y1 y2);replace hx:=hx.cJ (S':=Cv S w.heap.size []) fun _ h=>.inl h;replace hy:=hy.cJ (S':=Cv S w.heap.size []) fun _ h=>.inl h;obtain⟨b1,a1,n1,c1,b2,a2,n2,c2,rfl⟩:=hx.shape;obtain⟨b3,a3,n3,c3,b4,a4,n4,c4,rfl⟩:=hy.shape;refine Ch (by simp) ?_;refine cN hτ dm [.x 0,.x 2,.x 1,.x 3,.x 4,.x 5,.x 6] (by kernel_rfl) (by kernel_rfl) ?_;refine cE hw (fun _ w' v w2=>dS w2 (Nf w' w2) v ((ratio x1 x2))) (fun O w' r=>kF (Rel.old r hS) (hx.rel r hS) (by omega) (by omega)) ?_;rintro O _ _ _ OM r he hw h_ hn;replace hy:=hy.cG r hS he (mC h_);have hX:=hn.dE (S:=FF) r.cF (mN h_);obtain⟨A0,A1,A2,A3,A4,A5,A6,A7,rfl⟩:=hX.shape;refine cE hw (fun _ w' v w2=>dS w2 (Nf w' w2) v ((ratio y1 y2))) (fun O w' r=>kF (Rel.old r hS) (hy.rel r hS) (by omega) (by omega)) ?_;rintro O _ _ _ OK r he hw h_ hn;replace hX:=hX.cG r (cC w) he (mC h_);have hY:=hn.dE (S:=FF) r.cF (mN h_);obtain⟨C0,C1,C2,C3,C4,C5,C6,C7,rfl⟩:=hY.shape;refine cE hw (fun _ w' v w2=>dS w2 (Nf w' w2) v ((ratio x1 x2)*(ratio y1 y2))) (fun O w' r=>Kk (Rel.old r (cC w)) (hX.rel r (cC w)) (hY.rel r (cC w)) (by omega) (by omega)) ?_;rintro O _ _ _ OS r he hw h_ hn;have hP:=hn.dE (S:=FF) r.cF (mN h_);obtain⟨E0,E1,E2,E3,E4,E5,E6,E7,rfl⟩:=hP.shape;refine cE hw (fun _ w' v w2=>cS w2 (Nf w' w2) v ((ratio x1 x2)*(ratio y1 y2))) (fun O w' r=>qY (Rel.old r (cC w)) (hP.rel r (cC w)) (by omega)) ?_;rintro O _ _ _ Oe r he hw h_ hn;have hC:=hn.dE (S:=FF) r.cF (mN h_);obtain⟨F0,F1,F2,F3,F4,F5,F6,F7,rfl⟩:=hC.shape;exact rtn hw fun ρe we re=>hC.out re (cC w)
theorem Ks{v:Value}(hS:Old S w)(hx:iG w S v x1 x2)(hy:iG w S u y1 y2)(S4:ln x1.natAbs<=100000)(R8:ln x2.natAbs<=100000)(Pn:ln y1.natAbs<=100000)(R7:ln y2.natAbs<=100000):
  eD PG N.uu #[v,u] w (eG w fun v' w2=>cS w2 (Nf w w2) v' ((ratio x1 x2)-(ratio y1 y2))):=by
 have hw:=bR w;have r1:=iE x1 x2;have r2:=iE y1 y2;have r3:=pE (ratio x1 x2) (ratio y1 y2);have r4:=j9 (ratio x1 x2) (ratio y1 y2);have r5:=rh (ratio y1 y2);have r6:=yw (ratio x1 x2) (ratio y1 y2);replace hx:=hx.cJ (S':=Cv S w.heap.size []) fun _ h=>.inl h;replace hy:=hy.cJ (S':=Cv S w.heap.size []) fun _ h=>.inl h;obtain⟨b1,a1,n1,c1,b2,a2,n2,c2,rfl⟩:=hx.shape;obtain⟨b3,a3,n3,c3,b4,a4,n4,c4,rfl⟩:=hy.shape;refine Ck (by simp) ?_;refine cN hτ dm [.x 0,.x 2,.x 1,.x 3,.x 4,.x 5,.x 6,.x 7] (by kernel_rfl) (by kernel_rfl) ?_;refine cE hw (fun _ w' v w2=>dS w2 (Nf w' w2) v ((ratio x1 x2))) (fun O w' r=>kF (Rel.old r hS) (hx.rel r hS) (by omega) (by omega)) ?_;rintro O _ _ _ OM r he hw h_ hn;replace hy:=hy.cG r hS he (mC h_);have hX:=hn.dE (S:=FF) r.cF (mN h_);obtain⟨A0,A1,A2,A3,A4,A5,A6,A7,rfl⟩:=hX.shape;refine cE hw (fun _ w' v w2=>dS w2 (Nf w' w2) v ((ratio y1 y2))) (fun O w' r=>kF (Rel.old r hS) (hy.rel r hS) (by omega) (by omega)) ?_;rintro O _ _ _ OK r he hw h_ hn;replace hX:=hX.cG r (cC w) he (mC h_);have hY:=hn.dE (S:=FF) r.cF (mN h_);obtain⟨C0,C1,C2,C3,C4,C5,C6,C7,rfl⟩:=hY.shape;refine cO (Φ:=fun _ w' v w2=>dS w2 (Nw (Cf w OK) w' w2) v (-(ratio y1 y2))) (fun O w' r=>Kj (Rel.old r (cC w)) (hY.rel r (cC w))) ?_;rintro O PQ v3 PN r he hb hn;replace hw:=hw.tr hb;replace hX:=hX.cG (iv':=(PQ.heap.size,PN.heap.size)::OK) r (cC w) he fun x hx=>List.mem_cons_of_mem _ hx;have hM:=hn.old r.cF;generalize (PQ.heap.size,PN.heap.size)::OK=OS at*
 obtain⟨E0,E1,E2,E3,E4,E5,E6,E7,rfl⟩:=hM.shape;refine cE hw (fun _ w' v w2=>dS w2 (Nf w' w2) v ((ratio x1 x2)-(ratio y1 y2))) (fun O w' r=>(Rat.sub_eq_add_neg (ratio x1 x2) (ratio y1 y2))▸HW (Rel.old r (cC w)) (hX.rel r (cC w)) (hM.rel r (cC w)) (by omega) (by omega)) ?_;rintro O _ _ _ Oe r he hw h_ hn;have hP:=hn.dE (S:=FF) r.cF (mN h_);obtain⟨F0,F1,F2,F3,F4,F5,F6,F7,rfl⟩:=hP.shape;refine cE hw (fun _ w' v w2=>cS w2 (Nf w' w2) v ((ratio x1 x2)-(ratio y1 y2))) (fun O w' r=>qY (Rel.old r (cC w)) (hP.rel r (cC w)) (by omega)) ?_;rintro O _ _ _ Pp r he hw h_ hn;have hC:=hn.dE (S:=FF) r.cF (mN h_);obtain⟨G0,G1,G2,G3,G4,G5,G6,G7,rfl⟩:=hC.shape;exact rtn hw fun ρe we re=>hC.out re (cC w)
theorem NM{v:Value}{f g:Rat}(hS:Old S w)(hf:dS w S v f)(hg:dS w S u g)(hlf:rl f<=10000000000)(hlg:rl g<=10000000000):
  eD PG N.lL #[v,u] w (eG w fun v' w2=>v'= .int .i64 (rs (f-g))):=by
 have hw:=bR w;have l1:=ff f;have l2:=eo f;have l3:=ff g;have l4:=eo g;have m0:=cw f.num g.den;have m1:=cw g.num f.den;replace hf:=hf.cJ (S':=Cv S w.heap.size []) fun _ h=>.inl h;replace hg:=hg.cJ (S':=Cv S w.heap.size []) fun _ h=>.inl h;obtain⟨b1,a1,n1,c1,b2,a2,n2,c2,rfl⟩:=hf.shape;obtain⟨b3,a3,n3,c3,b4,a4,n4,c4,rfl⟩:=hg.shape;have Tl:=hf.num;have QI:=hf.den;have SQ:=hg.num;have RD:=hg.den;refine oa (by simp) ?_;refine cN hτ dm [.x 0,.x 1,.x 2,.x 3,.x 5,.x 6,.x 7,.x 8,.x 4,.x 9,.x 10,.x 11] (by kernel_rfl) (by kernel_rfl) ?_;refine cE hw (fun _ w' v w2=>eM w2 (Nf w' w2) v (f.num*(g.den:Int))) (fun O w' r=>iC (Rel.old r hS) (Tl.rel r hS) (RD.rel r hS) (by omega) (by omega)) ?_;rintro O _ _ _ OM r he hw h_ hn;replace QI:=QI.cG r hS he (mC h_);replace SQ:=SQ.cG r hS he (mC h_);have hA:=hn.dE (S:=FF) r.cF (mN h_);obtain⟨A0,A1,A2,A3,rfl⟩:=hA.shape;refine cE hw (fun _ w' v w2=>eM w2 (Nf w' w2) v (g.num*(f.den:Int))) (fun O w' r=>iC (Rel.old r hS) (SQ.rel r hS) (QI.rel r hS) (by omega) (by omega)) ?_;rintro O _ _ _ OK r he hw h_ hn;replace hA:=hA.cG r (cC w) he (mC h_);have hB:=hn.dE (S:=FF) r.cF (mN h_);obtain⟨C0,C1,C2,C3,rfl⟩:=hB.shape;refine cE hw (fun _ w' v w2=>v= .int .i64 (rs (f-g))) (fun O w' r=>(Lc f g)▸KN (Rel.old r (cC w)) (hA.rel r (cC w)) (hB.rel r (cC w)) (by omega) (by omega)) ?_;rintro O _ _ _ OS r he hw h_ rfl;exact rtn hw fun ρe we re=>rfl
theorem Kt{v:Value}(hS:Old S w)(hx:iG w S v x1 x2)(hy:iG w S u y1 y2)(S4:ln x1.natAbs<=100000)(R8:ln x2.natAbs<=100000)(Pn:ln y1.natAbs<=100000)(R7:ln y2.natAbs<=100000):
  eD PG N.uh #[v,u] w (eG w fun v' w2=>v'= .int .i64 (rs ((ratio x1 x2)-(ratio y1 y2)))):=by
 have hw:=bR w;have r1:=iE x1 x2;have r2:=iE y1 y2;have r3:=pE (ratio x1 x2) (ratio y1 y2);have r4:=j9 (ratio x1 x2) (ratio y1 y2);have r5:=rh (ratio y1 y2);have r6:=yw (ratio x1 x2) (ratio y1 y2);replace hx:=hx.cJ (S':=Cv S w.heap.size []) fun _ h=>.inl h;replace hy:=hy.cJ (S':=Cv S w.heap.size []) fun _ h=>.inl h;obtain⟨b1,a1,n1,c1,b2,a2,n2,c2,rfl⟩:=hx.shape;obtain⟨b3,a3,n3,c3,b4,a4,n4,c4,rfl⟩:=hy.shape;refine Cd (by simp) ?_;refine cN hτ dm [.x 0,.x 2,.x 1,.x 3,.x 4,.x 5] (by kernel_rfl) (by kernel_rfl) ?_;refine cE hw (fun _ w' v w2=>dS w2 (Nf w' w2) v ((ratio x1 x2))) (fun O w' r=>kF (Rel.old r hS) (hx.rel r hS) (by omega) (by omega)) ?_;rintro O _ _ _ OM r he hw h_ hn;replace hy:=hy.cG r hS he (mC h_);have hX:=hn.dE (S:=FF) r.cF (mN h_);obtain⟨A0,A1,A2,A3,A4,A5,A6,A7,rfl⟩:=hX.shape;refine cE hw (fun _ w' v w2=>dS w2 (Nf w' w2) v ((ratio y1 y2))) (fun O w' r=>kF (Rel.old r hS) (hy.rel r hS) (by omega) (by omega)) ?_;rintro O _ _ _ OK r he hw h_ hn;replace hX:=hX.cG r (cC w) he (mC h_);have hY:=hn.dE (S:=FF) r.cF (mN h_);obtain⟨C0,C1,C2,C3,C4,C5,C6,C7,rfl⟩:=hY.shape;refine cE hw (fun _ w' v w2=>v= .int .i64 (rs ((ratio x1 x2)-(ratio y1 y2)))) (fun O w' r=>NM (Rel.old r (cC w)) (hX.rel r (cC w)) (hY.rel r (cC w)) (by omega) (by omega)) ?_;rintro O _ _ _ OS r he hw h_ rfl;exact rtn hw fun ρe we re=>rfl
theorem mI:rs q=0↔q=0:=by rw[rs,Int.sign_eq_zero_iff_zero,Rat.num_eq_zero]
theorem Ku{v:Value}(hS:Old S w)(hx:iG w S v x1 x2)(hy:iG w S u y1 y2)(S4:ln x1.natAbs<=100000)(R8:ln x2.natAbs<=100000)(Pn:ln y1.natAbs<=100000)(R7:ln y2.natAbs<=100000):
  eD PG N.uq #[v,u] w (eG w fun v' w2=>((ratio y1 y2)=0∧v'= .tuple #[AB,.int .i64 9])∨((ratio y1 y2)≠0∧∃q,v'= .tuple #[q,.int .i64 0]∧cS w2 (Nf w w2) q ((ratio x1 x2) / (ratio y1 y2)))):=by
 have hw:=bR w;have r1:=iE x1 x2;have r2:=iE y1 y2;have r3:=pE (ratio x1 x2) (ratio y1 y2);have r4:=j9 (ratio x1 x2) (ratio y1 y2);have r5:=rh (ratio y1 y2);have r6:=yw (ratio x1 x2) (ratio y1 y2);replace hx:=hx.cJ (S':=Cv S w.heap.size []) fun _ h=>.inl h;replace hy:=hy.cJ (S':=Cv S w.heap.size []) fun _ h=>.inl h;obtain⟨b1,a1,n1,c1,b2,a2,n2,c2,rfl⟩:=hx.shape;obtain⟨b3,a3,n3,c3,b4,a4,n4,c4,rfl⟩:=hy.shape;refine Cj (by simp) ?_;refine cD (cE hw (fun _ w' v w2=>dS w2 (Nf w' w2) v ((ratio y1 y2))) (fun O w' r=>kF (Rel.old r hS) (hy.rel r hS) (by omega) (by omega)) ?_);rintro O _ _ _ OM r he hw h_ hn;replace hx:=hx.cG r hS he (mC h_);have hY:=hn.dE (S:=FF) r.cF (mN h_);obtain⟨A0,A1,A2,A3,A4,A5,A6,A7,rfl⟩:=hY.shape;refine cD (cE hw (fun _ w' v w2=>v= .int .i64 (rs (ratio y1 y2))) (fun O w' r=>MA (Rel.old r (cC w)) (hY.rel r (cC w))) ?_);rintro O _ _ _ OK r he hw h_ rfl;replace hx:=hx.cG r hS he (mC h_);replace hY:=hY.cG r (cC w) he (mC h_);refine dN.mk ?_ ?_<;>intro h
 ·have h:rs (ratio y1 y2)=0:=by simpa using h
  exact rtn hw fun ρe we re=>.inl ⟨mI.1 h,rfl⟩
 have h:(ratio y1 y2)≠0:=fun e=>by rw[e]at h;exact absurd h (by decide)
 have r7:=Jg (ratio x1 x2) h;refine cN hτ dm [.x 0,.x 2,.x 1,.x 3,.x 4,.x 5,.x 6] (by kernel_rfl) (by kernel_rfl) ?_;refine cE hw (fun _ w' v w2=>dS w2 (Nf w' w2) v ((ratio x1 x2))) (fun O w' r=>kF (Rel.old r hS) (hx.rel r hS) (by omega) (by omega)) ?_;rintro O _ _ _ OS r he hw h_ hn;replace hY:=hY.cG r (cC w) he (mC h_);have hX:=hn.dE (S:=FF) r.cF (mN h_);obtain⟨C0,C1,C2,C3,C4,C5,C6,C7,rfl⟩:=hX.shape;refine cE hw (fun _ w' v w2=>dS w2 (Nf w' w2) v ((ratio x1 x2) / (ratio y1 y2))) (fun O w' r=>Nt (Rel.old r (cC w)) (hX.rel r (cC w)) (hY.rel r (cC w)) (by omega) (by omega) h) ?_;rintro O _ _ _ Oe r he hw h_ hn;have hP:=hn.dE (S:=FF) r.cF (mN h_);obtain⟨E0,E1,E2,E3,E4,E5,E6,E7,rfl⟩:=hP.shape;refine cE hw (fun _ w' v w2=>cS w2 (Nf w' w2) v ((ratio x1 x2) / (ratio y1 y2))) (fun O w' r=>qY (Rel.old r (cC w)) (hP.rel r (cC w)) (by omega)) ?_;rintro O _ _ _ Pp r he hw h_ hn;have hC:=hn.dE (S:=FF) r.cF (mN h_);obtain⟨F0,F1,F2,F3,F4,F5,F6,F7,rfl⟩:=hC.shape;exact rtn hw fun ρe we re=>.inr ⟨h,_,rfl,hC.out re (cC w)⟩
theorem Kv{n:Int}(h1: -9223372036854775808<=n)(h2:n<=9223372036854775807):rl (n:Rat)<=2:=by
 have:=lW h1 h2;unfold rl;rw[Rat.num_intCast,Rat.den_intCast];have:ln 1=1:=by decide
 omega
theorem Fs(n:Int)(w:World)(h1: -9223372036854775808<=n)(h2:n<=9223372036854775807):
  eD PG N.wQ #[.int .i64 n] w (eG w fun v' w2=>cS w2 (Nf w w2) v' (n:Rat)):=by
 have hw:=bR w;have hl:=Kv h1 h2;refine zf (by simp) ?_;refine cD (cE hw (fun _ w' v w2=>dS w2 (Nf w' w2) v (n)) (fun O w' r=>MB n w' h1 h2) ?_);rintro O _ _ _ OM r he hw h_ hn;have hX:=hn.dE (S:=FF) r.cF (mN h_);obtain⟨A0,A1,A2,A3,A4,A5,A6,A7,rfl⟩:=hX.shape;refine cD (cE hw (fun _ w' v w2=>cS w2 (Nf w' w2) v (n)) (fun O w' r=>qY (Rel.old r (cC w)) (hX.rel r (cC w)) (by omega)) ?_);rintro O _ _ _ OK r he hw h_ hn;have hC:=hn.dE (S:=FF) r.cF (mN h_);obtain⟨C0,C1,C2,C3,C4,C5,C6,C7,rfl⟩:=hC.shape;exact rtn hw fun ρe we re=>hC.out re (cC w)
theorem GD(a b:Int)(w:World)(h1a: -9223372036854775808<=a)(h2a:a<=9223372036854775807)(h1b: -9223372036854775808<=b)(h2b:b<=9223372036854775807):
  eD PG N.wT #[.int .i64 a,.int .i64 b] w (eG w fun v' w2=>(b=0∧v'= .tuple #[AB,.int .i64 9])∨(b≠0∧∃q,v'= .tuple #[q,.int .i64 0]∧cS w2 (Nf w w2) q (Rat.divInt a b))):=by
 have hw:=bR w;have ha:=lW h1a h2a;have hb:=lW h1b h2b;refine zi (by simp) ?_;refine dN.mk ?_ ?_<;>intro h
 ·have h:b=0:=by simpa using h
  exact rtn hw fun ρe we re=>.inl ⟨h,rfl⟩
 have h:b≠0:=by simpa using h
 have hq:=js (a:=a) h;refine cD (cE hw (fun _ w' v w2=>eM w2 (Nf w' w2) v a) (fun O w' r=>oL a w' h1a h2a) ?_);rintro O _ _ _ OM r he hw h_ hn;have hA:=hn.dE (S:=FF) r.cF (mN h_);obtain⟨A0,A1,A2,A3,rfl⟩:=hA.shape;refine cD (cE hw (fun _ w' v w2=>eM w2 (Nf w' w2) v b) (fun O w' r=>oL b w' h1b h2b) ?_);rintro O _ _ _ OK r he hw h_ hn;replace hA:=hA.cG r (cC w) he (mC h_);have hB:=hn.dE (S:=FF) r.cF (mN h_);obtain⟨C0,C1,C2,C3,rfl⟩:=hB.shape;refine cD (cE hw (fun _ w' v w2=>dS w2 (Nf w' w2) v (Rat.divInt a b)) (fun O w' r=>vQ (Rel.old r (cC w)) (hA.rel r (cC w)) (hB.rel r (cC w)) h (by omega) (by omega)) ?_);rintro O _ _ _ OS r he hw h_ hn;have hP:=hn.dE (S:=FF) r.cF (mN h_);obtain⟨E0,E1,E2,E3,E4,E5,E6,E7,rfl⟩:=hP.shape;refine cD (cE hw (fun _ w' v w2=>cS w2 (Nf w' w2) v (Rat.divInt a b)) (fun O w' r=>qY (Rel.old r (cC w)) (hP.rel r (cC w)) (by omega)) ?_);rintro O _ _ _ Oe r he hw h_ hn;have hC:=hn.dE (S:=FF) r.cF (mN h_);obtain⟨F0,F1,F2,F3,F4,F5,F6,F7,rfl⟩:=hC.shape;exact rtn hw fun ρe we re=>.inr ⟨h,_,rfl,hC.out re (cC w)⟩
theorem Kw(ad:Addr)(i j:Nat):(ad.add i).add j=ad.add (i+j):=by
 unfold Addr.add;split<;>split<;>simp_all<;>omega
def qF(w:World)(S:Nat->Prop)(v:Value)(q:Rat):Prop:=∃a b,iG w S v a b∧ratio a b=q∧ln a.natAbs<=100000∧ln b.natAbs<=100000
theorem qF.cI{w2:World}{v:Value}(h:qF w S v q)(hk:∀g,S g->w2.heap[g]? =w.heap[g]?):qF w2 S v q:=by
 obtain⟨a,b,h1,h2⟩:=h;exact⟨a,b,h1.cI hk,h2⟩
theorem qF.shape{v:Value}(h:qF w S v q):∃b a n c b2 a2 n2 c2,v= .agg #[.bool b,.slice a n c,.bool b2,.slice a2 n2 c2]:=by
 obtain⟨a,b,h1,_⟩:=h;exact h1.shape
theorem oO(q:Rat):ratio q.num q.den=q:=by rw[ratio,aK (gE q),Rat.num_divInt_den]
theorem cS.v{v:Value}(h:cS w S v q)(hl:rl q<=100000):qF w S v q:=
 ⟨_,_,h.r,oO q,ah (ff q) hl,ah (eo q) hl⟩
section
variable{S S':Nat->Prop}{H:Hp}{nx:Nat}{iv iv':Iv}{B:Nat}{w w' w2:World}{O:Nat->Sx.dg}{v:Value}{q:Rat}
end
theorem KB{v:Value}(hS:Old S w)(hp:qF w S v p)(hq:qF w S u q):eD PG N.uj #[v,u] w (eG w fun v' w2=>cS w2 (Nf w w2) v' (p+q)):=by
 obtain⟨a,b,h1,rfl,h2,h3⟩:=hp;obtain⟨c,d,k1,rfl,k2,k3⟩:=hq;exact Kq hS h1 k1 h2 h3 k2 k3
theorem zn{v:Value}(hS:Old S w)(hp:qF w S v p)(hq:qF w S u q):eD PG N.uo #[v,u] w (eG w fun v' w2=>cS w2 (Nf w w2) v' (p*q)):=by
 obtain⟨a,b,h1,rfl,h2,h3⟩:=hp;obtain⟨c,d,k1,rfl,k2,k3⟩:=hq;exact Kr hS h1 k1 h2 h3 k2 k3
theorem Jz{v:Value}(hS:Old S w)(hp:qF w S v p)(hq:qF w S u q):eD PG N.uu #[v,u] w (eG w fun v' w2=>cS w2 (Nf w w2) v' (p-q)):=by
 obtain⟨a,b,h1,rfl,h2,h3⟩:=hp;obtain⟨c,d,k1,rfl,k2,k3⟩:=hq;exact Ks hS h1 k1 h2 h3 k2 k3
theorem Ft{v:Value}(hS:Old S w)(hp:qF w S v p)(hq:qF w S u q):eD PG N.uh #[v,u] w (eG w fun v' _=>v'= .int .i64 (rs (p-q))):=by
 obtain⟨a,b,h1,rfl,h2,h3⟩:=hp;obtain⟨c,d,k1,rfl,k2,k3⟩:=hq;exact Kt hS h1 k1 h2 h3 k2 k3
theorem Mw{v:Value}(hS:Old S w)(hp:qF w S v p)(hq:qF w S u q):eD PG N.uq #[v,u] w (eG w fun v' w2=>(q=0∧v'= .tuple #[AB,.int .i64 9])∨(q≠0∧∃r,v'= .tuple #[r,.int .i64 0]∧cS w2 (Nf w w2) r (p / q))):=by
 obtain⟨a,b,h1,rfl,h2,h3⟩:=hp;obtain⟨c,d,k1,rfl,k2,k3⟩:=hq;exact Ku hS h1 k1 h2 h3 k2 k3
end Go.Ex
namespace Go.Ex
theorem Me(q:Rat):rs (-q)= -rs q:=by rw[rs,rs,Rat.neg_num,Int.sign_neg]
end Go.Ex
namespace Go.Ex
open Go Go.Sx Go.Proofs
variable{b:Bool}{x z:Int}{cs:List Int}{ls:List Nat}{S:Nat->Prop}{lv:Value}{w:World}
def fV(w:World)(S:Nat->Prop)(v:Value)(k:Nat)(z:Int):Prop:=∃neg ls,uC w S v neg ls∧sg neg (val ls)=z∧ls.length<=k
theorem fV.cI{w2:World}{v:Value}{k:Nat}(h:fV w S v k z)(hk:∀g,S g->w2.heap[g]? =w.heap[g]?):fV w2 S v k z:=by
 obtain⟨n,l,h1,h2⟩:=h;exact⟨n,l,h1.cI hk,h2⟩
theorem fV.cJ{S':Nat->Prop}{v:Value}{k:Nat}(h:fV w S v k z)(hk:∀g,S g->S' g):fV w S' v k z:=by
 obtain⟨n,l,h1,h2⟩:=h;exact⟨n,l,h1.cJ hk,h2⟩
theorem fV.r{v:Value}{k:Nat}(h:fV w S v k z):j5 w S v z:=by
 obtain⟨n,l,h1,h2,_⟩:=h;exact⟨n,l,h1,h2⟩
theorem fV.shape{v:Value}{k:Nat}(h:fV w S v k z):∃b a n c,v= .agg #[.bool b,.slice a n c]:=h.r.shape
theorem dJ.l{v:Value}{k:Nat}(h:dJ w S v z)(hk:ln z.natAbs<=k):fV w S v k z:=by
 obtain⟨l,h1,h2,h3⟩:=h;obtain⟨_,_,hl⟩:=h1;have:=eL hl.lm h2;rw[h3]at this;exact⟨_,l,⟨_,‹_›,hl⟩,by rw[h3,Bo],by omega⟩
section
variable{S S':Nat->Prop}{H:Hp}{nx:Nat}{iv iv':Iv}{B:Nat}{w w' w2:World}{O:Nat->Sx.dg}{v:Value}{k:Nat}{z:Int}
theorem fV.rel(h:fV w (Cv S B iv) v k z)(r:Rel H nx iv B w O w')(hS:∀g,S g->g<B):fV w' (Cv S B iv) v k z:=h.cI fun _ hg=>Rel.same r hS hg
theorem fV.cG(h:fV w (Cv S B iv) v k z)(r:Rel H nx iv B w O w')(hS:∀g,S g->g<B)(he:Ext w' w2)(hm:∀p,p∈iv->p∈iv'):fV w2 (Cv S B iv') v k z:=
 ((h.rel r hS).cI fun g hg=>he.block g (Rel.old r hS g hg)).cJ fun _ hg=>hg.mono hm
end
section
variable{S S':Nat->Prop}{H:Hp}{nx:Nat}{iv iv':Iv}{B:Nat}{w w' w2:World}{O:Nat->Sx.dg}{v:Value}{cs:List Int}
theorem dy.rel(h:dy w (Cv S B iv) v cs)(r:Rel H nx iv B w O w')(hS:∀g,S g->g<B):dy w' (Cv S B iv) v cs:=dy.cI h fun _ hg=>Rel.same r hS hg
theorem dy.cG(h:dy w (Cv S B iv) v cs)(r:Rel H nx iv B w O w')(hS:∀g,S g->g<B)(he:Ext w' w2)(hm:∀p,p∈iv->p∈iv'):dy w2 (Cv S B iv') v cs:=
 (dy.cI (h.rel r hS) fun g hg=>he.block g (Rel.old r hS g hg)).cJ fun _ hg=>hg.mono hm
theorem dy.dE(h:dy w2 (Nf w' w2) v cs)(hB:B<=w'.heap.size)(hm:(w'.heap.size,w2.heap.size)∈iv):dy w2 (Cv S B iv) v cs:=dy.cJ h fun _ hg=>hg.dE hB hm
end
def NV(b:Bool):Int:=if b then -1 else 1
theorem NN(b:Bool):NV b=1∨NV b= -1:=by cases b<;>simp[NV]
theorem MG(b:Bool)(n:Nat):NV b*(n:Int)=sg b n:=by cases b<;>simp[NV,sg]
theorem GW{v:Value}{neg:Bool}(hS:Old S w)(h:uC w S v neg ls)(hl:ls.length<=40000000):
  eD PG N.ma #[v] w (eG w fun v' w2=>dy w2 (Nf w w2) v' (eC (NV neg) ls)):=by
 obtain⟨lv,rfl,hL⟩:=h;have PM:=hL.lm;obtain⟨a,c,rfl,hc,Oz⟩:=hL.sl;refine vG (by simp) ?_
 cases neg with
 |true=>
  refine⟨Nat×World,fun z=>⟨[(1,pP 0 0),(3,.o (.v (.int .i64 (-1)))),(4,.o (.w 1 (2*z.1))),(5,iZ z.1)],[(1,.vec T.int 1 ((eC (-1) (ls.take z.1)).map (Value.int .i64))),(0,.box T.Int [.v (.bool true),.v (.slice a ls.length c)])],2,[],z.2⟩,fun z=>ls.length-z.1,
   fun z=>eB w.heap.size w z.2∧z.1<=ls.length,?_,?_⟩
  ·intro O w' r
   exact⟨(0,w'),⟨r.cQ,by simp⟩,Sub.nil 4 T.int 1 rfl (by simp[jN,SV.sc,At.sc,fW]) r fun ρ1 r1=>
    Sub.gn [] r1⟩
  rintro⟨i,w1⟩ ⟨hw,hi⟩;dsimp only at hw hi ⊢;have Ro:((eC (-1) (ls.take i)).map (Value.int .i64)).length=2*i:=by rw[aJ,iF,aV];omega
  refine dN.mk ?_ ?_<;>intro h
  ·have h:i<ls.length:=by simpa using h
   obtain⟨x,hx⟩:∃x,ls[i]? =some x:=⟨_,aB h⟩
   have Px:=PM x (aC hx);obtain⟨ad,rfl,q1,q2⟩:=Oz i x hx;have TP:eC (-1) (ls.take (i+1))=eC (-1) (ls.take i)++[(-1)*((x % 65536:Nat):Int),(-1)*((x / 65536:Nat):Int)]:=by rw[List.take_add_one,hx,Option.toList_some,oU];rfl
   refine⟨ad,rfl,by omega,.int .u32 x,fun O w' r=>?_,?_⟩
   ·rw[aE,aS];exact kM hS hw r q1 q2
   refine⟨(x:Int),wo,by decide,((x % 65536:Nat):Int),rfl,(-1)*((x % 65536:Nat):Int),wo,by decide,((x / 65536:Nat):Int),by rw[show (x:Int).tdiv 65536=((x / 65536:Nat):Int)from rfl,wrap64]<;>omega,(-1)*((x / 65536:Nat):Int),wo,?_⟩;refine .inl ?_;refine⟨by rw[Ro,aS],by omega,by unfold maxLen;omega,((i+1:Nat):Int),wo,?_⟩;intro ρ3 w3 r3;have TC:(eC (-1) (ls.take (i+1))).map (Value.int .i64)=(eC (-1) (ls.take i)).map (Value.int .i64)++[.int .i64 ((-1)*((x % 65536:Nat):Int)),.int .i64 ((-1)*((x / 65536:Nat):Int))]:=by
    rw[TP];simp
   exact⟨(i+1,w3),⟨hw.tr r3.cQ,by dsimp only;omega⟩,Sub.gn [(1,3)] r3 ⟨by dsimp only;rw[TC];rfl,rfl,trivial⟩,by dsimp only;omega⟩
  have h:i=ls.length:=by
   have:¬i<ls.length:=by simpa using h
   omega
  subst h;rw[bF]at Ro ⊢;intro ρe we re;have OH:=re.DK (id:=1) (m:=2*ls.length) rfl (by rw[Ro,aS]) (by decide);have Pr:=qZ OH (by rw[iF]) (by unfold maxLen;omega);refine⟨_,rfl,hw.tr re.cQ,dy.cJ Pr fun g hg=>.inr ?_⟩;have:=ownsRow.low OH g hg;exact this
 |false=>
  refine⟨Nat×World,fun z=>⟨[(1,pP 0 0),(3,.o (.v (.int .i64 (1)))),(4,.o (.w 1 (2*z.1))),(5,iZ z.1)],[(1,.vec T.int 1 ((eC (1) (ls.take z.1)).map (Value.int .i64))),(0,.box T.Int [.v (.bool false),.v (.slice a ls.length c)])],2,[],z.2⟩,fun z=>ls.length-z.1,
   fun z=>eB w.heap.size w z.2∧z.1<=ls.length,?_,?_⟩
  ·intro O w' r
   exact⟨(0,w'),⟨r.cQ,by simp⟩,Sub.nil 4 T.int 1 rfl (by simp[jN,SV.sc,At.sc,fW]) r fun ρ1 r1=>
    Sub.gn [] r1⟩
  rintro⟨i,w1⟩ ⟨hw,hi⟩;dsimp only at hw hi ⊢;have Ro:((eC (1) (ls.take i)).map (Value.int .i64)).length=2*i:=by rw[aJ,iF,aV];omega
  refine dN.mk ?_ ?_<;>intro h
  ·have h:i<ls.length:=by simpa using h
   obtain⟨x,hx⟩:∃x,ls[i]? =some x:=⟨_,aB h⟩
   have Px:=PM x (aC hx);obtain⟨ad,rfl,q1,q2⟩:=Oz i x hx;have TP:eC (1) (ls.take (i+1))=eC (1) (ls.take i)++[(1)*((x % 65536:Nat):Int),(1)*((x / 65536:Nat):Int)]:=by rw[List.take_add_one,hx,Option.toList_some,oU];rfl
   refine⟨ad,rfl,by omega,.int .u32 x,fun O w' r=>?_,?_⟩
   ·rw[aE,aS];exact kM hS hw r q1 q2
   refine⟨(x:Int),wo,by decide,((x % 65536:Nat):Int),rfl,(1)*((x % 65536:Nat):Int),wo,by decide,((x / 65536:Nat):Int),by rw[show (x:Int).tdiv 65536=((x / 65536:Nat):Int)from rfl,wrap64]<;>omega,(1)*((x / 65536:Nat):Int),wo,?_⟩;refine .inl ?_;refine⟨by rw[Ro,aS],by omega,by unfold maxLen;omega,((i+1:Nat):Int),wo,?_⟩;intro ρ3 w3 r3;have TC:(eC (1) (ls.take (i+1))).map (Value.int .i64)=(eC (1) (ls.take i)).map (Value.int .i64)++[.int .i64 ((1)*((x % 65536:Nat):Int)),.int .i64 ((1)*((x / 65536:Nat):Int))]:=by
    rw[TP];simp
   exact⟨(i+1,w3),⟨hw.tr r3.cQ,by dsimp only;omega⟩,Sub.gn [(1,3)] r3 ⟨by dsimp only;rw[TC];rfl,rfl,trivial⟩,by dsimp only;omega⟩
  have h:i=ls.length:=by
   have:¬i<ls.length:=by simpa using h
   omega
  subst h;rw[bF]at Ro ⊢;intro ρe we re;have OH:=re.DK (id:=1) (m:=2*ls.length) rfl (by rw[Ro,aS]) (by decide);have Pr:=qZ OH (by rw[iF]) (by unfold maxLen;omega);refine⟨_,rfl,hw.tr re.cQ,dy.cJ Pr fun g hg=>.inr ?_⟩;have:=ownsRow.low OH g hg;exact this
def Ar(cs:List Int)(n:Nat)(z:Int):Prop:=dP cs=z∧cs.length<=n∧(∀c∈cs,-65535<=c∧c<=65535)∧(0<=z->∀c∈cs,0<=c)
theorem As(s:Int)(h:val ls=0):∀c∈eC s ls,c=0:=fun c hc=>by
 induction ls with
 |nil=>cases hc
 |cons l r ih=>
  have h:l+4294967296*val r=0:=h;have h1:l=0:=by omega
  have h2:val r=0:=by omega
  subst h1;rw[eC]at hc;rcases List.mem_cons.1 hc with rfl|hc
  ·simp
  rcases List.mem_cons.1 hc with rfl|hc
  ·simp
  ·exact ih h2 hc
theorem fV.Ey{v:Value}{k:Nat}(h:fV w S v k z):∃b a ls c,v= .agg #[.bool b,.slice a ls.length c]∧dL w S (.slice a ls.length c) ls∧sg b (val ls)=z∧ls.length<=k:=by
 obtain⟨b,ls,⟨lv,rfl,hl⟩,hz,hk⟩:=h;obtain⟨a,c,rfl,_⟩:=hl.sl;exact⟨b,a,ls,c,rfl,hl,hz,hk⟩
theorem fV.ln{v:Value}{k:Nat}(h:fV w S v k z):ln z.natAbs<=k:=by
 obtain⟨b,a,ls,c,_,hl,hz,hk⟩:=h.Ey;rw[<-hz,sO];exact Kp hl.lm hk
theorem fV.neg{k:Nat}(h:fV w S (.agg #[.bool b,lv]) k z):fV w S (.agg #[.bool (!b),lv]) k (-z):=by
 obtain⟨b,ls,⟨lv,e,hl⟩,hz,hk⟩:=h;simp only[Value.agg.injEq,Array.mk.injEq,List.cons.injEq,Value.bool.injEq,and_true]at e;obtain⟨rfl,rfl⟩:=e;refine⟨_,ls,⟨_,rfl,hl⟩,?_,hk⟩;rw[<-hz]
 cases b<;>simp[sg]
theorem fV.abs{k:Nat}(h:fV w S (.agg #[.bool b,lv]) k z):fV w S (.agg #[.bool false,lv]) k (z.natAbs:Int):=by
 obtain⟨b,ls,⟨lv,e,hl⟩,hz,hk⟩:=h;simp only[Value.agg.injEq,Array.mk.injEq,List.cons.injEq,Value.bool.injEq,and_true]at e;obtain⟨rfl,rfl⟩:=e;exact⟨_,ls,⟨_,rfl,hl⟩,by rw[<-hz,sO];rfl,hk⟩
theorem q9{v:Value}{k:Nat}(hS:Old S w)(h:fV w S v k z)(hk:k<=40000000):
  eD PG N.ma #[v] w (eG w fun v' w2=>∃cs,dy w2 (Nf w w2) v' cs∧Ar cs (2*k) z):=by
 obtain⟨b,ls,hi,hz,hl⟩:=h;have PM:Lm ls:=by obtain⟨_,_,h⟩:=hi;exact h.lm
 refine(GW hS hi (by omega)).mono fun _ w2 ⟨v2,e1,e2,e3⟩=>⟨v2,e1,e2,_,e3,by rw[CX,MG,hz],by rw[iF];omega,zD (NN b) PM,fun h0=>?_⟩
 cases b with
 |false=>exact fun c hc=>(wz PM c hc).1
 |true=>
  rw[KK]at hz;exact fun c hc=>by rw[As _ (show val ls=0 by omega) c hc];decide
theorem GX{v:Value}{n:Nat}(hS:Old S w)(h:dy w S v cs)(hb:Ar cs n z)(hn:n<=100000000):
  eD PG N.kD #[v] w (eG w fun v' w2=>dJ w2 (Nf w w2) v' z):=by
 have:=vS hS h (fun c hc=>by have:=hb.2.2.1 c hc;omega) (by have:=hb.2.1;omega);rw[hb.1]at this;exact this
theorem Kx{v:Value}{k:Nat}(hS:Old S w)(hx:fV w S v k x)(hk:k<=40000000):
  eD PG N.B6 #[v] w (eG w fun v' w2=>dJ w2 (Nf w w2) v' x):=by
 have hw:=bR w;replace hx:=hx.cJ (S':=Cv S w.heap.size []) fun _ h=>.inl h;obtain⟨b1,a1,n1,c1,rfl⟩:=hx.shape;refine Cl (by simp) ?_;refine cD (cE hw (fun _ w' v w2=>∃cs,dy w2 (Nf w' w2) v cs∧Ar cs (2*k) (x)) (fun O w' r=>q9 (Rel.old r hS) (hx.rel r hS) (by omega)) ?_);rintro O _ _ _ OM r he hw h_ ⟨cs,k1,bcs⟩;have hc:=k1.dE (S:=FF) r.cF (mN h_);obtain⟨acs,ccs,rfl,lcs⟩:=hc.shape;refine cD (cE hw (fun _ w' v w2=>dJ w2 (Nf w' w2) v (x)) (fun O w' r=>GX (Rel.old r (cC w)) (hc.rel r (cC w)) bcs (by omega)) ?_);rintro O _ _ _ OK r he hw h_ hn;have hC:=hn.dE (S:=FF) r.cF (mN h_);obtain⟨A0,A1,A2,A3,rfl⟩:=hC.shape;exact rtn hw fun ρe we re=>hC.out re (cC w)
theorem lZ{v:Value}{k:Nat}(hS:Old S w)(hx:fV w S v k x)(hk:k<=40000000):
  eD PG N.wO #[v] w (eG w fun v' w2=>dJ w2 (Nf w w2) v' (-x)):=by
 have hw:=bR w;replace hx:=hx.cJ (S':=Cv S w.heap.size []) fun _ h=>.inl h;obtain⟨b1,a1,n1,c1,rfl⟩:=hx.shape;replace hx:=hx.neg;refine zc (by simp) ?_;refine cD (cE hw (fun _ w' v w2=>dJ w2 (Nf w' w2) v (-x)) (fun O w' r=>Kx (Rel.old r hS) (hx.rel r hS) hk) ?_);rintro O _ _ _ OM r he hw h_ hn;have hC:=hn.dE (S:=FF) r.cF (mN h_);obtain⟨A0,A1,A2,A3,rfl⟩:=hC.shape;exact rtn hw fun ρe we re=>hC.out re (cC w)
theorem xn{v:Value}{k:Nat}(hS:Old S w)(hx:fV w S v k x)(hk:k<=40000000):
  eD PG N.zK #[v] w (eG w fun v' w2=>dJ w2 (Nf w w2) v' ((x.natAbs:Int))):=by
 have hw:=bR w;replace hx:=hx.cJ (S':=Cv S w.heap.size []) fun _ h=>.inl h;obtain⟨b1,a1,n1,c1,rfl⟩:=hx.shape;replace hx:=hx.abs;refine Ad (by simp) ?_;refine cD (cE hw (fun _ w' v w2=>dJ w2 (Nf w' w2) v ((x.natAbs:Int))) (fun O w' r=>Kx (Rel.old r hS) (hx.rel r hS) hk) ?_);rintro O _ _ _ OM r he hw h_ hn;have hC:=hn.dE (S:=FF) r.cF (mN h_);obtain⟨A0,A1,A2,A3,rfl⟩:=hC.shape;exact rtn hw fun ρe we re=>hC.out re (cC w)
theorem M0{v:Value}{i:Nat}(hS:Old S w)(h:dy w S v cs):
  eD PG N.EP #[v,.int .i64 i] w (eG w fun v' _=>v'= .int .i64 (cs.getD i 0)):=by
 obtain⟨a,c,rfl,hc⟩:=h.shape;refine ES (by simp) ?_;refine dN.mk ?_ ?_<;>intro hi
 ·have hi:i<cs.length:=by simpa using hi
  obtain⟨x,hx⟩:∃x,cs[i]? =some x:=⟨_,aB hi⟩
  obtain⟨ad,rfl,q1,q2⟩:=h.load hx;refine⟨ad,rfl,by omega,.int .i64 x,fun O w' r=>?_,?_⟩
  ·rw[aE];exact kM hS eB.refl r q1 q2
  intro O w2 r;exact⟨_,rfl,r.cQ,by rw[List.getD,hx];rfl⟩
 ·have hi:cs.length<=i:=by
   have:¬i<cs.length:=by simpa using hi
   omega
  intro O w2 r;exact⟨_,rfl,r.cQ,by rw[List.getD,List.getElem?_eq_none hi];rfl⟩
theorem val_zero(h:∀x∈ls,x=0):val ls=0:=by
 induction ls with
 |nil=>rfl
 |cons l r ih=>rw[val,h l aG,ih fun x hx=>h x (List.mem_cons_of_mem _ hx)]
theorem MH{x:Nat}(h:x∈ls)(hx:x≠0):0<val ls:=by
 induction ls with
 |nil=>cases h
 |cons l r ih=>
  rw[val];rcases List.mem_cons.1 h with rfl|h
  ·omega
  ·have:=ih h;omega
theorem gV{v:Value}(hS:Old S w)(hx:j5 w S v x):
  eD PG N.zH #[v] w (eG w fun v' _=>v'= .int .i64 x.sign):=by
 obtain⟨b,ls,⟨lv,rfl,h1⟩,hz⟩:=hx;obtain⟨a,c,rfl,_,ha⟩:=h1.sl;have hle1:=h1.le;refine AZ (by simp) ?_
 refine⟨Nat×World,fun z=>⟨[(1,pP 0 0),(3,iZ z.1)],[(0,.box T.Int [.v (.bool b),.v (.slice a ls.length c)])],1,[],z.2⟩,fun z=>ls.length-z.1,
  fun z=>z.1<=ls.length∧eB w.heap.size w z.2∧∀x∈ls.take z.1,x=0,?_,?_⟩
 ·intro O w' r;exact⟨(0,w'),⟨by simp,r.cQ,by simp⟩,Sub.gn [] r⟩
 rintro⟨i,w1⟩ ⟨hi,hw,ht⟩;dsimp only at hi hw ht ⊢;refine dN.mk ?_ ?_<;>intro OF
 ·have OF:i<ls.length:=by simpa using OF
  obtain⟨y,hy⟩:∃x,ls[i]? =some x:=⟨_,aB OF⟩
  obtain⟨ad,rfl,q1,q2⟩:=ha i y hy;refine⟨ad,rfl,by omega,.int .u32 y,fun O w' r=>by rw[aE,aS];exact kM hS hw r q1 q2,?_⟩;refine dN.mk ?_ ?_<;>intro OG
  ·have OG:y≠0:=fun h=>by rw[h]at OG;simp at OG
   have hp:=MH (aC hy) OG
   cases b with
   |true=>
    rw[KK]at hz;intro O w2 r;exact⟨_,rfl,hw.tr r.cQ,by rw[bf (by omega)];rfl⟩
   |false=>
    rw[NA]at hz;intro O w2 r;exact⟨_,rfl,hw.tr r.cQ,by rw[bl (by omega)];rfl⟩
  have OG:y=0:=by simpa using OG
  subst OG;have SY:∀x∈ls.take (i+1),x=0:=fun x hx=>by
   rw[List.take_add_one,hy]at hx;rcases bG.1 hx with hx|hx
   ·exact ht x hx
   ·simpa using hx
  refine⟨((i+1:Nat):Int),wo,?_⟩;intro ρ3 w3 r3;exact⟨(i+1,w3),⟨OF,hw.tr r3.cQ,SY⟩,Sub.gn [] r3,by dsimp only;omega⟩
 have OF:i=ls.length:=by
  have:¬i<ls.length:=by simpa using OF
  omega
 subst OF;rw[bF]at ht;intro O w2 r;refine⟨_,rfl,hw.tr r.cQ,?_⟩;rw[<-hz,val_zero ht]
 cases b<;>rfl
theorem Ar.at{n:Nat}(h:Ar cs n z)(i:Nat): -65535<=cs.getD i 0∧cs.getD i 0<=65535:=by
 rw[List.getD]
 cases hj:cs[i]? with
 |none=>simp
 |some d=>exact h.2.2.1 d (aC hj)
end Go.Ex
namespace Go.Sx
open Go Go.Ex Go.Proofs
variable{cs:List Int}{O:Nat->Sx.dg}
theorem Rel.MI{H:Hp}{nx:Nat}{iv:Iv}{B:Nat}{w w':World}(r:Rel H nx iv B w O w'){id m:Nat}(h:dB H id=some (.vec T.int 1 (cs.map (Value.int .i64))))(hm:m=cs.length)(hl:m<=maxLen):
  ∃S',Old S' w'∧dy w' S' ((SV.o (.w id m)).den O) cs:=by
 have OH:=r.DK (m:=m) h (by rw[aJ,hm,aS]) (by decide);exact⟨_,fun g hg=>(ownsRow.low OH g hg).2,qZ OH hm hl⟩
end Go.Sx
namespace Go.Ex
open Go Go.Sx Go.Proofs
variable{x y:Int}{cs:List Int}{S:Nat->Prop}{O:Nat->Sx.dg}{u:Value}{w:World}
theorem me{H:Hp}{nx:Nat}{iv:Iv}{B:Nat}{w':World}(r:Rel H nx iv B w O w'){id m:Nat}{z:Int}(h:dB H id=some (.vec T.int 1 (cs.map (Value.int .i64))))(hm:m=cs.length)(hl:m<=100000000)
  (hb:∀c∈cs,-1152921504606846976<=c∧c<=1152921504606846976) (hz:dP cs=z):eD PG N.kD #[(SV.o (.w id m)).den O] w' (eG w' fun v' w2=>dJ w2 (Nf w' w2) v' z):=by
 subst hz;obtain⟨S',h1,h2⟩:=r.MI h hm (by unfold maxLen;omega);exact vS h1 h2 hb (by omega)
theorem AG{v:Value}{k l:Nat}(hS:Old S w)(hx:fV w S v k x)(hy:fV w S u l y)(hk:k<=10000000)(hl:l<=10000000):
  eD PG N.B4 #[v,u] w (eG w fun v' w2=>dJ w2 (Nf w w2) v' (x+y)):=by
 have hw:=bR w;replace hx:=hx.cJ (S':=Cv S w.heap.size []) fun _ h=>.inl h;replace hy:=hy.cJ (S':=Cv S w.heap.size []) fun _ h=>.inl h;obtain⟨b1,a1,n1,c1,rfl⟩:=hx.shape;obtain⟨b2,a2,n2,c2,rfl⟩:=hy.shape;refine Cc (by simp) ?_;refine cN hτ dm [.x 0,.x 2,.x 1,.x 3,.x 4,.x 5] (by kernel_rfl) (by kernel_rfl) ?_;refine cE hw (fun _ w' v w2=>∃cs,dy w2 (Nf w' w2) v cs∧Ar cs (2*k) (x)) (fun O w' r=>q9 (Rel.old r hS) (hx.rel r hS) (by omega)) ?_;rintro O _ _ _ OM r he hw h_ ⟨ca,k1,bca⟩;replace hy:=hy.cG r hS he (mC h_);have Ox:=k1.dE (S:=FF) r.cF (mN h_);obtain⟨aca,cca,rfl,lca⟩:=Ox.shape;refine cE hw (fun _ w' v w2=>∃cs,dy w2 (Nf w' w2) v cs∧Ar cs (2*l) (y)) (fun O w' r=>q9 (Rel.old r hS) (hy.rel r hS) (by omega)) ?_;rintro O _ _ _ OK r he hw h_ ⟨cb,k1,bcb⟩;replace Ox:=Ox.cG r (cC w) he (mC h_);have Pu:=k1.dE (S:=FF) r.cF (mN h_);obtain⟨acb,ccb,rfl,lcb⟩:=Pu.shape
 refine⟨Nat×World×Iv,fun z=>⟨[(4,pP 2 0),(5,sV aca ca.length cca),(6,sV acb cb.length ccb),(7,.o (.w 3 z.1)),(8,iZ z.1)],[(3,.vec T.int 1 (((List.range z.1).map fun j=>ca.getD j 0+cb.getD j 0).map (Value.int .i64))),(2,.box T.Int [.v (.bool false),.v (.slice none 0 0)])],4,z.2.2,z.2.1⟩,fun z=>max ca.length cb.length-z.1,
  fun z=>z.1<=max ca.length cb.length∧eB w.heap.size w z.2.1∧dy z.2.1 (Cf w z.2.2) (.slice aca ca.length cca) ca∧dy z.2.1 (Cf w z.2.2) (.slice acb cb.length ccb) cb,?_,?_⟩
 ·intro O w' r
  exact⟨(0,w',OK),⟨by simp,hw.tr r.cQ,Ox.rel r (cC w),Pu.rel r (cC w)⟩,Sub.nil 7 T.int 1 rfl (by simp[jN,SV.sc,At.sc,fW]) r fun ρ1 r1=>
   Sub.gn [] r1⟩
 rintro⟨i,w1,iv⟩ ⟨hi,hw,Ox,Pu⟩;dsimp only at hi hw Ox Pu ⊢;have l1:=bca.2.1;have l2:=bcb.2.1;refine dN.mk ?_ ?_<;>intro OF
 ·have OF:i<max ca.length cb.length:=by
   have:=aI OF;omega
  have q1:=bca.at i;have q2:=bcb.at i;refine cD (cE hw (fun _ w' v w2=>v= .int .i64 (ca.getD i 0)) (fun O w' r=>M0 (Rel.old r (cC w)) (Ox.rel r (cC w))) ?_);rintro O PQ v3 PN OS r he hw h_ rfl;replace Ox:=Ox.cG r (cC w) he (mC h_);replace Pu:=Pu.cG r (cC w) he (mC h_);refine cD (cE hw (fun _ w' v w2=>v= .int .i64 (cb.getD i 0)) (fun O w' r=>M0 (Rel.old r (cC w)) (Pu.rel r (cC w))) ?_);rintro O _ _ _ Oe r he hw h_ rfl;replace Ox:=Ox.cG r (cC w) he (mC h_);replace Pu:=Pu.cG r (cC w) he (mC h_);refine⟨ca.getD i 0+cb.getD i 0,wo,?_⟩;refine .inl ?_;refine⟨by simp,by omega,by unfold maxLen;omega,((i+1:Nat):Int),wo,?_⟩;intro ρ3 w3 r3;have TC:((List.range (i+1)).map fun j=>ca.getD j 0+cb.getD j 0).map (Value.int .i64)=((List.range i).map fun j=>ca.getD j 0+cb.getD j 0).map (Value.int .i64)++[.int .i64 (ca.getD i 0+cb.getD i 0)]:=by
   rw[bO,List.map_append,List.map_append];rfl
  exact⟨(i+1,w3,_),⟨OF,hw.tr r3.cQ,Ox.rel r3 (cC w),Pu.rel r3 (cC w)⟩,Sub.gn [(3,5)] r3 ⟨by dsimp only;rw[TC];rfl,rfl,trivial⟩,by dsimp only;omega⟩
 have OF:i=max ca.length cb.length:=by
  have:=aH OF;omega
 generalize Om:((List.range i).map fun j=>ca.getD j 0+cb.getD j 0)=cs;have hz:dP cs=x+y:=by
  rw[<-Om,zB,zC,pG ca i (by omega),pG cb i (by omega),bca.1,bcb.1]
 have hlen:i=cs.length:=by rw[<-Om];simp
 have Oc:∀c∈cs,-1152921504606846976<=c∧c<=1152921504606846976:=fun c hc=>by
  rw[<-Om]at hc;obtain⟨j,_,rfl⟩:=aT.1 hc;have:=bca.at j;have:=bcb.at j;omega
 refine cD (cE hw (fun _ w' v w2=>dJ w2 (Nf w' w2) v (x+y)) (fun O w' r=>me r rfl hlen (by omega) Oc hz) ?_);rintro O _ _ _ OS r he hw h_ hn;have hC:=hn.dE (S:=FF) r.cF (mN h_);obtain⟨A0,A1,A2,A3,rfl⟩:=hC.shape;exact rtn hw fun ρe we re=>hC.out re (cC w)
theorem DM{v:Value}{k l:Nat}(hS:Old S w)(hx:fV w S v k x)(hy:fV w S u l y)(hk:k<=10000000)(hl:l<=10000000):
  eD PG N.zJ #[v,u] w (eG w fun v' w2=>dJ w2 (Nf w w2) v' (x-y)):=by
 have QY:=hy.ln;have hw:=bR w;replace hx:=hx.cJ (S':=Cv S w.heap.size []) fun _ h=>.inl h;replace hy:=hy.cJ (S':=Cv S w.heap.size []) fun _ h=>.inl h;obtain⟨b1,a1,n1,c1,rfl⟩:=hx.shape;obtain⟨b2,a2,n2,c2,rfl⟩:=hy.shape;refine Ac (by simp) ?_;refine cN hτ dm [.x 0,.x 1,.x 2,.x 3,.x 4] (by kernel_rfl) (by kernel_rfl) ?_;refine cE hw (fun _ w' v w2=>dJ w2 (Nf w' w2) v (-y)) (fun O w' r=>lZ (Rel.old r hS) (hy.rel r hS) (by omega)) ?_;rintro O _ _ _ OM r he hw h_ hn;replace hx:=hx.cG r hS he (mC h_);have hm:=hn.dE (S:=FF) r.cF (mN h_);obtain⟨A0,A1,A2,A3,rfl⟩:=hm.shape;refine cE hw (fun _ w' v w2=>dJ w2 (Nf w' w2) v (x-y)) (fun O w' r=>?_) ?_
 ·have h:=AG (Rel.old r hS) (hx.rel r hS) (((hm.rel r (cC w)).l (k:=l) (by rw[cB];exact QY)).cJ fun g hg=>Cv.false hg) hk hl;rw[<-Int.sub_eq_add_neg]at h;exact h
 rintro O _ _ _ OK r he hw h_ hn;have hC:=hn.dE (S:=FF) r.cF (mN h_);obtain⟨C0,C1,C2,C3,rfl⟩:=hC.shape;exact rtn hw fun ρe we re=>hC.out re (cC w)
theorem I4{v:Value}{k l:Nat}(hS:Old S w)(hx:fV w S v k x)(hy:fV w S u l y)(hk:k<=10000000)(hl:l<=10000000):
  eD PG N.tS #[v,u] w (eG w fun v' _=>v'= .int .i64 (x-y).sign):=by
 have hw:=bR w;replace hx:=hx.cJ (S':=Cv S w.heap.size []) fun _ h=>.inl h;replace hy:=hy.cJ (S':=Cv S w.heap.size []) fun _ h=>.inl h;obtain⟨b1,a1,n1,c1,rfl⟩:=hx.shape;obtain⟨b2,a2,n2,c2,rfl⟩:=hy.shape;refine xL (by simp) ?_;refine cD (cE hw (fun _ w' v w2=>dJ w2 (Nf w' w2) v (x-y)) (fun O w' r=>DM (Rel.old r hS) (hx.rel r hS) (hy.rel r hS) hk hl) ?_);rintro O _ _ _ OM r he hw h_ hn;have hd:=hn.dE (S:=FF) r.cF (mN h_);obtain⟨A0,A1,A2,A3,rfl⟩:=hd.shape;refine cD (cE hw (fun _ w' v w2=>v= .int .i64 (x-y).sign) (fun O w' r=>gV (Rel.old r (cC w)) (hd.rel r (cC w)).r) ?_);rintro O _ _ _ OK r he hw h_ rfl;exact rtn hw fun ρe we re=>rfl
end Go.Ex
namespace Go.Ex
open Go Go.Sx Go.Proofs
variable{S:Nat->Prop}
theorem I5{x y:Int}(hx: -65535<=x∧x<=65535)(hy: -65535<=y∧y<=65535):(x*y).natAbs<=4294836225:=by
 rw[Int.natAbs_mul];exact Nat.mul_le_mul (show x.natAbs<=65535 by omega) (show y.natAbs<=65535 by omega)
theorem CA{a b:List Int}{i k:Nat}(hk:k<=i+1)(h:i<k∨a.length<=k):iL a b i k=gF a b i:=by
 rcases h with h|h
 ·rw[gF,show i+1=k by omega]
 ·obtain⟨m,hm⟩:∃m,i+1=k+m:=⟨i+1-k,by omega⟩
  rw[gF,hm,Fq a b i k m h]
theorem iD{w:World}{v u:Value}{k l:Nat}{x y:Int}(hS:Old S w)(hx:fV w S v k x)(hy:fV w S u l y)(hk:k<=10000000)(hl:l<=10000000):
  eD PG N.zI #[v,u] w (eG w fun v' w2=>dJ w2 (Nf w w2) v' (x*y)):=by
 have hw:=bR w;replace hx:=hx.cJ (S':=Cv S w.heap.size []) fun _ h=>.inl h;replace hy:=hy.cJ (S':=Cv S w.heap.size []) fun _ h=>.inl h;obtain⟨b1,a1,n1,c1,rfl⟩:=hx.shape;obtain⟨b2,a2,n2,c2,rfl⟩:=hy.shape;refine Aa (by simp) ?_;refine cN hτ dm [.x 0,.x 2,.x 1,.x 3,.x 4,.x 5] (by kernel_rfl) (by kernel_rfl) ?_;refine cE hw (fun _ w' v w2=>∃cs,dy w2 (Nf w' w2) v cs∧Ar cs (2*k) (x)) (fun O w' r=>q9 (Rel.old r hS) (hx.rel r hS) (by omega)) ?_;rintro O _ _ _ OM r he hw h_ ⟨ca,k1,bca⟩;replace hy:=hy.cG r hS he (mC h_);have Ox:=k1.dE (S:=FF) r.cF (mN h_);obtain⟨aca,cca,rfl,lca⟩:=Ox.shape;refine cE hw (fun _ w' v w2=>∃cs,dy w2 (Nf w' w2) v cs∧Ar cs (2*l) (y)) (fun O w' r=>q9 (Rel.old r hS) (hy.rel r hS) (by omega)) ?_;rintro O _ _ _ OK r he hw h_ ⟨cb,k1,bcb⟩;replace Ox:=Ox.cG r (cC w) he (mC h_);have Pu:=k1.dE (S:=FF) r.cF (mN h_);obtain⟨acb,ccb,rfl,lcb⟩:=Pu.shape;have l1:=bca.2.1;have l2:=bcb.2.1
 refine⟨Nat×World,fun z=>⟨[(4,pP 2 0),(5,sV aca ca.length cca),(6,sV acb cb.length ccb),(7,.o (.w 3 z.1)),(8,iN z.1)],[(3,.vec T.int 1 (((List.range z.1).map (gF ca cb)).map (Value.int .i64))),(2,.box T.Int [.v (.bool false),.v (.slice none 0 0)])],4,OK,z.2⟩,fun z=>ca.length+cb.length-z.1,
  fun z=>(z.1+1<=ca.length+cb.length∨z.1=0)∧eB w.heap.size w z.2∧dy z.2 (Cf w OK) (.slice aca ca.length cca) ca∧dy z.2 (Cf w OK) (.slice acb cb.length ccb) cb,?_,?_⟩
 ·intro O w' r
  exact⟨(0,w'),⟨by simp,hw.tr r.cQ,Ox.rel r (cC w),Pu.rel r (cC w)⟩,Sub.nil 7 T.int 1 rfl (by simp[jN,SV.sc,At.sc,fW]) r fun ρ1 r1=>
   Sub.gn [] r1⟩
 rintro⟨i,w1⟩ ⟨hi,hw,Ox,Pu⟩;dsimp only at hi hw Ox Pu ⊢;refine⟨((i+1:Nat):Int),wo,((ca.length+cb.length:Nat):Int),wo,?_⟩;refine dN.mk ?_ ?_<;>intro OF
 ·have OF:i+1<ca.length+cb.length:=by
   have:=aI OF;omega
  refine⟨(i:Int)-cb.length,wo,(i:Int)-cb.length+1,wo,?_⟩;conv=>whnf
  rw[show max 0 ((i:Int)-cb.length+1)=((i+1-cb.length:Nat):Int) by omega];obtain⟨k0,SA⟩:∃k0,k0=i+1-cb.length:=⟨_,rfl⟩
  rw[<-SA]
  refine⟨Nat×World,fun z=>⟨[(4,pP 2 0),(5,sV aca ca.length cca),(6,sV acb cb.length ccb),(7,.o (.w 3 i)),(8,iN i),(9,.o (.v (.int .i64 (iL ca cb i z.1)))),(10,iN z.1)],[(3,.vec T.int 1 (((List.range i).map (gF ca cb)).map (Value.int .i64))),(2,.box T.Int [.v (.bool false),.v (.slice none 0 0)])],4,OK,z.2⟩,fun z=>i+1-z.1,
   fun z=>k0<=z.1∧z.1<=i+1∧eB w.heap.size w z.2∧dy z.2 (Cf w OK) (.slice aca ca.length cca) ca∧dy z.2 (Cf w OK) (.slice acb cb.length ccb) cb,?_,?_⟩
  ·intro O w' r;refine⟨(k0,w'),⟨by simp,by dsimp only;omega,hw.tr r.cQ,Ox.rel r (cC w),Pu.rel r (cC w)⟩,Sub.gn [] r (hE:=⟨rfl,rfl,rfl,rfl,rfl,?_,rfl,trivial⟩)⟩;dsimp only
   rw[Fp ca cb i k0 k0 (fun j hj=>by omega) (by omega) (aF _)];rfl
  rintro⟨j,w2⟩ ⟨Ud,hj1,hw,Ox,Pu⟩;dsimp only at Ud hj1 hw Ox Pu ⊢;conv=>whnf
  refine dN.mk ?_ ?_<;>intro PA
  ·have PA:j<=i:=by
    have:=aI PA;omega
   refine dN.mk ?_ ?_<;>intro hja
   ·have hja:j<ca.length:=by
     have:=aI hja;omega
    obtain⟨p,hp⟩:∃p,ca[j]? =some p:=⟨_,aB hja⟩
    obtain⟨q,hq⟩:∃q,cb[i-j]? =some q:=⟨_,aB (by omega)⟩
    obtain⟨ad,rfl,q1,q2⟩:=Ox.load hp;obtain⟨ad2,rfl,q3,q4⟩:=Pu.load hq;have e1:ca.getD j 0=p:=by rw[List.getD,hp];rfl
    have e2:cb.getD (i-j) 0=q:=by rw[List.getD,hq];rfl
    have e3:iL ca cb i (j+1)=iL ca cb i j+p*q:=by rw[iL,e1,if_pos PA,e2]
    have m1:=bca.at j;have m2:=bcb.at (i-j);rw[e1]at m1;rw[e2]at m2;have m3:=I5 m1 m2;have m4:=lz (a:=ca) (b:=cb) (i:=i) bca.2.2.1 bcb.2.2.1 j;refine cN hτ dm [.x 0,.x 1,.x 2,.x 3,.x 4,.x 5,.x 6,.x 7,.x 8,.x 9,.x 10,.x 11,.x 12,.x 13] (by kernel_rfl) (by kernel_rfl) ?_;refine⟨ad,rfl,by omega,.int .i64 p,fun O w' r=>?_,?_⟩
    ·rw[aE,cH (w:=w2) (w2:=w') (by rw[dH];exact Rel.same (S:=FF) r (cC w) q1)];exact q2
    refine⟨((i-j:Nat):Int),wo,ad2,rfl,by omega,.int .i64 q,fun O w' r=>?_,?_⟩
    ·rw[aE,cH (w:=w2) (w2:=w') (by rw[dH];exact Rel.same (S:=FF) r (cC w) q3)];exact q4
    refine⟨p*q,wo,iL ca cb i (j+1),by rw[e3,wrap64]<;>omega,((j+1:Nat):Int),wo,?_⟩;intro ρ3 w3 r3;exact⟨(j+1,w3),⟨by dsimp only;omega,by dsimp only;omega,hw.tr r3.cQ,Ox.rel r3 (cC w),Pu.rel r3 (cC w)⟩,Sub.gn [] r3,by dsimp only;omega⟩
   have hja:ca.length<=j:=by
    have:=aH hja;omega
   rw[CA hj1 (.inr hja)];have m4:=lz (a:=ca) (b:=cb) (i:=i) bca.2.2.1 bcb.2.2.1 (i+1);refine .inl ?_;refine⟨by simp,by omega,by unfold maxLen;omega,((i+1:Nat):Int),wo,?_⟩;intro ρ3 w3 r3;have TC:((List.range (i+1)).map (gF ca cb)).map (Value.int .i64)=((List.range i).map (gF ca cb)).map (Value.int .i64)++[.int .i64 (gF ca cb i)]:=by
    rw[bO,List.map_append,List.map_append];rfl
   exact⟨(i+1,w3),⟨.inl OF,hw.tr r3.cQ,Ox.rel r3 (cC w),Pu.rel r3 (cC w)⟩,Sub.gn [(3,5)] r3 ⟨by dsimp only;rw[TC];rfl,rfl,trivial⟩,by dsimp only;omega⟩
  have PA:i<j:=by
   have:=aH PA;omega
  rw[CA hj1 (.inl PA)];have m4:=lz (a:=ca) (b:=cb) (i:=i) bca.2.2.1 bcb.2.2.1 (i+1);refine .inl ?_;refine⟨by simp,by omega,by unfold maxLen;omega,((i+1:Nat):Int),wo,?_⟩;intro ρ3 w3 r3;have TC:((List.range (i+1)).map (gF ca cb)).map (Value.int .i64)=((List.range i).map (gF ca cb)).map (Value.int .i64)++[.int .i64 (gF ca cb i)]:=by
   rw[bO,List.map_append,List.map_append];rfl
  exact⟨(i+1,w3),⟨.inl OF,hw.tr r3.cQ,Ox.rel r3 (cC w),Pu.rel r3 (cC w)⟩,Sub.gn [(3,5)] r3 ⟨by dsimp only;rw[TC];rfl,rfl,trivial⟩,by dsimp only;omega⟩
 have OF:ca.length+cb.length<=i+1:=by
  have:=aH OF;omega
 generalize Om:((List.range i).map (gF ca cb))=cs;have hz:dP cs=x*y:=by
  rw[<-Om,zB,Jq ca cb i OF,bca.1,bcb.1]
 have hlen:i=cs.length:=by rw[<-Om];simp
 have Oc:∀c∈cs,-1152921504606846976<=c∧c<=1152921504606846976:=fun c hc=>by
  rw[<-Om]at hc;obtain⟨j,hj,rfl⟩:=aT.1 hc;have hj:=List.mem_range.1 hj;have:=lz (a:=ca) (b:=cb) (i:=j) bca.2.2.1 bcb.2.2.1 (j+1);rw[gF];omega
 refine cD (cE hw (fun _ w' v w2=>dJ w2 (Nf w' w2) v (x*y)) (fun O w' r=>me r rfl hlen (by omega) Oc hz) ?_);rintro O _ _ _ OS r he hw h_ hn;have hC:=hn.dE (S:=FF) r.cF (mN h_);obtain⟨A0,A1,A2,A3,rfl⟩:=hC.shape;exact rtn hw fun ρe we re=>hC.out re (cC w)
end Go.Ex
namespace Go.Ex
theorem Hg{b r r2 q X n c:Int}(h:X=b*q+r)(hr:r*65536+c=b*n+r2):c+65536*X=b*(n+65536*q)+r2:=by
 rw[h,Int.mul_add,Int.mul_add,Int.mul_left_comm b 65536 q];omega
theorem JB{x y Q R:Int}(hy:y≠0)(h:(x.natAbs:Int)=(y.natAbs:Int)*Q+R)(h0:0<=R)(h1:R<(y.natAbs:Int)):
  (if x<0∧0<R then(if (x<0)↔(y<0)then(Q+1)else -(Q+1))else(if (x<0)↔(y<0)then Q else -Q))=x / y∧(if x<0∧0<R then(y.natAbs:Int)-R else R)=x % y:=by
 have key:∀q r:Int,r+y*q=x->0<=r->r<(y.natAbs:Int)->q=x / y∧r=x % y:=by
  intro q r e1 e2 e3;have m:x % y=r:=by
   rw[<-e1,Int.add_mul_emod_self_left];rcases Int.lt_or_lt_of_ne hy with h|h
   ·rw[<-Int.emod_neg,Int.emod_eq_of_lt e2 (by omega)]
   ·exact Int.emod_eq_of_lt e2 (by omega)
  have d:=Int.mul_ediv_add_emod x y;rw[m]at d;exact⟨(Int.eq_of_mul_eq_mul_left hy (by omega)),m.symm⟩
 by_cases hx:x<0
 ·have ex:(x.natAbs:Int)= -x:=by omega
  by_cases hy':y<0
  ·have ey:(y.natAbs:Int)= -y:=by omega
   rw[ex,ey,Int.neg_mul]at h;by_cases hR:0<R
   ·rw[if_pos (show x<0∧0<R from⟨hx,hR⟩),if_pos (show x<0∧0<R from⟨hx,hR⟩),if_pos (show (x<0)↔(y<0) by simp[hx,hy'])];exact key _ _ (by rw[Int.mul_add,Int.mul_one];omega) (by omega) (by omega)
   ·rw[aK (show ¬(x<0∧0<R) by omega),aK (show ¬(x<0∧0<R) by omega),if_pos (show (x<0)↔(y<0) by simp[hx,hy'])];exact key _ _ (by omega) h0 h1
  ·have ey:(y.natAbs:Int)=y:=by omega
   rw[ex,ey]at h;have hn:¬((x<0)↔(y<0)):=by simp[hx,hy']
   by_cases hR:0<R
   ·rw[if_pos (show x<0∧0<R from⟨hx,hR⟩),if_pos (show x<0∧0<R from⟨hx,hR⟩),aK hn];exact key _ _ (by rw[Int.mul_neg,Int.mul_add,Int.mul_one];omega) (by omega) (by omega)
   ·rw[aK (show ¬(x<0∧0<R) by omega),aK (show ¬(x<0∧0<R) by omega),aK hn];exact key _ _ (by rw[Int.mul_neg];omega) h0 h1
 ·have ex:(x.natAbs:Int)=x:=by omega
  rw[aK (show ¬(x<0∧0<R) by omega),aK (show ¬(x<0∧0<R) by omega)];by_cases hy':y<0
  ·have ey:(y.natAbs:Int)= -y:=by omega
   rw[ex,ey,Int.neg_mul]at h;rw[aK (show ¬((x<0)↔(y<0)) by simp[hx,hy'])];exact key _ _ (by rw[Int.mul_neg];omega) h0 h1
  ·have ey:(y.natAbs:Int)=y:=by omega
   rw[ex,ey]at h;rw[if_pos (show (x<0)↔(y<0) by simp[hx,hy'])];exact key _ _ (by omega) h0 h1
theorem gB(z:Int):(z<0∧z.sign= -1)∨(z=0∧z.sign=0)∨(0<z∧z.sign=1):=by
 rcases Int.lt_trichotomy z 0 with h|h|h
 ·exact .inl ⟨h,bf h⟩
 ·exact .inr (.inl ⟨h,by rw[h];rfl⟩)
 ·exact .inr (.inr ⟨h,bl h⟩)
end Go.Ex
namespace Go.Ex
open Go Go.Sx Go.Proofs
variable{Q:List Int}{S:Nat->Prop}
def Kz:Value:=.agg #[.bool false,.slice none 0 0]
theorem dJ.nil(w:World)(S:Nat->Prop):dJ w S (.agg #[.bool false,.slice none 0 0]) 0:=⟨[],⟨_,rfl,dL.nil _ _⟩,fun x h=>by simp at h,rfl⟩
theorem aAQ(h:∀c∈Q,0<=c∧c<=65535):0<=dP Q:=by
 induction Q with
 |nil=>exact Int.le_refl _
 |cons c r ih=>
  have h1:=h c aG;have h2:=ih fun x hx=>h x (List.mem_cons_of_mem _ hx);rw[dP];omega
theorem AH{n:Int}(h:0<=n)(h2:n<4294967296):ln n.natAbs<=1:=gQ.2 (by show n.natAbs<4294967296^1;omega)
theorem I6{w:World}{v u:Value}{k l:Nat}{x y:Int}(hS:Old S w)(hx:fV w S v k x)(hy:fV w S u l y)(hk:k<=1000000)(hl:l<=1000000):
  eD PG N.nk #[v,u] w (eG w fun v' w2=>(y=0∧v'= .tuple #[Kz,Kz,.int .i64 9])∨(y≠0∧∃q r,v'= .tuple #[q,r,.int .i64 0]∧dJ w2 (Nf w w2) q (x / y)∧dJ w2 (Nf w w2) r (x % y))):=by
 have hw:=bR w;replace hx:=hx.cJ (S':=Cv S w.heap.size []) fun _ h=>.inl h;replace hy:=hy.cJ (S':=Cv S w.heap.size []) fun _ h=>.inl h;obtain⟨b1,a1,n1,c1,rfl⟩:=hx.shape;obtain⟨b2,a2,n2,c2,rfl⟩:=hy.shape;refine xN (by simp) ?_;have QY:=hy.ln;refine cD (cE hw (fun _ w' v w2=>v= .int .i64 y.sign) (fun O w' r=>gV (Rel.old r hS) (hy.rel r hS).r) ?_);rintro O _ _ _ OM r he hw h_ rfl;replace hx:=hx.cG r hS he (mC h_);replace hy:=hy.cG r hS he (mC h_);refine dN.mk ?_ ?_<;>intro Pe
 ·have Pe:y=0:=by rcases gB y with h|h|h<;>simp[h]at Pe ⊢
  exact rtn hw fun ρe we re=>.inl ⟨Pe,rfl⟩
 have Pe:y≠0:=fun e=>by rw[e]at Pe;simp at Pe
 refine cN hτ dm [.x 0,.x 3,.p 5,.x 1,.x 2,.x 4,.x 5,.x 6,.x 7] (by kernel_rfl) (by kernel_rfl) ?_;refine cE hw (fun _ w' v w2=>dJ w2 (Nf w' w2) v ((x.natAbs:Int))) (fun O w' r=>xn (Rel.old r hS) (hx.rel r hS) (by omega)) ?_;rintro O _ _ _ OK r he hw h_ hn;replace hx:=hx.cG r hS he (mC h_);replace hy:=hy.cG r hS he (mC h_);have hsx:=hn.dE (S:=FF) r.cF (mN h_);obtain⟨A0,A1,A2,A3,rfl⟩:=hsx.shape;have Of:=hx.ln;refine cE hw (fun _ w' v w2=>∃cs,dy w2 (Nf w' w2) v cs∧Ar cs (2*k) ((x.natAbs:Int))) (fun O w' r=>q9 (Rel.old r (cC w)) ((hsx.rel r (cC w)).l (k:=k) (by rw[Int.natAbs_natCast];exact Of)) (by omega)) ?_;rintro O _ _ _ OS r he hw h_ ⟨ca,k1,bca⟩;replace hx:=hx.cG r hS he (mC h_);replace hy:=hy.cG r hS he (mC h_);have Ox:=k1.dE (S:=FF) r.cF (mN h_);obtain⟨aca,cca,rfl,lca⟩:=Ox.shape;refine cE hw (fun _ w' v w2=>dJ w2 (Nf w' w2) v ((y.natAbs:Int))) (fun O w' r=>xn (Rel.old r hS) (hy.rel r hS) (by omega)) ?_;rintro O _ _ _ Oe r he hw h_ hn;replace hx:=hx.cG r hS he (mC h_);replace hy:=hy.cG r hS he (mC h_);replace Ox:=Ox.cG r (cC w) he (mC h_);have OR:=hn.dE (S:=FF) r.cF (mN h_);obtain⟨C0,C1,C2,C3,rfl⟩:=OR.shape;generalize hB:(y.natAbs:Int)=B at*
 have l1:=bca.2.1;have hB0:0<B:=by omega
 have lB:ln B.natAbs<=l:=by rw[<-hB,Int.natAbs_natCast];exact QY
 refine⟨(ca.length:Int)-1,wo,Nat×List Int×Int×(Bool×Option Addr×Nat×Nat)×World×Iv,fun z=>⟨[(2,pP 0 0),(3,pP 1 0),(4,pP 2 0),(5,pP 3 0),(6,iZ 0),(7,sV aca ca.length cca),(8,pP 4 0),(9,.o (.w 6 z.2.1.length)),(10,pP 5 0),(11,.o (.v (.int .i64 ((z.1:Int)-1))))],[(6,.vec T.int 1 (z.2.1.map (Value.int .i64))),(5,.box T.Int [.v (.bool z.2.2.2.1.1),.v (.slice z.2.2.2.1.2.1 z.2.2.2.1.2.2.1 z.2.2.2.1.2.2.2)]),(4,.box T.Int [.v (.bool C0),.v (.slice C1 C2 C3)]),(3,.box T.Int [.v (.bool false),.v (.slice none 0 0)]),(2,.box T.Int [.v (.bool false),.v (.slice none 0 0)]),(1,.box T.Int [.v (.bool b2),.v (.slice a2 n2 c2)]),(0,.box T.Int [.v (.bool b1),.v (.slice a1 n1 c1)])],7,z.2.2.2.2.2,z.2.2.2.2.1⟩,fun z=>z.1,
  fun z=>z.1<=ca.length∧z.2.1.length+z.1=ca.length∧(∀c∈z.2.1,0<=c∧c<=65535)∧dP (ca.drop z.1)=B*dP z.2.1+z.2.2.1∧0<=z.2.2.1∧z.2.2.1<B∧eB w.heap.size w z.2.2.2.2.1∧fV z.2.2.2.2.1 (Cv S w.heap.size z.2.2.2.2.2) (.agg #[.bool b1,.slice a1 n1 c1]) k x∧fV z.2.2.2.2.1 (Cv S w.heap.size z.2.2.2.2.2) (.agg #[.bool b2,.slice a2 n2 c2]) l y∧dy z.2.2.2.2.1 (Cf w z.2.2.2.2.2) (.slice aca ca.length cca) ca∧dJ z.2.2.2.2.1 (Cf w z.2.2.2.2.2) (.agg #[.bool C0,.slice C1 C2 C3]) B∧dJ z.2.2.2.2.1 (Cf w z.2.2.2.2.2) (.agg #[.bool z.2.2.2.1.1,.slice z.2.2.2.1.2.1 z.2.2.2.1.2.2.1 z.2.2.2.1.2.2.2]) z.2.2.1,?_,?_⟩
 ·intro O w' r
  exact⟨(ca.length,[],0,(false,none,0,0),w',Oe),⟨aF _,by simp,by simp,by simp[dP],Int.le_refl _,hB0,hw.tr r.cQ,hx.rel r hS,hy.rel r hS,Ox.rel r (cC w),OR.rel r (cC w),dJ.nil _ _⟩,Sub.nil 9 T.int 1 rfl (by simp[jN,SV.sc,At.sc]) r fun ρ1 r1=>
   Sub.gn [] r1⟩
 rintro⟨j,Q,R,⟨br,ar,nr,cr⟩,w1,iv⟩ ⟨hj,hQ,hd,hv,hR0,hR1,hw,hx,hy,Ox,OR,hr⟩;dsimp only at hj hQ hd hv hR0 hR1 hw hx hy Ox OR hr ⊢;refine dN.mk ?_ ?_<;>intro OF
 ·obtain⟨i,rfl⟩:∃i,j=i+1:=⟨j-1,by have:(j:Int)-1≥0:=aI OF;omega⟩
  rw[show ((i+1:Nat):Int)-1=(i:Int) by omega];obtain⟨d,SL⟩:∃d,ca[i]? =some d:=⟨_,aB (by omega)⟩
  have Vt:=bca.2.2.1 d (aC SL);have PC:=bca.2.2.2 (by omega) d (aC SL);have lR:ln R.natAbs<=l:=ah (fG (by omega)) lB;have lU:ln (65536:Int).natAbs<=1:=by decide
  have m1:=cw R 65536;have m2:=AH (n:=d) PC (by omega);have m3:=iY (R*65536) d;refine cN hτ dm [.x 0,.x 3,.x 4,.x 5,.x 6,.x 1,.x 2,.x 7,.x 8,.x 9] (by kernel_rfl) (by kernel_rfl) ?_;obtain⟨ad,ha0,q1,q2⟩:=Ox.load SL;refine⟨ad,ha0,by omega,.int .i64 d,fun O w' r=>?_,?_⟩
  ·rw[aE,cH (w:=w1) (w2:=w') (by rw[dH];exact Rel.same (S:=FF) r (cC w) q1)];exact q2
  refine cE hw (fun _ w' v w2=>dJ w2 (Nf w' w2) v (65536)) (fun O w' r=>kZ _ w' (by decide) (by decide)) ?_;rintro O Rr v5 Rg Pp r he hw h_ hn;replace hx:=hx.cG r hS he (mC h_);replace hy:=hy.cG r hS he (mC h_);replace Ox:=Ox.cG r (cC w) he (mC h_);replace OR:=OR.cG r (cC w) he (mC h_);replace hr:=hr.cG r (cC w) he (mC h_);have hu:=hn.dE (S:=FF) r.cF (mN h_);obtain⟨E0,E1,E2,E3,rfl⟩:=hu.shape;refine cE hw (fun _ w' v w2=>dJ w2 (Nf w' w2) v (R*65536)) (fun O w' r=>iD (Rel.old r (cC w)) ((hr.rel r (cC w)).l (k:=1000001) (by omega)) ((hu.rel r (cC w)).l (k:=1000001) (by omega)) (by omega) (by omega)) ?_;rintro O SI v6 SO Qy r he hw h_ hn;replace hx:=hx.cG r hS he (mC h_);replace hy:=hy.cG r hS he (mC h_);replace Ox:=Ox.cG r (cC w) he (mC h_);replace OR:=OR.cG r (cC w) he (mC h_);have hp:=hn.dE (S:=FF) r.cF (mN h_);obtain⟨F0,F1,F2,F3,rfl⟩:=hp.shape;refine cE hw (fun _ w' v w2=>dJ w2 (Nf w' w2) v (d)) (fun O w' r=>kZ _ w' (by omega) (by omega)) ?_;rintro O Um v7 Un TN r he hw h_ hn;replace hx:=hx.cG r hS he (mC h_);replace hy:=hy.cG r hS he (mC h_);replace Ox:=Ox.cG r (cC w) he (mC h_);replace OR:=OR.cG r (cC w) he (mC h_);replace hp:=hp.cG r (cC w) he (mC h_);have hdd:=hn.dE (S:=FF) r.cF (mN h_);obtain⟨G0,G1,G2,G3,rfl⟩:=hdd.shape;refine cE hw (fun _ w' v w2=>dJ w2 (Nf w' w2) v (R*65536+d)) (fun O w' r=>AG (Rel.old r (cC w)) ((hp.rel r (cC w)).l (k:=1000002) (by omega)) ((hdd.rel r (cC w)).l (k:=1000002) (by omega)) (by omega) (by omega)) ?_;rintro O RT v8 Qm Q2 r he hw h_ hn;replace hx:=hx.cG r hS he (mC h_);replace hy:=hy.cG r hS he (mC h_);replace Ox:=Ox.cG r (cC w) he (mC h_);replace OR:=OR.cG r (cC w) he (mC h_);have hr:=hn.dE (S:=FF) r.cF (mN h_);obtain⟨J0,J1,J2,J3,rfl⟩:=hr.shape;generalize Qs:R*65536+d=R2 at*
  have hR20:0<=R2:=by omega
  have hR21:R2<65536*B:=by omega
  refine⟨Nat×Nat×Nat×World×Iv,fun z=>⟨[(2,pP 0 0),(3,pP 1 0),(4,pP 2 0),(5,pP 3 0),(6,iZ 0),(7,sV aca ca.length cca),(8,pP 4 0),(9,.o (.w 6 Q.length)),(10,pP 5 0),(11,.o (.v (.int .i64 ((i:Int))))),(12,iN z.1),(13,iN z.2.2.1)],[(6,.vec T.int 1 (Q.map (Value.int .i64))),(5,.box T.Int [.v (.bool J0),.v (.slice J1 J2 J3)]),(4,.box T.Int [.v (.bool C0),.v (.slice C1 C2 C3)]),(3,.box T.Int [.v (.bool false),.v (.slice none 0 0)]),(2,.box T.Int [.v (.bool false),.v (.slice none 0 0)]),(1,.box T.Int [.v (.bool b2),.v (.slice a2 n2 c2)]),(0,.box T.Int [.v (.bool b1),.v (.slice a1 n1 c1)])],7,z.2.2.2.2,z.2.2.2.1⟩,fun z=>z.2.1,
   fun z=>z.2.2.1=2^z.2.1 / 2∧z.1+2^z.2.1<=65536∧((z.1:Nat):Int)*B<=R2∧R2<((z.1+2^z.2.1:Nat):Int)*B∧eB w.heap.size w z.2.2.2.1∧fV z.2.2.2.1 (Cv S w.heap.size z.2.2.2.2) (.agg #[.bool b1,.slice a1 n1 c1]) k x∧fV z.2.2.2.1 (Cv S w.heap.size z.2.2.2.2) (.agg #[.bool b2,.slice a2 n2 c2]) l y∧dy z.2.2.2.1 (Cf w z.2.2.2.2) (.slice aca ca.length cca) ca∧dJ z.2.2.2.1 (Cf w z.2.2.2.2) (.agg #[.bool C0,.slice C1 C2 C3]) B∧dJ z.2.2.2.1 (Cf w z.2.2.2.2) (.agg #[.bool J0,.slice J1 J2 J3]) R2,?_,?_⟩
  ·intro O w' r
   exact⟨(0,16,32768,w',Q2),⟨by show 32768=2^16 / 2;decide,by show 0+2^16<=65536;decide,by dsimp only;omega,by dsimp only;rw[show ((0+2^16:Nat):Int)=65536 from rfl];exact hR21,hw.tr r.cQ,hx.rel r hS,hy.rel r hS,Ox.rel r (cC w),OR.rel r (cC w),hr.rel r (cC w)⟩,
    Sub.gn [] r⟩
  rintro⟨n,e,bit,w5,iv⟩ ⟨hn0,hn1,Qj,Uw,hw,hx,hy,Ox,OR,hr⟩;dsimp only at hn0 hn1 Qj Uw hw hx hy Ox OR hr ⊢;refine dN.mk ?_ ?_<;>intro Tm
  ·have Tm:0<2^e / 2:=by have:((bit:Nat):Int)>0:=aI Tm;omega
   obtain⟨f,rfl⟩:∃f,e=f+1:=by
    cases e with
    |zero=>exact absurd Tm (by decide)
    |succ f=>exact⟨f,rfl⟩
   have e1:2^(f+1)=2*2^f:=by rw[Nat.pow_succ];omega
   have e2:2^(f+1) / 2=2^f:=by omega
   obtain rfl:bit=2^f:=by omega
   rw[e1]at hn1 Uw;have Vq:=bo f;generalize hp:2^f=p at*
   have m4:=AH (n:=((n+p:Nat):Int)) (by omega) (by omega);have m5:=cw B ((n+p:Nat):Int);have m6:ln R2.natAbs<=l+1:=by
    refine ah (fG (b:=((65536:Int)*B).natAbs) (by omega)) ?_;have:=cw 65536 B;omega
   refine cN hτ dm [.x 0,.x 1,.x 2,.x 3,.x 6,.x 4,.x 5,.x 7,.x 8] (by kernel_rfl) (by kernel_rfl) ?_;refine⟨((n+p:Nat):Int),wo,?_⟩;refine cE hw (fun _ w' v w2=>dJ w2 (Nf w' w2) v (((n+p:Nat):Int))) (fun O w' r=>kZ _ w' (by omega) (by omega)) ?_;rintro O Qf v9 Q3 R5 r he hw h_ hn;replace hx:=hx.cG r hS he (mC h_);replace hy:=hy.cG r hS he (mC h_);replace Ox:=Ox.cG r (cC w) he (mC h_);replace OR:=OR.cG r (cC w) he (mC h_);replace hr:=hr.cG r (cC w) he (mC h_);have hu:=hn.dE (S:=FF) r.cF (mN h_);obtain⟨K0,K1,K2,K3,rfl⟩:=hu.shape;refine cE hw (fun _ w' v w2=>dJ w2 (Nf w' w2) v (B*((n+p:Nat):Int))) (fun O w' r=>iD (Rel.old r (cC w)) ((OR.rel r (cC w)).l (k:=1000001) (by omega)) ((hu.rel r (cC w)).l (k:=1000001) (by omega)) (by omega) (by omega)) ?_;rintro O wa10 v10 wb10 RP r he hw h_ hn;replace hx:=hx.cG r hS he (mC h_);replace hy:=hy.cG r hS he (mC h_);replace Ox:=Ox.cG r (cC w) he (mC h_);replace OR:=OR.cG r (cC w) he (mC h_);replace hr:=hr.cG r (cC w) he (mC h_);have QF:=hn.dE (S:=FF) r.cF (mN h_);obtain⟨N0,N1,N2,N3,rfl⟩:=QF.shape;refine cE hw (fun _ w' v w2=>v= .int .i64 (B*((n+p:Nat):Int)-R2).sign) (fun O w' r=>I4 (Rel.old r (cC w)) ((QF.rel r (cC w)).l (k:=1000001) (by omega)) ((hr.rel r (cC w)).l (k:=1000001) (by omega)) (by omega) (by omega)) ?_;rintro O Qz v11 RO Qn r he hw h_ rfl;replace hx:=hx.cG r hS he (mC h_);replace hy:=hy.cG r hS he (mC h_);replace Ox:=Ox.cG r (cC w) he (mC h_);replace OR:=OR.cG r (cC w) he (mC h_);replace hr:=hr.cG r (cC w) he (mC h_);have hs:=gB (B*((n+p:Nat):Int)-R2);refine dN.mk ?_ ?_<;>intro hle
   ·have hle:=aI hle;have UU:((n+p:Nat):Int)*B<=R2:=by rw[Int.mul_comm];omega
    refine⟨((n+p:Nat):Int),wo,by decide,((2^f / 2:Nat):Int),by rw[hp,show((p:Nat):Int).tdiv 2=((p / 2:Nat):Int)from rfl,wrap64]<;>omega,?_⟩;intro ρ3 w3 r3;exact⟨(n+p,f,2^f / 2,w3,_),⟨rfl,by dsimp only;omega,UU,by dsimp only;rw[hp,show n+p+p=n+2*p by omega];exact Uw,hw.tr r3.cQ,hx.rel r3 hS,hy.rel r3 hS,Ox.rel r3 (cC w),OR.rel r3 (cC w),hr.rel r3 (cC w)⟩,Sub.gn [] r3,by dsimp only;omega⟩
   have hle:=aH hle;have UU:R2<((n+p:Nat):Int)*B:=by rw[Int.mul_comm];omega
   refine⟨by decide,((2^f / 2:Nat):Int),by rw[hp,show((p:Nat):Int).tdiv 2=((p / 2:Nat):Int)from rfl,wrap64]<;>omega,?_⟩;intro ρ3 w3 r3;exact⟨(n,f,2^f / 2,w3,_),⟨rfl,by dsimp only;omega,Qj,by dsimp only;rw[hp];exact UU,hw.tr r3.cQ,hx.rel r3 hS,hy.rel r3 hS,Ox.rel r3 (cC w),OR.rel r3 (cC w),hr.rel r3 (cC w)⟩,Sub.gn [] r3,by dsimp only;omega⟩
  have Tm:¬0<2^e / 2:=by have:¬((bit:Nat):Int)>0:=aH Tm;omega
  obtain rfl:e=0:=by
   cases e with
   |zero=>rfl
   |succ f=>exact absurd (show 0<2^(f+1) / 2 by rw[Nat.pow_succ];have:=bo f;omega) Tm
  rw[show n+2^0=n+1 from rfl]at hn1 Uw;rw[Int.natCast_add,Int.add_mul]at Uw;rw[Int.mul_comm]at Qj;rw[Int.mul_comm]at Uw;have m4:=AH (n:=((n:Nat):Int)) (by omega) (by omega);have m5:=cw B ((n:Nat):Int);have m6:ln R2.natAbs<=l+1:=by
   refine ah (fG (b:=((65536:Int)*B).natAbs) (by omega)) ?_;have:=cw 65536 B;omega
  refine cN hτ dm [.x 0,.x 1,.x 2,.x 3,.x 4,.x 5,.x 6] (by kernel_rfl) (by kernel_rfl) ?_;refine cE hw (fun _ w' v w2=>dJ w2 (Nf w' w2) v (((n:Nat):Int))) (fun O w' r=>kZ _ w' (by omega) (by omega)) ?_;rintro O Qf v9 Q3 R5 r he hw h_ hn;replace hx:=hx.cG r hS he (mC h_);replace hy:=hy.cG r hS he (mC h_);replace Ox:=Ox.cG r (cC w) he (mC h_);replace OR:=OR.cG r (cC w) he (mC h_);replace hr:=hr.cG r (cC w) he (mC h_);have hu:=hn.dE (S:=FF) r.cF (mN h_);obtain⟨K0,K1,K2,K3,rfl⟩:=hu.shape;refine cE hw (fun _ w' v w2=>dJ w2 (Nf w' w2) v (B*((n:Nat):Int))) (fun O w' r=>iD (Rel.old r (cC w)) ((OR.rel r (cC w)).l (k:=1000001) (by omega)) ((hu.rel r (cC w)).l (k:=1000001) (by omega)) (by omega) (by omega)) ?_;rintro O wa10 v10 wb10 RP r he hw h_ hn;replace hx:=hx.cG r hS he (mC h_);replace hy:=hy.cG r hS he (mC h_);replace Ox:=Ox.cG r (cC w) he (mC h_);replace OR:=OR.cG r (cC w) he (mC h_);replace hr:=hr.cG r (cC w) he (mC h_);have QF:=hn.dE (S:=FF) r.cF (mN h_);obtain⟨N0,N1,N2,N3,rfl⟩:=QF.shape;refine cE hw (fun _ w' v w2=>dJ w2 (Nf w' w2) v (R2-B*((n:Nat):Int))) (fun O w' r=>DM (Rel.old r (cC w)) ((hr.rel r (cC w)).l (k:=1000002) (by omega)) ((QF.rel r (cC w)).l (k:=1000002) (by omega)) (by omega) (by omega)) ?_;rintro O Qz v11 RO Qn r he hw h_ hn;replace hx:=hx.cG r hS he (mC h_);replace hy:=hy.cG r hS he (mC h_);replace Ox:=Ox.cG r (cC w) he (mC h_);replace OR:=OR.cG r (cC w) he (mC h_);have hr3:=hn.dE (S:=FF) r.cF (mN h_);obtain⟨O0,O1,O2,O3,rfl⟩:=hr3.shape;generalize hR3:R2-B*((n:Nat):Int)=R3 at*
  refine .inl ?_;refine⟨by rw[aJ,aS],fun u hu=>by obtain⟨_,_,rfl⟩:=aT.1 hu;rfl,rfl,by omega,by unfold maxLen;omega,(i:Int)-1,wo,?_⟩;intro ρ3 w3 r3;have RS:dP (ca.drop i)=B*dP (((n:Nat):Int)::Q)+R3:=by
   rw[EM SL,dP];exact Hg hv (by rw[<-hR3,<-Qs];omega)
  exact⟨(i,((n:Nat):Int)::Q,R3,(O0,O1,O2,O3),w3,_),⟨by dsimp only;omega,by dsimp only;rw[List.length_cons];omega,fun c hc=>by
    rcases List.mem_cons.1 hc with rfl|hc
    ·omega
    ·exact hd c hc,RS,by dsimp only;omega,by dsimp only;omega,hw.tr r3.cQ,hx.rel r3 hS,hy.rel r3 hS,Ox.rel r3 (cC w),OR.rel r3 (cC w),hr3.rel r3 (cC w)⟩,
   Sub.gn [(6,8)] r3 (hE:=⟨rfl,rfl,rfl,rfl,rfl,rfl,rfl,by dsimp only;rw[show (((n:Nat):Int)::Q).length=1+Q.length by rw[List.length_cons,Nat.add_comm]];rfl,rfl,rfl,trivial⟩),by dsimp only;omega⟩
 obtain rfl:j=0:=by have:¬(j:Int)-1≥0:=aH OF;omega
 rw[List.drop_zero,bca.1]at hv;rw[<-hB]at hv hR1;have key:=JB Pe hv hR0 hR1;rw[hB]at key hv hR1;have lq:ln (dP Q).natAbs<=k+1:=by
  have h1:=aAQ hd;have h2:1*dP Q<=B*dP Q:=Int.mul_le_mul_of_nonneg_right (by omega) h1;exact ah (fG (b:=x.natAbs) (by omega)) (by omega)
 have lR:ln R.natAbs<=l:=ah (fG (by omega)) lB;have sx:=gB x;have sy:=gB y;have sr:=gB R;refine cD (cE hw (fun _ w' v w2=>dJ w2 (Nf w' w2) v (dP Q)) (fun O w' r=>me r rfl rfl (by omega) (fun c hc=>by have:=hd c hc;omega) rfl) ?_);rintro O _ _ _ Pp r he hw h_ hn;replace hx:=hx.cG r hS he (mC h_);replace hy:=hy.cG r hS he (mC h_);replace OR:=OR.cG r (cC w) he (mC h_);replace hr:=hr.cG r (cC w) he (mC h_);have hq:=hn.dE (S:=FF) r.cF (mN h_);obtain⟨E0,E1,E2,E3,rfl⟩:=hq.shape;refine cD (cE hw (fun _ w' v w2=>v= .int .i64 x.sign) (fun O w' r=>gV (Rel.old r hS) (hx.rel r hS).r) ?_);rintro O _ _ _ Qy r he hw h_ rfl;replace hx:=hx.cG r hS he (mC h_);replace hy:=hy.cG r hS he (mC h_);replace OR:=OR.cG r (cC w) he (mC h_);replace hr:=hr.cG r (cC w) he (mC h_);replace hq:=hq.cG r (cC w) he (mC h_);refine dN.mk ?_ ?_<;>intro hxs
 ·have hxs:=aI hxs;refine cD (cE hw (fun _ w' v w2=>v= .int .i64 R.sign) (fun O w' r=>gV (Rel.old r (cC w)) (hr.rel r (cC w)).r) ?_);rintro O Um v7 Un TN r he hw h_ rfl;replace hx:=hx.cG r hS he (mC h_);replace hy:=hy.cG r hS he (mC h_);replace OR:=OR.cG r (cC w) he (mC h_);replace hr:=hr.cG r (cC w) he (mC h_);replace hq:=hq.cG r (cC w) he (mC h_);refine dN.mk ?_ ?_<;>intro VB
  ·have VB:=aI VB;rw[if_pos (show x<0∧0<R by omega),if_pos (show x<0∧0<R by omega)]at key;have m7:=iY (dP Q) 1;have m8:ln (1:Int).natAbs<=1:=by decide
   have m9:ln (B-R).natAbs<=l:=ah (fG (by omega)) lB;refine cN hτ dm [.x 0,.x 3,.x 4,.x 1,.x 2,.x 5,.x 6,.x 7] (by kernel_rfl) (by kernel_rfl) ?_;refine cE hw (fun _ w' v w2=>dJ w2 (Nf w' w2) v (1)) (fun O w' r=>kZ _ w' (by omega) (by omega)) ?_;rintro O RT v8 Qm Q2 r he hw h_ hn;replace hx:=hx.cG r hS he (mC h_);replace hy:=hy.cG r hS he (mC h_);replace OR:=OR.cG r (cC w) he (mC h_);replace hr:=hr.cG r (cC w) he (mC h_);replace hq:=hq.cG r (cC w) he (mC h_);have hu:=hn.dE (S:=FF) r.cF (mN h_);obtain⟨J0,J1,J2,J3,rfl⟩:=hu.shape;refine cE hw (fun _ w' v w2=>dJ w2 (Nf w' w2) v (dP Q+1)) (fun O w' r=>AG (Rel.old r (cC w)) ((hq.rel r (cC w)).l (k:=1000003) (by omega)) ((hu.rel r (cC w)).l (k:=1000003) (by omega)) (by omega) (by omega)) ?_;rintro O Qf v9 Q3 R5 r he hw h_ hn;replace hx:=hx.cG r hS he (mC h_);replace hy:=hy.cG r hS he (mC h_);replace OR:=OR.cG r (cC w) he (mC h_);replace hr:=hr.cG r (cC w) he (mC h_);have QA:=hn.dE (S:=FF) r.cF (mN h_);obtain⟨K0,K1,K2,K3,rfl⟩:=QA.shape;refine cE hw (fun _ w' v w2=>dJ w2 (Nf w' w2) v (B-R)) (fun O w' r=>DM (Rel.old r (cC w)) ((OR.rel r (cC w)).l (k:=1000003) (by omega)) ((hr.rel r (cC w)).l (k:=1000003) (by omega)) (by omega) (by omega)) ?_;rintro O wa10 v10 wb10 RP r he hw h_ hn;replace hx:=hx.cG r hS he (mC h_);replace hy:=hy.cG r hS he (mC h_);replace QA:=QA.cG r (cC w) he (mC h_);have SB:=hn.dE (S:=FF) r.cF (mN h_);obtain⟨N0,N1,N2,N3,rfl⟩:=SB.shape;refine cN hτ dm [.x 0,.x 3,.x 1,.x 2,.x 4,.x 5,.x 6] (by kernel_rfl) (by kernel_rfl) ?_;refine cE hw (fun _ w' v w2=>v= .int .i64 x.sign) (fun O w' r=>gV (Rel.old r hS) (hx.rel r hS).r) ?_;rintro O _ _ _ Qn r he hw h_ rfl;replace hy:=hy.cG r hS he (mC h_);replace QA:=QA.cG r (cC w) he (mC h_);replace SB:=SB.cG r (cC w) he (mC h_);refine cE hw (fun _ w' v w2=>v= .int .i64 y.sign) (fun O w' r=>gV (Rel.old r hS) (hy.rel r hS).r) ?_;rintro O _ _ _ iv12 r he hw h_ rfl;replace QA:=QA.cG r (cC w) he (mC h_);replace SB:=SB.cG r (cC w) he (mC h_);refine dN.mk ?_ ?_<;>intro OG
   ·have hn:¬((x<0)↔(y<0)):=fun e=>by
     have e2:decide (x.sign<0)=decide (y.sign<0):=decide_eq_decide.2 (by omega);rw[e2]at OG;simp at OG
    rw[aK hn]at key;refine cD (cE hw (fun _ w' v w2=>dJ w2 (Nf w' w2) v (-(dP Q+1))) (fun O w' r=>lZ (Rel.old r (cC w)) ((QA.rel r (cC w)).l (k:=1000003) (by omega)) (by omega)) ?_);rintro O _ _ _ iv13 r he hw h_ hn;replace SB:=SB.cG r (cC w) he (mC h_);have S1:=hn.dE (S:=FF) r.cF (mN h_);obtain⟨P0,P1,P2,P3,rfl⟩:=S1.shape;refine iS hτ dm (.two 0 (.two 1 (.one 2 (.one 3 (.one 4 .nil))) 2 (.one 1 (.one 3 (.one 4 .nil)))) 1 (.one 0 (.one 2 (.one 3 (.one 4 .nil))))) (by kernel_rfl) ?_;refine⟨?_,?_⟩
    ·refine⟨?_,?_⟩
     ·exact rtn hw fun ρe we re=>.inr ⟨Pe,_,_,rfl,key.1▸S1.out re (cC w),key.2▸SB.out re (cC w)⟩
     ·exact rtn hw fun ρe we re=>.inr ⟨Pe,_,_,rfl,key.1▸S1.out re (cC w),key.2▸SB.out re (cC w)⟩
    ·exact rtn hw fun ρe we re=>.inr ⟨Pe,_,_,rfl,key.1▸S1.out re (cC w),key.2▸SB.out re (cC w)⟩
   have hn:(x<0)↔(y<0):=by
    have e2:decide (x.sign<0)=decide (y.sign<0):=by simpa using OG
    have:=decide_eq_decide.1 e2;omega
   rw[if_pos hn]at key;refine iS hτ dm (.two 0 (.two 1 (.one 2 (.one 3 (.one 4 .nil))) 2 (.one 1 (.one 3 (.one 4 .nil)))) 1 (.one 0 (.one 2 (.one 3 (.one 4 .nil))))) (by kernel_rfl) ?_;refine⟨?_,?_⟩
   ·refine⟨?_,?_⟩
    ·exact rtn hw fun ρe we re=>.inr ⟨Pe,_,_,rfl,key.1▸QA.out re (cC w),key.2▸SB.out re (cC w)⟩
    ·exact rtn hw fun ρe we re=>.inr ⟨Pe,_,_,rfl,key.1▸QA.out re (cC w),key.2▸SB.out re (cC w)⟩
   ·exact rtn hw fun ρe we re=>.inr ⟨Pe,_,_,rfl,key.1▸QA.out re (cC w),key.2▸SB.out re (cC w)⟩
  have VB:=aH VB;rw[aK (show ¬(x<0∧0<R) by omega),aK (show ¬(x<0∧0<R) by omega)]at key;refine cN hτ dm [.x 0,.x 3,.x 1,.x 2,.x 4,.x 5,.x 6] (by kernel_rfl) (by kernel_rfl) ?_;refine cE hw (fun _ w' v w2=>v= .int .i64 x.sign) (fun O w' r=>gV (Rel.old r hS) (hx.rel r hS).r) ?_;rintro O RT v8 Qm Q2 r he hw h_ rfl;replace hy:=hy.cG r hS he (mC h_);replace OR:=OR.cG r (cC w) he (mC h_);replace hr:=hr.cG r (cC w) he (mC h_);replace hq:=hq.cG r (cC w) he (mC h_);refine cE hw (fun _ w' v w2=>v= .int .i64 y.sign) (fun O w' r=>gV (Rel.old r hS) (hy.rel r hS).r) ?_;rintro O Qf v9 Q3 R5 r he hw h_ rfl;replace OR:=OR.cG r (cC w) he (mC h_);replace hr:=hr.cG r (cC w) he (mC h_);replace hq:=hq.cG r (cC w) he (mC h_);refine dN.mk ?_ ?_<;>intro OG
  ·have hn:¬((x<0)↔(y<0)):=fun e=>by
    have e2:decide (x.sign<0)=decide (y.sign<0):=decide_eq_decide.2 (by omega);rw[e2]at OG;simp at OG
   rw[aK hn]at key;refine cD (cE hw (fun _ w' v w2=>dJ w2 (Nf w' w2) v (-(dP Q))) (fun O w' r=>lZ (Rel.old r (cC w)) ((hq.rel r (cC w)).l (k:=1000003) (by omega)) (by omega)) ?_);rintro O _ _ _ RP r he hw h_ hn;replace OR:=OR.cG r (cC w) he (mC h_);replace hr:=hr.cG r (cC w) he (mC h_);have S1:=hn.dE (S:=FF) r.cF (mN h_);obtain⟨N0,N1,N2,N3,rfl⟩:=S1.shape;refine iS hτ dm (.two 0 (.two 1 (.one 2 (.one 3 (.one 4 .nil))) 2 (.one 1 (.one 3 (.one 4 .nil)))) 1 (.one 0 (.one 2 (.one 3 (.one 4 .nil))))) (by kernel_rfl) ?_;refine⟨?_,?_⟩
   ·refine⟨?_,?_⟩
    ·exact rtn hw fun ρe we re=>.inr ⟨Pe,_,_,rfl,key.1▸S1.out re (cC w),key.2▸hr.out re (cC w)⟩
    ·exact rtn hw fun ρe we re=>.inr ⟨Pe,_,_,rfl,key.1▸S1.out re (cC w),key.2▸hr.out re (cC w)⟩
   ·exact rtn hw fun ρe we re=>.inr ⟨Pe,_,_,rfl,key.1▸S1.out re (cC w),key.2▸hr.out re (cC w)⟩
  have hn:(x<0)↔(y<0):=by
   have e2:decide (x.sign<0)=decide (y.sign<0):=by simpa using OG
   have:=decide_eq_decide.1 e2;omega
  rw[if_pos hn]at key;refine iS hτ dm (.two 0 (.two 1 (.one 2 (.one 3 (.one 4 .nil))) 2 (.one 1 (.one 3 (.one 4 .nil)))) 1 (.one 0 (.one 2 (.one 3 (.one 4 .nil))))) (by kernel_rfl) ?_;refine⟨?_,?_⟩
  ·refine⟨?_,?_⟩
   ·exact rtn hw fun ρe we re=>.inr ⟨Pe,_,_,rfl,key.1▸hq.out re (cC w),key.2▸hr.out re (cC w)⟩
   ·exact rtn hw fun ρe we re=>.inr ⟨Pe,_,_,rfl,key.1▸hq.out re (cC w),key.2▸hr.out re (cC w)⟩
  ·exact rtn hw fun ρe we re=>.inr ⟨Pe,_,_,rfl,key.1▸hq.out re (cC w),key.2▸hr.out re (cC w)⟩
 have hxs:=aH hxs;rw[aK (show ¬(x<0∧0<R) by omega),aK (show ¬(x<0∧0<R) by omega)]at key;refine cN hτ dm [.x 0,.x 3,.x 1,.x 2,.x 4,.x 5,.x 6] (by kernel_rfl) (by kernel_rfl) ?_;refine cE hw (fun _ w' v w2=>v= .int .i64 x.sign) (fun O w' r=>gV (Rel.old r hS) (hx.rel r hS).r) ?_;rintro O _ _ _ TN r he hw h_ rfl;replace hy:=hy.cG r hS he (mC h_);replace OR:=OR.cG r (cC w) he (mC h_);replace hr:=hr.cG r (cC w) he (mC h_);replace hq:=hq.cG r (cC w) he (mC h_);refine cE hw (fun _ w' v w2=>v= .int .i64 y.sign) (fun O w' r=>gV (Rel.old r hS) (hy.rel r hS).r) ?_;rintro O _ _ _ Q2 r he hw h_ rfl;replace OR:=OR.cG r (cC w) he (mC h_);replace hr:=hr.cG r (cC w) he (mC h_);replace hq:=hq.cG r (cC w) he (mC h_);refine dN.mk ?_ ?_<;>intro OG
 ·have hn:¬((x<0)↔(y<0)):=fun e=>by
   have e2:decide (x.sign<0)=decide (y.sign<0):=decide_eq_decide.2 (by omega);rw[e2]at OG;simp at OG
  rw[aK hn]at key;refine cD (cE hw (fun _ w' v w2=>dJ w2 (Nf w' w2) v (-(dP Q))) (fun O w' r=>lZ (Rel.old r (cC w)) ((hq.rel r (cC w)).l (k:=1000003) (by omega)) (by omega)) ?_);rintro O _ _ _ R5 r he hw h_ hn;replace OR:=OR.cG r (cC w) he (mC h_);replace hr:=hr.cG r (cC w) he (mC h_);have S1:=hn.dE (S:=FF) r.cF (mN h_);obtain⟨K0,K1,K2,K3,rfl⟩:=S1.shape;refine iS hτ dm (.two 0 (.two 1 (.one 2 (.one 3 (.one 4 .nil))) 2 (.one 1 (.one 3 (.one 4 .nil)))) 1 (.one 0 (.one 2 (.one 3 (.one 4 .nil))))) (by kernel_rfl) ?_;refine⟨?_,?_⟩
  ·refine⟨?_,?_⟩
   ·exact rtn hw fun ρe we re=>.inr ⟨Pe,_,_,rfl,key.1▸S1.out re (cC w),key.2▸hr.out re (cC w)⟩
   ·exact rtn hw fun ρe we re=>.inr ⟨Pe,_,_,rfl,key.1▸S1.out re (cC w),key.2▸hr.out re (cC w)⟩
  ·exact rtn hw fun ρe we re=>.inr ⟨Pe,_,_,rfl,key.1▸S1.out re (cC w),key.2▸hr.out re (cC w)⟩
 have hn:(x<0)↔(y<0):=by
  have e2:decide (x.sign<0)=decide (y.sign<0):=by simpa using OG
  have:=decide_eq_decide.1 e2;omega
 rw[if_pos hn]at key;refine iS hτ dm (.two 0 (.two 1 (.one 2 (.one 3 (.one 4 .nil))) 2 (.one 1 (.one 3 (.one 4 .nil)))) 1 (.one 0 (.one 2 (.one 3 (.one 4 .nil))))) (by kernel_rfl) ?_;refine⟨?_,?_⟩
 ·refine⟨?_,?_⟩
  ·exact rtn hw fun ρe we re=>.inr ⟨Pe,_,_,rfl,key.1▸hq.out re (cC w),key.2▸hr.out re (cC w)⟩
  ·exact rtn hw fun ρe we re=>.inr ⟨Pe,_,_,rfl,key.1▸hq.out re (cC w),key.2▸hr.out re (cC w)⟩
 ·exact rtn hw fun ρe we re=>.inr ⟨Pe,_,_,rfl,key.1▸hq.out re (cC w),key.2▸hr.out re (cC w)⟩
end Go.Ex
