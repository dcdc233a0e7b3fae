/- A part of the proof: texts L9 to X61. Each tells its conditions in its theorems. -/
import Derived.Test.YtkdcaknoaeicdaaGreatP4
import Derived.Test.YtkdcaknoaeicdaaGreatP5
namespace Go.Ex
variable{cs:List Int}{ls:List Nat}{i:Nat}{f:Nat->Int}
def fL(f:Nat->Int):Nat->Int
 |0=>0
 |n+1=>f 0+65536*fL (fun i=>f (i+1)) n
theorem xp(f:Nat->Int)(n:Nat):dD ((List.range n).map f)=fL f n:=by
 induction n generalizing f with
 |zero=>rfl
 |succ n ih=>
  rw[List.range_succ_eq_map,List.map_cons,List.map_map,dD,fL,<-ih];rfl
theorem xq(f g:Nat->Int)(n:Nat):fL (fun i=>f i+g i) n=fL f n+fL g n:=by
 induction n generalizing f g with
 |zero=>rfl
 |succ n ih=>simp only[fL,ih];omega
theorem Dk(k:Int)(f:Nat->Int)(n:Nat):fL (fun i=>k*f i) n=k*fL f n:=by
 induction n generalizing f with
 |zero=>simp[fL]
 |succ n ih=>simp only[fL,ih,Int.mul_add];rw[Int.mul_left_comm]
theorem uV{n:Nat}(h:∀i,i<n->f i=0):fL f n=0:=by
 induction n generalizing f with
 |zero=>rfl
 |succ n ih=>rw[fL,h 0 (by omega),ih fun i hi=>h (i+1) (by omega)];rfl
theorem oT(a:List Int)(n:Nat)(h:a.length<=n):fL (fun i=>a.getD i 0) n=dD a:=by
 induction a generalizing n with
 |nil=>exact uV fun i _=>by simp
 |cons c r ih=>
  obtain⟨m,rfl⟩:∃m,n=m+1:=⟨n-1,by simp at h;omega⟩
  have e:=ih m (by simpa using h);rw[fL,dD,<-e];simp[List.getD]
def gp(a b:List Int)(i:Nat):Nat->Int
 |0=>0
 |k+1=>gp a b i k+a.getD k 0*(if k<=i then b.getD (i-k) 0 else 0)
def fb(a b:List Int)(i:Nat):Int:=gp a b i (i+1)
theorem Fu(b:List Int)(i k:Nat):gp [] b i k=0:=by
 induction k with
 |zero=>rfl
 |succ k ih=>rw[gp,ih];simp
theorem Dl(c:Int)(r b:List Int)(i k:Nat):gp (c::r) b (i+1) (k+1)=c*b.getD (i+1) 0+gp r b i k:=by
 induction k with
 |zero=>simp[gp]
 |succ k ih=>
  rw[gp,ih,gp];have e:(c::r).getD (k+1) 0=r.getD k 0:=by simp[List.getD]
  rw[e];have e2:(if k+1<=i+1 then b.getD (i+1-(k+1)) 0 else 0)=(if k<=i then b.getD (i-k) 0 else 0):=by
   by_cases h:k<=i
   ·rw[if_pos h,if_pos (by omega),show i+1-(k+1)=i-k by omega]
   ·rw[aF h,aF (by omega)]
  rw[e2,Int.add_assoc]
theorem C0(c:Int)(r b:List Int)(i:Nat):fb (c::r) b (i+1)=c*b.getD (i+1) 0+fb r b i:=Dl c r b i (i+1)
theorem C1(c:Int)(r b:List Int):fb (c::r) b 0=c*b.getD 0 0:=by simp[fb,gp]
theorem H3(a b:List Int)(n:Nat)(h:a.length+b.length<=n+1):fL (fb a b) n=dD a*dD b:=by
 induction a generalizing n with
 |nil=>
  rw[show fb [] b=fun _=>(0:Int)from funext fun i=>Fu b i _,uV fun _ _=>rfl];simp[dD]
 |cons c r ih=>
  cases n with
  |zero=>
   have hb:b=[]:=List.eq_nil_of_length_eq_zero (by simp at h;omega);subst hb;simp[fL,dD]
  |succ m=>
   have e1:fL (fb (c::r) b) (m+1)=fL (fun i=>c*b.getD i 0) (m+1)+65536*fL (fb r b) m:=by
    have e2:fL (fun i=>fb (c::r) b (i+1)) m=fL (fun i=>c*b.getD (i+1) 0) m+fL (fb r b) m:=by
     rw[<-xq];congr 1
     funext i
     exact C0 c r b i
    rw[fL,fL,e2,C1,Int.mul_add];omega
   have h':r.length+b.length<=m+1:=by simp at h;omega
   rw[e1,ih m h',Dk,oT b (m+1) (by omega),dD,Int.add_mul,Int.mul_assoc]
theorem Dm(a b:List Int)(i k k0:Nat)(h0:∀j,j<k0->b.length<=i-j)(hk:k0<=i+1)(h:k<=k0):gp a b i k=0:=by
 induction k with
 |zero=>rfl
 |succ k ih=>
  rw[gp,ih (by omega),if_pos (by omega)];have:b.getD (i-k) 0=0:=by rw[List.getD,List.getElem?_eq_none (h0 k (by omega))];rfl
  rw[this];simp
theorem Dn(a b:List Int)(i k m:Nat)(h:a.length<=k):gp a b i (k+m)=gp a b i k:=by
 induction m with
 |zero=>rfl
 |succ m ih=>
  rw[<-Nat.add_assoc,gp,ih];have:a.getD (k+m) 0=0:=by rw[List.getD,List.getElem?_eq_none (by omega)];rfl
  rw[this];simp
theorem lG{a b:List Int}(ha:∀x∈a,-65535<=x∧x<=65535)(hb:∀x∈b,-65535<=x∧x<=65535)(k:Nat):(gp a b i k).natAbs<=4294836225*k:=by
 have key:∀(l:List Int) (j:Nat),(∀x∈l,-65535<=x∧x<=65535)->(l.getD j 0).natAbs<=65535:=fun l j h=>by
  rw[List.getD]
  cases hj:l[j]? with
  |none=>simp
  |some d=>have:=h d (aD hj);simp;omega
 induction k with
 |zero=>simp[gp]
 |succ k ih=>
  rw[gp];have h1:=key a k ha;have h2:(if k<=i then b.getD (i-k) 0 else 0).natAbs<=65535:=by
   split
   ·exact key b _ hb
   ·simp
  have h3:=Nat.mul_le_mul h1 h2;rw[<-Int.natAbs_mul]at h3;generalize a.getD k 0*(if k<=i then b.getD (i-k) 0 else 0)=p at*
  omega
def de(s:Int):List Nat->List Int
 |[]=>[]
 |l::r=>s*((l % 65536:Nat):Int)::s*((l / 65536:Nat):Int)::de s r
theorem Ar(s:Int)(ls:List Nat):dD (de s ls)=s*(val ls:Int):=by
 induction ls with
 |nil=>simp[de,dD,val]
 |cons l r ih=>
  rw[de,dD,dD,ih,val];have e1:((l+4294967296*val r:Nat):Int)=((l % 65536:Nat):Int)+65536*((l / 65536:Nat):Int)+4294967296*((val r:Nat):Int):=by omega
  rw[e1,Int.mul_add,Int.mul_add,Int.mul_add];rw[Int.mul_left_comm 65536 s,Int.mul_left_comm s 65536,Int.mul_left_comm s 4294967296];omega
theorem nX(s:Int)(a b:List Nat):de s (a++b)=de s a++de s b:=by
 induction a with
 |nil=>rfl
 |cons l r ih=>simp[de,ih]
theorem gZ(s:Int)(ls:List Nat):(de s ls).length=2*ls.length:=by
 induction ls with
 |nil=>rfl
 |cons l r ih=>simp[de,ih];omega
theorem xr{s:Int}(hs:s=1∨s= -1)(h:Lm ls):∀c∈de s ls,-65535<=c∧c<=65535:=by
 induction ls with
 |nil=>intro c hc;cases hc
 |cons l r ih=>
  have hl:=h l aI;intro c hc;rw[de]at hc;rcases List.mem_cons.1 hc with rfl|hc
  ·rcases hs with rfl|rfl<;>omega
  rcases List.mem_cons.1 hc with rfl|hc
  ·rcases hs with rfl|rfl<;>omega
  ·exact ih (fun x hx=>h x (aB _ hx)) c hc
theorem vE(h:Lm ls):∀c∈de 1 ls,0<=c∧c<=65535:=fun c hc=>by
 induction ls with
 |nil=>cases hc
 |cons l r ih=>
  have hl:=h l aI;rw[de]at hc;rcases List.mem_cons.1 hc with rfl|hc
  ·omega
  rcases List.mem_cons.1 hc with rfl|hc
  ·omega
  ·exact ih (fun x hx=>h x (aB _ hx)) hc
theorem C2{c:Int}(h:cs[i]? =some c):dD (cs.drop i)=c+65536*dD (cs.drop (i+1)):=by
 rw[List.drop_eq_getElem_cons (aC.1 h).1,dD];have:=(aC.1 h).2;rw[this]
end Go.Ex
namespace Go.Ex
open Go Go.Sx Go.Proofs
variable{x1 x2 y1 y2:Int}{ls:List Nat}{S:Nat->Prop}{p q:Rat}{u:Value}{w:World}
theorem IM{k:Nat}(h:Lm ls)(hl:ls.length<=k):ln (val ls)<=k:=fo.2 (Nat.lt_of_lt_of_le (mj h) (zo hl))
theorem Cv.false{B:Nat}{iv:Iv}{g:Nat}(h:Cv (fun _=>False) B iv g):Cv S B iv g:=h.elim (fun h=>h.elim) .inr
theorem IN{v:Value}(hS:Old S w)(hx:gb w S v x1 x2)(hy:gb w S u y1 y2)(hl0:ln x1.natAbs<=100000)(hl1:ln x2.natAbs<=100000)(hl2:ln y1.natAbs<=100000)(hl3:ln y2.natAbs<=100000):
  du PG N.ta #[v,u] w (eD w fun v' w2=>cP w2 (Nf w w2) v' ((ratio x1 x2)+(ratio y1 y2))):=by
 have hw:cQ w.heap.size w w:=cQ.refl;have r1:=gY x1 x2;have r2:=gY y1 y2;have r3:=oQ (ratio x1 x2) (ratio y1 y2);have r4:=jL (ratio x1 x2) (ratio y1 y2);have r5:=tT (ratio y1 y2);have r6:=xe (ratio x1 x2) (ratio y1 y2);replace hx:=hx.cC (S':=Cv S w.heap.size []) fun _ h=>.inl h;replace hy:=hy.cC (S':=Cv S w.heap.size []) fun _ h=>.inl h;obtain⟨b1,a1,n1,c1,b2,a2,n2,c2,rfl⟩:=hx.shape;obtain⟨b3,a3,n3,c3,b4,a4,n4,c4,rfl⟩:=hy.shape;refine Az (by simp) ?_;refine cD hτ df [.x 0,.x 2,.x 1,.x 3,.x 4,.x 5,.x 6] (by kernel_rfl) (by kernel_rfl) ?_;refine cE hw (fun _ w' v w2=>dI w2 (Nf w' w2) v ((ratio x1 x2))) (fun O w' r=>j9 (Rel.old r hS) (hx.rel r hS) (by omega) (by omega)) ?_;rintro O wa1 v1 wb1 iv1 r he hw h_ hn;replace hy:=hy.bz r hS he (mC h_);have hX:=hn.dB (S:=fun _=>False) r.bw (mN h_);obtain⟨s1_0,s1_1,s1_2,s1_3,s1_4,s1_5,s1_6,s1_7,rfl⟩:=hX.shape;refine cE hw (fun _ w' v w2=>dI w2 (Nf w' w2) v ((ratio y1 y2))) (fun O w' r=>j9 (Rel.old r hS) (hy.rel r hS) (by omega) (by omega)) ?_;rintro O wa2 v2 wb2 iv2 r he hw h_ hn;replace hX:=hX.bz r (bs w) he (mC h_);have hY:=hn.dB (S:=fun _=>False) r.bw (mN h_);obtain⟨s2_0,s2_1,s2_2,s2_3,s2_4,s2_5,s2_6,s2_7,rfl⟩:=hY.shape;refine cE hw (fun _ w' v w2=>dI w2 (Nf w' w2) v ((ratio x1 x2)+(ratio y1 y2))) (fun O w' r=>FN (Rel.old r (bs w)) (hX.rel r (bs w)) (hY.rel r (bs w)) (by omega) (by omega)) ?_;rintro O wa3 v3 wb3 iv3 r he hw h_ hn;have hP:=hn.dB (S:=fun _=>False) r.bw (mN h_);obtain⟨s3_0,s3_1,s3_2,s3_3,s3_4,s3_5,s3_6,s3_7,rfl⟩:=hP.shape;refine cE hw (fun _ w' v w2=>cP w2 (Nf w' w2) v ((ratio x1 x2)+(ratio y1 y2))) (fun O w' r=>pX (Rel.old r (bs w)) (hP.rel r (bs w)) (by omega)) ?_;rintro O wa4 v4 wb4 iv4 r he hw h_ hn;have hC:=hn.dB (S:=fun _=>False) r.bw (mN h_);obtain⟨s4_0,s4_1,s4_2,s4_3,s4_4,s4_5,s4_6,s4_7,rfl⟩:=hC.shape;intro ρe we re;exact⟨_,rfl,hw.tr re.cI,hC.out re (bs w)⟩
theorem IP{v:Value}(hS:Old S w)(hx:gb w S v x1 x2)(hy:gb w S u y1 y2)(hl0:ln x1.natAbs<=100000)(hl1:ln x2.natAbs<=100000)(hl2:ln y1.natAbs<=100000)(hl3:ln y2.natAbs<=100000):
  du PG N.tc #[v,u] w (eD w fun v' w2=>cP w2 (Nf w w2) v' ((ratio x1 x2)*(ratio y1 y2))):=by
 have hw:cQ w.heap.size w w:=cQ.refl;have r1:=gY x1 x2;have r2:=gY y1 y2;have r3:=oQ (ratio x1 x2) (ratio y1 y2);have r4:=jL (ratio x1 x2) (ratio y1 y2);have r5:=tT (ratio y1 y2);have r6:=xe (ratio x1 x2) (ratio y1 y2);replace hx:=hx.cC (S':=Cv S w.heap.size []) fun _ h=>.inl h;replace hy:=hy.cC (S':=Cv S w.heap.size []) fun _ h=>.inl h;obtain⟨b1,a1,n1,c1,b2,a2,n2,c2,rfl⟩:=hx.shape;obtain⟨b3,a3,n3,c3,b4,a4,n4,c4,rfl⟩:=hy.shape;refine BA (by simp) ?_;refine cD hτ df [.x 0,.x 2,.x 1,.x 3,.x 4,.x 5,.x 6] (by kernel_rfl) (by kernel_rfl) ?_;refine cE hw (fun _ w' v w2=>dI w2 (Nf w' w2) v ((ratio x1 x2))) (fun O w' r=>j9 (Rel.old r hS) (hx.rel r hS) (by omega) (by omega)) ?_;rintro O wa1 v1 wb1 iv1 r he hw h_ hn;replace hy:=hy.bz r hS he (mC h_);have hX:=hn.dB (S:=fun _=>False) r.bw (mN h_);obtain⟨s1_0,s1_1,s1_2,s1_3,s1_4,s1_5,s1_6,s1_7,rfl⟩:=hX.shape;refine cE hw (fun _ w' v w2=>dI w2 (Nf w' w2) v ((ratio y1 y2))) (fun O w' r=>j9 (Rel.old r hS) (hy.rel r hS) (by omega) (by omega)) ?_;rintro O wa2 v2 wb2 iv2 r he hw h_ hn;replace hX:=hX.bz r (bs w) he (mC h_);have hY:=hn.dB (S:=fun _=>False) r.bw (mN h_);obtain⟨s2_0,s2_1,s2_2,s2_3,s2_4,s2_5,s2_6,s2_7,rfl⟩:=hY.shape;refine cE hw (fun _ w' v w2=>dI w2 (Nf w' w2) v ((ratio x1 x2)*(ratio y1 y2))) (fun O w' r=>II (Rel.old r (bs w)) (hX.rel r (bs w)) (hY.rel r (bs w)) (by omega) (by omega)) ?_;rintro O wa3 v3 wb3 iv3 r he hw h_ hn;have hP:=hn.dB (S:=fun _=>False) r.bw (mN h_);obtain⟨s3_0,s3_1,s3_2,s3_3,s3_4,s3_5,s3_6,s3_7,rfl⟩:=hP.shape;refine cE hw (fun _ w' v w2=>cP w2 (Nf w' w2) v ((ratio x1 x2)*(ratio y1 y2))) (fun O w' r=>pX (Rel.old r (bs w)) (hP.rel r (bs w)) (by omega)) ?_;rintro O wa4 v4 wb4 iv4 r he hw h_ hn;have hC:=hn.dB (S:=fun _=>False) r.bw (mN h_);obtain⟨s4_0,s4_1,s4_2,s4_3,s4_4,s4_5,s4_6,s4_7,rfl⟩:=hC.shape;intro ρe we re;exact⟨_,rfl,hw.tr re.cI,hC.out re (bs w)⟩
theorem IQ{v:Value}(hS:Old S w)(hx:gb w S v x1 x2)(hy:gb w S u y1 y2)(hl0:ln x1.natAbs<=100000)(hl1:ln x2.natAbs<=100000)(hl2:ln y1.natAbs<=100000)(hl3:ln y2.natAbs<=100000):
  du PG N.te #[v,u] w (eD w fun v' w2=>cP w2 (Nf w w2) v' ((ratio x1 x2)-(ratio y1 y2))):=by
 have hw:cQ w.heap.size w w:=cQ.refl;have r1:=gY x1 x2;have r2:=gY y1 y2;have r3:=oQ (ratio x1 x2) (ratio y1 y2);have r4:=jL (ratio x1 x2) (ratio y1 y2);have r5:=tT (ratio y1 y2);have r6:=xe (ratio x1 x2) (ratio y1 y2);replace hx:=hx.cC (S':=Cv S w.heap.size []) fun _ h=>.inl h;replace hy:=hy.cC (S':=Cv S w.heap.size []) fun _ h=>.inl h;obtain⟨b1,a1,n1,c1,b2,a2,n2,c2,rfl⟩:=hx.shape;obtain⟨b3,a3,n3,c3,b4,a4,n4,c4,rfl⟩:=hy.shape;refine BC (by simp) ?_;refine cD hτ df [.x 0,.x 2,.x 1,.x 3,.x 4,.x 5,.x 6,.x 7] (by kernel_rfl) (by kernel_rfl) ?_;refine cE hw (fun _ w' v w2=>dI w2 (Nf w' w2) v ((ratio x1 x2))) (fun O w' r=>j9 (Rel.old r hS) (hx.rel r hS) (by omega) (by omega)) ?_;rintro O wa1 v1 wb1 iv1 r he hw h_ hn;replace hy:=hy.bz r hS he (mC h_);have hX:=hn.dB (S:=fun _=>False) r.bw (mN h_);obtain⟨s1_0,s1_1,s1_2,s1_3,s1_4,s1_5,s1_6,s1_7,rfl⟩:=hX.shape;refine cE hw (fun _ w' v w2=>dI w2 (Nf w' w2) v ((ratio y1 y2))) (fun O w' r=>j9 (Rel.old r hS) (hy.rel r hS) (by omega) (by omega)) ?_;rintro O wa2 v2 wb2 iv2 r he hw h_ hn;replace hX:=hX.bz r (bs w) he (mC h_);have hY:=hn.dB (S:=fun _=>False) r.bw (mN h_);obtain⟨s2_0,s2_1,s2_2,s2_3,s2_4,s2_5,s2_6,s2_7,rfl⟩:=hY.shape;refine cH (Φ:=fun _ w' v w2=>dI w2 (Nw (Cf w iv2) w' w2) v (-(ratio y1 y2))) (fun O w' r=>IH (Rel.old r (bs w)) (hY.rel r (bs w))) ?_;rintro O wa3 v3 wb3 r he hb hn;replace hw:=hw.tr hb;replace hX:=hX.bz (iv':=(wa3.heap.size,wb3.heap.size)::iv2) r (bs w) he fun x hx=>aB _ hx;have hM:=hn.old r.bw;generalize (wa3.heap.size,wb3.heap.size)::iv2=iv3 at*
 obtain⟨s3_0,s3_1,s3_2,s3_3,s3_4,s3_5,s3_6,s3_7,rfl⟩:=hM.shape;refine cE hw (fun _ w' v w2=>dI w2 (Nf w' w2) v ((ratio x1 x2)-(ratio y1 y2))) (fun O w' r=>(Rat.sub_eq_add_neg (ratio x1 x2) (ratio y1 y2))▸FN (Rel.old r (bs w)) (hX.rel r (bs w)) (hM.rel r (bs w)) (by omega) (by omega)) ?_;rintro O wa4 v4 wb4 iv4 r he hw h_ hn;have hP:=hn.dB (S:=fun _=>False) r.bw (mN h_);obtain⟨s4_0,s4_1,s4_2,s4_3,s4_4,s4_5,s4_6,s4_7,rfl⟩:=hP.shape;refine cE hw (fun _ w' v w2=>cP w2 (Nf w' w2) v ((ratio x1 x2)-(ratio y1 y2))) (fun O w' r=>pX (Rel.old r (bs w)) (hP.rel r (bs w)) (by omega)) ?_;rintro O wa5 v5 wb5 iv5 r he hw h_ hn;have hC:=hn.dB (S:=fun _=>False) r.bw (mN h_);obtain⟨s5_0,s5_1,s5_2,s5_3,s5_4,s5_5,s5_6,s5_7,rfl⟩:=hC.shape;intro ρe we re;exact⟨_,rfl,hw.tr re.cI,hC.out re (bs w)⟩
theorem K2{v:Value}{f g:Rat}(hS:Old S w)(hf:dI w S v f)(hg:dI w S u g)(hlf:rl f<=10000000000)(hlg:rl g<=10000000000):
  du PG N.k8 #[v,u] w (eD w fun v' w2=>v'= .int .i64 (rs (f-g))):=by
 have hw:cQ w.heap.size w w:=cQ.refl;have l1:=fk f;have l2:=fA f;have l3:=fk g;have l4:=fA g;have m0:=cU f.num g.den;have m1:=cU g.num f.den;replace hf:=hf.cC (S':=Cv S w.heap.size []) fun _ h=>.inl h;replace hg:=hg.cC (S':=Cv S w.heap.size []) fun _ h=>.inl h;obtain⟨b1,a1,n1,c1,b2,a2,n2,c2,rfl⟩:=hf.shape;obtain⟨b3,a3,n3,c3,b4,a4,n4,c4,rfl⟩:=hg.shape;have hfn:=hf.num;have hfd:=hf.den;have hgn:=hg.num;have hgd:=hg.den;refine np (by simp) ?_;refine cD hτ df [.x 0,.x 1,.x 2,.x 3,.x 5,.x 6,.x 7,.x 8,.x 4,.x 9,.x 10,.x 11] (by kernel_rfl) (by kernel_rfl) ?_;refine cE hw (fun _ w' v w2=>eA w2 (Nf w' w2) v (f.num*(g.den:Int))) (fun O w' r=>gX (Rel.old r hS) (hfn.rel r hS) (hgd.rel r hS) (by omega) (by omega)) ?_;rintro O wa1 v1 wb1 iv1 r he hw h_ hn;replace hfd:=hfd.bz r hS he (mC h_);replace hgn:=hgn.bz r hS he (mC h_);have hA:=hn.dB (S:=fun _=>False) r.bw (mN h_);obtain⟨s1_0,s1_1,s1_2,s1_3,rfl⟩:=hA.shape;refine cE hw (fun _ w' v w2=>eA w2 (Nf w' w2) v (g.num*(f.den:Int))) (fun O w' r=>gX (Rel.old r hS) (hgn.rel r hS) (hfd.rel r hS) (by omega) (by omega)) ?_;rintro O wa2 v2 wb2 iv2 r he hw h_ hn;replace hA:=hA.bz r (bs w) he (mC h_);have hB:=hn.dB (S:=fun _=>False) r.bw (mN h_);obtain⟨s2_0,s2_1,s2_2,s2_3,rfl⟩:=hB.shape;refine cE hw (fun _ w' v w2=>v= .int .i64 (rs (f-g))) (fun O w' r=>(Iw f g)▸Hv (Rel.old r (bs w)) (hA.rel r (bs w)) (hB.rel r (bs w)) (by omega) (by omega)) ?_;rintro O wa3 v3 wb3 iv3 r he hw h_ rfl;intro ρe we re;exact⟨_,rfl,hw.tr re.cI,rfl⟩
theorem IS{v:Value}(hS:Old S w)(hx:gb w S v x1 x2)(hy:gb w S u y1 y2)(hl0:ln x1.natAbs<=100000)(hl1:ln x2.natAbs<=100000)(hl2:ln y1.natAbs<=100000)(hl3:ln y2.natAbs<=100000):
  du PG N.tZ #[v,u] w (eD w fun v' w2=>v'= .int .i64 (rs ((ratio x1 x2)-(ratio y1 y2)))):=by
 have hw:cQ w.heap.size w w:=cQ.refl;have r1:=gY x1 x2;have r2:=gY y1 y2;have r3:=oQ (ratio x1 x2) (ratio y1 y2);have r4:=jL (ratio x1 x2) (ratio y1 y2);have r5:=tT (ratio y1 y2);have r6:=xe (ratio x1 x2) (ratio y1 y2);replace hx:=hx.cC (S':=Cv S w.heap.size []) fun _ h=>.inl h;replace hy:=hy.cC (S':=Cv S w.heap.size []) fun _ h=>.inl h;obtain⟨b1,a1,n1,c1,b2,a2,n2,c2,rfl⟩:=hx.shape;obtain⟨b3,a3,n3,c3,b4,a4,n4,c4,rfl⟩:=hy.shape;refine Ay (by simp) ?_;refine cD hτ df [.x 0,.x 2,.x 1,.x 3,.x 4,.x 5] (by kernel_rfl) (by kernel_rfl) ?_;refine cE hw (fun _ w' v w2=>dI w2 (Nf w' w2) v ((ratio x1 x2))) (fun O w' r=>j9 (Rel.old r hS) (hx.rel r hS) (by omega) (by omega)) ?_;rintro O wa1 v1 wb1 iv1 r he hw h_ hn;replace hy:=hy.bz r hS he (mC h_);have hX:=hn.dB (S:=fun _=>False) r.bw (mN h_);obtain⟨s1_0,s1_1,s1_2,s1_3,s1_4,s1_5,s1_6,s1_7,rfl⟩:=hX.shape;refine cE hw (fun _ w' v w2=>dI w2 (Nf w' w2) v ((ratio y1 y2))) (fun O w' r=>j9 (Rel.old r hS) (hy.rel r hS) (by omega) (by omega)) ?_;rintro O wa2 v2 wb2 iv2 r he hw h_ hn;replace hX:=hX.bz r (bs w) he (mC h_);have hY:=hn.dB (S:=fun _=>False) r.bw (mN h_);obtain⟨s2_0,s2_1,s2_2,s2_3,s2_4,s2_5,s2_6,s2_7,rfl⟩:=hY.shape;refine cE hw (fun _ w' v w2=>v= .int .i64 (rs ((ratio x1 x2)-(ratio y1 y2)))) (fun O w' r=>K2 (Rel.old r (bs w)) (hX.rel r (bs w)) (hY.rel r (bs w)) (by omega) (by omega)) ?_;rintro O wa3 v3 wb3 iv3 r he hw h_ rfl;intro ρe we re;exact⟨_,rfl,hw.tr re.cI,rfl⟩
theorem BJ:rs q=0↔q=0:=by rw[rs,Int.sign_eq_zero_iff_zero,Rat.num_eq_zero]
theorem IT{v:Value}(hS:Old S w)(hx:gb w S v x1 x2)(hy:gb w S u y1 y2)(hl0:ln x1.natAbs<=100000)(hl1:ln x2.natAbs<=100000)(hl2:ln y1.natAbs<=100000)(hl3:ln y2.natAbs<=100000):
  du PG N.td #[v,u] w (eD w fun v' w2=>((ratio y1 y2)=0∧v'= .tuple #[BZ,.int .i64 9])∨((ratio y1 y2)≠0∧∃q,v'= .tuple #[q,.int .i64 0]∧cP w2 (Nf w w2) q ((ratio x1 x2) / (ratio y1 y2)))):=by
 have hw:cQ w.heap.size w w:=cQ.refl;have r1:=gY x1 x2;have r2:=gY y1 y2;have r3:=oQ (ratio x1 x2) (ratio y1 y2);have r4:=jL (ratio x1 x2) (ratio y1 y2);have r5:=tT (ratio y1 y2);have r6:=xe (ratio x1 x2) (ratio y1 y2);replace hx:=hx.cC (S':=Cv S w.heap.size []) fun _ h=>.inl h;replace hy:=hy.cC (S':=Cv S w.heap.size []) fun _ h=>.inl h;obtain⟨b1,a1,n1,c1,b2,a2,n2,c2,rfl⟩:=hx.shape;obtain⟨b3,a3,n3,c3,b4,a4,n4,c4,rfl⟩:=hy.shape;refine BB (by simp) ?_;refine bu (cE hw (fun _ w' v w2=>dI w2 (Nf w' w2) v ((ratio y1 y2))) (fun O w' r=>j9 (Rel.old r hS) (hy.rel r hS) (by omega) (by omega)) ?_);rintro O wa1 v1 wb1 iv1 r he hw h_ hn;replace hx:=hx.bz r hS he (mC h_);have hY:=hn.dB (S:=fun _=>False) r.bw (mN h_);obtain⟨s1_0,s1_1,s1_2,s1_3,s1_4,s1_5,s1_6,s1_7,rfl⟩:=hY.shape;refine bu (cE hw (fun _ w' v w2=>v= .int .i64 (rs (ratio y1 y2))) (fun O w' r=>JS (Rel.old r (bs w)) (hY.rel r (bs w))) ?_);rintro O wa2 v2 wb2 iv2 r he hw h_ rfl;replace hx:=hx.bz r hS he (mC h_);replace hY:=hY.bz r (bs w) he (mC h_);refine dH.mk (fun h=>?_) (fun h=>?_)
 ·have h:rs (ratio y1 y2)=0:=by simpa using h
  intro ρe we re;exact⟨_,rfl,hw.tr re.cI,.inl ⟨BJ.1 h,rfl⟩⟩
 have h:(ratio y1 y2)≠0:=fun e=>by rw[e]at h;exact absurd h (by decide)
 have r7:=KH (ratio x1 x2) h;refine cD hτ df [.x 0,.x 2,.x 1,.x 3,.x 4,.x 5,.x 6] (by kernel_rfl) (by kernel_rfl) ?_;refine cE hw (fun _ w' v w2=>dI w2 (Nf w' w2) v ((ratio x1 x2))) (fun O w' r=>j9 (Rel.old r hS) (hx.rel r hS) (by omega) (by omega)) ?_;rintro O wa3 v3 wb3 iv3 r he hw h_ hn;replace hY:=hY.bz r (bs w) he (mC h_);have hX:=hn.dB (S:=fun _=>False) r.bw (mN h_);obtain⟨s3_0,s3_1,s3_2,s3_3,s3_4,s3_5,s3_6,s3_7,rfl⟩:=hX.shape;refine cE hw (fun _ w' v w2=>dI w2 (Nf w' w2) v ((ratio x1 x2) / (ratio y1 y2))) (fun O w' r=>Kz (Rel.old r (bs w)) (hX.rel r (bs w)) (hY.rel r (bs w)) (by omega) (by omega) h) ?_;rintro O wa4 v4 wb4 iv4 r he hw h_ hn;have hP:=hn.dB (S:=fun _=>False) r.bw (mN h_);obtain⟨s4_0,s4_1,s4_2,s4_3,s4_4,s4_5,s4_6,s4_7,rfl⟩:=hP.shape;refine cE hw (fun _ w' v w2=>cP w2 (Nf w' w2) v ((ratio x1 x2) / (ratio y1 y2))) (fun O w' r=>pX (Rel.old r (bs w)) (hP.rel r (bs w)) (by omega)) ?_;rintro O wa5 v5 wb5 iv5 r he hw h_ hn;have hC:=hn.dB (S:=fun _=>False) r.bw (mN h_);obtain⟨s5_0,s5_1,s5_2,s5_3,s5_4,s5_5,s5_6,s5_7,rfl⟩:=hC.shape;intro ρe we re;exact⟨_,rfl,hw.tr re.cI,.inr ⟨h,_,rfl,hC.out re (bs w)⟩⟩
theorem IU{n:Int}(h1: -9223372036854775808<=n)(h2:n<=9223372036854775807):rl (n:Rat)<=2:=by
 have:=mU h1 h2;unfold rl;rw[Rat.num_intCast,Rat.den_intCast];have:ln 1=1:=by decide
 omega
theorem Dp(n:Int)(w:World)(h1: -9223372036854775808<=n)(h2:n<=9223372036854775807):
  du PG N.uf #[.int .i64 n] w (eD w fun v' w2=>cP w2 (Nf w w2) v' (n:Rat)):=by
 have hw:cQ w.heap.size w w:=cQ.refl;have hl:=IU h1 h2;refine yU (by simp) ?_;refine bu (cE hw (fun _ w' v w2=>dI w2 (Nf w' w2) v (n)) (fun O w' r=>JT n w' h1 h2) ?_);rintro O wa1 v1 wb1 iv1 r he hw h_ hn;have hX:=hn.dB (S:=fun _=>False) r.bw (mN h_);obtain⟨s1_0,s1_1,s1_2,s1_3,s1_4,s1_5,s1_6,s1_7,rfl⟩:=hX.shape;refine bu (cE hw (fun _ w' v w2=>cP w2 (Nf w' w2) v (n)) (fun O w' r=>pX (Rel.old r (bs w)) (hX.rel r (bs w)) (by omega)) ?_);rintro O wa2 v2 wb2 iv2 r he hw h_ hn;have hC:=hn.dB (S:=fun _=>False) r.bw (mN h_);obtain⟨s2_0,s2_1,s2_2,s2_3,s2_4,s2_5,s2_6,s2_7,rfl⟩:=hC.shape;intro ρe we re;exact⟨_,rfl,hw.tr re.cI,hC.out re (bs w)⟩
theorem Dz(a b:Int)(w:World)(h1a: -9223372036854775808<=a)(h2a:a<=9223372036854775807)(h1b: -9223372036854775808<=b)(h2b:b<=9223372036854775807):
  du PG N.uh #[.int .i64 a,.int .i64 b] w (eD w fun v' w2=>(b=0∧v'= .tuple #[BZ,.int .i64 9])∨(b≠0∧∃q,v'= .tuple #[q,.int .i64 0]∧cP w2 (Nf w w2) q (Rat.divInt a b))):=by
 have hw:cQ w.heap.size w w:=cQ.refl;have ha:=mU h1a h2a;have hb:=mU h1b h2b;refine yW (by simp) ?_;refine dH.mk (fun h=>?_) (fun h=>?_)
 ·have h:b=0:=by simpa using h
  intro ρe we re;exact⟨_,rfl,hw.tr re.cI,.inl ⟨h,rfl⟩⟩
 have h:b≠0:=by simpa using h
 have hq:=jZ (a:=a) h;refine bu (cE hw (fun _ w' v w2=>eA w2 (Nf w' w2) v a) (fun O w' r=>nS a w' h1a h2a) ?_);rintro O wa1 v1 wb1 iv1 r he hw h_ hn;have hA:=hn.dB (S:=fun _=>False) r.bw (mN h_);obtain⟨s1_0,s1_1,s1_2,s1_3,rfl⟩:=hA.shape;refine bu (cE hw (fun _ w' v w2=>eA w2 (Nf w' w2) v b) (fun O w' r=>nS b w' h1b h2b) ?_);rintro O wa2 v2 wb2 iv2 r he hw h_ hn;replace hA:=hA.bz r (bs w) he (mC h_);have hB:=hn.dB (S:=fun _=>False) r.bw (mN h_);obtain⟨s2_0,s2_1,s2_2,s2_3,rfl⟩:=hB.shape;refine bu (cE hw (fun _ w' v w2=>dI w2 (Nf w' w2) v (Rat.divInt a b)) (fun O w' r=>uE (Rel.old r (bs w)) (hA.rel r (bs w)) (hB.rel r (bs w)) h (by omega) (by omega)) ?_);rintro O wa3 v3 wb3 iv3 r he hw h_ hn;have hP:=hn.dB (S:=fun _=>False) r.bw (mN h_);obtain⟨s3_0,s3_1,s3_2,s3_3,s3_4,s3_5,s3_6,s3_7,rfl⟩:=hP.shape;refine bu (cE hw (fun _ w' v w2=>cP w2 (Nf w' w2) v (Rat.divInt a b)) (fun O w' r=>pX (Rel.old r (bs w)) (hP.rel r (bs w)) (by omega)) ?_);rintro O wa4 v4 wb4 iv4 r he hw h_ hn;have hC:=hn.dB (S:=fun _=>False) r.bw (mN h_);obtain⟨s4_0,s4_1,s4_2,s4_3,s4_4,s4_5,s4_6,s4_7,rfl⟩:=hC.shape;intro ρe we re;exact⟨_,rfl,hw.tr re.cI,.inr ⟨h,_,rfl,hC.out re (bs w)⟩⟩
theorem IV(ad:Addr)(i j:Nat):(ad.add i).add j=ad.add (i+j):=by
 unfold Addr.add;split<;>split<;>simp_all<;>omega
def pD(w:World)(S:Nat->Prop)(v:Value)(q:Rat):Prop:=∃a b,gb w S v a b∧ratio a b=q∧ln a.natAbs<=100000∧ln b.natAbs<=100000
theorem pD.cB{w2:World}{v:Value}(h:pD w S v q)(hk:∀g,S g->w2.heap[g]? =w.heap[g]?):pD w2 S v q:=by
 obtain⟨a,b,h1,h2⟩:=h;exact⟨a,b,h1.cB hk,h2⟩
theorem pD.shape{v:Value}(h:pD w S v q):∃b a n c b2 a2 n2 c2,v= .agg #[.bool b,.slice a n c,.bool b2,.slice a2 n2 c2]:=by
 obtain⟨a,b,h1,_⟩:=h;exact h1.shape
theorem yn(q:Rat):ratio q.num q.den=q:=by rw[ratio,aF (gD q),Rat.num_divInt_den]
theorem cP.v{v:Value}(h:cP w S v q)(hl:rl q<=100000):pD w S v q:=
 ⟨_,_,h.r,yn q,ah (fk q) hl,ah (fA q) hl⟩
section
variable{S S':Nat->Prop}{H:Hp}{nx:Nat}{iv iv':Iv}{B:Nat}{w w' w2:World}{O:Nat->Sx.dU}{v:Value}{q:Rat}
end
theorem He{v:Value}(hS:Old S w)(hp:pD w S v p)(hq:pD w S u q):du PG N.ta #[v,u] w (eD w fun v' w2=>cP w2 (Nf w w2) v' (p+q)):=by
 obtain⟨a,b,h1,rfl,h2,h3⟩:=hp;obtain⟨c,d,k1,rfl,k2,k3⟩:=hq;exact IN hS h1 k1 h2 h3 k2 k3
theorem y9{v:Value}(hS:Old S w)(hp:pD w S v p)(hq:pD w S u q):du PG N.tc #[v,u] w (eD w fun v' w2=>cP w2 (Nf w w2) v' (p*q)):=by
 obtain⟨a,b,h1,rfl,h2,h3⟩:=hp;obtain⟨c,d,k1,rfl,k2,k3⟩:=hq;exact IP hS h1 k1 h2 h3 k2 k3
theorem Hc{v:Value}(hS:Old S w)(hp:pD w S v p)(hq:pD w S u q):du PG N.te #[v,u] w (eD w fun v' w2=>cP w2 (Nf w w2) v' (p-q)):=by
 obtain⟨a,b,h1,rfl,h2,h3⟩:=hp;obtain⟨c,d,k1,rfl,k2,k3⟩:=hq;exact IQ hS h1 k1 h2 h3 k2 k3
theorem Dq{v:Value}(hS:Old S w)(hp:pD w S v p)(hq:pD w S u q):du PG N.tZ #[v,u] w (eD w fun v' _=>v'= .int .i64 (rs (p-q))):=by
 obtain⟨a,b,h1,rfl,h2,h3⟩:=hp;obtain⟨c,d,k1,rfl,k2,k3⟩:=hq;exact IS hS h1 k1 h2 h3 k2 k3
theorem KO{v:Value}(hS:Old S w)(hp:pD w S v p)(hq:pD w S u q):du PG N.td #[v,u] w (eD w fun v' w2=>(q=0∧v'= .tuple #[BZ,.int .i64 9])∨(q≠0∧∃r,v'= .tuple #[r,.int .i64 0]∧cP w2 (Nf w w2) r (p / q))):=by
 obtain⟨a,b,h1,rfl,h2,h3⟩:=hp;obtain⟨c,d,k1,rfl,k2,k3⟩:=hq;exact IT hS h1 k1 h2 h3 k2 k3
end Go.Ex
namespace Go.Ex
theorem Jw(q:Rat):rs (-q)= -rs q:=by rw[rs,rs,Rat.neg_num,Int.sign_neg]
end Go.Ex
namespace Go.Ex
open Go Go.Sx Go.Proofs
variable{b:Bool}{x z:Int}{cs:List Int}{ls:List Nat}{S:Nat->Prop}{lv:Value}{w:World}
def fC(w:World)(S:Nat->Prop)(v:Value)(k:Nat)(z:Int):Prop:=∃neg ls,sd w S v neg ls∧sg neg (val ls)=z∧ls.length<=k
theorem fC.cB{w2:World}{v:Value}{k:Nat}(h:fC w S v k z)(hk:∀g,S g->w2.heap[g]? =w.heap[g]?):fC w2 S v k z:=by
 obtain⟨n,l,h1,h2⟩:=h;exact⟨n,l,h1.cB hk,h2⟩
theorem fC.cC{S':Nat->Prop}{v:Value}{k:Nat}(h:fC w S v k z)(hk:∀g,S g->S' g):fC w S' v k z:=by
 obtain⟨n,l,h1,h2⟩:=h;exact⟨n,l,h1.cC hk,h2⟩
theorem fC.r{v:Value}{k:Nat}(h:fC w S v k z):jH w S v z:=by
 obtain⟨n,l,h1,h2,_⟩:=h;exact⟨n,l,h1,h2⟩
theorem fC.shape{v:Value}{k:Nat}(h:fC w S v k z):∃b a n c,v= .agg #[.bool b,.slice a n c]:=h.r.shape
theorem cw.l{v:Value}{k:Nat}(h:cw w S v z)(hk:ln z.natAbs<=k):fC w S v k z:=by
 obtain⟨l,h1,h2,h3⟩:=h;obtain⟨_,_,hl⟩:=h1;have:=dy hl.lm h2;rw[h3]at this;exact⟨_,l,⟨_,‹_›,hl⟩,by rw[h3,AX],by omega⟩
section
variable{S S':Nat->Prop}{H:Hp}{nx:Nat}{iv iv':Iv}{B:Nat}{w w' w2:World}{O:Nat->Sx.dU}{v:Value}{k:Nat}{z:Int}
theorem fC.rel(h:fC w (Cv S B iv) v k z)(r:Rel H nx iv B w O w')(hS:∀g,S g->g<B):fC w' (Cv S B iv) v k z:=h.cB fun _ hg=>Rel.same r hS hg
theorem fC.bz(h:fC w (Cv S B iv) v k z)(r:Rel H nx iv B w O w')(hS:∀g,S g->g<B)(he:Ext w' w2)(hm:∀p,p∈iv->p∈iv'):fC w2 (Cv S B iv') v k z:=
 ((h.rel r hS).cB fun g hg=>he.block g (Rel.old r hS g hg)).cC fun _ hg=>hg.mono hm
end
section
variable{S S':Nat->Prop}{H:Hp}{nx:Nat}{iv iv':Iv}{B:Nat}{w w' w2:World}{O:Nat->Sx.dU}{v:Value}{cs:List Int}
theorem dW.rel(h:dW w (Cv S B iv) v cs)(r:Rel H nx iv B w O w')(hS:∀g,S g->g<B):dW w' (Cv S B iv) v cs:=dW.cB h fun _ hg=>Rel.same r hS hg
theorem dW.bz(h:dW w (Cv S B iv) v cs)(r:Rel H nx iv B w O w')(hS:∀g,S g->g<B)(he:Ext w' w2)(hm:∀p,p∈iv->p∈iv'):dW w2 (Cv S B iv') v cs:=
 (dW.cB (h.rel r hS) fun g hg=>he.block g (Rel.old r hS g hg)).cC fun _ hg=>hg.mono hm
theorem dW.dB(h:dW w2 (Nf w' w2) v cs)(hB:B<=w'.heap.size)(hm:(w'.heap.size,w2.heap.size)∈iv):dW w2 (Cv S B iv) v cs:=dW.cC h fun _ hg=>hg.dB hB hm
end
def Ka(b:Bool):Int:=if b then -1 else 1
theorem K3(b:Bool):Ka b=1∨Ka b= -1:=by cases b<;>simp[Ka]
theorem JY(b:Bool)(n:Nat):Ka b*(n:Int)=sg b n:=by cases b<;>simp[Ka,sg]
theorem ES{v:Value}{neg:Bool}(hS:Old S w)(h:sd w S v neg ls)(hl:ls.length<=40000000):
  du PG N.lg #[v] w (eD w fun v' w2=>dW w2 (Nf w w2) v' (de (Ka neg) ls)):=by
 obtain⟨lv,rfl,hL⟩:=h;have hlm:=hL.lm;obtain⟨a,c,rfl,hc,hcell⟩:=hL.sl;refine tu (by simp) ?_
 cases neg with
 |true=>
  refine⟨Nat×World,fun z=>⟨[(1,.o (.p 0 0)),(3,.o (.v (.int .i64 (-1)))),(4,.o (.w 1 (2*z.1))),(5,.o (.v (.int .i64 z.1)))],[(1,.vec T.int 1 ((de (-1) (ls.take z.1)).map (Value.int .i64))),(0,.box T.Int [.v (.bool true),.v (.slice a ls.length c)])],2,[],z.2⟩,fun z=>ls.length-z.1,
   fun z=>cQ w.heap.size w z.2∧z.1<=ls.length,?_,?_⟩
  ·intro O w' r
   exact⟨(0,w'),⟨r.cI,by simp⟩,Sub.nil 4 T.int 1 rfl (by simp[ko,SV.sc,At.sc,gM]) r fun ρ1 r1=>
    Sub.gn [] r1⟩
  rintro⟨i,w1⟩ ⟨hw,hi⟩;dsimp only at hw hi ⊢;have hln:((de (-1) (ls.take i)).map (Value.int .i64)).length=2*i:=by rw[aL,gZ,aW];omega
  refine dH.mk (fun h=>?_) (fun h=>?_)
  ·have h:i<ls.length:=by simpa using h
   obtain⟨x,hx⟩:∃x,ls[i]? =some x:=⟨_,aA h⟩
   have hx32:=hlm x (aD hx);obtain⟨ad,rfl,q1,q2⟩:=hcell i x hx;have htk:de (-1) (ls.take (i+1))=de (-1) (ls.take i)++[(-1)*((x % 65536:Nat):Int),(-1)*((x / 65536:Nat):Int)]:=by rw[List.take_add_one,hx,Option.toList_some,nX];rfl
   refine⟨ad,rfl,by omega,.int .u32 x,fun O w' r=>?_,?_⟩
   ·rw[aJ,ai];exact jw hS hw r q1 q2
   refine⟨(x:Int),wo,by decide,((x % 65536:Nat):Int),rfl,(-1)*((x % 65536:Nat):Int),wo,by decide,((x / 65536:Nat):Int),by rw[show (x:Int).tdiv 65536=((x / 65536:Nat):Int)from rfl,wrap64]<;>omega,(-1)*((x / 65536:Nat):Int),wo,?_⟩;refine .inl ?_;refine⟨by rw[hln,ai],by omega,by unfold maxLen;omega,((i+1:Nat):Int),wo,?_⟩;intro ρ3 w3 r3;have hm5:(de (-1) (ls.take (i+1))).map (Value.int .i64)=(de (-1) (ls.take i)).map (Value.int .i64)++[.int .i64 ((-1)*((x % 65536:Nat):Int)),.int .i64 ((-1)*((x / 65536:Nat):Int))]:=by
    rw[htk];simp
   exact⟨(i+1,w3),⟨hw.tr r3.cI,by dsimp only;omega⟩,Sub.gn [(1,3)] r3 ⟨by dsimp only;rw[hm5];rfl,rfl,trivial⟩,by dsimp only;omega⟩
  have h:i=ls.length:=by
   have:¬i<ls.length:=by simpa using h
   omega
  subst h;rw[bF]at hln ⊢;intro ρe we re;have hrow:=re.B1 (id:=1) (m:=2*ls.length) rfl (by rw[hln,ai]) (by decide);have hcols:=pY hrow (by rw[gZ]) (by unfold maxLen;omega);refine⟨_,rfl,hw.tr re.cI,dW.cC hcols fun g hg=>.inr ?_⟩;have:=ownsRow.low hrow g hg;exact this
 |false=>
  refine⟨Nat×World,fun z=>⟨[(1,.o (.p 0 0)),(3,.o (.v (.int .i64 (1)))),(4,.o (.w 1 (2*z.1))),(5,.o (.v (.int .i64 z.1)))],[(1,.vec T.int 1 ((de (1) (ls.take z.1)).map (Value.int .i64))),(0,.box T.Int [.v (.bool false),.v (.slice a ls.length c)])],2,[],z.2⟩,fun z=>ls.length-z.1,
   fun z=>cQ w.heap.size w z.2∧z.1<=ls.length,?_,?_⟩
  ·intro O w' r
   exact⟨(0,w'),⟨r.cI,by simp⟩,Sub.nil 4 T.int 1 rfl (by simp[ko,SV.sc,At.sc,gM]) r fun ρ1 r1=>
    Sub.gn [] r1⟩
  rintro⟨i,w1⟩ ⟨hw,hi⟩;dsimp only at hw hi ⊢;have hln:((de (1) (ls.take i)).map (Value.int .i64)).length=2*i:=by rw[aL,gZ,aW];omega
  refine dH.mk (fun h=>?_) (fun h=>?_)
  ·have h:i<ls.length:=by simpa using h
   obtain⟨x,hx⟩:∃x,ls[i]? =some x:=⟨_,aA h⟩
   have hx32:=hlm x (aD hx);obtain⟨ad,rfl,q1,q2⟩:=hcell i x hx;have htk:de (1) (ls.take (i+1))=de (1) (ls.take i)++[(1)*((x % 65536:Nat):Int),(1)*((x / 65536:Nat):Int)]:=by rw[List.take_add_one,hx,Option.toList_some,nX];rfl
   refine⟨ad,rfl,by omega,.int .u32 x,fun O w' r=>?_,?_⟩
   ·rw[aJ,ai];exact jw hS hw r q1 q2
   refine⟨(x:Int),wo,by decide,((x % 65536:Nat):Int),rfl,(1)*((x % 65536:Nat):Int),wo,by decide,((x / 65536:Nat):Int),by rw[show (x:Int).tdiv 65536=((x / 65536:Nat):Int)from rfl,wrap64]<;>omega,(1)*((x / 65536:Nat):Int),wo,?_⟩;refine .inl ?_;refine⟨by rw[hln,ai],by omega,by unfold maxLen;omega,((i+1:Nat):Int),wo,?_⟩;intro ρ3 w3 r3;have hm5:(de (1) (ls.take (i+1))).map (Value.int .i64)=(de (1) (ls.take i)).map (Value.int .i64)++[.int .i64 ((1)*((x % 65536:Nat):Int)),.int .i64 ((1)*((x / 65536:Nat):Int))]:=by
    rw[htk];simp
   exact⟨(i+1,w3),⟨hw.tr r3.cI,by dsimp only;omega⟩,Sub.gn [(1,3)] r3 ⟨by dsimp only;rw[hm5];rfl,rfl,trivial⟩,by dsimp only;omega⟩
  have h:i=ls.length:=by
   have:¬i<ls.length:=by simpa using h
   omega
  subst h;rw[bF]at hln ⊢;intro ρe we re;have hrow:=re.B1 (id:=1) (m:=2*ls.length) rfl (by rw[hln,ai]) (by decide);have hcols:=pY hrow (by rw[gZ]) (by unfold maxLen;omega);refine⟨_,rfl,hw.tr re.cI,dW.cC hcols fun g hg=>.inr ?_⟩;have:=ownsRow.low hrow g hg;exact this
def zT(cs:List Int)(n:Nat)(z:Int):Prop:=dD cs=z∧cs.length<=n∧(∀c∈cs,-65535<=c∧c<=65535)∧(0<=z->∀c∈cs,0<=c)
theorem zU(s:Int)(h:val ls=0):∀c∈de s ls,c=0:=fun c hc=>by
 induction ls with
 |nil=>cases hc
 |cons l r ih=>
  have h:l+4294967296*val r=0:=h;have h1:l=0:=by omega
  have h2:val r=0:=by omega
  subst h1;rw[de]at hc;rcases List.mem_cons.1 hc with rfl|hc
  ·simp
  rcases List.mem_cons.1 hc with rfl|hc
  ·simp
  ·exact ih h2 hc
theorem fC.DA{v:Value}{k:Nat}(h:fC w S v k z):∃b a ls c,v= .agg #[.bool b,.slice a ls.length c]∧dA w S (.slice a ls.length c) ls∧sg b (val ls)=z∧ls.length<=k:=by
 obtain⟨b,ls,⟨lv,rfl,hl⟩,hz,hk⟩:=h;obtain⟨a,c,rfl,_⟩:=hl.sl;exact⟨b,a,ls,c,rfl,hl,hz,hk⟩
theorem fC.ln{v:Value}{k:Nat}(h:fC w S v k z):ln z.natAbs<=k:=by
 obtain⟨b,a,ls,c,_,hl,hz,hk⟩:=h.DA;rw[<-hz,rD];exact IM hl.lm hk
theorem fC.neg{k:Nat}(h:fC w S (.agg #[.bool b,lv]) k z):fC w S (.agg #[.bool (!b),lv]) k (-z):=by
 obtain⟨b,ls,⟨lv,e,hl⟩,hz,hk⟩:=h;simp only[Value.agg.injEq,Array.mk.injEq,List.cons.injEq,Value.bool.injEq,and_true]at e;obtain⟨rfl,rfl⟩:=e;refine⟨_,ls,⟨_,rfl,hl⟩,?_,hk⟩;rw[<-hz]
 cases b<;>simp[sg]
theorem fC.abs{k:Nat}(h:fC w S (.agg #[.bool b,lv]) k z):fC w S (.agg #[.bool false,lv]) k (z.natAbs:Int):=by
 obtain⟨b,ls,⟨lv,e,hl⟩,hz,hk⟩:=h;simp only[Value.agg.injEq,Array.mk.injEq,List.cons.injEq,Value.bool.injEq,and_true]at e;obtain⟨rfl,rfl⟩:=e;exact⟨_,ls,⟨_,rfl,hl⟩,by rw[<-hz,rD];rfl,hk⟩
theorem p8{v:Value}{k:Nat}(hS:Old S w)(h:fC w S v k z)(hk:k<=40000000):
  du PG N.lg #[v] w (eD w fun v' w2=>∃cs,dW w2 (Nf w w2) v' cs∧zT cs (2*k) z):=by
 obtain⟨b,ls,hi,hz,hl⟩:=h;have hlm:Lm ls:=by obtain⟨_,_,h⟩:=hi;exact h.lm
 refine(ES hS hi (by omega)).mono fun _ w2 ⟨v2,e1,e2,e3⟩=>⟨v2,e1,e2,_,e3,by rw[Ar,JY,hz],by rw[gZ];omega,xr (K3 b) hlm,fun h0=>?_⟩
 cases b with
 |false=>exact fun c hc=>(vE hlm c hc).1
 |true=>
  rw[Hq]at hz;exact fun c hc=>by rw[zU _ (show val ls=0 by omega) c hc];decide
theorem ET{v:Value}{n:Nat}(hS:Old S w)(h:dW w S v cs)(hb:zT cs n z)(hn:n<=100000000):
  du PG N.j8 #[v] w (eD w fun v' w2=>cw w2 (Nf w w2) v' z):=by
 have:=uG hS h (fun c hc=>by have:=hb.2.2.1 c hc;omega) (by have:=hb.2.1;omega);rw[hb.1]at this;exact this
theorem IW{v:Value}{k:Nat}(hS:Old S w)(hx:fC w S v k x)(hk:k<=40000000):
  du PG N.AK #[v] w (eD w fun v' w2=>cw w2 (Nf w w2) v' x):=by
 have hw:cQ w.heap.size w w:=cQ.refl;replace hx:=hx.cC (S':=Cv S w.heap.size []) fun _ h=>.inl h;obtain⟨b1,a1,n1,c1,rfl⟩:=hx.shape;refine BD (by simp) ?_;refine bu (cE hw (fun _ w' v w2=>∃cs,dW w2 (Nf w' w2) v cs∧zT cs (2*k) (x)) (fun O w' r=>p8 (Rel.old r hS) (hx.rel r hS) (by omega)) ?_);rintro O wa1 v1 wb1 iv1 r he hw h_ ⟨cs,k1,bcs⟩;have hc:=k1.dB (S:=fun _=>False) r.bw (mN h_);obtain⟨acs,ccs,rfl,lcs⟩:=hc.shape;refine bu (cE hw (fun _ w' v w2=>cw w2 (Nf w' w2) v (x)) (fun O w' r=>ET (Rel.old r (bs w)) (hc.rel r (bs w)) bcs (by omega)) ?_);rintro O wa2 v2 wb2 iv2 r he hw h_ hn;have hC:=hn.dB (S:=fun _=>False) r.bw (mN h_);obtain⟨s2_0,s2_1,s2_2,s2_3,rfl⟩:=hC.shape;intro ρe we re;exact⟨_,rfl,hw.tr re.cI,hC.out re (bs w)⟩
theorem mX{v:Value}{k:Nat}(hS:Old S w)(hx:fC w S v k x)(hk:k<=40000000):
  du PG N.ud #[v] w (eD w fun v' w2=>cw w2 (Nf w w2) v' (-x)):=by
 have hw:cQ w.heap.size w w:=cQ.refl;replace hx:=hx.cC (S':=Cv S w.heap.size []) fun _ h=>.inl h;obtain⟨b1,a1,n1,c1,rfl⟩:=hx.shape;replace hx:=hx.neg;refine yS (by simp) ?_;refine bu (cE hw (fun _ w' v w2=>cw w2 (Nf w' w2) v (-x)) (fun O w' r=>IW (Rel.old r hS) (hx.rel r hS) hk) ?_);rintro O wa1 v1 wb1 iv1 r he hw h_ hn;have hC:=hn.dB (S:=fun _=>False) r.bw (mN h_);obtain⟨s1_0,s1_1,s1_2,s1_3,rfl⟩:=hC.shape;intro ρe we re;exact⟨_,rfl,hw.tr re.cI,hC.out re (bs w)⟩
theorem wM{v:Value}{k:Nat}(hS:Old S w)(hx:fC w S v k x)(hk:k<=40000000):
  du PG N.yA #[v] w (eD w fun v' w2=>cw w2 (Nf w w2) v' ((x.natAbs:Int))):=by
 have hw:cQ w.heap.size w w:=cQ.refl;replace hx:=hx.cC (S':=Cv S w.heap.size []) fun _ h=>.inl h;obtain⟨b1,a1,n1,c1,rfl⟩:=hx.shape;replace hx:=hx.abs;refine zH (by simp) ?_;refine bu (cE hw (fun _ w' v w2=>cw w2 (Nf w' w2) v ((x.natAbs:Int))) (fun O w' r=>IW (Rel.old r hS) (hx.rel r hS) hk) ?_);rintro O wa1 v1 wb1 iv1 r he hw h_ hn;have hC:=hn.dB (S:=fun _=>False) r.bw (mN h_);obtain⟨s1_0,s1_1,s1_2,s1_3,rfl⟩:=hC.shape;intro ρe we re;exact⟨_,rfl,hw.tr re.cI,hC.out re (bs w)⟩
theorem Jk{v:Value}{i:Nat}(hS:Old S w)(h:dW w S v cs):
  du PG N.C5 #[v,.int .i64 i] w (eD w fun v' _=>v'= .int .i64 (cs.getD i 0)):=by
 obtain⟨a,c,rfl,hc⟩:=h.shape;refine C7 (by simp) ?_;refine dH.mk (fun hi=>?_) (fun hi=>?_)
 ·have hi:i<cs.length:=by simpa using hi
  obtain⟨x,hx⟩:∃x,cs[i]? =some x:=⟨_,aA hi⟩
  obtain⟨ad,rfl,q1,q2⟩:=h.load hx;refine⟨ad,rfl,by omega,.int .i64 x,fun O w' r=>?_,?_⟩
  ·rw[aJ];exact jw hS cQ.refl r q1 q2
  intro O w2 r;exact⟨_,rfl,r.cI,by rw[List.getD,hx];rfl⟩
 ·have hi:cs.length<=i:=by
   have:¬i<cs.length:=by simpa using hi
   omega
  intro O w2 r;exact⟨_,rfl,r.cI,by rw[List.getD,List.getElem?_eq_none hi];rfl⟩
theorem val_zero(h:∀x∈ls,x=0):val ls=0:=by
 induction ls with
 |nil=>rfl
 |cons l r ih=>rw[val,h l aI,ih fun x hx=>h x (aB _ hx)]
theorem JZ{x:Nat}(h:x∈ls)(hx:x≠0):0<val ls:=by
 induction ls with
 |nil=>cases h
 |cons l r ih=>
  rw[val];rcases List.mem_cons.1 h with rfl|h
  ·omega
  ·have:=ih h;omega
theorem fy{v:Value}(hS:Old S w)(hx:jH w S v x):
  du PG N.xx #[v] w (eD w fun v' _=>v'= .int .i64 x.sign):=by
 obtain⟨b,ls,⟨lv,rfl,h1⟩,hz⟩:=hx;obtain⟨a,c,rfl,_,ha⟩:=h1.sl;have hle1:=h1.le;refine zE (by simp) ?_
 refine⟨Nat×World,fun z=>⟨[(1,.o (.p 0 0)),(3,.o (.v (.int .i64 z.1)))],[(0,.box T.Int [.v (.bool b),.v (.slice a ls.length c)])],1,[],z.2⟩,fun z=>ls.length-z.1,
  fun z=>z.1<=ls.length∧cQ w.heap.size w z.2∧∀x∈ls.take z.1,x=0,?_,?_⟩
 ·intro O w' r;exact⟨(0,w'),⟨by simp,r.cI,by simp⟩,Sub.gn [] r⟩
 rintro⟨i,w1⟩ ⟨hi,hw,ht⟩;dsimp only at hi hw ht ⊢;refine dH.mk (fun hib=>?_) (fun hib=>?_)
 ·have hib:i<ls.length:=by simpa using hib
  obtain⟨y,hy⟩:∃x,ls[i]? =some x:=⟨_,aA hib⟩
  obtain⟨ad,rfl,q1,q2⟩:=ha i y hy;refine⟨ad,rfl,by omega,.int .u32 y,fun O w' r=>by rw[aJ,ai];exact jw hS hw r q1 q2,?_⟩;refine dH.mk (fun hne=>?_) (fun hne=>?_)
  ·have hne:y≠0:=fun h=>by rw[h]at hne;simp at hne
   have hp:=JZ (aD hy) hne
   cases b with
   |true=>
    rw[Hq]at hz;intro O w2 r;exact⟨_,rfl,hw.tr r.cI,by rw[bY (by omega)];rfl⟩
   |false=>
    rw[KU]at hz;intro O w2 r;exact⟨_,rfl,hw.tr r.cI,by rw[bf (by omega)];rfl⟩
  have hne:y=0:=by simpa using hne
  subst hne;have ht2:∀x∈ls.take (i+1),x=0:=fun x hx=>by
   rw[List.take_add_one,hy]at hx;rcases bK.1 hx with hx|hx
   ·exact ht x hx
   ·simpa using hx
  refine⟨((i+1:Nat):Int),wo,?_⟩;intro ρ3 w3 r3;exact⟨(i+1,w3),⟨hib,hw.tr r3.cI,ht2⟩,Sub.gn [] r3,by dsimp only;omega⟩
 have hib:i=ls.length:=by
  have:¬i<ls.length:=by simpa using hib
  omega
 subst hib;rw[bF]at ht;intro O w2 r;refine⟨_,rfl,hw.tr r.cI,?_⟩;rw[<-hz,val_zero ht]
 cases b<;>rfl
theorem zT.at{n:Nat}(h:zT cs n z)(i:Nat): -65535<=cs.getD i 0∧cs.getD i 0<=65535:=by
 rw[List.getD]
 cases hj:cs[i]? with
 |none=>simp
 |some d=>exact h.2.2.1 d (aD hj)
end Go.Ex
namespace Go.Sx
open Go Go.Ex Go.Proofs
variable{cs:List Int}{O:Nat->Sx.dU}
theorem Rel.J0{H:Hp}{nx:Nat}{iv:Iv}{B:Nat}{w w':World}(r:Rel H nx iv B w O w'){id m:Nat}(h:cY H id=some (.vec T.int 1 (cs.map (Value.int .i64))))(hm:m=cs.length)(hl:m<=maxLen):
  ∃S',Old S' w'∧dW w' S' ((SV.o (.w id m)).den O) cs:=by
 have hrow:=r.B1 (m:=m) h (by rw[aL,hm,ai]) (by decide);exact⟨_,fun g hg=>(ownsRow.low hrow g hg).2,pY hrow hm hl⟩
end Go.Sx
namespace Go.Ex
open Go Go.Sx Go.Proofs
variable{x y:Int}{cs:List Int}{S:Nat->Prop}{O:Nat->Sx.dU}{u:Value}{w:World}
theorem ll{H:Hp}{nx:Nat}{iv:Iv}{B:Nat}{w':World}(r:Rel H nx iv B w O w'){id m:Nat}{z:Int}(h:cY H id=some (.vec T.int 1 (cs.map (Value.int .i64))))(hm:m=cs.length)(hl:m<=100000000)
  (hb:∀c∈cs,-1152921504606846976<=c∧c<=1152921504606846976) (hz:dD cs=z):du PG N.j8 #[(SV.o (.w id m)).den O] w' (eD w' fun v' w2=>cw w2 (Nf w' w2) v' z):=by
 subst hz;obtain⟨S',h1,h2⟩:=r.J0 h hm (by unfold maxLen;omega);exact uG h1 h2 hb (by omega)
theorem yo{v:Value}{k l:Nat}(hS:Old S w)(hx:fC w S v k x)(hy:fC w S u l y)(hk:k<=10000000)(hl:l<=10000000):
  du PG N.AJ #[v,u] w (eD w fun v' w2=>cw w2 (Nf w w2) v' (x+y)):=by
 have hw:cQ w.heap.size w w:=cQ.refl;replace hx:=hx.cC (S':=Cv S w.heap.size []) fun _ h=>.inl h;replace hy:=hy.cC (S':=Cv S w.heap.size []) fun _ h=>.inl h;obtain⟨b1,a1,n1,c1,rfl⟩:=hx.shape;obtain⟨b2,a2,n2,c2,rfl⟩:=hy.shape;refine Ax (by simp) ?_;refine cD hτ df [.x 0,.x 2,.x 1,.x 3,.x 4,.x 5] (by kernel_rfl) (by kernel_rfl) ?_;refine cE hw (fun _ w' v w2=>∃cs,dW w2 (Nf w' w2) v cs∧zT cs (2*k) (x)) (fun O w' r=>p8 (Rel.old r hS) (hx.rel r hS) (by omega)) ?_;rintro O wa1 v1 wb1 iv1 r he hw h_ ⟨ca,k1,bca⟩;replace hy:=hy.bz r hS he (mC h_);have hca:=k1.dB (S:=fun _=>False) r.bw (mN h_);obtain⟨aca,cca,rfl,lca⟩:=hca.shape;refine cE hw (fun _ w' v w2=>∃cs,dW w2 (Nf w' w2) v cs∧zT cs (2*l) (y)) (fun O w' r=>p8 (Rel.old r hS) (hy.rel r hS) (by omega)) ?_;rintro O wa2 v2 wb2 iv2 r he hw h_ ⟨cb,k1,bcb⟩;replace hca:=hca.bz r (bs w) he (mC h_);have hcb:=k1.dB (S:=fun _=>False) r.bw (mN h_);obtain⟨acb,ccb,rfl,lcb⟩:=hcb.shape
 refine⟨Nat×World×Iv,fun z=>⟨[(4,.o (.p 2 0)),(5,.o (.v (.slice aca ca.length cca))),(6,.o (.v (.slice acb cb.length ccb))),(7,.o (.w 3 z.1)),(8,.o (.v (.int .i64 z.1)))],[(3,.vec T.int 1 (((List.range z.1).map fun j=>ca.getD j 0+cb.getD j 0).map (Value.int .i64))),(2,.box T.Int [.v (.bool false),.v (.slice none 0 0)])],4,z.2.2,z.2.1⟩,fun z=>max ca.length cb.length-z.1,
  fun z=>z.1<=max ca.length cb.length∧cQ w.heap.size w z.2.1∧dW z.2.1 (Cf w z.2.2) (.slice aca ca.length cca) ca∧dW z.2.1 (Cf w z.2.2) (.slice acb cb.length ccb) cb,?_,?_⟩
 ·intro O w' r
  exact⟨(0,w',iv2),⟨by simp,hw.tr r.cI,hca.rel r (bs w),hcb.rel r (bs w)⟩,Sub.nil 7 T.int 1 rfl (by simp[ko,SV.sc,At.sc,gM]) r fun ρ1 r1=>
   Sub.gn [] r1⟩
 rintro⟨i,w1,iv⟩ ⟨hi,hw,hca,hcb⟩;dsimp only at hi hw hca hcb ⊢;have l1:=bca.2.1;have l2:=bcb.2.1;refine dH.mk (fun hib=>?_) (fun hib=>?_)
 ·have hib:i<max ca.length cb.length:=by
   have:=aH hib;omega
  have q1:=bca.at i;have q2:=bcb.at i;refine bu (cE hw (fun _ w' v w2=>v= .int .i64 (ca.getD i 0)) (fun O w' r=>Jk (Rel.old r (bs w)) (hca.rel r (bs w))) ?_);rintro O wa3 v3 wb3 iv3 r he hw h_ rfl;replace hca:=hca.bz r (bs w) he (mC h_);replace hcb:=hcb.bz r (bs w) he (mC h_);refine bu (cE hw (fun _ w' v w2=>v= .int .i64 (cb.getD i 0)) (fun O w' r=>Jk (Rel.old r (bs w)) (hcb.rel r (bs w))) ?_);rintro O wa4 v4 wb4 iv4 r he hw h_ rfl;replace hca:=hca.bz r (bs w) he (mC h_);replace hcb:=hcb.bz r (bs w) he (mC h_);refine⟨ca.getD i 0+cb.getD i 0,wo,?_⟩;refine .inl ?_;refine⟨by simp,by omega,by unfold maxLen;omega,((i+1:Nat):Int),wo,?_⟩;intro ρ3 w3 r3;have hm5:((List.range (i+1)).map fun j=>ca.getD j 0+cb.getD j 0).map (Value.int .i64)=((List.range i).map fun j=>ca.getD j 0+cb.getD j 0).map (Value.int .i64)++[.int .i64 (ca.getD i 0+cb.getD i 0)]:=by
   rw[bT,List.map_append,List.map_append];rfl
  exact⟨(i+1,w3,_),⟨hib,hw.tr r3.cI,hca.rel r3 (bs w),hcb.rel r3 (bs w)⟩,Sub.gn [(3,5)] r3 ⟨by dsimp only;rw[hm5];rfl,rfl,trivial⟩,by dsimp only;omega⟩
 have hib:i=max ca.length cb.length:=by
  have:=aG hib;omega
 generalize hcs:((List.range i).map fun j=>ca.getD j 0+cb.getD j 0)=cs;have hz:dD cs=x+y:=by
  rw[<-hcs,xp,xq,oT ca i (by omega),oT cb i (by omega),bca.1,bcb.1]
 have hlen:i=cs.length:=by rw[<-hcs];simp
 have hbd:∀c∈cs,-1152921504606846976<=c∧c<=1152921504606846976:=fun c hc=>by
  rw[<-hcs]at hc;obtain⟨j,_,rfl⟩:=aS.1 hc;have:=bca.at j;have:=bcb.at j;omega
 refine bu (cE hw (fun _ w' v w2=>cw w2 (Nf w' w2) v (x+y)) (fun O w' r=>ll r rfl hlen (by omega) hbd hz) ?_);rintro O wa3 v3 wb3 iv3 r he hw h_ hn;have hC:=hn.dB (S:=fun _=>False) r.bw (mN h_);obtain⟨s3_0,s3_1,s3_2,s3_3,rfl⟩:=hC.shape;intro ρe we re;exact⟨_,rfl,hw.tr re.cI,hC.out re (bs w)⟩
theorem B3{v:Value}{k l:Nat}(hS:Old S w)(hx:fC w S v k x)(hy:fC w S u l y)(hk:k<=10000000)(hl:l<=10000000):
  du PG N.xz #[v,u] w (eD w fun v' w2=>cw w2 (Nf w w2) v' (x-y)):=by
 have hly:=hy.ln;have hw:cQ w.heap.size w w:=cQ.refl;replace hx:=hx.cC (S':=Cv S w.heap.size []) fun _ h=>.inl h;replace hy:=hy.cC (S':=Cv S w.heap.size []) fun _ h=>.inl h;obtain⟨b1,a1,n1,c1,rfl⟩:=hx.shape;obtain⟨b2,a2,n2,c2,rfl⟩:=hy.shape;refine zG (by simp) ?_;refine cD hτ df [.x 0,.x 1,.x 2,.x 3,.x 4] (by kernel_rfl) (by kernel_rfl) ?_;refine cE hw (fun _ w' v w2=>cw w2 (Nf w' w2) v (-y)) (fun O w' r=>mX (Rel.old r hS) (hy.rel r hS) (by omega)) ?_;rintro O wa1 v1 wb1 iv1 r he hw h_ hn;replace hx:=hx.bz r hS he (mC h_);have hm:=hn.dB (S:=fun _=>False) r.bw (mN h_);obtain⟨s1_0,s1_1,s1_2,s1_3,rfl⟩:=hm.shape;refine cE hw (fun _ w' v w2=>cw w2 (Nf w' w2) v (x-y)) (fun O w' r=>?_) ?_
 ·have h:=yo (Rel.old r hS) (hx.rel r hS) (((hm.rel r (bs w)).l (k:=l) (by rw[Int.natAbs_neg];exact hly)).cC fun g hg=>Cv.false hg) hk hl;rw[<-Int.sub_eq_add_neg]at h;exact h
 rintro O wa2 v2 wb2 iv2 r he hw h_ hn;have hC:=hn.dB (S:=fun _=>False) r.bw (mN h_);obtain⟨s2_0,s2_1,s2_2,s2_3,rfl⟩:=hC.shape;intro ρe we re;exact⟨_,rfl,hw.tr re.cI,hC.out re (bs w)⟩
theorem GS{v:Value}{k l:Nat}(hS:Old S w)(hx:fC w S v k x)(hy:fC w S u l y)(hk:k<=10000000)(hl:l<=10000000):
  du PG N.sI #[v,u] w (eD w fun v' _=>v'= .int .i64 (x-y).sign):=by
 have hw:cQ w.heap.size w w:=cQ.refl;replace hx:=hx.cC (S':=Cv S w.heap.size []) fun _ h=>.inl h;replace hy:=hy.cC (S':=Cv S w.heap.size []) fun _ h=>.inl h;obtain⟨b1,a1,n1,c1,rfl⟩:=hx.shape;obtain⟨b2,a2,n2,c2,rfl⟩:=hy.shape;refine vO (by simp) ?_;refine bu (cE hw (fun _ w' v w2=>cw w2 (Nf w' w2) v (x-y)) (fun O w' r=>B3 (Rel.old r hS) (hx.rel r hS) (hy.rel r hS) hk hl) ?_);rintro O wa1 v1 wb1 iv1 r he hw h_ hn;have hd:=hn.dB (S:=fun _=>False) r.bw (mN h_);obtain⟨s1_0,s1_1,s1_2,s1_3,rfl⟩:=hd.shape;refine bu (cE hw (fun _ w' v w2=>v= .int .i64 (x-y).sign) (fun O w' r=>fy (Rel.old r (bs w)) (hd.rel r (bs w)).r) ?_);rintro O wa2 v2 wb2 iv2 r he hw h_ rfl;intro ρe we re;exact⟨_,rfl,hw.tr re.cI,rfl⟩
end Go.Ex
namespace Go.Ex
open Go Go.Sx Go.Proofs
variable{S:Nat->Prop}
theorem GU{x y:Int}(hx: -65535<=x∧x<=65535)(hy: -65535<=y∧y<=65535):(x*y).natAbs<=4294836225:=by
 rw[Int.natAbs_mul];exact Nat.mul_le_mul (show x.natAbs<=65535 by omega) (show y.natAbs<=65535 by omega)
theorem A8{a b:List Int}{i k:Nat}(hk:k<=i+1)(h:i<k∨a.length<=k):gp a b i k=fb a b i:=by
 rcases h with h|h
 ·rw[fb,show i+1=k by omega]
 ·obtain⟨m,hm⟩:∃m,i+1=k+m:=⟨i+1-k,by omega⟩
  rw[fb,hm,Dn a b i k m h]
theorem iO{w:World}{v u:Value}{k l:Nat}{x y:Int}(hS:Old S w)(hx:fC w S v k x)(hy:fC w S u l y)(hk:k<=10000000)(hl:l<=10000000):
  du PG N.xy #[v,u] w (eD w fun v' w2=>cw w2 (Nf w w2) v' (x*y)):=by
 have hw:cQ w.heap.size w w:=cQ.refl;replace hx:=hx.cC (S':=Cv S w.heap.size []) fun _ h=>.inl h;replace hy:=hy.cC (S':=Cv S w.heap.size []) fun _ h=>.inl h;obtain⟨b1,a1,n1,c1,rfl⟩:=hx.shape;obtain⟨b2,a2,n2,c2,rfl⟩:=hy.shape;refine zF (by simp) ?_;refine cD hτ df [.x 0,.x 2,.x 1,.x 3,.x 4,.x 5] (by kernel_rfl) (by kernel_rfl) ?_;refine cE hw (fun _ w' v w2=>∃cs,dW w2 (Nf w' w2) v cs∧zT cs (2*k) (x)) (fun O w' r=>p8 (Rel.old r hS) (hx.rel r hS) (by omega)) ?_;rintro O wa1 v1 wb1 iv1 r he hw h_ ⟨ca,k1,bca⟩;replace hy:=hy.bz r hS he (mC h_);have hca:=k1.dB (S:=fun _=>False) r.bw (mN h_);obtain⟨aca,cca,rfl,lca⟩:=hca.shape;refine cE hw (fun _ w' v w2=>∃cs,dW w2 (Nf w' w2) v cs∧zT cs (2*l) (y)) (fun O w' r=>p8 (Rel.old r hS) (hy.rel r hS) (by omega)) ?_;rintro O wa2 v2 wb2 iv2 r he hw h_ ⟨cb,k1,bcb⟩;replace hca:=hca.bz r (bs w) he (mC h_);have hcb:=k1.dB (S:=fun _=>False) r.bw (mN h_);obtain⟨acb,ccb,rfl,lcb⟩:=hcb.shape;have l1:=bca.2.1;have l2:=bcb.2.1
 refine⟨Nat×World,fun z=>⟨[(4,.o (.p 2 0)),(5,.o (.v (.slice aca ca.length cca))),(6,.o (.v (.slice acb cb.length ccb))),(7,.o (.w 3 z.1)),(8,.o (.v (.int .i64 ((z.1:Nat):Int))))],[(3,.vec T.int 1 (((List.range z.1).map (fb ca cb)).map (Value.int .i64))),(2,.box T.Int [.v (.bool false),.v (.slice none 0 0)])],4,iv2,z.2⟩,fun z=>ca.length+cb.length-z.1,
  fun z=>(z.1+1<=ca.length+cb.length∨z.1=0)∧cQ w.heap.size w z.2∧dW z.2 (Cf w iv2) (.slice aca ca.length cca) ca∧dW z.2 (Cf w iv2) (.slice acb cb.length ccb) cb,?_,?_⟩
 ·intro O w' r
  exact⟨(0,w'),⟨by simp,hw.tr r.cI,hca.rel r (bs w),hcb.rel r (bs w)⟩,Sub.nil 7 T.int 1 rfl (by simp[ko,SV.sc,At.sc,gM]) r fun ρ1 r1=>
   Sub.gn [] r1⟩
 rintro⟨i,w1⟩ ⟨hi,hw,hca,hcb⟩;dsimp only at hi hw hca hcb ⊢;refine⟨((i+1:Nat):Int),wo,((ca.length+cb.length:Nat):Int),wo,?_⟩;refine dH.mk (fun hib=>?_) (fun hib=>?_)
 ·have hib:i+1<ca.length+cb.length:=by
   have:=aH hib;omega
  refine⟨(i:Int)-cb.length,wo,(i:Int)-cb.length+1,wo,?_⟩;conv=>whnf
  rw[show max 0 ((i:Int)-cb.length+1)=((i+1-cb.length:Nat):Int) by omega];obtain⟨k0,hk0⟩:∃k0,k0=i+1-cb.length:=⟨_,rfl⟩
  rw[<-hk0]
  refine⟨Nat×World,fun z=>⟨[(4,.o (.p 2 0)),(5,.o (.v (.slice aca ca.length cca))),(6,.o (.v (.slice acb cb.length ccb))),(7,.o (.w 3 i)),(8,.o (.v (.int .i64 ((i:Nat):Int)))),(9,.o (.v (.int .i64 (gp ca cb i z.1)))),(10,.o (.v (.int .i64 ((z.1:Nat):Int))))],[(3,.vec T.int 1 (((List.range i).map (fb ca cb)).map (Value.int .i64))),(2,.box T.Int [.v (.bool false),.v (.slice none 0 0)])],4,iv2,z.2⟩,fun z=>i+1-z.1,
   fun z=>k0<=z.1∧z.1<=i+1∧cQ w.heap.size w z.2∧dW z.2 (Cf w iv2) (.slice aca ca.length cca) ca∧dW z.2 (Cf w iv2) (.slice acb cb.length ccb) cb,?_,?_⟩
  ·intro O w' r;refine⟨(k0,w'),⟨by simp,by dsimp only;omega,hw.tr r.cI,hca.rel r (bs w),hcb.rel r (bs w)⟩,Sub.gn [] r (hE:=⟨rfl,rfl,rfl,rfl,rfl,?_,rfl,trivial⟩)⟩;dsimp only
   rw[Dm ca cb i k0 k0 (fun j hj=>by omega) (by omega) (aE _)];rfl
  rintro⟨j,w2⟩ ⟨hj0,hj1,hw,hca,hcb⟩;dsimp only at hj0 hj1 hw hca hcb ⊢;conv=>whnf
  refine dH.mk (fun hji=>?_) (fun hji=>?_)
  ·have hji:j<=i:=by
    have:=aH hji;omega
   refine dH.mk (fun hja=>?_) (fun hja=>?_)
   ·have hja:j<ca.length:=by
     have:=aH hja;omega
    obtain⟨p,hp⟩:∃p,ca[j]? =some p:=⟨_,aA hja⟩
    obtain⟨q,hq⟩:∃q,cb[i-j]? =some q:=⟨_,aA (by omega)⟩
    obtain⟨ad,rfl,q1,q2⟩:=hca.load hp;obtain⟨ad2,rfl,q3,q4⟩:=hcb.load hq;have e1:ca.getD j 0=p:=by rw[List.getD,hp];rfl
    have e2:cb.getD (i-j) 0=q:=by rw[List.getD,hq];rfl
    have e3:gp ca cb i (j+1)=gp ca cb i j+p*q:=by rw[gp,e1,if_pos hji,e2]
    have m1:=bca.at j;have m2:=bcb.at (i-j);rw[e1]at m1;rw[e2]at m2;have m3:=GU m1 m2;have m4:=lG (a:=ca) (b:=cb) (i:=i) bca.2.2.1 bcb.2.2.1 j;refine cD hτ df [.x 0,.x 1,.x 2,.x 3,.x 4,.x 5,.x 6,.x 7,.x 8,.x 9,.x 10,.x 11,.x 12,.x 13] (by kernel_rfl) (by kernel_rfl) ?_;refine⟨ad,rfl,by omega,.int .i64 p,fun O w' r=>?_,?_⟩
    ·rw[aJ,cJ (w:=w2) (w2:=w') (by rw[dq];exact Rel.same (S:=fun _=>False) r (bs w) q1)];exact q2
    refine⟨((i-j:Nat):Int),wo,ad2,rfl,by omega,.int .i64 q,fun O w' r=>?_,?_⟩
    ·rw[aJ,cJ (w:=w2) (w2:=w') (by rw[dq];exact Rel.same (S:=fun _=>False) r (bs w) q3)];exact q4
    refine⟨p*q,wo,gp ca cb i (j+1),by rw[e3,wrap64]<;>omega,((j+1:Nat):Int),wo,?_⟩;intro ρ3 w3 r3;exact⟨(j+1,w3),⟨by dsimp only;omega,by dsimp only;omega,hw.tr r3.cI,hca.rel r3 (bs w),hcb.rel r3 (bs w)⟩,Sub.gn [] r3,by dsimp only;omega⟩
   have hja:ca.length<=j:=by
    have:=aG hja;omega
   rw[A8 hj1 (.inr hja)];have m4:=lG (a:=ca) (b:=cb) (i:=i) bca.2.2.1 bcb.2.2.1 (i+1);refine .inl ?_;refine⟨by simp,by omega,by unfold maxLen;omega,((i+1:Nat):Int),wo,?_⟩;intro ρ3 w3 r3;have hm5:((List.range (i+1)).map (fb ca cb)).map (Value.int .i64)=((List.range i).map (fb ca cb)).map (Value.int .i64)++[.int .i64 (fb ca cb i)]:=by
    rw[bT,List.map_append,List.map_append];rfl
   exact⟨(i+1,w3),⟨.inl hib,hw.tr r3.cI,hca.rel r3 (bs w),hcb.rel r3 (bs w)⟩,Sub.gn [(3,5)] r3 ⟨by dsimp only;rw[hm5];rfl,rfl,trivial⟩,by dsimp only;omega⟩
  have hji:i<j:=by
   have:=aG hji;omega
  rw[A8 hj1 (.inl hji)];have m4:=lG (a:=ca) (b:=cb) (i:=i) bca.2.2.1 bcb.2.2.1 (i+1);refine .inl ?_;refine⟨by simp,by omega,by unfold maxLen;omega,((i+1:Nat):Int),wo,?_⟩;intro ρ3 w3 r3;have hm5:((List.range (i+1)).map (fb ca cb)).map (Value.int .i64)=((List.range i).map (fb ca cb)).map (Value.int .i64)++[.int .i64 (fb ca cb i)]:=by
   rw[bT,List.map_append,List.map_append];rfl
  exact⟨(i+1,w3),⟨.inl hib,hw.tr r3.cI,hca.rel r3 (bs w),hcb.rel r3 (bs w)⟩,Sub.gn [(3,5)] r3 ⟨by dsimp only;rw[hm5];rfl,rfl,trivial⟩,by dsimp only;omega⟩
 have hib:ca.length+cb.length<=i+1:=by
  have:=aG hib;omega
 generalize hcs:((List.range i).map (fb ca cb))=cs;have hz:dD cs=x*y:=by
  rw[<-hcs,xp,H3 ca cb i hib,bca.1,bcb.1]
 have hlen:i=cs.length:=by rw[<-hcs];simp
 have hbd:∀c∈cs,-1152921504606846976<=c∧c<=1152921504606846976:=fun c hc=>by
  rw[<-hcs]at hc;obtain⟨j,hj,rfl⟩:=aS.1 hc;have hj:=List.mem_range.1 hj;have:=lG (a:=ca) (b:=cb) (i:=j) bca.2.2.1 bcb.2.2.1 (j+1);rw[fb];omega
 refine bu (cE hw (fun _ w' v w2=>cw w2 (Nf w' w2) v (x*y)) (fun O w' r=>ll r rfl hlen (by omega) hbd hz) ?_);rintro O wa3 v3 wb3 iv3 r he hw h_ hn;have hC:=hn.dB (S:=fun _=>False) r.bw (mN h_);obtain⟨s3_0,s3_1,s3_2,s3_3,rfl⟩:=hC.shape;intro ρe we re;exact⟨_,rfl,hw.tr re.cI,hC.out re (bs w)⟩
end Go.Ex
namespace Go.Ex
theorem F9{b r r2 q X n c:Int}(h:X=b*q+r)(hr:r*65536+c=b*n+r2):c+65536*X=b*(n+65536*q)+r2:=by
 rw[h,Int.mul_add,Int.mul_add,Int.mul_left_comm b 65536 q];omega
theorem Gj{x y Q R:Int}(hy:y≠0)(h:(x.natAbs:Int)=(y.natAbs:Int)*Q+R)(h0:0<=R)(h1:R<(y.natAbs:Int)):
  (if x<0∧0<R then(if (x<0)↔(y<0)then(Q+1)else -(Q+1))else(if (x<0)↔(y<0)then Q else -Q))=x / y∧(if x<0∧0<R then(y.natAbs:Int)-R else R)=x % y:=by
 have key:∀q r:Int,r+y*q=x->0<=r->r<(y.natAbs:Int)->q=x / y∧r=x % y:=by
  intro q r e1 e2 e3;have m:x % y=r:=by
   rw[<-e1,Int.add_mul_emod_self_left];rcases Int.lt_or_lt_of_ne hy with h|h
   ·rw[<-Int.emod_neg,Int.emod_eq_of_lt e2 (by omega)]
   ·exact Int.emod_eq_of_lt e2 (by omega)
  have d:=Int.mul_ediv_add_emod x y;rw[m]at d;exact⟨(Int.eq_of_mul_eq_mul_left hy (by omega)),m.symm⟩
 by_cases hx:x<0
 ·have ex:(x.natAbs:Int)= -x:=by omega
  by_cases hy':y<0
  ·have ey:(y.natAbs:Int)= -y:=by omega
   rw[ex,ey,Int.neg_mul]at h;by_cases hR:0<R
   ·rw[if_pos (show x<0∧0<R from⟨hx,hR⟩),if_pos (show x<0∧0<R from⟨hx,hR⟩),if_pos (show (x<0)↔(y<0) by simp[hx,hy'])];exact key _ _ (by rw[Int.mul_add,Int.mul_one];omega) (by omega) (by omega)
   ·rw[aF (show ¬(x<0∧0<R) by omega),aF (show ¬(x<0∧0<R) by omega),if_pos (show (x<0)↔(y<0) by simp[hx,hy'])];exact key _ _ (by omega) h0 h1
  ·have ey:(y.natAbs:Int)=y:=by omega
   rw[ex,ey]at h;have hn:¬((x<0)↔(y<0)):=by simp[hx,hy']
   by_cases hR:0<R
   ·rw[if_pos (show x<0∧0<R from⟨hx,hR⟩),if_pos (show x<0∧0<R from⟨hx,hR⟩),aF hn];exact key _ _ (by rw[Int.mul_neg,Int.mul_add,Int.mul_one];omega) (by omega) (by omega)
   ·rw[aF (show ¬(x<0∧0<R) by omega),aF (show ¬(x<0∧0<R) by omega),aF hn];exact key _ _ (by rw[Int.mul_neg];omega) h0 h1
 ·have ex:(x.natAbs:Int)=x:=by omega
  rw[aF (show ¬(x<0∧0<R) by omega),aF (show ¬(x<0∧0<R) by omega)];by_cases hy':y<0
  ·have ey:(y.natAbs:Int)= -y:=by omega
   rw[ex,ey,Int.neg_mul]at h;rw[aF (show ¬((x<0)↔(y<0)) by simp[hx,hy'])];exact key _ _ (by rw[Int.mul_neg];omega) h0 h1
  ·have ey:(y.natAbs:Int)=y:=by omega
   rw[ex,ey]at h;rw[if_pos (show (x<0)↔(y<0) by simp[hx,hy'])];exact key _ _ (by omega) h0 h1
theorem fY(z:Int):(z<0∧z.sign= -1)∨(z=0∧z.sign=0)∨(0<z∧z.sign=1):=by
 rcases Int.lt_trichotomy z 0 with h|h|h
 ·exact .inl ⟨h,bY h⟩
 ·exact .inr (.inl ⟨h,by rw[h];rfl⟩)
 ·exact .inr (.inr ⟨h,bf h⟩)
end Go.Ex
namespace Go.Ex
open Go Go.Sx Go.Proofs
variable{Q:List Int}{S:Nat->Prop}
def IY:Value:=.agg #[.bool false,.slice none 0 0]
theorem cw.nil(w:World)(S:Nat->Prop):cw w S (.agg #[.bool false,.slice none 0 0]) 0:=⟨[],⟨_,rfl,dA.nil _ _⟩,fun x h=>by simp at h,rfl⟩
theorem La(h:∀c∈Q,0<=c∧c<=65535):0<=dD Q:=by
 induction Q with
 |nil=>exact Int.le_refl _
 |cons c r ih=>
  have h1:=h c aI;have h2:=ih fun x hx=>h x (aB _ hx);rw[dD];omega
theorem yp{n:Int}(h:0<=n)(h2:n<4294967296):ln n.natAbs<=1:=fo.2 (by show n.natAbs<4294967296^1;omega)
theorem GV{w:World}{v u:Value}{k l:Nat}{x y:Int}(hS:Old S w)(hx:fC w S v k x)(hy:fC w S u l y)(hk:k<=1000000)(hl:l<=1000000):
  du PG N.nD #[v,u] w (eD w fun v' w2=>(y=0∧v'= .tuple #[IY,IY,.int .i64 9])∨(y≠0∧∃q r,v'= .tuple #[q,r,.int .i64 0]∧cw w2 (Nf w w2) q (x / y)∧cw w2 (Nf w w2) r (x % y))):=by
 have hw:cQ w.heap.size w w:=cQ.refl;replace hx:=hx.cC (S':=Cv S w.heap.size []) fun _ h=>.inl h;replace hy:=hy.cC (S':=Cv S w.heap.size []) fun _ h=>.inl h;obtain⟨b1,a1,n1,c1,rfl⟩:=hx.shape;obtain⟨b2,a2,n2,c2,rfl⟩:=hy.shape;refine vQ (by simp) ?_;have hly:=hy.ln;refine bu (cE hw (fun _ w' v w2=>v= .int .i64 y.sign) (fun O w' r=>fy (Rel.old r hS) (hy.rel r hS).r) ?_);rintro O wa1 v1 wb1 iv1 r he hw h_ rfl;replace hx:=hx.bz r hS he (mC h_);replace hy:=hy.bz r hS he (mC h_);refine dH.mk (fun hy0=>?_) (fun hy0=>?_)
 ·have hy0:y=0:=by rcases fY y with h|h|h<;>simp[h]at hy0 ⊢
  intro ρe we re;exact⟨_,rfl,hw.tr re.cI,.inl ⟨hy0,rfl⟩⟩
 have hy0:y≠0:=fun e=>by rw[e]at hy0;simp at hy0
 refine cD hτ df [.x 0,.x 3,.p 5,.x 1,.x 2,.x 4,.x 5,.x 6,.x 7] (by kernel_rfl) (by kernel_rfl) ?_;refine cE hw (fun _ w' v w2=>cw w2 (Nf w' w2) v ((x.natAbs:Int))) (fun O w' r=>wM (Rel.old r hS) (hx.rel r hS) (by omega)) ?_;rintro O wa2 v2 wb2 iv2 r he hw h_ hn;replace hx:=hx.bz r hS he (mC h_);replace hy:=hy.bz r hS he (mC h_);have hsx:=hn.dB (S:=fun _=>False) r.bw (mN h_);obtain⟨s2_0,s2_1,s2_2,s2_3,rfl⟩:=hsx.shape;have hlx:=hx.ln;refine cE hw (fun _ w' v w2=>∃cs,dW w2 (Nf w' w2) v cs∧zT cs (2*k) ((x.natAbs:Int))) (fun O w' r=>p8 (Rel.old r (bs w)) ((hsx.rel r (bs w)).l (k:=k) (by rw[Int.natAbs_natCast];exact hlx)) (by omega)) ?_;rintro O wa3 v3 wb3 iv3 r he hw h_ ⟨ca,k1,bca⟩;replace hx:=hx.bz r hS he (mC h_);replace hy:=hy.bz r hS he (mC h_);have hca:=k1.dB (S:=fun _=>False) r.bw (mN h_);obtain⟨aca,cca,rfl,lca⟩:=hca.shape;refine cE hw (fun _ w' v w2=>cw w2 (Nf w' w2) v ((y.natAbs:Int))) (fun O w' r=>wM (Rel.old r hS) (hy.rel r hS) (by omega)) ?_;rintro O wa4 v4 wb4 iv4 r he hw h_ hn;replace hx:=hx.bz r hS he (mC h_);replace hy:=hy.bz r hS he (mC h_);replace hca:=hca.bz r (bs w) he (mC h_);have hbb:=hn.dB (S:=fun _=>False) r.bw (mN h_);obtain⟨s4_0,s4_1,s4_2,s4_3,rfl⟩:=hbb.shape;generalize hB:(y.natAbs:Int)=B at*
 have l1:=bca.2.1;have hB0:0<B:=by omega
 have lB:ln B.natAbs<=l:=by rw[<-hB,Int.natAbs_natCast];exact hly
 refine⟨(ca.length:Int)-1,wo,Nat×List Int×Int×(Bool×Option Addr×Nat×Nat)×World×Iv,fun z=>⟨[(2,.o (.p 0 0)),(3,.o (.p 1 0)),(4,.o (.p 2 0)),(5,.o (.p 3 0)),(6,.o (.v (.int .i64 0))),(7,.o (.v (.slice aca ca.length cca))),(8,.o (.p 4 0)),(9,.o (.w 6 z.2.1.length)),(10,.o (.p 5 0)),(11,.o (.v (.int .i64 ((z.1:Int)-1))))],[(6,.vec T.int 1 (z.2.1.map (Value.int .i64))),(5,.box T.Int [.v (.bool z.2.2.2.1.1),.v (.slice z.2.2.2.1.2.1 z.2.2.2.1.2.2.1 z.2.2.2.1.2.2.2)]),(4,.box T.Int [.v (.bool s4_0),.v (.slice s4_1 s4_2 s4_3)]),(3,.box T.Int [.v (.bool false),.v (.slice none 0 0)]),(2,.box T.Int [.v (.bool false),.v (.slice none 0 0)]),(1,.box T.Int [.v (.bool b2),.v (.slice a2 n2 c2)]),(0,.box T.Int [.v (.bool b1),.v (.slice a1 n1 c1)])],7,z.2.2.2.2.2,z.2.2.2.2.1⟩,fun z=>z.1,
  fun z=>z.1<=ca.length∧z.2.1.length+z.1=ca.length∧(∀c∈z.2.1,0<=c∧c<=65535)∧dD (ca.drop z.1)=B*dD z.2.1+z.2.2.1∧0<=z.2.2.1∧z.2.2.1<B∧cQ w.heap.size w z.2.2.2.2.1∧fC z.2.2.2.2.1 (Cv S w.heap.size z.2.2.2.2.2) (.agg #[.bool b1,.slice a1 n1 c1]) k x∧fC z.2.2.2.2.1 (Cv S w.heap.size z.2.2.2.2.2) (.agg #[.bool b2,.slice a2 n2 c2]) l y∧dW z.2.2.2.2.1 (Cf w z.2.2.2.2.2) (.slice aca ca.length cca) ca∧cw z.2.2.2.2.1 (Cf w z.2.2.2.2.2) (.agg #[.bool s4_0,.slice s4_1 s4_2 s4_3]) B∧cw z.2.2.2.2.1 (Cf w z.2.2.2.2.2) (.agg #[.bool z.2.2.2.1.1,.slice z.2.2.2.1.2.1 z.2.2.2.1.2.2.1 z.2.2.2.1.2.2.2]) z.2.2.1,?_,?_⟩
 ·intro O w' r
  exact⟨(ca.length,[],0,(false,none,0,0),w',iv4),⟨aE _,by simp,by simp,by simp[dD],Int.le_refl _,hB0,hw.tr r.cI,hx.rel r hS,hy.rel r hS,hca.rel r (bs w),hbb.rel r (bs w),cw.nil _ _⟩,Sub.nil 9 T.int 1 rfl (by simp[ko,SV.sc,At.sc]) r fun ρ1 r1=>
   Sub.gn [] r1⟩
 rintro⟨j,Q,R,⟨br,ar,nr,cr⟩,w1,iv⟩ ⟨hj,hQ,hd,hv,hR0,hR1,hw,hx,hy,hca,hbb,hr⟩;dsimp only at hj hQ hd hv hR0 hR1 hw hx hy hca hbb hr ⊢;refine dH.mk (fun hib=>?_) (fun hib=>?_)
 ·obtain⟨i,rfl⟩:∃i,j=i+1:=⟨j-1,by have:(j:Int)-1≥0:=aH hib;omega⟩
  rw[show ((i+1:Nat):Int)-1=(i:Int) by omega];obtain⟨d,hd1⟩:∃d,ca[i]? =some d:=⟨_,aA (by omega)⟩
  have hd0:=bca.2.2.1 d (aD hd1);have hd2:=bca.2.2.2 (by omega) d (aD hd1);have lR:ln R.natAbs<=l:=ah (ee (by omega)) lB;have lU:ln (65536:Int).natAbs<=1:=by decide
  have m1:=cU R 65536;have m2:=yp (n:=d) hd2 (by omega);have m3:=iD (R*65536) d;refine cD hτ df [.x 0,.x 3,.x 4,.x 5,.x 6,.x 1,.x 2,.x 7,.x 8,.x 9] (by kernel_rfl) (by kernel_rfl) ?_;obtain⟨ad,ha0,q1,q2⟩:=hca.load hd1;refine⟨ad,ha0,by omega,.int .i64 d,fun O w' r=>?_,?_⟩
  ·rw[aJ,cJ (w:=w1) (w2:=w') (by rw[dq];exact Rel.same (S:=fun _=>False) r (bs w) q1)];exact q2
  refine cE hw (fun _ w' v w2=>cw w2 (Nf w' w2) v (65536)) (fun O w' r=>lX _ w' (by decide) (by decide)) ?_;rintro O wa5 v5 wb5 iv5 r he hw h_ hn;replace hx:=hx.bz r hS he (mC h_);replace hy:=hy.bz r hS he (mC h_);replace hca:=hca.bz r (bs w) he (mC h_);replace hbb:=hbb.bz r (bs w) he (mC h_);replace hr:=hr.bz r (bs w) he (mC h_);have hu:=hn.dB (S:=fun _=>False) r.bw (mN h_);obtain⟨s5_0,s5_1,s5_2,s5_3,rfl⟩:=hu.shape;refine cE hw (fun _ w' v w2=>cw w2 (Nf w' w2) v (R*65536)) (fun O w' r=>iO (Rel.old r (bs w)) ((hr.rel r (bs w)).l (k:=1000001) (by omega)) ((hu.rel r (bs w)).l (k:=1000001) (by omega)) (by omega) (by omega)) ?_;rintro O wa6 v6 wb6 iv6 r he hw h_ hn;replace hx:=hx.bz r hS he (mC h_);replace hy:=hy.bz r hS he (mC h_);replace hca:=hca.bz r (bs w) he (mC h_);replace hbb:=hbb.bz r (bs w) he (mC h_);have hp:=hn.dB (S:=fun _=>False) r.bw (mN h_);obtain⟨s6_0,s6_1,s6_2,s6_3,rfl⟩:=hp.shape;refine cE hw (fun _ w' v w2=>cw w2 (Nf w' w2) v (d)) (fun O w' r=>lX _ w' (by omega) (by omega)) ?_;rintro O wa7 v7 wb7 iv7 r he hw h_ hn;replace hx:=hx.bz r hS he (mC h_);replace hy:=hy.bz r hS he (mC h_);replace hca:=hca.bz r (bs w) he (mC h_);replace hbb:=hbb.bz r (bs w) he (mC h_);replace hp:=hp.bz r (bs w) he (mC h_);have hdd:=hn.dB (S:=fun _=>False) r.bw (mN h_);obtain⟨s7_0,s7_1,s7_2,s7_3,rfl⟩:=hdd.shape;refine cE hw (fun _ w' v w2=>cw w2 (Nf w' w2) v (R*65536+d)) (fun O w' r=>yo (Rel.old r (bs w)) ((hp.rel r (bs w)).l (k:=1000002) (by omega)) ((hdd.rel r (bs w)).l (k:=1000002) (by omega)) (by omega) (by omega)) ?_;rintro O wa8 v8 wb8 iv8 r he hw h_ hn;replace hx:=hx.bz r hS he (mC h_);replace hy:=hy.bz r hS he (mC h_);replace hca:=hca.bz r (bs w) he (mC h_);replace hbb:=hbb.bz r (bs w) he (mC h_);have hr:=hn.dB (S:=fun _=>False) r.bw (mN h_);obtain⟨s8_0,s8_1,s8_2,s8_3,rfl⟩:=hr.shape;generalize hR2:R*65536+d=R2 at*
  have hR20:0<=R2:=by omega
  have hR21:R2<65536*B:=by omega
  refine⟨Nat×Nat×Nat×World×Iv,fun z=>⟨[(2,.o (.p 0 0)),(3,.o (.p 1 0)),(4,.o (.p 2 0)),(5,.o (.p 3 0)),(6,.o (.v (.int .i64 0))),(7,.o (.v (.slice aca ca.length cca))),(8,.o (.p 4 0)),(9,.o (.w 6 Q.length)),(10,.o (.p 5 0)),(11,.o (.v (.int .i64 ((i:Int))))),(12,.o (.v (.int .i64 ((z.1:Nat):Int)))),(13,.o (.v (.int .i64 ((z.2.2.1:Nat):Int))))],[(6,.vec T.int 1 (Q.map (Value.int .i64))),(5,.box T.Int [.v (.bool s8_0),.v (.slice s8_1 s8_2 s8_3)]),(4,.box T.Int [.v (.bool s4_0),.v (.slice s4_1 s4_2 s4_3)]),(3,.box T.Int [.v (.bool false),.v (.slice none 0 0)]),(2,.box T.Int [.v (.bool false),.v (.slice none 0 0)]),(1,.box T.Int [.v (.bool b2),.v (.slice a2 n2 c2)]),(0,.box T.Int [.v (.bool b1),.v (.slice a1 n1 c1)])],7,z.2.2.2.2,z.2.2.2.1⟩,fun z=>z.2.1,
   fun z=>z.2.2.1=2^z.2.1 / 2∧z.1+2^z.2.1<=65536∧((z.1:Nat):Int)*B<=R2∧R2<((z.1+2^z.2.1:Nat):Int)*B∧cQ w.heap.size w z.2.2.2.1∧fC z.2.2.2.1 (Cv S w.heap.size z.2.2.2.2) (.agg #[.bool b1,.slice a1 n1 c1]) k x∧fC z.2.2.2.1 (Cv S w.heap.size z.2.2.2.2) (.agg #[.bool b2,.slice a2 n2 c2]) l y∧dW z.2.2.2.1 (Cf w z.2.2.2.2) (.slice aca ca.length cca) ca∧cw z.2.2.2.1 (Cf w z.2.2.2.2) (.agg #[.bool s4_0,.slice s4_1 s4_2 s4_3]) B∧cw z.2.2.2.1 (Cf w z.2.2.2.2) (.agg #[.bool s8_0,.slice s8_1 s8_2 s8_3]) R2,?_,?_⟩
  ·intro O w' r
   exact⟨(0,16,32768,w',iv8),⟨by show 32768=2^16 / 2;decide,by show 0+2^16<=65536;decide,by dsimp only;omega,by dsimp only;rw[show ((0+2^16:Nat):Int)=65536 from rfl];exact hR21,hw.tr r.cI,hx.rel r hS,hy.rel r hS,hca.rel r (bs w),hbb.rel r (bs w),hr.rel r (bs w)⟩,
    Sub.gn [] r⟩
  rintro⟨n,e,bit,w5,iv⟩ ⟨hn0,hn1,hn2,hn3,hw,hx,hy,hca,hbb,hr⟩;dsimp only at hn0 hn1 hn2 hn3 hw hx hy hca hbb hr ⊢;refine dH.mk (fun hbit=>?_) (fun hbit=>?_)
  ·have hbit:0<2^e / 2:=by have:((bit:Nat):Int)>0:=aH hbit;omega
   obtain⟨f,rfl⟩:∃f,e=f+1:=by
    cases e with
    |zero=>exact absurd hbit (by decide)
    |succ f=>exact⟨f,rfl⟩
   have e1:2^(f+1)=2*2^f:=by rw[Nat.pow_succ];omega
   have e2:2^(f+1) / 2=2^f:=by omega
   obtain rfl:bit=2^f:=by omega
   rw[e1]at hn1 hn3;have hp0:=bj f;generalize hp:2^f=p at*
   have m4:=yp (n:=((n+p:Nat):Int)) (by omega) (by omega);have m5:=cU B ((n+p:Nat):Int);have m6:ln R2.natAbs<=l+1:=by
    refine ah (ee (b:=((65536:Int)*B).natAbs) (by omega)) ?_;have:=cU 65536 B;omega
   refine cD hτ df [.x 0,.x 1,.x 2,.x 3,.x 6,.x 4,.x 5,.x 7,.x 8] (by kernel_rfl) (by kernel_rfl) ?_;refine⟨((n+p:Nat):Int),wo,?_⟩;refine cE hw (fun _ w' v w2=>cw w2 (Nf w' w2) v (((n+p:Nat):Int))) (fun O w' r=>lX _ w' (by omega) (by omega)) ?_;rintro O wa9 v9 wb9 iv9 r he hw h_ hn;replace hx:=hx.bz r hS he (mC h_);replace hy:=hy.bz r hS he (mC h_);replace hca:=hca.bz r (bs w) he (mC h_);replace hbb:=hbb.bz r (bs w) he (mC h_);replace hr:=hr.bz r (bs w) he (mC h_);have hu:=hn.dB (S:=fun _=>False) r.bw (mN h_);obtain⟨s9_0,s9_1,s9_2,s9_3,rfl⟩:=hu.shape;refine cE hw (fun _ w' v w2=>cw w2 (Nf w' w2) v (B*((n+p:Nat):Int))) (fun O w' r=>iO (Rel.old r (bs w)) ((hbb.rel r (bs w)).l (k:=1000001) (by omega)) ((hu.rel r (bs w)).l (k:=1000001) (by omega)) (by omega) (by omega)) ?_;rintro O wa10 v10 wb10 iv10 r he hw h_ hn;replace hx:=hx.bz r hS he (mC h_);replace hy:=hy.bz r hS he (mC h_);replace hca:=hca.bz r (bs w) he (mC h_);replace hbb:=hbb.bz r (bs w) he (mC h_);replace hr:=hr.bz r (bs w) he (mC h_);have hp2:=hn.dB (S:=fun _=>False) r.bw (mN h_);obtain⟨s10_0,s10_1,s10_2,s10_3,rfl⟩:=hp2.shape;refine cE hw (fun _ w' v w2=>v= .int .i64 (B*((n+p:Nat):Int)-R2).sign) (fun O w' r=>GS (Rel.old r (bs w)) ((hp2.rel r (bs w)).l (k:=1000001) (by omega)) ((hr.rel r (bs w)).l (k:=1000001) (by omega)) (by omega) (by omega)) ?_;rintro O wa11 v11 wb11 iv11 r he hw h_ rfl;replace hx:=hx.bz r hS he (mC h_);replace hy:=hy.bz r hS he (mC h_);replace hca:=hca.bz r (bs w) he (mC h_);replace hbb:=hbb.bz r (bs w) he (mC h_);replace hr:=hr.bz r (bs w) he (mC h_);have hs:=fY (B*((n+p:Nat):Int)-R2);refine dH.mk (fun hle=>?_) (fun hle=>?_)
   ·have hle:=aH hle;have hle2:((n+p:Nat):Int)*B<=R2:=by rw[Int.mul_comm];omega
    refine⟨((n+p:Nat):Int),wo,by decide,((2^f / 2:Nat):Int),by rw[hp,show((p:Nat):Int).tdiv 2=((p / 2:Nat):Int)from rfl,wrap64]<;>omega,?_⟩;intro ρ3 w3 r3;exact⟨(n+p,f,2^f / 2,w3,_),⟨rfl,by dsimp only;omega,hle2,by dsimp only;rw[hp,show n+p+p=n+2*p by omega];exact hn3,hw.tr r3.cI,hx.rel r3 hS,hy.rel r3 hS,hca.rel r3 (bs w),hbb.rel r3 (bs w),hr.rel r3 (bs w)⟩,Sub.gn [] r3,by dsimp only;omega⟩
   have hle:=aG hle;have hle2:R2<((n+p:Nat):Int)*B:=by rw[Int.mul_comm];omega
   refine⟨by decide,((2^f / 2:Nat):Int),by rw[hp,show((p:Nat):Int).tdiv 2=((p / 2:Nat):Int)from rfl,wrap64]<;>omega,?_⟩;intro ρ3 w3 r3;exact⟨(n,f,2^f / 2,w3,_),⟨rfl,by dsimp only;omega,hn2,by dsimp only;rw[hp];exact hle2,hw.tr r3.cI,hx.rel r3 hS,hy.rel r3 hS,hca.rel r3 (bs w),hbb.rel r3 (bs w),hr.rel r3 (bs w)⟩,Sub.gn [] r3,by dsimp only;omega⟩
  have hbit:¬0<2^e / 2:=by have:¬((bit:Nat):Int)>0:=aG hbit;omega
  obtain rfl:e=0:=by
   cases e with
   |zero=>rfl
   |succ f=>exact absurd (show 0<2^(f+1) / 2 by rw[Nat.pow_succ];have:=bj f;omega) hbit
  rw[show n+2^0=n+1 from rfl]at hn1 hn3;rw[Int.natCast_add,Int.add_mul]at hn3;rw[Int.mul_comm]at hn2;rw[Int.mul_comm]at hn3;have m4:=yp (n:=((n:Nat):Int)) (by omega) (by omega);have m5:=cU B ((n:Nat):Int);have m6:ln R2.natAbs<=l+1:=by
   refine ah (ee (b:=((65536:Int)*B).natAbs) (by omega)) ?_;have:=cU 65536 B;omega
  refine cD hτ df [.x 0,.x 1,.x 2,.x 3,.x 4,.x 5,.x 6] (by kernel_rfl) (by kernel_rfl) ?_;refine cE hw (fun _ w' v w2=>cw w2 (Nf w' w2) v (((n:Nat):Int))) (fun O w' r=>lX _ w' (by omega) (by omega)) ?_;rintro O wa9 v9 wb9 iv9 r he hw h_ hn;replace hx:=hx.bz r hS he (mC h_);replace hy:=hy.bz r hS he (mC h_);replace hca:=hca.bz r (bs w) he (mC h_);replace hbb:=hbb.bz r (bs w) he (mC h_);replace hr:=hr.bz r (bs w) he (mC h_);have hu:=hn.dB (S:=fun _=>False) r.bw (mN h_);obtain⟨s9_0,s9_1,s9_2,s9_3,rfl⟩:=hu.shape;refine cE hw (fun _ w' v w2=>cw w2 (Nf w' w2) v (B*((n:Nat):Int))) (fun O w' r=>iO (Rel.old r (bs w)) ((hbb.rel r (bs w)).l (k:=1000001) (by omega)) ((hu.rel r (bs w)).l (k:=1000001) (by omega)) (by omega) (by omega)) ?_;rintro O wa10 v10 wb10 iv10 r he hw h_ hn;replace hx:=hx.bz r hS he (mC h_);replace hy:=hy.bz r hS he (mC h_);replace hca:=hca.bz r (bs w) he (mC h_);replace hbb:=hbb.bz r (bs w) he (mC h_);replace hr:=hr.bz r (bs w) he (mC h_);have hp2:=hn.dB (S:=fun _=>False) r.bw (mN h_);obtain⟨s10_0,s10_1,s10_2,s10_3,rfl⟩:=hp2.shape;refine cE hw (fun _ w' v w2=>cw w2 (Nf w' w2) v (R2-B*((n:Nat):Int))) (fun O w' r=>B3 (Rel.old r (bs w)) ((hr.rel r (bs w)).l (k:=1000002) (by omega)) ((hp2.rel r (bs w)).l (k:=1000002) (by omega)) (by omega) (by omega)) ?_;rintro O wa11 v11 wb11 iv11 r he hw h_ hn;replace hx:=hx.bz r hS he (mC h_);replace hy:=hy.bz r hS he (mC h_);replace hca:=hca.bz r (bs w) he (mC h_);replace hbb:=hbb.bz r (bs w) he (mC h_);have hr3:=hn.dB (S:=fun _=>False) r.bw (mN h_);obtain⟨s11_0,s11_1,s11_2,s11_3,rfl⟩:=hr3.shape;generalize hR3:R2-B*((n:Nat):Int)=R3 at*
  refine .inl ?_;refine⟨by rw[aL,ai],fun u hu=>by obtain⟨_,_,rfl⟩:=aS.1 hu;rfl,rfl,by omega,by unfold maxLen;omega,(i:Int)-1,wo,?_⟩;intro ρ3 w3 r3;have hv2:dD (ca.drop i)=B*dD (((n:Nat):Int)::Q)+R3:=by
   rw[C2 hd1,dD];exact F9 hv (by rw[<-hR3,<-hR2];omega)
  exact⟨(i,((n:Nat):Int)::Q,R3,(s11_0,s11_1,s11_2,s11_3),w3,_),⟨by dsimp only;omega,by dsimp only;rw[List.length_cons];omega,fun c hc=>by
    rcases List.mem_cons.1 hc with rfl|hc
    ·omega
    ·exact hd c hc,hv2,by dsimp only;omega,by dsimp only;omega,hw.tr r3.cI,hx.rel r3 hS,hy.rel r3 hS,hca.rel r3 (bs w),hbb.rel r3 (bs w),hr3.rel r3 (bs w)⟩,
   Sub.gn [(6,8)] r3 (hE:=⟨rfl,rfl,rfl,rfl,rfl,rfl,rfl,by dsimp only;rw[show (((n:Nat):Int)::Q).length=1+Q.length by rw[List.length_cons,Nat.add_comm]];rfl,rfl,rfl,trivial⟩),by dsimp only;omega⟩
 obtain rfl:j=0:=by have:¬(j:Int)-1≥0:=aG hib;omega
 rw[List.drop_zero,bca.1]at hv;rw[<-hB]at hv hR1;have key:=Gj hy0 hv hR0 hR1;rw[hB]at key hv hR1;have lq:ln (dD Q).natAbs<=k+1:=by
  have h1:=La hd;have h2:1*dD Q<=B*dD Q:=Int.mul_le_mul_of_nonneg_right (by omega) h1;exact ah (ee (b:=x.natAbs) (by omega)) (by omega)
 have lR:ln R.natAbs<=l:=ah (ee (by omega)) lB;have sx:=fY x;have sy:=fY y;have sr:=fY R;refine bu (cE hw (fun _ w' v w2=>cw w2 (Nf w' w2) v (dD Q)) (fun O w' r=>ll r rfl rfl (by omega) (fun c hc=>by have:=hd c hc;omega) rfl) ?_);rintro O wa5 v5 wb5 iv5 r he hw h_ hn;replace hx:=hx.bz r hS he (mC h_);replace hy:=hy.bz r hS he (mC h_);replace hbb:=hbb.bz r (bs w) he (mC h_);replace hr:=hr.bz r (bs w) he (mC h_);have hq:=hn.dB (S:=fun _=>False) r.bw (mN h_);obtain⟨s5_0,s5_1,s5_2,s5_3,rfl⟩:=hq.shape;refine bu (cE hw (fun _ w' v w2=>v= .int .i64 x.sign) (fun O w' r=>fy (Rel.old r hS) (hx.rel r hS).r) ?_);rintro O wa6 v6 wb6 iv6 r he hw h_ rfl;replace hx:=hx.bz r hS he (mC h_);replace hy:=hy.bz r hS he (mC h_);replace hbb:=hbb.bz r (bs w) he (mC h_);replace hr:=hr.bz r (bs w) he (mC h_);replace hq:=hq.bz r (bs w) he (mC h_);refine dH.mk (fun hxs=>?_) (fun hxs=>?_)
 ·have hxs:=aH hxs;refine bu (cE hw (fun _ w' v w2=>v= .int .i64 R.sign) (fun O w' r=>fy (Rel.old r (bs w)) (hr.rel r (bs w)).r) ?_);rintro O wa7 v7 wb7 iv7 r he hw h_ rfl;replace hx:=hx.bz r hS he (mC h_);replace hy:=hy.bz r hS he (mC h_);replace hbb:=hbb.bz r (bs w) he (mC h_);replace hr:=hr.bz r (bs w) he (mC h_);replace hq:=hq.bz r (bs w) he (mC h_);refine dH.mk (fun hrs=>?_) (fun hrs=>?_)
  ·have hrs:=aH hrs;rw[if_pos (show x<0∧0<R by omega),if_pos (show x<0∧0<R by omega)]at key;have m7:=iD (dD Q) 1;have m8:ln (1:Int).natAbs<=1:=by decide
   have m9:ln (B-R).natAbs<=l:=ah (ee (by omega)) lB;refine cD hτ df [.x 0,.x 3,.x 4,.x 1,.x 2,.x 5,.x 6,.x 7] (by kernel_rfl) (by kernel_rfl) ?_;refine cE hw (fun _ w' v w2=>cw w2 (Nf w' w2) v (1)) (fun O w' r=>lX _ w' (by omega) (by omega)) ?_;rintro O wa8 v8 wb8 iv8 r he hw h_ hn;replace hx:=hx.bz r hS he (mC h_);replace hy:=hy.bz r hS he (mC h_);replace hbb:=hbb.bz r (bs w) he (mC h_);replace hr:=hr.bz r (bs w) he (mC h_);replace hq:=hq.bz r (bs w) he (mC h_);have hu:=hn.dB (S:=fun _=>False) r.bw (mN h_);obtain⟨s8_0,s8_1,s8_2,s8_3,rfl⟩:=hu.shape;refine cE hw (fun _ w' v w2=>cw w2 (Nf w' w2) v (dD Q+1)) (fun O w' r=>yo (Rel.old r (bs w)) ((hq.rel r (bs w)).l (k:=1000003) (by omega)) ((hu.rel r (bs w)).l (k:=1000003) (by omega)) (by omega) (by omega)) ?_;rintro O wa9 v9 wb9 iv9 r he hw h_ hn;replace hx:=hx.bz r hS he (mC h_);replace hy:=hy.bz r hS he (mC h_);replace hbb:=hbb.bz r (bs w) he (mC h_);replace hr:=hr.bz r (bs w) he (mC h_);have hq2:=hn.dB (S:=fun _=>False) r.bw (mN h_);obtain⟨s9_0,s9_1,s9_2,s9_3,rfl⟩:=hq2.shape;refine cE hw (fun _ w' v w2=>cw w2 (Nf w' w2) v (B-R)) (fun O w' r=>B3 (Rel.old r (bs w)) ((hbb.rel r (bs w)).l (k:=1000003) (by omega)) ((hr.rel r (bs w)).l (k:=1000003) (by omega)) (by omega) (by omega)) ?_;rintro O wa10 v10 wb10 iv10 r he hw h_ hn;replace hx:=hx.bz r hS he (mC h_);replace hy:=hy.bz r hS he (mC h_);replace hq2:=hq2.bz r (bs w) he (mC h_);have hr2:=hn.dB (S:=fun _=>False) r.bw (mN h_);obtain⟨s10_0,s10_1,s10_2,s10_3,rfl⟩:=hr2.shape;refine cD hτ df [.x 0,.x 3,.x 1,.x 2,.x 4,.x 5,.x 6] (by kernel_rfl) (by kernel_rfl) ?_;refine cE hw (fun _ w' v w2=>v= .int .i64 x.sign) (fun O w' r=>fy (Rel.old r hS) (hx.rel r hS).r) ?_;rintro O wa11 v11 wb11 iv11 r he hw h_ rfl;replace hy:=hy.bz r hS he (mC h_);replace hq2:=hq2.bz r (bs w) he (mC h_);replace hr2:=hr2.bz r (bs w) he (mC h_);refine cE hw (fun _ w' v w2=>v= .int .i64 y.sign) (fun O w' r=>fy (Rel.old r hS) (hy.rel r hS).r) ?_;rintro O wa12 v12 wb12 iv12 r he hw h_ rfl;replace hq2:=hq2.bz r (bs w) he (mC h_);replace hr2:=hr2.bz r (bs w) he (mC h_);refine dH.mk (fun hne=>?_) (fun hne=>?_)
   ·have hn:¬((x<0)↔(y<0)):=fun e=>by
     have e2:decide (x.sign<0)=decide (y.sign<0):=decide_eq_decide.2 (by omega);rw[e2]at hne;simp at hne
    rw[aF hn]at key;refine bu (cE hw (fun _ w' v w2=>cw w2 (Nf w' w2) v (-(dD Q+1))) (fun O w' r=>mX (Rel.old r (bs w)) ((hq2.rel r (bs w)).l (k:=1000003) (by omega)) (by omega)) ?_);rintro O wa13 v13 wb13 iv13 r he hw h_ hn;replace hr2:=hr2.bz r (bs w) he (mC h_);have hq3:=hn.dB (S:=fun _=>False) r.bw (mN h_);obtain⟨s13_0,s13_1,s13_2,s13_3,rfl⟩:=hq3.shape;refine gz hτ df (.two 0 (.two 1 (.one 2 (.one 3 (.one 4 .nil))) 2 (.one 1 (.one 3 (.one 4 .nil)))) 1 (.one 0 (.one 2 (.one 3 (.one 4 .nil))))) (by kernel_rfl) ?_;refine⟨?_,?_⟩
    ·refine⟨?_,?_⟩
     ·intro ρe we re;exact⟨_,rfl,hw.tr re.cI,.inr ⟨hy0,_,_,rfl,key.1▸hq3.out re (bs w),key.2▸hr2.out re (bs w)⟩⟩
     ·intro ρe we re;exact⟨_,rfl,hw.tr re.cI,.inr ⟨hy0,_,_,rfl,key.1▸hq3.out re (bs w),key.2▸hr2.out re (bs w)⟩⟩
    ·intro ρe we re;exact⟨_,rfl,hw.tr re.cI,.inr ⟨hy0,_,_,rfl,key.1▸hq3.out re (bs w),key.2▸hr2.out re (bs w)⟩⟩
   have hn:(x<0)↔(y<0):=by
    have e2:decide (x.sign<0)=decide (y.sign<0):=by simpa using hne
    have:=decide_eq_decide.1 e2;omega
   rw[if_pos hn]at key;refine gz hτ df (.two 0 (.two 1 (.one 2 (.one 3 (.one 4 .nil))) 2 (.one 1 (.one 3 (.one 4 .nil)))) 1 (.one 0 (.one 2 (.one 3 (.one 4 .nil))))) (by kernel_rfl) ?_;refine⟨?_,?_⟩
   ·refine⟨?_,?_⟩
    ·intro ρe we re;exact⟨_,rfl,hw.tr re.cI,.inr ⟨hy0,_,_,rfl,key.1▸hq2.out re (bs w),key.2▸hr2.out re (bs w)⟩⟩
    ·intro ρe we re;exact⟨_,rfl,hw.tr re.cI,.inr ⟨hy0,_,_,rfl,key.1▸hq2.out re (bs w),key.2▸hr2.out re (bs w)⟩⟩
   ·intro ρe we re;exact⟨_,rfl,hw.tr re.cI,.inr ⟨hy0,_,_,rfl,key.1▸hq2.out re (bs w),key.2▸hr2.out re (bs w)⟩⟩
  have hrs:=aG hrs;rw[aF (show ¬(x<0∧0<R) by omega),aF (show ¬(x<0∧0<R) by omega)]at key;refine cD hτ df [.x 0,.x 3,.x 1,.x 2,.x 4,.x 5,.x 6] (by kernel_rfl) (by kernel_rfl) ?_;refine cE hw (fun _ w' v w2=>v= .int .i64 x.sign) (fun O w' r=>fy (Rel.old r hS) (hx.rel r hS).r) ?_;rintro O wa8 v8 wb8 iv8 r he hw h_ rfl;replace hy:=hy.bz r hS he (mC h_);replace hbb:=hbb.bz r (bs w) he (mC h_);replace hr:=hr.bz r (bs w) he (mC h_);replace hq:=hq.bz r (bs w) he (mC h_);refine cE hw (fun _ w' v w2=>v= .int .i64 y.sign) (fun O w' r=>fy (Rel.old r hS) (hy.rel r hS).r) ?_;rintro O wa9 v9 wb9 iv9 r he hw h_ rfl;replace hbb:=hbb.bz r (bs w) he (mC h_);replace hr:=hr.bz r (bs w) he (mC h_);replace hq:=hq.bz r (bs w) he (mC h_);refine dH.mk (fun hne=>?_) (fun hne=>?_)
  ·have hn:¬((x<0)↔(y<0)):=fun e=>by
    have e2:decide (x.sign<0)=decide (y.sign<0):=decide_eq_decide.2 (by omega);rw[e2]at hne;simp at hne
   rw[aF hn]at key;refine bu (cE hw (fun _ w' v w2=>cw w2 (Nf w' w2) v (-(dD Q))) (fun O w' r=>mX (Rel.old r (bs w)) ((hq.rel r (bs w)).l (k:=1000003) (by omega)) (by omega)) ?_);rintro O wa10 v10 wb10 iv10 r he hw h_ hn;replace hbb:=hbb.bz r (bs w) he (mC h_);replace hr:=hr.bz r (bs w) he (mC h_);have hq3:=hn.dB (S:=fun _=>False) r.bw (mN h_);obtain⟨s10_0,s10_1,s10_2,s10_3,rfl⟩:=hq3.shape;refine gz hτ df (.two 0 (.two 1 (.one 2 (.one 3 (.one 4 .nil))) 2 (.one 1 (.one 3 (.one 4 .nil)))) 1 (.one 0 (.one 2 (.one 3 (.one 4 .nil))))) (by kernel_rfl) ?_;refine⟨?_,?_⟩
   ·refine⟨?_,?_⟩
    ·intro ρe we re;exact⟨_,rfl,hw.tr re.cI,.inr ⟨hy0,_,_,rfl,key.1▸hq3.out re (bs w),key.2▸hr.out re (bs w)⟩⟩
    ·intro ρe we re;exact⟨_,rfl,hw.tr re.cI,.inr ⟨hy0,_,_,rfl,key.1▸hq3.out re (bs w),key.2▸hr.out re (bs w)⟩⟩
   ·intro ρe we re;exact⟨_,rfl,hw.tr re.cI,.inr ⟨hy0,_,_,rfl,key.1▸hq3.out re (bs w),key.2▸hr.out re (bs w)⟩⟩
  have hn:(x<0)↔(y<0):=by
   have e2:decide (x.sign<0)=decide (y.sign<0):=by simpa using hne
   have:=decide_eq_decide.1 e2;omega
  rw[if_pos hn]at key;refine gz hτ df (.two 0 (.two 1 (.one 2 (.one 3 (.one 4 .nil))) 2 (.one 1 (.one 3 (.one 4 .nil)))) 1 (.one 0 (.one 2 (.one 3 (.one 4 .nil))))) (by kernel_rfl) ?_;refine⟨?_,?_⟩
  ·refine⟨?_,?_⟩
   ·intro ρe we re;exact⟨_,rfl,hw.tr re.cI,.inr ⟨hy0,_,_,rfl,key.1▸hq.out re (bs w),key.2▸hr.out re (bs w)⟩⟩
   ·intro ρe we re;exact⟨_,rfl,hw.tr re.cI,.inr ⟨hy0,_,_,rfl,key.1▸hq.out re (bs w),key.2▸hr.out re (bs w)⟩⟩
  ·intro ρe we re;exact⟨_,rfl,hw.tr re.cI,.inr ⟨hy0,_,_,rfl,key.1▸hq.out re (bs w),key.2▸hr.out re (bs w)⟩⟩
 have hxs:=aG hxs;rw[aF (show ¬(x<0∧0<R) by omega),aF (show ¬(x<0∧0<R) by omega)]at key;refine cD hτ df [.x 0,.x 3,.x 1,.x 2,.x 4,.x 5,.x 6] (by kernel_rfl) (by kernel_rfl) ?_;refine cE hw (fun _ w' v w2=>v= .int .i64 x.sign) (fun O w' r=>fy (Rel.old r hS) (hx.rel r hS).r) ?_;rintro O wa7 v7 wb7 iv7 r he hw h_ rfl;replace hy:=hy.bz r hS he (mC h_);replace hbb:=hbb.bz r (bs w) he (mC h_);replace hr:=hr.bz r (bs w) he (mC h_);replace hq:=hq.bz r (bs w) he (mC h_);refine cE hw (fun _ w' v w2=>v= .int .i64 y.sign) (fun O w' r=>fy (Rel.old r hS) (hy.rel r hS).r) ?_;rintro O wa8 v8 wb8 iv8 r he hw h_ rfl;replace hbb:=hbb.bz r (bs w) he (mC h_);replace hr:=hr.bz r (bs w) he (mC h_);replace hq:=hq.bz r (bs w) he (mC h_);refine dH.mk (fun hne=>?_) (fun hne=>?_)
 ·have hn:¬((x<0)↔(y<0)):=fun e=>by
   have e2:decide (x.sign<0)=decide (y.sign<0):=decide_eq_decide.2 (by omega);rw[e2]at hne;simp at hne
  rw[aF hn]at key;refine bu (cE hw (fun _ w' v w2=>cw w2 (Nf w' w2) v (-(dD Q))) (fun O w' r=>mX (Rel.old r (bs w)) ((hq.rel r (bs w)).l (k:=1000003) (by omega)) (by omega)) ?_);rintro O wa9 v9 wb9 iv9 r he hw h_ hn;replace hbb:=hbb.bz r (bs w) he (mC h_);replace hr:=hr.bz r (bs w) he (mC h_);have hq3:=hn.dB (S:=fun _=>False) r.bw (mN h_);obtain⟨s9_0,s9_1,s9_2,s9_3,rfl⟩:=hq3.shape;refine gz hτ df (.two 0 (.two 1 (.one 2 (.one 3 (.one 4 .nil))) 2 (.one 1 (.one 3 (.one 4 .nil)))) 1 (.one 0 (.one 2 (.one 3 (.one 4 .nil))))) (by kernel_rfl) ?_;refine⟨?_,?_⟩
  ·refine⟨?_,?_⟩
   ·intro ρe we re;exact⟨_,rfl,hw.tr re.cI,.inr ⟨hy0,_,_,rfl,key.1▸hq3.out re (bs w),key.2▸hr.out re (bs w)⟩⟩
   ·intro ρe we re;exact⟨_,rfl,hw.tr re.cI,.inr ⟨hy0,_,_,rfl,key.1▸hq3.out re (bs w),key.2▸hr.out re (bs w)⟩⟩
  ·intro ρe we re;exact⟨_,rfl,hw.tr re.cI,.inr ⟨hy0,_,_,rfl,key.1▸hq3.out re (bs w),key.2▸hr.out re (bs w)⟩⟩
 have hn:(x<0)↔(y<0):=by
  have e2:decide (x.sign<0)=decide (y.sign<0):=by simpa using hne
  have:=decide_eq_decide.1 e2;omega
 rw[if_pos hn]at key;refine gz hτ df (.two 0 (.two 1 (.one 2 (.one 3 (.one 4 .nil))) 2 (.one 1 (.one 3 (.one 4 .nil)))) 1 (.one 0 (.one 2 (.one 3 (.one 4 .nil))))) (by kernel_rfl) ?_;refine⟨?_,?_⟩
 ·refine⟨?_,?_⟩
  ·intro ρe we re;exact⟨_,rfl,hw.tr re.cI,.inr ⟨hy0,_,_,rfl,key.1▸hq.out re (bs w),key.2▸hr.out re (bs w)⟩⟩
  ·intro ρe we re;exact⟨_,rfl,hw.tr re.cI,.inr ⟨hy0,_,_,rfl,key.1▸hq.out re (bs w),key.2▸hr.out re (bs w)⟩⟩
 ·intro ρe we re;exact⟨_,rfl,hw.tr re.cI,.inr ⟨hy0,_,_,rfl,key.1▸hq.out re (bs w),key.2▸hr.out re (bs w)⟩⟩
end Go.Ex
