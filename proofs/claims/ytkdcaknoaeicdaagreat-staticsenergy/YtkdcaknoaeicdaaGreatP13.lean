/- A part of the proof: texts X147 to L45. Each tells its conditions in its theorems. -/
import Derived.Test.YtkdcaknoaeicdaaGreatP7
import Derived.Test.YtkdcaknoaeicdaaGreatP11
import Derived.Test.YtkdcaknoaeicdaaGreatP12
namespace Go.Ex
open Go Go.Sx Go.Proofs
variable{iv:Iv}{M:List (List Rat)}{css:List (List Value)}{l:List Int}{cs:List Value}{B id:Nat}{S:Nat->Prop}{O:Nat->Sx.df}{v:Value}{w:World}
theorem LP{r s n:Nat}(h1:r*r<=n)(h2:n<(r+1)*(r+1))(h3:s*s<=n)(h4:n<(s+1)*(s+1)):r=s:=by
 rcases bq r s with h|h|h
 ·have:=Nat.mul_le_mul (show r+1<=s from h) (show r+1<=s from h);omega
 ·exact h
 ·have:=Nat.mul_le_mul (show s+1<=r from h) (show s+1<=r from h);omega
theorem Jx(n:Nat)(w:World)(hn:n<4000000004000000001):dm PG N.so #[.int .i64 n] w (eB w fun v' _=>∃r:Nat,v'= .int .i64 r∧r*r<=n∧n<(r+1)*(r+1)):=by
 have hw:cV w.heap.size w w:=cV.refl;refine wR (by simp) ?_
 refine⟨Nat×Int×World,fun z=>⟨[(0,.o (.v (.int .i64 n))),(3,.o (.v (.int .i64 ((z.1:Nat):Int)))),(4,.o (.v (.int .i64 z.2.1)))],[],0,[],z.2.2⟩,fun z=>(z.2.1-z.1).toNat,
  fun z=>(z.1:Int)<=z.2.1∧z.2.1<=2000000000∧cV w.heap.size w z.2.2∧z.1*z.1<=n∧(n:Int)<(z.2.1+1)*(z.2.1+1),?_,?_⟩
 ·intro O w' r3;exact⟨(0,2000000000,w'),⟨by simp,by simp,hw.tr r3.cM,by simp,by dsimp only;omega⟩,Sub.gn [] r3⟩
 rintro⟨lo,hi,w1⟩ ⟨hlh,hhi,hw,hlo,hup⟩;dsimp only at hlh hhi hw hlo hup ⊢;obtain⟨hi,rfl⟩:=Int.eq_ofNat_of_zero_le (show 0<=hi by omega);replace hup:n<(hi+1)*(hi+1):=by
  have h:((hi:Int)+1)*((hi:Int)+1)=(((hi+1)*(hi+1):Nat):Int):=by push_cast;rfl
  rw[h]at hup;omega
 refine dI.mk (fun hib=>?_) (fun hib=>?_)
 ·have hib:lo<hi:=by have:=aI hib;omega
  obtain⟨m,hm⟩:∃m,(lo+hi+1) / 2=m:=⟨_,rfl⟩
  have hm1:lo<m:=by omega
  have hm2:m<=hi:=by omega
  have hmm:m*m<=2000000000*2000000000:=Nat.mul_le_mul (by omega) (by omega);refine⟨((lo+hi:Nat):Int),wo,((lo+hi+1:Nat):Int),wo,by decide,(m:Int),by rw[show ((lo+hi+1:Nat):Int).tdiv 2=(((lo+hi+1) / 2:Nat):Int)from rfl,hm,wrap64]<;>omega,((m*m:Nat):Int),by rw[wrap64]<;>push_cast<;>first|rfl|omega,?_⟩;refine dI.mk (fun hd=>?_) (fun hd=>?_)
  ·have hd:m*m<=n:=by have:=aI hd;omega
   intro ρ3 w6 r3;exact⟨(m,hi,w6),⟨by dsimp only;omega,hhi,hw.tr r3.cM,hd,by dsimp only;rw[show ((hi:Int)+1)*((hi:Int)+1)=(((hi+1)*(hi+1):Nat):Int) by push_cast;rfl];omega⟩,Sub.gn [] r3,by dsimp only;omega⟩
  ·have hd:n<m*m:=by have:=aH hd;omega
   have hu3:(lo:Int)<=((m-1:Nat):Int):=by omega
   have hu4:((m-1:Nat):Int)<=2000000000:=by omega
   have hu2:(n:Int)<(((m-1:Nat):Int)+1)*(((m-1:Nat):Int)+1):=by rw[show ((m-1:Nat):Int)+1=m by omega];exact_mod_cast hd
   refine⟨((m-1:Nat):Int),wo,?_⟩;intro ρ3 w6 r3;exact⟨(lo,((m-1:Nat):Int),w6),⟨hu3,hu4,hw.tr r3.cM,hlo,hu2⟩,Sub.gn [] r3,by dsimp only;omega⟩
 have hib:lo=hi:=by have:=aH hib;omega
 subst hib;intro ρe we re;exact⟨_,rfl,hw.tr re.cM,_,rfl,hlo,hup⟩
theorem Jy(n:Int)(w:World):dm PG N.jh #[.int .i64 n] w (eB w fun v' _=>∃d,v'= .bool d∧(d=true↔0<=n∧n<=1000000)):=by
 have hw:cV w.heap.size w w:=cV.refl;refine mc (by simp) ?_;refine dI.mk (fun h1=>?_) (fun h1=>?_)
 ·intro ρe we re;have h1:=aI h1;exact⟨_,rfl,hw.tr re.cM,_,rfl,by rw[decide_eq_true_iff];exact⟨fun h=>⟨h1,h⟩,fun h=>h.2⟩⟩
 ·intro ρe we re;have h1:=aH h1;exact⟨_,rfl,hw.tr re.cM,_,rfl,(fun h=>by cases h),fun h=>absurd h.1 h1⟩
theorem Ih(sq st:Nat)(w:World)(h0:0<sq)(h1:st<=1000000):dm PG N.qg #[.int .i64 sq,.int .i64 st] w (eB w fun v' w2=>∃r:Nat,r*r<=st*st*1000*1000 / sq∧st*st*1000*1000 / sq<(r+1)*(r+1)∧cP w2 (Nf w w2) v' (Rat.divInt r 1000)):=by
 have hw:cV w.heap.size w w:=cV.refl;have h2:st*st<=1000000*1000000:=Nat.mul_le_mul h1 h1;have h4:st*st*1000*1000 / sq<=st*st*1000*1000:=Nat.div_le_self _ _;obtain⟨m,hm⟩:∃m,st*st*1000*1000 / sq=m:=⟨_,rfl⟩
 refine uU (by simp) ?_;refine⟨((st*st:Nat):Int),by rw[wrap64]<;>push_cast<;>first|rfl|omega,((st*st*1000:Nat):Int),wo,((st*st*1000*1000:Nat):Int),wo,by omega,(m:Int),by rw[show ((st*st*1000*1000:Nat):Int).tdiv (sq:Int)=((st*st*1000*1000 / sq:Nat):Int)from rfl,hm,wrap64]<;>omega,?_⟩;refine cC (cE hw (fun _ w' v w2=>∃r:Nat,v= .int .i64 r∧r*r<=m∧m<(r+1)*(r+1)) (fun O w' r=>Jx m w' (by omega)) ?_);rintro O wa1 v1 wb1 iv1 r he hw h_ ⟨rt,rfl,hr1,hr2⟩;have hrt:rt<=2000000000:=by
  rcases aQ 2000000000 rt with h|h
  ·have:=Nat.mul_le_mul h h;omega
  ·exact h
 refine cC (cE hw (fun _ w' v w2=>∃r,v= .tuple #[r,.int .i64 0]∧cP w2 (Nf w' w2) r (Rat.divInt rt 1000)) (fun O w' r=>(Ew rt 1000 w' (by omega) (by omega) (by decide) (by decide)).mono fun _ _ ⟨v2,e1,e2,e3⟩=>⟨v2,e1,e2,e3.elim (fun k=>absurd k.1 (by decide)) fun h=>h.2⟩) ?_);rintro O wa2 v2 wb2 iv2 r he hw h_ ⟨q1,rfl,k1⟩;have hd:=k1.c9 (S:=fun _=>False) r.cD (mN h_);obtain⟨s2_0a,s2_0b,s2_0c,s2_0d,s2_0e,s2_0f,s2_0g,s2_0h,rfl⟩:=hd.shape;intro ρe we re;exact⟨_,rfl,hw.tr re.cM,rt,hm▸hr1,hm▸hr2,hd.out re (cB w)⟩
theorem Ey(sq st:Nat)(w:World)(h0:0<sq)(h2:sq<=20000000000000)(h1:st<=1000000):dm PG N.qd #[.int .i64 sq,.int .i64 st] w (eB w fun v' w2=>∃vr,∃r:Nat,v'= .tuple #[vr,.int .i64 0]∧r*r<=st*st*1000*1000 / sq∧st*st*1000*1000 / sq<(r+1)*(r+1)∧cP w2 (Nf w w2) vr (Rat.divInt r 1000)):=by
 have hw:cV w.heap.size w w:=cV.refl;refine uQ (by simp) ?_;refine dI.mk (fun k1=>absurd (aI k1) (by omega)) (fun _=>?_);refine dI.mk (fun k1=>absurd (aI k1) (by omega)) (fun _=>?_);refine cC (cE hw (fun _ w' v w2=>v= .bool true) (fun O w' r=>(Jy st w').mono fun _ _ ⟨v2,e1,e2,d,e3,e4⟩=>⟨v2,e1,e2,by rw[e3,e4.2 ⟨by omega,by omega⟩]⟩) ?_);rintro O wa1 v1 wb1 iv1 r he hw h_ rfl;refine cC (cE hw (fun _ w' v w2=>∃r:Nat,r*r<=st*st*1000*1000 / sq∧st*st*1000*1000 / sq<(r+1)*(r+1)∧cP w2 (Nf w' w2) v (Rat.divInt r 1000)) (fun O w' r=>Ih sq st w' h0 h1) ?_);rintro O wa2 v2 wb2 iv2 r he hw h_ ⟨rt,hr1,hr2,k1⟩;have hd:=k1.c9 (S:=fun _=>False) r.cD (mN h_);obtain⟨s2_0a,s2_0b,s2_0c,s2_0d,s2_0e,s2_0f,s2_0g,s2_0h,rfl⟩:=hd.shape;intro ρe we re;exact⟨_,rfl,hw.tr re.cM,_,rt,rfl,hr1,hr2,hd.out re (cB w)⟩
def Gx:List Ld:=[(2,0,0,-12)]
theorem CI{cols h:Nat}(h1:∀i,i<M.length+1->∀r∈(fu M cols i).1,∀q∈r,rl q+1<=h)(h2:∀i,i<M.length->∀k,k<cols+1->∀q∈fI (fu M cols i).1 (fu M cols i).2.1 (M.getD i []) k,rl q+1<=h):tS M cols h:=
 ⟨fun i hi=>h1 i (by omega),fun i hi k hk=>h2 i hi k (by omega)⟩
def Ez:List Rat:=[-3,3,9,0,0,-9,0,12,0]
def LQ:List Rat:=[0,0,0,0,0,0,-1,0,-3 / 2]
theorem zL:kl fQ Gx=0:=by decide +kernel
set_option maxRecDepth 100000
theorem CJ:Calm fQ 2:=by
 refine⟨qA (nd zL).1,by decide,CI (by decide +kernel) (by decide +kernel),?_,by decide +kernel,by decide⟩;unfold Ht;decide +kernel
theorem Di:Ig fQ Gx 2 Ez:=⟨CE (nd zL).2,CI (by decide +kernel) (by decide +kernel),by decide +kernel⟩
theorem CK:(dR (cQ fQ) fQ.cols).1.length=9:=by decide +kernel
theorem MG:tS (iz (fL (cQ fQ) fQ.cols) (da (eJ Ez (cW fQ)) (-1))) 10 2:=CI (by decide +kernel) (by decide +kernel)
theorem Mf:iU (fL (cQ fQ) fQ.cols) (da (eJ Ez (cW fQ)) (-1)) 9=some LQ:=by decide +kernel
def MH(m:Nat):List Value:=[.int .i64 ((m / 3:Nat):Int),.int .i64 ((m % 3:Nat):Int),.bool false,.slice none 0 0,.bool false,.slice none 0 0]
def qq(m:Nat):List (List Value):=(List.range m).map MH
theorem FA{i k:Nat}(hk:k<3):(qq (3*i+k)).flatten++[.int .i64 (i:Int),.int .i64 (k:Int),.bool false,.slice none 0 0,.bool false,.slice none 0 0]=(qq (3*i+(k+1))).flatten:=by
 rw[qq,qq,<-Nat.add_assoc,bN,List.map_append,List.flatten_append];simp only[List.map_cons,List.map_nil,MH,show(3*i+k) / 3=i by omega,show(3*i+k) % 3=k by omega]
 simp
theorem Gy(m:Nat):(qq m).length=m:=by rw[qq,aL,List.length_range]
theorem Gz(m:Nat):∀cs∈qq m,cs.length=6:=fun cs hc=>by
 obtain⟨j,_,rfl⟩:=aT.1 hc;rfl
theorem eI.zeroV:eI w S (.agg #[.bool false,.slice none 0 0,.bool false,.slice none 0 0]) 0:=eI.zero
theorem ug(w:World):dm PG N.qe #[] w (eB w fun v' w2=>∃vn vb vs,v'= .agg #[vn,vb,vs]∧dV w2 (Nf w w2) vn vb vs fQ):=by
 have hw:cV w.heap.size w w:=cV.refl;refine uR (by simp) ?_;refine cC (cE hw (fun _ w' v w2=>cP w2 (Nf w' w2) v ((1:Int):Rat)) (fun O w' r=>pU 1 w' (by decide)) ?_);rintro O wa1 v1 wb1 iv1 r he hw h_ hn;have hd:=hn.c9 (S:=fun _=>False) r.cD (mN h_);obtain⟨s1_0,s1_1,s1_2,s1_3,s1_4,s1_5,s1_6,s1_7,rfl⟩:=hd.shape;conv=>whnf
 refine⟨Nat×World,fun z=>⟨[(0,.o (.p 0 0)),(2,.o (.p 4 0)),(3,.o (.v (.int .i64 ((z.1:Nat):Int))))],[(5,.vec T.xF 6 (qq (3*z.1)).flatten),(4,.box T.Frame [.s 2 0 3 3,.s 3 0 2 2,.w 5 (3*z.1)]),(3,.box T.MU [.v (.int .i64 0),.v (.int .i64 2),.v (.bool s1_0),.v (.slice s1_1 s1_2 s1_3),.v (.bool s1_4),.v (.slice s1_5 s1_6 s1_7),.v (.int .i64 1),.v (.int .i64 2),.v (.bool s1_0),.v (.slice s1_1 s1_2 s1_3),.v (.bool s1_4),.v (.slice s1_5 s1_6 s1_7)]),(2,.box T.Node [.v (.int .i64 0),.v (.int .i64 0),.v (.int .i64 0),.v (.int .i64 0),.v (.int .i64 0),.v (.int .i64 4),.v (.int .i64 3),.v (.int .i64 0),.v (.int .i64 0)]),(0,.box T.Frame [.v (.slice none 0 0),.v (.slice none 0 0),.v (.slice none 0 0)])],6,iv1,z.2⟩,fun z=>2-z.1,
  fun z=>z.1<=2∧cV w.heap.size w z.2∧cP z.2 (Cf w iv1) (.agg #[.bool s1_0,.slice s1_1 s1_2 s1_3,.bool s1_4,.slice s1_5 s1_6 s1_7]) ((1:Int):Rat),?_,?_⟩
 ·intro O w' r;exact⟨(0,w'),⟨aP _,hw.tr r.cM,hd.rel r (cB w)⟩,Sub.zx 4 2 T.xF 6 rfl rfl (by simp[jn,SV.sc,At.sc,fW]) r fun ρ1 r1=>Sub.gn [] r1⟩
 rintro⟨i,w1⟩ ⟨hi,hw,hd⟩;dsimp only at hi hw hd ⊢;conv=>whnf
 refine dI.mk (fun hib=>?_) (fun hib=>?_)
 ·have hib:i<2:=by have:=aI hib;omega
  refine⟨Nat×World,fun z=>⟨[(0,.o (.p 0 0)),(2,.o (.p 4 0)),(3,.o (.v (.int .i64 ((i:Nat):Int)))),(4,.o (.v (.int .i64 ((z.1:Nat):Int))))],[(5,.vec T.xF 6 (qq (3*i+z.1)).flatten),(4,.box T.Frame [.s 2 0 3 3,.s 3 0 2 2,.w 5 (3*i+z.1)]),(3,.box T.MU [.v (.int .i64 0),.v (.int .i64 2),.v (.bool s1_0),.v (.slice s1_1 s1_2 s1_3),.v (.bool s1_4),.v (.slice s1_5 s1_6 s1_7),.v (.int .i64 1),.v (.int .i64 2),.v (.bool s1_0),.v (.slice s1_1 s1_2 s1_3),.v (.bool s1_4),.v (.slice s1_5 s1_6 s1_7)]),(2,.box T.Node [.v (.int .i64 0),.v (.int .i64 0),.v (.int .i64 0),.v (.int .i64 0),.v (.int .i64 0),.v (.int .i64 4),.v (.int .i64 3),.v (.int .i64 0),.v (.int .i64 0)]),(0,.box T.Frame [.v (.slice none 0 0),.v (.slice none 0 0),.v (.slice none 0 0)])],6,iv1,z.2⟩,fun z=>3-z.1,
   fun z=>z.1<=3∧cV w.heap.size w z.2∧cP z.2 (Cf w iv1) (.agg #[.bool s1_0,.slice s1_1 s1_2 s1_3,.bool s1_4,.slice s1_5 s1_6 s1_7]) ((1:Int):Rat),?_,?_⟩
  ·intro O w' r3;exact⟨(0,w'),⟨aP _,hw.tr r3.cM,hd.rel r3 (cB w)⟩,Sub.gn [] r3⟩
  rintro⟨k,w3⟩ ⟨hk,hw,hd⟩;dsimp only at hk hw hd ⊢;refine dI.mk (fun hkb=>?_) (fun hkb=>?_)
  ·have hkb:k<3:=by have:=aI hkb;omega
   have hs:=FA (i:=i) hkb;have hfl:=ud (Gz (3*i+k));have hsl:=Gy (3*i+k);refine .inl ?_;refine⟨by omega,by omega,by unfold maxLen;omega,((k+1:Nat):Int),wo,?_⟩;intro ρ3 w6 r3;exact⟨(k+1,w6),⟨hkb,hw.tr r3.cM,hd.rel r3 (cB w)⟩,Sub.gn [(5,7)] r3 ⟨by dsimp only;rw[<-hs];rfl,rfl,rfl,rfl,rfl,trivial⟩,by dsimp only;omega⟩
  have hkb:k=3:=by have:=aH hkb;omega
  subst hkb;refine⟨((i+1:Nat):Int),wo,?_⟩;intro ρ3 w6 r3;exact⟨(i+1,w6),⟨hib,hw.tr r3.cM,hd.rel r3 (cB w)⟩,Sub.gn [] r3,by dsimp only;omega⟩
 have hib:i=2:=by have:=aH hib;omega
 subst hib;refine .inl ?_;refine⟨by decide,by decide,by decide,?_⟩;intro ρe we re;have hN:∀{id:Nat} {bk:jU},dA _ id=some bk->(ρe id).nil=false->Nf w we (ρe id).g:=fun h hn=>by
  obtain⟨h1,h2⟩:=re.low _ _ h hn;exact .inr ⟨h1,h2⟩
 have hR:=hd.out re (cB w);have hL:eI we (Nf w we) (.agg #[.bool s1_0,.slice s1_1 s1_2 s1_3,.bool s1_4,.slice s1_5 s1_6 s1_7]) 1:=hR.l (by decide);refine⟨_,rfl,hw.tr re.cM,_,_,_,rfl,?_,?_,?_⟩
 ·refine⟨[[.int .i64 0,.int .i64 0,.int .i64 0],[.int .i64 0,.int .i64 0,.int .i64 4],[.int .i64 3,.int .i64 0,.int .i64 0]],(re.pV (id:=2) (sz:=3) (n:=3) rfl rfl (by decide) (by repeat' first|refine List.forall_mem_cons.2 ⟨rfl,?_⟩|exact fun u hu=>absurd hu List.not_mem_nil)).cI fun g hg=>by subst hg;exact hN (id:=2) rfl (re.nn 2 _ rfl (by intros;simp) (by simp)),rfl,by simp,fun j cs x h1 h2=>?_⟩;rcases j with _|_|_|j
  ·cases h1;cases h2;rfl
  ·cases h1;cases h2;rfl
  ·cases h1;cases h2;rfl
  ·cases h2
 ·refine⟨[[.int .i64 0,.int .i64 2,.bool s1_0,.slice s1_1 s1_2 s1_3,.bool s1_4,.slice s1_5 s1_6 s1_7],[.int .i64 1,.int .i64 2,.bool s1_0,.slice s1_1 s1_2 s1_3,.bool s1_4,.slice s1_5 s1_6 s1_7]],(re.pV (id:=3) (sz:=6) (n:=2) rfl rfl (by decide) (by repeat' first|refine List.forall_mem_cons.2 ⟨rfl,?_⟩|exact fun u hu=>absurd hu List.not_mem_nil)).cI fun g hg=>by subst hg;exact hN (id:=3) rfl (re.nn 3 _ rfl (by intros;simp) (by simp)),rfl,by simp,fun j cs x h1 h2=>?_⟩;rcases j with _|_|j
  ·cases h1;cases h2;exact⟨_,_,_,_,_,_,_,_,rfl,hL⟩
  ·cases h1;cases h2;exact⟨_,_,_,_,_,_,_,_,rfl,hL⟩
  ·cases h2
 ·refine⟨qq 6++[[.int .i64 2,.int .i64 1,.bool false,.slice none 0 0,.bool false,.slice none 0 0]],?_,rfl,by decide,fun j cs x h1 h2=>?_⟩
  ·have h5:=re.iX (id:=7) (sz:=6) (m:=7) rfl (by decide) (by decide) (by decide) (by decide);rw[List.flatten_append];exact h5.cI fun g hg=>.inr hg
  ·rcases j with _|_|_|_|_|_|_|j
   ·cases h1;cases h2;exact⟨_,_,_,_,_,_,_,_,rfl,eI.zeroV⟩
   ·cases h1;cases h2;exact⟨_,_,_,_,_,_,_,_,rfl,eI.zeroV⟩
   ·cases h1;cases h2;exact⟨_,_,_,_,_,_,_,_,rfl,eI.zeroV⟩
   ·cases h1;cases h2;exact⟨_,_,_,_,_,_,_,_,rfl,eI.zeroV⟩
   ·cases h1;cases h2;exact⟨_,_,_,_,_,_,_,_,rfl,eI.zeroV⟩
   ·cases h1;cases h2;exact⟨_,_,_,_,_,_,_,_,rfl,eI.zeroV⟩
   ·cases h1;cases h2;exact⟨_,_,_,_,_,_,_,_,rfl,eI.zeroV⟩
   ·cases h2
structure eP(w:World)(S:Nat->Prop)(css:List (List Value))(qs:List Rat):Prop where
 len:css.length=qs.length
 four:∀cs∈css,cs.length=4
 at_:∀(j:Nat) cs q,css[j]? =some cs->qs[j]? =some q->gg w S cs q
section
variable{S S':Nat->Prop}{H:Hp}{nx:Nat}{iv iv':Iv}{B:Nat}{w w' w2:World}{O:Nat->Sx.df}{css:List (List Value)}{qs:List Rat}
theorem eP.nil:eP w S [] []:=⟨rfl,fun _ h=>(by cases h),fun _ _ _ h=>by cases h⟩
theorem eP.cG(h:eP w S css qs)(hk:∀g,S g->w2.heap[g]? =w.heap[g]?):eP w2 S css qs:=⟨h.len,h.four,fun j cs q h1 h2=>by
 obtain⟨b,a,n,c,b2,a2,n2,c2,e,hr⟩:=h.at_ j cs q h1 h2
 exact⟨b,a,n,c,b2,a2,n2,c2,e,hr.cG hk⟩⟩
theorem eP.cI(h:eP w S css qs)(hk:∀g,S g->S' g):eP w S' css qs:=⟨h.len,h.four,fun j cs q h1 h2=>by
 obtain⟨b,a,n,c,b2,a2,n2,c2,e,hr⟩:=h.at_ j cs q h1 h2
 exact⟨b,a,n,c,b2,a2,n2,c2,e,hr.cI hk⟩⟩
theorem eP.rel(h:eP w (Cv S B iv) css qs)(r:Rel H nx iv B w O w')(hS:∀g,S g->g<B):eP w' (Cv S B iv) css qs:=h.cG fun _ hg=>Rel.same r hS hg
theorem eP.cF(h:eP w (Cv S B iv) css qs)(r:Rel H nx iv B w O w')(hS:∀g,S g->g<B)(he:Ext w' w2)(hm:∀p,p∈iv->p∈iv'):eP w2 (Cv S B iv') css qs:=
 ((h.rel r hS).cG fun g hg=>he.block g (Rel.old r hS g hg)).cI fun _ hg=>hg.mono hm
theorem eP.push{q:Rat}(h:eP w S css qs)(hc:gg w S cs q)(h4:cs.length=4):eP w S (css++[cs]) (qs++[q]):=by
 refine⟨by simp[h.len],fun x hx=>?_,fun j x p h1 h2=>?_⟩
 ·rcases bQ.1 hx with hx|hx
  ·exact h.four x hx
  ·rw[bD.1 hx];exact h4
 ·rcases aQ j css.length with hi|hi
  ·rw[aM hi]at h1;rw[aM (by rw[<-h.len];exact hi)]at h2;exact h.at_ j x p h1 h2
  ·have hi0:j=css.length:=by have:=(aE.1 h1).1;simp at this;omega
   subst hi0;rw[aO (aG _),bM]at h1;rw[h.len,aO (aG _),bM]at h2;simp at h1 h2;subst h1 h2;exact hc
theorem eP.one(h:eP w S css qs):∀u∈css.flatten,u.oneCell'=true:=fun u hu=>by
 obtain⟨cs,hc,hu⟩:=List.mem_flatten.1 hu;obtain⟨j,hj⟩:=aS hc;obtain⟨_,_,_,_,_,_,_,_,rfl,_⟩:=h.at_ j cs _ hj (aB (by rw[<-h.len];exact(aE.1 hj).1));simp at hu;rcases hu with rfl|rfl|rfl|rfl<;>rfl
theorem eP.oN(h:eP w (Cv (fun _=>False) B iv) css qs)(r:Rel H nx iv B w O w')(hid:dA H id=some (.vec T.Rat 4 css.flatten))(h0:0<css.length)(hm:css.length<=maxLen):
  dS w' (fun _=>False) B [(B,w'.heap.size)] ((SV.o (.w id css.length)).den O) css.length qs:=by
 have h2:=h.rel r (fz B);obtain⟨k1,k2,k3,k4⟩:=MF r hid rfl h0 hm ⟨h2.len,h2.at_⟩;have hden:(SV.o (.w id css.length)).den O= .slice (some ⟨(O id).g,0,none⟩) css.length (O id).cap:=by simp[SV.den,At.den,k1]
 rw[hden];have key:∀g,Cv (fun _=>False) B iv g->Cv (fun _=>False) B [(B,w'.heap.size)] g:=fun g hg=>
  .inr ⟨hg.elim (fun h=>h.elim) fun h=>h.1,B,w'.heap.size,bD.2 rfl,hg.elim (fun h=>h.elim) fun h=>h.1,Rel.old r (fz B) g hg⟩
 refine⟨k4.cI fun g hg=>⟨key g hg,fun e=>?_⟩,fun g hg=>?_⟩
 ·injection e with e;exact Rel.not r (fz B) hg id _ hid k1 e
 ·injection hg with hg;subst hg;have:=(r.low id _ hid k1).2;exact .inr ⟨k2,B,w'.heap.size,bD.2 rfl,k2,this⟩
theorem eP.list(h:eP w S css qs)(hs:ig w S 4 v css.flatten css.length):cO w S v qs:=⟨css,h.len▸hs,h.len,h.four,h.at_⟩
end
theorem Dj(hS:Old S w)(hl:Da w S v l)(hl0:0<l.length)(hl2:l.length<=1000)(hb:∀z∈l,z.natAbs<1073741824):
  dm PG N.s9 #[v] w (eB w fun v' w2=>dS w2 (fun _=>False) w.heap.size [(w.heap.size,w2.heap.size)] v' l.length (dK l)):=by
 have hw:cV w.heap.size w w:=cV.refl;obtain⟨al,cl,rfl,hcl,hml⟩:=hl.shape;unfold maxLen at hml;refine wF (by simp) ?_
 refine⟨Nat×List (List Value)×World×Iv,fun z=>⟨[(0,.o (.v (.slice al l.length cl))),(3,.o (.w 0 z.2.1.length)),(4,.o (.v (.int .i64 ((z.1:Nat):Int))))],[(0,.vec T.Rat 4 z.2.1.flatten)],1,z.2.2.2,z.2.2.1⟩,fun z=>l.length-z.1,
  fun z=>z.1<=l.length∧cV w.heap.size w z.2.2.1∧eP z.2.2.1 (Cf w z.2.2.2) z.2.1 (dK (l.take z.1)),?_,?_⟩
 ·intro O w' r;exact⟨(0,[],w',[]),⟨aP _,hw.tr r.cM,eP.nil⟩,Sub.nil 3 T.Rat 4 rfl (by simp[jn,SV.sc,At.sc,fW]) r fun ρ1 r1=>Sub.gn [] r1⟩
 rintro⟨i,css,w1,iv⟩ ⟨hi,hw,hG⟩;dsimp only at hi hw hG ⊢;have hfl:=e9 hG.four;have hcl2:css.length=i:=by rw[hG.len,dK,aL,aY];omega
 refine dI.mk (fun hib=>?_) (fun hib=>?_)
 ·have hib:i<l.length:=by simpa using hib
  obtain⟨z,hz⟩:∃z,l[i]? =some z:=⟨_,aB hib⟩
  have hzb:=hb z (aD hz);have hnx:dK (l.take (i+1))=dK (l.take i)++[(z:Rat)]:=by rw[dK,List.take_add_one,hz,List.map_append];rfl
  obtain⟨adx,hax,hSx,hlx⟩:=Da.at hl hz;refine⟨adx,hax,by omega,.int .i64 z,rd1 hlx hw (hS _ hSx),?_⟩;refine cC (cE hw (fun _ w' v w2=>cP w2 (Nf w' w2) v (z:Rat)) (fun O w' r=>pU z w' (by omega)) ?_);rintro O wa1 v1 wb1 iv1 r he hw h_ hn;replace hG:=hG.cF r (cB w) he (mC h_);have hd:=hn.c9 (S:=fun _=>False) r.cD (mN h_);obtain⟨s1_0,s1_1,s1_2,s1_3,s1_4,s1_5,s1_6,s1_7,rfl⟩:=hd.shape;have hG2:=hG.push (cs:=[.bool s1_0,.slice s1_1 s1_2 s1_3,.bool s1_4,.slice s1_5 s1_6 s1_7]) (q:=(z:Rat)) ⟨_,_,_,_,_,_,_,_,rfl,hd⟩ rfl;rw[<-hnx]at hG2;have hfl2:css.flatten++([.bool s1_0,.slice s1_1 s1_2 s1_3,.bool s1_4,.slice s1_5 s1_6 s1_7]:List Value)=(css++([[.bool s1_0,.slice s1_1 s1_2 s1_3,.bool s1_4,.slice s1_5 s1_6 s1_7]]:List (List Value))).flatten:=by simp
  refine .inl ?_;refine⟨by omega,by omega,by unfold maxLen;omega,((i+1:Nat):Int),wo,?_⟩;intro ρ3 w3 r3;exact⟨(i+1,css++[[.bool s1_0,.slice s1_1 s1_2 s1_3,.bool s1_4,.slice s1_5 s1_6 s1_7]],w3,_),⟨hib,hw.tr r3.cM,hG2.rel r3 (cB w)⟩,Sub.gn [(0,2)] r3 ⟨by dsimp only;rw[<-hfl2];rfl,trivial⟩ ⟨rfl,by dsimp only;rw[List.length_append,List.length_singleton];rfl,rfl,trivial⟩,by dsimp only;omega⟩
 have hib:i=l.length:=aR hi (by simpa using hib);subst hib;rw[bE]at hG;intro ρe we re;refine⟨_,rfl,hw.tr re.cM,?_⟩;have h5:=hG.oN re (id:=0) rfl (by omega) (by unfold maxLen;omega);have h6:css.length=l.length:=hcl2;rw[<-h6];exact h5
theorem dV.c9{w' w2:World}{vn vb vs:Value}{f:eh}(h:dV w2 (Nf w' w2) vn vb vs f)(hB:B<=w'.heap.size)(hm:(w'.heap.size,w2.heap.size)∈iv):dV w2 (Cv (fun _=>False) B iv) vn vb vs f:=h.cI fun _ hg=>hg.c9 hB hm
abbrev FB(a b c:Int):Value:=.agg #[.int .i64 a,.int .i64 b,.int .i64 c]
theorem LS(p0 p1 p2 q0 q1 q2:Int)(w:World):(Op.equal T.yY (FB p0 p1 p2) (FB q0 q1 q2)).run PG w= .ok (decide (p0=q0∧p1=q1∧p2=q2)) w:=by
 have h:=run_underlying Tryz.underlying68;simp only[Op.equal,Op.maxDepth]
 unfold Op.equalIn;have a0:=ew (cs:= #[Value.int .i64 p0,Value.int .i64 p1,Value.int .i64 p2]) (j:=0) rfl;have a1:=ew (cs:= #[Value.int .i64 p0,Value.int .i64 p1,Value.int .i64 p2]) (j:=1) rfl;have a2:=ew (cs:= #[Value.int .i64 p0,Value.int .i64 p1,Value.int .i64 p2]) (j:=2) rfl;have b0:=ew (cs:= #[Value.int .i64 q0,Value.int .i64 q1,Value.int .i64 q2]) (j:=0) rfl;have b1:=ew (cs:= #[Value.int .i64 q0,Value.int .i64 q1,Value.int .i64 q2]) (j:=1) rfl;have b2:=ew (cs:= #[Value.int .i64 q0,Value.int .i64 q1,Value.int .i64 q2]) (j:=2) rfl;simp[h,a0,a1,a2,b0,b1,b2,eq_int 9998];by_cases h0:p0=q0
 ·by_cases h1:p1=q1
  ·by_cases h2:p2=q2<;>simp[h0,h1,h2]
  ·simp[h0,h1]
 ·simp[h0]
theorem Jz(p0 p1 p2 q0 q1 q2:Int)(w:World)(o1 o2:Operand):(do eqGuard .eql T.yY o1 o2 (FB p0 p1 p2) (FB q0 q1 q2);binOp .eql T.yY (FB p0 p1 p2) (FB q0 q1 q2)).run PG w= .ok (.bool (decide (p0=q0∧p1=q1∧p2=q2))) w:=by
 have h:=LS p0 p1 p2 q0 q1 q2 w;simp[eqGuard,binOp,h]
def LU:List Int:=[0,0,0,0,0,0,-1,0,0]
def LV:List Int:=[-3,3,9,0,0,-9,0,12,0]
theorem KA:(dK LU).set 8 (Rat.divInt (-3) 2)=LQ:=by decide +kernel
theorem LW:dK LV=Ez:=by decide +kernel
theorem HA:∀q∈Ez,rl q<=100000:=by decide +kernel
theorem Dk:∀q∈eJ Ez (cW fQ),rl q<=100000:=by decide +kernel
theorem Mh:Rat.divInt 2000 1000=((2:Int):Rat):=by decide +kernel
theorem K4{H:Hp}{nx:Nat}{w':World}(r:Rel H nx iv B w O w'){n:Nat}(h:dA H id=some (.box T.int (l.map fun z=>At.v (.int .i64 z))))(hn:l.length=n)(hm:n<=maxLen):
  Da w' (fun g=>g=(O id).g) (.slice (some ⟨(O id).g,0,none⟩) n n) l:=by
 subst hn;have h5:=r.pV (sz:=1) (n:=l.length) h (by simp) hm (fun u hu=>by obtain⟨z,_,rfl⟩:=aT.1 hu;rfl);rw[List.map_map]at h5;exact h5
set_option maxHeartbeats 1000000 in
theorem ij(w:World):dm PG N.vI #[] w (eB w fun v' _=>v'= .bool true):=by
 have hw:cV w.heap.size w w:=cV.refl;refine yi (by simp) ?_;refine cC (cE hw (fun _ w' v w2=>∃vn vb vs,v= .agg #[vn,vb,vs]∧dV w2 (Nf w' w2) vn vb vs fQ) (fun O w' r=>ug w') ?_);rintro O wa1 v1 wb1 iv1 r he hw h_ ⟨vn1,vb1,vs1,rfl,hn⟩;have hf:=hn.c9 r.cD (mN h_);obtain⟨an1,cn1,ab1,cb1,aq1,cq1,rfl,rfl,rfl,-,-,-⟩:=hf.shape;refine cC (cE hw (fun _ w' v w2=>∃vx,v= .tuple #[vx,.int .i64 0]∧cO w2 (Nf w' w2) vx Ez) (fun O w' r=>Ev (S:=(fun g=>Cf w iv1 g∨g=(O 0).g)) (l:=Gx) (h:=2) (fun g hg=>hg.elim (Rel.old r (cB w) g) fun e=>by subst e;exact Rel.lt r (id:=0) rfl) (dV.cI (dV.rel hf r (cB w)) fun g hg=>.inl hg) (show jM w' (fun g=>Cf w iv1 g∨g=(O 0).g) (.slice (some ⟨(O 0).g,0,none⟩) 1 1) Gx from⟨[[.int .i64 2,.int .i64 0,.int .i64 0,.int .i64 (-12)]],(r.pV (id:=0) (sz:=4) (n:=1) rfl rfl (by decide) (by repeat' first|refine List.forall_mem_cons.2 ⟨rfl,?_⟩|exact fun u hu=>absurd hu List.not_mem_nil)).cI fun g hg=>.inr hg,rfl,by simp,fun j cs x h1 h2=>by cases j with|zero=>(cases h1;cases h2;rfl)|succ j=>cases h2⟩) CJ Di zL) ?_);rintro O wa2 v2 wb2 iv2 r he hw h_ ⟨vx1,rfl,hn⟩;have hx:=cO.c9 (S:=fun _=>False) hn r.cD (mN h_);obtain⟨ax1,cx1,rfl,-,-⟩:=dL.shape hx;refine cC (cE hw (fun _ w' v w2=>∃vn vb vs,v= .agg #[vn,vb,vs]∧dV w2 (Nf w' w2) vn vb vs fQ) (fun O w' r=>ug w') ?_);rintro O wa3 v3 wb3 iv3 r he hw h_ ⟨vn2,vb2,vs2,rfl,hn⟩;replace hx:=cO.cF hx r (cB w) he (mC h_);have hf:=hn.c9 r.cD (mN h_);obtain⟨an2,cn2,ab2,cb2,aq2,cq2,rfl,rfl,rfl,-,-,-⟩:=hf.shape;refine cC (cE hw (fun _ w' v w2=>∃vu vx,v= .tuple #[vu,vx,.int .i64 0]∧cO w2 (Nf w' w2) vu LQ∧∃a n c,vx= .slice a n c) (fun O w' r=>(CH (S:=(fun g=>Cf w iv3 g∨g=(O 0).g)) (l:=Gx) (h:=2) (fun g hg=>hg.elim (Rel.old r (cB w) g) fun e=>by subst e;exact Rel.lt r (id:=0) rfl) (dV.cI (dV.rel hf r (cB w)) fun g hg=>.inl hg) (show jM w' (fun g=>Cf w iv3 g∨g=(O 0).g) (.slice (some ⟨(O 0).g,0,none⟩) 1 1) Gx from⟨[[.int .i64 2,.int .i64 0,.int .i64 0,.int .i64 (-12)]],(r.pV (id:=0) (sz:=4) (n:=1) rfl rfl (by decide) (by repeat' first|refine List.forall_mem_cons.2 ⟨rfl,?_⟩|exact fun u hu=>absurd hu List.not_mem_nil)).cI fun g hg=>.inr hg,rfl,by simp,fun j cs x h1 h2=>by cases j with|zero=>(cases h1;cases h2;rfl)|succ j=>cases h2⟩) CJ Di zL CK rfl HA Dk MG Mf).mono fun _ _ ⟨v2,e1,e2,vu,vx,e3,e4,e5⟩=>⟨v2,e1,e2,vu,vx,e3,e4,by obtain⟨a,c,h,_⟩:=dL.shape e5;exact⟨a,_,c,h⟩⟩) ?_);rintro O wa4 v4 wb4 iv4 r he hw h_ ⟨vu1,_,rfl,hn,ay1,ny1,cy1,rfl⟩;replace hx:=cO.cF hx r (cB w) he (mC h_);have hu:=cO.c9 (S:=fun _=>False) hn r.cD (mN h_);obtain⟨au1,cu1,rfl,-,-⟩:=dL.shape hu;refine cC (cE hw (fun _ w' v w2=>∃vn vb vs,v= .agg #[vn,vb,vs]∧dV w2 (Nf w' w2) vn vb vs fQ) (fun O w' r=>ug w') ?_);rintro O wa5 v5 wb5 iv5 r he hw h_ ⟨vn3,vb3,vs3,rfl,hn⟩;replace hx:=cO.cF hx r (cB w) he (mC h_);replace hu:=cO.cF hu r (cB w) he (mC h_);have hf:=hn.c9 r.cD (mN h_);obtain⟨an3,cn3,ab3,cb3,aq3,cq3,rfl,rfl,rfl,-,-,-⟩:=hf.shape;refine cC (cE hw (fun _ w' v w2=>v= .tuple #[FB 9 0 0,.int .i64 0]) (fun O w' r=>(Gw (S:=Cf w iv5) (h:=2) (Rel.old r (cB w)) (dV.rel hf r (cB w)) CJ (nd zL).1 (by rw[CK];decide)).mono fun _ _ ⟨v2,e1,e2,e3⟩=>⟨v2,e1,e2,by rw[e3,CK];rfl⟩) ?_);rintro O wa6 v6 wb6 iv6 r he hw h_ rfl;replace hx:=cO.cF hx r (cB w) he (mC h_);replace hu:=cO.cF hu r (cB w) he (mC h_)
 refine cC (cE hw (fun _ w' v w2=>∃vr,v= .tuple #[vr,.int .i64 0]∧cP w2 (Nf w' w2) vr ((2:Int):Rat)) (fun O w' r=>(Ey 25 10 w' (by decide) (by decide) (by decide)).mono fun _ _ ⟨v2,e1,e2,vr,rt,e3,e4,e5,e6⟩=>⟨v2,e1,e2,vr,e3,by
  have:rt=2000:=LP e4 e5 (by decide) (by decide);rw[this]at e6
  exact Mh▸e6⟩) ?_)
 rintro O wa7 v7 wb7 iv7 r he hw h_ ⟨vr1,rfl,hn⟩;replace hx:=cO.cF hx r (cB w) he (mC h_);replace hu:=cO.cF hu r (cB w) he (mC h_);have hl:=hn.c9 (S:=fun _=>False) r.cD (mN h_);obtain⟨s7_0a,s7_0b,s7_0c,s7_0d,s7_0e,s7_0f,s7_0g,s7_0h,rfl⟩:=hl.shape;refine cC (cE hw (fun _ w' v w2=>∃q,v= .tuple #[q,.int .i64 0]∧cP w2 (Nf w' w2) q (Rat.divInt (-3) 2)) (fun O w' r=>(Dl (-3) 2 w' (by decide) (by decide) (by decide) (by decide)).mono fun _ _ ⟨v2,e1,e2,e3⟩=>⟨v2,e1,e2,e3.elim (fun k=>absurd k.1 (by decide)) fun h=>h.2⟩) ?_);rintro O wa8 v8 wb8 iv8 r he hw h_ ⟨q1,rfl,hn⟩;replace hx:=cO.cF hx r (cB w) he (mC h_);replace hu:=cO.cF hu r (cB w) he (mC h_);replace hl:=hl.cF r (cB w) he (mC h_);have hh:=hn.c9 (S:=fun _=>False) r.cD (mN h_);obtain⟨s8_0a,s8_0b,s8_0c,s8_0d,s8_0e,s8_0f,s8_0g,s8_0h,rfl⟩:=hh.shape;refine cC (cL (Φ:=fun _ w' v w2=>dS w2 (fun _=>False) w'.heap.size [(w'.heap.size,w2.heap.size)] v 9 (dK LU)) (fun O w' r=>Dj (S:=fun g=>g=(O 4).g) (fun g hg=>by subst hg;exact Rel.lt r (id:=4) rfl) (K4 r (id:=4) (n:=9) (l:=LU) rfl rfl (by decide)) (by decide) (by decide) (by decide)) ?_);rintro O wa9 v9 wb9 r he hb hn;replace hw:=hw.tr hb;replace hx:=cO.cI (S':=Bs (fun _=>False) w.heap.size ((wa9.heap.size,wb9.heap.size)::iv8) v9) (cO.cG (cO.rel hx r (cB w)) fun g hg=>he.block g (Rel.old r (cB w) g hg)) fun g hg=>Bs.of r (cB w) (fun x hx=>aC _ hx) hn hg;replace hu:=cO.cI (S':=Bs (fun _=>False) w.heap.size ((wa9.heap.size,wb9.heap.size)::iv8) v9) (cO.cG (cO.rel hu r (cB w)) fun g hg=>he.block g (Rel.old r (cB w) g hg)) fun g hg=>Bs.of r (cB w) (fun x hx=>aC _ hx) hn hg;replace hl:=cP.cI (S':=Bs (fun _=>False) w.heap.size ((wa9.heap.size,wb9.heap.size)::iv8) v9) (cP.cG (hl.rel r (cB w)) fun g hg=>he.block g (Rel.old r (cB w) g hg)) fun g hg=>Bs.of r (cB w) (fun x hx=>aC _ hx) hn hg;replace hh:=cP.cI (S':=Bs (fun _=>False) w.heap.size ((wa9.heap.size,wb9.heap.size)::iv8) v9) (cP.cG (hh.rel r (cB w)) fun g hg=>he.block g (Rel.old r (cB w) g hg)) fun g hg=>Bs.of r (cB w) (fun x hx=>aC _ hx) hn hg;have hX:=hn.c9 (S:=fun _=>False) r.cD (iv:=(wa9.heap.size,wb9.heap.size)::iv8) aJ;generalize (wa9.heap.size,wb9.heap.size)::iv8=iv9 at*
 obtain⟨ax,cx,rfl,hcx⟩:=hX.row.form;obtain⟨gx,rfl⟩:=hX.at (by decide);refine⟨⟨gx,0,none⟩,rfl,by omega,?_⟩;intro O w' r;obtain⟨g,hg,h1,h2,h3,h4,h5⟩:=(hX.rel r (cB w)).store (j:=8) (by decide) (hh.cG (Bs.same r (cB w))) r (cB w);injection hg with hg;injection hg with hg;subst hg;refine⟨h1,h2,h3,fun w5 hw5=>?_⟩;obtain⟨k1,k2,k3⟩:=h5 w5 hw5;rw[KA]at k1;have hw2:cV w.heap.size w w5:=(hw.tr r.cM).tr (cV.grown k2 (fun g e=>by injection e with e;subst e;exact h4.elim (fun h=>h.elim) fun h=>h.1) r.cD);have hx2:=cO.cI (S':=Cf w iv9) (cO.cG hx (Bs.kept r (cB w) k2 fun g e=>e)) fun g hg=>hg.1;have hu2:=cO.cI (S':=Cf w iv9) (cO.cG hu (Bs.kept r (cB w) k2 fun g e=>e)) fun g hg=>hg.1;have hl2:=cP.cI (S':=Cf w iv9) (cP.cG hl (Bs.kept r (cB w) k2 fun g e=>e)) fun g hg=>hg.1;have hd2:=k1.c;have hw:=hw2;have hx:=hx2;have hu:=hu2;have hl:=hl2;have hd:=hd2;refine cJ hτ db [.x 0,.x 1,.x 2,.x 3,.x 4,.x 5,.x 6,.x 7,.x 8,.x 9,.x 10,.x 11,.x 12,.x 13,.x 14,.x 15,.x 16,.x 17,.x 18,.x 19,.x 20,.x 21,.x 22,.x 23,.x 24,.x 25,.x 26,.x 27,.x 28,.x 29,.x 30,.x 31,.x 32,.x 33,.x 34,.x 35] (by kernel_rfl) (by kernel_rfl) ?_;refine cE hw (fun _ w' v w2=>dS w2 (fun _=>False) w'.heap.size [(w'.heap.size,w2.heap.size)] v 9 (dK LV)) (fun O w' r=>Dj (S:=fun g=>g=(O 5).g) (fun g hg=>by subst hg;exact Rel.lt r (id:=5) rfl) (K4 r (id:=5) (n:=9) (l:=LV) rfl rfl (by decide)) (by decide) (by decide) (by decide)) ?_;rintro O wa10 v10 wb10 iv10 r he hw h_ hn;replace hx:=cO.cF hx r (cB w) he (mC h_);replace hu:=cO.cF hu r (cB w) he (mC h_);replace hl:=hl.cF r (cB w) he (mC h_);replace hd:=cO.cF hd r (cB w) he (mC h_);have hX:=hn.c9 (S:=fun _=>False) r.cD (mN h_);have hv:=hX.c;rw[LW]at hv;obtain⟨av,cv,rfl,-,-⟩:=dL.shape hv;refine cE hw (fun _ w' v w2=>v= .bool true) (fun O w' r=>(zN (S:=Cf w iv10) (Rel.old r (cB w)) (cO.rel hx r (cB w)) (cO.rel hv r (cB w))).mono fun _ _ ⟨v2,e1,e2,e3⟩=>⟨v2,e1,e2,by rw[e3];exact congrArg _ (bR rfl)⟩) ?_;rintro O wa11 v11 wb11 iv11 r he hw h_ rfl;replace hu:=cO.cF hu r (cB w) he (mC h_);replace hl:=hl.cF r (cB w) he (mC h_);replace hd:=cO.cF hd r (cB w) he (mC h_);refine cE hw (fun _ w' v w2=>v= .bool true) (fun O w' r=>(zN (S:=Cf w iv11) (Rel.old r (cB w)) (cO.rel hu r (cB w)) (cO.rel hd r (cB w))).mono fun _ _ ⟨v2,e1,e2,e3⟩=>⟨v2,e1,e2,by rw[e3];exact congrArg _ (bR rfl)⟩) ?_;rintro O wa12 v12 wb12 iv12 r he hw h_ rfl;replace hl:=hl.cF r (cB w) he (mC h_);refine⟨true,fun O w o1 o2=>Jz 9 0 0 9 0 0 w o1 o2,?_⟩;refine cE hw (fun _ w' v w2=>cP w2 (Nf w' w2) v ((2:Int):Rat)) (fun O w' r=>pU 2 w' (by decide)) ?_;rintro O wa13 v13 wb13 iv13 r he hw h_ hn;replace hl:=hl.cF r (cB w) he (mC h_);have ht:=hn.c9 (S:=fun _=>False) r.cD (mN h_);obtain⟨s13_0,s13_1,s13_2,s13_3,s13_4,s13_5,s13_6,s13_7,rfl⟩:=ht.shape;refine cE hw (fun _ w' v w2=>v= .bool true) (fun O w' r=>(FC (S:=Cf w iv13) (Rel.old r (cB w)) (hl.rel r (cB w)) (ht.rel r (cB w))).mono fun _ _ ⟨v2,e1,e2,e3⟩=>⟨v2,e1,e2,by rw[e3];exact congrArg _ (bR rfl)⟩) ?_;rintro O wa14 v14 wb14 iv14 r he hw h_ rfl;intro ρe we re;exact⟨_,rfl,hw.tr re.cM,rfl⟩
def MI(cs:List Value):Prop:=∃b a n c b2 a2 n2 c2,cs=[.bool b,.slice a n c,.bool b2,.slice a2 n2 c2]
def wh(cs:List Value):Prop:=∃b a n c b2 a2 n2 c2,cs=[.bool b,.slice a n c,.bool b2,.slice a2 n2 c2]∧n<=3∧n2<=3
theorem ku(a:Addr)(m n:Nat):(a.add m).add n=a.add (m+n):=by
 unfold Addr.add;split<;>split<;>simp_all<;>omega
theorem gh.l3{b1 b2:Bool}{a1 a2:Option Addr}{n1 n2 c1 c2:Nat}{a b:Int}(h:gh w S (.agg #[.bool b1,.slice a1 n1 c1,.bool b2,.slice a2 n2 c2]) a b)(hf:wh [.bool b1,.slice a1 n1 c1,.bool b2,.slice a2 n2 c2]):
  eI w S (.agg #[.bool b1,.slice a1 n1 c1,.bool b2,.slice a2 n2 c2]) (ratio a b)∧rl (ratio a b)<=3:=by
 obtain⟨_,_,_,_,_,_,_,_,e,k1,k2⟩:=hf;simp only[List.cons.injEq,Value.slice.injEq,Value.bool.injEq,and_true]at e;obtain⟨rfl,⟨rfl,rfl,rfl⟩,rfl,rfl,rfl,rfl⟩:=e;obtain⟨b1,l1,b2,l2,e,h1,h2⟩:=h;simp only[Value.agg.injEq,Array.mk.injEq,List.cons.injEq,Value.bool.injEq,and_true]at e;obtain⟨rfl,rfl,rfl,rfl⟩:=e;have g1:=h1.short k1;have g2:=h2.short k2;have r1:=g1.ln;have r2:=g2.ln;have hr:=gb a b;refine⟨⟨_,_,_,_,a,b,rfl,?_,?_,rfl⟩,by omega⟩
 ·obtain⟨ng,ls,i1,i2,i3⟩:=g1;exact⟨ng,ls,i1,i2,by omega⟩
 ·obtain⟨ng,ls,i1,i2,i3⟩:=g2;exact⟨ng,ls,i1,i2,by omega⟩
theorem CL(hS:Old S w)(hq:ig w S 4 v css.flatten css.length)(hF:∀cs∈css,MI cs):
  dm PG N.lO #[v] w (eB w fun v' _=>∃d,v'= .bool d∧(d=true->css.length<=80∧∀cs∈css,wh cs)):=by
 have hw:cV w.heap.size w w:=cV.refl;have h4:∀cs∈css,cs.length=4:=fun cs hc=>by obtain⟨_,_,_,_,_,_,_,_,rfl⟩:=hF cs hc;rfl
 have hK:eS 4 (fun _ _ cs x=>cs=x) w S v css:=⟨css,hq,rfl,h4,fun j cs x h1 h2=>by rw[h1]at h2;injection h2⟩
 obtain⟨a,c,rfl,hc,hm⟩:=hK.shape;unfold maxLen at hm;refine yj (by simp) ?_
 refine⟨Nat×World,fun z=>⟨[(0,.o (.v (.slice a css.length c))),(3,.o (.v (.int .i64 ((z.1:Nat):Int))))],[],0,[],z.2⟩,fun z=>css.length-z.1,
  fun z=>z.1<=css.length∧cV w.heap.size w z.2∧∀j cs,j<z.1->css[j]? =some cs->wh cs,?_,?_⟩
 ·intro O w' r3;exact⟨(0,w'),⟨aP _,hw.tr r3.cM,fun j cs hj=>absurd hj (Nat.not_lt_zero j)⟩,Sub.gn [] r3⟩
 rintro⟨i,w1⟩ ⟨hi,hw,hE⟩;dsimp only at hi hw hE ⊢;refine dI.mk (fun hib=>?_) (fun hib=>?_)
 ·have hib:i<css.length:=by simpa using hib
  refine dI.mk (fun h80=>?_) (fun h80=>?_)
  ·have h80:css.length<=80:=by have:=aI h80;omega
   obtain⟨cs,hcs⟩:∃cs,css[i]? =some cs:=⟨_,aB hib⟩
   obtain⟨g0,g1,g2,g3,g4,g5,g6,g7,rfl⟩:=hF cs (aD hcs);obtain⟨adx,cs2,hax,he2,-,hat⟩:=hK.load (by decide) hcs;subst he2;refine⟨adx,hax,by omega,.slice g1 g2 g3,fun O w' r=>?_,?_⟩
   ·obtain⟨k1,k2⟩:=hat 1 _ rfl;rw[aF,cH (w:=w) (w2:=w') (by simp only[dQ];exact(hw.tr r.cM).block _ (hS _ k1))];exact k2
   refine dI.mk (fun k3=>?_) (fun k3=>?_)
   ·intro ρe we re;exact⟨_,rfl,hw.tr re.cM,_,rfl,fun h=>by cases h⟩
   have k3:=aH k3;refine⟨adx,hax,by omega,.slice g5 g6 g7,fun O w' r=>?_,?_⟩
   ·obtain⟨k1,k2⟩:=hat 3 _ rfl;rw[aF,cH (w:=w) (w2:=w') (by simp only[dQ];exact(hw.tr r.cM).block _ (hS _ k1))];exact k2
   refine dI.mk (fun k4=>?_) (fun k4=>?_)
   ·intro ρe we re;exact⟨_,rfl,hw.tr re.cM,_,rfl,fun h=>by cases h⟩
   have k4:=aH k4;have hE2:∀j cs,j<i+1->css[j]? =some cs->wh cs:=fun j cs hj hc=>by
    rcases aQ j i with h|h
    ·exact hE j cs h hc
    ·have:j=i:=by omega
     subst this;rw[hcs]at hc;injection hc with hc;subst hc;exact⟨_,_,_,_,_,_,_,_,rfl,by omega,by omega⟩
   refine⟨((i+1:Nat):Int),wo,?_⟩;intro ρ3 w6 r3;exact⟨(i+1,w6),⟨hib,hw.tr r3.cM,hE2⟩,Sub.gn [] r3,by dsimp only;omega⟩
  ·have h80:=aH h80;intro ρe we re;exact⟨_,rfl,hw.tr re.cM,_,rfl,fun h=>by have:=aI h;omega⟩
 have hib:i=css.length:=aR hi (by simpa using hib);subst hib;intro ρe we re
 exact⟨_,rfl,hw.tr re.cM,_,rfl,fun h=>⟨by have:=aI h;omega,fun cs hc=>by
  obtain⟨j,hj⟩:=aS hc
  exact hE j cs (aE.1 hj).1 hj⟩⟩
end Go.Ex
namespace Go.Ex
theorem aAD{a b x p q:Rat}(h1:a<x)(h2:x<=b):(p<=q->p<=p+(x-a) / (b-a)*(q-p)∧p+(x-a) / (b-a)*(q-p)<=q)∧(q<=p->q<=p+(x-a) / (b-a)*(q-p)∧p+(x-a) / (b-a)*(q-p)<=p):=by
 have hd:0<b-a:=by grind
 have hi:0<=(b-a)⁻¹:=Rat.le_of_lt (Rat.inv_pos.2 hd);obtain⟨t,ht⟩:∃t,(x-a) / (b-a)=t:=⟨_,rfl⟩
 have t0:0<=t:=by rw[<-ht,bc];exact Rat.mul_nonneg (by grind) hi
 have t1:t<=1:=by
  rw[<-ht,bc,<-Rat.mul_inv_cancel (b-a) (by grind)];exact Rat.mul_le_mul_of_nonneg_right (by grind) hi
 rw[ht];refine⟨fun h=>?_,fun h=>?_⟩
 ·have k1:0<=t*(q-p):=Rat.mul_nonneg t0 (by grind);have k2:t*(q-p)<=1*(q-p):=Rat.mul_le_mul_of_nonneg_right t1 (by grind);grind
 ·have k1:0<=t*(p-q):=Rat.mul_nonneg t0 (by grind);have k2:t*(p-q)<=1*(p-q):=Rat.mul_le_mul_of_nonneg_right t1 (by grind);have k3:t*(q-p)= -(t*(p-q)):=by grind
  grind
end Go.Ex
namespace Go.Ex
open Go Go.Sx Go.Proofs
variable{p:Int×Int×(Int×Int)}{xs:List (Int×Int)}{css:List (List Value)}{cs:List Value}{S:Nat->Prop}{ax:Option Addr}{v vb vn vs:Value}{w:World}{f:eh}
theorem nh(c b:Int×Int×Rat):fo c=fo b↔(c.1=b.1∧c.2.1=b.2.1)∨(c.1=b.2.1∧c.2.1=b.1):=by
 unfold fo;rw[Prod.mk.injEq];omega
theorem CM(c b:Int×Int×Rat):iC c=iC b↔c.1=b.1∧c.2.1=b.2.1:=by
 unfold iC;rw[Prod.mk.injEq]
section
variable{α β:Type}{L:List α}{K:α->β}{x:β}
theorem kv{k:Nat}{c:α}(hc:L[k]? =some c)(h:K c≠x)(hE:x∈L.map K↔x∈(L.drop k).map K):x∈L.map K↔x∈(L.drop (k+1)).map K:=by
 rw[hE,List.drop_eq_getElem_cons (aE.1 hc).1,(aE.1 hc).2,List.map_cons,List.mem_cons,or_iff_right fun e=>h e.symm]
theorem tZ{k:Nat}{c:α}(hc:L[k]? =some c)(h:K c=x):x∈L.map K:=aT.2 ⟨c,aD hc,h⟩
theorem CN{k:Nat}(hk:L.length<=k)(hE:x∈L.map K↔x∈(L.drop k).map K):x∉L.map K:=fun h=>by
 have:=hE.1 h;rw[List.drop_eq_nil_of_le hk]at this
 cases this
end
theorem qG(n:Int)(an ab aq:Option Addr)(ln cn nb cb nq cq:Nat)(w:World):dm PG N.se #[.agg #[.slice an ln cn,.slice ab nb cb,.slice aq nq cq],.int .i64 n] w (eB w fun v' _=>∃d,v'= .bool d∧(d=true↔iV ln n)):=by
 have hw:cV w.heap.size w w:=cV.refl;refine wH (by simp) ?_;refine dI.mk (fun h1=>?_) (fun h1=>?_)
 ·intro ρe we re;have h1:=aI h1;exact⟨_,rfl,hw.tr re.cM,_,rfl,by rw[decide_eq_true_iff];exact⟨fun h=>⟨h1,h⟩,fun h=>h.2⟩⟩
 ·intro ρe we re;have h1:=aH h1;exact⟨_,rfl,hw.tr re.cM,_,rfl,(fun h=>by cases h),fun h=>absurd h.1 h1⟩
theorem kx(n lo hi:Int)(w:World):dm PG N.vK #[.int .i64 n,.int .i64 lo,.int .i64 hi] w (eB w fun v' _=>∃d,v'= .bool d∧(d=true↔lo<=n∧n<=hi)):=by
 have hw:cV w.heap.size w w:=cV.refl;refine ym (by simp) ?_;refine dI.mk (fun h1=>?_) (fun h1=>?_)
 ·intro ρe we re;have h1:=aI h1;exact⟨_,rfl,hw.tr re.cM,_,rfl,by rw[decide_eq_true_iff];exact⟨fun h=>⟨h1,h⟩,fun h=>h.2⟩⟩
 ·intro ρe we re;have h1:=aH h1;exact⟨_,rfl,hw.tr re.cM,_,rfl,(fun h=>by cases h),fun h=>absurd h.1 h1⟩
theorem zO{q:Rat}(hS:Old S w)(hp:eI w S v q):dm PG N.jJ #[v] w (eB w fun v' _=>v'= .int .i64 (rs q)):=by
 obtain⟨a,b,h1,rfl,_,_⟩:=hp.v;exact sA hS h1
set_option maxHeartbeats 2000000 in
theorem ta(hS:Old S w)(hf:dV w S vn vb vs f):dm PG N.vJ #[.agg #[vn,vb,vs]] w (eB w fun v' _=>v'= .int .i64 (eK f)):=by
 have hw:cV w.heap.size w w:=cV.refl;obtain⟨an,cn,ab,cb,aq,cq,rfl,rfl,rfl,hmn,hmb,hms⟩:=hf.shape;refine yl (by simp) ?_;refine dI.mk (fun h0=>?_) (fun h0=>?_)
 ·have h0:=aI h0;intro ρe we re;exact⟨_,rfl,hw.tr re.cM,by show Value.int .i64 _=_;rw[eK,if_pos (by omega)]⟩
 have h0:=aH h0;refine dI.mk (fun h1=>?_) (fun h1=>?_)
 ·have h1:=aI h1;intro ρe we re;exact⟨_,rfl,hw.tr re.cM,by show Value.int .i64 _=_;rw[eK,if_pos (by omega)]⟩
 have h1:=aH h1;refine dI.mk (fun h2=>?_) (fun h2=>?_)
 ·have h2:=aI h2;intro ρe we re;exact⟨_,rfl,hw.tr re.cM,by show Value.int .i64 _=_;rw[eK,if_pos (by omega)]⟩
 have h2:=aH h2
 refine⟨Nat×World×Iv,fun z=>⟨[(1,.o (.p 0 0)),(3,.o (.v (.int .i64 ((z.1:Nat):Int))))],[(0,.box T.Frame [.v (.slice an f.nodes.length cn),.v (.slice ab f.bars.length cb),.v (.slice aq f.cU.length cq)])],1,z.2.2,z.2.1⟩,fun z=>f.nodes.length-z.1,
  fun z=>z.1<=f.nodes.length∧cV w.heap.size w z.2.1∧eX ec [] f.nodes=eX ec (f.nodes.take z.1) (f.nodes.drop z.1),?_,?_⟩
 ·intro O w' r3;exact⟨(0,w',_),⟨aP _,hw.tr r3.cM,rfl⟩,Sub.gn [] r3⟩
 rintro⟨i,w1,iv⟩ ⟨hi,hw,hE⟩;dsimp only at hi hw hE ⊢;refine dI.mk (fun hib=>?_) (fun hib=>?_)
 ·have hib:i<f.nodes.length:=by simpa using hib
  obtain⟨b,hx⟩:∃b,f.nodes[i]? =some b:=⟨_,aB hib⟩
  have hLl:(f.nodes.take i).length=i:=by rw[aY];omega
  obtain⟨adb,cs,hab,hF,-,hlb⟩:=hf.nodes.load (by decide) hx;have hF:cs=[.int .i64 b.1,.int .i64 b.2.1,.int .i64 b.2.2]:=hF;subst hF;refine⟨adb,hab,by omega,[.int .i64 b.1,.int .i64 b.2.1,.int .i64 b.2.2],rfl,rdO hlb hw hS,?_⟩;refine cC (cE hw (fun _ w' v w2=>∃d,v= .bool d∧(d=true↔mK b.1)) (fun O w' r=>kx _ _ _ w') ?_);rintro O wa1 v1 wb1 iv1 r he hw h_ ⟨d0,rfl,hz0⟩
  cases d0
  ·have hz0:¬mK b.1:=fun h=>by have:=hz0.2 h;cases this
   intro ρe we re;exact⟨_,rfl,hw.tr re.cM,by show Value.int .i64 _=_;rw[eK,aK (by omega),if_pos (by rw[hE,cS hx (show ec (f.nodes.take i) b=2 by rw[ec,aK (fun h=>hz0 h.1)]) (by decide)];decide),hE,cS hx (show ec (f.nodes.take i) b=2 by rw[ec,aK (fun h=>hz0 h.1)]) (by decide)]⟩
  replace hz0:=hz0.1 rfl;refine cC (cE hw (fun _ w' v w2=>∃d,v= .bool d∧(d=true↔mK b.2.1)) (fun O w' r=>kx _ _ _ w') ?_);rintro O wa2 v2 wb2 iv2 r he hw h_ ⟨d1,rfl,hz1⟩
  cases d1
  ·have hz1:¬mK b.2.1:=fun h=>by have:=hz1.2 h;cases this
   intro ρe we re;exact⟨_,rfl,hw.tr re.cM,by show Value.int .i64 _=_;rw[eK,aK (by omega),if_pos (by rw[hE,cS hx (show ec (f.nodes.take i) b=2 by rw[ec,aK (fun h=>hz1 h.2.1)]) (by decide)];decide),hE,cS hx (show ec (f.nodes.take i) b=2 by rw[ec,aK (fun h=>hz1 h.2.1)]) (by decide)]⟩
  replace hz1:=hz1.1 rfl;refine cC (cE hw (fun _ w' v w2=>∃d,v= .bool d∧(d=true↔mK b.2.2)) (fun O w' r=>kx _ _ _ w') ?_);rintro O wa3 v3 wb3 iv3 r he hw h_ ⟨d2,rfl,hz2⟩
  cases d2
  ·have hz2:¬mK b.2.2:=fun h=>by have:=hz2.2 h;cases this
   intro ρe we re;exact⟨_,rfl,hw.tr re.cM,by show Value.int .i64 _=_;rw[eK,aK (by omega),if_pos (by rw[hE,cS hx (show ec (f.nodes.take i) b=2 by rw[ec,aK (fun h=>hz2 h.2.2)]) (by decide)];decide),hE,cS hx (show ec (f.nodes.take i) b=2 by rw[ec,aK (fun h=>hz2 h.2.2)]) (by decide)]⟩
  replace hz2:=hz2.1 rfl
  refine⟨Nat×World,fun z=>⟨[(1,.o (.p 0 0)),(3,.o (.v (.int .i64 ((i:Nat):Int)))),(4,.o (.p 1 0)),(5,.o (.v (.int .i64 ((z.1:Nat):Int))))],[(1,.box T.Node [.v (.int .i64 b.1),.v (.int .i64 b.2.1),.v (.int .i64 b.2.2)]),(0,.box T.Frame [.v (.slice an f.nodes.length cn),.v (.slice ab f.bars.length cb),.v (.slice aq f.cU.length cq)])],2,iv3,z.2⟩,fun z=>i-z.1,
   fun z=>z.1<=i∧cV w.heap.size w z.2∧(b∈(f.nodes.take i).map id↔b∈((f.nodes.take i).drop z.1).map id),?_,?_⟩
  ·intro O w' r3;exact⟨(0,w'),⟨aP _,hw.tr r3.cM,Iff.rfl⟩,Sub.gn [] r3⟩
  rintro⟨k,w2⟩ ⟨hk,hw,hK⟩;dsimp only at hk hw hK ⊢;refine dI.mk (fun hkb=>?_) (fun hkb=>?_)
  ·have hkb:k<i:=by have:=aI hkb;omega
   obtain⟨c,hc⟩:∃c,f.nodes[k]? =some c:=⟨_,aB (by omega)⟩
   have hcL:(f.nodes.take i)[k]? =some c:=by rw[bP hkb];exact hc
   obtain⟨adc,cs2,hac,hF2,-,hlc⟩:=hf.nodes.load (by decide) hc;have hF2:cs2=[.int .i64 c.1,.int .i64 c.2.1,.int .i64 c.2.2]:=hF2;subst hF2;refine cJ hτ db [.x 0,.x 1,.x 2,.x 3,.x 4,.x 5,.x 6] (by kernel_rfl) (by kernel_rfl) ?_;refine⟨adc,hac,by omega,[.int .i64 c.1,.int .i64 c.2.1,.int .i64 c.2.2],rfl,rdO hlc hw hS,decide (c=b),fun O w o1 o2=>Dh c b w o1 o2,?_⟩;refine dI.mk (fun hd=>?_) (fun hd=>?_)
   ·have hd:c=b:=aI hd;have hin:b∈f.nodes.take i:=by have:=tZ (K:=id) hcL hd;rwa [List.map_id]at this
    intro ρe we re;exact⟨_,rfl,hw.tr re.cM,by show Value.int .i64 _=_;rw[eK,aK (by omega),if_pos (by rw[hE,cS hx (show ec (f.nodes.take i) b=12 by rw[ec,if_pos ⟨hz0,hz1,hz2⟩,if_pos hin]) (by decide)];decide),hE,cS hx (show ec (f.nodes.take i) b=12 by rw[ec,if_pos ⟨hz0,hz1,hz2⟩,if_pos hin]) (by decide)]⟩
   have hd:c≠b:=aH hd;have hK2:=kv (K:=id) hcL hd hK;refine⟨((k+1:Nat):Int),wo,?_⟩;intro ρ3 w6 r3;exact⟨(k+1,w6),⟨hkb,hw.tr r3.cM,hK2⟩,Sub.gn [] r3,by dsimp only;omega⟩
  have hkb:k=i:=by have:=aH hkb;omega
  have hdup:=CN (by rw[hLl];omega) hK;rw[List.map_id]at hdup;rw[gA hx (ry.2 ⟨⟨hz0,hz1,hz2⟩,hdup⟩)]at hE;refine⟨((i+1:Nat):Int),wo,?_⟩;intro ρ3 w6 r3;exact⟨(i+1,w6,_),⟨hib,hw.tr r3.cM,hE⟩,Sub.gn [] r3,by dsimp only;omega⟩
 have hib:i=f.nodes.length:=aR hi (by simpa using hib);rw[iK (by omega)]at hE
 refine⟨Nat×World×Iv,fun z=>⟨[(1,.o (.p 0 0)),(6,.o (.v (.int .i64 ((z.1:Nat):Int))))],[(0,.box T.Frame [.v (.slice an f.nodes.length cn),.v (.slice ab f.bars.length cb),.v (.slice aq f.cU.length cq)])],1,z.2.2,z.2.1⟩,fun z=>f.bars.length-z.1,
  fun z=>z.1<=f.bars.length∧cV w.heap.size w z.2.1∧eX (eo f.nodes.length) [] f.bars=eX (eo f.nodes.length) (f.bars.take z.1) (f.bars.drop z.1),?_,?_⟩
 ·intro O w' r3;exact⟨(0,w',_),⟨aP _,hw.tr r3.cM,rfl⟩,Sub.gn [] r3⟩
 rintro⟨i,w1,iv⟩ ⟨hi,hw,hE2⟩;dsimp only at hi hw hE2 ⊢;refine dI.mk (fun hib=>?_) (fun hib=>?_)
 ·have hib:i<f.bars.length:=by simpa using hib
  obtain⟨b,hx⟩:∃b,f.bars[i]? =some b:=⟨_,aB hib⟩
  have hLl:(f.bars.take i).length=i:=by rw[aY];omega
  obtain⟨adb,cs,hab,hF,-,hlb⟩:=hf.bars.load (by decide) hx;obtain⟨g0,g1,g2,g3,g4,g5,g6,g7,rfl,hF⟩:=hF;refine⟨adb,hab,by omega,[.int .i64 b.1,.int .i64 b.2.1,.bool g0,.slice g1 g2 g3,.bool g4,.slice g5 g6 g7],rfl,rdO hlb hw hS,?_⟩;refine cC (cE hw (fun _ w' v w2=>∃d,v= .bool d∧(d=true↔iV f.nodes.length b.1)) (fun O w' r=>qG _ _ _ _ _ _ _ _ _ _ w') ?_);rintro O wa1 v1 wb1 iv1 r he hw h_ ⟨d0,rfl,hz0⟩
  cases d0
  ·have hz0:¬iV f.nodes.length b.1:=fun h=>by have:=hz0.2 h;cases this
   intro ρe we re;exact⟨_,rfl,hw.tr re.cM,by show Value.int .i64 _=_;rw[eK,aK (by omega),aK (by rw[hE];decide),if_pos (by rw[hE2,cS hx (show eo f.nodes.length (f.bars.take i) b=6 by rw[eo,aK (fun h=>hz0 h.1)]) (by decide)];decide),hE2,cS hx (show eo f.nodes.length (f.bars.take i) b=6 by rw[eo,aK (fun h=>hz0 h.1)]) (by decide)]⟩
  replace hz0:=hz0.1 rfl;refine cC (cE hw (fun _ w' v w2=>∃d,v= .bool d∧(d=true↔iV f.nodes.length b.2.1)) (fun O w' r=>qG _ _ _ _ _ _ _ _ _ _ w') ?_);rintro O wa2 v2 wb2 iv2 r he hw h_ ⟨d1,rfl,hz1⟩
  cases d1
  ·have hz1:¬iV f.nodes.length b.2.1:=fun h=>by have:=hz1.2 h;cases this
   intro ρe we re;exact⟨_,rfl,hw.tr re.cM,by show Value.int .i64 _=_;rw[eK,aK (by omega),aK (by rw[hE];decide),if_pos (by rw[hE2,cS hx (show eo f.nodes.length (f.bars.take i) b=6 by rw[eo,aK (fun h=>hz1 h.2)]) (by decide)];decide),hE2,cS hx (show eo f.nodes.length (f.bars.take i) b=6 by rw[eo,aK (fun h=>hz1 h.2)]) (by decide)]⟩
  replace hz1:=hz1.1 rfl;refine dI.mk (fun hab2=>?_) (fun hab2=>?_)
  ·have hab2:b.1=b.2.1:=by simpa using hab2
   intro ρe we re;exact⟨_,rfl,hw.tr re.cM,by show Value.int .i64 _=_;rw[eK,aK (by omega),aK (by rw[hE];decide),if_pos (by rw[hE2,cS hx (show eo f.nodes.length (f.bars.take i) b=3 by rw[eo,if_pos ⟨hz0,hz1⟩,if_pos hab2]) (by decide)];decide),hE2,cS hx (show eo f.nodes.length (f.bars.take i) b=3 by rw[eo,if_pos ⟨hz0,hz1⟩,if_pos hab2]) (by decide)]⟩
  have hab2:b.1≠b.2.1:=by simpa using hab2
  refine⟨Nat×World,fun z=>⟨[(1,.o (.p 0 0)),(6,.o (.v (.int .i64 ((i:Nat):Int)))),(7,.o (.p 1 0)),(8,.o (.v (.int .i64 ((z.1:Nat):Int))))],[(1,.box T.MU [.v (.int .i64 b.1),.v (.int .i64 b.2.1),.v (.bool g0),.v (.slice g1 g2 g3),.v (.bool g4),.v (.slice g5 g6 g7)]),(0,.box T.Frame [.v (.slice an f.nodes.length cn),.v (.slice ab f.bars.length cb),.v (.slice aq f.cU.length cq)])],2,iv2,z.2⟩,fun z=>i-z.1,
   fun z=>z.1<=i∧cV w.heap.size w z.2∧(fo b∈(f.bars.take i).map fo↔fo b∈((f.bars.take i).drop z.1).map fo),?_,?_⟩
  ·intro O w' r3;exact⟨(0,w'),⟨aP _,hw.tr r3.cM,Iff.rfl⟩,Sub.gn [] r3⟩
  rintro⟨k,w2⟩ ⟨hk,hw,hK⟩;dsimp only at hk hw hK ⊢;refine dI.mk (fun hkb=>?_) (fun hkb=>?_)
  ·have hkb:k<i:=by have:=aI hkb;omega
   obtain⟨c,hc⟩:∃c,f.bars[k]? =some c:=⟨_,aB (by omega)⟩
   have hcL:(f.bars.take i)[k]? =some c:=by rw[bP hkb];exact hc
   obtain⟨adc,cs2,hac,hF2,-,hlc⟩:=hf.bars.load (by decide) hc;obtain⟨q0,q1,q2,q3,q4,q5,q6,q7,rfl,-⟩:=hF2;refine⟨adc,hac,by omega,[.int .i64 c.1,.int .i64 c.2.1,.bool q0,.slice q1 q2 q3,.bool q4,.slice q5 q6 q7],rfl,rdO hlc hw hS,?_⟩;refine dI.mk (fun e1=>?_) (fun e1=>?_)
   ·have e1:(c.1=b.1):=by simpa using e1
    refine dI.mk (fun e2=>?_) (fun e2=>?_)
    ·have e2:(c.2.1=b.2.1):=by simpa using e2
     have hin:=tZ (K:=fo) hcL (show fo c=fo b by rw[nh];omega);intro ρe we re;exact⟨_,rfl,hw.tr re.cM,by show Value.int .i64 _=_;rw[eK,aK (by omega),aK (by rw[hE];decide),if_pos (by rw[hE2,cS hx (show eo f.nodes.length (f.bars.take i) b=5 by rw[eo,if_pos ⟨hz0,hz1⟩,aK hab2,if_pos hin]) (by decide)];decide),hE2,cS hx (show eo f.nodes.length (f.bars.take i) b=5 by rw[eo,if_pos ⟨hz0,hz1⟩,aK hab2,if_pos hin]) (by decide)]⟩
    ·have e2:¬(c.2.1=b.2.1):=by simpa using e2
     refine dI.mk (fun e3=>?_) (fun e3=>?_)
     ·have e3:(c.1=b.2.1):=by simpa using e3
      refine dI.mk (fun e4=>?_) (fun e4=>?_)
      ·have e4:(c.2.1=b.1):=by simpa using e4
       have hin:=tZ (K:=fo) hcL (show fo c=fo b by rw[nh];omega);intro ρe we re;exact⟨_,rfl,hw.tr re.cM,by show Value.int .i64 _=_;rw[eK,aK (by omega),aK (by rw[hE];decide),if_pos (by rw[hE2,cS hx (show eo f.nodes.length (f.bars.take i) b=5 by rw[eo,if_pos ⟨hz0,hz1⟩,aK hab2,if_pos hin]) (by decide)];decide),hE2,cS hx (show eo f.nodes.length (f.bars.take i) b=5 by rw[eo,if_pos ⟨hz0,hz1⟩,aK hab2,if_pos hin]) (by decide)]⟩
      ·have e4:¬(c.2.1=b.1):=by simpa using e4
       have hK2:=kv (K:=fo) hcL (show fo c≠fo b by rw[Ne,nh];omega) hK;refine⟨((k+1:Nat):Int),wo,?_⟩;intro ρ3 w6 r3;exact⟨(k+1,w6),⟨hkb,hw.tr r3.cM,hK2⟩,Sub.gn [] r3,by dsimp only;omega⟩
     ·have e3:¬(c.1=b.2.1):=by simpa using e3
      have hK2:=kv (K:=fo) hcL (show fo c≠fo b by rw[Ne,nh];omega) hK;refine⟨((k+1:Nat):Int),wo,?_⟩;intro ρ3 w6 r3;exact⟨(k+1,w6),⟨hkb,hw.tr r3.cM,hK2⟩,Sub.gn [] r3,by dsimp only;omega⟩
   ·have e1:¬(c.1=b.1):=by simpa using e1
    refine dI.mk (fun e3=>?_) (fun e3=>?_)
    ·have e3:(c.1=b.2.1):=by simpa using e3
     refine dI.mk (fun e4=>?_) (fun e4=>?_)
     ·have e4:(c.2.1=b.1):=by simpa using e4
      have hin:=tZ (K:=fo) hcL (show fo c=fo b by rw[nh];omega);intro ρe we re;exact⟨_,rfl,hw.tr re.cM,by show Value.int .i64 _=_;rw[eK,aK (by omega),aK (by rw[hE];decide),if_pos (by rw[hE2,cS hx (show eo f.nodes.length (f.bars.take i) b=5 by rw[eo,if_pos ⟨hz0,hz1⟩,aK hab2,if_pos hin]) (by decide)];decide),hE2,cS hx (show eo f.nodes.length (f.bars.take i) b=5 by rw[eo,if_pos ⟨hz0,hz1⟩,aK hab2,if_pos hin]) (by decide)]⟩
     ·have e4:¬(c.2.1=b.1):=by simpa using e4
      have hK2:=kv (K:=fo) hcL (show fo c≠fo b by rw[Ne,nh];omega) hK;refine⟨((k+1:Nat):Int),wo,?_⟩;intro ρ3 w6 r3;exact⟨(k+1,w6),⟨hkb,hw.tr r3.cM,hK2⟩,Sub.gn [] r3,by dsimp only;omega⟩
    ·have e3:¬(c.1=b.2.1):=by simpa using e3
     have hK2:=kv (K:=fo) hcL (show fo c≠fo b by rw[Ne,nh];omega) hK;refine⟨((k+1:Nat):Int),wo,?_⟩;intro ρ3 w6 r3;exact⟨(k+1,w6),⟨hkb,hw.tr r3.cM,hK2⟩,Sub.gn [] r3,by dsimp only;omega⟩
  have hkb:k=i:=by have:=aH hkb;omega
  have hdup:=CN (by rw[hLl];omega) hK;refine cC (cE hw (fun _ w' v w2=>v= .int .i64 (rs b.2.2)) (fun O w' r=>(zO (oS hS r) (hF.cG (kS hw r hS)))) ?_);rintro O wa3 v3 wb3 iv3 r he hw h_ rfl;obtain⟨cf,hcf⟩:∃c,rs b.2.2=c:=⟨_,rfl⟩
  rw[hcf];refine dI.mk (fun hd2=>?_) (fun hd2=>?_)
  ·have hd2:b.2.2<=0:=by have:=aI hd2;rw[<-Rat.not_lt,<-ko];omega
   intro ρe we re;exact⟨_,rfl,hw.tr re.cM,by show Value.int .i64 _=_;rw[eK,aK (by omega),aK (by rw[hE];decide),if_pos (by rw[hE2,cS hx (show eo f.nodes.length (f.bars.take i) b=2 by rw[eo,if_pos ⟨hz0,hz1⟩,aK hab2,aK hdup,if_pos hd2]) (by decide)];decide),hE2,cS hx (show eo f.nodes.length (f.bars.take i) b=2 by rw[eo,if_pos ⟨hz0,hz1⟩,aK hab2,aK hdup,if_pos hd2]) (by decide)]⟩
  have hd2:0<b.2.2:=by have:=aH hd2;rw[<-ko];omega
  rw[gA hx (mW.2 ⟨⟨hz0,hz1⟩,hab2,hdup,hd2⟩)]at hE2;refine⟨((i+1:Nat):Int),wo,?_⟩;intro ρ3 w6 r3;exact⟨(i+1,w6,_),⟨hib,hw.tr r3.cM,hE2⟩,Sub.gn [] r3,by dsimp only;omega⟩
 have hib:i=f.bars.length:=aR hi (by simpa using hib);rw[iK (by omega)]at hE2
 refine⟨Nat×World×Iv,fun z=>⟨[(1,.o (.p 0 0)),(10,.o (.v (.int .i64 ((z.1:Nat):Int))))],[(0,.box T.Frame [.v (.slice an f.nodes.length cn),.v (.slice ab f.bars.length cb),.v (.slice aq f.cU.length cq)])],1,z.2.2,z.2.1⟩,fun z=>f.cU.length-z.1,
  fun z=>z.1<=f.cU.length∧cV w.heap.size w z.2.1∧eX (jl f.nodes.length) [] f.cU=eX (jl f.nodes.length) (f.cU.take z.1) (f.cU.drop z.1),?_,?_⟩
 ·intro O w' r3;exact⟨(0,w',_),⟨aP _,hw.tr r3.cM,rfl⟩,Sub.gn [] r3⟩
 rintro⟨i,w1,iv⟩ ⟨hi,hw,hE3⟩;dsimp only at hi hw hE3 ⊢;refine dI.mk (fun hib=>?_) (fun hib=>?_)
 ·have hib:i<f.cU.length:=by simpa using hib
  obtain⟨b,hx⟩:∃b,f.cU[i]? =some b:=⟨_,aB hib⟩
  have hLl:(f.cU.take i).length=i:=by rw[aY];omega
  obtain⟨adb,cs,hab,hF,-,hlb⟩:=hf.cU.load (by decide) hx;obtain⟨g0,g1,g2,g3,g4,g5,g6,g7,rfl,hF⟩:=hF;refine⟨adb,hab,by omega,[.int .i64 b.1,.int .i64 b.2.1,.bool g0,.slice g1 g2 g3,.bool g4,.slice g5 g6 g7],rfl,rdO hlb hw hS,?_⟩;refine cC (cE hw (fun _ w' v w2=>∃d,v= .bool d∧(d=true↔iV f.nodes.length b.1)) (fun O w' r=>qG _ _ _ _ _ _ _ _ _ _ w') ?_);rintro O wa1 v1 wb1 iv1 r he hw h_ ⟨d0,rfl,hz0⟩
  cases d0
  ·have hz0:¬iV f.nodes.length b.1:=fun h=>by have:=hz0.2 h;cases this
   intro ρe we re;exact⟨_,rfl,hw.tr re.cM,by show Value.int .i64 _=_;rw[eK,aK (by omega),aK (by rw[hE];decide),aK (by rw[hE2];decide),hE3,cS hx (show jl f.nodes.length (f.cU.take i) b=6 by rw[jl,aK hz0]) (by decide)]⟩
  replace hz0:=hz0.1 rfl;refine cC (cE hw (fun _ w' v w2=>∃d,v= .bool d∧(d=true↔0<=b.2.1∧b.2.1<=2)) (fun O w' r=>kx _ _ _ w') ?_);rintro O wa2 v2 wb2 iv2 r he hw h_ ⟨d1,rfl,hax⟩
  cases d1
  ·have hax:¬(0<=b.2.1∧b.2.1<=2):=fun h=>by have:=hax.2 h;cases this
   intro ρe we re;exact⟨_,rfl,hw.tr re.cM,by show Value.int .i64 _=_;rw[eK,aK (by omega),aK (by rw[hE];decide),aK (by rw[hE2];decide),hE3,cS hx (show jl f.nodes.length (f.cU.take i) b=2 by rw[jl,if_pos hz0,aK hax]) (by decide)]⟩
  replace hax:=hax.1 rfl
  refine⟨Nat×World,fun z=>⟨[(1,.o (.p 0 0)),(10,.o (.v (.int .i64 ((i:Nat):Int)))),(11,.o (.p 1 0)),(12,.o (.v (.int .i64 ((z.1:Nat):Int))))],[(1,.box T.xF [.v (.int .i64 b.1),.v (.int .i64 b.2.1),.v (.bool g0),.v (.slice g1 g2 g3),.v (.bool g4),.v (.slice g5 g6 g7)]),(0,.box T.Frame [.v (.slice an f.nodes.length cn),.v (.slice ab f.bars.length cb),.v (.slice aq f.cU.length cq)])],2,iv2,z.2⟩,fun z=>i-z.1,
   fun z=>z.1<=i∧cV w.heap.size w z.2∧(iC b∈(f.cU.take i).map iC↔iC b∈((f.cU.take i).drop z.1).map iC),?_,?_⟩
  ·intro O w' r3;exact⟨(0,w'),⟨aP _,hw.tr r3.cM,Iff.rfl⟩,Sub.gn [] r3⟩
  rintro⟨k,w2⟩ ⟨hk,hw,hK⟩;dsimp only at hk hw hK ⊢;refine dI.mk (fun hkb=>?_) (fun hkb=>?_)
  ·have hkb:k<i:=by have:=aI hkb;omega
   obtain⟨c,hc⟩:∃c,f.cU[k]? =some c:=⟨_,aB (by omega)⟩
   have hcL:(f.cU.take i)[k]? =some c:=by rw[bP hkb];exact hc
   obtain⟨adc,cs2,hac,hF2,-,hlc⟩:=hf.cU.load (by decide) hc;obtain⟨q0,q1,q2,q3,q4,q5,q6,q7,rfl,-⟩:=hF2;refine cJ hτ db [.x 0,.x 1,.x 2,.x 3,.x 4,.x 5,.x 6,.x 7,.x 8,.x 9,.x 10,.x 11,.x 12,.x 13,.x 14,.x 15,.x 16,.x 17,.x 18,.x 19] (by kernel_rfl) (by kernel_rfl) ?_;refine⟨adc,hac,by omega,.int .i64 c.1,fun O w' r=>?_,?_⟩
   ·obtain⟨k1,k2⟩:=hlc 0 _ rfl;rw[cH (w:=w) (w2:=w') (by simp only[dQ];exact(hw.tr r.cM).block _ (hS _ k1))];simp only[aF,ku]at k2 ⊢;exact k2
   refine dI.mk (fun e1=>?_) (fun e1=>?_)
   ·have e1:(c.1=b.1):=by simpa using e1
    refine⟨adc,hac,by omega,.int .i64 c.2.1,fun O w' r=>?_,?_⟩
    ·obtain⟨k1,k2⟩:=hlc 1 _ rfl;rw[cH (w:=w) (w2:=w') (by simp only[dQ];exact(hw.tr r.cM).block _ (hS _ k1))];simp only[aF,ku]at k2 ⊢;exact k2
    refine dI.mk (fun e2=>?_) (fun e2=>?_)
    ·have e2:(c.2.1=b.2.1):=by simpa using e2
     have hin:=tZ (K:=iC) hcL (show iC c=iC b by rw[CM];omega);intro ρe we re;exact⟨_,rfl,hw.tr re.cM,by show Value.int .i64 _=_;rw[eK,aK (by omega),aK (by rw[hE];decide),aK (by rw[hE2];decide),hE3,cS hx (show jl f.nodes.length (f.cU.take i) b=5 by rw[jl,if_pos hz0,if_pos hax,if_pos hin]) (by decide)]⟩
    ·have e2:¬(c.2.1=b.2.1):=by simpa using e2
     have hK2:=kv (K:=iC) hcL (show iC c≠iC b by rw[Ne,CM];omega) hK;refine⟨((k+1:Nat):Int),wo,?_⟩;intro ρ3 w6 r3;exact⟨(k+1,w6),⟨hkb,hw.tr r3.cM,hK2⟩,Sub.gn [] r3,by dsimp only;omega⟩
   ·have e1:¬(c.1=b.1):=by simpa using e1
    have hK2:=kv (K:=iC) hcL (show iC c≠iC b by rw[Ne,CM];omega) hK;refine⟨((k+1:Nat):Int),wo,?_⟩;intro ρ3 w6 r3;exact⟨(k+1,w6),⟨hkb,hw.tr r3.cM,hK2⟩,Sub.gn [] r3,by dsimp only;omega⟩
  have hkb:k=i:=by have:=aH hkb;omega
  have hdup:=CN (by rw[hLl];omega) hK;refine cC (cE hw (fun _ w' v w2=>v= .int .i64 (rs b.2.2)) (fun O w' r=>(zO (oS hS r) (hF.cG (kS hw r hS)))) ?_);rintro O wa3 v3 wb3 iv3 r he hw h_ rfl;obtain⟨cf,hcf⟩:∃c,rs b.2.2=c:=⟨_,rfl⟩
  rw[hcf];refine dI.mk (fun hd2=>?_) (fun hd2=>?_)
  ·have hd2:b.2.2<0:=by have:=aI hd2;rw[<-kp];omega
   intro ρe we re;exact⟨_,rfl,hw.tr re.cM,by show Value.int .i64 _=_;rw[eK,aK (by omega),aK (by rw[hE];decide),aK (by rw[hE2];decide),hE3,cS hx (show jl f.nodes.length (f.cU.take i) b=2 by rw[jl,if_pos hz0,if_pos hax,aK hdup,if_pos hd2]) (by decide)]⟩
  have hd2:0<=b.2.2:=by have:=aH hd2;rw[<-Rat.not_lt,<-kp];omega
  rw[gA hx (qB.2 ⟨hz0,hax,hdup,hd2⟩)]at hE3;refine⟨((i+1:Nat):Int),wo,?_⟩;intro ρ3 w6 r3;exact⟨(i+1,w6,_),⟨hib,hw.tr r3.cM,hE3⟩,Sub.gn [] r3,by dsimp only;omega⟩
 have hib:i=f.cU.length:=aR hi (by simpa using hib);rw[iK (by omega)]at hE3;intro ρe we re;exact⟨_,rfl,hw.tr re.cM,by show Value.int .i64 _=_;rw[eK,aK (by omega),aK (by rw[hE];decide),aK (by rw[hE2];decide),hE3]⟩
def rq(p:Int×Int):Rat:=ratio p.1 p.2
structure FD where
 nodes:List (Int×Int×Int)
 bars:List (Int×Int×(Int×Int))
 cU:List (Int×Int×(Int×Int))
def FE(p:Int×Int×(Int×Int)):Int×Int×Rat:=(p.1,p.2.1,rq p.2.2)
def FD.val(f:FD):eh:=⟨f.nodes,f.bars.map FE,f.cU.map FE⟩
def tc(w:World)(S:Nat->Prop)(cs:List Value)(p:Int×Int×(Int×Int)):Prop:=∃b a n c b2 a2 n2 c2,cs=[.int .i64 p.1,.int .i64 p.2.1,.bool b,.slice a n c,.bool b2,.slice a2 n2 c2]∧gh w S (.agg #[.bool b,.slice a n c,.bool b2,.slice a2 n2 c2]) p.2.2.1 p.2.2.2
structure pW(w:World)(S:Nat->Prop)(vn vb vs:Value)(f:FD):Prop where
 nodes:mF w S vn f.nodes
 bars:eS 6 tc w S vb f.bars
 cU:eS 6 tc w S vs f.cU
theorem tc.cG{w2:World}(h:tc w S cs p)(hk:∀g,S g->w2.heap[g]? =w.heap[g]?):tc w2 S cs p:=by
 obtain⟨b,a,n,c,b2,a2,n2,c2,h1,h2⟩:=h;exact⟨b,a,n,c,b2,a2,n2,c2,h1,h2.cG hk⟩
theorem pW.cG{w2:World}{f:FD}(h:pW w S vn vb vs f)(hk:∀g,S g->w2.heap[g]? =w.heap[g]?):pW w2 S vn vb vs f:=
 ⟨eS.cG (w:=w) (fun _ _ h=>h) h.nodes hk,eS.cG (fun _ _ h=>h.cG hk) h.bars hk,eS.cG (fun _ _ h=>h.cG hk) h.cU hk⟩
theorem tc.Mr(h:tc w S cs p)(hf:wh (cs.drop 2)):CD w S cs (FE p)∧rl (FE p).2.2<=3:=by
 obtain⟨b,a,n,c,b2,a2,n2,c2,rfl,h2⟩:=h;obtain⟨h3,h4⟩:=h2.l3 hf;exact⟨⟨b,a,n,c,b2,a2,n2,c2,rfl,h3⟩,h4⟩
theorem eS.cells{α:Type}{k:Nat}{P:World->(Nat->Prop)->List Value->α->Prop}{xs:List α}(h:eS k P w S v xs):
  ∃css:List (List Value),css.length=xs.length∧eS k (fun w S cs (y:List Value×α)=>cs=y.1∧P w S cs y.2) w S v (css.zip xs)∧(∀(j:Nat) cs x,css[j]? =some cs->xs[j]? =some x->P w S cs x)∧
   ∀{β:Type} (Q:World->(Nat->Prop)->List Value->β->Prop) (ys:List β),ys.length=xs.length->(∀(j:Nat) cs y,css[j]? =some cs->ys[j]? =some y->Q w S cs y)->eS k Q w S v ys:=by
 obtain⟨css,h1,h2,h3,h4⟩:=h;have hz:(css.zip xs).length=xs.length:=by rw[List.length_zip,h2,Nat.min_self]
 refine⟨css,h2,⟨css,by rw[hz];exact h1,by rw[hz,h2],h3,fun j cs y k1 k2=>?_⟩,h4,fun Q ys hl hQ=>⟨css,by rw[hl];exact h1,by rw[hl,h2],h3,hQ⟩⟩;rw[List.getElem?_zip_eq_some]at k2;rw[k1]at k2;exact⟨by injection k2.1,h4 j cs _ k1 k2.2⟩
theorem K5.of{xs:List (Int×Int×(Int×Int))}(h4:∀(j:Nat) cs x,css[j]? =some cs->xs[j]? =some x->tc w S cs x)
  (hQ:∀{β:Type} (Q:World->(Nat->Prop)->List Value->β->Prop) (ys:List β),ys.length=xs.length->(∀(j:Nat) cs y,css[j]? =some cs->ys[j]? =some y->Q w S cs y)->eS 6 Q w S v ys)
  (hl:css.length=xs.length) (hf:∀j cs,j<xs.length->css[j]? =some cs->wh (cs.drop 2)):Ia w S v (xs.map FE)∧∀b∈xs.map FE,rl b.2.2<=3:=by
 refine⟨hQ CD _ (aL ..) fun j cs y k1 k2=>?_,fun b hb=>?_⟩
 ·rw[aN]at k2;obtain⟨p,hp,rfl⟩:=Option.map_eq_some_iff.1 k2;exact((h4 j cs p k1 hp).Mr (hf j cs (aE.1 hp).1 k1)).1
 ·obtain⟨p,hp,rfl⟩:=aT.1 hb;obtain⟨j,hj⟩:=aS hp;have hjl:=(aE.1 hj).1;have hc:css[j]? =some css[j]:=aB (by omega);exact((h4 j _ p hc hj).Mr (hf j _ hjl hc)).2
set_option maxHeartbeats 1000000 in
theorem Ik{f:FD}(hS:Old S w)(hf:pW w S vn vb vs f):dm PG N.oo #[.agg #[vn,vb,vs]] w (eB w fun v' _=>∃d,v'= .bool d∧
  (d=true->dV w S vn vb vs f.val∧(∀b∈f.val.bars,rl b.2.2<=3)∧(∀b∈f.val.cU,rl b.2.2<=3)∧(eK f.val≠0∨f.val.nodes.length<=4∧f.val.bars.length<=6))):=by
 have hw:cV w.heap.size w w:=cV.refl;obtain⟨an,cn,rfl,hcn,hmn⟩:=hf.nodes.shape;obtain⟨bcs,hbl,hbz,hb4,hbQ⟩:=hf.bars.cells;obtain⟨qcs,hql,hqz,hq4,hqQ⟩:=hf.cU.cells;obtain⟨ab,cb,rfl,hcb,hmb⟩:=hf.bars.shape;obtain⟨aq,cq,rfl,hcq,hms⟩:=hf.cU.shape;refine yh (by simp) ?_;refine dI.mk (fun h0=>?_) (fun h0=>?_)
 ·intro ρe we re;exact⟨_,rfl,hw.tr re.cM,_,rfl,fun h=>by cases h⟩
 have h0:=aH h0;refine dI.mk (fun h1=>?_) (fun h1=>?_)
 ·intro ρe we re;exact⟨_,rfl,hw.tr re.cM,_,rfl,fun h=>by cases h⟩
 have h1:=aH h1;refine dI.mk (fun h2=>?_) (fun h2=>?_)
 ·intro ρe we re;exact⟨_,rfl,hw.tr re.cM,_,rfl,fun h=>by cases h⟩
 have h2:=aH h2
 refine⟨Nat×World×Iv,fun z=>⟨[(1,.o (.p 0 0)),(3,.o (.v (.int .i64 ((z.1:Nat):Int))))],[(0,.box T.Frame [.v (.slice an f.nodes.length cn),.v (.slice ab f.bars.length cb),.v (.slice aq f.cU.length cq)])],1,z.2.2,z.2.1⟩,fun z=>f.bars.length-z.1,
  fun z=>z.1<=f.bars.length∧cV w.heap.size w z.2.1∧∀(j:Nat) (cs:List Value),j<z.1->bcs[j]? =some cs->wh (cs.drop 2),?_,?_⟩
 ·intro O w' r3;exact⟨(0,w',_),⟨aP _,hw.tr r3.cM,fun j cs hj=>absurd hj (Nat.not_lt_zero j)⟩,Sub.gn [] r3⟩
 rintro⟨i,w1,iv⟩ ⟨hi,hw,hB⟩;dsimp only at hi hw hB ⊢;refine dI.mk (fun hib=>?_) (fun hib=>?_)
 ·have hib:i<f.bars.length:=by simpa using hib
  obtain⟨cs,hcs⟩:∃cs,bcs[i]? =some cs:=⟨_,aB (by omega)⟩
  obtain⟨p,hp⟩:∃p,f.bars[i]? =some p:=⟨_,aB hib⟩
  obtain⟨g0,g1,g2,g3,g4,g5,g6,g7,rfl,-⟩:=hb4 i cs p hcs hp;obtain⟨adx,cs2,hax,⟨he2,-⟩,-,hat⟩:=hbz.load (by decide) (show (bcs.zip f.bars)[i]? =some (_,p) by rw[List.getElem?_zip_eq_some];exact⟨hcs,hp⟩);have he2:cs2=[.int .i64 p.1,.int .i64 p.2.1,.bool g0,.slice g1 g2 g3,.bool g4,.slice g5 g6 g7]:=he2;subst he2;refine⟨adx,hax,by omega,[.bool g0,.slice g1 g2 g3,.bool g4,.slice g5 g6 g7],rfl,fun O w' r j u hu=>?_,?_⟩
  ·have hj4:=(aE.1 hu).1;obtain⟨k1,k2⟩:=hat (2+j) u (by rcases j with _|_|_|_|j<;>first|exact hu|(have:j+4<4:=hj4;omega));rw[cH (w:=w) (w2:=w') (by simp only[dQ];exact(hw.tr r.cM).block _ (hS _ k1))];simp only[aF,ku]at k2 ⊢
   first|exact k2|(rw [<-k2];congr 2;omega)
  refine cC (cE hw (fun _ w' v w2=>∃d,v= .bool d∧(d=true->wh [.bool g0,.slice g1 g2 g3,.bool g4,.slice g5 g6 g7])) (fun O w' r=>(CL (S:=fun g=>g=(O 1).g) (css:=[[.bool g0,.slice g1 g2 g3,.bool g4,.slice g5 g6 g7]]) (fun g hg=>by subst hg;exact Rel.lt r (id:=1) rfl) (r.pV (id:=1) (sz:=4) (n:=1) rfl rfl (by decide) (by repeat' first|refine List.forall_mem_cons.2 ⟨rfl,?_⟩|exact fun u hu=>absurd hu List.not_mem_nil)) (fun cs hc=>by rw[bD.1 hc];exact⟨_,_,_,_,_,_,_,_,rfl⟩)).mono fun _ _ ⟨v2,e1,e2,d,e3,e4⟩=>⟨v2,e1,e2,d,e3,fun h=>(e4 h).2 _ aJ⟩) ?_);rintro O wa1 v1 wb1 iv1 r he hw h_ ⟨d2,rfl,hz2⟩
  cases d2
  ·intro ρe we re;exact⟨_,rfl,hw.tr re.cM,_,rfl,fun h=>by cases h⟩
  have hE2:∀j cs,j<i+1->bcs[j]? =some cs->wh (cs.drop 2):=fun j cs hj hc=>by
   rcases aQ j i with h|h
   ·exact hB j cs h hc
   ·have:j=i:=by omega
    subst this;rw[hcs]at hc;injection hc with hc;subst hc;exact hz2 rfl
  refine⟨((i+1:Nat):Int),wo,?_⟩;intro ρ3 w6 r3;exact⟨(i+1,w6,_),⟨hib,hw.tr r3.cM,hE2⟩,Sub.gn [] r3,by dsimp only;omega⟩
 have hib:i=f.bars.length:=aR hi (by simpa using hib);subst hib
 refine⟨Nat×World×Iv,fun z=>⟨[(1,.o (.p 0 0)),(4,.o (.v (.int .i64 ((z.1:Nat):Int))))],[(0,.box T.Frame [.v (.slice an f.nodes.length cn),.v (.slice ab f.bars.length cb),.v (.slice aq f.cU.length cq)])],1,z.2.2,z.2.1⟩,fun z=>f.cU.length-z.1,
  fun z=>z.1<=f.cU.length∧cV w.heap.size w z.2.1∧∀(j:Nat) (cs:List Value),j<z.1->qcs[j]? =some cs->wh (cs.drop 2),?_,?_⟩
 ·intro O w' r3;exact⟨(0,w',_),⟨aP _,hw.tr r3.cM,fun j cs hj=>absurd hj (Nat.not_lt_zero j)⟩,Sub.gn [] r3⟩
 rintro⟨i,w1,iv⟩ ⟨hi,hw,hQ⟩;dsimp only at hi hw hQ ⊢;refine dI.mk (fun hib=>?_) (fun hib=>?_)
 ·have hib:i<f.cU.length:=by simpa using hib
  obtain⟨cs,hcs⟩:∃cs,qcs[i]? =some cs:=⟨_,aB (by omega)⟩
  obtain⟨p,hp⟩:∃p,f.cU[i]? =some p:=⟨_,aB hib⟩
  obtain⟨g0,g1,g2,g3,g4,g5,g6,g7,rfl,-⟩:=hq4 i cs p hcs hp;obtain⟨adx,cs2,hax,⟨he2,-⟩,-,hat⟩:=hqz.load (by decide) (show (qcs.zip f.cU)[i]? =some (_,p) by rw[List.getElem?_zip_eq_some];exact⟨hcs,hp⟩);have he2:cs2=[.int .i64 p.1,.int .i64 p.2.1,.bool g0,.slice g1 g2 g3,.bool g4,.slice g5 g6 g7]:=he2;subst he2;refine⟨adx,hax,by omega,[.bool g0,.slice g1 g2 g3,.bool g4,.slice g5 g6 g7],rfl,fun O w' r j u hu=>?_,?_⟩
  ·have hj4:=(aE.1 hu).1;obtain⟨k1,k2⟩:=hat (2+j) u (by rcases j with _|_|_|_|j<;>first|exact hu|(have:j+4<4:=hj4;omega));rw[cH (w:=w) (w2:=w') (by simp only[dQ];exact(hw.tr r.cM).block _ (hS _ k1))];simp only[aF,ku]at k2 ⊢
   first|exact k2|(rw [<-k2];congr 2;omega)
  refine cC (cE hw (fun _ w' v w2=>∃d,v= .bool d∧(d=true->wh [.bool g0,.slice g1 g2 g3,.bool g4,.slice g5 g6 g7])) (fun O w' r=>(CL (S:=fun g=>g=(O 1).g) (css:=[[.bool g0,.slice g1 g2 g3,.bool g4,.slice g5 g6 g7]]) (fun g hg=>by subst hg;exact Rel.lt r (id:=1) rfl) (r.pV (id:=1) (sz:=4) (n:=1) rfl rfl (by decide) (by repeat' first|refine List.forall_mem_cons.2 ⟨rfl,?_⟩|exact fun u hu=>absurd hu List.not_mem_nil)) (fun cs hc=>by rw[bD.1 hc];exact⟨_,_,_,_,_,_,_,_,rfl⟩)).mono fun _ _ ⟨v2,e1,e2,d,e3,e4⟩=>⟨v2,e1,e2,d,e3,fun h=>(e4 h).2 _ aJ⟩) ?_);rintro O wa1 v1 wb1 iv1 r he hw h_ ⟨d2,rfl,hz2⟩
  cases d2
  ·intro ρe we re;exact⟨_,rfl,hw.tr re.cM,_,rfl,fun h=>by cases h⟩
  have hE2:∀j cs,j<i+1->qcs[j]? =some cs->wh (cs.drop 2):=fun j cs hj hc=>by
   rcases aQ j i with h|h
   ·exact hQ j cs h hc
   ·have:j=i:=by omega
    subst this;rw[hcs]at hc;injection hc with hc;subst hc;exact hz2 rfl
  refine⟨((i+1:Nat):Int),wo,?_⟩;intro ρ3 w6 r3;exact⟨(i+1,w6,_),⟨hib,hw.tr r3.cM,hE2⟩,Sub.gn [] r3,by dsimp only;omega⟩
 have hib:i=f.cU.length:=aR hi (by simpa using hib);subst hib;obtain⟨kb,kb2⟩:=K5.of hb4 hbQ hbl hB;obtain⟨kq,kq2⟩:=K5.of hq4 hqQ hql hQ;have hR:dV w S (.slice an f.nodes.length cn) (.slice ab f.bars.length cb) (.slice aq f.cU.length cq) f.val:=⟨hf.nodes,kb,kq⟩
 refine cC (cE hw (fun _ w' v w2=>v= .int .i64 (eK f.val)) (fun O w' r=>ta (oS hS r) (hR.cG (kS hw r hS))) ?_);rintro O wa1 v1 wb1 iv1 r he hw h_ rfl;obtain⟨e,he⟩:∃e,eK f.val=e:=⟨_,rfl⟩
 rw[he];refine dI.mk (fun hd=>?_) (fun hd=>?_)
 ·have hd:e≠0:=by simpa using hd
  intro ρe we re;exact⟨_,rfl,hw.tr re.cM,_,rfl,fun _=>⟨hR,kb2,kq2,.inl hd⟩⟩
 have hd:e=0:=by simpa using hd
 refine dI.mk (fun h4=>?_) (fun h4=>?_)
 ·have h4:=aI h4;intro ρe we re;exact⟨_,rfl,hw.tr re.cM,_,rfl,fun h=>⟨hR,kb2,kq2,.inr ⟨by show f.nodes.length<=4;omega,by show(f.bars.map FE).length<=6;rw[aL];have:=aI h;omega⟩⟩⟩
 intro ρe we re;exact⟨_,rfl,hw.tr re.cM,_,rfl,fun h=>by cases h⟩
theorem Il(hS:Old S w)(hx:jz w S v xs):
  dm PG N.lO #[v] w (eB w fun v' _=>∃d,v'= .bool d∧(d=true->xs.length<=80∧cX w S v (xs.map rq)∧∀q∈xs.map rq,rl q<=3)):=by
 obtain⟨css,h1,h2,h3,h4⟩:=hx;have hF:∀cs∈css,MI cs:=fun cs hc=>by
  obtain⟨j,hj⟩:=aS hc;have hjl:=(aE.1 hj).1;obtain⟨b,a,n,c,b2,a2,n2,c2,e,_⟩:=h4 j cs _ hj (aB (by omega));exact⟨b,a,n,c,b2,a2,n2,c2,e⟩
 refine(CL hS (by rw[h2];exact h1) hF).mono fun _ _ ⟨v2,e1,e2,d,e3,e4⟩=>⟨v2,e1,e2,d,e3,fun h=>?_⟩
 obtain⟨k1,k2⟩:=e4 h;have key:∀(j:Nat) cs p,css[j]? =some cs->xs[j]? =some p->kk w S cs (rq p)∧rl (rq p)<=3:=fun j cs p m1 m2=>by
  obtain⟨b,a,n,c,b2,a2,n2,c2,rfl,m3⟩:=h4 j cs p m1 m2;obtain⟨m4,m5⟩:=m3.l3 (k2 _ (aD m1));exact⟨⟨b,a,n,c,b2,a2,n2,c2,rfl,m4⟩,m5⟩
 refine⟨by omega,⟨css,by rw[aL];exact h1,by rw[aL];exact h2,h3,fun j cs q m1 m2=>?_⟩,fun q hq=>?_⟩
 ·rw[aN]at m2;obtain⟨p,hp,rfl⟩:=Option.map_eq_some_iff.1 m2;exact(key j cs p m1 hp).1
 ·obtain⟨p,hp,rfl⟩:=aT.1 hq;obtain⟨j,hj⟩:=aS hp;have hjl:=(aE.1 hj).1;exact(key j _ p (aB (by omega)) hj).2
section
variable{xs:List Rat}{l:List (Rat×Rat)}{i:Nat}{x:Rat}{r:Rat×Rat}
end
theorem CO{n cx:Nat}(hf:dV w S vn vb vs f)(h60:f.bars.length<=60∧f.cU.length<=60):dm PG N.lP #[.agg #[vn,vb,vs],.slice ax n cx] w (eB w fun v' _=>v'= .int .i64 (if n≠f.cols then 11 else 0)):=by
 have hw:cV w.heap.size w w:=cV.refl;obtain⟨an,cn,ab,cb,aq,cq,rfl,rfl,rfl,hmn,hmb,hms⟩:=hf.shape;unfold maxLen at hmb hms;refine pH (by simp) ?_;refine⟨((f.bars.length+f.cU.length:Nat):Int),wo,?_⟩;refine dI.mk (fun hd=>?_) (fun hd=>?_)
 ·have hd:n≠f.cols:=by intro h;rw[h]at hd;simp[eh.cols]at hd
  intro ρe we re;exact⟨_,rfl,hw.tr re.cM,by show Value.int .i64 _=_;rw[if_pos hd]⟩
 have hd:=(show (n:Int)=((f.bars.length+f.cU.length:Nat):Int)from(by simpa using hd))
 replace hd:n=f.cols:=by unfold eh.cols;omega
 intro ρe we re;exact⟨_,rfl,hw.tr re.cM,by show Value.int .i64 _=_;rw[aK (by simpa using hd)]⟩
theorem pX(hf:dV w S vn vb vs f)(h60:f.bars.length<=60∧f.cU.length<=60):dm PG N.ou #[.agg #[vn,vb,vs]] w (eB w fun v' _=>v'= .int .i64 f.cols):=by
 have hw:cV w.heap.size w w:=cV.refl;obtain⟨an,cn,ab,cb,aq,cq,rfl,rfl,rfl,hmn,hmb,hms⟩:=hf.shape;refine tD (by simp) ?_;refine⟨((f.bars.length+f.cU.length:Nat):Int),wo,?_⟩;intro ρe we re;exact⟨_,rfl,hw.tr re.cM,rfl⟩
section
variable{S:Nat->Prop}{w w1 w':World}{H:Hp}{nx:Nat}{iv:Iv}{O:Nat->Sx.df}
theorem HB{f:FD}(hS:Old S w)(hw:cV w.heap.size w w1)(r:Rel H nx iv w.heap.size w1 O w')(hf:pW w S vn vb vs f):dm PG N.oo #[.agg #[vn,vb,vs]] w' (eB w' fun v' _=>∃d,v'= .bool d∧
  (d=true->dV w S vn vb vs f.val∧(∀b∈f.val.bars,rl b.2.2<=3)∧(∀b∈f.val.cU,rl b.2.2<=3)∧(eK f.val≠0∨f.val.nodes.length<=4∧f.val.bars.length<=6))):=
 have hk:∀g,S g->w'.heap[g]? =w.heap[g]? :=fun g hg=>(hw.tr r.cM).block g (hS g hg)
 (Ik (S:=S) (oS hS r) (hf.cG hk)).mono fun _ _ ⟨v2,e1,e2,d,e3,e4⟩=>⟨v2,e1,e2,d,e3,fun h=>⟨(e4 h).1.cG fun g hg=>(hk g hg).symm,(e4 h).2⟩⟩
theorem HC(hS:Old S w)(hw:cV w.heap.size w w1)(r:Rel H nx iv w.heap.size w1 O w')(hx:jz w S v xs):
  dm PG N.lO #[v] w' (eB w' fun v' _=>∃d,v'= .bool d∧(d=true->xs.length<=80∧cX w S v (xs.map rq)∧∀q∈xs.map rq,rl q<=3)):=
 have hk:∀g,S g->w'.heap[g]? =w.heap[g]? :=fun g hg=>(hw.tr r.cM).block g (hS g hg)
 (Il (S:=S) (oS hS r) (hx.cG hk)).mono fun _ _ ⟨v2,e1,e2,d,e3,e4⟩=>⟨v2,e1,e2,d,e3,fun h=>⟨(e4 h).1,cX.cG (e4 h).2.1 fun g hg=>(hk g hg).symm,(e4 h).2.2⟩⟩
end
end Go.Ex
namespace Go.Ex
end Go.Ex
namespace Go.Ex
open Go Go.Sx Go.Proofs
variable{b:Int×Int×Rat}{S:Nat->Prop}{f:eh}
theorem Io(h:eK f=0)(hb:b∈f.bars):b.1≠b.2.1∧0<b.2.2:=by
 obtain⟨_,_,hb',_⟩:=uE h;obtain⟨k,hk⟩:=aS hb;have:=mW.1 (iD hb' k b hk);exact⟨this.2.1,this.2.2.2⟩
structure aAF{α:Type}(k:Nat)(P:World->(Nat->Prop)->List Value->α->Prop)(w:World)(S:Nat->Prop)(css:List (List Value))(qs:List α):Prop where
 len:css.length=qs.length
 wid:∀cs∈css,cs.length=k
 at_:∀(j:Nat) cs q,css[j]? =some cs->qs[j]? =some q->P w S cs q
section
variable{α:Type}{k:Nat}{P:World->(Nat->Prop)->List Value->α->Prop}{w w2:World}{S S':Nat->Prop}{css:List (List Value)}{qs:List α}
end
set_option maxHeartbeats 1000000 in
theorem AB{w:World}{vn vb vs:Value}{i:Nat}(hS:Old S w)(hf:dV w S vn vb vs f)(hok:qp f)(hb:f.bars[i]? =some b):
  dm PG N.mZ #[.agg #[vn,vb,vs],.int .i64 i] w (eB w fun v' _=>v'= .agg #[.int .i64 ((f.node b.2.1).1-(f.node b.1).1),.int .i64 ((f.node b.2.1).2.1-(f.node b.1).2.1),.int .i64 ((f.node b.2.1).2.2-(f.node b.1).2.2)]):=by
 have hw:cV w.heap.size w w:=cV.refl;obtain⟨an,cn,ab,cb,aq,cq,rfl,rfl,rfl,hmn,hmb,hms⟩:=hf.shape;obtain⟨hn20,hb60,hs60⟩:=And.intro hok.n (And.intro hok.b hok.s);have hib:=(aE.1 hb).1;obtain⟨hA,hB⟩:=hok.Jg b (aD hb);obtain⟨ka,pa,ea,hka,hpa,hna,⟨_,_⟩,⟨_,_⟩,⟨_,_⟩⟩:=hok.node hA.1 hA.2;obtain⟨kb,pb,eb,hkb,hpb,hnb,⟨_,_⟩,⟨_,_⟩,⟨_,_⟩⟩:=hok.node hB.1 hB.2;obtain⟨adx,csx,hax,hFx,-,hlx⟩:=hf.bars.load (by decide) hb;obtain⟨g0,g1,g2,g3,g4,g5,g6,g7,rfl,-⟩:=hFx;obtain⟨ada,csa,haa,hPa,-,hla⟩:=hf.nodes.load (by decide) hpa;obtain⟨adb,csb,hab,hPb,-,hlb⟩:=hf.nodes.load (by decide) hpb;have hPa:csa=[.int .i64 pa.1,.int .i64 pa.2.1,.int .i64 pa.2.2]:=hPa;have hPb:csb=[.int .i64 pb.1,.int .i64 pb.2.1,.int .i64 pb.2.2]:=hPb;subst hPa hPb;rw[hna,hnb];rw[ea,eb]at hlx;refine qR (by simp) ?_;refine iI hτ db (.x 0 (.x 2 (.x 4 (.x 10 (.x 12 (.x 14 (.ld 1 12583680 (.ld 3 12583904 (.x 5 (.x 6 (.ld 7 12583680 (.x 8 (.ld 9 12582912 (.ld 11 9175040 (.ld 13 9404416 (.x 15 (.x 16 (.ld 17 9175040 (.x 18 (.ld 19 8388608 (.two 20 (.x 21 (.x 22 (.x 23 .nil))) 21 (.x 20 (.x 22 (.x 23 .nil)))))))))))))))))))))))) (by kernel_rfl) (by kernel_rfl) ?_;refine⟨adx,hax,by omega,.int .i64 (ka:Int),fun O w' r=>?_,?_⟩
 ·obtain⟨k1,k2⟩:=hlx 0 _ rfl;rw[cH (w:=w) (w2:=w') (by simp only[dQ];exact(hw.tr r.cM).block _ (hS _ k1))];simp only[aF,ku]at k2 ⊢;exact k2
 refine⟨ada,haa,by omega,[.int .i64 pa.1,.int .i64 pa.2.1,.int .i64 pa.2.2],rfl,rdO hla hw hS,adx,hax,by omega,.int .i64 (kb:Int),fun O w' r=>?_,?_⟩
 ·obtain⟨k1,k2⟩:=hlx 1 _ rfl;rw[cH (w:=w) (w2:=w') (by simp only[dQ];exact(hw.tr r.cM).block _ (hS _ k1))];simp only[aF,ku]at k2 ⊢;exact k2
 refine⟨adb,hab,by omega,[.int .i64 pb.1,.int .i64 pb.2.1,.int .i64 pb.2.2],rfl,rdO hlb hw hS,?_,?_⟩
 ·conv=>whnf
  refine⟨[.int .i64 pb.1,.int .i64 pb.2.1,.int .i64 pb.2.2],rfl,rdO hlb hw hS,rfl,.int .i64 (kb:Int),fun O w' r=>?_,?_⟩
  ·obtain⟨k1,k2⟩:=hlx 1 _ rfl;rw[cH (w:=w) (w2:=w') (by simp only[dQ];exact(hw.tr r.cM).block _ (hS _ k1))];simp only[aF,ku]at k2 ⊢;exact k2
  refine⟨rfl,rfl,rfl,[.int .i64 pa.1,.int .i64 pa.2.1,.int .i64 pa.2.2],rfl,rdO hla hw hS,rfl,.int .i64 (ka:Int),fun O w' r=>?_,?_⟩
  ·obtain⟨k1,k2⟩:=hlx 0 _ rfl;rw[cH (w:=w) (w2:=w') (by simp only[dQ];exact(hw.tr r.cM).block _ (hS _ k1))];simp only[aF,ku]at k2 ⊢;exact k2
  refine⟨rfl,rfl,rfl,[.int .i64 pb.1,.int .i64 pb.2.1,.int .i64 pb.2.2],rfl,rdO hlb hw hS,rfl,.int .i64 (kb:Int),fun O w' r=>?_,?_⟩
  ·obtain⟨k1,k2⟩:=hlx 1 _ rfl;rw[cH (w:=w) (w2:=w') (by simp only[dQ];exact(hw.tr r.cM).block _ (hS _ k1))];simp only[aF,ku]at k2 ⊢;exact k2
  refine⟨rfl,rfl,rfl,[.int .i64 pa.1,.int .i64 pa.2.1,.int .i64 pa.2.2],rfl,rdO hla hw hS,rfl,.int .i64 (ka:Int),fun O w' r=>?_,?_⟩
  ·obtain⟨k1,k2⟩:=hlx 0 _ rfl;rw[cH (w:=w) (w2:=w') (by simp only[dQ];exact(hw.tr r.cM).block _ (hS _ k1))];simp only[aF,ku]at k2 ⊢;exact k2
  refine⟨rfl,rfl,rfl,[.int .i64 pb.1,.int .i64 pb.2.1,.int .i64 pb.2.2],rfl,rdO hlb hw hS,rfl,.int .i64 (kb:Int),fun O w' r=>?_,?_⟩
  ·obtain⟨k1,k2⟩:=hlx 1 _ rfl;rw[cH (w:=w) (w2:=w') (by simp only[dQ];exact(hw.tr r.cM).block _ (hS _ k1))];simp only[aF,ku]at k2 ⊢;exact k2
  refine⟨rfl,rfl,rfl,pb.1-pa.1,wo,pb.2.1-pa.2.1,wo,pb.2.2-pa.2.2,wo,?_⟩;intro ρe we re;exact⟨_,rfl,hw.tr re.cM,rfl⟩
 ·conv=>whnf
  refine⟨[.int .i64 pb.1,.int .i64 pb.2.1,.int .i64 pb.2.2],rfl,rdO hlb hw hS,rfl,.int .i64 (kb:Int),fun O w' r=>?_,?_⟩
  ·obtain⟨k1,k2⟩:=hlx 1 _ rfl;rw[cH (w:=w) (w2:=w') (by simp only[dQ];exact(hw.tr r.cM).block _ (hS _ k1))];simp only[aF,ku]at k2 ⊢;exact k2
  refine⟨rfl,rfl,rfl,[.int .i64 pa.1,.int .i64 pa.2.1,.int .i64 pa.2.2],rfl,rdO hla hw hS,rfl,.int .i64 (ka:Int),fun O w' r=>?_,?_⟩
  ·obtain⟨k1,k2⟩:=hlx 0 _ rfl;rw[cH (w:=w) (w2:=w') (by simp only[dQ];exact(hw.tr r.cM).block _ (hS _ k1))];simp only[aF,ku]at k2 ⊢;exact k2
  refine⟨rfl,rfl,rfl,[.int .i64 pb.1,.int .i64 pb.2.1,.int .i64 pb.2.2],rfl,rdO hlb hw hS,rfl,.int .i64 (kb:Int),fun O w' r=>?_,?_⟩
  ·obtain⟨k1,k2⟩:=hlx 1 _ rfl;rw[cH (w:=w) (w2:=w') (by simp only[dQ];exact(hw.tr r.cM).block _ (hS _ k1))];simp only[aF,ku]at k2 ⊢;exact k2
  refine⟨rfl,rfl,rfl,[.int .i64 pa.1,.int .i64 pa.2.1,.int .i64 pa.2.2],rfl,rdO hla hw hS,rfl,.int .i64 (ka:Int),fun O w' r=>?_,?_⟩
  ·obtain⟨k1,k2⟩:=hlx 0 _ rfl;rw[cH (w:=w) (w2:=w') (by simp only[dQ];exact(hw.tr r.cM).block _ (hS _ k1))];simp only[aF,ku]at k2 ⊢;exact k2
  refine⟨rfl,rfl,rfl,[.int .i64 pb.1,.int .i64 pb.2.1,.int .i64 pb.2.2],rfl,rdO hlb hw hS,rfl,.int .i64 (kb:Int),fun O w' r=>?_,?_⟩
  ·obtain⟨k1,k2⟩:=hlx 1 _ rfl;rw[cH (w:=w) (w2:=w') (by simp only[dQ];exact(hw.tr r.cM).block _ (hS _ k1))];simp only[aF,ku]at k2 ⊢;exact k2
  refine⟨rfl,rfl,rfl,pb.1-pa.1,wo,pb.2.1-pa.2.1,wo,pb.2.2-pa.2.2,wo,?_⟩;intro ρe we re;exact⟨_,rfl,hw.tr re.cM,rfl⟩
section
variable{S S':Nat->Prop}{H:Hp}{nx:Nat}{iv iv':Iv}{B:Nat}{w w' w2:World}{O:Nat->Sx.df}{v:Value}{l:List (Rat×Rat)}
end
end Go.Ex
namespace Go.Ex
abbrev I3:=Int×Int×Int
def J9(p:I3):Prop:=mK p.1∧mK p.2.1∧mK p.2.2
instance (p : I3) : Decidable (J9 p) := by unfold J9; infer_instance
end Go.Ex
namespace Go.Ex
open Go Go.Sx Go.Proofs
end Go.Ex
namespace Go.Sx
open Go Go.Ex Go.Proofs
variable{vs:List Value}{O:Nat->Sx.df}
theorem Sub.Mi{B nx:Nat}{l:Env}{H:Hp}{iv:Iv}{w w':World}{t:AZ}(id:Nat){bt:Nat}(hid:dA H id=some (.box bt (vs.map At.v)))(r:Rel H nx iv B w O w')
  (h:Rel ((id,.arr bt vs)::H) nx iv B w O w'->Sx.Sub B l nx O w' t):Sx.Sub B l nx O w' t:=by
 have hnn:=r.nn id _ hid (by intros;simp) (by simp);have hcell:=r.box id bt _ hid;have hden:(vs.map At.v).map (At.den O)=vs:=by
  rw[List.map_map];exact List.map_id _
 rw[hden]at hcell
 exact h (r.store (b':=.arr bt vs) (H':=(id,.arr bt vs)::H) (w2:=w') hid (by simp) hnn (fun j=>by
  rw[dE];by_cases hj:id=j
  ·subst hj;simp
  ·rw[aK hj,aK (fun h=>hj h.symm)]) rfl rfl rfl rfl (fun _ _=>rfl) ⟨hnn,hcell⟩ trivial)
end Go.Sx
namespace Go.Ex
open Go Go.Sx Go.Proofs
abbrev MJ(x:Ld):Value:=.agg #[.int .i64 x.1,.int .i64 x.2.1,.int .i64 x.2.2.1,.int .i64 x.2.2.2]
end Go.Ex
namespace Go.Ex
open Go Go.Sx Go.Proofs
theorem HD(x:Ld)(w:World):dm PG N.sf #[MJ x] w (eB w fun v' _=>∃d,v'= .bool d∧(d=true↔J9 x.2)):=by
 have hw:cV w.heap.size w w:=cV.refl;obtain⟨x0,x1,x2,x3⟩:=x;refine wI (by simp) ?_;refine cC (cE hw (fun _ w' v w2=>∃d,v= .bool d∧(d=true↔ -1000000<=x1∧x1<=1000000)) (fun O w' r=>kx _ _ _ w') ?_);rintro O wa1 v1 wb1 iv1 r he hw h_ ⟨d0,rfl,hz0⟩
 cases d0
 ·have hz0:¬mK x1:=fun h=>by have:=hz0.2 h;cases this
  intro ρe we re;exact⟨_,rfl,hw.tr re.cM,_,rfl,(fun h=>by cases h),fun h=>absurd h.1 hz0⟩
 replace hz0:mK x1:=hz0.1 rfl;refine cC (cE hw (fun _ w' v w2=>∃d,v= .bool d∧(d=true↔ -1000000<=x2∧x2<=1000000)) (fun O w' r=>kx _ _ _ w') ?_);rintro O wa2 v2 wb2 iv2 r he hw h_ ⟨d1,rfl,hz1⟩
 cases d1
 ·have hz1:¬mK x2:=fun h=>by have:=hz1.2 h;cases this
  intro ρe we re;exact⟨_,rfl,hw.tr re.cM,_,rfl,(fun h=>by cases h),fun h=>absurd h.2.1 hz1⟩
 replace hz1:mK x2:=hz1.1 rfl;refine cC (cE hw (fun _ w' v w2=>∃d,v= .bool d∧(d=true↔ -1000000<=x3∧x3<=1000000)) (fun O w' r=>kx _ _ _ w') ?_);rintro O wa3 v3 wb3 iv3 r he hw h_ ⟨d2,rfl,hz2⟩
 cases d2
 ·have hz2:¬mK x3:=fun h=>by have:=hz2.2 h;cases this
  intro ρe we re;exact⟨_,rfl,hw.tr re.cM,_,rfl,(fun h=>by cases h),fun h=>absurd h.2.2 hz2⟩
 replace hz2:mK x3:=hz2.1 rfl;intro ρe we re;exact⟨_,rfl,hw.tr re.cM,_,rfl,fun _=>⟨hz0,hz1,hz2⟩,fun _=>rfl⟩
section
variable{S S':Nat->Prop}{H:Hp}{nx:Nat}{iv iv':Iv}{B:Nat}{w w' w2:World}{O:Nat->Sx.df}{v:Value}{l:List Ld}
end
end Go.Ex
namespace Go.Ex
variable{M:List (List Rat)}{l x0 φ:List Rat}{K n:Nat}{c x y:Nat->Rat}{D:Rat}
theorem xC{a b:Rat}(ha:a≠0)(hb:b≠0):a*b≠0:=fun e=>by
 rcases Rat.mul_eq_zero.1 e with h|h
 ·exact ha h
 ·exact hb h
def Den(K:Nat)(D:Rat)(l:List Rat):Prop:=D≠0∧Ib K D∧∀t,Ib K (D*l.getD t 0)
def E5(K:Nat)(D:Rat)(M:List (List Rat)):Prop:=D≠0∧Ib K D∧∀k t,Ib K (D*dG M k t)
theorem Den.rl(h:Den K D l):∀q∈l,rl q<=ln K:=fun q hq=>by
 obtain⟨j,hj⟩:=aS hq;have:=xB h.1 h.2.1 (h.2.2 j)
 rwa [List.getD,hj]at this
theorem E5.rl(h:E5 K D M):∀r∈M,∀q∈r,rl q<=ln K:=fun r hr q hq=>by
 obtain⟨k,hk⟩:=aS hr;obtain⟨j,hj⟩:=aS hq;have:=xB h.1 h.2.1 (h.2.2 k j)
 rwa [dG,show M.getD k []=r by rw[List.getD,hk];rfl,List.getD,hj]at this
theorem iZ{t:Nat}(h:l.length<=t):l.getD t 0=0:=by rw[List.getD,List.getElem?_eq_none h];rfl
theorem Jd{k t:Nat}(hM:fe n M)(h:n<=t):dG M k t=0:=by
 rw[dG];rcases aQ k M.length with hk|hk
 ·exact iZ (by rw[hM.getD hk];exact h)
 ·rw[show M.getD k []=[] by rw[List.getD,List.getElem?_eq_none hk];rfl];rfl
theorem Hy{k t:Nat}(h:M.length<=k):dG M k t=0:=by
 rw[dG,show M.getD k []=[] by rw[List.getD,List.getElem?_eq_none h];rfl];rfl
section
variable{M:List (List Rat)}{n B:Nat}{b:List Rat}
theorem Fi(hM:fe n M)(hW:C3 M n B)(hB:1<=B){c:Nat}(hc:c<=n):∃D:Rat,D≠0∧Ib (fB B M.length) D∧∀i t,i<(cN M c).2.length->t<n->Ib (fB B M.length) (D*dG (cN M c).1 i t):=by
 obtain⟨σ,Z,h⟩:=oc hM hW c hc;have hle:=h.red.2.1;rw[h.len]at hle;have hm:=pt hB hle;exact⟨_,h.yF.nz,h.yF.den.mono hm,fun i t hi ht=>(h.yF.M5 hi ht).mono hm⟩
theorem Je(hM:fe n M)(hW:C3 M n B)(hB:1<=B):∃D,E5 (fB B M.length) D (cT M n):=by
 obtain⟨D,h0,hD,hE⟩:=Fi hM hW hB (aG n);obtain⟨r1,r2,r3,r4,r5⟩:=eA hM n (aG _);have hpc:=iN M n;refine⟨D,h0,hD,fun k t=>?_⟩;rcases aQ k (cT M n).length with hk|hk
 ·rcases aQ t n with ht|ht
  ·have hf:=kW.1 (o8 (by rw[<-mU];exact hk));rw[dG,yH M n hk];generalize (iS (cN M n).2 n).getD k 0=c at hf;by_cases hp:t∈(cN M n).2
   ·obtain⟨j,hj,rfl⟩:=rK hp;rw[nE (F:=fK (cN M n).1 (cN M n).2 n c) (f:=fun i=> -(dG (cN M n).1 i c)) (fun i=>fq _ _ n c i) (j4 _ _ n c) hpc.2.1 r4 _ (aG _) hj,show D* -(dG (cN M n).1 j c)= -(D*dG (cN M n).1 j c) by grind];exact(hE j c hj hf.1).neg
   ·rw[o7 hp hf.1];split
    ·rw[Rat.mul_one];exact hD
    ·rw[bC];exact Ib.zero _
  ·rw[Jd (kZ M n) ht,bC];exact Ib.zero _
 ·rw[Hy hk,bC];exact Ib.zero _
theorem yK{x:List Rat}(hM:fe n M)(hW:C3 (dq M b) (n+1) B)(hB:1<=B)(h:gR M b n=some x):∃D,Den (fB B M.length) D x:=by
 obtain⟨D,h0,hD,hE⟩:=Fi (iw (b:=b) hM) hW hB (Nat.le_succ n);rw[ef]at hD hE;obtain⟨r1,r2,r3,r4,r5⟩:=eA (iw (b:=b) hM) n (Nat.le_succ _);have hpc:=iN (dq M b) n;unfold gR at h;dsimp only at h;split at h
 ·injection h with h;subst h;refine⟨D,h0,hD,fun t=>?_⟩;by_cases hp:t∈(cN (dq M b) n).2
  ·obtain⟨j,hj,rfl⟩:=rK hp;rw[nE (F:=gK (cN (dq M b) n).1 (cN (dq M b) n).2 n) (f:=fun i=>dG (cN (dq M b) n).1 i n) (fun i=>gQ _ _ n i) (j5 _ _ n) hpc.2.1 r4 _ (aG _) hj];exact hE j n hj (by omega)
  ·rw[sP hp,bC];exact Ib.zero _
 ·cases h
end
def lK(φ:List Rat):Nat->Rat
 |0=>1
 |t+1=>lK φ t*((φ.getD t 0).den:Rat)
theorem DH(φ:List Rat):∀k,lK φ k≠0
 |0=>by show(1:Rat)≠0;decide
 |k+1=>xC (DH φ k) (by have:=(φ.getD k 0).den_nz;exact_mod_cast this)
theorem yL{φ:List Rat}{B:Nat}(h:∀t,(φ.getD t 0).den<=B):∀k,Ib (B^k) (lK φ k)
 |0=>Ib.one (aG _)
 |k+1=>by
  rw[Nat.pow_succ];exact(yL h k).mul ⟨((φ.getD k 0).den:Int),rfl,by rw[Int.natAbs_natCast];exact h k⟩
theorem Fj(q:Rat):(q.den:Rat)*q=(q.num:Rat):=by
 have h:=Rat.num_divInt_den q;have h0:((q.den:Int):Rat)≠0:=by have:=q.den_nz;exact_mod_cast this
 rw[Rat.divInt_eq_div]at h;have h1:(q.num:Rat) / ((q.den:Int):Rat)*((q.den:Int):Rat)=(q.num:Rat):=Rat.div_mul_cancel h0;rw[h,bl]at h1;exact h1
theorem Ab{φ:List Rat}{B:Nat}(h:∀t,(φ.getD t 0).den<=B)(hn:∀t,(φ.getD t 0).num.natAbs<=B)(hB:1<=B):∀k t,t<k->Ib (B^k) (lK φ k*φ.getD t 0)
 |0,t,ht=>by omega
 |k+1,t,ht=>by
  rw[lK,Nat.pow_succ];rcases aQ t k with h1|h1
  ·rw[show ∀a b c:Rat,a*b*c=(a*c)*b from fun a b c=>by grind];exact(Ab h hn hB k t h1).mul ⟨((φ.getD k 0).den:Int),rfl,by rw[Int.natAbs_natCast];exact h k⟩
  ·rw[show t=k by omega,Rat.mul_assoc,Fj];exact(yL h k).mul (Ib.int (hn k))
theorem od{l:Nat}:1<=wt l:=xc l
theorem Fk{q:Rat}{l:Nat}(h:rl q<=l):q.num.natAbs<wt l∧q.den<wt l:=⟨fg.1 (a9 (fM q) h),fg.1 (a9 (Ku q) h)⟩
theorem Hz(l k:Nat):wt l^k=wt (l*k):=by rw[tw,tw,<-Nat.pow_mul,bh]
theorem IA(hl:φ.length<=n)(h:∀q∈φ,rl q<=3):Den (wt (3*n)) (lK φ n) φ:=by
 have h3:∀t,rl (φ.getD t 0)<=3:=fun t=>by
  rw[List.getD]
  cases ht:φ[t]? with
  |none=>show rl 0<=3;decide
  |some q=>exact h q (aD ht)
 have h1:∀t,(φ.getD t 0).den<=wt 3:=fun t=>Nat.le_of_lt (Fk (h3 t)).2;have h2:∀t,(φ.getD t 0).num.natAbs<=wt 3:=fun t=>Nat.le_of_lt (Fk (h3 t)).1;refine⟨DH φ n,by rw[<-Hz];exact yL h1 n,fun t=>?_⟩;rcases aQ t n with ht|ht
 ·rw[<-Hz];exact Ab h1 h2 od n t ht
 ·rw[iZ (by omega),bC];exact Ib.zero _
theorem getD_some{α:Type}{l:List α}{i:Nat}{x d:α}(h:l[i]? =some x):l.getD i d=x:=by rw[List.getD,h];rfl
structure yM(M:List (List Rat))(n:Nat)(φ:Nat->Rat):Prop where
 len:fe n M
 pos:∀t,t<n->0<=φ t
 Kv:∀x:Nat->Rat,(∀j,j<M.length->mulR M n x j=0)->cZ (fun t=>φ t*(x t*x t)) n=0->∀t,t<n->x t=0
theorem DI(M:List (List Rat))(n:Nat)(x y:Nat->Rat)(j:Nat):mulR M n (fun t=>x t+y t) j=mulR M n x j+mulR M n y j:=by
 unfold mulR;rw[<-fY];exact cK fun t _=>by grind
theorem IB(M:List (List Rat))(n:Nat)(x:Nat->Rat)(c:Rat)(j:Nat):mulR M n (fun t=>c*x t) j=c*mulR M n x j:=by
 unfold mulR;rw[<-eN];exact cK fun t _=>by grind
theorem DJ(M:List (List Rat))(n:Nat)(S:Mx)(c:Nat->Rat)(j s:Nat):mulR M n (fun t=>cZ (fun k=>c k*S k t) s) j=cZ (fun k=>c k*mulR M n (S k) j) s:=by
 induction s with
 |zero=>exact(cK (g:=fun _=>0) fun t _=>bC _).trans (dx n)
 |succ s ih=>
  show mulR M n (fun t=>cZ (fun k=>c k*S k t) s+c s*S s t) j=cZ (fun k=>c k*mulR M n (S k) j) s+c s*mulR M n (S s) j;rw[DI,IB,ih]
theorem rQ(h:∀t,t<n->x t=y t)(j:Nat):mulR M n x j=mulR M n y j:=cK fun t ht=>by rw[h t ht]
def oG(φ x y:Nat->Rat)(n:Nat):Rat:=cZ (fun t=>φ t*(x t*y t)) n
theorem sY(φ x y:Nat->Rat)(n:Nat):oG φ x y n=oG φ y x n:=cK fun t _=>by grind
theorem Fl(φ x y z:Nat->Rat)(n:Nat):oG φ x (fun t=>y t+z t) n=oG φ x y n+oG φ x z n:=by
 unfold oG;rw[<-fY];exact cK fun t _=>by grind
theorem sZ(φ x:Nat->Rat)(S:Mx)(c:Nat->Rat)(n s:Nat):oG φ x (fun t=>cZ (fun k=>c k*S k t) s) n=cZ (fun k=>c k*oG φ x (S k) n) s:=by
 unfold oG;rw[cK (g:=fun t=>cZ (fun k=>c k*(φ t*(x t*S k t))) s) fun t _=>by rw[<-eN,<-eN];exact cK fun k _=>by grind,o9];exact cK fun k _=>by rw[eN]
theorem uA{φ x' y':Nat->Rat}(h1:∀t,t<n->x t=x' t)(h2:∀t,t<n->y t=y' t):oG φ x y n=oG φ x' y' n:=cK fun t ht=>by rw[h1 t ht,h2 t ht]
section
variable{M:List (List Rat)}{n:Nat}{φ:Nat->Rat}{b:List Rat}
theorem yM.self(h:yM M n φ)(x:Nat->Rat):0<=oG φ x x n:=oa fun t ht=>Rat.mul_nonneg (h.pos t ht) (sq_nonneg _)
def Fm(M:List (List Rat))(n:Nat)(φ:Nat->Rat)(i j:Nat):Rat:=oG φ (dG (cT M n) i) (dG (cT M n) j) n
theorem yM.IC(h:yM M n φ)(hc:∀i,i<(cT M n).length->cZ (fun j=>Fm M n φ i j*c j) (cT M n).length=0):∀i,i<(cT M n).length->c i=0:=by
 obtain⟨y,hy⟩:∃y:Nat->Rat,y=fun t=>cZ (fun k=>c k*dG (cT M n) k t) (cT M n).length:=⟨_,rfl⟩
 have hnull:∀j,j<M.length->mulR M n y j=0:=fun j hj=>by
  rw[hy,DJ,cK (g:=fun _=>0) fun k hk=>by rw[sX h.len hk j hj,bC],dx]
 have hw:∀i,i<(cT M n).length->oG φ (dG (cT M n) i) y n=0:=fun i hi=>by
  rw[hy,sZ,<-hc i hi];exact cK fun k _=>bl _ _
 have h0:oG φ y y n=0:=by
  have:oG φ y y n=cZ (fun k=>c k*oG φ y (dG (cT M n) k) n) (cT M n).length:=by
   rw[<-sZ,<-hy]
  rw[this,cK (g:=fun _=>0) fun k hk=>by rw[sY,hw k hk,bC],dx]
 exact Fh (M:=M) fun t ht=>by
  have:=h.Kv y hnull h0 t ht;rw[hy]at this;exact this
theorem yM.only(h:yM M n φ)(hx:∀j,j<M.length->mulR M n x j=0)(hs:∀k,k<(cT M n).length->oG φ (dG (cT M n) k) x n=0):∀t,t<n->x t=0:=by
 obtain⟨c,hc⟩:=Fg h.len hx;have h0:oG φ x x n=0:=by
  rw[uA (x':=x) (fun _ _=>rfl) hc,sZ,cK (g:=fun _=>0) fun k hk=>by rw[sY,hs k hk,bC],dx]
 exact h.Kv x hx h0
def uB(k:Nat):List Rat:=List.replicate k 0
theorem oe(b:List Rat)(k j:Nat):(b++uB k).getD j 0=b.getD j 0:=by
 unfold uB;rcases aQ j b.length with h|h
 ·rw[List.getD,aM h,<-List.getD]
 ·rw[iZ h,List.getD,aO h,List.getElem?_replicate];split<;>rfl
structure mV(M:List (List Rat))(n:Nat)(φ:Nat->Rat)(b x:List Rat):Prop where
 len:x.length=n
 eq:∀j,j<M.length->mulR M n (fun t=>x.getD t 0) j=b.getD j 0
 st:∀k,k<(cT M n).length->oG φ (dG (cT M n) k) (fun t=>x.getD t 0) n=0
theorem yM.one(h:yM M n φ){x y:List Rat}(hx:mV M n φ b x)(hy:mV M n φ b y):x=y:=by
 refine j8 0 (by rw[hx.len,hy.len]) fun t ht=>?_;rw[hx.len]at ht
 have:=h.only (x:=fun t=>x.getD t 0-y.getD t 0) (fun j hj=>by rw[Hv,hx.eq j hj,hy.eq j hj];grind) (fun k hk=>by
  rw[show (fun t=>x.getD t 0-y.getD t 0)=fun t=>x.getD t 0+(-1)*y.getD t 0 from funext fun t=>by grind,Fl,hx.st k hk];have h2:=hy.st k hk;unfold oG at h2 ⊢;rw[cK (f:=fun t=>φ t*(dG (cT M n) k t*(-1*y.getD t 0))) (g:=fun t=>(-1)*(φ t*(dG (cT M n) k t*y.getD t 0))) fun t _=>by grind,eN,h2]
  grind) t ht
 grind
end
theorem vF(x y:List Rat)(n:Nat):eH x y n=cZ (fun t=>x.getD t 0*y.getD t 0) n:=nH x y n
theorem k5{a b:List Rat}{t:Nat}(ht:t<a.length):(eJ a b).getD t 0=a.getD t 0*b.getD t 0:=by
 have h:=aB ht;rw[getD_some h];exact getD_some (by rw[eJ,List.getElem?_mapIdx,h];rfl)
section
variable{M:List (List Rat)}{n:Nat}{fl b:List Rat}
theorem uC(M:List (List Rat))(n:Nat)(fl:List Rat){i j:Nat}(hi:i<(cT M n).length)(hj:j<(cT M n).length):dG (eM (cT M n) fl) i j=Fm M n (fun t=>fl.getD t 0) i j:=by
 have hr:=aB hi;have hs:=aB hj;have hl:((cT M n)[i]).length=n:=kZ M n _ (aX hi);have h1:(eM (cT M n) fl)[i]? =some ((cT M n).map fun r=>eH (eJ (cT M n)[i] fl) r (cT M n)[i].length):=by rw[eM,aN,hr];rfl
 have h2:((cT M n).map fun r=>eH (eJ (cT M n)[i] fl) r (cT M n)[i].length)[j]? =some (eH (eJ (cT M n)[i] fl) (cT M n)[j] (cT M n)[i].length):=by rw[aN,hs];rfl
 rw[dG,getD_some h1,getD_some h2,nH,hl];refine cK fun t ht=>?_;rw[k5 (by omega),dG,dG,getD_some hr,getD_some hs];grind
theorem nI(st:List (List Rat))(fl:List Rat):fe st.length (eM st fl):=fun r hr=>by
 obtain⟨s,hs,rfl⟩:=aT.1 hr;rw[aL]
theorem DK(M:List (List Rat))(n:Nat)(fl x:List Rat){i:Nat}(hi:i<(cT M n).length):(gE (cT M n) fl x).getD i 0= -(oG (fun t=>fl.getD t 0) (dG (cT M n) i) (fun t=>x.getD t 0) n):=by
 have hr:=aB hi;have hl:((cT M n)[i]).length=n:=kZ M n _ (aX hi);have h1:(gE (cT M n) fl x)[i]? =some (-(eH (eJ (cT M n)[i] fl) x (cT M n)[i].length)):=by rw[gE,aN,hr];rfl
 rw[getD_some h1,nH,hl];congr 1;refine cK fun t ht=>?_;rw[k5 (by omega),dG,getD_some hr];grind
theorem pz(st:List (List Rat))(c x:List Rat):∀i,(js st c x i).length=x.length
 |0=>rfl
 |i+1=>by rw[js,List.length_mapIdx,pz st c x i]
theorem yN(st:List (List Rat))(c x:List Rat){t:Nat}(ht:t<x.length):∀i,(js st c x i).getD t 0=x.getD t 0+cZ (fun k=>c.getD k 0*dG st k t) i
 |0=>(bX _).symm
 |i+1=>by
  have hl:t<(js st c x i).length:=by rw[pz];exact ht
  have ih:=yN st c x ht i;rw[getD_some (aB hl)]at ih;rw[getD_some (show (js st c x (i+1))[t]? =some ((js st c x i)[t]+c.getD i 0*(st.getD i []).getD t 0) by rw[js,List.getElem?_mapIdx,aB hl];rfl),ih,cZ,Rat.add_assoc];rfl
theorem yM.force(h:yM M n fun t=>fl.getD t 0)(h0:gR M b n=some x0):∃c,gR (eM (cT M n) fl) (gE (cT M n) fl x0) (cT M n).length=some c∧c.length=(cT M n).length∧
  mV M n (fun t=>fl.getD t 0) b (js (cT M n) c x0 (cT M n).length):=by
 obtain⟨hx1,hx2⟩:=kY h.len h0;have hG:=nI (cT M n) fl;have hGl:(eM (cT M n) fl).length=(cT M n).length:=aL _;have hc:∃c,gR (eM (cT M n) fl) (gE (cT M n) fl x0) (cT M n).length=some c:=by
  cases e:gR (eM (cT M n) fl) (gE (cT M n) fl x0) (cT M n).length with
  |some c=>exact⟨c,rfl⟩
  |none=>
   obtain⟨y,y1,y2⟩:=rP hG e;rw[hGl]at y1 y2;have hy:=h.IC (c:=y) fun i hi=>Eq.trans (cK fun j hj=>by rw[uC M n fl hj hi,bl];unfold Fm;rw[sY]) (y1 i hi);exact absurd (by rw[cK (g:=fun _=>0) fun j hj=>by rw[hy j hj,bG],dx]) y2
 obtain⟨c,hc⟩:=hc;obtain⟨c1,c2⟩:=kY hG hc;refine⟨c,hc,c1,by rw[pz];exact hx1,fun j hj=>?_,fun k hk=>?_⟩
 ·rw[rQ (y:=fun t=>x0.getD t 0+cZ (fun k=>c.getD k 0*dG (cT M n) k t) (cT M n).length) fun t ht=>yN _ c x0 (by omega) _,DI,DJ,hx2 j hj,cK (g:=fun _=>0) fun k hk=>by rw[sX h.len hk j hj,bC],dx,bX]
 ·rw[uA (x':=dG (cT M n) k) (y':=fun t=>x0.getD t 0+cZ (fun k=>c.getD k 0*dG (cT M n) k t) (cT M n).length) (fun _ _=>rfl) fun t ht=>yN _ c x0 (by omega) _,Fl,sZ];have h2:=c2 k (by omega);rw[DK M n fl x0 hk]at h2;unfold mulR at h2;rw[cK (g:=fun t=>c.getD t 0*oG (fun t=>fl.getD t 0) (dG (cT M n) k) (dG (cT M n) t) n) fun t ht=>by rw[uC M n fl hk ht,bl];rfl]at h2;rw[h2];grind
end
end Go.Ex
