/- Texts X147 to L45: lemmas, each with its conditions. -/
import Derived.Test.YtkdcaknoaeicdaaGreatP12
namespace Go.Ex
open Go Go.Sx Go.Proofs
variable{iv:Iv}{M:List (List Rat)}{css:List (List Value)}{l:List Int}{cs:List Value}{B id:Nat}{S:Nat->Prop}{O:Nat->Sx.dg}{v:Value}{w:World}
theorem Nr{r s n:Nat}(h1:r*r<=n)(h2:n<(r+1)*(r+1))(h3:s*s<=n)(h4:n<(s+1)*(s+1)):r=s:=by
 rcases bq r s with h|h|h
 ·have:=Nat.mul_le_mul (show r+1<=s from h) (show r+1<=s from h);omega
 ·exact h
 ·have:=Nat.mul_le_mul (show s+1<=r from h) (show s+1<=r from h);omega
theorem M7(n:Nat)(w:World)(hn:n<4000000004000000001):di PG N.tw #[.int .i64 n] w (dw w fun v' _=>∃r:Nat,v'= .int .i64 r∧r*r<=n∧n<(r+1)*(r+1)):=by
 have hw:=bR w;refine xn (by simp) ?_
 refine⟨Nat×Int×World,fun z=>⟨[(0,iZ n),(3,iN z.1),(4,iZ z.2.1)],[],0,[],z.2.2⟩,fun z=>(z.2.1-z.1).toNat,
  fun z=>(z.1:Int)<=z.2.1∧z.2.1<=2000000000∧dm w.heap.size w z.2.2∧z.1*z.1<=n∧(n:Int)<(z.2.1+1)*(z.2.1+1),?_,?_⟩
 ·intro O w' r3;exact⟨(0,2000000000,w'),⟨by simp,by simp,hw.tr r3.cP,by simp,by dsimp only;omega⟩,Sub.gn [] r3⟩
 rintro⟨lo,hi,w1⟩ ⟨hlh,Sg,hw,SK,Pa⟩;dsimp only at hlh Sg hw SK Pa ⊢;obtain⟨hi,rfl⟩:=Int.eq_ofNat_of_zero_le (show 0<=hi by omega);replace Pa:n<(hi+1)*(hi+1):=by
  have h:((hi:Int)+1)*((hi:Int)+1)=(((hi+1)*(hi+1):Nat):Int):=by push_cast;rfl
  rw[h]at Pa;omega
 refine dM.mk ?_ ?_<;>intro OF
 ·have OF:lo<hi:=by have:=aI OF;omega
  obtain⟨m,hm⟩:∃m,(lo+hi+1) / 2=m:=⟨_,rfl⟩
  have Ri:lo<m:=by omega
  have Tf:m<=hi:=by omega
  have RD:m*m<=2000000000*2000000000:=Nat.mul_le_mul (by omega) (by omega);refine⟨((lo+hi:Nat):Int),wo,((lo+hi+1:Nat):Int),wo,by decide,(m:Int),by rw[show ((lo+hi+1:Nat):Int).tdiv 2=(((lo+hi+1) / 2:Nat):Int)from rfl,hm,wrap64]<;>omega,((m*m:Nat):Int),by rw[wrap64]<;>push_cast<;>first|rfl|omega,?_⟩;refine dM.mk ?_ ?_<;>intro hd
  ·have hd:m*m<=n:=by have:=aI hd;omega
   intro ρ3 w6 r3;exact⟨(m,hi,w6),⟨by dsimp only;omega,Sg,hw.tr r3.cP,hd,by dsimp only;rw[show ((hi:Int)+1)*((hi:Int)+1)=(((hi+1)*(hi+1):Nat):Int) by push_cast;rfl];omega⟩,Sub.gn [] r3,by dsimp only;omega⟩
  ·have hd:n<m*m:=by have:=aH hd;omega
   have hu3:(lo:Int)<=((m-1:Nat):Int):=by omega
   have hu4:((m-1:Nat):Int)<=2000000000:=by omega
   have TP:(n:Int)<(((m-1:Nat):Int)+1)*(((m-1:Nat):Int)+1):=by rw[show ((m-1:Nat):Int)+1=m by omega];exact_mod_cast hd
   refine⟨((m-1:Nat):Int),wo,?_⟩;intro ρ3 w6 r3;exact⟨(lo,((m-1:Nat):Int),w6),⟨hu3,hu4,hw.tr r3.cP,SK,TP⟩,Sub.gn [] r3,by dsimp only;omega⟩
 have OF:lo=hi:=by have:=aH OF;omega
 subst OF;exact rtn hw fun ρe we re=>⟨_,rfl,SK,Pa⟩
theorem M8(n:Int)(w:World):di PG N.kX #[.int .i64 n] w (dw w fun v' _=>∃d,v'= .bool d∧(d=true↔0<=n∧n<=1000000)):=by
 have hw:=bR w;refine nY (by simp) ?_;refine dM.mk ?_ ?_<;>intro h1
 ·intro ρe we re;have h1:=aI h1;exact⟨_,rfl,hw.tr re.cP,_,rfl,by rw[decide_eq_true_iff];exact⟨fun h=>⟨h1,h⟩,fun h=>h.2⟩⟩
 ·intro ρe we re;have h1:=aH h1;exact⟨_,rfl,hw.tr re.cP,_,rfl,(fun h=>by cases h),fun h=>absurd h.1 h1⟩
theorem LG(sq st:Nat)(w:World)(h0:0<sq)(h1:st<=1000000):di PG N.rV #[.int .i64 sq,.int .i64 st] w (dw w fun v' w2=>∃r:Nat,r*r<=st*st*1000*1000 / sq∧st*st*1000*1000 / sq<(r+1)*(r+1)∧cU w2 (Nf w w2) v' (Rat.divInt r 1000)):=by
 have hw:=bR w;have h2:st*st<=1000000*1000000:=Nat.mul_le_mul h1 h1;have h4:st*st*1000*1000 / sq<=st*st*1000*1000:=Nat.div_le_self _ _;obtain⟨m,hm⟩:∃m,st*st*1000*1000 / sq=m:=⟨_,rfl⟩
 refine vW (by simp) ?_;refine⟨((st*st:Nat):Int),by rw[wrap64]<;>push_cast<;>first|rfl|omega,((st*st*1000:Nat):Int),wo,((st*st*1000*1000:Nat):Int),wo,by omega,(m:Int),by rw[show ((st*st*1000*1000:Nat):Int).tdiv (sq:Int)=((st*st*1000*1000 / sq:Nat):Int)from rfl,hm,wrap64]<;>omega,?_⟩;refine cC (cE hw (fun _ w' v w2=>∃r:Nat,v= .int .i64 r∧r*r<=m∧m<(r+1)*(r+1)) (fun O w' r=>M7 m w' (by omega)) ?_);rintro O _ _ _ OM r he hw h_ ⟨rt,rfl,Sj,SL⟩;have hrt:rt<=2000000000:=by
  rcases aO 2000000000 rt with h|h
  ·have:=Nat.mul_le_mul h h;omega
  ·exact h
 refine cC (cE hw (fun _ w' v w2=>∃r,v= .tuple #[r,.int .i64 0]∧cU w2 (Nf w' w2) r (Rat.divInt rt 1000)) (fun O w' r=>(HI rt 1000 w' (by omega) (by omega) (by decide) (by decide)).mono fun _ _ ⟨v2,e1,e2,e3⟩=>⟨v2,e1,e2,e3.elim (fun k=>absurd k.1 (by decide)) fun h=>h.2⟩) ?_);rintro O _ _ _ OJ r he hw h_ ⟨q1,rfl,k1⟩;have hd:=k1.dA (S:=FF) r.cD (mN h_);obtain⟨s2_0a,s2_0b,s2_0c,s2_0d,s2_0e,s2_0f,s2_0g,s2_0h,rfl⟩:=hd.shape;exact rtn hw fun ρe we re=>⟨rt,hm▸Sj,hm▸SL,hd.out re (cB w)⟩
theorem HJ(sq st:Nat)(w:World)(h0:0<sq)(h2:sq<=20000000000000)(h1:st<=1000000):di PG N.rR #[.int .i64 sq,.int .i64 st] w (dw w fun v' w2=>∃vr,∃r:Nat,v'= .tuple #[vr,.int .i64 0]∧r*r<=st*st*1000*1000 / sq∧st*st*1000*1000 / sq<(r+1)*(r+1)∧cU w2 (Nf w w2) vr (Rat.divInt r 1000)):=by
 have hw:=bR w;refine vR (by simp) ?_;refine dM.mk (fun k1=>absurd (aI k1) (by omega)) (fun _=>?_);refine dM.mk (fun k1=>absurd (aI k1) (by omega)) (fun _=>?_);refine cC (cE hw (fun _ w' v w2=>v= .bool true) (fun O w' r=>(M8 st w').mono fun _ _ ⟨v2,e1,e2,d,e3,e4⟩=>⟨v2,e1,e2,by rw[e3,e4.2 ⟨by omega,by omega⟩]⟩) ?_);rintro O _ _ _ OM r he hw h_ rfl;refine cC (cE hw (fun _ w' v w2=>∃r:Nat,r*r<=st*st*1000*1000 / sq∧st*st*1000*1000 / sq<(r+1)*(r+1)∧cU w2 (Nf w' w2) v (Rat.divInt r 1000)) (fun O w' r=>LG sq st w' h0 h1) ?_);rintro O _ _ _ OJ r he hw h_ ⟨rt,Sj,SL,k1⟩;have hd:=k1.dA (S:=FF) r.cD (mN h_);obtain⟨s2_0a,s2_0b,s2_0c,s2_0d,s2_0e,s2_0f,s2_0g,s2_0h,rfl⟩:=hd.shape;exact rtn hw fun ρe we re=>⟨_,rt,rfl,Sj,SL,hd.out re (cB w)⟩
def JI:List Ld:=[(2,0,0,-12)]
theorem Da{cols h:Nat}(h1:∀i,i<M.length+1->∀r∈(gR M cols i).1,∀q∈r,rl q+1<=h)(h2:∀i,i<M.length->∀k,k<cols+1->∀q∈fW (gR M cols i).1 (gR M cols i).2.1 (M.getD i []) k,rl q+1<=h):uQ M cols h:=
 ⟨fun i hi=>h1 i (by omega),fun i hi k hk=>h2 i hi k (by omega)⟩
def HK:List Rat:=[-3,3,9,0,0,-9,0,12,0]
def Ns:List Rat:=[0,0,0,0,0,0,-1,0,-3 / 2]
theorem AX:jI fk JI=0:=by decide +kernel
set_option maxRecDepth 100000
theorem Db:Calm fk 2:=by
 refine⟨mS (kD AX).1,by decide,Da (by decide +kernel) (by decide +kernel),?_,by decide +kernel,by decide⟩;unfold Ht;decide +kernel
theorem FZ:LF fk JI 2 HK:=⟨yP (kD AX).2,Da (by decide +kernel) (by decide +kernel),by decide +kernel⟩
theorem Dc:(dX (cO fk) fk.cols).1.length=9:=by decide +kernel
theorem aA2:uQ (j5 (fa (cO fk) fk.cols) (cX (eO HK (cW fk)) (-1))) 10 2:=Da (by decide +kernel) (by decide +kernel)
theorem aAl:jK (fa (cO fk) fk.cols) (cX (eO HK (cW fk)) (-1)) 9=some Ns:=by decide +kernel
def aA3(m:Nat):List Value:=[.int .i64 ((m / 3:Nat):Int),.int .i64 ((m % 3:Nat):Int),.bool false,.slice none 0 0,.bool false,.slice none 0 0]
def rk(m:Nat):List (List Value):=(List.range m).map aA3
theorem HL{i k:Nat}(hk:k<3):(rk (3*i+k)).flatten++[.int .i64 (i:Int),.int .i64 (k:Int),.bool false,.slice none 0 0,.bool false,.slice none 0 0]=(rk (3*i+(k+1))).flatten:=by
 rw[rk,rk,<-Nat.add_assoc,bT,List.map_append,List.flatten_append];simp only[List.map_cons,List.map_nil,aA3,show(3*i+k) / 3=i by omega,show(3*i+k) % 3=k by omega]
 simp
theorem JJ(m:Nat):(rk m).length=m:=by rw[rk,aJ,List.length_range]
theorem JK(m:Nat):∀cs∈rk m,cs.length=6:=fun cs hc=>by
 obtain⟨j,_,rfl⟩:=aU.1 hc;rfl
theorem eM.zeroV:eM w S (.agg #[.bool false,.slice none 0 0,.bool false,.slice none 0 0]) 0:=eM.zero
theorem wC(w:World):di PG N.rS #[] w (dw w fun v' w2=>∃vn vb vs,v'= .agg #[vn,vb,vs]∧dS w2 (Nf w w2) vn vb vs fk):=by
 have hw:=bR w;refine vS (by simp) ?_;refine cC (cE hw (fun _ w' v w2=>cU w2 (Nf w' w2) v ((1:Int):Rat)) (fun O w' r=>lz 1 w' (by decide)) ?_);rintro O _ _ _ OM r he hw h_ hn;have hd:=hn.dA (S:=FF) r.cD (mN h_);obtain⟨A0,A1,A2,A3,A4,A5,A6,A7,rfl⟩:=hd.shape;conv=>whnf
 refine⟨Nat×World,fun z=>⟨[(0,pP 0 0),(2,pP 4 0),(3,iN z.1)],[(5,.vec T.yM 6 (rk (3*z.1)).flatten),(4,.box T.Frame [.s 2 0 3 3,.s 3 0 2 2,.w 5 (3*z.1)]),(3,.box T.Bar [.v (.int .i64 0),.v (.int .i64 2),.v (.bool A0),.v (.slice A1 A2 A3),.v (.bool A4),.v (.slice A5 A6 A7),.v (.int .i64 1),.v (.int .i64 2),.v (.bool A0),.v (.slice A1 A2 A3),.v (.bool A4),.v (.slice A5 A6 A7)]),(2,.box T.Node [.v (.int .i64 0),.v (.int .i64 0),.v (.int .i64 0),.v (.int .i64 0),.v (.int .i64 0),.v (.int .i64 4),.v (.int .i64 3),.v (.int .i64 0),.v (.int .i64 0)]),(0,.box T.Frame [.v (.slice none 0 0),.v (.slice none 0 0),.v (.slice none 0 0)])],6,OM,z.2⟩,fun z=>2-z.1,
  fun z=>z.1<=2∧dm w.heap.size w z.2∧cU z.2 (Cf w OM) (.agg #[.bool A0,.slice A1 A2 A3,.bool A4,.slice A5 A6 A7]) ((1:Int):Rat),?_,?_⟩
 ·intro O w' r;exact⟨(0,w'),⟨aP _,hw.tr r.cP,hd.rel r (cB w)⟩,Sub.BK 4 2 T.yM 6 rfl rfl (by simp[jX,SV.sc,At.sc,fT]) r fun ρ1 r1=>Sub.gn [] r1⟩
 rintro⟨i,w1⟩ ⟨hi,hw,hd⟩;dsimp only at hi hw hd ⊢;conv=>whnf
 refine dM.mk ?_ ?_<;>intro OF
 ·have OF:i<2:=by have:=aI OF;omega
  refine⟨Nat×World,fun z=>⟨[(0,pP 0 0),(2,pP 4 0),(3,iN i),(4,iN z.1)],[(5,.vec T.yM 6 (rk (3*i+z.1)).flatten),(4,.box T.Frame [.s 2 0 3 3,.s 3 0 2 2,.w 5 (3*i+z.1)]),(3,.box T.Bar [.v (.int .i64 0),.v (.int .i64 2),.v (.bool A0),.v (.slice A1 A2 A3),.v (.bool A4),.v (.slice A5 A6 A7),.v (.int .i64 1),.v (.int .i64 2),.v (.bool A0),.v (.slice A1 A2 A3),.v (.bool A4),.v (.slice A5 A6 A7)]),(2,.box T.Node [.v (.int .i64 0),.v (.int .i64 0),.v (.int .i64 0),.v (.int .i64 0),.v (.int .i64 0),.v (.int .i64 4),.v (.int .i64 3),.v (.int .i64 0),.v (.int .i64 0)]),(0,.box T.Frame [.v (.slice none 0 0),.v (.slice none 0 0),.v (.slice none 0 0)])],6,OM,z.2⟩,fun z=>3-z.1,
   fun z=>z.1<=3∧dm w.heap.size w z.2∧cU z.2 (Cf w OM) (.agg #[.bool A0,.slice A1 A2 A3,.bool A4,.slice A5 A6 A7]) ((1:Int):Rat),?_,?_⟩
  ·intro O w' r3;exact⟨(0,w'),⟨aP _,hw.tr r3.cP,hd.rel r3 (cB w)⟩,Sub.gn [] r3⟩
  rintro⟨k,w3⟩ ⟨hk,hw,hd⟩;dsimp only at hk hw hd ⊢;refine dM.mk ?_ ?_<;>intro OK
  ·have OK:k<3:=by have:=aI OK;omega
   have hs:=HL (i:=i) OK;have OY:=vz (JK (3*i+k));have RS:=JJ (3*i+k);refine .inl ?_;refine⟨by omega,by omega,by unfold maxLen;omega,((k+1:Nat):Int),wo,?_⟩;intro ρ3 w6 r3;exact⟨(k+1,w6),⟨OK,hw.tr r3.cP,hd.rel r3 (cB w)⟩,Sub.gn [(5,7)] r3 ⟨by dsimp only;rw[<-hs];rfl,rfl,rfl,rfl,rfl,trivial⟩,by dsimp only;omega⟩
  have OK:k=3:=by have:=aH OK;omega
  subst OK;refine⟨((i+1:Nat):Int),wo,?_⟩;intro ρ3 w6 r3;exact⟨(i+1,w6),⟨OF,hw.tr r3.cP,hd.rel r3 (cB w)⟩,Sub.gn [] r3,by dsimp only;omega⟩
 have OF:i=2:=by have:=aH OF;omega
 subst OF;refine .inl ?_;refine⟨by decide,by decide,by decide,?_⟩;intro ρe we re;have hN:∀{id:Nat} {bk:jr},dC _ id=some bk->(ρe id).nil=false->Nf w we (ρe id).g:=fun h hn=>by
  obtain⟨h1,h2⟩:=re.low _ _ h hn;exact .inr ⟨h1,h2⟩
 have hR:=hd.out re (cB w);have hL:eM we (Nf w we) (.agg #[.bool A0,.slice A1 A2 A3,.bool A4,.slice A5 A6 A7]) 1:=hR.l (by decide);refine⟨_,rfl,hw.tr re.cP,_,_,_,rfl,?_,?_,?_⟩
 ·refine⟨[[.int .i64 0,.int .i64 0,.int .i64 0],[.int .i64 0,.int .i64 0,.int .i64 4],[.int .i64 3,.int .i64 0,.int .i64 0]],(re.qU (id:=2) (sz:=3) (n:=3) rfl rfl (by decide) (by repeat' first|refine List.forall_mem_cons.2 ⟨rfl,?_⟩|exact fun u hu=>absurd hu List.not_mem_nil)).cI fun g hg=>by subst hg;exact hN (id:=2) rfl (re.nn 2 _ rfl (by intros;simp) (by simp)),rfl,by simp,fun j cs x h1 h2=>?_⟩;rcases j with _|_|_|j
  ·cases h1;cases h2;rfl
  ·cases h1;cases h2;rfl
  ·cases h1;cases h2;rfl
  ·cases h2
 ·refine⟨[[.int .i64 0,.int .i64 2,.bool A0,.slice A1 A2 A3,.bool A4,.slice A5 A6 A7],[.int .i64 1,.int .i64 2,.bool A0,.slice A1 A2 A3,.bool A4,.slice A5 A6 A7]],(re.qU (id:=3) (sz:=6) (n:=2) rfl rfl (by decide) (by repeat' first|refine List.forall_mem_cons.2 ⟨rfl,?_⟩|exact fun u hu=>absurd hu List.not_mem_nil)).cI fun g hg=>by subst hg;exact hN (id:=3) rfl (re.nn 3 _ rfl (by intros;simp) (by simp)),rfl,by simp,fun j cs x h1 h2=>?_⟩;rcases j with _|_|j
  ·cases h1;cases h2;exact⟨_,_,_,_,_,_,_,_,rfl,hL⟩
  ·cases h1;cases h2;exact⟨_,_,_,_,_,_,_,_,rfl,hL⟩
  ·cases h2
 ·refine⟨rk 6++[[.int .i64 2,.int .i64 1,.bool false,.slice none 0 0,.bool false,.slice none 0 0]],?_,rfl,by decide,fun j cs x h1 h2=>?_⟩
  ·have h5:=re.iR (id:=7) (sz:=6) (m:=7) rfl (by decide) (by decide) (by decide) (by decide);rw[List.flatten_append];exact h5.cI fun g hg=>.inr hg
  ·rcases j with _|_|_|_|_|_|_|j
   ·cases h1;cases h2;exact⟨_,_,_,_,_,_,_,_,rfl,eM.zeroV⟩
   ·cases h1;cases h2;exact⟨_,_,_,_,_,_,_,_,rfl,eM.zeroV⟩
   ·cases h1;cases h2;exact⟨_,_,_,_,_,_,_,_,rfl,eM.zeroV⟩
   ·cases h1;cases h2;exact⟨_,_,_,_,_,_,_,_,rfl,eM.zeroV⟩
   ·cases h1;cases h2;exact⟨_,_,_,_,_,_,_,_,rfl,eM.zeroV⟩
   ·cases h1;cases h2;exact⟨_,_,_,_,_,_,_,_,rfl,eM.zeroV⟩
   ·cases h1;cases h2;exact⟨_,_,_,_,_,_,_,_,rfl,eM.zeroV⟩
   ·cases h2
structure eD(w:World)(S:Nat->Prop)(css:List (List Value))(qs:List Rat):Prop where
 len:css.length=qs.length
 four:∀cs∈css,cs.length=4
 at_:∀(j:Nat) cs q,css[j]? =some cs->qs[j]? =some q->iK w S cs q
section
variable{S S':Nat->Prop}{H:Hp}{nx:Nat}{iv iv':Iv}{B:Nat}{w w' w2:World}{O:Nat->Sx.dg}{css:List (List Value)}{qs:List Rat}
theorem eD.nil:eD w S [] []:=⟨rfl,fun _ h=>(by cases h),fun _ _ _ h=>by cases h⟩
theorem eD.cH(h:eD w S css qs)(hk:∀g,S g->w2.heap[g]? =w.heap[g]?):eD w2 S css qs:=⟨h.len,h.four,fun j cs q h1 h2=>by
 obtain⟨b,a,n,c,b2,a2,n2,c2,e,hr⟩:=h.at_ j cs q h1 h2
 exact⟨b,a,n,c,b2,a2,n2,c2,e,hr.cH hk⟩⟩
theorem eD.cI(h:eD w S css qs)(hk:∀g,S g->S' g):eD w S' css qs:=⟨h.len,h.four,fun j cs q h1 h2=>by
 obtain⟨b,a,n,c,b2,a2,n2,c2,e,hr⟩:=h.at_ j cs q h1 h2
 exact⟨b,a,n,c,b2,a2,n2,c2,e,hr.cI hk⟩⟩
theorem eD.rel(h:eD w (Cv S B iv) css qs)(r:Rel H nx iv B w O w')(hS:∀g,S g->g<B):eD w' (Cv S B iv) css qs:=h.cH fun _ hg=>Rel.same r hS hg
theorem eD.cF(h:eD w (Cv S B iv) css qs)(r:Rel H nx iv B w O w')(hS:∀g,S g->g<B)(he:Ext w' w2)(hm:∀p,p∈iv->p∈iv'):eD w2 (Cv S B iv') css qs:=
 ((h.rel r hS).cH fun g hg=>he.block g (Rel.old r hS g hg)).cI fun _ hg=>hg.mono hm
theorem eD.push{q:Rat}(h:eD w S css qs)(hc:iK w S cs q)(h4:cs.length=4):eD w S (css++[cs]) (qs++[q]):=by
 refine⟨by simp[h.len],fun x hx=>?_,fun j x p h1 h2=>?_⟩
 ·rcases bG.1 hx with hx|hx
  ·exact h.four x hx
  ·rw[bB.1 hx];exact h4
 ·rcases aO j css.length with hi|hi
  ·rw[aK hi]at h1;rw[aK (by rw[<-h.len];exact hi)]at h2;exact h.at_ j x p h1 h2
  ·have RW:j=css.length:=by have:=(aD.1 h1).1;simp at this;omega
   subst RW;rw[aN (aF _),bH]at h1;rw[h.len,aN (aF _),bH]at h2;simp at h1 h2;subst h1 h2;exact hc
theorem eD.one(h:eD w S css qs):∀u∈css.flatten,u.oneCell'=true:=fun u hu=>by
 obtain⟨cs,hc,hu⟩:=List.mem_flatten.1 hu;obtain⟨j,hj⟩:=aS hc;obtain⟨_,_,_,_,_,_,_,_,rfl,_⟩:=h.at_ j cs _ hj (aB (by rw[<-h.len];exact(aD.1 hj).1));simp at hu;rcases hu with rfl|rfl|rfl|rfl<;>rfl
theorem eD.jl(h:eD w (Cv FF B iv) css qs)(r:Rel H nx iv B w O w')(Om:dC H id=some (.vec T.Rat 4 css.flatten))(h0:0<css.length)(hm:css.length<=maxLen):
  dP w' FF B [(B,w'.heap.size)] ((SV.o (.w id css.length)).den O) css.length qs:=by
 have h2:=h.rel r (gV B);obtain⟨k1,k2,k3,k4⟩:=aA1 r Om rfl h0 hm ⟨h2.len,h2.at_⟩;have Qf:(SV.o (.w id css.length)).den O= .slice (some ⟨(O id).g,0,none⟩) css.length (O id).cap:=by simp[SV.den,At.den,k1]
 rw[Qf];have key:∀g,Cv FF B iv g->Cv FF B [(B,w'.heap.size)] g:=fun g hg=>
  .inr ⟨hg.elim (fun h=>h.elim) fun h=>h.1,B,w'.heap.size,bB.2 rfl,hg.elim (fun h=>h.elim) fun h=>h.1,Rel.old r (gV B) g hg⟩
 refine⟨k4.cI fun g hg=>⟨key g hg,fun e=>?_⟩,fun g hg=>?_⟩
 ·injection e with e;exact Rel.not r (gV B) hg id _ Om k1 e
 ·injection hg with hg;subst hg;have:=(r.low id _ Om k1).2;exact .inr ⟨k2,B,w'.heap.size,bB.2 rfl,k2,this⟩
theorem eD.list(h:eD w S css qs)(hs:iM w S 4 v css.flatten css.length):cJ w S v qs:=⟨css,h.len▸hs,h.len,h.four,h.at_⟩
end
theorem Fa(hS:Old S w)(hl:FR w S v l)(hl0:0<l.length)(Pb:l.length<=1000)(hb:∀z∈l,z.natAbs<1073741824):
  di PG N.tj #[v] w (dw w fun v' w2=>dP w2 FF w.heap.size [(w.heap.size,w2.heap.size)] v' l.length (dN l)):=by
 have hw:=bR w;obtain⟨al,cl,rfl,PV,Ql⟩:=hl.shape;unfold maxLen at Ql;refine x9 (by simp) ?_
 refine⟨Nat×List (List Value)×World×Iv,fun z=>⟨[(0,sV al l.length cl),(3,.o (.w 0 z.2.1.length)),(4,iN z.1)],[(0,.vec T.Rat 4 z.2.1.flatten)],1,z.2.2.2,z.2.2.1⟩,fun z=>l.length-z.1,
  fun z=>z.1<=l.length∧dm w.heap.size w z.2.2.1∧eD z.2.2.1 (Cf w z.2.2.2) z.2.1 (dN (l.take z.1)),?_,?_⟩
 ·intro O w' r;exact⟨(0,[],w',[]),⟨aP _,hw.tr r.cP,eD.nil⟩,Sub.nil 3 T.Rat 4 rfl (by simp[jX,SV.sc,At.sc,fT]) r fun ρ1 r1=>Sub.gn [] r1⟩
 rintro⟨i,css,w1,iv⟩ ⟨hi,hw,hG⟩;dsimp only at hi hw hG ⊢;have OY:=eN hG.four;have Sy:css.length=i:=by rw[hG.len,dN,aJ,aW];omega
 refine dM.mk ?_ ?_<;>intro OF
 ·have OF:i<l.length:=by simpa using OF
  obtain⟨z,hz⟩:∃z,l[i]? =some z:=⟨_,aB OF⟩
  have SO:=hb z (aC hz);have Q3:dN (l.take (i+1))=dN (l.take i)++[(z:Rat)]:=by rw[dN,List.take_add_one,hz,List.map_append];rfl
  obtain⟨adx,PS,hSx,Oj⟩:=FR.at hl hz;refine⟨adx,PS,by omega,.int .i64 z,rd1 Oj hw (hS _ hSx),?_⟩;refine cC (cE hw (fun _ w' v w2=>cU w2 (Nf w' w2) v (z:Rat)) (fun O w' r=>lz z w' (by omega)) ?_);rintro O _ _ _ OM r he hw h_ hn;replace hG:=hG.cF r (cB w) he (mC h_);have hd:=hn.dA (S:=FF) r.cD (mN h_);obtain⟨A0,A1,A2,A3,A4,A5,A6,A7,rfl⟩:=hd.shape;have S5:=hG.push (cs:=[.bool A0,.slice A1 A2 A3,.bool A4,.slice A5 A6 A7]) (q:=(z:Rat)) ⟨_,_,_,_,_,_,_,_,rfl,hd⟩ rfl;rw[<-Q3]at S5;have QR:css.flatten++([.bool A0,.slice A1 A2 A3,.bool A4,.slice A5 A6 A7]:List Value)=(css++([[.bool A0,.slice A1 A2 A3,.bool A4,.slice A5 A6 A7]]:List (List Value))).flatten:=by simp
  refine .inl ?_;refine⟨by omega,by omega,by unfold maxLen;omega,((i+1:Nat):Int),wo,?_⟩;intro ρ3 w3 r3;exact⟨(i+1,css++[[.bool A0,.slice A1 A2 A3,.bool A4,.slice A5 A6 A7]],w3,_),⟨OF,hw.tr r3.cP,S5.rel r3 (cB w)⟩,Sub.gn [(0,2)] r3 ⟨by dsimp only;rw[<-QR];rfl,trivial⟩ ⟨rfl,by dsimp only;rw[List.length_append,List.length_singleton];rfl,rfl,trivial⟩,by dsimp only;omega⟩
 have OF:i=l.length:=aQ hi (by simpa using OF);subst OF;rw[bC]at hG;intro ρe we re;refine⟨_,rfl,hw.tr re.cP,?_⟩;have h5:=hG.jl re (id:=0) rfl (by omega) (by unfold maxLen;omega);have h6:css.length=l.length:=Sy;rw[<-h6];exact h5
theorem dS.dA{w' w2:World}{vn vb vs:Value}{f:eh}(h:dS w2 (Nf w' w2) vn vb vs f)(hB:B<=w'.heap.size)(hm:(w'.heap.size,w2.heap.size)∈iv):dS w2 (Cv FF B iv) vn vb vs f:=h.cI fun _ hg=>hg.dA hB hm
abbrev HM(a b c:Int):Value:=.agg #[.int .i64 a,.int .i64 b,.int .i64 c]
theorem Nu(p0 p1 p2 q0 q1 q2:Int)(w:World):(Op.equal T.zd (HM p0 p1 p2) (HM q0 q1 q2)).run PG w= .ok (decide (p0=q0∧p1=q1∧p2=q2)) w:=by
 have h:=run_underlying Tryz.underlying68;simp only[Op.equal,Op.maxDepth]
 unfold Op.equalIn;have a0:=fL (cs:= #[Value.int .i64 p0,Value.int .i64 p1,Value.int .i64 p2]) (j:=0) rfl;have a1:=fL (cs:= #[Value.int .i64 p0,Value.int .i64 p1,Value.int .i64 p2]) (j:=1) rfl;have a2:=fL (cs:= #[Value.int .i64 p0,Value.int .i64 p1,Value.int .i64 p2]) (j:=2) rfl;have b0:=fL (cs:= #[Value.int .i64 q0,Value.int .i64 q1,Value.int .i64 q2]) (j:=0) rfl;have b1:=fL (cs:= #[Value.int .i64 q0,Value.int .i64 q1,Value.int .i64 q2]) (j:=1) rfl;have b2:=fL (cs:= #[Value.int .i64 q0,Value.int .i64 q1,Value.int .i64 q2]) (j:=2) rfl;simp[h,a0,a1,a2,b0,b1,b2,eq_int 9998];by_cases h0:p0=q0
 ·by_cases h1:p1=q1
  ·by_cases h2:p2=q2<;>simp[h0,h1,h2]
  ·simp[h0,h1]
 ·simp[h0]
theorem M9(p0 p1 p2 q0 q1 q2:Int)(w:World)(o1 o2:Operand):(do eqGuard .eql T.zd o1 o2 (HM p0 p1 p2) (HM q0 q1 q2);binOp .eql T.zd (HM p0 p1 p2) (HM q0 q1 q2)).run PG w= .ok (.bool (decide (p0=q0∧p1=q1∧p2=q2))) w:=by
 have h:=Nu p0 p1 p2 q0 q1 q2 w;simp[eqGuard,binOp,h]
def Nv:List Int:=[0,0,0,0,0,0,-1,0,0]
def Nx:List Int:=[-3,3,9,0,0,-9,0,12,0]
theorem Ma:(dN Nv).set 8 (Rat.divInt (-3) 2)=Ns:=by decide +kernel
theorem Ny:dN Nx=HK:=by decide +kernel
theorem JL:∀q∈HK,rl q<=100000:=by decide +kernel
theorem Fb:∀q∈eO HK (cW fk),rl q<=100000:=by decide +kernel
theorem aAn:Rat.divInt 2000 1000=((2:Int):Rat):=by decide +kernel
theorem NA{H:Hp}{nx:Nat}{w':World}(r:Rel H nx iv B w O w'){n:Nat}(h:dC H id=some (.box T.int (l.map fun z=>At.v (.int .i64 z))))(hn:l.length=n)(hm:n<=maxLen):
  FR w' (fun g=>g=(O id).g) (.slice (some ⟨(O id).g,0,none⟩) n n) l:=by
 subst hn;have h5:=r.qU (sz:=1) (n:=l.length) h (by simp) hm (fun u hu=>by obtain⟨z,_,rfl⟩:=aU.1 hu;rfl);rw[List.map_map]at h5;exact h5
set_option maxHeartbeats 1000000 in
theorem iw(w:World):di PG N.wm #[] w (dw w fun v' _=>v'= .bool true):=by
 have hw:=bR w;refine zt (by simp) ?_;refine cC (cE hw (fun _ w' v w2=>∃vn vb vs,v= .agg #[vn,vb,vs]∧dS w2 (Nf w' w2) vn vb vs fk) (fun O w' r=>wC w') ?_);rintro O _ _ _ OM r he hw h_ ⟨vn1,vb1,vs1,rfl,hn⟩;have hf:=hn.dA r.cD (mN h_);obtain⟨an1,cn1,ab1,cb1,aq1,cq1,rfl,rfl,rfl,-,-,-⟩:=hf.shape;refine cC (cE hw (fun _ w' v w2=>∃vx,v= .tuple #[vx,.int .i64 0]∧cJ w2 (Nf w' w2) vx HK) (fun O w' r=>HH (S:=(fun g=>Cf w OM g∨g=(O 0).g)) (l:=JI) (h:=2) (fun g hg=>hg.elim (Rel.old r (cB w) g) fun e=>by subst e;exact Rel.lt r (id:=0) rfl) (dS.cI (dS.rel hf r (cB w)) fun g hg=>.inl hg) (show ff w' (fun g=>Cf w OM g∨g=(O 0).g) (.slice (some ⟨(O 0).g,0,none⟩) 1 1) JI from⟨[[.int .i64 2,.int .i64 0,.int .i64 0,.int .i64 (-12)]],(r.qU (id:=0) (sz:=4) (n:=1) rfl rfl (by decide) (by repeat' first|refine List.forall_mem_cons.2 ⟨rfl,?_⟩|exact fun u hu=>absurd hu List.not_mem_nil)).cI fun g hg=>.inr hg,rfl,by simp,fun j cs x h1 h2=>by cases j with|zero=>(cases h1;cases h2;rfl)|succ j=>cases h2⟩) Db FZ AX) ?_);rintro O _ v2 _ OJ r he hw h_ ⟨vx1,rfl,hn⟩;have hx:=cJ.dA (S:=FF) hn r.cD (mN h_);obtain⟨ax1,cx1,rfl,-,-⟩:=cY.shape hx;refine cC (cE hw (fun _ w' v w2=>∃vn vb vs,v= .agg #[vn,vb,vs]∧dS w2 (Nf w' w2) vn vb vs fk) (fun O w' r=>wC w') ?_);rintro O _ _ _ OP r he hw h_ ⟨vn2,vb2,vs2,rfl,hn⟩;replace hx:=cJ.cF hx r (cB w) he (mC h_);have hf:=hn.dA r.cD (mN h_);obtain⟨an2,cn2,ab2,cb2,aq2,cq2,rfl,rfl,rfl,-,-,-⟩:=hf.shape;refine cC (cE hw (fun _ w' v w2=>∃vu vx,v= .tuple #[vu,vx,.int .i64 0]∧cJ w2 (Nf w' w2) vu Ns∧∃a n c,vx= .slice a n c) (fun O w' r=>(D9 (S:=(fun g=>Cf w OP g∨g=(O 0).g)) (l:=JI) (h:=2) (fun g hg=>hg.elim (Rel.old r (cB w) g) fun e=>by subst e;exact Rel.lt r (id:=0) rfl) (dS.cI (dS.rel hf r (cB w)) fun g hg=>.inl hg) (show ff w' (fun g=>Cf w OP g∨g=(O 0).g) (.slice (some ⟨(O 0).g,0,none⟩) 1 1) JI from⟨[[.int .i64 2,.int .i64 0,.int .i64 0,.int .i64 (-12)]],(r.qU (id:=0) (sz:=4) (n:=1) rfl rfl (by decide) (by repeat' first|refine List.forall_mem_cons.2 ⟨rfl,?_⟩|exact fun u hu=>absurd hu List.not_mem_nil)).cI fun g hg=>.inr hg,rfl,by simp,fun j cs x h1 h2=>by cases j with|zero=>(cases h1;cases h2;rfl)|succ j=>cases h2⟩) Db FZ AX Dc rfl JL Fb aA2 aAl).mono fun _ _ ⟨v2,e1,e2,vu,vx,e3,e4,e5⟩=>⟨v2,e1,e2,vu,vx,e3,e4,by obtain⟨a,c,h,_⟩:=cY.shape e5;exact⟨a,_,c,h⟩⟩) ?_);rintro O _ _ _ OR r he hw h_ ⟨vu1,_,rfl,hn,ay1,ny1,cy1,rfl⟩;replace hx:=cJ.cF hx r (cB w) he (mC h_);have hu:=cJ.dA (S:=FF) hn r.cD (mN h_);obtain⟨au1,cu1,rfl,-,-⟩:=cY.shape hu;refine cC (cE hw (fun _ w' v w2=>∃vn vb vs,v= .agg #[vn,vb,vs]∧dS w2 (Nf w' w2) vn vb vs fk) (fun O w' r=>wC w') ?_);rintro O _ _ _ Ou r he hw h_ ⟨vn3,vb3,vs3,rfl,hn⟩;replace hx:=cJ.cF hx r (cB w) he (mC h_);replace hu:=cJ.cF hu r (cB w) he (mC h_);have hf:=hn.dA r.cD (mN h_);obtain⟨an3,cn3,ab3,cb3,aq3,cq3,rfl,rfl,rfl,-,-,-⟩:=hf.shape;refine cC (cE hw (fun _ w' v w2=>v= .tuple #[HM 9 0 0,.int .i64 0]) (fun O w' r=>(JH (S:=Cf w Ou) (h:=2) (Rel.old r (cB w)) (dS.rel hf r (cB w)) Db (kD AX).1 (by rw[Dc];decide)).mono fun _ _ ⟨v2,e1,e2,e3⟩=>⟨v2,e1,e2,by rw[e3,Dc];rfl⟩) ?_);rintro O _ _ _ Q7 r he hw h_ rfl;replace hx:=cJ.cF hx r (cB w) he (mC h_);replace hu:=cJ.cF hu r (cB w) he (mC h_)
 refine cC (cE hw (fun _ w' v w2=>∃vr,v= .tuple #[vr,.int .i64 0]∧cU w2 (Nf w' w2) vr ((2:Int):Rat)) (fun O w' r=>(HJ 25 10 w' (by decide) (by decide) (by decide)).mono fun _ _ ⟨v2,e1,e2,vr,rt,e3,e4,e5,e6⟩=>⟨v2,e1,e2,vr,e3,by
  have:rt=2000:=Nr e4 e5 (by decide) (by decide);rw[this]at e6
  exact aAn▸e6⟩) ?_)
 rintro O _ _ _ R4 r he hw h_ ⟨vr1,rfl,hn⟩;replace hx:=cJ.cF hx r (cB w) he (mC h_);replace hu:=cJ.cF hu r (cB w) he (mC h_);have hl:=hn.dA (S:=FF) r.cD (mN h_);obtain⟨s7_0a,s7_0b,s7_0c,s7_0d,s7_0e,s7_0f,s7_0g,s7_0h,rfl⟩:=hl.shape;refine cC (cE hw (fun _ w' v w2=>∃q,v= .tuple #[q,.int .i64 0]∧cU w2 (Nf w' w2) q (Rat.divInt (-3) 2)) (fun O w' r=>(LJ (-3) 2 w' (by decide) (by decide) (by decide) (by decide)).mono fun _ _ ⟨v2,e1,e2,e3⟩=>⟨v2,e1,e2,e3.elim (fun k=>absurd k.1 (by decide)) fun h=>h.2⟩) ?_);rintro O _ _ _ QZ r he hw h_ ⟨q1,rfl,hn⟩;replace hx:=cJ.cF hx r (cB w) he (mC h_);replace hu:=cJ.cF hu r (cB w) he (mC h_);replace hl:=hl.cF r (cB w) he (mC h_);have hh:=hn.dA (S:=FF) r.cD (mN h_);obtain⟨s8_0a,s8_0b,s8_0c,s8_0d,s8_0e,s8_0f,s8_0g,s8_0h,rfl⟩:=hh.shape;refine cC (cM (Φ:=fun _ w' v w2=>dP w2 FF w'.heap.size [(w'.heap.size,w2.heap.size)] v 9 (dN Nv)) (fun O w' r=>Fa (S:=fun g=>g=(O 4).g) (fun g hg=>by subst hg;exact Rel.lt r (id:=4) rfl) (NA r (id:=4) (n:=9) (l:=Nv) rfl rfl (by decide)) (by decide) (by decide) (by decide)) ?_);rintro O Q1 v9 QU r he hb hn;replace hw:=hw.tr hb;replace hx:=cJ.cI (S':=Bs FF w.heap.size ((Q1.heap.size,QU.heap.size)::QZ) v9) (cJ.cH (cJ.rel hx r (cB w)) fun g hg=>he.block g (Rel.old r (cB w) g hg)) fun g hg=>Bs.of r (cB w) (fun x hx=>List.mem_cons_of_mem _ hx) hn hg;replace hu:=cJ.cI (S':=Bs FF w.heap.size ((Q1.heap.size,QU.heap.size)::QZ) v9) (cJ.cH (cJ.rel hu r (cB w)) fun g hg=>he.block g (Rel.old r (cB w) g hg)) fun g hg=>Bs.of r (cB w) (fun x hx=>List.mem_cons_of_mem _ hx) hn hg;replace hl:=cU.cI (S':=Bs FF w.heap.size ((Q1.heap.size,QU.heap.size)::QZ) v9) (cU.cH (hl.rel r (cB w)) fun g hg=>he.block g (Rel.old r (cB w) g hg)) fun g hg=>Bs.of r (cB w) (fun x hx=>List.mem_cons_of_mem _ hx) hn hg;replace hh:=cU.cI (S':=Bs FF w.heap.size ((Q1.heap.size,QU.heap.size)::QZ) v9) (cU.cH (hh.rel r (cB w)) fun g hg=>he.block g (Rel.old r (cB w) g hg)) fun g hg=>Bs.of r (cB w) (fun x hx=>List.mem_cons_of_mem _ hx) hn hg;have hX:=hn.dA (S:=FF) r.cD (iv:=(Q1.heap.size,QU.heap.size)::QZ) aG;generalize (Q1.heap.size,QU.heap.size)::QZ=Qn at*
 obtain⟨ax,cx,rfl,Sl⟩:=hX.row.form;obtain⟨gx,rfl⟩:=hX.at (by decide);refine⟨⟨gx,0,none⟩,rfl,by omega,?_⟩;intro O w' r;obtain⟨g,hg,h1,h2,h3,h4,h5⟩:=(hX.rel r (cB w)).store (j:=8) (by decide) (hh.cH (Bs.same r (cB w))) r (cB w);injection hg with hg;injection hg with hg;subst hg;refine⟨h1,h2,h3,fun w5 Qg=>?_⟩;obtain⟨k1,k2,k3⟩:=h5 w5 Qg;rw[Ma]at k1;have PE:dm w.heap.size w w5:=(hw.tr r.cP).tr (dm.grown k2 (fun g e=>by injection e with e;subst e;exact h4.elim (fun h=>h.elim) fun h=>h.1) r.cD);have Rh:=cJ.cI (S':=Cf w Qn) (cJ.cH hx (Bs.kept r (cB w) k2 fun g e=>e)) fun g hg=>hg.1;have TP:=cJ.cI (S':=Cf w Qn) (cJ.cH hu (Bs.kept r (cB w) k2 fun g e=>e)) fun g hg=>hg.1;have Pb:=cU.cI (S':=Cf w Qn) (cU.cH hl (Bs.kept r (cB w) k2 fun g e=>e)) fun g hg=>hg.1;have PD:=k1.c;have hw:=PE;have hx:=Rh;have hu:=TP;have hl:=Pb;have hd:=PD;refine cK hτ dZ [.x 0,.x 1,.x 2,.x 3,.x 4,.x 5,.x 6,.x 7,.x 8,.x 9,.x 10,.x 11,.x 12,.x 13,.x 14,.x 15,.x 16,.x 17,.x 18,.x 19,.x 20,.x 21,.x 22,.x 23,.x 24,.x 25,.x 26,.x 27,.x 28,.x 29,.x 30,.x 31,.x 32,.x 33,.x 34,.x 35] (by kernel_rfl) (by kernel_rfl) ?_;refine cE hw (fun _ w' v w2=>dP w2 FF w'.heap.size [(w'.heap.size,w2.heap.size)] v 9 (dN Nx)) (fun O w' r=>Fa (S:=fun g=>g=(O 5).g) (fun g hg=>by subst hg;exact Rel.lt r (id:=5) rfl) (NA r (id:=5) (n:=9) (l:=Nx) rfl rfl (by decide)) (by decide) (by decide) (by decide)) ?_;rintro O _ _ _ Qi r he hw h_ hn;replace hx:=cJ.cF hx r (cB w) he (mC h_);replace hu:=cJ.cF hu r (cB w) he (mC h_);replace hl:=hl.cF r (cB w) he (mC h_);replace hd:=cJ.cF hd r (cB w) he (mC h_);have hX:=hn.dA (S:=FF) r.cD (mN h_);have hv:=hX.c;rw[Ny]at hv;obtain⟨av,cv,rfl,-,-⟩:=cY.shape hv;refine cE hw (fun _ w' v w2=>v= .bool true) (fun O w' r=>(j1 (S:=Cf w Qi) (Rel.old r (cB w)) (cJ.rel hx r (cB w)) (cJ.rel hv r (cB w))).mono fun _ _ ⟨v2,e1,e2,e3⟩=>⟨v2,e1,e2,by rw[e3];exact congrArg _ (bS rfl)⟩) ?_;rintro O _ _ _ QV r he hw h_ rfl;replace hu:=cJ.cF hu r (cB w) he (mC h_);replace hl:=hl.cF r (cB w) he (mC h_);replace hd:=cJ.cF hd r (cB w) he (mC h_);refine cE hw (fun _ w' v w2=>v= .bool true) (fun O w' r=>(j1 (S:=Cf w QV) (Rel.old r (cB w)) (cJ.rel hu r (cB w)) (cJ.rel hd r (cB w))).mono fun _ _ ⟨v2,e1,e2,e3⟩=>⟨v2,e1,e2,by rw[e3];exact congrArg _ (bS rfl)⟩) ?_;rintro O _ _ _ iv12 r he hw h_ rfl;replace hl:=hl.cF r (cB w) he (mC h_);refine⟨true,fun O w o1 o2=>M9 9 0 0 9 0 0 w o1 o2,?_⟩;refine cE hw (fun _ w' v w2=>cU w2 (Nf w' w2) v ((2:Int):Rat)) (fun O w' r=>lz 2 w' (by decide)) ?_;rintro O _ _ _ iv13 r he hw h_ hn;replace hl:=hl.cF r (cB w) he (mC h_);have ht:=hn.dA (S:=FF) r.cD (mN h_);obtain⟨A0,A1,A2,A3,A4,A5,A6,A7,rfl⟩:=ht.shape;refine cE hw (fun _ w' v w2=>v= .bool true) (fun O w' r=>(LK (S:=Cf w iv13) (Rel.old r (cB w)) (hl.rel r (cB w)) (ht.rel r (cB w))).mono fun _ _ ⟨v2,e1,e2,e3⟩=>⟨v2,e1,e2,by rw[e3];exact congrArg _ (bS rfl)⟩) ?_;rintro O _ _ _ iv14 r he hw h_ rfl;exact rtn hw fun ρe we re=>rfl
def aA4(cs:List Value):Prop:=∃b a n c b2 a2 n2 c2,cs=[.bool b,.slice a n c,.bool b2,.slice a2 n2 c2]
def xx(cs:List Value):Prop:=∃b a n c b2 a2 n2 c2,cs=[.bool b,.slice a n c,.bool b2,.slice a2 n2 c2]∧n<=3∧n2<=3
theorem kE(a:Addr)(m n:Nat):(a.add m).add n=a.add (m+n):=by
 unfold Addr.add;split<;>split<;>simp_all<;>omega
theorem iO.l3{b1 b2:Bool}{a1 a2:Option Addr}{n1 n2 c1 c2:Nat}{a b:Int}(h:iO w S (.agg #[.bool b1,.slice a1 n1 c1,.bool b2,.slice a2 n2 c2]) a b)(hf:xx [.bool b1,.slice a1 n1 c1,.bool b2,.slice a2 n2 c2]):
  eM w S (.agg #[.bool b1,.slice a1 n1 c1,.bool b2,.slice a2 n2 c2]) (ratio a b)∧rl (ratio a b)<=3:=by
 obtain⟨_,_,_,_,_,_,_,_,e,k1,k2⟩:=hf;simp only[List.cons.injEq,Value.slice.injEq,Value.bool.injEq,and_true]at e;obtain⟨rfl,⟨rfl,rfl,rfl⟩,rfl,rfl,rfl,rfl⟩:=e;obtain⟨b1,l1,b2,l2,e,h1,h2⟩:=h;simp only[Value.agg.injEq,Array.mk.injEq,List.cons.injEq,Value.bool.injEq,and_true]at e;obtain⟨rfl,rfl,rfl,rfl⟩:=e;have g1:=h1.short k1;have g2:=h2.short k2;have r1:=g1.ln;have r2:=g2.ln;have hr:=iI a b;refine⟨⟨_,_,_,_,a,b,rfl,?_,?_,rfl⟩,by omega⟩
 ·obtain⟨ng,ls,i1,i2,i3⟩:=g1;exact⟨ng,ls,i1,i2,by omega⟩
 ·obtain⟨ng,ls,i1,i2,i3⟩:=g2;exact⟨ng,ls,i1,i2,by omega⟩
theorem Dd(hS:Old S w)(hq:iM w S 4 v css.flatten css.length)(hF:∀cs∈css,aA4 cs):
  di PG N.mV #[v] w (dw w fun v' _=>∃d,v'= .bool d∧(d=true->css.length<=80∧∀cs∈css,xx cs)):=by
 have hw:=bR w;have h4:∀cs∈css,cs.length=4:=fun cs hc=>by obtain⟨_,_,_,_,_,_,_,_,rfl⟩:=hF cs hc;rfl
 have hK:eX 4 (fun _ _ cs x=>cs=x) w S v css:=⟨css,hq,rfl,h4,fun j cs x h1 h2=>by rw[h1]at h2;injection h2⟩
 obtain⟨a,c,rfl,hc,hm⟩:=hK.shape;unfold maxLen at hm;refine zu (by simp) ?_
 refine⟨Nat×World,fun z=>⟨[(0,sV a css.length c),(3,iN z.1)],[],0,[],z.2⟩,fun z=>css.length-z.1,
  fun z=>z.1<=css.length∧dm w.heap.size w z.2∧∀j cs,j<z.1->css[j]? =some cs->xx cs,?_,?_⟩
 ·intro O w' r3;exact⟨(0,w'),⟨aP _,hw.tr r3.cP,fun j cs hj=>absurd hj (Nat.not_lt_zero j)⟩,Sub.gn [] r3⟩
 rintro⟨i,w1⟩ ⟨hi,hw,hE⟩;dsimp only at hi hw hE ⊢;refine dM.mk ?_ ?_<;>intro OF
 ·have OF:i<css.length:=by simpa using OF
  refine dM.mk ?_ ?_<;>intro h80
  ·have h80:css.length<=80:=by have:=aI h80;omega
   obtain⟨cs,Ov⟩:∃cs,css[i]? =some cs:=⟨_,aB OF⟩
   obtain⟨g0,g1,g2,g3,g4,g5,g6,g7,rfl⟩:=hF cs (aC Ov);obtain⟨adx,cs2,PS,Ub,-,QG⟩:=hK.load (by decide) Ov;subst Ub;refine⟨adx,PS,by omega,.slice g1 g2 g3,fun O w' r=>?_,?_⟩
   ·obtain⟨k1,k2⟩:=QG 1 _ rfl;rw[aE,cG (w:=w) (w2:=w') (by simp only[dE];exact(hw.tr r.cP).block _ (hS _ k1))];exact k2
   refine dM.mk ?_ ?_<;>intro k3
   ·exact rtn hw fun ρe we re=>⟨_,rfl,fun h=>by cases h⟩
   have k3:=aH k3;refine⟨adx,PS,by omega,.slice g5 g6 g7,fun O w' r=>?_,?_⟩
   ·obtain⟨k1,k2⟩:=QG 3 _ rfl;rw[aE,cG (w:=w) (w2:=w') (by simp only[dE];exact(hw.tr r.cP).block _ (hS _ k1))];exact k2
   refine dM.mk ?_ ?_<;>intro k4
   ·exact rtn hw fun ρe we re=>⟨_,rfl,fun h=>by cases h⟩
   have k4:=aH k4;have OZ:∀j cs,j<i+1->css[j]? =some cs->xx cs:=fun j cs hj hc=>by
    rcases aO j i with h|h
    ·exact hE j cs h hc
    ·have:j=i:=by omega
     subst this;rw[Ov]at hc;injection hc with hc;subst hc;exact⟨_,_,_,_,_,_,_,_,rfl,by omega,by omega⟩
   refine⟨((i+1:Nat):Int),wo,?_⟩;intro ρ3 w6 r3;exact⟨(i+1,w6),⟨OF,hw.tr r3.cP,OZ⟩,Sub.gn [] r3,by dsimp only;omega⟩
  ·have h80:=aH h80;exact rtn hw fun ρe we re=>⟨_,rfl,fun h=>by have:=aI h;omega⟩
 have OF:i=css.length:=aQ hi (by simpa using OF);subst OF;intro ρe we re
 exact⟨_,rfl,hw.tr re.cP,_,rfl,fun h=>⟨by have:=aI h;omega,fun cs hc=>by
  obtain⟨j,hj⟩:=aS hc
  exact hE j cs (aD.1 hj).1 hj⟩⟩
end Go.Ex
namespace Go.Ex
theorem aAc{a b x p q:Rat}(h1:a<x)(h2:x<=b):(p<=q->p<=p+(x-a) / (b-a)*(q-p)∧p+(x-a) / (b-a)*(q-p)<=q)∧(q<=p->q<=p+(x-a) / (b-a)*(q-p)∧p+(x-a) / (b-a)*(q-p)<=p):=by
 have hd:0<b-a:=by grind
 have hi:0<=(b-a)⁻¹:=Rat.le_of_lt (Rat.inv_pos.2 hd);obtain⟨t,ht⟩:∃t,(x-a) / (b-a)=t:=⟨_,rfl⟩
 have t0:0<=t:=by rw[<-ht,bg];exact Rat.mul_nonneg (by grind) hi
 have t1:t<=1:=by
  rw[<-ht,bg,<-Rat.mul_inv_cancel (b-a) (by grind)];exact Rat.mul_le_mul_of_nonneg_right (by grind) hi
 rw[ht];refine⟨fun h=>?_,fun h=>?_⟩
 ·have k1:0<=t*(q-p):=Rat.mul_nonneg t0 (by grind);have k2:t*(q-p)<=1*(q-p):=Rat.mul_le_mul_of_nonneg_right t1 (by grind);grind
 ·have k1:0<=t*(p-q):=Rat.mul_nonneg t0 (by grind);have k2:t*(p-q)<=1*(p-q):=Rat.mul_le_mul_of_nonneg_right t1 (by grind);have k3:t*(q-p)= -(t*(p-q)):=by grind
  grind
end Go.Ex
namespace Go.Ex
open Go Go.Sx Go.Proofs
variable{p:Int×Int×(Int×Int)}{xs:List (Int×Int)}{css:List (List Value)}{cs:List Value}{S:Nat->Prop}{ax:Option Addr}{v vb vn vs:Value}{w:World}{f:eh}
theorem oe(c b:Int×Int×Rat):gN c=gN b↔(c.1=b.1∧c.2.1=b.2.1)∨(c.1=b.2.1∧c.2.1=b.1):=by
 unfold gN;rw[Prod.mk.injEq];omega
theorem De(c b:Int×Int×Rat):ie c=ie b↔c.1=b.1∧c.2.1=b.2.1:=by
 unfold ie;rw[Prod.mk.injEq]
section
variable{α β:Type}{L:List α}{K:α->β}{x:β}
theorem mA{k:Nat}{c:α}(hc:L[k]? =some c)(h:K c≠x)(hE:x∈L.map K↔x∈(L.drop k).map K):x∈L.map K↔x∈(L.drop (k+1)).map K:=by
 rw[hE,List.drop_eq_getElem_cons (aD.1 hc).1,(aD.1 hc).2,List.map_cons,List.mem_cons,or_iff_right fun e=>h e.symm]
theorem uX{k:Nat}{c:α}(hc:L[k]? =some c)(h:K c=x):x∈L.map K:=aU.2 ⟨c,aC hc,h⟩
theorem Df{k:Nat}(hk:L.length<=k)(hE:x∈L.map K↔x∈(L.drop k).map K):x∉L.map K:=fun h=>by
 have:=hE.1 h;rw[List.drop_eq_nil_of_le hk]at this
 cases this
end
theorem qw(n:Int)(an ab aq:Option Addr)(ln cn nb cb nq cq:Nat)(w:World):di PG N.tm #[.agg #[.slice an ln cn,.slice ab nb cb,.slice aq nq cq],.int .i64 n] w (dw w fun v' _=>∃d,v'= .bool d∧(d=true↔jL ln n)):=by
 have hw:=bR w;refine xb (by simp) ?_;refine dM.mk ?_ ?_<;>intro h1
 ·intro ρe we re;have h1:=aI h1;exact⟨_,rfl,hw.tr re.cP,_,rfl,by rw[decide_eq_true_iff];exact⟨fun h=>⟨h1,h⟩,fun h=>h.2⟩⟩
 ·intro ρe we re;have h1:=aH h1;exact⟨_,rfl,hw.tr re.cP,_,rfl,(fun h=>by cases h),fun h=>absurd h.1 h1⟩
theorem mB(n lo hi:Int)(w:World):di PG N.wv #[.int .i64 n,.int .i64 lo,.int .i64 hi] w (dw w fun v' _=>∃d,v'= .bool d∧(d=true↔lo<=n∧n<=hi)):=by
 have hw:=bR w;refine zx (by simp) ?_;refine dM.mk ?_ ?_<;>intro h1
 ·intro ρe we re;have h1:=aI h1;exact⟨_,rfl,hw.tr re.cP,_,rfl,by rw[decide_eq_true_iff];exact⟨fun h=>⟨h1,h⟩,fun h=>h.2⟩⟩
 ·intro ρe we re;have h1:=aH h1;exact⟨_,rfl,hw.tr re.cP,_,rfl,(fun h=>by cases h),fun h=>absurd h.1 h1⟩
theorem AZ{q:Rat}(hS:Old S w)(hp:eM w S v q):di PG N.ji #[v] w (dw w fun v' _=>v'= .int .i64 (rs q)):=by
 obtain⟨a,b,h1,rfl,_,_⟩:=hp.v;exact so hS h1
set_option maxHeartbeats 2000000 in
theorem Fe(hS:Old S w)(hf:dS w S vn vb vs f):di PG N.wu #[.agg #[vn,vb,vs]] w (dw w fun v' _=>v'= .int .i64 (eV f)):=by
 have hw:=bR w;obtain⟨an,cn,ab,cb,aq,cq,rfl,rfl,rfl,Q6,Qm,RH⟩:=hf.shape;refine zw (by simp) ?_;refine dM.mk ?_ ?_<;>intro h0
 ·have h0:=aI h0;exact rtn hw fun ρe we re=>by show Value.int .i64 _=_;rw[eV,if_pos (by omega)]
 have h0:=aH h0;refine dM.mk ?_ ?_<;>intro h1
 ·have h1:=aI h1;exact rtn hw fun ρe we re=>by show Value.int .i64 _=_;rw[eV,if_pos (by omega)]
 have h1:=aH h1;refine dM.mk ?_ ?_<;>intro h2
 ·have h2:=aI h2;exact rtn hw fun ρe we re=>by show Value.int .i64 _=_;rw[eV,if_pos (by omega)]
 have h2:=aH h2
 refine⟨Nat×World×Iv,fun z=>⟨[(1,pP 0 0),(3,iN z.1)],[(0,.box T.Frame [.v (.slice an f.nodes.length cn),.v (.slice ab f.bars.length cb),.v (.slice aq f.cV.length cq)])],1,z.2.2,z.2.1⟩,fun z=>f.nodes.length-z.1,
  fun z=>z.1<=f.nodes.length∧dm w.heap.size w z.2.1∧ec eu [] f.nodes=ec eu (f.nodes.take z.1) (f.nodes.drop z.1),?_,?_⟩
 ·intro O w' r3;exact⟨(0,w',_),⟨aP _,hw.tr r3.cP,rfl⟩,Sub.gn [] r3⟩
 rintro⟨i,w1,iv⟩ ⟨hi,hw,hE⟩;dsimp only at hi hw hE ⊢;refine dM.mk ?_ ?_<;>intro OF
 ·have OF:i<f.nodes.length:=by simpa using OF
  obtain⟨b,hx⟩:∃b,f.nodes[i]? =some b:=⟨_,aB OF⟩
  have hLl:(f.nodes.take i).length=i:=by rw[aW];omega
  obtain⟨adb,cs,PY,hF,-,Oc⟩:=hf.nodes.load (by decide) hx;have hF:cs=[.int .i64 b.1,.int .i64 b.2.1,.int .i64 b.2.2]:=hF;subst hF;refine⟨adb,PY,by omega,[.int .i64 b.1,.int .i64 b.2.1,.int .i64 b.2.2],rfl,rdO Oc hw hS,?_⟩;refine cC (cE hw (fun _ w' v w2=>∃d,v= .bool d∧(d=true↔nI b.1)) (fun O w' r=>mB _ _ _ w') ?_);rintro O Pq v1 Pe OM r he hw h_ ⟨d0,rfl,OQ⟩
  cases d0
  ·have OQ:¬nI b.1:=fun h=>by have:=OQ.2 h;cases this
   exact rtn hw fun ρe we re=>by show Value.int .i64 _=_;rw[eV,aL (by omega),if_pos (by rw[hE,cT hx (show eu (f.nodes.take i) b=2 by rw[eu,aL (fun h=>OQ h.1)]) (by decide)];decide),hE,cT hx (show eu (f.nodes.take i) b=2 by rw[eu,aL (fun h=>OQ h.1)]) (by decide)]
  replace OQ:=OQ.1 rfl;refine cC (cE hw (fun _ w' v w2=>∃d,v= .bool d∧(d=true↔nI b.2.1)) (fun O w' r=>mB _ _ _ w') ?_);rintro O Pr v2 PB OJ r he hw h_ ⟨d1,rfl,OU⟩
  cases d1
  ·have OU:¬nI b.2.1:=fun h=>by have:=OU.2 h;cases this
   exact rtn hw fun ρe we re=>by show Value.int .i64 _=_;rw[eV,aL (by omega),if_pos (by rw[hE,cT hx (show eu (f.nodes.take i) b=2 by rw[eu,aL (fun h=>OU h.2.1)]) (by decide)];decide),hE,cT hx (show eu (f.nodes.take i) b=2 by rw[eu,aL (fun h=>OU h.2.1)]) (by decide)]
  replace OU:=OU.1 rfl;refine cC (cE hw (fun _ w' v w2=>∃d,v= .bool d∧(d=true↔nI b.2.2)) (fun O w' r=>mB _ _ _ w') ?_);rintro O PX v3 PU OP r he hw h_ ⟨d2,rfl,Ox⟩
  cases d2
  ·have Ox:¬nI b.2.2:=fun h=>by have:=Ox.2 h;cases this
   exact rtn hw fun ρe we re=>by show Value.int .i64 _=_;rw[eV,aL (by omega),if_pos (by rw[hE,cT hx (show eu (f.nodes.take i) b=2 by rw[eu,aL (fun h=>Ox h.2.2)]) (by decide)];decide),hE,cT hx (show eu (f.nodes.take i) b=2 by rw[eu,aL (fun h=>Ox h.2.2)]) (by decide)]
  replace Ox:=Ox.1 rfl
  refine⟨Nat×World,fun z=>⟨[(1,pP 0 0),(3,iN i),(4,pP 1 0),(5,iN z.1)],[(1,.box T.Node [.v (.int .i64 b.1),.v (.int .i64 b.2.1),.v (.int .i64 b.2.2)]),(0,.box T.Frame [.v (.slice an f.nodes.length cn),.v (.slice ab f.bars.length cb),.v (.slice aq f.cV.length cq)])],2,OP,z.2⟩,fun z=>i-z.1,
   fun z=>z.1<=i∧dm w.heap.size w z.2∧(b∈(f.nodes.take i).map id↔b∈((f.nodes.take i).drop z.1).map id),?_,?_⟩
  ·intro O w' r3;exact⟨(0,w'),⟨aP _,hw.tr r3.cP,Iff.rfl⟩,Sub.gn [] r3⟩
  rintro⟨k,w2⟩ ⟨hk,hw,hK⟩;dsimp only at hk hw hK ⊢;refine dM.mk ?_ ?_<;>intro OK
  ·have OK:k<i:=by have:=aI OK;omega
   obtain⟨c,hc⟩:∃c,f.nodes[k]? =some c:=⟨_,aB (by omega)⟩
   have S4:(f.nodes.take i)[k]? =some c:=by rw[bU OK];exact hc
   obtain⟨adc,cs2,WE,Rc,-,SY⟩:=hf.nodes.load (by decide) hc;have Rc:cs2=[.int .i64 c.1,.int .i64 c.2.1,.int .i64 c.2.2]:=Rc;subst Rc;refine cK hτ dZ [.x 0,.x 1,.x 2,.x 3,.x 4,.x 5,.x 6] (by kernel_rfl) (by kernel_rfl) ?_;refine⟨adc,WE,by omega,[.int .i64 c.1,.int .i64 c.2.1,.int .i64 c.2.2],rfl,rdO SY hw hS,decide (c=b),fun O w o1 o2=>FX c b w o1 o2,?_⟩;refine dM.mk ?_ ?_<;>intro hd
   ·have hd:c=b:=aI hd;have Qz:b∈f.nodes.take i:=by have:=uX (K:=id) S4 hd;rwa [List.map_id]at this
    exact rtn hw fun ρe we re=>by show Value.int .i64 _=_;rw[eV,aL (by omega),if_pos (by rw[hE,cT hx (show eu (f.nodes.take i) b=12 by rw[eu,if_pos ⟨OQ,OU,Ox⟩,if_pos Qz]) (by decide)];decide),hE,cT hx (show eu (f.nodes.take i) b=12 by rw[eu,if_pos ⟨OQ,OU,Ox⟩,if_pos Qz]) (by decide)]
   have hd:c≠b:=aH hd;have Qw:=mA (K:=id) S4 hd hK;refine⟨((k+1:Nat):Int),wo,?_⟩;intro ρ3 w6 r3;exact⟨(k+1,w6),⟨OK,hw.tr r3.cP,Qw⟩,Sub.gn [] r3,by dsimp only;omega⟩
  have OK:k=i:=by have:=aH OK;omega
  have QH:=Df (by rw[hLl];omega) hK;rw[List.map_id]at QH;rw[gW hx (sk.2 ⟨⟨OQ,OU,Ox⟩,QH⟩)]at hE;refine⟨((i+1:Nat):Int),wo,?_⟩;intro ρ3 w6 r3;exact⟨(i+1,w6,_),⟨OF,hw.tr r3.cP,hE⟩,Sub.gn [] r3,by dsimp only;omega⟩
 have OF:i=f.nodes.length:=aQ hi (by simpa using OF);rw[iu (by omega)]at hE
 refine⟨Nat×World×Iv,fun z=>⟨[(1,pP 0 0),(6,iN z.1)],[(0,.box T.Frame [.v (.slice an f.nodes.length cn),.v (.slice ab f.bars.length cb),.v (.slice aq f.cV.length cq)])],1,z.2.2,z.2.1⟩,fun z=>f.bars.length-z.1,
  fun z=>z.1<=f.bars.length∧dm w.heap.size w z.2.1∧ec (fH f.nodes.length) [] f.bars=ec (fH f.nodes.length) (f.bars.take z.1) (f.bars.drop z.1),?_,?_⟩
 ·intro O w' r3;exact⟨(0,w',_),⟨aP _,hw.tr r3.cP,rfl⟩,Sub.gn [] r3⟩
 rintro⟨i,w1,iv⟩ ⟨hi,hw,OZ⟩;dsimp only at hi hw OZ ⊢;refine dM.mk ?_ ?_<;>intro OF
 ·have OF:i<f.bars.length:=by simpa using OF
  obtain⟨b,hx⟩:∃b,f.bars[i]? =some b:=⟨_,aB OF⟩
  have hLl:(f.bars.take i).length=i:=by rw[aW];omega
  obtain⟨adb,cs,PY,hF,-,Oc⟩:=hf.bars.load (by decide) hx;obtain⟨g0,g1,g2,g3,g4,g5,g6,g7,rfl,hF⟩:=hF;refine⟨adb,PY,by omega,[.int .i64 b.1,.int .i64 b.2.1,.bool g0,.slice g1 g2 g3,.bool g4,.slice g5 g6 g7],rfl,rdO Oc hw hS,?_⟩;refine cC (cE hw (fun _ w' v w2=>∃d,v= .bool d∧(d=true↔jL f.nodes.length b.1)) (fun O w' r=>qw _ _ _ _ _ _ _ _ _ _ w') ?_);rintro O Pq v1 Pe OM r he hw h_ ⟨d0,rfl,OQ⟩
  cases d0
  ·have OQ:¬jL f.nodes.length b.1:=fun h=>by have:=OQ.2 h;cases this
   exact rtn hw fun ρe we re=>by show Value.int .i64 _=_;rw[eV,aL (by omega),aL (by rw[hE];decide),if_pos (by rw[OZ,cT hx (show fH f.nodes.length (f.bars.take i) b=6 by rw[fH,aL (fun h=>OQ h.1)]) (by decide)];decide),OZ,cT hx (show fH f.nodes.length (f.bars.take i) b=6 by rw[fH,aL (fun h=>OQ h.1)]) (by decide)]
  replace OQ:=OQ.1 rfl;refine cC (cE hw (fun _ w' v w2=>∃d,v= .bool d∧(d=true↔jL f.nodes.length b.2.1)) (fun O w' r=>qw _ _ _ _ _ _ _ _ _ _ w') ?_);rintro O Pr v2 PB OJ r he hw h_ ⟨d1,rfl,OU⟩
  cases d1
  ·have OU:¬jL f.nodes.length b.2.1:=fun h=>by have:=OU.2 h;cases this
   exact rtn hw fun ρe we re=>by show Value.int .i64 _=_;rw[eV,aL (by omega),aL (by rw[hE];decide),if_pos (by rw[OZ,cT hx (show fH f.nodes.length (f.bars.take i) b=6 by rw[fH,aL (fun h=>OU h.2)]) (by decide)];decide),OZ,cT hx (show fH f.nodes.length (f.bars.take i) b=6 by rw[fH,aL (fun h=>OU h.2)]) (by decide)]
  replace OU:=OU.1 rfl;refine dM.mk ?_ ?_<;>intro PL
  ·have PL:b.1=b.2.1:=by simpa using PL
   exact rtn hw fun ρe we re=>by show Value.int .i64 _=_;rw[eV,aL (by omega),aL (by rw[hE];decide),if_pos (by rw[OZ,cT hx (show fH f.nodes.length (f.bars.take i) b=3 by rw[fH,if_pos ⟨OQ,OU⟩,if_pos PL]) (by decide)];decide),OZ,cT hx (show fH f.nodes.length (f.bars.take i) b=3 by rw[fH,if_pos ⟨OQ,OU⟩,if_pos PL]) (by decide)]
  have PL:b.1≠b.2.1:=by simpa using PL
  refine⟨Nat×World,fun z=>⟨[(1,pP 0 0),(6,iN i),(7,pP 1 0),(8,iN z.1)],[(1,.box T.Bar [.v (.int .i64 b.1),.v (.int .i64 b.2.1),.v (.bool g0),.v (.slice g1 g2 g3),.v (.bool g4),.v (.slice g5 g6 g7)]),(0,.box T.Frame [.v (.slice an f.nodes.length cn),.v (.slice ab f.bars.length cb),.v (.slice aq f.cV.length cq)])],2,OJ,z.2⟩,fun z=>i-z.1,
   fun z=>z.1<=i∧dm w.heap.size w z.2∧(gN b∈(f.bars.take i).map gN↔gN b∈((f.bars.take i).drop z.1).map gN),?_,?_⟩
  ·intro O w' r3;exact⟨(0,w'),⟨aP _,hw.tr r3.cP,Iff.rfl⟩,Sub.gn [] r3⟩
  rintro⟨k,w2⟩ ⟨hk,hw,hK⟩;dsimp only at hk hw hK ⊢;refine dM.mk ?_ ?_<;>intro OK
  ·have OK:k<i:=by have:=aI OK;omega
   obtain⟨c,hc⟩:∃c,f.bars[k]? =some c:=⟨_,aB (by omega)⟩
   have S4:(f.bars.take i)[k]? =some c:=by rw[bU OK];exact hc
   obtain⟨adc,cs2,WE,Rc,-,SY⟩:=hf.bars.load (by decide) hc;obtain⟨q0,q1,q2,q3,q4,q5,q6,q7,rfl,-⟩:=Rc;refine⟨adc,WE,by omega,[.int .i64 c.1,.int .i64 c.2.1,.bool q0,.slice q1 q2 q3,.bool q4,.slice q5 q6 q7],rfl,rdO SY hw hS,?_⟩;refine dM.mk ?_ ?_<;>intro e1
   ·have e1:(c.1=b.1):=by simpa using e1
    refine dM.mk ?_ ?_<;>intro e2
    ·have e2:(c.2.1=b.2.1):=by simpa using e2
     have Qz:=uX (K:=gN) S4 (show gN c=gN b by rw[oe];omega);exact rtn hw fun ρe we re=>by show Value.int .i64 _=_;rw[eV,aL (by omega),aL (by rw[hE];decide),if_pos (by rw[OZ,cT hx (show fH f.nodes.length (f.bars.take i) b=5 by rw[fH,if_pos ⟨OQ,OU⟩,aL PL,if_pos Qz]) (by decide)];decide),OZ,cT hx (show fH f.nodes.length (f.bars.take i) b=5 by rw[fH,if_pos ⟨OQ,OU⟩,aL PL,if_pos Qz]) (by decide)]
    ·have e2:¬(c.2.1=b.2.1):=by simpa using e2
     refine dM.mk ?_ ?_<;>intro e3
     ·have e3:(c.1=b.2.1):=by simpa using e3
      refine dM.mk ?_ ?_<;>intro e4
      ·have e4:(c.2.1=b.1):=by simpa using e4
       have Qz:=uX (K:=gN) S4 (show gN c=gN b by rw[oe];omega);exact rtn hw fun ρe we re=>by show Value.int .i64 _=_;rw[eV,aL (by omega),aL (by rw[hE];decide),if_pos (by rw[OZ,cT hx (show fH f.nodes.length (f.bars.take i) b=5 by rw[fH,if_pos ⟨OQ,OU⟩,aL PL,if_pos Qz]) (by decide)];decide),OZ,cT hx (show fH f.nodes.length (f.bars.take i) b=5 by rw[fH,if_pos ⟨OQ,OU⟩,aL PL,if_pos Qz]) (by decide)]
      ·have e4:¬(c.2.1=b.1):=by simpa using e4
       have Qw:=mA (K:=gN) S4 (show gN c≠gN b by rw[Ne,oe];omega) hK;refine⟨((k+1:Nat):Int),wo,?_⟩;intro ρ3 w6 r3;exact⟨(k+1,w6),⟨OK,hw.tr r3.cP,Qw⟩,Sub.gn [] r3,by dsimp only;omega⟩
     ·have e3:¬(c.1=b.2.1):=by simpa using e3
      have Qw:=mA (K:=gN) S4 (show gN c≠gN b by rw[Ne,oe];omega) hK;refine⟨((k+1:Nat):Int),wo,?_⟩;intro ρ3 w6 r3;exact⟨(k+1,w6),⟨OK,hw.tr r3.cP,Qw⟩,Sub.gn [] r3,by dsimp only;omega⟩
   ·have e1:¬(c.1=b.1):=by simpa using e1
    refine dM.mk ?_ ?_<;>intro e3
    ·have e3:(c.1=b.2.1):=by simpa using e3
     refine dM.mk ?_ ?_<;>intro e4
     ·have e4:(c.2.1=b.1):=by simpa using e4
      have Qz:=uX (K:=gN) S4 (show gN c=gN b by rw[oe];omega);exact rtn hw fun ρe we re=>by show Value.int .i64 _=_;rw[eV,aL (by omega),aL (by rw[hE];decide),if_pos (by rw[OZ,cT hx (show fH f.nodes.length (f.bars.take i) b=5 by rw[fH,if_pos ⟨OQ,OU⟩,aL PL,if_pos Qz]) (by decide)];decide),OZ,cT hx (show fH f.nodes.length (f.bars.take i) b=5 by rw[fH,if_pos ⟨OQ,OU⟩,aL PL,if_pos Qz]) (by decide)]
     ·have e4:¬(c.2.1=b.1):=by simpa using e4
      have Qw:=mA (K:=gN) S4 (show gN c≠gN b by rw[Ne,oe];omega) hK;refine⟨((k+1:Nat):Int),wo,?_⟩;intro ρ3 w6 r3;exact⟨(k+1,w6),⟨OK,hw.tr r3.cP,Qw⟩,Sub.gn [] r3,by dsimp only;omega⟩
    ·have e3:¬(c.1=b.2.1):=by simpa using e3
     have Qw:=mA (K:=gN) S4 (show gN c≠gN b by rw[Ne,oe];omega) hK;refine⟨((k+1:Nat):Int),wo,?_⟩;intro ρ3 w6 r3;exact⟨(k+1,w6),⟨OK,hw.tr r3.cP,Qw⟩,Sub.gn [] r3,by dsimp only;omega⟩
  have OK:k=i:=by have:=aH OK;omega
  have QH:=Df (by rw[hLl];omega) hK;refine cC (cE hw (fun _ w' v w2=>v= .int .i64 (rs b.2.2)) (fun O w' r=>(AZ (oS hS r) (hF.cH (kS hw r hS)))) ?_);rintro O PX v3 PU OP r he hw h_ rfl;obtain⟨cf,hcf⟩:∃c,rs b.2.2=c:=⟨_,rfl⟩
  rw[hcf];refine dM.mk ?_ ?_<;>intro PD
  ·have PD:b.2.2<=0:=by have:=aI PD;rw[<-Rat.not_lt,<-oc];omega
   exact rtn hw fun ρe we re=>by show Value.int .i64 _=_;rw[eV,aL (by omega),aL (by rw[hE];decide),if_pos (by rw[OZ,cT hx (show fH f.nodes.length (f.bars.take i) b=2 by rw[fH,if_pos ⟨OQ,OU⟩,aL PL,aL QH,if_pos PD]) (by decide)];decide),OZ,cT hx (show fH f.nodes.length (f.bars.take i) b=2 by rw[fH,if_pos ⟨OQ,OU⟩,aL PL,aL QH,if_pos PD]) (by decide)]
  have PD:0<b.2.2:=by have:=aH PD;rw[<-oc];omega
  rw[gW hx (nR.2 ⟨⟨OQ,OU⟩,PL,QH,PD⟩)]at OZ;refine⟨((i+1:Nat):Int),wo,?_⟩;intro ρ3 w6 r3;exact⟨(i+1,w6,_),⟨OF,hw.tr r3.cP,OZ⟩,Sub.gn [] r3,by dsimp only;omega⟩
 have OF:i=f.bars.length:=aQ hi (by simpa using OF);rw[iu (by omega)]at OZ
 refine⟨Nat×World×Iv,fun z=>⟨[(1,pP 0 0),(10,iN z.1)],[(0,.box T.Frame [.v (.slice an f.nodes.length cn),.v (.slice ab f.bars.length cb),.v (.slice aq f.cV.length cq)])],1,z.2.2,z.2.1⟩,fun z=>f.cV.length-z.1,
  fun z=>z.1<=f.cV.length∧dm w.heap.size w z.2.1∧ec (k6 f.nodes.length) [] f.cV=ec (k6 f.nodes.length) (f.cV.take z.1) (f.cV.drop z.1),?_,?_⟩
 ·intro O w' r3;exact⟨(0,w',_),⟨aP _,hw.tr r3.cP,rfl⟩,Sub.gn [] r3⟩
 rintro⟨i,w1,iv⟩ ⟨hi,hw,Uc⟩;dsimp only at hi hw Uc ⊢;refine dM.mk ?_ ?_<;>intro OF
 ·have OF:i<f.cV.length:=by simpa using OF
  obtain⟨b,hx⟩:∃b,f.cV[i]? =some b:=⟨_,aB OF⟩
  have hLl:(f.cV.take i).length=i:=by rw[aW];omega
  obtain⟨adb,cs,PY,hF,-,Oc⟩:=hf.cV.load (by decide) hx;obtain⟨g0,g1,g2,g3,g4,g5,g6,g7,rfl,hF⟩:=hF;refine⟨adb,PY,by omega,[.int .i64 b.1,.int .i64 b.2.1,.bool g0,.slice g1 g2 g3,.bool g4,.slice g5 g6 g7],rfl,rdO Oc hw hS,?_⟩;refine cC (cE hw (fun _ w' v w2=>∃d,v= .bool d∧(d=true↔jL f.nodes.length b.1)) (fun O w' r=>qw _ _ _ _ _ _ _ _ _ _ w') ?_);rintro O _ _ _ OM r he hw h_ ⟨d0,rfl,OQ⟩
  cases d0
  ·have OQ:¬jL f.nodes.length b.1:=fun h=>by have:=OQ.2 h;cases this
   exact rtn hw fun ρe we re=>by show Value.int .i64 _=_;rw[eV,aL (by omega),aL (by rw[hE];decide),aL (by rw[OZ];decide),Uc,cT hx (show k6 f.nodes.length (f.cV.take i) b=6 by rw[k6,aL OQ]) (by decide)]
  replace OQ:=OQ.1 rfl;refine cC (cE hw (fun _ w' v w2=>∃d,v= .bool d∧(d=true↔0<=b.2.1∧b.2.1<=2)) (fun O w' r=>mB _ _ _ w') ?_);rintro O _ _ _ OJ r he hw h_ ⟨d1,rfl,PS⟩
  cases d1
  ·have PS:¬(0<=b.2.1∧b.2.1<=2):=fun h=>by have:=PS.2 h;cases this
   exact rtn hw fun ρe we re=>by show Value.int .i64 _=_;rw[eV,aL (by omega),aL (by rw[hE];decide),aL (by rw[OZ];decide),Uc,cT hx (show k6 f.nodes.length (f.cV.take i) b=2 by rw[k6,if_pos OQ,aL PS]) (by decide)]
  replace PS:=PS.1 rfl
  refine⟨Nat×World,fun z=>⟨[(1,pP 0 0),(10,iN i),(11,pP 1 0),(12,iN z.1)],[(1,.box T.yM [.v (.int .i64 b.1),.v (.int .i64 b.2.1),.v (.bool g0),.v (.slice g1 g2 g3),.v (.bool g4),.v (.slice g5 g6 g7)]),(0,.box T.Frame [.v (.slice an f.nodes.length cn),.v (.slice ab f.bars.length cb),.v (.slice aq f.cV.length cq)])],2,OJ,z.2⟩,fun z=>i-z.1,
   fun z=>z.1<=i∧dm w.heap.size w z.2∧(ie b∈(f.cV.take i).map ie↔ie b∈((f.cV.take i).drop z.1).map ie),?_,?_⟩
  ·intro O w' r3;exact⟨(0,w'),⟨aP _,hw.tr r3.cP,Iff.rfl⟩,Sub.gn [] r3⟩
  rintro⟨k,w2⟩ ⟨hk,hw,hK⟩;dsimp only at hk hw hK ⊢;refine dM.mk ?_ ?_<;>intro OK
  ·have OK:k<i:=by have:=aI OK;omega
   obtain⟨c,hc⟩:∃c,f.cV[k]? =some c:=⟨_,aB (by omega)⟩
   have S4:(f.cV.take i)[k]? =some c:=by rw[bU OK];exact hc
   obtain⟨adc,cs2,WE,Rc,-,SY⟩:=hf.cV.load (by decide) hc;obtain⟨q0,q1,q2,q3,q4,q5,q6,q7,rfl,-⟩:=Rc;refine cK hτ dZ [.x 0,.x 1,.x 2,.x 3,.x 4,.x 5,.x 6,.x 7,.x 8,.x 9,.x 10,.x 11,.x 12,.x 13,.x 14,.x 15,.x 16,.x 17,.x 18,.x 19] (by kernel_rfl) (by kernel_rfl) ?_;refine⟨adc,WE,by omega,.int .i64 c.1,fun O w' r=>?_,?_⟩
   ·obtain⟨k1,k2⟩:=SY 0 _ rfl;rw[cG (w:=w) (w2:=w') (by simp only[dE];exact(hw.tr r.cP).block _ (hS _ k1))];simp only[aE,kE]at k2 ⊢;exact k2
   refine dM.mk ?_ ?_<;>intro e1
   ·have e1:(c.1=b.1):=by simpa using e1
    refine⟨adc,WE,by omega,.int .i64 c.2.1,fun O w' r=>?_,?_⟩
    ·obtain⟨k1,k2⟩:=SY 1 _ rfl;rw[cG (w:=w) (w2:=w') (by simp only[dE];exact(hw.tr r.cP).block _ (hS _ k1))];simp only[aE,kE]at k2 ⊢;exact k2
    refine dM.mk ?_ ?_<;>intro e2
    ·have e2:(c.2.1=b.2.1):=by simpa using e2
     have Qz:=uX (K:=ie) S4 (show ie c=ie b by rw[De];omega);exact rtn hw fun ρe we re=>by show Value.int .i64 _=_;rw[eV,aL (by omega),aL (by rw[hE];decide),aL (by rw[OZ];decide),Uc,cT hx (show k6 f.nodes.length (f.cV.take i) b=5 by rw[k6,if_pos OQ,if_pos PS,if_pos Qz]) (by decide)]
    ·have e2:¬(c.2.1=b.2.1):=by simpa using e2
     have Qw:=mA (K:=ie) S4 (show ie c≠ie b by rw[Ne,De];omega) hK;refine⟨((k+1:Nat):Int),wo,?_⟩;intro ρ3 w6 r3;exact⟨(k+1,w6),⟨OK,hw.tr r3.cP,Qw⟩,Sub.gn [] r3,by dsimp only;omega⟩
   ·have e1:¬(c.1=b.1):=by simpa using e1
    have Qw:=mA (K:=ie) S4 (show ie c≠ie b by rw[Ne,De];omega) hK;refine⟨((k+1:Nat):Int),wo,?_⟩;intro ρ3 w6 r3;exact⟨(k+1,w6),⟨OK,hw.tr r3.cP,Qw⟩,Sub.gn [] r3,by dsimp only;omega⟩
  have OK:k=i:=by have:=aH OK;omega
  have QH:=Df (by rw[hLl];omega) hK;refine cC (cE hw (fun _ w' v w2=>v= .int .i64 (rs b.2.2)) (fun O w' r=>(AZ (oS hS r) (hF.cH (kS hw r hS)))) ?_);rintro O _ _ _ OP r he hw h_ rfl;obtain⟨cf,hcf⟩:∃c,rs b.2.2=c:=⟨_,rfl⟩
  rw[hcf];refine dM.mk ?_ ?_<;>intro PD
  ·have PD:b.2.2<0:=by have:=aI PD;rw[<-lu];omega
   exact rtn hw fun ρe we re=>by show Value.int .i64 _=_;rw[eV,aL (by omega),aL (by rw[hE];decide),aL (by rw[OZ];decide),Uc,cT hx (show k6 f.nodes.length (f.cV.take i) b=2 by rw[k6,if_pos OQ,if_pos PS,aL QH,if_pos PD]) (by decide)]
  have PD:0<=b.2.2:=by have:=aH PD;rw[<-Rat.not_lt,<-lu];omega
  rw[gW hx (qp.2 ⟨OQ,PS,QH,PD⟩)]at Uc;refine⟨((i+1:Nat):Int),wo,?_⟩;intro ρ3 w6 r3;exact⟨(i+1,w6,_),⟨OF,hw.tr r3.cP,Uc⟩,Sub.gn [] r3,by dsimp only;omega⟩
 have OF:i=f.cV.length:=aQ hi (by simpa using OF);rw[iu (by omega)]at Uc;exact rtn hw fun ρe we re=>by show Value.int .i64 _=_;rw[eV,aL (by omega),aL (by rw[hE];decide),aL (by rw[OZ];decide),Uc]
def rq(p:Int×Int):Rat:=ratio p.1 p.2
structure HN where
 nodes:List (Int×Int×Int)
 bars:List (Int×Int×(Int×Int))
 cV:List (Int×Int×(Int×Int))
def HO(p:Int×Int×(Int×Int)):Int×Int×Rat:=(p.1,p.2.1,rq p.2.2)
def HN.val(f:HN):eh:=⟨f.nodes,f.bars.map HO,f.cV.map HO⟩
def uY(w:World)(S:Nat->Prop)(cs:List Value)(p:Int×Int×(Int×Int)):Prop:=∃b a n c b2 a2 n2 c2,cs=[.int .i64 p.1,.int .i64 p.2.1,.bool b,.slice a n c,.bool b2,.slice a2 n2 c2]∧iO w S (.agg #[.bool b,.slice a n c,.bool b2,.slice a2 n2 c2]) p.2.2.1 p.2.2.2
structure qV(w:World)(S:Nat->Prop)(vn vb vs:Value)(f:HN):Prop where
 nodes:nD w S vn f.nodes
 bars:eX 6 uY w S vb f.bars
 cV:eX 6 uY w S vs f.cV
theorem uY.cH{w2:World}(h:uY w S cs p)(hk:∀g,S g->w2.heap[g]? =w.heap[g]?):uY w2 S cs p:=by
 obtain⟨b,a,n,c,b2,a2,n2,c2,h1,h2⟩:=h;exact⟨b,a,n,c,b2,a2,n2,c2,h1,h2.cH hk⟩
theorem qV.cH{w2:World}{f:HN}(h:qV w S vn vb vs f)(hk:∀g,S g->w2.heap[g]? =w.heap[g]?):qV w2 S vn vb vs f:=
 ⟨eX.cH (w:=w) (fun _ _ h=>h) h.nodes hk,eX.cH (fun _ _ h=>h.cH hk) h.bars hk,eX.cH (fun _ _ h=>h.cH hk) h.cV hk⟩
theorem uY.few(h:uY w S cs p)(hf:xx (cs.drop 2)):D4 w S cs (HO p)∧rl (HO p).2.2<=3:=by
 obtain⟨b,a,n,c,b2,a2,n2,c2,rfl,h2⟩:=h;obtain⟨h3,h4⟩:=h2.l3 hf;exact⟨⟨b,a,n,c,b2,a2,n2,c2,rfl,h3⟩,h4⟩
theorem eX.cells{α:Type}{k:Nat}{P:World->(Nat->Prop)->List Value->α->Prop}{xs:List α}(h:eX k P w S v xs):
  ∃css:List (List Value),css.length=xs.length∧eX k (fun w S cs (y:List Value×α)=>cs=y.1∧P w S cs y.2) w S v (css.zip xs)∧(∀(j:Nat) cs x,css[j]? =some cs->xs[j]? =some x->P w S cs x)∧
   ∀{β:Type} (Q:World->(Nat->Prop)->List Value->β->Prop) (ys:List β),ys.length=xs.length->(∀(j:Nat) cs y,css[j]? =some cs->ys[j]? =some y->Q w S cs y)->eX k Q w S v ys:=by
 obtain⟨css,h1,h2,h3,h4⟩:=h;have hz:(css.zip xs).length=xs.length:=by rw[List.length_zip,h2,Nat.min_self]
 refine⟨css,h2,⟨css,by rw[hz];exact h1,by rw[hz,h2],h3,fun j cs y k1 k2=>?_⟩,h4,fun Q ys hl hQ=>⟨css,by rw[hl];exact h1,by rw[hl,h2],h3,hQ⟩⟩;rw[List.getElem?_zip_eq_some]at k2;rw[k1]at k2;exact⟨by injection k2.1,h4 j cs _ k1 k2.2⟩
theorem NB.of{xs:List (Int×Int×(Int×Int))}(h4:∀(j:Nat) cs x,css[j]? =some cs->xs[j]? =some x->uY w S cs x)
  (hQ:∀{β:Type} (Q:World->(Nat->Prop)->List Value->β->Prop) (ys:List β),ys.length=xs.length->(∀(j:Nat) cs y,css[j]? =some cs->ys[j]? =some y->Q w S cs y)->eX 6 Q w S v ys)
  (hl:css.length=xs.length) (hf:∀j cs,j<xs.length->css[j]? =some cs->xx (cs.drop 2)):Kz w S v (xs.map HO)∧∀b∈xs.map HO,rl b.2.2<=3:=by
 refine⟨hQ D4 _ (aJ ..) fun j cs y k1 k2=>?_,fun b hb=>?_⟩
 ·rw[aM]at k2;obtain⟨p,hp,rfl⟩:=Option.map_eq_some_iff.1 k2;exact((h4 j cs p k1 hp).few (hf j cs (aD.1 hp).1 k1)).1
 ·obtain⟨p,hp,rfl⟩:=aU.1 hb;obtain⟨j,hj⟩:=aS hp;have Sf:=(aD.1 hj).1;have hc:css[j]? =some css[j]:=aB (by omega);exact((h4 j _ p hc hj).few (hf j _ Sf hc)).2
set_option maxHeartbeats 1000000 in
theorem LL{f:HN}(hS:Old S w)(hf:qV w S vn vb vs f):di PG N.ph #[.agg #[vn,vb,vs]] w (dw w fun v' _=>∃d,v'= .bool d∧
  (d=true->dS w S vn vb vs f.val∧(∀b∈f.val.bars,rl b.2.2<=3)∧(∀b∈f.val.cV,rl b.2.2<=3)∧(eV f.val≠0∨f.val.nodes.length<=4∧f.val.bars.length<=6))):=by
 have hw:=bR w;obtain⟨an,cn,rfl,hcn,Q6⟩:=hf.nodes.shape;obtain⟨bcs,Pg,hbz,RV,hbQ⟩:=hf.bars.cells;obtain⟨qcs,UQ,hqz,hq4,hqQ⟩:=hf.cV.cells;obtain⟨ab,cb,rfl,Pv,Qm⟩:=hf.bars.shape;obtain⟨aq,cq,rfl,hcq,RH⟩:=hf.cV.shape;refine zq (by simp) ?_;refine dM.mk ?_ ?_<;>intro h0
 ·exact rtn hw fun ρe we re=>⟨_,rfl,fun h=>by cases h⟩
 have h0:=aH h0;refine dM.mk ?_ ?_<;>intro h1
 ·exact rtn hw fun ρe we re=>⟨_,rfl,fun h=>by cases h⟩
 have h1:=aH h1;refine dM.mk ?_ ?_<;>intro h2
 ·exact rtn hw fun ρe we re=>⟨_,rfl,fun h=>by cases h⟩
 have h2:=aH h2
 refine⟨Nat×World×Iv,fun z=>⟨[(1,pP 0 0),(3,iN z.1)],[(0,.box T.Frame [.v (.slice an f.nodes.length cn),.v (.slice ab f.bars.length cb),.v (.slice aq f.cV.length cq)])],1,z.2.2,z.2.1⟩,fun z=>f.bars.length-z.1,
  fun z=>z.1<=f.bars.length∧dm w.heap.size w z.2.1∧∀(j:Nat) (cs:List Value),j<z.1->bcs[j]? =some cs->xx (cs.drop 2),?_,?_⟩
 ·intro O w' r3;exact⟨(0,w',_),⟨aP _,hw.tr r3.cP,fun j cs hj=>absurd hj (Nat.not_lt_zero j)⟩,Sub.gn [] r3⟩
 rintro⟨i,w1,iv⟩ ⟨hi,hw,hB⟩;dsimp only at hi hw hB ⊢;refine dM.mk ?_ ?_<;>intro OF
 ·have OF:i<f.bars.length:=by simpa using OF
  obtain⟨cs,Ov⟩:∃cs,bcs[i]? =some cs:=⟨_,aB (by omega)⟩
  obtain⟨p,hp⟩:∃p,f.bars[i]? =some p:=⟨_,aB OF⟩
  obtain⟨g0,g1,g2,g3,g4,g5,g6,g7,rfl,-⟩:=RV i cs p Ov hp;obtain⟨adx,cs2,PS,⟨Ub,-⟩,-,QG⟩:=hbz.load (by decide) (show (bcs.zip f.bars)[i]? =some (_,p) by rw[List.getElem?_zip_eq_some];exact⟨Ov,hp⟩);have Ub:cs2=[.int .i64 p.1,.int .i64 p.2.1,.bool g0,.slice g1 g2 g3,.bool g4,.slice g5 g6 g7]:=Ub;subst Ub;refine⟨adx,PS,by omega,[.bool g0,.slice g1 g2 g3,.bool g4,.slice g5 g6 g7],rfl,fun O w' r j u hu=>?_,?_⟩
  ·have Ud:=(aD.1 hu).1;obtain⟨k1,k2⟩:=QG (2+j) u (by rcases j with _|_|_|_|j<;>first|exact hu|(have:j+4<4:=Ud;omega));rw[cG (w:=w) (w2:=w') (by simp only[dE];exact(hw.tr r.cP).block _ (hS _ k1))];simp only[aE,kE]at k2 ⊢
   first|exact k2|(rw [<-k2];congr 2;omega)
  refine cC (cE hw (fun _ w' v w2=>∃d,v= .bool d∧(d=true->xx [.bool g0,.slice g1 g2 g3,.bool g4,.slice g5 g6 g7])) (fun O w' r=>(Dd (S:=fun g=>g=(O 1).g) (css:=[[.bool g0,.slice g1 g2 g3,.bool g4,.slice g5 g6 g7]]) (fun g hg=>by subst hg;exact Rel.lt r (id:=1) rfl) (r.qU (id:=1) (sz:=4) (n:=1) rfl rfl (by decide) (by repeat' first|refine List.forall_mem_cons.2 ⟨rfl,?_⟩|exact fun u hu=>absurd hu List.not_mem_nil)) (fun cs hc=>by rw[bB.1 hc];exact⟨_,_,_,_,_,_,_,_,rfl⟩)).mono fun _ _ ⟨v2,e1,e2,d,e3,e4⟩=>⟨v2,e1,e2,d,e3,fun h=>(e4 h).2 _ aG⟩) ?_);rintro O Pq v1 Pe OM r he hw h_ ⟨d2,rfl,Ox⟩
  cases d2
  ·exact rtn hw fun ρe we re=>⟨_,rfl,fun h=>by cases h⟩
  have OZ:∀j cs,j<i+1->bcs[j]? =some cs->xx (cs.drop 2):=fun j cs hj hc=>by
   rcases aO j i with h|h
   ·exact hB j cs h hc
   ·have:j=i:=by omega
    subst this;rw[Ov]at hc;injection hc with hc;subst hc;exact Ox rfl
  refine⟨((i+1:Nat):Int),wo,?_⟩;intro ρ3 w6 r3;exact⟨(i+1,w6,_),⟨OF,hw.tr r3.cP,OZ⟩,Sub.gn [] r3,by dsimp only;omega⟩
 have OF:i=f.bars.length:=aQ hi (by simpa using OF);subst OF
 refine⟨Nat×World×Iv,fun z=>⟨[(1,pP 0 0),(4,iN z.1)],[(0,.box T.Frame [.v (.slice an f.nodes.length cn),.v (.slice ab f.bars.length cb),.v (.slice aq f.cV.length cq)])],1,z.2.2,z.2.1⟩,fun z=>f.cV.length-z.1,
  fun z=>z.1<=f.cV.length∧dm w.heap.size w z.2.1∧∀(j:Nat) (cs:List Value),j<z.1->qcs[j]? =some cs->xx (cs.drop 2),?_,?_⟩
 ·intro O w' r3;exact⟨(0,w',_),⟨aP _,hw.tr r3.cP,fun j cs hj=>absurd hj (Nat.not_lt_zero j)⟩,Sub.gn [] r3⟩
 rintro⟨i,w1,iv⟩ ⟨hi,hw,hQ⟩;dsimp only at hi hw hQ ⊢;refine dM.mk ?_ ?_<;>intro OF
 ·have OF:i<f.cV.length:=by simpa using OF
  obtain⟨cs,Ov⟩:∃cs,qcs[i]? =some cs:=⟨_,aB (by omega)⟩
  obtain⟨p,hp⟩:∃p,f.cV[i]? =some p:=⟨_,aB OF⟩
  obtain⟨g0,g1,g2,g3,g4,g5,g6,g7,rfl,-⟩:=hq4 i cs p Ov hp;obtain⟨adx,cs2,PS,⟨Ub,-⟩,-,QG⟩:=hqz.load (by decide) (show (qcs.zip f.cV)[i]? =some (_,p) by rw[List.getElem?_zip_eq_some];exact⟨Ov,hp⟩);have Ub:cs2=[.int .i64 p.1,.int .i64 p.2.1,.bool g0,.slice g1 g2 g3,.bool g4,.slice g5 g6 g7]:=Ub;subst Ub;refine⟨adx,PS,by omega,[.bool g0,.slice g1 g2 g3,.bool g4,.slice g5 g6 g7],rfl,fun O w' r j u hu=>?_,?_⟩
  ·have Ud:=(aD.1 hu).1;obtain⟨k1,k2⟩:=QG (2+j) u (by rcases j with _|_|_|_|j<;>first|exact hu|(have:j+4<4:=Ud;omega));rw[cG (w:=w) (w2:=w') (by simp only[dE];exact(hw.tr r.cP).block _ (hS _ k1))];simp only[aE,kE]at k2 ⊢
   first|exact k2|(rw [<-k2];congr 2;omega)
  refine cC (cE hw (fun _ w' v w2=>∃d,v= .bool d∧(d=true->xx [.bool g0,.slice g1 g2 g3,.bool g4,.slice g5 g6 g7])) (fun O w' r=>(Dd (S:=fun g=>g=(O 1).g) (css:=[[.bool g0,.slice g1 g2 g3,.bool g4,.slice g5 g6 g7]]) (fun g hg=>by subst hg;exact Rel.lt r (id:=1) rfl) (r.qU (id:=1) (sz:=4) (n:=1) rfl rfl (by decide) (by repeat' first|refine List.forall_mem_cons.2 ⟨rfl,?_⟩|exact fun u hu=>absurd hu List.not_mem_nil)) (fun cs hc=>by rw[bB.1 hc];exact⟨_,_,_,_,_,_,_,_,rfl⟩)).mono fun _ _ ⟨v2,e1,e2,d,e3,e4⟩=>⟨v2,e1,e2,d,e3,fun h=>(e4 h).2 _ aG⟩) ?_);rintro O Pq v1 Pe OM r he hw h_ ⟨d2,rfl,Ox⟩
  cases d2
  ·exact rtn hw fun ρe we re=>⟨_,rfl,fun h=>by cases h⟩
  have OZ:∀j cs,j<i+1->qcs[j]? =some cs->xx (cs.drop 2):=fun j cs hj hc=>by
   rcases aO j i with h|h
   ·exact hQ j cs h hc
   ·have:j=i:=by omega
    subst this;rw[Ov]at hc;injection hc with hc;subst hc;exact Ox rfl
  refine⟨((i+1:Nat):Int),wo,?_⟩;intro ρ3 w6 r3;exact⟨(i+1,w6,_),⟨OF,hw.tr r3.cP,OZ⟩,Sub.gn [] r3,by dsimp only;omega⟩
 have OF:i=f.cV.length:=aQ hi (by simpa using OF);subst OF;obtain⟨kb,kb2⟩:=NB.of RV hbQ Pg hB;obtain⟨kq,kq2⟩:=NB.of hq4 hqQ UQ hQ;have hR:dS w S (.slice an f.nodes.length cn) (.slice ab f.bars.length cb) (.slice aq f.cV.length cq) f.val:=⟨hf.nodes,kb,kq⟩
 refine cC (cE hw (fun _ w' v w2=>v= .int .i64 (eV f.val)) (fun O w' r=>Fe (oS hS r) (hR.cH (kS hw r hS))) ?_);rintro O _ _ _ OM r he hw h_ rfl;obtain⟨e,he⟩:∃e,eV f.val=e:=⟨_,rfl⟩
 rw[he];refine dM.mk ?_ ?_<;>intro hd
 ·have hd:e≠0:=by simpa using hd
  exact rtn hw fun ρe we re=>⟨_,rfl,fun _=>⟨hR,kb2,kq2,.inl hd⟩⟩
 have hd:e=0:=by simpa using hd
 refine dM.mk ?_ ?_<;>intro h4
 ·have h4:=aI h4;exact rtn hw fun ρe we re=>⟨_,rfl,fun h=>⟨hR,kb2,kq2,.inr ⟨by show f.nodes.length<=4;omega,by show(f.bars.map HO).length<=6;rw[aJ];have:=aI h;omega⟩⟩⟩
 exact rtn hw fun ρe we re=>⟨_,rfl,fun h=>by cases h⟩
theorem LM(hS:Old S w)(hx:kr w S v xs):
  di PG N.mV #[v] w (dw w fun v' _=>∃d,v'= .bool d∧(d=true->xs.length<=80∧cR w S v (xs.map rq)∧∀q∈xs.map rq,rl q<=3)):=by
 obtain⟨css,h1,h2,h3,h4⟩:=hx;have hF:∀cs∈css,aA4 cs:=fun cs hc=>by
  obtain⟨j,hj⟩:=aS hc;have Sf:=(aD.1 hj).1;obtain⟨b,a,n,c,b2,a2,n2,c2,e,_⟩:=h4 j cs _ hj (aB (by omega));exact⟨b,a,n,c,b2,a2,n2,c2,e⟩
 refine(Dd hS (by rw[h2];exact h1) hF).mono fun _ _ ⟨v2,e1,e2,d,e3,e4⟩=>⟨v2,e1,e2,d,e3,fun h=>?_⟩
 obtain⟨k1,k2⟩:=e4 h;have key:∀(j:Nat) cs p,css[j]? =some cs->xs[j]? =some p->lr w S cs (rq p)∧rl (rq p)<=3:=fun j cs p m1 m2=>by
  obtain⟨b,a,n,c,b2,a2,n2,c2,rfl,m3⟩:=h4 j cs p m1 m2;obtain⟨m4,m5⟩:=m3.l3 (k2 _ (aC m1));exact⟨⟨b,a,n,c,b2,a2,n2,c2,rfl,m4⟩,m5⟩
 refine⟨by omega,⟨css,by rw[aJ];exact h1,by rw[aJ];exact h2,h3,fun j cs q m1 m2=>?_⟩,fun q hq=>?_⟩
 ·rw[aM]at m2;obtain⟨p,hp,rfl⟩:=Option.map_eq_some_iff.1 m2;exact(key j cs p m1 hp).1
 ·obtain⟨p,hp,rfl⟩:=aU.1 hq;obtain⟨j,hj⟩:=aS hp;have Sf:=(aD.1 hj).1;exact(key j _ p (aB (by omega)) hj).2
section
variable{xs:List Rat}{l:List (Rat×Rat)}{i:Nat}{x:Rat}{r:Rat×Rat}
end
theorem Dh{n cx:Nat}(hf:dS w S vn vb vs f)(h60:f.bars.length<=60∧f.cV.length<=60):di PG N.mW #[.agg #[vn,vb,vs],.slice ax n cx] w (dw w fun v' _=>v'= .int .i64 (if n≠f.cols then 11 else 0)):=by
 have hw:=bR w;obtain⟨an,cn,ab,cb,aq,cq,rfl,rfl,rfl,Q6,Qm,RH⟩:=hf.shape;unfold maxLen at Qm RH;refine qH (by simp) ?_;refine⟨((f.bars.length+f.cV.length:Nat):Int),wo,?_⟩;refine dM.mk ?_ ?_<;>intro hd
 ·have hd:n≠f.cols:=by intro h;rw[h]at hd;simp[eh.cols]at hd
  exact rtn hw fun ρe we re=>by show Value.int .i64 _=_;rw[if_pos hd]
 have hd:=(show (n:Int)=((f.bars.length+f.cV.length:Nat):Int)from(by simpa using hd))
 replace hd:n=f.cols:=by unfold eh.cols;omega
 exact rtn hw fun ρe we re=>by show Value.int .i64 _=_;rw[aL (by simpa using hd)]
theorem ja(hf:dS w S vn vb vs f)(h60:f.bars.length<=60∧f.cV.length<=60):di PG N.pn #[.agg #[vn,vb,vs]] w (dw w fun v' _=>v'= .int .i64 f.cols):=by
 have hw:=bR w;obtain⟨an,cn,ab,cb,aq,cq,rfl,rfl,rfl,Q6,Qm,RH⟩:=hf.shape;refine uC (by simp) ?_;refine⟨((f.bars.length+f.cV.length:Nat):Int),wo,?_⟩;exact rtn hw fun ρe we re=>rfl
section
variable{S:Nat->Prop}{w w1 w':World}{H:Hp}{nx:Nat}{iv:Iv}{O:Nat->Sx.dg}
theorem JM{f:HN}(hS:Old S w)(hw:dm w.heap.size w w1)(r:Rel H nx iv w.heap.size w1 O w')(hf:qV w S vn vb vs f):di PG N.ph #[.agg #[vn,vb,vs]] w' (dw w' fun v' _=>∃d,v'= .bool d∧
  (d=true->dS w S vn vb vs f.val∧(∀b∈f.val.bars,rl b.2.2<=3)∧(∀b∈f.val.cV,rl b.2.2<=3)∧(eV f.val≠0∨f.val.nodes.length<=4∧f.val.bars.length<=6))):=
 have hk:∀g,S g->w'.heap[g]? =w.heap[g]? :=fun g hg=>(hw.tr r.cP).block g (hS g hg)
 (LL (S:=S) (oS hS r) (hf.cH hk)).mono fun _ _ ⟨v2,e1,e2,d,e3,e4⟩=>⟨v2,e1,e2,d,e3,fun h=>⟨(e4 h).1.cH fun g hg=>(hk g hg).symm,(e4 h).2⟩⟩
theorem JN(hS:Old S w)(hw:dm w.heap.size w w1)(r:Rel H nx iv w.heap.size w1 O w')(hx:kr w S v xs):
  di PG N.mV #[v] w' (dw w' fun v' _=>∃d,v'= .bool d∧(d=true->xs.length<=80∧cR w S v (xs.map rq)∧∀q∈xs.map rq,rl q<=3)):=
 have hk:∀g,S g->w'.heap[g]? =w.heap[g]? :=fun g hg=>(hw.tr r.cP).block g (hS g hg)
 (LM (S:=S) (oS hS r) (hx.cH hk)).mono fun _ _ ⟨v2,e1,e2,d,e3,e4⟩=>⟨v2,e1,e2,d,e3,fun h=>⟨(e4 h).1,cR.cH (e4 h).2.1 fun g hg=>(hk g hg).symm,(e4 h).2.2⟩⟩
end
end Go.Ex
namespace Go.Ex
end Go.Ex
namespace Go.Ex
open Go Go.Sx Go.Proofs
variable{b:Int×Int×Rat}{S:Nat->Prop}{f:eh}
theorem JO{n:Nat}(h:n<9223372036854775807):ln n<=2:=by have:=mD (n:=(n:Int)) (by omega) (by omega);rwa [Int.natAbs_natCast]at this
theorem LO(h:eV f=0)(hb:b∈f.bars):b.1≠b.2.1∧0<b.2.2:=by
 obtain⟨_,_,QK,_⟩:=vF h;obtain⟨k,hk⟩:=aS hb;have:=nR.1 (ig QK k b hk);exact⟨this.2.1,this.2.2.2⟩
structure aAt{α:Type}(k:Nat)(P:World->(Nat->Prop)->List Value->α->Prop)(w:World)(S:Nat->Prop)(css:List (List Value))(qs:List α):Prop where
 len:css.length=qs.length
 wid:∀cs∈css,cs.length=k
 at_:∀(j:Nat) cs q,css[j]? =some cs->qs[j]? =some q->P w S cs q
section
variable{α:Type}{k:Nat}{P:World->(Nat->Prop)->List Value->α->Prop}{w w2:World}{S S':Nat->Prop}{css:List (List Value)}{qs:List α}
end
theorem Mc{n:Int}(h:n.natAbs<9223372036854775807):rl (n:Rat)<=2:=by
 have h2:ln n.natAbs<=2:=JO h;unfold rl;rw[Rat.num_intCast,Rat.den_intCast];have h3:ln 1=1:=by decide
 omega
set_option maxHeartbeats 1000000 in
theorem BO{w:World}{vn vb vs:Value}{i:Nat}(hS:Old S w)(hf:dS w S vn vb vs f)(OI:rf f)(hb:f.bars[i]? =some b):
  di PG N.nU #[.agg #[vn,vb,vs],.int .i64 i] w (dw w fun v' _=>v'= .agg #[.int .i64 ((f.node b.2.1).1-(f.node b.1).1),.int .i64 ((f.node b.2.1).2.1-(f.node b.1).2.1),.int .i64 ((f.node b.2.1).2.2-(f.node b.1).2.2)]):=by
 have hw:=bR w;obtain⟨an,cn,ab,cb,aq,cq,rfl,rfl,rfl,Q6,Qm,RH⟩:=hf.shape;obtain⟨R1,Rn,Ro⟩:=And.intro OI.n (And.intro OI.b OI.s);have OF:=(aD.1 hb).1;obtain⟨hA,hB⟩:=OI.MQ b (aC hb);obtain⟨ka,pa,ea,hka,hpa,VW,⟨_,_⟩,⟨_,_⟩,⟨_,_⟩⟩:=OI.node hA.1 hA.2;obtain⟨kb,pb,eb,OK,VA,VX,⟨_,_⟩,⟨_,_⟩,⟨_,_⟩⟩:=OI.node hB.1 hB.2;obtain⟨adx,csx,PS,RZ,-,Oj⟩:=hf.bars.load (by decide) hb;obtain⟨g0,g1,g2,g3,g4,g5,g6,g7,rfl,-⟩:=RZ;obtain⟨ada,csa,VY,hPa,-,Pc⟩:=hf.nodes.load (by decide) hpa;obtain⟨adb,csb,PY,hPb,-,Oc⟩:=hf.nodes.load (by decide) VA;have hPa:csa=[.int .i64 pa.1,.int .i64 pa.2.1,.int .i64 pa.2.2]:=hPa;have hPb:csb=[.int .i64 pb.1,.int .i64 pb.2.1,.int .i64 pb.2.2]:=hPb;subst hPa hPb;rw[VW,VX];rw[ea,eb]at Oj;refine rG (by simp) ?_;refine iq hτ dZ (.x 0 (.x 2 (.x 4 (.x 10 (.x 12 (.x 14 (.ld 1 12583680 (.ld 3 12583904 (.x 5 (.x 6 (.ld 7 12583680 (.x 8 (.ld 9 12582912 (.ld 11 9175040 (.ld 13 9404416 (.x 15 (.x 16 (.ld 17 9175040 (.x 18 (.ld 19 8388608 (.two 20 (.x 21 (.x 22 (.x 23 .nil))) 21 (.x 20 (.x 22 (.x 23 .nil)))))))))))))))))))))))) (by kernel_rfl) (by kernel_rfl) ?_;refine⟨adx,PS,by omega,.int .i64 (ka:Int),fun O w' r=>?_,?_⟩
 ·obtain⟨k1,k2⟩:=Oj 0 _ rfl;rw[cG (w:=w) (w2:=w') (by simp only[dE];exact(hw.tr r.cP).block _ (hS _ k1))];simp only[aE,kE]at k2 ⊢;exact k2
 refine⟨ada,VY,by omega,[.int .i64 pa.1,.int .i64 pa.2.1,.int .i64 pa.2.2],rfl,rdO Pc hw hS,adx,PS,by omega,.int .i64 (kb:Int),fun O w' r=>?_,?_⟩
 ·obtain⟨k1,k2⟩:=Oj 1 _ rfl;rw[cG (w:=w) (w2:=w') (by simp only[dE];exact(hw.tr r.cP).block _ (hS _ k1))];simp only[aE,kE]at k2 ⊢;exact k2
 refine⟨adb,PY,by omega,[.int .i64 pb.1,.int .i64 pb.2.1,.int .i64 pb.2.2],rfl,rdO Oc hw hS,?_,?_⟩
 ·conv=>whnf
  refine⟨[.int .i64 pb.1,.int .i64 pb.2.1,.int .i64 pb.2.2],rfl,rdO Oc hw hS,rfl,.int .i64 (kb:Int),fun O w' r=>?_,?_⟩
  ·obtain⟨k1,k2⟩:=Oj 1 _ rfl;rw[cG (w:=w) (w2:=w') (by simp only[dE];exact(hw.tr r.cP).block _ (hS _ k1))];simp only[aE,kE]at k2 ⊢;exact k2
  refine⟨rfl,rfl,rfl,[.int .i64 pa.1,.int .i64 pa.2.1,.int .i64 pa.2.2],rfl,rdO Pc hw hS,rfl,.int .i64 (ka:Int),fun O w' r=>?_,?_⟩
  ·obtain⟨k1,k2⟩:=Oj 0 _ rfl;rw[cG (w:=w) (w2:=w') (by simp only[dE];exact(hw.tr r.cP).block _ (hS _ k1))];simp only[aE,kE]at k2 ⊢;exact k2
  refine⟨rfl,rfl,rfl,[.int .i64 pb.1,.int .i64 pb.2.1,.int .i64 pb.2.2],rfl,rdO Oc hw hS,rfl,.int .i64 (kb:Int),fun O w' r=>?_,?_⟩
  ·obtain⟨k1,k2⟩:=Oj 1 _ rfl;rw[cG (w:=w) (w2:=w') (by simp only[dE];exact(hw.tr r.cP).block _ (hS _ k1))];simp only[aE,kE]at k2 ⊢;exact k2
  refine⟨rfl,rfl,rfl,[.int .i64 pa.1,.int .i64 pa.2.1,.int .i64 pa.2.2],rfl,rdO Pc hw hS,rfl,.int .i64 (ka:Int),fun O w' r=>?_,?_⟩
  ·obtain⟨k1,k2⟩:=Oj 0 _ rfl;rw[cG (w:=w) (w2:=w') (by simp only[dE];exact(hw.tr r.cP).block _ (hS _ k1))];simp only[aE,kE]at k2 ⊢;exact k2
  refine⟨rfl,rfl,rfl,[.int .i64 pb.1,.int .i64 pb.2.1,.int .i64 pb.2.2],rfl,rdO Oc hw hS,rfl,.int .i64 (kb:Int),fun O w' r=>?_,?_⟩
  ·obtain⟨k1,k2⟩:=Oj 1 _ rfl;rw[cG (w:=w) (w2:=w') (by simp only[dE];exact(hw.tr r.cP).block _ (hS _ k1))];simp only[aE,kE]at k2 ⊢;exact k2
  refine⟨rfl,rfl,rfl,pb.1-pa.1,wo,pb.2.1-pa.2.1,wo,pb.2.2-pa.2.2,wo,?_⟩;exact rtn hw fun ρe we re=>rfl
 ·conv=>whnf
  refine⟨[.int .i64 pb.1,.int .i64 pb.2.1,.int .i64 pb.2.2],rfl,rdO Oc hw hS,rfl,.int .i64 (kb:Int),fun O w' r=>?_,?_⟩
  ·obtain⟨k1,k2⟩:=Oj 1 _ rfl;rw[cG (w:=w) (w2:=w') (by simp only[dE];exact(hw.tr r.cP).block _ (hS _ k1))];simp only[aE,kE]at k2 ⊢;exact k2
  refine⟨rfl,rfl,rfl,[.int .i64 pa.1,.int .i64 pa.2.1,.int .i64 pa.2.2],rfl,rdO Pc hw hS,rfl,.int .i64 (ka:Int),fun O w' r=>?_,?_⟩
  ·obtain⟨k1,k2⟩:=Oj 0 _ rfl;rw[cG (w:=w) (w2:=w') (by simp only[dE];exact(hw.tr r.cP).block _ (hS _ k1))];simp only[aE,kE]at k2 ⊢;exact k2
  refine⟨rfl,rfl,rfl,[.int .i64 pb.1,.int .i64 pb.2.1,.int .i64 pb.2.2],rfl,rdO Oc hw hS,rfl,.int .i64 (kb:Int),fun O w' r=>?_,?_⟩
  ·obtain⟨k1,k2⟩:=Oj 1 _ rfl;rw[cG (w:=w) (w2:=w') (by simp only[dE];exact(hw.tr r.cP).block _ (hS _ k1))];simp only[aE,kE]at k2 ⊢;exact k2
  refine⟨rfl,rfl,rfl,[.int .i64 pa.1,.int .i64 pa.2.1,.int .i64 pa.2.2],rfl,rdO Pc hw hS,rfl,.int .i64 (ka:Int),fun O w' r=>?_,?_⟩
  ·obtain⟨k1,k2⟩:=Oj 0 _ rfl;rw[cG (w:=w) (w2:=w') (by simp only[dE];exact(hw.tr r.cP).block _ (hS _ k1))];simp only[aE,kE]at k2 ⊢;exact k2
  refine⟨rfl,rfl,rfl,[.int .i64 pb.1,.int .i64 pb.2.1,.int .i64 pb.2.2],rfl,rdO Oc hw hS,rfl,.int .i64 (kb:Int),fun O w' r=>?_,?_⟩
  ·obtain⟨k1,k2⟩:=Oj 1 _ rfl;rw[cG (w:=w) (w2:=w') (by simp only[dE];exact(hw.tr r.cP).block _ (hS _ k1))];simp only[aE,kE]at k2 ⊢;exact k2
  refine⟨rfl,rfl,rfl,pb.1-pa.1,wo,pb.2.1-pa.2.1,wo,pb.2.2-pa.2.2,wo,?_⟩;exact rtn hw fun ρe we re=>rfl
section
variable{S S':Nat->Prop}{H:Hp}{nx:Nat}{iv iv':Iv}{B:Nat}{w w' w2:World}{O:Nat->Sx.dg}{v:Value}{l:List (Rat×Rat)}
end
end Go.Ex
namespace Go.Ex
abbrev I3:=Int×Int×Int
def MI(p:I3):Prop:=nI p.1∧nI p.2.1∧nI p.2.2
instance (p : I3) : Decidable (MI p) := by unfold MI; infer_instance
end Go.Ex
namespace Go.Ex
open Go Go.Sx Go.Proofs
end Go.Ex
namespace Go.Sx
open Go Go.Ex Go.Proofs
variable{vs:List Value}{O:Nat->Sx.dg}
theorem Sub.aAo{B nx:Nat}{l:Env}{H:Hp}{iv:Iv}{w w':World}{t:ye}(id:Nat){bt:Nat}(Om:dC H id=some (.box bt (vs.map At.v)))(r:Rel H nx iv B w O w')
  (h:Rel ((id,.arr bt vs)::H) nx iv B w O w'->Sx.Sub B l nx O w' t):Sx.Sub B l nx O w' t:=by
 have hnn:=r.nn id _ Om (by intros;simp) (by simp);have OS:=r.box id bt _ Om;have Qf:(vs.map At.v).map (At.den O)=vs:=by
  rw[List.map_map];exact List.map_id _
 rw[Qf]at OS
 exact h (r.store (b':=.arr bt vs) (H':=(id,.arr bt vs)::H) (w2:=w') Om (by simp) hnn (fun j=>by
  rw[c9];by_cases hj:id=j
  ·subst hj;simp
  ·rw[aL hj,aL (fun h=>hj h.symm)]) rfl rfl rfl rfl (fun _ _=>rfl) ⟨hnn,OS⟩ trivial)
end Go.Sx
namespace Go.Ex
open Go Go.Sx Go.Proofs
abbrev aA5(x:Ld):Value:=.agg #[.int .i64 x.1,.int .i64 x.2.1,.int .i64 x.2.2.1,.int .i64 x.2.2.2]
end Go.Ex
namespace Go.Ex
open Go Go.Sx Go.Proofs
theorem JP(x:Ld)(w:World):di PG N.tn #[aA5 x] w (dw w fun v' _=>∃d,v'= .bool d∧(d=true↔MI x.2)):=by
 have hw:=bR w;obtain⟨x0,x1,x2,x3⟩:=x;refine xc (by simp) ?_;refine cC (cE hw (fun _ w' v w2=>∃d,v= .bool d∧(d=true↔ -1000000<=x1∧x1<=1000000)) (fun O w' r=>mB _ _ _ w') ?_);rintro O _ _ _ OM r he hw h_ ⟨d0,rfl,OQ⟩
 cases d0
 ·have OQ:¬nI x1:=fun h=>by have:=OQ.2 h;cases this
  exact rtn hw fun ρe we re=>⟨_,rfl,(fun h=>by cases h),fun h=>absurd h.1 OQ⟩
 replace OQ:nI x1:=OQ.1 rfl;refine cC (cE hw (fun _ w' v w2=>∃d,v= .bool d∧(d=true↔ -1000000<=x2∧x2<=1000000)) (fun O w' r=>mB _ _ _ w') ?_);rintro O _ _ _ OJ r he hw h_ ⟨d1,rfl,OU⟩
 cases d1
 ·have OU:¬nI x2:=fun h=>by have:=OU.2 h;cases this
  exact rtn hw fun ρe we re=>⟨_,rfl,(fun h=>by cases h),fun h=>absurd h.2.1 OU⟩
 replace OU:nI x2:=OU.1 rfl;refine cC (cE hw (fun _ w' v w2=>∃d,v= .bool d∧(d=true↔ -1000000<=x3∧x3<=1000000)) (fun O w' r=>mB _ _ _ w') ?_);rintro O _ _ _ OP r he hw h_ ⟨d2,rfl,Ox⟩
 cases d2
 ·have Ox:¬nI x3:=fun h=>by have:=Ox.2 h;cases this
  exact rtn hw fun ρe we re=>⟨_,rfl,(fun h=>by cases h),fun h=>absurd h.2.2 Ox⟩
 replace Ox:nI x3:=Ox.1 rfl;exact rtn hw fun ρe we re=>⟨_,rfl,fun _=>⟨OQ,OU,Ox⟩,fun _=>rfl⟩
section
variable{S S':Nat->Prop}{H:Hp}{nx:Nat}{iv iv':Iv}{B:Nat}{w w' w2:World}{O:Nat->Sx.dg}{v:Value}{l:List Ld}
end
end Go.Ex
namespace Go.Ex
variable{M:List (List Rat)}{l x0 φ:List Rat}{K j n:Nat}{c x y:Nat->Rat}{D:Rat}
theorem tW{a b:Rat}(ha:a≠0)(hb:b≠0):a*b≠0:=fun e=>by
 rcases Rat.mul_eq_zero.1 e with h|h
 ·exact ha h
 ·exact hb h
def Den(K:Nat)(D:Rat)(l:List Rat):Prop:=D≠0∧Ib K D∧∀t,Ib K (D*l.getD t 0)
def Gi(K:Nat)(D:Rat)(M:List (List Rat)):Prop:=D≠0∧Ib K D∧∀k t,Ib K (D*dL M k t)
theorem Den.rl(h:Den K D l):∀q∈l,rl q<=ln K:=fun q hq=>by
 obtain⟨j,hj⟩:=aS hq;have:=yJ h.1 h.2.1 (h.2.2 j)
 rwa [List.getD,hj]at this
theorem Gi.rl(h:Gi K D M):∀r∈M,∀q∈r,rl q<=ln K:=fun r hr q hq=>by
 obtain⟨k,hk⟩:=aS hr;obtain⟨j,hj⟩:=aS hq;have:=yJ h.1 h.2.1 (h.2.2 k j)
 rwa [dL,show M.getD k []=r by rw[List.getD,hk];rfl,List.getD,hj]at this
theorem iH{t:Nat}(h:l.length<=t):l.getD t 0=0:=by rw[List.getD,List.getElem?_eq_none h];rfl
theorem MN{k t:Nat}(hM:fg n M)(h:n<=t):dL M k t=0:=by
 rw[dL];rcases aO k M.length with hk|hk
 ·exact iH (by rw[hM.getD hk];exact h)
 ·rw[show M.getD k []=[] by rw[List.getD,List.getElem?_eq_none hk];rfl];rfl
theorem KQ{k t:Nat}(h:M.length<=k):dL M k t=0:=by
 rw[dL,show M.getD k []=[] by rw[List.getD,List.getElem?_eq_none h];rfl];rfl
section
variable{M:List (List Rat)}{n B:Nat}{b:List Rat}
theorem Ho(hM:fg n M)(hW:Bi M n B)(hB:1<=B){c:Nat}(hc:c<=n):∃D:Rat,D≠0∧Ib (fB B M.length) D∧∀i t,i<(cN M c).2.length->t<n->Ib (fB B M.length) (D*dL (cN M c).1 i t):=by
 obtain⟨σ,Z,h⟩:=pc hM hW c hc;have hle:=h.red.2.1;rw[h.len]at hle;have hm:=ql hB hle;exact⟨_,h.zN.nz,h.zN.den.mono hm,fun i t hi ht=>(h.zN.ent hi ht).mono hm⟩
theorem MO(hM:fg n M)(hW:Bi M n B)(hB:1<=B):∃D,Gi (fB B M.length) D (cS M n):=by
 obtain⟨D,h0,hD,hE⟩:=Ho hM hW hB (aF n);obtain⟨r1,r2,r3,r4,r5⟩:=dx hM n (aF _);have Qy:=jA M n;refine⟨D,h0,hD,fun k t=>?_⟩;rcases aO k (cS M n).length with hk|hk
 ·rcases aO t n with ht|ht
  ·have hf:=lS.1 (p8 (by rw[<-nQ];exact hk));rw[dL,zP M n hk];generalize (jH (cN M n).2 n).getD k 0=c at hf;by_cases hp:t∈(cN M n).2
   ·obtain⟨j,hj,rfl⟩:=sM hp;rw[oH (F:=fZ (cN M n).1 (cN M n).2 n c) (f:=fun i=> -(dL (cN M n).1 i c)) (fun i=>gP _ _ n c i) (kH _ _ n c) Qy.2.1 r4 _ (aF _) hj,show D* -(dL (cN M n).1 j c)= -(D*dL (cN M n).1 j c) by grind];exact(hE j c hj hf.1).neg
   ·rw[pZ hp hf.1];split
    ·rw[Rat.mul_one];exact hD
    ·rw[bD];exact Ib.zero _
  ·rw[MN (ic M n) ht,bD];exact Ib.zero _
 ·rw[KQ hk,bD];exact Ib.zero _
theorem zS{x:List Rat}(hM:fg n M)(hW:Bi (dJ M b) (n+1) B)(hB:1<=B)(h:fD M b n=some x):∃D,Den (fB B M.length) D x:=by
 obtain⟨D,h0,hD,hE⟩:=Ho (ga (b:=b) hM) hW hB (Nat.le_succ n);rw[eB]at hD hE;obtain⟨r1,r2,r3,r4,r5⟩:=dx (ga (b:=b) hM) n (Nat.le_succ _);have Qy:=jA (dJ M b) n;unfold fD at h;dsimp only at h;split at h
 ·injection h with h;subst h;refine⟨D,h0,hD,fun t=>?_⟩;by_cases hp:t∈(cN (dJ M b) n).2
  ·obtain⟨j,hj,rfl⟩:=sM hp;rw[oH (F:=fp (cN (dJ M b) n).1 (cN (dJ M b) n).2 n) (f:=fun i=>dL (cN (dJ M b) n).1 i n) (fun i=>gQ _ _ n i) (jO _ _ n) Qy.2.1 r4 _ (aF _) hj];exact hE j n hj (by omega)
  ·rw[tO hp,bD];exact Ib.zero _
 ·cases h
end
def kV(φ:List Rat):Nat->Rat
 |0=>1
 |t+1=>kV φ t*((φ.getD t 0).den:Rat)
theorem Em(φ:List Rat):∀k,kV φ k≠0
 |0=>by show(1:Rat)≠0;decide
 |k+1=>tW (Em φ k) (by have:=(φ.getD k 0).den_nz;exact_mod_cast this)
theorem zT{φ:List Rat}{B:Nat}(h:∀t,(φ.getD t 0).den<=B):∀k,Ib (B^k) (kV φ k)
 |0=>Ib.one (aF _)
 |k+1=>by
  rw[Nat.pow_succ];exact(zT h k).mul ⟨((φ.getD k 0).den:Int),rfl,by rw[Int.natAbs_natCast];exact h k⟩
theorem Hq(q:Rat):(q.den:Rat)*q=(q.num:Rat):=by
 have h:=Rat.num_divInt_den q;have h0:((q.den:Int):Rat)≠0:=by have:=q.den_nz;exact_mod_cast this
 rw[Rat.divInt_eq_div]at h;have h1:(q.num:Rat) / ((q.den:Int):Rat)*((q.den:Int):Rat)=(q.num:Rat):=Rat.div_mul_cancel h0;rw[h,bo]at h1;exact h1
theorem Bo{φ:List Rat}{B:Nat}(h:∀t,(φ.getD t 0).den<=B)(hn:∀t,(φ.getD t 0).num.natAbs<=B)(hB:1<=B):∀k t,t<k->Ib (B^k) (kV φ k*φ.getD t 0)
 |0,t,ht=>by omega
 |k+1,t,ht=>by
  rw[kV,Nat.pow_succ];rcases aO t k with h1|h1
  ·rw[show ∀a b c:Rat,a*b*c=(a*c)*b from fun a b c=>by grind];exact(Bo h hn hB k t h1).mul ⟨((φ.getD k 0).den:Int),rfl,by rw[Int.natAbs_natCast];exact h k⟩
  ·rw[show t=k by omega,Rat.mul_assoc,Hq];exact(zT h k).mul (Ib.int (hn k))
theorem lV{l:Nat}:1<=wt l:=yn l
theorem Hr{q:Rat}{l:Nat}(h:rl q<=l):q.num.natAbs<wt l∧q.den<wt l:=⟨gI.1 (aZ (fb q) h),gI.1 (aZ (Na q) h)⟩
theorem KR(l k:Nat):wt l^k=wt (l*k):=by rw[uy,uy,<-Nat.pow_mul,bf]
theorem KU(hl:φ.length<=n)(h:∀q∈φ,rl q<=3):Den (wt (3*n)) (kV φ n) φ:=by
 have h3:∀t,rl (φ.getD t 0)<=3:=fun t=>by
  rw[List.getD]
  cases ht:φ[t]? with
  |none=>show rl 0<=3;decide
  |some q=>exact h q (aC ht)
 have h1:∀t,(φ.getD t 0).den<=wt 3:=fun t=>Nat.le_of_lt (Hr (h3 t)).2;have h2:∀t,(φ.getD t 0).num.natAbs<=wt 3:=fun t=>Nat.le_of_lt (Hr (h3 t)).1;refine⟨Em φ n,by rw[<-KR];exact zT h1 n,fun t=>?_⟩;rcases aO t n with ht|ht
 ·rw[<-KR];exact Bo h1 h2 lV n t ht
 ·rw[iH (by omega),bD];exact Ib.zero _
theorem getD_some{α:Type}{l:List α}{i:Nat}{x d:α}(h:l[i]? =some x):l.getD i d=x:=by rw[List.getD,h];rfl
structure vB(M:List (List Rat))(n:Nat)(φ:Nat->Rat):Prop where
 len:fg n M
 pos:∀t,t<n->0<=φ t
 aAS:∀x:Nat->Rat,(∀j,j<M.length->mulR M n x j=0)->cd (fun t=>φ t*(x t*x t)) n=0->∀t,t<n->x t=0
theorem En(M:List (List Rat))(n:Nat)(x y:Nat->Rat)(j:Nat):mulR M n (fun t=>x t+y t) j=mulR M n x j+mulR M n y j:=by
 unfold mulR;rw[<-gj];exact cL fun t _=>by grind
theorem KV(M:List (List Rat))(n:Nat)(x:Nat->Rat)(c:Rat)(j:Nat):mulR M n (fun t=>c*x t) j=c*mulR M n x j:=by
 unfold mulR;rw[<-ek];exact cL fun t _=>by grind
theorem Eo(M:List (List Rat))(n:Nat)(S:Mx)(c:Nat->Rat)(j s:Nat):mulR M n (fun t=>cd (fun k=>c k*S k t) s) j=cd (fun k=>c k*mulR M n (S k) j) s:=by
 induction s with
 |zero=>exact(cL (g:=fun _=>0) fun t _=>bD _).trans (eC n)
 |succ s ih=>
  show mulR M n (fun t=>cd (fun k=>c k*S k t) s+c s*S s t) j=cd (fun k=>c k*mulR M n (S k) j) s+c s*mulR M n (S s) j;rw[En,KV,ih]
theorem sT(h:∀t,t<n->x t=y t)(j:Nat):mulR M n x j=mulR M n y j:=cL fun t ht=>by rw[h t ht]
def tA(φ x y:Nat->Rat)(n:Nat):Rat:=cd (fun t=>φ t*(x t*y t)) n
theorem tX(φ x y:Nat->Rat)(n:Nat):tA φ x y n=tA φ y x n:=cL fun t _=>by grind
theorem Hs(φ x y z:Nat->Rat)(n:Nat):tA φ x (fun t=>y t+z t) n=tA φ x y n+tA φ x z n:=by
 unfold tA;rw[<-gj];exact cL fun t _=>by grind
theorem tY(φ x:Nat->Rat)(S:Mx)(c:Nat->Rat)(n s:Nat):tA φ x (fun t=>cd (fun k=>c k*S k t) s) n=cd (fun k=>c k*tA φ x (S k) n) s:=by
 unfold tA;rw[cL (g:=fun t=>cd (fun k=>c k*(φ t*(x t*S k t))) s) fun t _=>by rw[<-ek,<-ek];exact cL fun k _=>by grind,p9];exact cL fun k _=>by rw[ek]
theorem vC{φ x' y':Nat->Rat}(h1:∀t,t<n->x t=x' t)(h2:∀t,t<n->y t=y' t):tA φ x y n=tA φ x' y' n:=cL fun t ht=>by rw[h1 t ht,h2 t ht]
section
variable{M:List (List Rat)}{n:Nat}{φ:Nat->Rat}{b:List Rat}
def Hu(M:List (List Rat))(n:Nat)(φ:Nat->Rat)(i j:Nat):Rat:=tA φ (dL (cS M n) i) (dL (cS M n) j) n
theorem vB.KW(h:vB M n φ)(hc:∀i,i<(cS M n).length->cd (fun j=>Hu M n φ i j*c j) (cS M n).length=0):∀i,i<(cS M n).length->c i=0:=by
 obtain⟨y,hy⟩:∃y:Nat->Rat,y=fun t=>cd (fun k=>c k*dL (cS M n) k t) (cS M n).length:=⟨_,rfl⟩
 have UN:∀j,j<M.length->mulR M n y j=0:=fun j hj=>by
  rw[hy,Eo,cL (g:=fun _=>0) fun k hk=>by rw[zQ h.len hk j hj,bD],eC]
 have hw:∀i,i<(cS M n).length->tA φ (dL (cS M n) i) y n=0:=fun i hi=>by
  rw[hy,tY,<-hc i hi];exact cL fun k _=>bo _ _
 have h0:tA φ y y n=0:=by
  have:tA φ y y n=cd (fun k=>c k*tA φ y (dL (cS M n) k) n) (cS M n).length:=by
   rw[<-tY,<-hy]
  rw[this,cL (g:=fun _=>0) fun k hk=>by rw[tX,hw k hk,bD],eC]
 exact MM (M:=M) fun t ht=>by
  have:=h.aAS y UN h0 t ht;rw[hy]at this;exact this
theorem vB.only(h:vB M n φ)(hx:∀j,j<M.length->mulR M n x j=0)(hs:∀k,k<(cS M n).length->tA φ (dL (cS M n) k) x n=0):∀t,t<n->x t=0:=by
 obtain⟨c,hc⟩:=Hn h.len hx;have h0:tA φ x x n=0:=by
  rw[vC (x':=x) (fun _ _=>rfl) hc,tY,cL (g:=fun _=>0) fun k hk=>by rw[tX,hs k hk,bD],eC]
 exact h.aAS x hx h0
def jh(M:List (List Rat))(n:Nat)(φ:Nat->Rat):List (List Rat):=M++(cS M n).map fun s=>(List.range n).map fun t=>φ t*s.getD t 0
theorem qn(hM:fg n M):fg n (jh M n φ):=fun r hr=>by
 rcases bG.1 hr with hr|hr
 ·exact hM r hr
 ·obtain⟨s,hs,rfl⟩:=aU.1 hr;simp
theorem jB:(jh M n φ).length=M.length+(cS M n).length:=by unfold jh;rw[List.length_append,aJ]
theorem Bp{t:Nat}(hj:j<M.length):dL (jh M n φ) j t=dL M j t:=by
 have h:(jh M n φ)[j]? =M[j]? :=aK hj;rw[aB hj]at h;rw[dL,dL,getD_some h,getD_some (aB hj)]
theorem Bq{k t:Nat}(hk:k<(cS M n).length)(ht:t<n):dL (jh M n φ) (M.length+k) t=φ t*dL (cS M n) k t:=by
 have hr:=aB hk;have h:(jh M n φ)[M.length+k]? =some ((List.range n).map fun t=>φ t*(cS M n)[k].getD t 0):=by
  unfold jh;rw[aN (Nat.le_add_right _ _),Nat.add_sub_cancel_left,aM,hr];rfl
 rw[dL,dL,getD_some h,getD_some hr];exact getD_some (by rw[aM,bp ht];rfl)
theorem Br{k:Nat}(hk:k<(cS M n).length):mulR (jh M n φ) n x (M.length+k)=tA φ (dL (cS M n) k) x n:=by
 unfold mulR tA;exact cL fun t ht=>by rw[Bq hk ht,Rat.mul_assoc]
theorem zU(hj:j<M.length):mulR (jh M n φ) n x j=mulR M n x j:=by
 unfold mulR;exact cL fun t _=>by rw[Bp hj]
theorem vB.inj(h:vB M n φ):Inj (jh M n φ) n:=fun x hx t ht=>by
 refine h.only (fun j hj=>?_) (fun k hk=>?_) t ht
 ·rw[<-zU hj];exact hx j (by rw[jB];omega)
 ·rw[<-Br hk];exact hx _ (by rw[jB];omega)
def iB(k:Nat):List Rat:=List.replicate k 0
theorem kW(b:List Rat)(k j:Nat):(b++iB k).getD j 0=b.getD j 0:=by
 unfold iB;rcases aO j b.length with h|h
 ·rw[List.getD,aK h,<-List.getD]
 ·rw[iH h,List.getD,aN h,List.getElem?_replicate];split<;>rfl
structure jt(M:List (List Rat))(n:Nat)(φ:Nat->Rat)(b x:List Rat):Prop where
 len:x.length=n
 eq:∀j,j<M.length->mulR M n (fun t=>x.getD t 0) j=b.getD j 0
 st:∀k,k<(cS M n).length->tA φ (dL (cS M n) k) (fun t=>x.getD t 0) n=0
theorem vB.one(h:vB M n φ){x y:List Rat}(hx:jt M n φ b x)(hy:jt M n φ b y):x=y:=by
 refine fw 0 (by rw[hx.len,hy.len]) fun t ht=>?_;rw[hx.len]at ht
 have:=h.only (x:=fun t=>x.getD t 0-y.getD t 0) (fun j hj=>by rw[Ek,hx.eq j hj,hy.eq j hj];grind) (fun k hk=>by
  rw[show (fun t=>x.getD t 0-y.getD t 0)=fun t=>x.getD t 0+(-1)*y.getD t 0 from funext fun t=>by grind,Hs,hx.st k hk];have h2:=hy.st k hk;unfold tA at h2 ⊢;rw[cL (f:=fun t=>φ t*(dL (cS M n) k t*(-1*y.getD t 0))) (g:=fun t=>(-1)*(φ t*(dL (cS M n) k t*y.getD t 0))) fun t _=>by grind,ek,h2]
  grind) t ht
 grind
theorem vB.base(h:vB M n φ){x:List Rat}(hb:b.length=M.length)(hx:jt M n φ b x):fD (jh M n φ) (b++iB (cS M n).length) n=some x:=by
 refine Iq (qn h.len) h.inj hx.len fun j hj=>?_;rw[kW];rcases aO j M.length with h1|h1
 ·rw[zU h1];exact hx.eq j h1
 ·obtain⟨k,rfl⟩:∃k,j=M.length+k:=⟨j-M.length,by omega⟩
  rw[jB]at hj;rw[Br (by omega),iH (by omega)];exact hx.st k (by omega)
end
theorem wh(x y:List Rat)(n:Nat):eF x y n=cd (fun t=>x.getD t 0*y.getD t 0) n:=oK x y n
theorem lW{a b:List Rat}{t:Nat}(ht:t<a.length):(eO a b).getD t 0=a.getD t 0*b.getD t 0:=by
 have h:=aB ht;rw[getD_some h];exact getD_some (by rw[eO,List.getElem?_mapIdx,h];rfl)
section
variable{M:List (List Rat)}{n:Nat}{fl b:List Rat}
theorem vD(M:List (List Rat))(n:Nat)(fl:List Rat){i:Nat}(hi:i<(cS M n).length)(hj:j<(cS M n).length):dL (eU (cS M n) fl) i j=Hu M n (fun t=>fl.getD t 0) i j:=by
 have hr:=aB hi;have hs:=aB hj;have hl:((cS M n)[i]).length=n:=ic M n _ (aX hi);have h1:(eU (cS M n) fl)[i]? =some ((cS M n).map fun r=>eF (eO (cS M n)[i] fl) r (cS M n)[i].length):=by rw[eU,aM,hr];rfl
 have h2:((cS M n).map fun r=>eF (eO (cS M n)[i] fl) r (cS M n)[i].length)[j]? =some (eF (eO (cS M n)[i] fl) (cS M n)[j] (cS M n)[i].length):=by rw[aM,hs];rfl
 rw[dL,getD_some h1,getD_some h2,oK,hl];refine cL fun t ht=>?_;rw[lW (by omega),dL,dL,getD_some hr,getD_some hs];grind
theorem oL(st:List (List Rat))(fl:List Rat):fg st.length (eU st fl):=fun r hr=>by
 obtain⟨s,hs,rfl⟩:=aU.1 hr;rw[aJ]
theorem Ep(M:List (List Rat))(n:Nat)(fl x:List Rat){i:Nat}(hi:i<(cS M n).length):(gf (cS M n) fl x).getD i 0= -(tA (fun t=>fl.getD t 0) (dL (cS M n) i) (fun t=>x.getD t 0) n):=by
 have hr:=aB hi;have hl:((cS M n)[i]).length=n:=ic M n _ (aX hi);have h1:(gf (cS M n) fl x)[i]? =some (-(eF (eO (cS M n)[i] fl) x (cS M n)[i].length)):=by rw[gf,aM,hr];rfl
 rw[getD_some h1,oK,hl];congr 1;refine cL fun t ht=>?_;rw[lW (by omega),dL,getD_some hr];grind
theorem qo(st:List (List Rat))(c x:List Rat):∀i,(kU st c x i).length=x.length
 |0=>rfl
 |i+1=>by rw[kU,List.length_mapIdx,qo st c x i]
theorem zV(st:List (List Rat))(c x:List Rat){t:Nat}(ht:t<x.length):∀i,(kU st c x i).getD t 0=x.getD t 0+cd (fun k=>c.getD k 0*dL st k t) i
 |0=>(bX _).symm
 |i+1=>by
  have hl:t<(kU st c x i).length:=by rw[qo];exact ht
  have ih:=zV st c x ht i;rw[getD_some (aB hl)]at ih;rw[getD_some (show (kU st c x (i+1))[t]? =some ((kU st c x i)[t]+c.getD i 0*(st.getD i []).getD t 0) by rw[kU,List.getElem?_mapIdx,aB hl];rfl),ih,cd,Rat.add_assoc];rfl
theorem vB.force(h:vB M n fun t=>fl.getD t 0)(h0:fD M b n=some x0):∃c,fD (eU (cS M n) fl) (gf (cS M n) fl x0) (cS M n).length=some c∧c.length=(cS M n).length∧
  jt M n (fun t=>fl.getD t 0) b (kU (cS M n) c x0 (cS M n).length):=by
 obtain⟨SR,Rh⟩:=jz h.len h0;have hG:=oL (cS M n) fl;have hGl:(eU (cS M n) fl).length=(cS M n).length:=aJ _;have hc:∃c,fD (eU (cS M n) fl) (gf (cS M n) fl x0) (cS M n).length=some c:=by
  cases e:fD (eU (cS M n) fl) (gf (cS M n) fl x0) (cS M n).length with
  |some c=>exact⟨c,rfl⟩
  |none=>
   obtain⟨y,y1,y2⟩:=sS hG e;rw[hGl]at y1 y2;have hy:=h.KW (c:=y) fun i hi=>Eq.trans (cL fun j hj=>by rw[vD M n fl hj hi,bo];unfold Hu;rw[tX]) (y1 i hi);exact absurd (by rw[cL (g:=fun _=>0) fun j hj=>by rw[hy j hj,bL],eC]) y2
 obtain⟨c,hc⟩:=hc;obtain⟨c1,c2⟩:=jz hG hc;refine⟨c,hc,c1,by rw[qo];exact SR,fun j hj=>?_,fun k hk=>?_⟩
 ·rw[sT (y:=fun t=>x0.getD t 0+cd (fun k=>c.getD k 0*dL (cS M n) k t) (cS M n).length) fun t ht=>zV _ c x0 (by omega) _,En,Eo,Rh j hj,cL (g:=fun _=>0) fun k hk=>by rw[zQ h.len hk j hj,bD],eC,bX]
 ·rw[vC (x':=dL (cS M n) k) (y':=fun t=>x0.getD t 0+cd (fun k=>c.getD k 0*dL (cS M n) k t) (cS M n).length) (fun _ _=>rfl) fun t ht=>zV _ c x0 (by omega) _,Hs,tY];have h2:=c2 k (by omega);rw[Ep M n fl x0 hk]at h2;unfold mulR at h2;rw[cL (g:=fun t=>c.getD t 0*tA (fun t=>fl.getD t 0) (dL (cS M n) k) (dL (cS M n) t) n) fun t ht=>by rw[vD M n fl hk ht,bo];rfl]at h2;rw[h2];grind
end
end Go.Ex
