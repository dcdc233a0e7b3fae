/- A part of the proof: texts X149 to L46. Each tells its conditions in its theorems. -/
import Derived.Test.YtkdcaknoaeicdaaGreatP8
import Derived.Test.YtkdcaknoaeicdaaGreatP12
import Derived.Test.YtkdcaknoaeicdaaGreatP13
namespace Go.Ex
open Go Go.Sx Go.Proofs
def JT(m:Nat):List Value:=[.int .i64 ((m / 3:Nat):Int),.int .i64 ((m % 3:Nat):Int),.bool false,.slice none 0 0,.bool false,.slice none 0 0]
def pN(m:Nat):List (List Value):=(List.range m).map JT
theorem DA{i k:Nat}(hk:k<3):(pN (3*i+k)).flatten++[.int .i64 (i:Int),.int .i64 (k:Int),.bool false,.slice none 0 0,.bool false,.slice none 0 0]=(pN (3*i+(k+1))).flatten:=by
 rw[pN,pN,<-Nat.add_assoc,bH,List.map_append,List.flatten_append];simp only[List.map_cons,List.map_nil,JT,show(3*i+k) / 3=i by omega,show(3*i+k) % 3=k by omega]
 simp
theorem Eg(m:Nat):(pN m).length=m:=by rw[pN,aM,List.length_range]
theorem Eh(m:Nat):∀cs∈pN m,cs.length=6:=fun cs hc=>by
 obtain⟨j,_,rfl⟩:=aU.1 hc;rfl
theorem eG.zeroV{S:Nat->Prop}{w:World}:eG w S (.agg #[.bool false,.slice none 0 0,.bool false,.slice none 0 0]) 0:=eG.zero
theorem tM(w:World):dh PG N.pB #[] w (dw w fun v' w2=>∃vn vb vs,v'= .agg #[vn,vb,vs]∧dT w2 (Nw (fun _=>False) w w2) vn vb vs fA):=by
 have hw:cN w.heap.size w w:=cN.refl;refine so (by simp) ?_;conv=>whnf
 refine bz (cE hw (Φ:=fun _ w' v w2=>cR w2 (Nw (fun _=>False) w' w2) v ((1:Int):Rat)) (fun ρ w' r=>jz 1 w' (by decide)) ?_);rintro ρ wa1 v1 wb1 iv1 r he hw h_ hn;have hd:=hn.cw (S:=fun _=>False) r.bu (mN h_);clear r;obtain⟨s1_0,s1_1,s1_2,s1_3,s1_4,s1_5,s1_6,s1_7,rfl⟩:=hd.shape;conv=>whnf
 refine⟨Nat×World,fun z=>⟨[(0,.o (.p 0 0)),(2,.o (.p 4 0)),(3,.o (.v (.int .i64 ((z.1:Nat):Int))))],[(5,.vec T.vM 6 (pN (3*z.1)).flatten),(4,.box T.Frame [.s 2 0 3 3,.s 3 0 2 2,.w 5 (3*z.1)]),(3,.box T.J2 [.v (.int .i64 0),.v (.int .i64 2),.v (.bool s1_0),.v (.slice s1_1 s1_2 s1_3),.v (.bool s1_4),.v (.slice s1_5 s1_6 s1_7),.v (.int .i64 1),.v (.int .i64 2),.v (.bool s1_0),.v (.slice s1_1 s1_2 s1_3),.v (.bool s1_4),.v (.slice s1_5 s1_6 s1_7)]),(2,.box T.Node [.v (.int .i64 0),.v (.int .i64 0),.v (.int .i64 0),.v (.int .i64 0),.v (.int .i64 0),.v (.int .i64 4),.v (.int .i64 3),.v (.int .i64 0),.v (.int .i64 0)]),(0,.box T.Frame [.v (.slice none 0 0),.v (.slice none 0 0),.v (.slice none 0 0)])],6,iv1,z.2⟩,fun z=>2-z.1,
  fun z=>z.1<=2∧cN w.heap.size w z.2∧cR z.2 (Cv (fun _=>False) w.heap.size iv1) (.agg #[.bool s1_0,.slice s1_1 s1_2 s1_3,.bool s1_4,.slice s1_5 s1_6 s1_7]) ((1:Int):Rat),?_,?_⟩
 ·intro ρ w' r;exact⟨(0,w'),⟨aN _,hw.tr r.cC,hd.rel r (bs w)⟩,Sub.A5 4 2 T.vM 6 rfl rfl (by simp[cV,SV.sc,At.sc,cQ]) r fun ρ1 r1=>Sub.gen [] r1 ⟨rfl,rfl,rfl,rfl,rfl,trivial⟩ ⟨rfl,rfl,rfl,trivial⟩ (by simp[dG,cW.scopd,At.sc]) (by simp[cV,SV.sc,At.sc,cQ]) (by rfl) (fun lo hi h=>h)⟩
 clear hw hd;rintro⟨i,w1⟩ ⟨hi,hw,hd⟩;dsimp only at hi hw hd ⊢;conv=>whnf
 refine dE.mk (fun hib=>?_) (fun hib=>?_)
 ·have hib:i<2:=by have:=aI hib;omega
  conv=>whnf
  refine⟨Nat×World,fun z=>⟨[(0,.o (.p 0 0)),(2,.o (.p 4 0)),(3,.o (.v (.int .i64 ((i:Nat):Int)))),(4,.o (.v (.int .i64 ((z.1:Nat):Int))))],[(5,.vec T.vM 6 (pN (3*i+z.1)).flatten),(4,.box T.Frame [.s 2 0 3 3,.s 3 0 2 2,.w 5 (3*i+z.1)]),(3,.box T.J2 [.v (.int .i64 0),.v (.int .i64 2),.v (.bool s1_0),.v (.slice s1_1 s1_2 s1_3),.v (.bool s1_4),.v (.slice s1_5 s1_6 s1_7),.v (.int .i64 1),.v (.int .i64 2),.v (.bool s1_0),.v (.slice s1_1 s1_2 s1_3),.v (.bool s1_4),.v (.slice s1_5 s1_6 s1_7)]),(2,.box T.Node [.v (.int .i64 0),.v (.int .i64 0),.v (.int .i64 0),.v (.int .i64 0),.v (.int .i64 0),.v (.int .i64 4),.v (.int .i64 3),.v (.int .i64 0),.v (.int .i64 0)]),(0,.box T.Frame [.v (.slice none 0 0),.v (.slice none 0 0),.v (.slice none 0 0)])],6,iv1,z.2⟩,fun z=>3-z.1,
   fun z=>z.1<=3∧cN w.heap.size w z.2∧cR z.2 (Cv (fun _=>False) w.heap.size iv1) (.agg #[.bool s1_0,.slice s1_1 s1_2 s1_3,.bool s1_4,.slice s1_5 s1_6 s1_7]) ((1:Int):Rat),?_,?_⟩
  ·intro ρ w' r3;exact⟨(0,w'),⟨aN _,hw.tr r3.cC,hd.rel r3 (bs w)⟩,Sub.gen [] r3 ⟨rfl,rfl,rfl,rfl,rfl,trivial⟩ ⟨rfl,rfl,rfl,rfl,trivial⟩ (by simp[dG,cW.scopd,At.sc]) (by simp[cV,SV.sc,At.sc,cQ]) (by rfl) (fun lo hi h=>h)⟩
  clear hw hd;rintro⟨k,w3⟩ ⟨hk,hw,hd⟩;dsimp only at hk hw hd ⊢;conv=>whnf
  refine dE.mk (fun hkb=>?_) (fun hkb=>?_)
  ·have hkb:k<3:=by have:=aI hkb;omega
   have hs:=DA (i:=i) hkb;have hfl:=tJ (Eh (3*i+k));have hsl:=Eg (3*i+k);conv=>whnf
   refine .inl ?_;conv=>whnf
   refine⟨by omega,by omega,by unfold maxLen;omega,?_⟩;conv=>whnf
   refine⟨((k+1:Nat):Int),by rw[wrap64]<;>omega,?_⟩;conv=>whnf
   intro ρ3 w6 r3;exact⟨(k+1,w6),⟨hkb,hw.tr r3.cC,hd.rel r3 (bs w)⟩,Sub.gen [(5,7)] r3 ⟨by dsimp only;rw[<-hs];rfl,rfl,rfl,rfl,rfl,trivial⟩ ⟨rfl,rfl,rfl,rfl,trivial⟩ (by simp[dG,cW.scopd,At.sc]) (by simp[cV,SV.sc,At.sc,cQ]) (by rfl) (fun lo hi h=>h),by dsimp only;omega⟩
  have hkb:k=3:=by have:=aH hkb;omega
  subst hkb;conv=>whnf
  refine⟨((i+1:Nat):Int),by rw[wrap64]<;>omega,?_⟩;conv=>whnf
  intro ρ3 w6 r3;exact⟨(i+1,w6),⟨hib,hw.tr r3.cC,hd.rel r3 (bs w)⟩,Sub.gen [] r3 ⟨rfl,rfl,rfl,rfl,rfl,trivial⟩ ⟨rfl,rfl,rfl,trivial⟩ (by simp[dG,cW.scopd,At.sc]) (by simp[cV,SV.sc,At.sc,cQ]) (by rfl) (fun lo hi h=>h),by dsimp only;omega⟩
 have hib:i=2:=by have:=aH hib;omega
 subst hib;conv=>whnf
 refine .inl ?_;conv=>whnf
 refine⟨by decide,by decide,by decide,?_⟩;conv=>whnf
 intro ρe we re;have hN:∀{id:Nat} {bk:cW},dA _ id=some bk->(ρe id).nil=false->Nw (fun _=>False) w we (ρe id).g:=fun h hn=>by
  obtain⟨h1,h2⟩:=re.low _ _ h hn;exact .inr ⟨h1,h2⟩
 have hR:=hd.out re (bs w);have hL:eG we (Nw (fun _=>False) w we) (.agg #[.bool s1_0,.slice s1_1 s1_2 s1_3,.bool s1_4,.slice s1_5 s1_6 s1_7]) 1:=hR.l (by decide);refine⟨_,rfl,hw.tr re.cC,_,_,_,rfl,?_,?_,?_⟩
 ·refine⟨[[.int .i64 0,.int .i64 0,.int .i64 0],[.int .i64 0,.int .i64 0,.int .i64 4],[.int .i64 3,.int .i64 0,.int .i64 0]],(re.oE (id:=2) (sz:=3) (n:=3) rfl rfl (by decide) (by repeat' first|refine List.forall_mem_cons.2 ⟨rfl,?_⟩|exact fun u hu=>absurd hu List.not_mem_nil)).cG fun g hg=>by subst hg;exact hN (id:=2) rfl (re.nn 2 _ rfl (by intros;simp) (by simp)),rfl,by simp,fun j cs x h1 h2=>?_⟩;rcases j with _|_|_|j
  ·cases h1;cases h2;rfl
  ·cases h1;cases h2;rfl
  ·cases h1;cases h2;rfl
  ·cases h2
 ·refine⟨[[.int .i64 0,.int .i64 2,.bool s1_0,.slice s1_1 s1_2 s1_3,.bool s1_4,.slice s1_5 s1_6 s1_7],[.int .i64 1,.int .i64 2,.bool s1_0,.slice s1_1 s1_2 s1_3,.bool s1_4,.slice s1_5 s1_6 s1_7]],(re.oE (id:=3) (sz:=6) (n:=2) rfl rfl (by decide) (by repeat' first|refine List.forall_mem_cons.2 ⟨rfl,?_⟩|exact fun u hu=>absurd hu List.not_mem_nil)).cG fun g hg=>by subst hg;exact hN (id:=3) rfl (re.nn 3 _ rfl (by intros;simp) (by simp)),rfl,by simp,fun j cs x h1 h2=>?_⟩;rcases j with _|_|j
  ·cases h1;cases h2;exact⟨_,_,_,_,_,_,_,_,rfl,hL⟩
  ·cases h1;cases h2;exact⟨_,_,_,_,_,_,_,_,rfl,hL⟩
  ·cases h2
 ·refine⟨pN 6++[[.int .i64 2,.int .i64 1,.bool false,.slice none 0 0,.bool false,.slice none 0 0]],?_,rfl,by decide,fun j cs x h1 h2=>?_⟩
  ·have h5:=re.gR (id:=7) (sz:=6) (m:=7) rfl (by decide) (by decide) (by decide) (by decide);rw[List.flatten_append];exact h5.cG fun g hg=>.inr hg
  ·rcases j with _|_|_|_|_|_|_|j
   ·cases h1;cases h2;exact⟨_,_,_,_,_,_,_,_,rfl,eG.zeroV⟩
   ·cases h1;cases h2;exact⟨_,_,_,_,_,_,_,_,rfl,eG.zeroV⟩
   ·cases h1;cases h2;exact⟨_,_,_,_,_,_,_,_,rfl,eG.zeroV⟩
   ·cases h1;cases h2;exact⟨_,_,_,_,_,_,_,_,rfl,eG.zeroV⟩
   ·cases h1;cases h2;exact⟨_,_,_,_,_,_,_,_,rfl,eG.zeroV⟩
   ·cases h1;cases h2;exact⟨_,_,_,_,_,_,_,_,rfl,eG.zeroV⟩
   ·cases h1;cases h2;exact⟨_,_,_,_,_,_,_,_,rfl,eG.zeroV⟩
   ·cases h2
structure fD(w:World)(S:Nat->Prop)(css:List (List Value))(qs:List Rat):Prop where
 len:css.length=qs.length
 four:∀cs∈css,cs.length=4
 at_:∀(j:Nat) cs q,css[j]? =some cs->qs[j]? =some q->gU w S cs q
section
variable{S S':Nat->Prop}{H:Hp}{nx:Nat}{iv iv':Iv}{B:Nat}{w w' w2:World}{ρ:Nat->Sx.dc}{css:List (List Value)}{qs:List Rat}
theorem fD.nil:fD w S [] []:=⟨rfl,fun _ h=>(by cases h),fun _ _ _ h=>by cases h⟩
theorem fD.cD(h:fD w S css qs)(hk:∀g,S g->w2.heap[g]? =w.heap[g]?):fD w2 S css qs:=⟨h.len,h.four,fun j cs q h1 h2=>by
 obtain⟨b,a,n,c,b2,a2,n2,c2,e,hr⟩:=h.at_ j cs q h1 h2
 exact⟨b,a,n,c,b2,a2,n2,c2,e,hr.cD hk⟩⟩
theorem fD.cG(h:fD w S css qs)(hk:∀g,S g->S' g):fD w S' css qs:=⟨h.len,h.four,fun j cs q h1 h2=>by
 obtain⟨b,a,n,c,b2,a2,n2,c2,e,hr⟩:=h.at_ j cs q h1 h2
 exact⟨b,a,n,c,b2,a2,n2,c2,e,hr.cG hk⟩⟩
theorem fD.rel(h:fD w (Cv S B iv) css qs)(r:Rel H nx iv B w ρ w')(hS:∀g,S g->g<B):fD w' (Cv S B iv) css qs:=h.cD fun _ hg=>Rel.same r hS hg
theorem fD.cB(h:fD w (Cv S B iv) css qs)(r:Rel H nx iv B w ρ w')(hS:∀g,S g->g<B)(he:Ext w' w2)(hm:∀p,p∈iv->p∈iv'):fD w2 (Cv S B iv') css qs:=
 ((h.rel r hS).cD fun g hg=>he.block g (Rel.old r hS g hg)).cG fun _ hg=>hg.mono hm
theorem fD.push{cs:List Value}{q:Rat}(h:fD w S css qs)(hc:gU w S cs q)(h4:cs.length=4):fD w S (css++[cs]) (qs++[q]):=by
 refine⟨by simp[h.len],fun x hx=>?_,fun j x p h1 h2=>?_⟩
 ·rcases bR.1 hx with hx|hx
  ·exact h.four x hx
  ·rw[bA.1 hx];exact h4
 ·rcases aV j css.length with hi|hi
  ·rw[aL hi]at h1;rw[aL (by rw[<-h.len];exact hi)]at h2;exact h.at_ j x p h1 h2
  ·have hi0:j=css.length:=by have:=(aE.1 h1).1;simp at this;omega
   subst hi0;rw[aQ (aG _),bI]at h1;rw[h.len,aQ (aG _),bI]at h2;simp at h1 h2;subst h1 h2;exact hc
theorem fD.one(h:fD w S css qs):∀u∈css.flatten,u.oneCell'=true:=fun u hu=>by
 obtain⟨cs,hc,hu⟩:=List.mem_flatten.1 hu;obtain⟨j,hj⟩:=ah hc;obtain⟨_,_,_,_,_,_,_,_,rfl,_⟩:=h.at_ j cs _ hj (aB (by rw[<-h.len];exact(aE.1 hj).1));simp at hu;rcases hu with rfl|rfl|rfl|rfl<;>rfl
theorem fD.mw{id:Nat}(h:fD w (Cv (fun _=>False) B iv) css qs)(r:Rel H nx iv B w ρ w')(hid:dA H id=some (.vec T.Rat 4 css.flatten))(h0:0<css.length)(hm:css.length<=maxLen):
  dQ w' (fun _=>False) B [(B,w'.heap.size)] ((SV.o (.w id css.length)).den ρ) css.length qs:=by
 have h2:=h.rel r (fa B);obtain⟨k1,k2,k3,k4⟩:=HW r hid rfl h0 hm ⟨h2.len,h2.at_⟩;have hden:(SV.o (.w id css.length)).den ρ= .slice (some ⟨(ρ id).g,0,none⟩) css.length (ρ id).cap:=by simp[SV.den,At.den,k1]
 rw[hden];have key:∀g,Cv (fun _=>False) B iv g->Cv (fun _=>False) B [(B,w'.heap.size)] g:=fun g hg=>
  .inr ⟨hg.elim (fun h=>h.elim) fun h=>h.1,B,w'.heap.size,bA.2 rfl,hg.elim (fun h=>h.elim) fun h=>h.1,Rel.old r (fa B) g hg⟩
 refine⟨k4.cG fun g hg=>⟨key g hg,fun e=>?_⟩,fun g hg=>?_⟩
 ·injection e with e;exact Rel.not r (fa B) hg id _ hid k1 e
 ·injection hg with hg;subst hg;have:=(r.low id _ hid k1).2;exact .inr ⟨k2,B,w'.heap.size,bA.2 rfl,k2,this⟩
theorem fD.list{v:Value}(h:fD w S css qs)(hs:iS w S 4 v css.flatten css.length):cP w S v qs:=⟨css,h.len▸hs,h.len,h.four,h.at_⟩
end
theorem Bz{S:Nat->Prop}{w:World}{v:Value}{l:List Int}(hS:Old S w)(hl:yM w S v l)(hl0:0<l.length)(hl2:l.length<=1000)(hb:∀z∈l,z.natAbs<1073741824):
  dh PG N.rC #[v] w (dw w fun v' w2=>dQ w2 (fun _=>False) w.heap.size [(w.heap.size,w2.heap.size)] v' l.length (cU l)):=by
 have hw:cN w.heap.size w w:=cN.refl;obtain⟨al,cl,rfl,hcl,hml⟩:=hl.shape;unfold maxLen at hml;refine uX (by simp) ?_;conv=>whnf
 refine⟨Nat×List (List Value)×World×Iv,fun z=>⟨[(0,.o (.v (.slice al l.length cl))),(3,.o (.w 0 z.2.1.length)),(4,.o (.v (.int .i64 ((z.1:Nat):Int))))],[(0,.vec T.Rat 4 z.2.1.flatten)],1,z.2.2.2,z.2.2.1⟩,fun z=>l.length-z.1,
  fun z=>z.1<=l.length∧cN w.heap.size w z.2.2.1∧fD z.2.2.1 (Cv (fun _=>False) w.heap.size z.2.2.2) z.2.1 (cU (l.take z.1)),?_,?_⟩
 ·intro ρ w' r;exact⟨(0,[],w',[]),⟨aN _,hw.tr r.cC,fD.nil⟩,Sub.nil 3 T.Rat 4 rfl (by simp[cV,SV.sc,At.sc,cQ]) r fun ρ1 r1=>Sub.gen [] r1 ⟨rfl,trivial⟩ ⟨rfl,rfl,rfl,trivial⟩ (by simp[dG,cW.scopd,At.sc]) (by simp[cV,SV.sc,At.sc,cQ]) (by rfl) (fun lo hi h=>h)⟩
 clear hw;rintro⟨i,css,w1,iv⟩ ⟨hi,hw,hG⟩;dsimp only at hi hw hG ⊢;have hfl:=eX hG.four;have hcl2:css.length=i:=by rw[hG.len,cU,aM,aX];omega
 conv=>whnf
 refine dE.mk (fun hib=>?_) (fun hib=>?_)
 ·have hib:i<l.length:=by simpa using hib
  obtain⟨z,hz⟩:∃z,l[i]? =some z:=⟨_,aB hib⟩
  have hzb:=hb z (aF hz);have hnx:cU (l.take (i+1))=cU (l.take i)++[(z:Rat)]:=by rw[cU,List.take_add_one,hz,List.map_append];rfl
  obtain⟨adx,hax,hSx,hlx⟩:=yM.at hl hz;conv=>whnf
  refine⟨adx,hax,⟨by omega,by omega⟩,?_⟩;conv=>whnf
  refine⟨.int .i64 z,fun ρ w' r=>?_,?_⟩
  ·rw[aC,bw (w:=w) (w2:=w') (by rw[cL];exact(hw.tr r.cC).block _ (hS _ hSx))];exact hlx
  conv=>whnf
  refine bz (cE hw (Φ:=fun _ w' v w2=>cR w2 (Nw (fun _=>False) w' w2) v (z:Rat)) (fun ρ w' r=>jz z w' (by omega)) ?_);rintro ρ wa1 v1 wb1 iv1 r he hw h_ hn;replace hG:=hG.cB r (bs w) he (mC h_);have hd:=hn.cw (S:=fun _=>False) r.bu (mN h_);clear r;obtain⟨s1_0,s1_1,s1_2,s1_3,s1_4,s1_5,s1_6,s1_7,rfl⟩:=hd.shape;conv=>whnf
  have hG2:=hG.push (cs:=[.bool s1_0,.slice s1_1 s1_2 s1_3,.bool s1_4,.slice s1_5 s1_6 s1_7]) (q:=(z:Rat)) ⟨_,_,_,_,_,_,_,_,rfl,hd⟩ rfl;rw[<-hnx]at hG2;have hfl2:css.flatten++([.bool s1_0,.slice s1_1 s1_2 s1_3,.bool s1_4,.slice s1_5 s1_6 s1_7]:List Value)=(css++([[.bool s1_0,.slice s1_1 s1_2 s1_3,.bool s1_4,.slice s1_5 s1_6 s1_7]]:List (List Value))).flatten:=by simp
  refine .inl ?_;conv=>whnf
  refine⟨by omega,by omega,by unfold maxLen;omega,?_⟩;conv=>whnf
  refine⟨((i+1:Nat):Int),by rw[wrap64]<;>omega,?_⟩;conv=>whnf
  intro ρ3 w3 r3;exact⟨(i+1,css++[[.bool s1_0,.slice s1_1 s1_2 s1_3,.bool s1_4,.slice s1_5 s1_6 s1_7]],w3,_),⟨hib,hw.tr r3.cC,hG2.rel r3 (bs w)⟩,Sub.gen [(0,2)] r3 ⟨by dsimp only;rw[<-hfl2];rfl,trivial⟩ ⟨rfl,by dsimp only;rw[List.length_append,List.length_singleton];rfl,rfl,trivial⟩ (by simp[dG,cW.scopd,At.sc]) (by simp[cV,SV.sc,At.sc,cQ]) (by rfl) (fun lo hi h=>h),by dsimp only;omega⟩
 have hib:i=l.length:=aP hi (by simpa using hib);subst hib;rw[ai]at hG;conv=>whnf
 intro ρe we re;refine⟨_,rfl,hw.tr re.cC,?_⟩;have h5:=hG.mw re (id:=0) rfl (by omega) (by unfold maxLen;omega);have h6:css.length=l.length:=hcl2;rw[<-h6];exact h5
theorem dT.cw{w' w2:World}{vn vb vs:Value}{f:fK}{B:Nat}{iv:Iv}(h:dT w2 (Nw (fun _=>False) w' w2) vn vb vs f)(hB:B<=w'.heap.size)(hm:(w'.heap.size,w2.heap.size)∈iv):dT w2 (Cv (fun _=>False) B iv) vn vb vs f:=h.cG fun _ hg=>hg.cw hB hm
abbrev xn(a b c:Int):Value:=.agg #[.int .i64 a,.int .i64 b,.int .i64 c]
theorem Ij(p0 p1 p2 q0 q1 q2:Int)(w:World):(Op.equal T.nM (xn p0 p1 p2) (xn q0 q1 q2)).run PG w= .ok (decide (p0=q0∧p1=q1∧p2=q2)) w:=by
 have h:=run_underlying Tryz.underlying68;simp only[Op.equal,Op.maxDepth]
 unfold Op.equalIn;have a0:=eY (cs:= #[Value.int .i64 p0,Value.int .i64 p1,Value.int .i64 p2]) (j:=0) rfl;have a1:=eY (cs:= #[Value.int .i64 p0,Value.int .i64 p1,Value.int .i64 p2]) (j:=1) rfl;have a2:=eY (cs:= #[Value.int .i64 p0,Value.int .i64 p1,Value.int .i64 p2]) (j:=2) rfl;have b0:=eY (cs:= #[Value.int .i64 q0,Value.int .i64 q1,Value.int .i64 q2]) (j:=0) rfl;have b1:=eY (cs:= #[Value.int .i64 q0,Value.int .i64 q1,Value.int .i64 q2]) (j:=1) rfl;have b2:=eY (cs:= #[Value.int .i64 q0,Value.int .i64 q1,Value.int .i64 q2]) (j:=2) rfl;simp[h,a0,a1,a2,b0,b1,b2,eq_int 9998];by_cases h0:p0=q0
 ·by_cases h1:p1=q1
  ·by_cases h2:p2=q2<;>simp[h0,h1,h2]
  ·simp[h0,h1]
 ·simp[h0]
theorem Dl(p0 p1 p2 q0 q1 q2:Int)(w:World)(o1 o2:Operand):(do eqGuard .eql T.nM o1 o2 (xn p0 p1 p2) (xn q0 q1 q2);binOp .eql T.nM (xn p0 p1 p2) (xn q0 q1 q2)).run PG w= .ok (.bool (decide (p0=q0∧p1=q1∧p2=q2))) w:=by
 have h:=Ij p0 p1 p2 q0 q1 q2 w;simp[eqGuard,binOp,h]
def Ik:List Int:=[0,0,0,0,0,0,-1,0,0]
def Il:List Int:=[-3,3,9,0,0,-9,0,12,0]
theorem H5:(cU Ik).set 8 (Rat.divInt (-3) 2)=Ih:=by decide +kernel
theorem Im:cU Il=Cz:=by decide +kernel
theorem Ei:∀q∈Cz,rl q<=100000:=by decide +kernel
theorem CA:∀q∈kP Cz (jq fA),rl q<=100000:=by decide +kernel
theorem Jh:Rat.divInt 2000 1000=((2:Int):Rat):=by decide +kernel
theorem Hv{H:Hp}{nx:Nat}{iv:Iv}{B:Nat}{w w':World}{ρ:Nat->Sx.dc}(r:Rel H nx iv B w ρ w'){id n:Nat}{l:List Int}(h:dA H id=some (.box T.int (l.map fun z=>At.v (.int .i64 z))))(hn:l.length=n)(hm:n<=maxLen):
  yM w' (fun g=>g=(ρ id).g) (.slice (some ⟨(ρ id).g,0,none⟩) n n) l:=by
 subst hn;have h5:=r.oE (sz:=1) (n:=l.length) h (by simp) hm (fun u hu=>by obtain⟨z,_,rfl⟩:=aU.1 hu;rfl);rw[List.map_map]at h5;exact h5
set_option maxHeartbeats 1000000 in
theorem sE(w:World):dh PG N.te #[] w (dw w fun v' _=>v'= .bool true):=by
 have hw:cN w.heap.size w w:=cN.refl;refine xN (by simp) ?_;conv=>whnf
 refine bz (cE hw (Φ:=fun _ w' v w2=>∃vn vb vs,v= .agg #[vn,vb,vs]∧dT w2 (Nw (fun _=>False) w' w2) vn vb vs fA) (fun ρ w' r=>tM w') ?_);rintro ρ wa1 v1 wb1 iv1 r he hw h_ ⟨vn1,vb1,vs1,rfl,hn⟩;have hf:=hn.cw r.bu (mN h_);clear r;clear hn;obtain⟨an1,cn1,ab1,cb1,aq1,cq1,rfl,rfl,rfl,-,-,-⟩:=hf.shape;conv=>whnf
 refine bz (cE hw (Φ:=fun _ w' v w2=>∃vx,v= .tuple #[vx,.int .i64 0]∧cP w2 (Nw (fun _=>False) w' w2) vx Cz) (fun ρ w' r=>Cw (S:=(fun g=>Cv (fun _=>False) w.heap.size iv1 g∨g=(ρ 0).g)) (l:=Ef) (h:=2) (fun g hg=>hg.elim (Rel.old r (bs w) g) fun e=>by subst e;exact Rel.lt r (id:=0) rfl) (dT.cG (dT.rel hf r (bs w)) fun g hg=>.inl hg) (show ix w' (fun g=>Cv (fun _=>False) w.heap.size iv1 g∨g=(ρ 0).g) (.slice (some ⟨(ρ 0).g,0,none⟩) 1 1) Ef from⟨[[.int .i64 2,.int .i64 0,.int .i64 0,.int .i64 (-12)]],(r.oE (id:=0) (sz:=4) (n:=1) rfl rfl (by decide) (by repeat' first|refine List.forall_mem_cons.2 ⟨rfl,?_⟩|exact fun u hu=>absurd hu List.not_mem_nil)).cG fun g hg=>.inr hg,rfl,by simp,fun j cs x h1 h2=>by cases j with|zero=>(cases h1;cases h2;rfl)|succ j=>cases h2⟩) Ac By xl) ?_);rintro ρ wa2 v2 wb2 iv2 r he hw h_ ⟨vx1,rfl,hn⟩;clear hf;have hx:=cP.cw (S:=fun _=>False) hn r.bu (mN h_);clear r;clear hn;obtain⟨ax1,cx1,rfl,-,-⟩:=dx.shape hx;conv=>whnf
 refine bz (cE hw (Φ:=fun _ w' v w2=>∃vn vb vs,v= .agg #[vn,vb,vs]∧dT w2 (Nw (fun _=>False) w' w2) vn vb vs fA) (fun ρ w' r=>tM w') ?_);rintro ρ wa3 v3 wb3 iv3 r he hw h_ ⟨vn2,vb2,vs2,rfl,hn⟩;replace hx:=cP.cB hx r (bs w) he (mC h_);have hf:=hn.cw r.bu (mN h_);clear r;clear hn;obtain⟨an2,cn2,ab2,cb2,aq2,cq2,rfl,rfl,rfl,-,-,-⟩:=hf.shape;conv=>whnf
 refine bz (cE hw (Φ:=fun _ w' v w2=>∃vu vx,v= .tuple #[vu,vx,.int .i64 0]∧cP w2 (Nw (fun _=>False) w' w2) vu Ih∧∃a n c,vx= .slice a n c) (fun ρ w' r=>(Aa (S:=(fun g=>Cv (fun _=>False) w.heap.size iv3 g∨g=(ρ 0).g)) (l:=Ef) (h:=2) (fun g hg=>hg.elim (Rel.old r (bs w) g) fun e=>by subst e;exact Rel.lt r (id:=0) rfl) (dT.cG (dT.rel hf r (bs w)) fun g hg=>.inl hg) (show ix w' (fun g=>Cv (fun _=>False) w.heap.size iv3 g∨g=(ρ 0).g) (.slice (some ⟨(ρ 0).g,0,none⟩) 1 1) Ef from⟨[[.int .i64 2,.int .i64 0,.int .i64 0,.int .i64 (-12)]],(r.oE (id:=0) (sz:=4) (n:=1) rfl rfl (by decide) (by repeat' first|refine List.forall_mem_cons.2 ⟨rfl,?_⟩|exact fun u hu=>absurd hu List.not_mem_nil)).cG fun g hg=>.inr hg,rfl,by simp,fun j cs x h1 h2=>by cases j with|zero=>(cases h1;cases h2;rfl)|succ j=>cases h2⟩) Ac By xl Ad rfl Ei CA JS Jf).mono fun _ _ ⟨v2,e1,e2,vu,vx,e3,e4,e5⟩=>⟨v2,e1,e2,vu,vx,e3,e4,by obtain⟨a,c,h,_⟩:=dx.shape e5;exact⟨a,_,c,h⟩⟩) ?_);rintro ρ wa4 v4 wb4 iv4 r he hw h_ ⟨vu1,_,rfl,hn,ay1,ny1,cy1,rfl⟩;replace hx:=cP.cB hx r (bs w) he (mC h_);clear hf;have hu:=cP.cw (S:=fun _=>False) hn r.bu (mN h_);clear r;clear hn;obtain⟨au1,cu1,rfl,-,-⟩:=dx.shape hu;conv=>whnf
 refine bz (cE hw (Φ:=fun _ w' v w2=>∃vn vb vs,v= .agg #[vn,vb,vs]∧dT w2 (Nw (fun _=>False) w' w2) vn vb vs fA) (fun ρ w' r=>tM w') ?_);rintro ρ wa5 v5 wb5 iv5 r he hw h_ ⟨vn3,vb3,vs3,rfl,hn⟩;replace hx:=cP.cB hx r (bs w) he (mC h_);replace hu:=cP.cB hu r (bs w) he (mC h_);have hf:=hn.cw r.bu (mN h_);clear r;clear hn;obtain⟨an3,cn3,ab3,cb3,aq3,cq3,rfl,rfl,rfl,-,-,-⟩:=hf.shape;conv=>whnf
 refine bz (cE hw (Φ:=fun _ w' v w2=>v= .tuple #[xn 9 0 0,.int .i64 0]) (fun ρ w' r=>(Ee (S:=Cv (fun _=>False) w.heap.size iv5) (h:=2) (Rel.old r (bs w)) (dT.rel hf r (bs w)) Ac (qN xl).1 (by rw[Ad];decide)).mono fun _ _ ⟨v2,e1,e2,e3⟩=>⟨v2,e1,e2,by rw[e3,Ad];rfl⟩) ?_);rintro ρ wa6 v6 wb6 iv6 r he hw h_ rfl;replace hx:=cP.cB hx r (bs w) he (mC h_);replace hu:=cP.cB hu r (bs w) he (mC h_);clear hf;clear r;conv=>whnf
 refine bz (cE hw (Φ:=fun _ w' v w2=>∃vr,v= .tuple #[vr,.int .i64 0]∧cR w2 (Nw (fun _=>False) w' w2) vr ((2:Int):Rat)) (fun ρ w' r=>(Cy 25 10 w' (by decide) (by decide) (by decide)).mono fun _ _ ⟨v2,e1,e2,vr,rt,e3,e4,e5,e6⟩=>⟨v2,e1,e2,vr,e3,by
  have:rt=2000:=Ig e4 e5 (by decide) (by decide);rw[this]at e6
  exact Jh▸e6⟩) ?_)
 rintro ρ wa7 v7 wb7 iv7 r he hw h_ ⟨vr1,rfl,hn⟩;replace hx:=cP.cB hx r (bs w) he (mC h_);replace hu:=cP.cB hu r (bs w) he (mC h_);have hl:=hn.cw (S:=fun _=>False) r.bu (mN h_);clear r;obtain⟨s7_0a,s7_0b,s7_0c,s7_0d,s7_0e,s7_0f,s7_0g,s7_0h,rfl⟩:=hl.shape;clear hn;conv=>whnf
 refine bz (cE hw (Φ:=fun _ w' v w2=>∃q,v= .tuple #[q,.int .i64 0]∧cR w2 (Nw (fun _=>False) w' w2) q (Rat.divInt (-3) 2)) (fun ρ w' r=>(GU (-3) 2 w' (by decide) (by decide) (by decide) (by decide)).mono fun _ _ ⟨v2,e1,e2,e3⟩=>⟨v2,e1,e2,e3.elim (fun k=>absurd k.1 (by decide)) fun h=>h.2⟩) ?_);rintro ρ wa8 v8 wb8 iv8 r he hw h_ ⟨q1,rfl,hn⟩;replace hx:=cP.cB hx r (bs w) he (mC h_);replace hu:=cP.cB hu r (bs w) he (mC h_);replace hl:=hl.cB r (bs w) he (mC h_);have hh:=hn.cw (S:=fun _=>False) r.bu (mN h_);clear r;obtain⟨s8_0a,s8_0b,s8_0c,s8_0d,s8_0e,s8_0f,s8_0g,s8_0h,rfl⟩:=hh.shape;clear hn;conv=>whnf
 refine bz (cH (Φ:=fun _ w' v w2=>dQ w2 (fun _=>False) w'.heap.size [(w'.heap.size,w2.heap.size)] v 9 (cU Ik)) (fun ρ w' r=>Bz (S:=fun g=>g=(ρ 4).g) (fun g hg=>by subst hg;exact Rel.lt r (id:=4) rfl) (Hv r (id:=4) (n:=9) (l:=Ik) rfl rfl (by decide)) (by decide) (by decide) (by decide)) ?_);rintro ρ wa9 v9 wb9 r he hb hn;replace hw:=hw.tr hb;replace hx:=cP.cG (S':=Bs (fun _=>False) w.heap.size ((wa9.heap.size,wb9.heap.size)::iv8) v9) (cP.cD (cP.rel hx r (bs w)) fun g hg=>he.block g (Rel.old r (bs w) g hg)) fun g hg=>Bs.of r (bs w) (fun x hx=>aD _ hx) hn hg;replace hu:=cP.cG (S':=Bs (fun _=>False) w.heap.size ((wa9.heap.size,wb9.heap.size)::iv8) v9) (cP.cD (cP.rel hu r (bs w)) fun g hg=>he.block g (Rel.old r (bs w) g hg)) fun g hg=>Bs.of r (bs w) (fun x hx=>aD _ hx) hn hg;replace hl:=cR.cG (S':=Bs (fun _=>False) w.heap.size ((wa9.heap.size,wb9.heap.size)::iv8) v9) (cR.cD (hl.rel r (bs w)) fun g hg=>he.block g (Rel.old r (bs w) g hg)) fun g hg=>Bs.of r (bs w) (fun x hx=>aD _ hx) hn hg;replace hh:=cR.cG (S':=Bs (fun _=>False) w.heap.size ((wa9.heap.size,wb9.heap.size)::iv8) v9) (cR.cD (hh.rel r (bs w)) fun g hg=>he.block g (Rel.old r (bs w) g hg)) fun g hg=>Bs.of r (bs w) (fun x hx=>aD _ hx) hn hg;have hX:=hn.cw (S:=fun _=>False) r.bu (iv:=(wa9.heap.size,wb9.heap.size)::iv8) aJ;clear r he hb hn;generalize (wa9.heap.size,wb9.heap.size)::iv8=iv9 at*
 obtain⟨ax,cx,rfl,hcx⟩:=hX.row.form;obtain⟨gx,rfl⟩:=hX.at (by decide);conv=>whnf
 refine⟨⟨gx,0,none⟩,rfl,⟨by omega,by omega⟩,?_⟩;conv=>whnf
 intro ρ w' r;obtain⟨g,hg,h1,h2,h3,h4,h5⟩:=(hX.rel r (bs w)).store (j:=8) (by decide) (hh.cD (Bs.same r (bs w))) r (bs w);injection hg with hg;injection hg with hg;subst hg;refine⟨h1,h2,h3,fun w5 hw5=>?_⟩;obtain⟨k1,k2,k3⟩:=h5 w5 hw5;rw[H5]at k1;have hw2:cN w.heap.size w w5:=(hw.tr r.cC).tr (cN.grown k2 (fun g e=>by injection e with e;subst e;exact h4.elim (fun h=>h.elim) fun h=>h.1) r.bu);have hx2:=cP.cG (S':=Cv (fun _=>False) w.heap.size iv9) (cP.cD hx (Bs.kept r (bs w) k2 fun g e=>e)) fun g hg=>hg.1;have hu2:=cP.cG (S':=Cv (fun _=>False) w.heap.size iv9) (cP.cD hu (Bs.kept r (bs w) k2 fun g e=>e)) fun g hg=>hg.1;have hl2:=cR.cG (S':=Cv (fun _=>False) w.heap.size iv9) (cR.cD hl (Bs.kept r (bs w) k2 fun g e=>e)) fun g hg=>hg.1;have hd2:=k1.c;clear hX hx hu hl hh hw h1 h2 h3 h4 h5 hw5 k1 k2 k3 r;have hw:=hw2;have hx:=hx2;have hu:=hu2;have hl:=hl2;have hd:=hd2;clear hw2 hx2 hu2 hl2 hd2;conv=>whnf
 refine cF hτ dV [.x 0,.x 1,.x 2,.x 3,.x 4,.x 5,.x 6,.x 7,.x 8,.x 9,.x 10,.x 11,.x 12,.x 13,.x 14,.x 15,.x 16,.x 17,.x 18,.x 19,.x 20,.x 21,.x 22,.x 23,.x 24,.x 25,.x 26,.x 27,.x 28,.x 29,.x 30,.x 31,.x 32,.x 33,.x 34,.x 35] (by kernel_rfl) (by kernel_rfl) ?_;conv=>whnf
 refine cE hw (Φ:=fun _ w' v w2=>dQ w2 (fun _=>False) w'.heap.size [(w'.heap.size,w2.heap.size)] v 9 (cU Il)) (fun ρ w' r=>Bz (S:=fun g=>g=(ρ 5).g) (fun g hg=>by subst hg;exact Rel.lt r (id:=5) rfl) (Hv r (id:=5) (n:=9) (l:=Il) rfl rfl (by decide)) (by decide) (by decide) (by decide)) ?_;rintro ρ wa10 v10 wb10 iv10 r he hw h_ hn;replace hx:=cP.cB hx r (bs w) he (mC h_);replace hu:=cP.cB hu r (bs w) he (mC h_);replace hl:=hl.cB r (bs w) he (mC h_);replace hd:=cP.cB hd r (bs w) he (mC h_);have hX:=hn.cw (S:=fun _=>False) r.bu (mN h_);clear r he hn;have hv:=hX.c;rw[Im]at hv;clear hX;obtain⟨av,cv,rfl,-,-⟩:=dx.shape hv;conv=>whnf
 refine cE hw (Φ:=fun _ w' v w2=>v= .bool true) (fun ρ w' r=>(qP (S:=Cv (fun _=>False) w.heap.size iv10) (Rel.old r (bs w)) (cP.rel hx r (bs w)) (cP.rel hv r (bs w))).mono fun _ _ ⟨v2,e1,e2,e3⟩=>⟨v2,e1,e2,by rw[e3];exact congrArg _ (bJ rfl)⟩) ?_;rintro ρ wa11 v11 wb11 iv11 r he hw h_ rfl;clear hx;replace hu:=cP.cB hu r (bs w) he (mC h_);replace hl:=hl.cB r (bs w) he (mC h_);replace hd:=cP.cB hd r (bs w) he (mC h_);clear hv;clear r he;conv=>whnf
 refine cE hw (Φ:=fun _ w' v w2=>v= .bool true) (fun ρ w' r=>(qP (S:=Cv (fun _=>False) w.heap.size iv11) (Rel.old r (bs w)) (cP.rel hu r (bs w)) (cP.rel hd r (bs w))).mono fun _ _ ⟨v2,e1,e2,e3⟩=>⟨v2,e1,e2,by rw[e3];exact congrArg _ (bJ rfl)⟩) ?_;rintro ρ wa12 v12 wb12 iv12 r he hw h_ rfl;clear hu;replace hl:=hl.cB r (bs w) he (mC h_);clear hd;clear r he;conv=>whnf
 refine⟨true,fun ρ w o1 o2=>Dl 9 0 0 9 0 0 w o1 o2,?_⟩;conv=>whnf
 refine cE hw (Φ:=fun _ w' v w2=>cR w2 (Nw (fun _=>False) w' w2) v ((2:Int):Rat)) (fun ρ w' r=>jz 2 w' (by decide)) ?_;rintro ρ wa13 v13 wb13 iv13 r he hw h_ hn;replace hl:=hl.cB r (bs w) he (mC h_);have ht:=hn.cw (S:=fun _=>False) r.bu (mN h_);clear r he hn;obtain⟨s13_0,s13_1,s13_2,s13_3,s13_4,s13_5,s13_6,s13_7,rfl⟩:=ht.shape;conv=>whnf
 refine cE hw (Φ:=fun _ w' v w2=>v= .bool true) (fun ρ w' r=>(GV (S:=Cv (fun _=>False) w.heap.size iv13) (Rel.old r (bs w)) (hl.rel r (bs w)) (ht.rel r (bs w))).mono fun _ _ ⟨v2,e1,e2,e3⟩=>⟨v2,e1,e2,by rw[e3];exact congrArg _ (bJ rfl)⟩) ?_;rintro ρ wa14 v14 wb14 iv14 r he hw h_ rfl;clear hl;clear ht;clear r he;conv=>whnf
 intro ρe we re;exact⟨_,rfl,hw.tr re.cC,rfl⟩
def Ji(cs:List Value):Prop:=∃b a n c b2 a2 n2 c2,cs=[.bool b,.slice a n c,.bool b2,.slice a2 n2 c2]
def uz(cs:List Value):Prop:=∃b a n c b2 a2 n2 c2,cs=[.bool b,.slice a n c,.bool b2,.slice a2 n2 c2]∧n<=3∧n2<=3
theorem kr(a:Addr)(m n:Nat):(a.add m).add n=a.add (m+n):=by
 unfold Addr.add;split<;>split<;>simp_all<;>omega
theorem gX.l3{S:Nat->Prop}{w:World}{b1 b2:Bool}{a1 a2:Option Addr}{n1 n2 c1 c2:Nat}{a b:Int}(h:gX w S (.agg #[.bool b1,.slice a1 n1 c1,.bool b2,.slice a2 n2 c2]) a b)(hf:uz [.bool b1,.slice a1 n1 c1,.bool b2,.slice a2 n2 c2]):
  eG w S (.agg #[.bool b1,.slice a1 n1 c1,.bool b2,.slice a2 n2 c2]) (ratio a b)∧rl (ratio a b)<=3:=by
 obtain⟨_,_,_,_,_,_,_,_,e,k1,k2⟩:=hf;simp only[List.cons.injEq,Value.slice.injEq,Value.bool.injEq,and_true]at e;obtain⟨rfl,⟨rfl,rfl,rfl⟩,rfl,rfl,rfl,rfl⟩:=e;obtain⟨b1,l1,b2,l2,e,h1,h2⟩:=h;simp only[Value.agg.injEq,Array.mk.injEq,List.cons.injEq,Value.bool.injEq,and_true]at e;obtain⟨rfl,rfl,rfl,rfl⟩:=e;have g1:=h1.short k1;have g2:=h2.short k2;have r1:=g1.ln;have r2:=g2.ln;have hr:=iH a b;refine⟨⟨_,_,_,_,a,b,rfl,?_,?_,rfl⟩,by omega⟩
 ·obtain⟨ng,ls,i1,i2,i3⟩:=g1;exact⟨ng,ls,i1,i2,by omega⟩
 ·obtain⟨ng,ls,i1,i2,i3⟩:=g2;exact⟨ng,ls,i1,i2,by omega⟩
theorem Dm{S:Nat->Prop}{w:World}{v:Value}{css:List (List Value)}(hS:Old S w)(hq:iS w S 4 v css.flatten css.length)(hF:∀cs∈css,Ji cs):
  dh PG N.tf #[v] w (dw w fun v' _=>∃d,v'= .bool d∧(d=true->css.length<=80∧∀cs∈css,uz cs)):=by
 have hw:cN w.heap.size w w:=cN.refl;have h4:∀cs∈css,cs.length=4:=fun cs hc=>by obtain⟨_,_,_,_,_,_,_,_,rfl⟩:=hF cs hc;rfl
 have hK:eH 4 (fun _ _ cs x=>cs=x) w S v css:=⟨css,hq,rfl,h4,fun j cs x h1 h2=>by rw[h1]at h2;injection h2⟩
 obtain⟨a,c,rfl,hc,hm⟩:=hK.shape;unfold maxLen at hm;refine xO (by simp) ?_;conv=>whnf
 refine⟨Nat×World,fun z=>⟨[(0,.o (.v (.slice a css.length c))),(3,.o (.v (.int .i64 ((z.1:Nat):Int))))],[],0,[],z.2⟩,fun z=>css.length-z.1,
  fun z=>z.1<=css.length∧cN w.heap.size w z.2∧∀j cs,j<z.1->css[j]? =some cs->uz cs,?_,?_⟩
 ·intro ρ w' r3;exact⟨(0,w'),⟨aN _,hw.tr r3.cC,fun j cs hj=>absurd hj (Nat.not_lt_zero j)⟩,Sub.gen [] r3 trivial ⟨rfl,rfl,trivial⟩ (by simp[dG,cW.scopd,At.sc]) (by simp[cV,SV.sc,At.sc,cQ]) (by rfl) (fun lo hi h=>h)⟩
 clear hw;rintro⟨i,w1⟩ ⟨hi,hw,hE⟩;dsimp only at hi hw hE ⊢;conv=>whnf
 refine dE.mk (fun hib=>?_) (fun hib=>?_)
 ·have hib:i<css.length:=by simpa using hib
  conv=>whnf
  refine dE.mk (fun h80=>?_) (fun h80=>?_)
  ·have h80:css.length<=80:=by have:=aI h80;omega
   obtain⟨cs,hcs⟩:∃cs,css[i]? =some cs:=⟨_,aB hib⟩
   obtain⟨g0,g1,g2,g3,g4,g5,g6,g7,rfl⟩:=hF cs (aF hcs);obtain⟨adx,cs2,hax,he2,-,hat⟩:=hK.load (by decide) hcs;subst he2;conv=>whnf
   refine⟨adx,hax,⟨by omega,by omega⟩,?_⟩;conv=>whnf
   refine⟨.slice g1 g2 g3,fun ρ w' r=>?_,?_⟩
   ·obtain⟨k1,k2⟩:=hat 1 _ rfl;rw[aC,bw (w:=w) (w2:=w') (by simp only[cL];exact(hw.tr r.cC).block _ (hS _ k1))];exact k2
   conv=>whnf
   refine dE.mk (fun k3=>?_) (fun k3=>?_)
   ·conv=>whnf
    intro ρe we re;exact⟨_,rfl,hw.tr re.cC,_,rfl,fun h=>by cases h⟩
   have k3:=aH k3;conv=>whnf
   refine⟨adx,hax,⟨by omega,by omega⟩,?_⟩;conv=>whnf
   refine⟨.slice g5 g6 g7,fun ρ w' r=>?_,?_⟩
   ·obtain⟨k1,k2⟩:=hat 3 _ rfl;rw[aC,bw (w:=w) (w2:=w') (by simp only[cL];exact(hw.tr r.cC).block _ (hS _ k1))];exact k2
   conv=>whnf
   refine dE.mk (fun k4=>?_) (fun k4=>?_)
   ·conv=>whnf
    intro ρe we re;exact⟨_,rfl,hw.tr re.cC,_,rfl,fun h=>by cases h⟩
   have k4:=aH k4;have hE2:∀j cs,j<i+1->css[j]? =some cs->uz cs:=fun j cs hj hc=>by
    rcases aV j i with h|h
    ·exact hE j cs h hc
    ·have:j=i:=by omega
     subst this;rw[hcs]at hc;injection hc with hc;subst hc;exact⟨_,_,_,_,_,_,_,_,rfl,by omega,by omega⟩
   conv=>whnf
   refine⟨((i+1:Nat):Int),by rw[wrap64]<;>omega,?_⟩;conv=>whnf
   intro ρ3 w6 r3;exact⟨(i+1,w6),⟨hib,hw.tr r3.cC,hE2⟩,Sub.gen [] r3 trivial ⟨rfl,rfl,trivial⟩ (by simp[dG,cW.scopd,At.sc]) (by simp[cV,SV.sc,At.sc,cQ]) (by rfl) (fun lo hi h=>h),by dsimp only;omega⟩
  ·have h80:=aH h80;conv=>whnf
   intro ρe we re;exact⟨_,rfl,hw.tr re.cC,_,rfl,fun h=>by have:=aI h;omega⟩
 have hib:i=css.length:=aP hi (by simpa using hib);subst hib;conv=>whnf
 intro ρe we re
 exact⟨_,rfl,hw.tr re.cC,_,rfl,fun h=>⟨by have:=aI h;omega,fun cs hc=>by
  obtain⟨j,hj⟩:=ah hc
  exact hE j cs (aE.1 hj).1 hj⟩⟩
end Go.Ex
namespace Go.Ex
theorem aAD{a b x p q:Rat}(h1:a<x)(h2:x<=b):(p<=q->p<=p+(x-a) / (b-a)*(q-p)∧p+(x-a) / (b-a)*(q-p)<=q)∧(q<=p->q<=p+(x-a) / (b-a)*(q-p)∧p+(x-a) / (b-a)*(q-p)<=p):=by
 have hd:0<b-a:=by grind
 have hi:0<=(b-a)⁻¹:=Rat.le_of_lt (Rat.inv_pos.2 hd);obtain⟨t,ht⟩:∃t,(x-a) / (b-a)=t:=⟨_,rfl⟩
 have t0:0<=t:=by rw[<-ht,bZ];exact Rat.mul_nonneg (by grind) hi
 have t1:t<=1:=by
  rw[<-ht,bZ,<-Rat.mul_inv_cancel (b-a) (by grind)];exact Rat.mul_le_mul_of_nonneg_right (by grind) hi
 rw[ht];refine⟨fun h=>?_,fun h=>?_⟩
 ·have k1:0<=t*(q-p):=Rat.mul_nonneg t0 (by grind);have k2:t*(q-p)<=1*(q-p):=Rat.mul_le_mul_of_nonneg_right t1 (by grind);grind
 ·have k1:0<=t*(p-q):=Rat.mul_nonneg t0 (by grind);have k2:t*(p-q)<=1*(p-q):=Rat.mul_le_mul_of_nonneg_right t1 (by grind);have k3:t*(q-p)= -(t*(p-q)):=by grind
  grind
end Go.Ex
namespace Go.Ex
open Go Go.Sx Go.Proofs
theorem mU(c b:Int×Int×Rat):fU c=fU b↔(c.1=b.1∧c.2.1=b.2.1)∨(c.1=b.2.1∧c.2.1=b.1):=by
 unfold fU;rw[Prod.mk.injEq];omega
theorem Ae(c b:Int×Int×Rat):gg c=gg b↔c.1=b.1∧c.2.1=b.2.1:=by
 unfold gg;rw[Prod.mk.injEq]
section
variable{α β:Type}{L:List α}{K:α->β}{x:β}
theorem kA{k:Nat}{c:α}(hc:L[k]? =some c)(h:K c≠x)(hE:x∈L.map K↔x∈(L.drop k).map K):x∈L.map K↔x∈(L.drop (k+1)).map K:=by
 rw[hE,List.drop_eq_getElem_cons (aE.1 hc).1,(aE.1 hc).2,List.map_cons,List.mem_cons,or_iff_right fun e=>h e.symm]
theorem sF{k:Nat}{c:α}(hc:L[k]? =some c)(h:K c=x):x∈L.map K:=aU.2 ⟨c,aF hc,h⟩
theorem Af{k:Nat}(hk:L.length<=k)(hE:x∈L.map K↔x∈(L.drop k).map K):x∉L.map K:=fun h=>by
 have:=hE.1 h;rw[List.drop_eq_nil_of_le hk]at this
 cases this
end
theorem oZ(n:Int)(an ab aq:Option Addr)(ln cn nb cb nq cq:Nat)(w:World):dh PG N.rE #[.agg #[.slice an ln cn,.slice ab nb cb,.slice aq nq cq],.int .i64 n] w (dw w fun v' _=>∃d,v'= .bool d∧(d=true↔iC ln n)):=by
 have hw:cN w.heap.size w w:=cN.refl;refine uZ (by simp) ?_;conv=>whnf
 refine dE.mk (fun h1=>?_) (fun h1=>?_)
 ·conv=>whnf
  intro ρe we re;have h1:=aI h1;exact⟨_,rfl,hw.tr re.cC,_,rfl,by rw[decide_eq_true_iff];exact⟨fun h=>⟨h1,h⟩,fun h=>h.2⟩⟩
 ·conv=>whnf
  intro ρe we re;have h1:=aH h1;exact⟨_,rfl,hw.tr re.cC,_,rfl,(fun h=>by cases h),fun h=>absurd h.1 h1⟩
theorem kB(n lo hi:Int)(w:World):dh PG N.tk #[.int .i64 n,.int .i64 lo,.int .i64 hi] w (dw w fun v' _=>∃d,v'= .bool d∧(d=true↔lo<=n∧n<=hi)):=by
 have hw:cN w.heap.size w w:=cN.refl;refine xR (by simp) ?_;conv=>whnf
 refine dE.mk (fun h1=>?_) (fun h1=>?_)
 ·conv=>whnf
  intro ρe we re;have h1:=aI h1;exact⟨_,rfl,hw.tr re.cC,_,rfl,by rw[decide_eq_true_iff];exact⟨fun h=>⟨h1,h⟩,fun h=>h.2⟩⟩
 ·conv=>whnf
  intro ρe we re;have h1:=aH h1;exact⟨_,rfl,hw.tr re.cC,_,rfl,(fun h=>by cases h),fun h=>absurd h.1 h1⟩
theorem xo{S:Nat->Prop}{w:World}{v:Value}{q:Rat}(hS:Old S w)(hp:eG w S v q):dh PG N.iu #[v] w (dw w fun v' _=>v'= .int .i64 (rs q)):=by
 obtain⟨a,b,h1,rfl,_,_⟩:=hp.v;exact qQ hS h1
set_option maxHeartbeats 2000000 in
theorem sG{S:Nat->Prop}{w:World}{vn vb vs:Value}{f:fK}(hS:Old S w)(hf:dT w S vn vb vs f):dh PG N.th #[.agg #[vn,vb,vs]] w (dw w fun v' _=>v'= .int .i64 (df f)):=by
 have hw:cN w.heap.size w w:=cN.refl;obtain⟨an,cn,ab,cb,aq,cq,rfl,rfl,rfl,hmn,hmb,hms⟩:=hf.shape;refine xP (by simp) ?_;conv=>whnf
 refine dE.mk (fun h0=>?_) (fun h0=>?_)
 ·have h0:=aI h0;conv=>whnf
  intro ρe we re;exact⟨_,rfl,hw.tr re.cC,by show Value.int .i64 _=_;rw[df,if_pos (by omega)]⟩
 have h0:=aH h0;conv=>whnf
 refine dE.mk (fun h1=>?_) (fun h1=>?_)
 ·have h1:=aI h1;conv=>whnf
  intro ρe we re;exact⟨_,rfl,hw.tr re.cC,by show Value.int .i64 _=_;rw[df,if_pos (by omega)]⟩
 have h1:=aH h1;conv=>whnf
 refine dE.mk (fun h2=>?_) (fun h2=>?_)
 ·have h2:=aI h2;conv=>whnf
  intro ρe we re;exact⟨_,rfl,hw.tr re.cC,by show Value.int .i64 _=_;rw[df,if_pos (by omega)]⟩
 have h2:=aH h2;conv=>whnf
 refine⟨Nat×World×Iv,fun z=>⟨[(1,.o (.p 0 0)),(3,.o (.v (.int .i64 ((z.1:Nat):Int))))],[(0,.box T.Frame [.v (.slice an f.nodes.length cn),.v (.slice ab f.bars.length cb),.v (.slice aq f.cO.length cq)])],1,z.2.2,z.2.1⟩,fun z=>f.nodes.length-z.1,
  fun z=>z.1<=f.nodes.length∧cN w.heap.size w z.2.1∧eL eP [] f.nodes=eL eP (f.nodes.take z.1) (f.nodes.drop z.1),?_,?_⟩
 ·intro ρ w' r3;exact⟨(0,w',_),⟨aN _,hw.tr r3.cC,rfl⟩,Sub.gen [] r3 ⟨rfl,trivial⟩ ⟨rfl,rfl,trivial⟩ (by simp[dG,cW.scopd,At.sc]) (by simp[cV,SV.sc,At.sc,cQ]) (by rfl) (fun lo hi h=>h)⟩
 clear hw;rintro⟨i,w1,iv⟩ ⟨hi,hw,hE⟩;dsimp only at hi hw hE ⊢;conv=>whnf
 refine dE.mk (fun hib=>?_) (fun hib=>?_)
 ·have hib:i<f.nodes.length:=by simpa using hib
  obtain⟨b,hx⟩:∃b,f.nodes[i]? =some b:=⟨_,aB hib⟩
  have hLl:(f.nodes.take i).length=i:=by rw[aX];omega
  obtain⟨adb,cs,hab,hF,-,hlb⟩:=hf.nodes.load (by decide) hx;have hF:cs=[.int .i64 b.1,.int .i64 b.2.1,.int .i64 b.2.2]:=hF;subst hF;conv=>whnf
  refine⟨adb,hab,⟨by omega,by omega⟩,?_⟩;conv=>whnf
  refine⟨[.int .i64 b.1,.int .i64 b.2.1,.int .i64 b.2.2],rfl,fun ρ w' r j u hu=>?_,?_⟩
  ·obtain⟨k1,k2⟩:=hlb j u hu;rw[aC,bw (w:=w) (w2:=w') (by rw[cL,cL];exact(hw.tr r.cC).block _ (hS _ k1))];exact k2
  conv=>whnf
  refine bz (cE hw (Φ:=fun _ w' v w2=>∃d,v= .bool d∧(d=true↔kx b.1)) (fun ρ w' r=>kB _ _ _ w') ?_);rintro ρ wa1 v1 wb1 iv1 r he hw h_ ⟨d0,rfl,hz0⟩;clear r
  cases d0
  ·have hz0:¬kx b.1:=fun h=>by have:=hz0.2 h;cases this
   conv=>whnf
   intro ρe we re;exact⟨_,rfl,hw.tr re.cC,by show Value.int .i64 _=_;rw[df,aK (by omega),if_pos (by rw[hE,cK hx (show eP (f.nodes.take i) b=2 by rw[eP,aK (fun h=>hz0 h.1)]) (by decide)];decide),hE,cK hx (show eP (f.nodes.take i) b=2 by rw[eP,aK (fun h=>hz0 h.1)]) (by decide)]⟩
  replace hz0:=hz0.1 rfl;conv=>whnf
  refine bz (cE hw (Φ:=fun _ w' v w2=>∃d,v= .bool d∧(d=true↔kx b.2.1)) (fun ρ w' r=>kB _ _ _ w') ?_);rintro ρ wa2 v2 wb2 iv2 r he hw h_ ⟨d1,rfl,hz1⟩;clear r
  cases d1
  ·have hz1:¬kx b.2.1:=fun h=>by have:=hz1.2 h;cases this
   conv=>whnf
   intro ρe we re;exact⟨_,rfl,hw.tr re.cC,by show Value.int .i64 _=_;rw[df,aK (by omega),if_pos (by rw[hE,cK hx (show eP (f.nodes.take i) b=2 by rw[eP,aK (fun h=>hz1 h.2.1)]) (by decide)];decide),hE,cK hx (show eP (f.nodes.take i) b=2 by rw[eP,aK (fun h=>hz1 h.2.1)]) (by decide)]⟩
  replace hz1:=hz1.1 rfl;conv=>whnf
  refine bz (cE hw (Φ:=fun _ w' v w2=>∃d,v= .bool d∧(d=true↔kx b.2.2)) (fun ρ w' r=>kB _ _ _ w') ?_);rintro ρ wa3 v3 wb3 iv3 r he hw h_ ⟨d2,rfl,hz2⟩;clear r
  cases d2
  ·have hz2:¬kx b.2.2:=fun h=>by have:=hz2.2 h;cases this
   conv=>whnf
   intro ρe we re;exact⟨_,rfl,hw.tr re.cC,by show Value.int .i64 _=_;rw[df,aK (by omega),if_pos (by rw[hE,cK hx (show eP (f.nodes.take i) b=2 by rw[eP,aK (fun h=>hz2 h.2.2)]) (by decide)];decide),hE,cK hx (show eP (f.nodes.take i) b=2 by rw[eP,aK (fun h=>hz2 h.2.2)]) (by decide)]⟩
  replace hz2:=hz2.1 rfl;conv=>whnf
  refine⟨Nat×World,fun z=>⟨[(1,.o (.p 0 0)),(3,.o (.v (.int .i64 ((i:Nat):Int)))),(4,.o (.p 1 0)),(5,.o (.v (.int .i64 ((z.1:Nat):Int))))],[(1,.box T.Node [.v (.int .i64 b.1),.v (.int .i64 b.2.1),.v (.int .i64 b.2.2)]),(0,.box T.Frame [.v (.slice an f.nodes.length cn),.v (.slice ab f.bars.length cb),.v (.slice aq f.cO.length cq)])],2,iv3,z.2⟩,fun z=>i-z.1,
   fun z=>z.1<=i∧cN w.heap.size w z.2∧(b∈(f.nodes.take i).map id↔b∈((f.nodes.take i).drop z.1).map id),?_,?_⟩
  ·intro ρ w' r3;exact⟨(0,w'),⟨aN _,hw.tr r3.cC,Iff.rfl⟩,Sub.gen [] r3 ⟨rfl,rfl,trivial⟩ ⟨rfl,rfl,rfl,rfl,trivial⟩ (by simp[dG,cW.scopd,At.sc]) (by simp[cV,SV.sc,At.sc,cQ]) (by rfl) (fun lo hi h=>h)⟩
  clear hw;rintro⟨k,w2⟩ ⟨hk,hw,hK⟩;dsimp only at hk hw hK ⊢;conv=>whnf
  refine dE.mk (fun hkb=>?_) (fun hkb=>?_)
  ·have hkb:k<i:=by have:=aI hkb;omega
   obtain⟨c,hc⟩:∃c,f.nodes[k]? =some c:=⟨_,aB (by omega)⟩
   have hcL:(f.nodes.take i)[k]? =some c:=by rw[bM hkb];exact hc
   obtain⟨adc,cs2,hac,hF2,-,hlc⟩:=hf.nodes.load (by decide) hc;have hF2:cs2=[.int .i64 c.1,.int .i64 c.2.1,.int .i64 c.2.2]:=hF2;subst hF2;conv=>whnf
   refine cF hτ dV [.x 0,.x 1,.x 2,.x 3,.x 4,.x 5,.x 6] (by kernel_rfl) (by kernel_rfl) ?_;conv=>whnf
   refine⟨adc,hac,⟨by omega,by omega⟩,?_⟩;conv=>whnf
   refine⟨[.int .i64 c.1,.int .i64 c.2.1,.int .i64 c.2.2],rfl,fun ρ w' r j u hu=>?_,?_⟩
   ·obtain⟨k1,k2⟩:=hlc j u hu;rw[aC,bw (w:=w) (w2:=w') (by rw[cL,cL];exact(hw.tr r.cC).block _ (hS _ k1))];exact k2
   conv=>whnf
   refine⟨decide (c=b),fun ρ w o1 o2=>Bx c b w o1 o2,?_⟩;conv=>whnf
   refine dE.mk (fun hd=>?_) (fun hd=>?_)
   ·have hd:c=b:=aI hd;have hin:b∈f.nodes.take i:=by have:=sF (K:=id) hcL hd;rwa [List.map_id]at this
    conv=>whnf
    intro ρe we re;exact⟨_,rfl,hw.tr re.cC,by show Value.int .i64 _=_;rw[df,aK (by omega),if_pos (by rw[hE,cK hx (show eP (f.nodes.take i) b=12 by rw[eP,if_pos ⟨hz0,hz1,hz2⟩,if_pos hin]) (by decide)];decide),hE,cK hx (show eP (f.nodes.take i) b=12 by rw[eP,if_pos ⟨hz0,hz1,hz2⟩,if_pos hin]) (by decide)]⟩
   have hd:c≠b:=aH hd;have hK2:=kA (K:=id) hcL hd hK;conv=>whnf
   refine⟨((k+1:Nat):Int),by rw[wrap64]<;>omega,?_⟩;conv=>whnf
   intro ρ3 w6 r3;exact⟨(k+1,w6),⟨hkb,hw.tr r3.cC,hK2⟩,Sub.gen [] r3 ⟨rfl,rfl,trivial⟩ ⟨rfl,rfl,rfl,rfl,trivial⟩ (by simp[dG,cW.scopd,At.sc]) (by simp[cV,SV.sc,At.sc,cQ]) (by rfl) (fun lo hi h=>h),by dsimp only;omega⟩
  have hkb:k=i:=by have:=aH hkb;omega
  have hdup:=Af (by rw[hLl];omega) hK;rw[List.map_id]at hdup;conv=>whnf
  rw[fb hx (qM.2 ⟨⟨hz0,hz1,hz2⟩,hdup⟩)]at hE;conv=>whnf
  refine⟨((i+1:Nat):Int),by rw[wrap64]<;>omega,?_⟩;conv=>whnf
  intro ρ3 w6 r3;exact⟨(i+1,w6,_),⟨hib,hw.tr r3.cC,hE⟩,Sub.gen [] r3 ⟨rfl,trivial⟩ ⟨rfl,rfl,trivial⟩ (by simp[dG,cW.scopd,At.sc]) (by simp[cV,SV.sc,At.sc,cQ]) (by rfl) (fun lo hi h=>h),by dsimp only;omega⟩
 have hib:i=f.nodes.length:=aP hi (by simpa using hib);rw[gq (by omega)]at hE;clear hib hi;conv=>whnf
 refine⟨Nat×World×Iv,fun z=>⟨[(1,.o (.p 0 0)),(6,.o (.v (.int .i64 ((z.1:Nat):Int))))],[(0,.box T.Frame [.v (.slice an f.nodes.length cn),.v (.slice ab f.bars.length cb),.v (.slice aq f.cO.length cq)])],1,z.2.2,z.2.1⟩,fun z=>f.bars.length-z.1,
  fun z=>z.1<=f.bars.length∧cN w.heap.size w z.2.1∧eL (eV f.nodes.length) [] f.bars=eL (eV f.nodes.length) (f.bars.take z.1) (f.bars.drop z.1),?_,?_⟩
 ·intro ρ w' r3;exact⟨(0,w',_),⟨aN _,hw.tr r3.cC,rfl⟩,Sub.gen [] r3 ⟨rfl,trivial⟩ ⟨rfl,rfl,trivial⟩ (by simp[dG,cW.scopd,At.sc]) (by simp[cV,SV.sc,At.sc,cQ]) (by rfl) (fun lo hi h=>h)⟩
 clear hw;rintro⟨i,w1,iv⟩ ⟨hi,hw,hE2⟩;dsimp only at hi hw hE2 ⊢;conv=>whnf
 refine dE.mk (fun hib=>?_) (fun hib=>?_)
 ·have hib:i<f.bars.length:=by simpa using hib
  obtain⟨b,hx⟩:∃b,f.bars[i]? =some b:=⟨_,aB hib⟩
  have hLl:(f.bars.take i).length=i:=by rw[aX];omega
  obtain⟨adb,cs,hab,hF,-,hlb⟩:=hf.bars.load (by decide) hx;obtain⟨g0,g1,g2,g3,g4,g5,g6,g7,rfl,hF⟩:=hF;conv=>whnf
  refine⟨adb,hab,⟨by omega,by omega⟩,?_⟩;conv=>whnf
  refine⟨[.int .i64 b.1,.int .i64 b.2.1,.bool g0,.slice g1 g2 g3,.bool g4,.slice g5 g6 g7],rfl,fun ρ w' r j u hu=>?_,?_⟩
  ·obtain⟨k1,k2⟩:=hlb j u hu;rw[aC,bw (w:=w) (w2:=w') (by rw[cL,cL];exact(hw.tr r.cC).block _ (hS _ k1))];exact k2
  conv=>whnf
  refine bz (cE hw (Φ:=fun _ w' v w2=>∃d,v= .bool d∧(d=true↔iC f.nodes.length b.1)) (fun ρ w' r=>oZ _ _ _ _ _ _ _ _ _ _ w') ?_);rintro ρ wa1 v1 wb1 iv1 r he hw h_ ⟨d0,rfl,hz0⟩;clear r
  cases d0
  ·have hz0:¬iC f.nodes.length b.1:=fun h=>by have:=hz0.2 h;cases this
   conv=>whnf
   intro ρe we re;exact⟨_,rfl,hw.tr re.cC,by show Value.int .i64 _=_;rw[df,aK (by omega),aK (by rw[hE];decide),if_pos (by rw[hE2,cK hx (show eV f.nodes.length (f.bars.take i) b=6 by rw[eV,aK (fun h=>hz0 h.1)]) (by decide)];decide),hE2,cK hx (show eV f.nodes.length (f.bars.take i) b=6 by rw[eV,aK (fun h=>hz0 h.1)]) (by decide)]⟩
  replace hz0:=hz0.1 rfl;conv=>whnf
  refine bz (cE hw (Φ:=fun _ w' v w2=>∃d,v= .bool d∧(d=true↔iC f.nodes.length b.2.1)) (fun ρ w' r=>oZ _ _ _ _ _ _ _ _ _ _ w') ?_);rintro ρ wa2 v2 wb2 iv2 r he hw h_ ⟨d1,rfl,hz1⟩;clear r
  cases d1
  ·have hz1:¬iC f.nodes.length b.2.1:=fun h=>by have:=hz1.2 h;cases this
   conv=>whnf
   intro ρe we re;exact⟨_,rfl,hw.tr re.cC,by show Value.int .i64 _=_;rw[df,aK (by omega),aK (by rw[hE];decide),if_pos (by rw[hE2,cK hx (show eV f.nodes.length (f.bars.take i) b=6 by rw[eV,aK (fun h=>hz1 h.2)]) (by decide)];decide),hE2,cK hx (show eV f.nodes.length (f.bars.take i) b=6 by rw[eV,aK (fun h=>hz1 h.2)]) (by decide)]⟩
  replace hz1:=hz1.1 rfl;conv=>whnf
  refine dE.mk (fun hab2=>?_) (fun hab2=>?_)
  ·have hab2:b.1=b.2.1:=by simpa using hab2
   conv=>whnf
   intro ρe we re;exact⟨_,rfl,hw.tr re.cC,by show Value.int .i64 _=_;rw[df,aK (by omega),aK (by rw[hE];decide),if_pos (by rw[hE2,cK hx (show eV f.nodes.length (f.bars.take i) b=3 by rw[eV,if_pos ⟨hz0,hz1⟩,if_pos hab2]) (by decide)];decide),hE2,cK hx (show eV f.nodes.length (f.bars.take i) b=3 by rw[eV,if_pos ⟨hz0,hz1⟩,if_pos hab2]) (by decide)]⟩
  have hab2:b.1≠b.2.1:=by simpa using hab2
  conv=>whnf
  refine⟨Nat×World,fun z=>⟨[(1,.o (.p 0 0)),(6,.o (.v (.int .i64 ((i:Nat):Int)))),(7,.o (.p 1 0)),(8,.o (.v (.int .i64 ((z.1:Nat):Int))))],[(1,.box T.J2 [.v (.int .i64 b.1),.v (.int .i64 b.2.1),.v (.bool g0),.v (.slice g1 g2 g3),.v (.bool g4),.v (.slice g5 g6 g7)]),(0,.box T.Frame [.v (.slice an f.nodes.length cn),.v (.slice ab f.bars.length cb),.v (.slice aq f.cO.length cq)])],2,iv2,z.2⟩,fun z=>i-z.1,
   fun z=>z.1<=i∧cN w.heap.size w z.2∧(fU b∈(f.bars.take i).map fU↔fU b∈((f.bars.take i).drop z.1).map fU),?_,?_⟩
  ·intro ρ w' r3;exact⟨(0,w'),⟨aN _,hw.tr r3.cC,Iff.rfl⟩,Sub.gen [] r3 ⟨rfl,rfl,trivial⟩ ⟨rfl,rfl,rfl,rfl,trivial⟩ (by simp[dG,cW.scopd,At.sc]) (by simp[cV,SV.sc,At.sc,cQ]) (by rfl) (fun lo hi h=>h)⟩
  clear hw;rintro⟨k,w2⟩ ⟨hk,hw,hK⟩;dsimp only at hk hw hK ⊢;conv=>whnf
  refine dE.mk (fun hkb=>?_) (fun hkb=>?_)
  ·have hkb:k<i:=by have:=aI hkb;omega
   obtain⟨c,hc⟩:∃c,f.bars[k]? =some c:=⟨_,aB (by omega)⟩
   have hcL:(f.bars.take i)[k]? =some c:=by rw[bM hkb];exact hc
   obtain⟨adc,cs2,hac,hF2,-,hlc⟩:=hf.bars.load (by decide) hc;obtain⟨q0,q1,q2,q3,q4,q5,q6,q7,rfl,-⟩:=hF2;conv=>whnf
   refine⟨adc,hac,⟨by omega,by omega⟩,?_⟩;conv=>whnf
   refine⟨[.int .i64 c.1,.int .i64 c.2.1,.bool q0,.slice q1 q2 q3,.bool q4,.slice q5 q6 q7],rfl,fun ρ w' r j u hu=>?_,?_⟩
   ·obtain⟨k1,k2⟩:=hlc j u hu;rw[aC,bw (w:=w) (w2:=w') (by rw[cL,cL];exact(hw.tr r.cC).block _ (hS _ k1))];exact k2
   conv=>whnf
   refine dE.mk (fun e1=>?_) (fun e1=>?_)
   ·have e1:(c.1=b.1):=by simpa using e1
    conv=>whnf
    refine dE.mk (fun e2=>?_) (fun e2=>?_)
    ·have e2:(c.2.1=b.2.1):=by simpa using e2
     have hin:=sF (K:=fU) hcL (show fU c=fU b by rw[mU];omega);conv=>whnf
     intro ρe we re;exact⟨_,rfl,hw.tr re.cC,by show Value.int .i64 _=_;rw[df,aK (by omega),aK (by rw[hE];decide),if_pos (by rw[hE2,cK hx (show eV f.nodes.length (f.bars.take i) b=5 by rw[eV,if_pos ⟨hz0,hz1⟩,aK hab2,if_pos hin]) (by decide)];decide),hE2,cK hx (show eV f.nodes.length (f.bars.take i) b=5 by rw[eV,if_pos ⟨hz0,hz1⟩,aK hab2,if_pos hin]) (by decide)]⟩
    ·have e2:¬(c.2.1=b.2.1):=by simpa using e2
     conv=>whnf
     refine dE.mk (fun e3=>?_) (fun e3=>?_)
     ·have e3:(c.1=b.2.1):=by simpa using e3
      conv=>whnf
      refine dE.mk (fun e4=>?_) (fun e4=>?_)
      ·have e4:(c.2.1=b.1):=by simpa using e4
       have hin:=sF (K:=fU) hcL (show fU c=fU b by rw[mU];omega);conv=>whnf
       intro ρe we re;exact⟨_,rfl,hw.tr re.cC,by show Value.int .i64 _=_;rw[df,aK (by omega),aK (by rw[hE];decide),if_pos (by rw[hE2,cK hx (show eV f.nodes.length (f.bars.take i) b=5 by rw[eV,if_pos ⟨hz0,hz1⟩,aK hab2,if_pos hin]) (by decide)];decide),hE2,cK hx (show eV f.nodes.length (f.bars.take i) b=5 by rw[eV,if_pos ⟨hz0,hz1⟩,aK hab2,if_pos hin]) (by decide)]⟩
      ·have e4:¬(c.2.1=b.1):=by simpa using e4
       have hK2:=kA (K:=fU) hcL (show fU c≠fU b by rw[Ne,mU];omega) hK;conv=>whnf
       refine⟨((k+1:Nat):Int),by rw[wrap64]<;>omega,?_⟩;conv=>whnf
       intro ρ3 w6 r3;exact⟨(k+1,w6),⟨hkb,hw.tr r3.cC,hK2⟩,Sub.gen [] r3 ⟨rfl,rfl,trivial⟩ ⟨rfl,rfl,rfl,rfl,trivial⟩ (by simp[dG,cW.scopd,At.sc]) (by simp[cV,SV.sc,At.sc,cQ]) (by rfl) (fun lo hi h=>h),by dsimp only;omega⟩
     ·have e3:¬(c.1=b.2.1):=by simpa using e3
      have hK2:=kA (K:=fU) hcL (show fU c≠fU b by rw[Ne,mU];omega) hK;conv=>whnf
      refine⟨((k+1:Nat):Int),by rw[wrap64]<;>omega,?_⟩;conv=>whnf
      intro ρ3 w6 r3;exact⟨(k+1,w6),⟨hkb,hw.tr r3.cC,hK2⟩,Sub.gen [] r3 ⟨rfl,rfl,trivial⟩ ⟨rfl,rfl,rfl,rfl,trivial⟩ (by simp[dG,cW.scopd,At.sc]) (by simp[cV,SV.sc,At.sc,cQ]) (by rfl) (fun lo hi h=>h),by dsimp only;omega⟩
   ·have e1:¬(c.1=b.1):=by simpa using e1
    conv=>whnf
    refine dE.mk (fun e3=>?_) (fun e3=>?_)
    ·have e3:(c.1=b.2.1):=by simpa using e3
     conv=>whnf
     refine dE.mk (fun e4=>?_) (fun e4=>?_)
     ·have e4:(c.2.1=b.1):=by simpa using e4
      have hin:=sF (K:=fU) hcL (show fU c=fU b by rw[mU];omega);conv=>whnf
      intro ρe we re;exact⟨_,rfl,hw.tr re.cC,by show Value.int .i64 _=_;rw[df,aK (by omega),aK (by rw[hE];decide),if_pos (by rw[hE2,cK hx (show eV f.nodes.length (f.bars.take i) b=5 by rw[eV,if_pos ⟨hz0,hz1⟩,aK hab2,if_pos hin]) (by decide)];decide),hE2,cK hx (show eV f.nodes.length (f.bars.take i) b=5 by rw[eV,if_pos ⟨hz0,hz1⟩,aK hab2,if_pos hin]) (by decide)]⟩
     ·have e4:¬(c.2.1=b.1):=by simpa using e4
      have hK2:=kA (K:=fU) hcL (show fU c≠fU b by rw[Ne,mU];omega) hK;conv=>whnf
      refine⟨((k+1:Nat):Int),by rw[wrap64]<;>omega,?_⟩;conv=>whnf
      intro ρ3 w6 r3;exact⟨(k+1,w6),⟨hkb,hw.tr r3.cC,hK2⟩,Sub.gen [] r3 ⟨rfl,rfl,trivial⟩ ⟨rfl,rfl,rfl,rfl,trivial⟩ (by simp[dG,cW.scopd,At.sc]) (by simp[cV,SV.sc,At.sc,cQ]) (by rfl) (fun lo hi h=>h),by dsimp only;omega⟩
    ·have e3:¬(c.1=b.2.1):=by simpa using e3
     have hK2:=kA (K:=fU) hcL (show fU c≠fU b by rw[Ne,mU];omega) hK;conv=>whnf
     refine⟨((k+1:Nat):Int),by rw[wrap64]<;>omega,?_⟩;conv=>whnf
     intro ρ3 w6 r3;exact⟨(k+1,w6),⟨hkb,hw.tr r3.cC,hK2⟩,Sub.gen [] r3 ⟨rfl,rfl,trivial⟩ ⟨rfl,rfl,rfl,rfl,trivial⟩ (by simp[dG,cW.scopd,At.sc]) (by simp[cV,SV.sc,At.sc,cQ]) (by rfl) (fun lo hi h=>h),by dsimp only;omega⟩
  have hkb:k=i:=by have:=aH hkb;omega
  have hdup:=Af (by rw[hLl];omega) hK;conv=>whnf
  refine bz (cE hw (Φ:=fun _ w' v w2=>v= .int .i64 (rs b.2.2)) (fun ρ w' r=>(xo (fun g hg=>by have:=hS g hg;have:=r.bu;omega) (hF.cD fun g hg=>(hw.tr r.cC).block g (hS g hg)))) ?_);rintro ρ wa3 v3 wb3 iv3 r he hw h_ rfl;clear r;obtain⟨cf,hcf⟩:∃c,rs b.2.2=c:=⟨_,rfl⟩
  rw[hcf];conv=>whnf
  refine dE.mk (fun hd2=>?_) (fun hd2=>?_)
  ·have hd2:b.2.2<=0:=by have:=aI hd2;rw[<-Rat.not_lt,<-mS];omega
   conv=>whnf
   intro ρe we re;exact⟨_,rfl,hw.tr re.cC,by show Value.int .i64 _=_;rw[df,aK (by omega),aK (by rw[hE];decide),if_pos (by rw[hE2,cK hx (show eV f.nodes.length (f.bars.take i) b=2 by rw[eV,if_pos ⟨hz0,hz1⟩,aK hab2,aK hdup,if_pos hd2]) (by decide)];decide),hE2,cK hx (show eV f.nodes.length (f.bars.take i) b=2 by rw[eV,if_pos ⟨hz0,hz1⟩,aK hab2,aK hdup,if_pos hd2]) (by decide)]⟩
  have hd2:0<b.2.2:=by have:=aH hd2;rw[<-mS];omega
  rw[fb hx (lG.2 ⟨⟨hz0,hz1⟩,hab2,hdup,hd2⟩)]at hE2;conv=>whnf
  refine⟨((i+1:Nat):Int),by rw[wrap64]<;>omega,?_⟩;conv=>whnf
  intro ρ3 w6 r3;exact⟨(i+1,w6,_),⟨hib,hw.tr r3.cC,hE2⟩,Sub.gen [] r3 ⟨rfl,trivial⟩ ⟨rfl,rfl,trivial⟩ (by simp[dG,cW.scopd,At.sc]) (by simp[cV,SV.sc,At.sc,cQ]) (by rfl) (fun lo hi h=>h),by dsimp only;omega⟩
 have hib:i=f.bars.length:=aP hi (by simpa using hib);rw[gq (by omega)]at hE2;clear hib hi;conv=>whnf
 refine⟨Nat×World×Iv,fun z=>⟨[(1,.o (.p 0 0)),(10,.o (.v (.int .i64 ((z.1:Nat):Int))))],[(0,.box T.Frame [.v (.slice an f.nodes.length cn),.v (.slice ab f.bars.length cb),.v (.slice aq f.cO.length cq)])],1,z.2.2,z.2.1⟩,fun z=>f.cO.length-z.1,
  fun z=>z.1<=f.cO.length∧cN w.heap.size w z.2.1∧eL (jU f.nodes.length) [] f.cO=eL (jU f.nodes.length) (f.cO.take z.1) (f.cO.drop z.1),?_,?_⟩
 ·intro ρ w' r3;exact⟨(0,w',_),⟨aN _,hw.tr r3.cC,rfl⟩,Sub.gen [] r3 ⟨rfl,trivial⟩ ⟨rfl,rfl,trivial⟩ (by simp[dG,cW.scopd,At.sc]) (by simp[cV,SV.sc,At.sc,cQ]) (by rfl) (fun lo hi h=>h)⟩
 clear hw;rintro⟨i,w1,iv⟩ ⟨hi,hw,hE3⟩;dsimp only at hi hw hE3 ⊢;conv=>whnf
 refine dE.mk (fun hib=>?_) (fun hib=>?_)
 ·have hib:i<f.cO.length:=by simpa using hib
  obtain⟨b,hx⟩:∃b,f.cO[i]? =some b:=⟨_,aB hib⟩
  have hLl:(f.cO.take i).length=i:=by rw[aX];omega
  obtain⟨adb,cs,hab,hF,-,hlb⟩:=hf.cO.load (by decide) hx;obtain⟨g0,g1,g2,g3,g4,g5,g6,g7,rfl,hF⟩:=hF;conv=>whnf
  refine⟨adb,hab,⟨by omega,by omega⟩,?_⟩;conv=>whnf
  refine⟨[.int .i64 b.1,.int .i64 b.2.1,.bool g0,.slice g1 g2 g3,.bool g4,.slice g5 g6 g7],rfl,fun ρ w' r j u hu=>?_,?_⟩
  ·obtain⟨k1,k2⟩:=hlb j u hu;rw[aC,bw (w:=w) (w2:=w') (by rw[cL,cL];exact(hw.tr r.cC).block _ (hS _ k1))];exact k2
  conv=>whnf
  refine bz (cE hw (Φ:=fun _ w' v w2=>∃d,v= .bool d∧(d=true↔iC f.nodes.length b.1)) (fun ρ w' r=>oZ _ _ _ _ _ _ _ _ _ _ w') ?_);rintro ρ wa1 v1 wb1 iv1 r he hw h_ ⟨d0,rfl,hz0⟩;clear r
  cases d0
  ·have hz0:¬iC f.nodes.length b.1:=fun h=>by have:=hz0.2 h;cases this
   conv=>whnf
   intro ρe we re;exact⟨_,rfl,hw.tr re.cC,by show Value.int .i64 _=_;rw[df,aK (by omega),aK (by rw[hE];decide),aK (by rw[hE2];decide),hE3,cK hx (show jU f.nodes.length (f.cO.take i) b=6 by rw[jU,aK hz0]) (by decide)]⟩
  replace hz0:=hz0.1 rfl;conv=>whnf
  refine bz (cE hw (Φ:=fun _ w' v w2=>∃d,v= .bool d∧(d=true↔0<=b.2.1∧b.2.1<=2)) (fun ρ w' r=>kB _ _ _ w') ?_);rintro ρ wa2 v2 wb2 iv2 r he hw h_ ⟨d1,rfl,hax⟩;clear r
  cases d1
  ·have hax:¬(0<=b.2.1∧b.2.1<=2):=fun h=>by have:=hax.2 h;cases this
   conv=>whnf
   intro ρe we re;exact⟨_,rfl,hw.tr re.cC,by show Value.int .i64 _=_;rw[df,aK (by omega),aK (by rw[hE];decide),aK (by rw[hE2];decide),hE3,cK hx (show jU f.nodes.length (f.cO.take i) b=2 by rw[jU,if_pos hz0,aK hax]) (by decide)]⟩
  replace hax:=hax.1 rfl;conv=>whnf
  refine⟨Nat×World,fun z=>⟨[(1,.o (.p 0 0)),(10,.o (.v (.int .i64 ((i:Nat):Int)))),(11,.o (.p 1 0)),(12,.o (.v (.int .i64 ((z.1:Nat):Int))))],[(1,.box T.vM [.v (.int .i64 b.1),.v (.int .i64 b.2.1),.v (.bool g0),.v (.slice g1 g2 g3),.v (.bool g4),.v (.slice g5 g6 g7)]),(0,.box T.Frame [.v (.slice an f.nodes.length cn),.v (.slice ab f.bars.length cb),.v (.slice aq f.cO.length cq)])],2,iv2,z.2⟩,fun z=>i-z.1,
   fun z=>z.1<=i∧cN w.heap.size w z.2∧(gg b∈(f.cO.take i).map gg↔gg b∈((f.cO.take i).drop z.1).map gg),?_,?_⟩
  ·intro ρ w' r3;exact⟨(0,w'),⟨aN _,hw.tr r3.cC,Iff.rfl⟩,Sub.gen [] r3 ⟨rfl,rfl,trivial⟩ ⟨rfl,rfl,rfl,rfl,trivial⟩ (by simp[dG,cW.scopd,At.sc]) (by simp[cV,SV.sc,At.sc,cQ]) (by rfl) (fun lo hi h=>h)⟩
  clear hw;rintro⟨k,w2⟩ ⟨hk,hw,hK⟩;dsimp only at hk hw hK ⊢;conv=>whnf
  refine dE.mk (fun hkb=>?_) (fun hkb=>?_)
  ·have hkb:k<i:=by have:=aI hkb;omega
   obtain⟨c,hc⟩:∃c,f.cO[k]? =some c:=⟨_,aB (by omega)⟩
   have hcL:(f.cO.take i)[k]? =some c:=by rw[bM hkb];exact hc
   obtain⟨adc,cs2,hac,hF2,-,hlc⟩:=hf.cO.load (by decide) hc;obtain⟨q0,q1,q2,q3,q4,q5,q6,q7,rfl,-⟩:=hF2;conv=>whnf
   refine cF hτ dV [.x 0,.x 1,.x 2,.x 3,.x 4,.x 5,.x 6,.x 7,.x 8,.x 9,.x 10,.x 11,.x 12,.x 13,.x 14,.x 15,.x 16,.x 17,.x 18,.x 19] (by kernel_rfl) (by kernel_rfl) ?_;conv=>whnf
   refine⟨adc,hac,⟨by omega,by omega⟩,?_⟩;conv=>whnf
   refine⟨.int .i64 c.1,fun ρ w' r=>?_,?_⟩
   ·obtain⟨k1,k2⟩:=hlc 0 _ rfl;rw[bw (w:=w) (w2:=w') (by simp only[cL];exact(hw.tr r.cC).block _ (hS _ k1))];simp only[aC,kr]at k2 ⊢;exact k2
   conv=>whnf
   refine dE.mk (fun e1=>?_) (fun e1=>?_)
   ·have e1:(c.1=b.1):=by simpa using e1
    conv=>whnf
    refine⟨adc,hac,⟨by omega,by omega⟩,?_⟩;conv=>whnf
    refine⟨.int .i64 c.2.1,fun ρ w' r=>?_,?_⟩
    ·obtain⟨k1,k2⟩:=hlc 1 _ rfl;rw[bw (w:=w) (w2:=w') (by simp only[cL];exact(hw.tr r.cC).block _ (hS _ k1))];simp only[aC,kr]at k2 ⊢;exact k2
    conv=>whnf
    refine dE.mk (fun e2=>?_) (fun e2=>?_)
    ·have e2:(c.2.1=b.2.1):=by simpa using e2
     have hin:=sF (K:=gg) hcL (show gg c=gg b by rw[Ae];omega);conv=>whnf
     intro ρe we re;exact⟨_,rfl,hw.tr re.cC,by show Value.int .i64 _=_;rw[df,aK (by omega),aK (by rw[hE];decide),aK (by rw[hE2];decide),hE3,cK hx (show jU f.nodes.length (f.cO.take i) b=5 by rw[jU,if_pos hz0,if_pos hax,if_pos hin]) (by decide)]⟩
    ·have e2:¬(c.2.1=b.2.1):=by simpa using e2
     have hK2:=kA (K:=gg) hcL (show gg c≠gg b by rw[Ne,Ae];omega) hK;conv=>whnf
     refine⟨((k+1:Nat):Int),by rw[wrap64]<;>omega,?_⟩;conv=>whnf
     intro ρ3 w6 r3;exact⟨(k+1,w6),⟨hkb,hw.tr r3.cC,hK2⟩,Sub.gen [] r3 ⟨rfl,rfl,trivial⟩ ⟨rfl,rfl,rfl,rfl,trivial⟩ (by simp[dG,cW.scopd,At.sc]) (by simp[cV,SV.sc,At.sc,cQ]) (by rfl) (fun lo hi h=>h),by dsimp only;omega⟩
   ·have e1:¬(c.1=b.1):=by simpa using e1
    have hK2:=kA (K:=gg) hcL (show gg c≠gg b by rw[Ne,Ae];omega) hK;conv=>whnf
    refine⟨((k+1:Nat):Int),by rw[wrap64]<;>omega,?_⟩;conv=>whnf
    intro ρ3 w6 r3;exact⟨(k+1,w6),⟨hkb,hw.tr r3.cC,hK2⟩,Sub.gen [] r3 ⟨rfl,rfl,trivial⟩ ⟨rfl,rfl,rfl,rfl,trivial⟩ (by simp[dG,cW.scopd,At.sc]) (by simp[cV,SV.sc,At.sc,cQ]) (by rfl) (fun lo hi h=>h),by dsimp only;omega⟩
  have hkb:k=i:=by have:=aH hkb;omega
  have hdup:=Af (by rw[hLl];omega) hK;conv=>whnf
  refine bz (cE hw (Φ:=fun _ w' v w2=>v= .int .i64 (rs b.2.2)) (fun ρ w' r=>(xo (fun g hg=>by have:=hS g hg;have:=r.bu;omega) (hF.cD fun g hg=>(hw.tr r.cC).block g (hS g hg)))) ?_);rintro ρ wa3 v3 wb3 iv3 r he hw h_ rfl;clear r;obtain⟨cf,hcf⟩:∃c,rs b.2.2=c:=⟨_,rfl⟩
  rw[hcf];conv=>whnf
  refine dE.mk (fun hd2=>?_) (fun hd2=>?_)
  ·have hd2:b.2.2<0:=by have:=aI hd2;rw[<-jy];omega
   conv=>whnf
   intro ρe we re;exact⟨_,rfl,hw.tr re.cC,by show Value.int .i64 _=_;rw[df,aK (by omega),aK (by rw[hE];decide),aK (by rw[hE2];decide),hE3,cK hx (show jU f.nodes.length (f.cO.take i) b=2 by rw[jU,if_pos hz0,if_pos hax,aK hdup,if_pos hd2]) (by decide)]⟩
  have hd2:0<=b.2.2:=by have:=aH hd2;rw[<-Rat.not_lt,<-jy];omega
  rw[fb hx (oW.2 ⟨hz0,hax,hdup,hd2⟩)]at hE3;conv=>whnf
  refine⟨((i+1:Nat):Int),by rw[wrap64]<;>omega,?_⟩;conv=>whnf
  intro ρ3 w6 r3;exact⟨(i+1,w6,_),⟨hib,hw.tr r3.cC,hE3⟩,Sub.gen [] r3 ⟨rfl,trivial⟩ ⟨rfl,rfl,trivial⟩ (by simp[dG,cW.scopd,At.sc]) (by simp[cV,SV.sc,At.sc,cQ]) (by rfl) (fun lo hi h=>h),by dsimp only;omega⟩
 have hib:i=f.cO.length:=aP hi (by simpa using hib);rw[gq (by omega)]at hE3;conv=>whnf
 intro ρe we re;exact⟨_,rfl,hw.tr re.cC,by show Value.int .i64 _=_;rw[df,aK (by omega),aK (by rw[hE];decide),aK (by rw[hE2];decide),hE3]⟩
def rq(p:Int×Int):Rat:=ratio p.1 p.2
structure DB where
 nodes:List (Int×Int×Int)
 bars:List (Int×Int×(Int×Int))
 cO:List (Int×Int×(Int×Int))
def DC(p:Int×Int×(Int×Int)):Int×Int×Rat:=(p.1,p.2.1,rq p.2.2)
def DB.val(f:DB):fK:=⟨f.nodes,f.bars.map DC,f.cO.map DC⟩
def sH(w:World)(S:Nat->Prop)(cs:List Value)(p:Int×Int×(Int×Int)):Prop:=∃b a n c b2 a2 n2 c2,cs=[.int .i64 p.1,.int .i64 p.2.1,.bool b,.slice a n c,.bool b2,.slice a2 n2 c2]∧gX w S (.agg #[.bool b,.slice a n c,.bool b2,.slice a2 n2 c2]) p.2.2.1 p.2.2.2
structure oF(w:World)(S:Nat->Prop)(vn vb vs:Value)(f:DB):Prop where
 nodes:kp w S vn f.nodes
 bars:eH 6 sH w S vb f.bars
 cO:eH 6 sH w S vs f.cO
theorem sH.cD{w w2:World}{S:Nat->Prop}{cs:List Value}{p:Int×Int×(Int×Int)}(h:sH w S cs p)(hk:∀g,S g->w2.heap[g]? =w.heap[g]?):sH w2 S cs p:=by
 obtain⟨b,a,n,c,b2,a2,n2,c2,h1,h2⟩:=h;exact⟨b,a,n,c,b2,a2,n2,c2,h1,h2.cD hk⟩
theorem oF.cD{w w2:World}{S:Nat->Prop}{vn vb vs:Value}{f:DB}(h:oF w S vn vb vs f)(hk:∀g,S g->w2.heap[g]? =w.heap[g]?):oF w2 S vn vb vs f:=
 ⟨eH.cD (w:=w) (fun _ _ h=>h) h.nodes hk,eH.cD (fun _ _ h=>h.cD hk) h.bars hk,eH.cD (fun _ _ h=>h.cD hk) h.cO hk⟩
theorem sH.Js{w:World}{S:Nat->Prop}{cs:List Value}{p:Int×Int×(Int×Int)}(h:sH w S cs p)(hf:uz (cs.drop 2)):A7 w S cs (DC p)∧rl (DC p).2.2<=3:=by
 obtain⟨b,a,n,c,b2,a2,n2,c2,rfl,h2⟩:=h;obtain⟨h3,h4⟩:=h2.l3 hf;exact⟨⟨b,a,n,c,b2,a2,n2,c2,rfl,h3⟩,h4⟩
theorem eH.cells{α:Type}{k:Nat}{P:World->(Nat->Prop)->List Value->α->Prop}{w:World}{S:Nat->Prop}{v:Value}{xs:List α}(h:eH k P w S v xs):
  ∃css:List (List Value),css.length=xs.length∧eH k (fun w S cs (y:List Value×α)=>cs=y.1∧P w S cs y.2) w S v (css.zip xs)∧(∀(j:Nat) cs x,css[j]? =some cs->xs[j]? =some x->P w S cs x)∧
   ∀{β:Type} (Q:World->(Nat->Prop)->List Value->β->Prop) (ys:List β),ys.length=xs.length->(∀(j:Nat) cs y,css[j]? =some cs->ys[j]? =some y->Q w S cs y)->eH k Q w S v ys:=by
 obtain⟨css,h1,h2,h3,h4⟩:=h;have hz:(css.zip xs).length=xs.length:=by rw[List.length_zip,h2,Nat.min_self]
 refine⟨css,h2,⟨css,by rw[hz];exact h1,by rw[hz,h2],h3,fun j cs y k1 k2=>?_⟩,h4,fun Q ys hl hQ=>⟨css,by rw[hl];exact h1,by rw[hl,h2],h3,hQ⟩⟩;rw[List.getElem?_zip_eq_some]at k2;rw[k1]at k2;exact⟨by injection k2.1,h4 j cs _ k1 k2.2⟩
theorem Hw.of{w:World}{S:Nat->Prop}{v:Value}{xs:List (Int×Int×(Int×Int))}{css:List (List Value)}(h4:∀(j:Nat) cs x,css[j]? =some cs->xs[j]? =some x->sH w S cs x)
  (hQ:∀{β:Type} (Q:World->(Nat->Prop)->List Value->β->Prop) (ys:List β),ys.length=xs.length->(∀(j:Nat) cs y,css[j]? =some cs->ys[j]? =some y->Q w S cs y)->eH 6 Q w S v ys)
  (hl:css.length=xs.length) (hf:∀j cs,j<xs.length->css[j]? =some cs->uz (cs.drop 2)):GL w S v (xs.map DC)∧∀b∈xs.map DC,rl b.2.2<=3:=by
 refine⟨hQ A7 _ (aM ..) fun j cs y k1 k2=>?_,fun b hb=>?_⟩
 ·rw[aO]at k2;obtain⟨p,hp,rfl⟩:=Option.map_eq_some_iff.1 k2;exact((h4 j cs p k1 hp).Js (hf j cs (aE.1 hp).1 k1)).1
 ·obtain⟨p,hp,rfl⟩:=aU.1 hb;obtain⟨j,hj⟩:=ah hp;have hjl:=(aE.1 hj).1;have hc:css[j]? =some css[j]:=aB (by omega);exact((h4 j _ p hc hj).Js (hf j _ hjl hc)).2
set_option maxHeartbeats 1000000 in
theorem GW{S:Nat->Prop}{w:World}{vn vb vs:Value}{f:DB}(hS:Old S w)(hf:oF w S vn vb vs f):dh PG N.nN #[.agg #[vn,vb,vs]] w (dw w fun v' _=>∃d,v'= .bool d∧
  (d=true->dT w S vn vb vs f.val∧(∀b∈f.val.bars,rl b.2.2<=3)∧(∀b∈f.val.cO,rl b.2.2<=3)∧(df f.val≠0∨f.val.nodes.length<=4∧f.val.bars.length<=6))):=by
 have hw:cN w.heap.size w w:=cN.refl;obtain⟨an,cn,rfl,hcn,hmn⟩:=hf.nodes.shape;obtain⟨bcs,hbl,hbz,hb4,hbQ⟩:=hf.bars.cells;obtain⟨qcs,hql,hqz,hq4,hqQ⟩:=hf.cO.cells;obtain⟨ab,cb,rfl,hcb,hmb⟩:=hf.bars.shape;obtain⟨aq,cq,rfl,hcq,hms⟩:=hf.cO.shape;refine xM (by simp) ?_;conv=>whnf
 refine dE.mk (fun h0=>?_) (fun h0=>?_)
 ·conv=>whnf
  intro ρe we re;exact⟨_,rfl,hw.tr re.cC,_,rfl,fun h=>by cases h⟩
 have h0:=aH h0;conv=>whnf
 refine dE.mk (fun h1=>?_) (fun h1=>?_)
 ·conv=>whnf
  intro ρe we re;exact⟨_,rfl,hw.tr re.cC,_,rfl,fun h=>by cases h⟩
 have h1:=aH h1;conv=>whnf
 refine dE.mk (fun h2=>?_) (fun h2=>?_)
 ·conv=>whnf
  intro ρe we re;exact⟨_,rfl,hw.tr re.cC,_,rfl,fun h=>by cases h⟩
 have h2:=aH h2;conv=>whnf
 refine⟨Nat×World×Iv,fun z=>⟨[(1,.o (.p 0 0)),(3,.o (.v (.int .i64 ((z.1:Nat):Int))))],[(0,.box T.Frame [.v (.slice an f.nodes.length cn),.v (.slice ab f.bars.length cb),.v (.slice aq f.cO.length cq)])],1,z.2.2,z.2.1⟩,fun z=>f.bars.length-z.1,
  fun z=>z.1<=f.bars.length∧cN w.heap.size w z.2.1∧∀(j:Nat) (cs:List Value),j<z.1->bcs[j]? =some cs->uz (cs.drop 2),?_,?_⟩
 ·intro ρ w' r3;exact⟨(0,w',_),⟨aN _,hw.tr r3.cC,fun j cs hj=>absurd hj (Nat.not_lt_zero j)⟩,Sub.gen [] r3 ⟨rfl,trivial⟩ ⟨rfl,rfl,trivial⟩ (by simp[dG,cW.scopd,At.sc]) (by simp[cV,SV.sc,At.sc,cQ]) (by rfl) (fun lo hi h=>h)⟩
 clear hw;rintro⟨i,w1,iv⟩ ⟨hi,hw,hB⟩;dsimp only at hi hw hB ⊢;conv=>whnf
 refine dE.mk (fun hib=>?_) (fun hib=>?_)
 ·have hib:i<f.bars.length:=by simpa using hib
  obtain⟨cs,hcs⟩:∃cs,bcs[i]? =some cs:=⟨_,aB (by omega)⟩
  obtain⟨p,hp⟩:∃p,f.bars[i]? =some p:=⟨_,aB hib⟩
  obtain⟨g0,g1,g2,g3,g4,g5,g6,g7,rfl,-⟩:=hb4 i cs p hcs hp;obtain⟨adx,cs2,hax,⟨he2,-⟩,-,hat⟩:=hbz.load (by decide) (show (bcs.zip f.bars)[i]? =some (_,p) by rw[List.getElem?_zip_eq_some];exact⟨hcs,hp⟩);have he2:cs2=[.int .i64 p.1,.int .i64 p.2.1,.bool g0,.slice g1 g2 g3,.bool g4,.slice g5 g6 g7]:=he2;subst he2;conv=>whnf
  refine⟨adx,hax,⟨by omega,by omega⟩,?_⟩;conv=>whnf
  refine⟨[.bool g0,.slice g1 g2 g3,.bool g4,.slice g5 g6 g7],rfl,fun ρ w' r j u hu=>?_,?_⟩
  ·have hj4:=(aE.1 hu).1;obtain⟨k1,k2⟩:=hat (2+j) u (by rcases j with _|_|_|_|j<;>first|exact hu|(have:j+4<4:=hj4;omega));rw[bw (w:=w) (w2:=w') (by simp only[cL];exact(hw.tr r.cC).block _ (hS _ k1))];simp only[aC,kr]at k2 ⊢
   first|exact k2|(rw [<-k2];congr 2;omega)
  conv=>whnf
  refine bz (cE hw (Φ:=fun _ w' v w2=>∃d,v= .bool d∧(d=true->uz [.bool g0,.slice g1 g2 g3,.bool g4,.slice g5 g6 g7])) (fun ρ w' r=>(Dm (S:=fun g=>g=(ρ 1).g) (css:=[[.bool g0,.slice g1 g2 g3,.bool g4,.slice g5 g6 g7]]) (fun g hg=>by subst hg;exact Rel.lt r (id:=1) rfl) (r.oE (id:=1) (sz:=4) (n:=1) rfl rfl (by decide) (by repeat' first|refine List.forall_mem_cons.2 ⟨rfl,?_⟩|exact fun u hu=>absurd hu List.not_mem_nil)) (fun cs hc=>by rw[bA.1 hc];exact⟨_,_,_,_,_,_,_,_,rfl⟩)).mono fun _ _ ⟨v2,e1,e2,d,e3,e4⟩=>⟨v2,e1,e2,d,e3,fun h=>(e4 h).2 _ aJ⟩) ?_);rintro ρ wa1 v1 wb1 iv1 r he hw h_ ⟨d2,rfl,hz2⟩;clear r
  cases d2
  ·conv=>whnf
   intro ρe we re;exact⟨_,rfl,hw.tr re.cC,_,rfl,fun h=>by cases h⟩
  have hE2:∀j cs,j<i+1->bcs[j]? =some cs->uz (cs.drop 2):=fun j cs hj hc=>by
   rcases aV j i with h|h
   ·exact hB j cs h hc
   ·have:j=i:=by omega
    subst this;rw[hcs]at hc;injection hc with hc;subst hc;exact hz2 rfl
  conv=>whnf
  refine⟨((i+1:Nat):Int),by rw[wrap64]<;>omega,?_⟩;conv=>whnf
  intro ρ3 w6 r3;exact⟨(i+1,w6,_),⟨hib,hw.tr r3.cC,hE2⟩,Sub.gen [] r3 ⟨rfl,trivial⟩ ⟨rfl,rfl,trivial⟩ (by simp[dG,cW.scopd,At.sc]) (by simp[cV,SV.sc,At.sc,cQ]) (by rfl) (fun lo hi h=>h),by dsimp only;omega⟩
 have hib:i=f.bars.length:=aP hi (by simpa using hib);subst hib;clear hi;conv=>whnf
 refine⟨Nat×World×Iv,fun z=>⟨[(1,.o (.p 0 0)),(4,.o (.v (.int .i64 ((z.1:Nat):Int))))],[(0,.box T.Frame [.v (.slice an f.nodes.length cn),.v (.slice ab f.bars.length cb),.v (.slice aq f.cO.length cq)])],1,z.2.2,z.2.1⟩,fun z=>f.cO.length-z.1,
  fun z=>z.1<=f.cO.length∧cN w.heap.size w z.2.1∧∀(j:Nat) (cs:List Value),j<z.1->qcs[j]? =some cs->uz (cs.drop 2),?_,?_⟩
 ·intro ρ w' r3;exact⟨(0,w',_),⟨aN _,hw.tr r3.cC,fun j cs hj=>absurd hj (Nat.not_lt_zero j)⟩,Sub.gen [] r3 ⟨rfl,trivial⟩ ⟨rfl,rfl,trivial⟩ (by simp[dG,cW.scopd,At.sc]) (by simp[cV,SV.sc,At.sc,cQ]) (by rfl) (fun lo hi h=>h)⟩
 clear hw;rintro⟨i,w1,iv⟩ ⟨hi,hw,hQ⟩;dsimp only at hi hw hQ ⊢;conv=>whnf
 refine dE.mk (fun hib=>?_) (fun hib=>?_)
 ·have hib:i<f.cO.length:=by simpa using hib
  obtain⟨cs,hcs⟩:∃cs,qcs[i]? =some cs:=⟨_,aB (by omega)⟩
  obtain⟨p,hp⟩:∃p,f.cO[i]? =some p:=⟨_,aB hib⟩
  obtain⟨g0,g1,g2,g3,g4,g5,g6,g7,rfl,-⟩:=hq4 i cs p hcs hp;obtain⟨adx,cs2,hax,⟨he2,-⟩,-,hat⟩:=hqz.load (by decide) (show (qcs.zip f.cO)[i]? =some (_,p) by rw[List.getElem?_zip_eq_some];exact⟨hcs,hp⟩);have he2:cs2=[.int .i64 p.1,.int .i64 p.2.1,.bool g0,.slice g1 g2 g3,.bool g4,.slice g5 g6 g7]:=he2;subst he2;conv=>whnf
  refine⟨adx,hax,⟨by omega,by omega⟩,?_⟩;conv=>whnf
  refine⟨[.bool g0,.slice g1 g2 g3,.bool g4,.slice g5 g6 g7],rfl,fun ρ w' r j u hu=>?_,?_⟩
  ·have hj4:=(aE.1 hu).1;obtain⟨k1,k2⟩:=hat (2+j) u (by rcases j with _|_|_|_|j<;>first|exact hu|(have:j+4<4:=hj4;omega));rw[bw (w:=w) (w2:=w') (by simp only[cL];exact(hw.tr r.cC).block _ (hS _ k1))];simp only[aC,kr]at k2 ⊢
   first|exact k2|(rw [<-k2];congr 2;omega)
  conv=>whnf
  refine bz (cE hw (Φ:=fun _ w' v w2=>∃d,v= .bool d∧(d=true->uz [.bool g0,.slice g1 g2 g3,.bool g4,.slice g5 g6 g7])) (fun ρ w' r=>(Dm (S:=fun g=>g=(ρ 1).g) (css:=[[.bool g0,.slice g1 g2 g3,.bool g4,.slice g5 g6 g7]]) (fun g hg=>by subst hg;exact Rel.lt r (id:=1) rfl) (r.oE (id:=1) (sz:=4) (n:=1) rfl rfl (by decide) (by repeat' first|refine List.forall_mem_cons.2 ⟨rfl,?_⟩|exact fun u hu=>absurd hu List.not_mem_nil)) (fun cs hc=>by rw[bA.1 hc];exact⟨_,_,_,_,_,_,_,_,rfl⟩)).mono fun _ _ ⟨v2,e1,e2,d,e3,e4⟩=>⟨v2,e1,e2,d,e3,fun h=>(e4 h).2 _ aJ⟩) ?_);rintro ρ wa1 v1 wb1 iv1 r he hw h_ ⟨d2,rfl,hz2⟩;clear r
  cases d2
  ·conv=>whnf
   intro ρe we re;exact⟨_,rfl,hw.tr re.cC,_,rfl,fun h=>by cases h⟩
  have hE2:∀j cs,j<i+1->qcs[j]? =some cs->uz (cs.drop 2):=fun j cs hj hc=>by
   rcases aV j i with h|h
   ·exact hQ j cs h hc
   ·have:j=i:=by omega
    subst this;rw[hcs]at hc;injection hc with hc;subst hc;exact hz2 rfl
  conv=>whnf
  refine⟨((i+1:Nat):Int),by rw[wrap64]<;>omega,?_⟩;conv=>whnf
  intro ρ3 w6 r3;exact⟨(i+1,w6,_),⟨hib,hw.tr r3.cC,hE2⟩,Sub.gen [] r3 ⟨rfl,trivial⟩ ⟨rfl,rfl,trivial⟩ (by simp[dG,cW.scopd,At.sc]) (by simp[cV,SV.sc,At.sc,cQ]) (by rfl) (fun lo hi h=>h),by dsimp only;omega⟩
 have hib:i=f.cO.length:=aP hi (by simpa using hib);subst hib;clear hi;obtain⟨kb,kb2⟩:=Hw.of hb4 hbQ hbl hB;obtain⟨kq,kq2⟩:=Hw.of hq4 hqQ hql hQ;have hR:dT w S (.slice an f.nodes.length cn) (.slice ab f.bars.length cb) (.slice aq f.cO.length cq) f.val:=⟨hf.nodes,kb,kq⟩
 conv=>whnf
 refine bz (cE hw (Φ:=fun _ w' v w2=>v= .int .i64 (df f.val)) (fun ρ w' r=>sG (fun g hg=>by have:=hS g hg;have:=r.bu;omega) (hR.cD fun g hg=>(hw.tr r.cC).block g (hS g hg))) ?_);rintro ρ wa1 v1 wb1 iv1 r he hw h_ rfl;clear r;obtain⟨e,he⟩:∃e,df f.val=e:=⟨_,rfl⟩
 rw[he];conv=>whnf
 refine dE.mk (fun hd=>?_) (fun hd=>?_)
 ·have hd:e≠0:=by simpa using hd
  conv=>whnf
  intro ρe we re;exact⟨_,rfl,hw.tr re.cC,_,rfl,fun _=>⟨hR,kb2,kq2,.inl hd⟩⟩
 have hd:e=0:=by simpa using hd
 conv=>whnf
 refine dE.mk (fun h4=>?_) (fun h4=>?_)
 ·have h4:=aI h4;conv=>whnf
  intro ρe we re;exact⟨_,rfl,hw.tr re.cC,_,rfl,fun h=>⟨hR,kb2,kq2,.inr ⟨by show f.nodes.length<=4;omega,by show(f.bars.map DC).length<=6;rw[aM];have:=aI h;omega⟩⟩⟩
 conv=>whnf
 intro ρe we re;exact⟨_,rfl,hw.tr re.cC,_,rfl,fun h=>by cases h⟩
section
variable{xs:List Rat}{l:List (Rat×Rat)}{i:Nat}{x:Rat}{r:Rat×Rat}
end
theorem k8{S:Nat->Prop}{w:World}{vn vb vs:Value}{f:fK}(hf:dT w S vn vb vs f)(h60:f.bars.length<=60∧f.cO.length<=60):dh PG N.nQ #[.agg #[vn,vb,vs]] w (dw w fun v' _=>v'= .int .i64 f.cols):=by
 have hw:cN w.heap.size w w:=cN.refl;obtain⟨an,cn,ab,cb,aq,cq,rfl,rfl,rfl,hmn,hmb,hms⟩:=hf.shape;refine rS (by simp) ?_;conv=>whnf
 refine⟨((f.bars.length+f.cO.length:Nat):Int),by rw[wrap64]<;>omega,?_⟩;conv=>whnf
 intro ρe we re;exact⟨_,rfl,hw.tr re.cC,rfl⟩
section
variable{S:Nat->Prop}{w w1 w':World}{H:Hp}{nx:Nat}{iv:Iv}{ρ:Nat->Sx.dc}
theorem Ej{vn vb vs:Value}{f:DB}(hS:Old S w)(hw:cN w.heap.size w w1)(r:Rel H nx iv w.heap.size w1 ρ w')(hf:oF w S vn vb vs f):dh PG N.nN #[.agg #[vn,vb,vs]] w' (dw w' fun v' _=>∃d,v'= .bool d∧
  (d=true->dT w S vn vb vs f.val∧(∀b∈f.val.bars,rl b.2.2<=3)∧(∀b∈f.val.cO,rl b.2.2<=3)∧(df f.val≠0∨f.val.nodes.length<=4∧f.val.bars.length<=6))):=
 have hk:∀g,S g->w'.heap[g]? =w.heap[g]? :=fun g hg=>(hw.tr r.cC).block g (hS g hg)
 (GW (S:=S) (fun g hg=>by have:=hS g hg;have:=r.bu;omega) (hf.cD hk)).mono fun _ _ ⟨v2,e1,e2,d,e3,e4⟩=>⟨v2,e1,e2,d,e3,fun h=>⟨(e4 h).1.cD fun g hg=>(hk g hg).symm,(e4 h).2⟩⟩
end
end Go.Ex
namespace Go.Ex
end Go.Ex
namespace Go.Ex
open Go Go.Sx Go.Proofs
theorem GY{f:fK}(h:df f=0){b:Int×Int×Rat}(hb:b∈f.bars):b.1≠b.2.1∧0<b.2.2:=by
 obtain⟨_,_,hb',_⟩:=s4 h;obtain⟨k,hk⟩:=ah hb;have:=lG.1 (gh hb' k b hk);exact⟨this.2.1,this.2.2.2⟩
structure aAG{α:Type}(k:Nat)(P:World->(Nat->Prop)->List Value->α->Prop)(w:World)(S:Nat->Prop)(css:List (List Value))(qs:List α):Prop where
 len:css.length=qs.length
 wid:∀cs∈css,cs.length=k
 at_:∀(j:Nat) cs q,css[j]? =some cs->qs[j]? =some q->P w S cs q
section
variable{α:Type}{k:Nat}{P:World->(Nat->Prop)->List Value->α->Prop}{w w2:World}{S S':Nat->Prop}{css:List (List Value)}{qs:List α}
end
set_option maxHeartbeats 1000000 in
theorem ye{S:Nat->Prop}{w:World}{vn vb vs:Value}{f:fK}{i:Nat}{b:Int×Int×Rat}(hS:Old S w)(hf:dT w S vn vb vs f)(hok:pM f)(hb:f.bars[i]? =some b):
  dh PG N.lK #[.agg #[vn,vb,vs],.int .i64 i] w (dw w fun v' _=>v'= .agg #[.int .i64 ((f.node b.2.1).1-(f.node b.1).1),.int .i64 ((f.node b.2.1).2.1-(f.node b.1).2.1),.int .i64 ((f.node b.2.1).2.2-(f.node b.1).2.2)]):=by
 have hw:cN w.heap.size w w:=cN.refl;obtain⟨an,cn,ab,cb,aq,cq,rfl,rfl,rfl,hmn,hmb,hms⟩:=hf.shape;obtain⟨hn20,hb60,hs60⟩:=And.intro hok.n (And.intro hok.b hok.s);have hib:=(aE.1 hb).1;obtain⟨hA,hB⟩:=hok.IX b (aF hb);obtain⟨ka,pa,ea,hka,hpa,hna,⟨_,_⟩,⟨_,_⟩,⟨_,_⟩⟩:=hok.node hA.1 hA.2;obtain⟨kb,pb,eb,hkb,hpb,hnb,⟨_,_⟩,⟨_,_⟩,⟨_,_⟩⟩:=hok.node hB.1 hB.2;obtain⟨adx,csx,hax,hFx,-,hlx⟩:=hf.bars.load (by decide) hb;obtain⟨g0,g1,g2,g3,g4,g5,g6,g7,rfl,-⟩:=hFx;obtain⟨ada,csa,haa,hPa,-,hla⟩:=hf.nodes.load (by decide) hpa;obtain⟨adb,csb,hab,hPb,-,hlb⟩:=hf.nodes.load (by decide) hpb;have hPa:csa=[.int .i64 pa.1,.int .i64 pa.2.1,.int .i64 pa.2.2]:=hPa;have hPb:csb=[.int .i64 pb.1,.int .i64 pb.2.1,.int .i64 pb.2.2]:=hPb;subst hPa hPb;rw[hna,hnb];rw[ea,eb]at hlx;refine og (by simp) ?_;conv=>whnf
 refine gl hτ dV (.x 0 (.x 2 (.x 4 (.x 10 (.x 12 (.x 14 (.ld 1 12583680 (.ld 3 12583904 (.x 5 (.x 6 (.ld 7 12583680 (.x 8 (.ld 9 12582912 (.ld 11 9175040 (.ld 13 9404416 (.x 15 (.x 16 (.ld 17 9175040 (.x 18 (.ld 19 8388608 (.two 20 (.x 21 (.x 22 (.x 23 .nil))) 21 (.x 20 (.x 22 (.x 23 .nil)))))))))))))))))))))))) (by kernel_rfl) (by kernel_rfl) ?_;conv=>whnf
 refine⟨adx,hax,⟨by omega,by omega⟩,?_⟩;conv=>whnf
 refine⟨.int .i64 (ka:Int),fun ρ w' r=>?_,?_⟩
 ·obtain⟨k1,k2⟩:=hlx 0 _ rfl;rw[bw (w:=w) (w2:=w') (by simp only[cL];exact(hw.tr r.cC).block _ (hS _ k1))];simp only[aC,kr]at k2 ⊢;exact k2
 conv=>whnf
 refine⟨ada,haa,⟨by omega,by omega⟩,?_⟩;conv=>whnf
 refine⟨[.int .i64 pa.1,.int .i64 pa.2.1,.int .i64 pa.2.2],rfl,fun ρ w' r j u hu=>?_,?_⟩
 ·obtain⟨k1,k2⟩:=hla j u hu;rw[aC,bw (w:=w) (w2:=w') (by rw[cL,cL];exact(hw.tr r.cC).block _ (hS _ k1))];exact k2
 conv=>whnf
 refine⟨adx,hax,⟨by omega,by omega⟩,?_⟩;conv=>whnf
 refine⟨.int .i64 (kb:Int),fun ρ w' r=>?_,?_⟩
 ·obtain⟨k1,k2⟩:=hlx 1 _ rfl;rw[bw (w:=w) (w2:=w') (by simp only[cL];exact(hw.tr r.cC).block _ (hS _ k1))];simp only[aC,kr]at k2 ⊢;exact k2
 conv=>whnf
 refine⟨adb,hab,⟨by omega,by omega⟩,?_⟩;conv=>whnf
 refine⟨[.int .i64 pb.1,.int .i64 pb.2.1,.int .i64 pb.2.2],rfl,fun ρ w' r j u hu=>?_,?_⟩
 ·obtain⟨k1,k2⟩:=hlb j u hu;rw[aC,bw (w:=w) (w2:=w') (by rw[cL,cL];exact(hw.tr r.cC).block _ (hS _ k1))];exact k2
 conv=>whnf
 refine⟨?_,?_⟩
 ·conv=>whnf
  refine⟨[.int .i64 pb.1,.int .i64 pb.2.1,.int .i64 pb.2.2],rfl,fun ρ w' r j u hu=>?_,?_⟩
  ·obtain⟨k1,k2⟩:=hlb j u hu;rw[aC,bw (w:=w) (w2:=w') (by rw[cL,cL];exact(hw.tr r.cC).block _ (hS _ k1))];exact k2
  conv=>whnf
  refine⟨rfl,?_⟩;conv=>whnf
  refine⟨.int .i64 (kb:Int),fun ρ w' r=>?_,?_⟩
  ·obtain⟨k1,k2⟩:=hlx 1 _ rfl;rw[bw (w:=w) (w2:=w') (by simp only[cL];exact(hw.tr r.cC).block _ (hS _ k1))];simp only[aC,kr]at k2 ⊢;exact k2
  conv=>whnf
  refine⟨rfl,?_⟩;conv=>whnf
  refine⟨rfl,?_⟩;conv=>whnf
  refine⟨rfl,?_⟩;conv=>whnf
  refine⟨[.int .i64 pa.1,.int .i64 pa.2.1,.int .i64 pa.2.2],rfl,fun ρ w' r j u hu=>?_,?_⟩
  ·obtain⟨k1,k2⟩:=hla j u hu;rw[aC,bw (w:=w) (w2:=w') (by rw[cL,cL];exact(hw.tr r.cC).block _ (hS _ k1))];exact k2
  conv=>whnf
  refine⟨rfl,?_⟩;conv=>whnf
  refine⟨.int .i64 (ka:Int),fun ρ w' r=>?_,?_⟩
  ·obtain⟨k1,k2⟩:=hlx 0 _ rfl;rw[bw (w:=w) (w2:=w') (by simp only[cL];exact(hw.tr r.cC).block _ (hS _ k1))];simp only[aC,kr]at k2 ⊢;exact k2
  conv=>whnf
  refine⟨rfl,?_⟩;conv=>whnf
  refine⟨rfl,?_⟩;conv=>whnf
  refine⟨rfl,?_⟩;conv=>whnf
  refine⟨[.int .i64 pb.1,.int .i64 pb.2.1,.int .i64 pb.2.2],rfl,fun ρ w' r j u hu=>?_,?_⟩
  ·obtain⟨k1,k2⟩:=hlb j u hu;rw[aC,bw (w:=w) (w2:=w') (by rw[cL,cL];exact(hw.tr r.cC).block _ (hS _ k1))];exact k2
  conv=>whnf
  refine⟨rfl,?_⟩;conv=>whnf
  refine⟨.int .i64 (kb:Int),fun ρ w' r=>?_,?_⟩
  ·obtain⟨k1,k2⟩:=hlx 1 _ rfl;rw[bw (w:=w) (w2:=w') (by simp only[cL];exact(hw.tr r.cC).block _ (hS _ k1))];simp only[aC,kr]at k2 ⊢;exact k2
  conv=>whnf
  refine⟨rfl,?_⟩;conv=>whnf
  refine⟨rfl,?_⟩;conv=>whnf
  refine⟨rfl,?_⟩;conv=>whnf
  refine⟨[.int .i64 pa.1,.int .i64 pa.2.1,.int .i64 pa.2.2],rfl,fun ρ w' r j u hu=>?_,?_⟩
  ·obtain⟨k1,k2⟩:=hla j u hu;rw[aC,bw (w:=w) (w2:=w') (by rw[cL,cL];exact(hw.tr r.cC).block _ (hS _ k1))];exact k2
  conv=>whnf
  refine⟨rfl,?_⟩;conv=>whnf
  refine⟨.int .i64 (ka:Int),fun ρ w' r=>?_,?_⟩
  ·obtain⟨k1,k2⟩:=hlx 0 _ rfl;rw[bw (w:=w) (w2:=w') (by simp only[cL];exact(hw.tr r.cC).block _ (hS _ k1))];simp only[aC,kr]at k2 ⊢;exact k2
  conv=>whnf
  refine⟨rfl,?_⟩;conv=>whnf
  refine⟨rfl,?_⟩;conv=>whnf
  refine⟨rfl,?_⟩;conv=>whnf
  refine⟨[.int .i64 pb.1,.int .i64 pb.2.1,.int .i64 pb.2.2],rfl,fun ρ w' r j u hu=>?_,?_⟩
  ·obtain⟨k1,k2⟩:=hlb j u hu;rw[aC,bw (w:=w) (w2:=w') (by rw[cL,cL];exact(hw.tr r.cC).block _ (hS _ k1))];exact k2
  conv=>whnf
  refine⟨rfl,?_⟩;conv=>whnf
  refine⟨.int .i64 (kb:Int),fun ρ w' r=>?_,?_⟩
  ·obtain⟨k1,k2⟩:=hlx 1 _ rfl;rw[bw (w:=w) (w2:=w') (by simp only[cL];exact(hw.tr r.cC).block _ (hS _ k1))];simp only[aC,kr]at k2 ⊢;exact k2
  conv=>whnf
  refine⟨rfl,?_⟩;conv=>whnf
  refine⟨rfl,?_⟩;conv=>whnf
  refine⟨rfl,?_⟩;conv=>whnf
  refine⟨pb.1-pa.1,by rw[wrap64]<;>omega,?_⟩;conv=>whnf
  refine⟨pb.2.1-pa.2.1,by rw[wrap64]<;>omega,?_⟩;conv=>whnf
  refine⟨pb.2.2-pa.2.2,by rw[wrap64]<;>omega,?_⟩;conv=>whnf
  intro ρe we re;exact⟨_,rfl,hw.tr re.cC,rfl⟩
 ·conv=>whnf
  refine⟨[.int .i64 pb.1,.int .i64 pb.2.1,.int .i64 pb.2.2],rfl,fun ρ w' r j u hu=>?_,?_⟩
  ·obtain⟨k1,k2⟩:=hlb j u hu;rw[aC,bw (w:=w) (w2:=w') (by rw[cL,cL];exact(hw.tr r.cC).block _ (hS _ k1))];exact k2
  conv=>whnf
  refine⟨rfl,?_⟩;conv=>whnf
  refine⟨.int .i64 (kb:Int),fun ρ w' r=>?_,?_⟩
  ·obtain⟨k1,k2⟩:=hlx 1 _ rfl;rw[bw (w:=w) (w2:=w') (by simp only[cL];exact(hw.tr r.cC).block _ (hS _ k1))];simp only[aC,kr]at k2 ⊢;exact k2
  conv=>whnf
  refine⟨rfl,?_⟩;conv=>whnf
  refine⟨rfl,?_⟩;conv=>whnf
  refine⟨rfl,?_⟩;conv=>whnf
  refine⟨[.int .i64 pa.1,.int .i64 pa.2.1,.int .i64 pa.2.2],rfl,fun ρ w' r j u hu=>?_,?_⟩
  ·obtain⟨k1,k2⟩:=hla j u hu;rw[aC,bw (w:=w) (w2:=w') (by rw[cL,cL];exact(hw.tr r.cC).block _ (hS _ k1))];exact k2
  conv=>whnf
  refine⟨rfl,?_⟩;conv=>whnf
  refine⟨.int .i64 (ka:Int),fun ρ w' r=>?_,?_⟩
  ·obtain⟨k1,k2⟩:=hlx 0 _ rfl;rw[bw (w:=w) (w2:=w') (by simp only[cL];exact(hw.tr r.cC).block _ (hS _ k1))];simp only[aC,kr]at k2 ⊢;exact k2
  conv=>whnf
  refine⟨rfl,?_⟩;conv=>whnf
  refine⟨rfl,?_⟩;conv=>whnf
  refine⟨rfl,?_⟩;conv=>whnf
  refine⟨[.int .i64 pb.1,.int .i64 pb.2.1,.int .i64 pb.2.2],rfl,fun ρ w' r j u hu=>?_,?_⟩
  ·obtain⟨k1,k2⟩:=hlb j u hu;rw[aC,bw (w:=w) (w2:=w') (by rw[cL,cL];exact(hw.tr r.cC).block _ (hS _ k1))];exact k2
  conv=>whnf
  refine⟨rfl,?_⟩;conv=>whnf
  refine⟨.int .i64 (kb:Int),fun ρ w' r=>?_,?_⟩
  ·obtain⟨k1,k2⟩:=hlx 1 _ rfl;rw[bw (w:=w) (w2:=w') (by simp only[cL];exact(hw.tr r.cC).block _ (hS _ k1))];simp only[aC,kr]at k2 ⊢;exact k2
  conv=>whnf
  refine⟨rfl,?_⟩;conv=>whnf
  refine⟨rfl,?_⟩;conv=>whnf
  refine⟨rfl,?_⟩;conv=>whnf
  refine⟨[.int .i64 pa.1,.int .i64 pa.2.1,.int .i64 pa.2.2],rfl,fun ρ w' r j u hu=>?_,?_⟩
  ·obtain⟨k1,k2⟩:=hla j u hu;rw[aC,bw (w:=w) (w2:=w') (by rw[cL,cL];exact(hw.tr r.cC).block _ (hS _ k1))];exact k2
  conv=>whnf
  refine⟨rfl,?_⟩;conv=>whnf
  refine⟨.int .i64 (ka:Int),fun ρ w' r=>?_,?_⟩
  ·obtain⟨k1,k2⟩:=hlx 0 _ rfl;rw[bw (w:=w) (w2:=w') (by simp only[cL];exact(hw.tr r.cC).block _ (hS _ k1))];simp only[aC,kr]at k2 ⊢;exact k2
  conv=>whnf
  refine⟨rfl,?_⟩;conv=>whnf
  refine⟨rfl,?_⟩;conv=>whnf
  refine⟨rfl,?_⟩;conv=>whnf
  refine⟨[.int .i64 pb.1,.int .i64 pb.2.1,.int .i64 pb.2.2],rfl,fun ρ w' r j u hu=>?_,?_⟩
  ·obtain⟨k1,k2⟩:=hlb j u hu;rw[aC,bw (w:=w) (w2:=w') (by rw[cL,cL];exact(hw.tr r.cC).block _ (hS _ k1))];exact k2
  conv=>whnf
  refine⟨rfl,?_⟩;conv=>whnf
  refine⟨.int .i64 (kb:Int),fun ρ w' r=>?_,?_⟩
  ·obtain⟨k1,k2⟩:=hlx 1 _ rfl;rw[bw (w:=w) (w2:=w') (by simp only[cL];exact(hw.tr r.cC).block _ (hS _ k1))];simp only[aC,kr]at k2 ⊢;exact k2
  conv=>whnf
  refine⟨rfl,?_⟩;conv=>whnf
  refine⟨rfl,?_⟩;conv=>whnf
  refine⟨rfl,?_⟩;conv=>whnf
  refine⟨pb.1-pa.1,by rw[wrap64]<;>omega,?_⟩;conv=>whnf
  refine⟨pb.2.1-pa.2.1,by rw[wrap64]<;>omega,?_⟩;conv=>whnf
  refine⟨pb.2.2-pa.2.2,by rw[wrap64]<;>omega,?_⟩;conv=>whnf
  intro ρe we re;exact⟨_,rfl,hw.tr re.cC,rfl⟩
section
variable{S S':Nat->Prop}{H:Hp}{nx:Nat}{iv iv':Iv}{B:Nat}{w w' w2:World}{ρ:Nat->Sx.dc}{v:Value}{l:List (Rat×Rat)}
end
end Go.Ex
namespace Go.Ex
abbrev I3:=Int×Int×Int
def HI(p:I3):Prop:=kx p.1∧kx p.2.1∧kx p.2.2
instance (p : I3) : Decidable (HI p) := by unfold HI; infer_instance
end Go.Ex
namespace Go.Ex
open Go Go.Sx Go.Proofs
end Go.Ex
namespace Go.Sx
open Go Go.Ex Go.Proofs
theorem Sub.Jj{B nx:Nat}{l:Env}{H:Hp}{iv:Iv}{w w':World}{ρ:Nat->Sx.dc}{t:yz}(id:Nat){bt:Nat}{vs:List Value}(hid:dA H id=some (.box bt (vs.map At.v)))(r:Rel H nx iv B w ρ w')
  (h:Rel ((id,.arr bt vs)::H) nx iv B w ρ w'->Sx.Sub B l nx ρ w' t):Sx.Sub B l nx ρ w' t:=by
 have hnn:=r.nn id _ hid (by intros;simp) (by simp);have hcell:=r.box id bt _ hid;have hden:(vs.map At.v).map (At.den ρ)=vs:=by
  rw[List.map_map];exact List.map_id _
 rw[hden]at hcell
 exact h (r.store (b':=.arr bt vs) (H':=(id,.arr bt vs)::H) (w2:=w') hid (by simp) hnn (fun j=>by
  rw[dB];by_cases hj:id=j
  ·subst hj;simp
  ·rw[aK hj,aK (fun h=>hj h.symm)]) rfl rfl rfl rfl (fun _ _=>rfl) ⟨hnn,hcell⟩ trivial)
end Go.Sx
namespace Go.Ex
open Go Go.Sx Go.Proofs
abbrev JU(x:Ld):Value:=.agg #[.int .i64 x.1,.int .i64 x.2.1,.int .i64 x.2.2.1,.int .i64 x.2.2.2]
end Go.Ex
namespace Go.Ex
open Go Go.Sx Go.Proofs
theorem Ek(x:Ld)(w:World):dh PG N.rF #[JU x] w (dw w fun v' _=>∃d,v'= .bool d∧(d=true↔HI x.2)):=by
 have hw:cN w.heap.size w w:=cN.refl;obtain⟨x0,x1,x2,x3⟩:=x;refine u6 (by simp) ?_;conv=>whnf
 refine bz (cE hw (Φ:=fun _ w' v w2=>∃d,v= .bool d∧(d=true↔ -1000000<=x1∧x1<=1000000)) (fun ρ w' r=>kB _ _ _ w') ?_);rintro ρ wa1 v1 wb1 iv1 r he hw h_ ⟨d0,rfl,hz0⟩;clear r
 cases d0
 ·have hz0:¬kx x1:=fun h=>by have:=hz0.2 h;cases this
  conv=>whnf
  intro ρe we re;exact⟨_,rfl,hw.tr re.cC,_,rfl,(fun h=>by cases h),fun h=>absurd h.1 hz0⟩
 replace hz0:kx x1:=hz0.1 rfl;conv=>whnf
 refine bz (cE hw (Φ:=fun _ w' v w2=>∃d,v= .bool d∧(d=true↔ -1000000<=x2∧x2<=1000000)) (fun ρ w' r=>kB _ _ _ w') ?_);rintro ρ wa2 v2 wb2 iv2 r he hw h_ ⟨d1,rfl,hz1⟩;clear r
 cases d1
 ·have hz1:¬kx x2:=fun h=>by have:=hz1.2 h;cases this
  conv=>whnf
  intro ρe we re;exact⟨_,rfl,hw.tr re.cC,_,rfl,(fun h=>by cases h),fun h=>absurd h.2.1 hz1⟩
 replace hz1:kx x2:=hz1.1 rfl;conv=>whnf
 refine bz (cE hw (Φ:=fun _ w' v w2=>∃d,v= .bool d∧(d=true↔ -1000000<=x3∧x3<=1000000)) (fun ρ w' r=>kB _ _ _ w') ?_);rintro ρ wa3 v3 wb3 iv3 r he hw h_ ⟨d2,rfl,hz2⟩;clear r
 cases d2
 ·have hz2:¬kx x3:=fun h=>by have:=hz2.2 h;cases this
  conv=>whnf
  intro ρe we re;exact⟨_,rfl,hw.tr re.cC,_,rfl,(fun h=>by cases h),fun h=>absurd h.2.2 hz2⟩
 replace hz2:kx x3:=hz2.1 rfl;conv=>whnf
 intro ρe we re;exact⟨_,rfl,hw.tr re.cC,_,rfl,fun _=>⟨hz0,hz1,hz2⟩,fun _=>rfl⟩
section
variable{S S':Nat->Prop}{H:Hp}{nx:Nat}{iv iv':Iv}{B:Nat}{w w' w2:World}{ρ:Nat->Sx.dc}{v:Value}{l:List Ld}
end
end Go.Ex
namespace Go.Ex
theorem Fl{l:List Rat}{t:Nat}(h:l.length<=t):l.getD t 0=0:=by rw[List.getD,List.getElem?_eq_none h];rfl
section
variable{M:List (List Rat)}{n B:Nat}{b:List Rat}
end
theorem getD_some{α:Type}{l:List α}{i:Nat}{x d:α}(h:l[i]? =some x):l.getD i d=x:=by rw[List.getD,h];rfl
structure aAK(M:List (List Rat))(n:Nat)(φ:Nat->Rat):Prop where
 len:fk n M
 pos:∀t,t<n->0<=φ t
 aAL:∀x:Nat->Rat,(∀j,j<M.length->mulR M n x j=0)->dU (fun t=>φ t*(x t*x t)) n=0->∀t,t<n->x t=0
def Jx(φ x y:Nat->Rat)(n:Nat):Rat:=dU (fun t=>φ t*(x t*y t)) n
section
variable{M:List (List Rat)}{n:Nat}{φ:Nat->Rat}{b:List Rat}
structure aAE(M:List (List Rat))(n:Nat)(φ:Nat->Rat)(b x:List Rat):Prop where
 len:x.length=n
 eq:∀j,j<M.length->mulR M n (fun t=>x.getD t 0) j=b.getD j 0
 st:∀k,k<(fq M n).length->Jx φ (di (fq M n) k) (fun t=>x.getD t 0) n=0
end
section
variable{M:List (List Rat)}{n:Nat}{fl b:List Rat}
end
def ez(M:List (List Int))(r c:Nat):Int:=(M.getD r []).getD c 0
theorem getD_set_ne{α:Type}{l:List α}{i j:Nat}{x d:α}(h:i≠j):(l.set i x).getD j d=l.getD j d:=by rw[List.getD,a9 h,<-List.getD]
theorem kQ{α:Type}{l:List α}{i:Nat}{x d:α}(h:i<l.length):(l.set i x).getD i d=x:=by rw[List.getD,aT h];rfl
theorem iG{M:List (List Int)}{r c r' c':Nat}{d:Int}(h:r'≠r∨c'≠c):ez (putAt M r c d) r' c'=ez M r' c':=by
 unfold ez putAt;by_cases h1:r'=r
 ·subst h1;have h2:c≠c':=h.elim (fun h=>absurd rfl h) fun h=>h.symm;rcases aV r' M.length with h3|h3
  ·rw[kQ h3,getD_set_ne h2]
  ·rw[List.set_eq_of_length_le h3]
 ·rw[getD_set_ne (Ne.symm h1)]
theorem B3{M:List (List Int)}{r c:Nat}{d:Int}(hr:r<M.length)(hc:c<(M.getD r []).length):ez (putAt M r c d) r c=d:=by
 unfold ez putAt;rw[kQ hr,kQ hc]
theorem fu(M:List (List Int))(r c:Nat)(d:Int):qo M r c d=putAt M r c (ez M r c+d):=rfl
theorem AB{f:fK}{i:Nat}{b:Int×Int×Rat}(hb:f.bars[i]? =some b):f.bars.getD i (0,0,0)=b:=by rw[List.getD,hb];rfl
theorem s3{f:fK}{M:List (List Int)}{i c r:Nat}(h:c≠i):∀k,ez (eD f M i k) r c=ez M r c
 |0=>rfl
 |k+1=>by
  rw[eD];rw[fu,iG (.inr h),fu,iG (.inr h)];exact s3 h k
theorem kR(f:fK){r c:Nat}:∀i,i<=c->ez (dS f i) r c=0
 |0,_=>by
  unfold ez dS;rcases aV r (3*f.nodes.length)with h|h
  ·rw[show (List.replicate (3*f.nodes.length) (List.replicate f.cols (0:Int))).getD r []=List.replicate f.cols 0 by rw[List.getD,List.getElem?_replicate,if_pos h];rfl,List.getD,List.getElem?_replicate];split<;>rfl
  ·rw[show (List.replicate (3*f.nodes.length) (List.replicate f.cols (0:Int))).getD r []=[] by rw[List.getD,List.getElem?_replicate,aK (by omega)];rfl];rfl
 |i+1,h=>by rw[dS,s3 (by omega)];exact kR f i (by omega)
theorem toNat_add{a:Int}{k ka:Nat}(h:a=ka):(3*a+(k:Int)).toNat=3*ka+k:=by omega
theorem zG{f:fK}{M:List (List Int)}{i r ka kb:Nat}{b:Int×Int×Rat}(hb:f.bars[i]? =some b)(ea:b.1=ka)(eb:b.2.1=kb):∀k,k<=3->k<=r % 3->ez (eD f M i k) r i=ez M r i
 |0,_,_=>rfl
 |k+1,h3,h=>by
  rw[eD];rw[AB hb,toNat_add ea,toNat_add eb,fu,iG (.inl (by omega)),fu,iG (.inl (by omega))];exact zG hb ea eb k (by omega) (by omega)
theorem mA{f:fK}{i r ka kb k:Nat}{b:Int×Int×Rat}(hb:f.bars[i]? =some b)(ea:b.1=ka)(eb:b.2.1=kb)(hk:k<=3)(h:k<=r % 3):ez (eD f (dS f i) i k) r i=0:=by
 rw[zG hb ea eb k hk h];exact kR f i (aG _)
theorem wj{f:fK}{r c:Nat}(h:c<f.bars.length):∀k,ez (eR f k) r c=ez (dS f f.bars.length) r c
 |0=>rfl
 |k+1=>by
  rw[eR];rw[iG (.inr (by omega))];exact wj h k
theorem tc{f:fK}{r i:Nat}:∀k,k<=i->ez (eR f k) r (f.bars.length+i)=0
 |0,_=>kR f _ (by omega)
 |k+1,h=>by
  rw[eR];rw[iG (.inr (by omega))];exact tc k (by omega)
def fw(s:Int×Int×Rat):Nat:=(3*s.1+s.2.1).toNat
theorem zH{f:fK}(hw:∀k,∀l∈eR f k,l.length=f.cols)(hlen:∀k,(eR f k).length=3*f.nodes.length)(hrow:∀s∈f.cO,fw s<3*f.nodes.length){r i:Nat}{s:Int×Int×Rat}(hs:f.cO[i]? =some s):
  ∀k,i<k->ez (eR f k) r (f.bars.length+i)=if r=fw s then 1 else 0
 |0,h=>by omega
 |k+1,h=>by
  rw[eR];rcases aV i k with h1|h1
  ·rw[iG (.inr (by omega))];exact zH hw hlen hrow hs k h1
  ·have:i=k:=by omega
   subst this;have hg:f.cO.getD i (0,0,0)=s:=by rw[List.getD,hs];rfl
   have hsr:=hrow s (aF hs);have hi:=(aE.1 hs).1;rw[hg];by_cases h2:r=fw s
   ·rw[if_pos h2,h2];have hm:fw s<(eR f i).length:=by rw[hlen];exact hsr
    exact B3 hm (by
     show f.bars.length+i<((eR f i).getD (fw s) []).length;rw[List.getD,aB hm];show f.bars.length+i<((eR f i)[fw s]).length;rw[hw i _ (bL hm),fK.cols]
     omega)
   ·rw[aK h2];exact(iG (r:=fw s) (.inl h2)).trans (tc i (aG _))
end Go.Ex
