/- A part of the proof: texts X149 to L46. Each tells its conditions in its theorems. -/
import Derived.Test.YtkdcaknoaeicdaaGreatP7
import Derived.Test.YtkdcaknoaeicdaaGreatP11
import Derived.Test.YtkdcaknoaeicdaaGreatP12
namespace Go.Ex
open Go Go.Sx Go.Proofs
def GU(m:Nat):List Value:=[.int .i64 ((m / 3:Nat):Int),.int .i64 ((m % 3:Nat):Int),.bool false,.slice none 0 0,.bool false,.slice none 0 0]
def oP(m:Nat):List (List Value):=(List.range m).map GU
theorem BE{i k:Nat}(hk:k<3):(oP (3*i+k)).flatten++[.int .i64 (i:Int),.int .i64 (k:Int),.bool false,.slice none 0 0,.bool false,.slice none 0 0]=(oP (3*i+(k+1))).flatten:=by
 rw[oP,oP,<-Nat.add_assoc,bf,List.map_append,List.flatten_append];simp only[List.map_cons,List.map_nil,GU,show(3*i+k) / 3=i by omega,show(3*i+k) % 3=k by omega]
 simp
theorem C4(m:Nat):(oP m).length=m:=by rw[oP,aK,List.length_range]
theorem C5(m:Nat):∀cs∈oP m,cs.length=6:=fun cs hc=>by
 obtain⟨j,_,rfl⟩:=aS.1 hc;rfl
theorem dc.zeroV{S:Nat->Prop}{w:World}:dc w S (.agg #[.bool false,.slice none 0 0,.bool false,.slice none 0 0]) 0:=dc.zero
theorem rR(w:World):dQ PG N.oE #[] w (dU w fun v' w2=>∃vn vb vs,v'= .agg #[vn,vb,vs]∧dE w2 (Nw (fun _=>False) w w2) vn vb vs eZ):=by
 have hw:cF w.heap.size w w:=cF.refl;refine rE (by simp) ?_;conv=>whnf
 refine bp (cE hw (Φ:=fun _ w' v w2=>cH w2 (Nw (fun _=>False) w' w2) v ((1:Int):Rat)) (fun ρ w' r=>gq 1 w' (by decide)) ?_);rintro ρ wa1 v1 wb1 iv1 r he hw h_ hn;have hd:=hn.cQ (S:=fun _=>False) r.bm (mN h_);clear r;obtain⟨s1_0,s1_1,s1_2,s1_3,s1_4,s1_5,s1_6,s1_7,rfl⟩:=hd.shape;conv=>whnf
 refine⟨Nat×World,fun z=>⟨[(0,.o (.p 0 0)),(2,.o (.p 4 0)),(3,.o (.v (.int .i64 ((z.1:Nat):Int))))],[(5,.vec T.tY 6 (oP (3*z.1)).flatten),(4,.box T.Frame [.s 2 0 3 3,.s 3 0 2 2,.w 5 (3*z.1)]),(3,.box T.G6 [.v (.int .i64 0),.v (.int .i64 2),.v (.bool s1_0),.v (.slice s1_1 s1_2 s1_3),.v (.bool s1_4),.v (.slice s1_5 s1_6 s1_7),.v (.int .i64 1),.v (.int .i64 2),.v (.bool s1_0),.v (.slice s1_1 s1_2 s1_3),.v (.bool s1_4),.v (.slice s1_5 s1_6 s1_7)]),(2,.box T.Node [.v (.int .i64 0),.v (.int .i64 0),.v (.int .i64 0),.v (.int .i64 0),.v (.int .i64 0),.v (.int .i64 4),.v (.int .i64 3),.v (.int .i64 0),.v (.int .i64 0)]),(0,.box T.Frame [.v (.slice none 0 0),.v (.slice none 0 0),.v (.slice none 0 0)])],6,iv1,z.2⟩,fun z=>2-z.1,
  fun z=>z.1<=2∧cF w.heap.size w z.2∧cH z.2 (Cv (fun _=>False) w.heap.size iv1) (.agg #[.bool s1_0,.slice s1_1 s1_2 s1_3,.bool s1_4,.slice s1_5 s1_6 s1_7]) ((1:Int):Rat),?_,?_⟩
 ·intro ρ w' r;exact⟨(0,w'),⟨aO _,hw.tr r.bs,hd.rel r (bl w)⟩,Sub.yT 4 2 T.tY 6 rfl rfl (by simp[cO,SV.sc,At.sc,cJ]) r fun ρ1 r1=>Sub.gen [] r1 ⟨rfl,rfl,rfl,rfl,rfl,trivial⟩ ⟨rfl,rfl,rfl,trivial⟩ (by simp[cY,cN.scopd,At.sc]) (by simp[cO,SV.sc,At.sc,cJ]) (by rfl) (fun lo hi h=>h)⟩
 clear hw hd;rintro⟨i,w1⟩ ⟨hi,hw,hd⟩;dsimp only at hi hw hd ⊢;conv=>whnf
 refine cW.mk (fun hib=>?_) (fun hib=>?_)
 ·have hib:i<2:=by have:=aG hib;omega
  conv=>whnf
  refine⟨Nat×World,fun z=>⟨[(0,.o (.p 0 0)),(2,.o (.p 4 0)),(3,.o (.v (.int .i64 ((i:Nat):Int)))),(4,.o (.v (.int .i64 ((z.1:Nat):Int))))],[(5,.vec T.tY 6 (oP (3*i+z.1)).flatten),(4,.box T.Frame [.s 2 0 3 3,.s 3 0 2 2,.w 5 (3*i+z.1)]),(3,.box T.G6 [.v (.int .i64 0),.v (.int .i64 2),.v (.bool s1_0),.v (.slice s1_1 s1_2 s1_3),.v (.bool s1_4),.v (.slice s1_5 s1_6 s1_7),.v (.int .i64 1),.v (.int .i64 2),.v (.bool s1_0),.v (.slice s1_1 s1_2 s1_3),.v (.bool s1_4),.v (.slice s1_5 s1_6 s1_7)]),(2,.box T.Node [.v (.int .i64 0),.v (.int .i64 0),.v (.int .i64 0),.v (.int .i64 0),.v (.int .i64 0),.v (.int .i64 4),.v (.int .i64 3),.v (.int .i64 0),.v (.int .i64 0)]),(0,.box T.Frame [.v (.slice none 0 0),.v (.slice none 0 0),.v (.slice none 0 0)])],6,iv1,z.2⟩,fun z=>3-z.1,
   fun z=>z.1<=3∧cF w.heap.size w z.2∧cH z.2 (Cv (fun _=>False) w.heap.size iv1) (.agg #[.bool s1_0,.slice s1_1 s1_2 s1_3,.bool s1_4,.slice s1_5 s1_6 s1_7]) ((1:Int):Rat),?_,?_⟩
  ·intro ρ w' r3;exact⟨(0,w'),⟨aO _,hw.tr r3.bs,hd.rel r3 (bl w)⟩,Sub.gen [] r3 ⟨rfl,rfl,rfl,rfl,rfl,trivial⟩ ⟨rfl,rfl,rfl,rfl,trivial⟩ (by simp[cY,cN.scopd,At.sc]) (by simp[cO,SV.sc,At.sc,cJ]) (by rfl) (fun lo hi h=>h)⟩
  clear hw hd;rintro⟨k,w3⟩ ⟨hk,hw,hd⟩;dsimp only at hk hw hd ⊢;conv=>whnf
  refine cW.mk (fun hkb=>?_) (fun hkb=>?_)
  ·have hkb:k<3:=by have:=aG hkb;omega
   have hs:=BE (i:=i) hkb;have hfl:=rN (C5 (3*i+k));have hsl:=C4 (3*i+k);conv=>whnf
   refine .inl ?_;conv=>whnf
   refine⟨by omega,by omega,by unfold maxLen;omega,?_⟩;conv=>whnf
   refine⟨((k+1:Nat):Int),by rw[wrap64]<;>omega,?_⟩;conv=>whnf
   intro ρ3 w6 r3;exact⟨(k+1,w6),⟨hkb,hw.tr r3.bs,hd.rel r3 (bl w)⟩,Sub.gen [(5,7)] r3 ⟨by dsimp only;rw[<-hs];rfl,rfl,rfl,rfl,rfl,trivial⟩ ⟨rfl,rfl,rfl,rfl,trivial⟩ (by simp[cY,cN.scopd,At.sc]) (by simp[cO,SV.sc,At.sc,cJ]) (by rfl) (fun lo hi h=>h),by dsimp only;omega⟩
  have hkb:k=3:=by have:=aF hkb;omega
  subst hkb;conv=>whnf
  refine⟨((i+1:Nat):Int),by rw[wrap64]<;>omega,?_⟩;conv=>whnf
  intro ρ3 w6 r3;exact⟨(i+1,w6),⟨hib,hw.tr r3.bs,hd.rel r3 (bl w)⟩,Sub.gen [] r3 ⟨rfl,rfl,rfl,rfl,rfl,trivial⟩ ⟨rfl,rfl,rfl,trivial⟩ (by simp[cY,cN.scopd,At.sc]) (by simp[cO,SV.sc,At.sc,cJ]) (by rfl) (fun lo hi h=>h),by dsimp only;omega⟩
 have hib:i=2:=by have:=aF hib;omega
 subst hib;conv=>whnf
 refine .inl ?_;conv=>whnf
 refine⟨by decide,by decide,by decide,?_⟩;conv=>whnf
 intro ρe we re;have hN:∀{id:Nat} {bk:cN},cT _ id=some bk->(ρe id).nil=false->Nw (fun _=>False) w we (ρe id).g:=fun h hn=>by
  obtain⟨h1,h2⟩:=re.low _ _ h hn;exact .inr ⟨h1,h2⟩
 have hR:=hd.out re (bl w);have hL:dc we (Nw (fun _=>False) w we) (.agg #[.bool s1_0,.slice s1_1 s1_2 s1_3,.bool s1_4,.slice s1_5 s1_6 s1_7]) 1:=hR.l (by decide);refine⟨_,rfl,hw.tr re.bs,_,_,_,rfl,?_,?_,?_⟩
 ·refine⟨[[.int .i64 0,.int .i64 0,.int .i64 0],[.int .i64 0,.int .i64 0,.int .i64 4],[.int .i64 3,.int .i64 0,.int .i64 0]],(re.nA (id:=2) (sz:=3) (n:=3) rfl rfl (by decide) (by repeat' first|refine List.forall_mem_cons.2 ⟨rfl,?_⟩|exact fun u hu=>absurd hu List.not_mem_nil)).bz fun g hg=>by subst hg;exact hN (id:=2) rfl (re.nn 2 _ rfl (by intros;simp) (by simp)),rfl,by simp,fun j cs x h1 h2=>?_⟩;rcases j with _|_|_|j
  ·cases h1;cases h2;rfl
  ·cases h1;cases h2;rfl
  ·cases h1;cases h2;rfl
  ·cases h2
 ·refine⟨[[.int .i64 0,.int .i64 2,.bool s1_0,.slice s1_1 s1_2 s1_3,.bool s1_4,.slice s1_5 s1_6 s1_7],[.int .i64 1,.int .i64 2,.bool s1_0,.slice s1_1 s1_2 s1_3,.bool s1_4,.slice s1_5 s1_6 s1_7]],(re.nA (id:=3) (sz:=6) (n:=2) rfl rfl (by decide) (by repeat' first|refine List.forall_mem_cons.2 ⟨rfl,?_⟩|exact fun u hu=>absurd hu List.not_mem_nil)).bz fun g hg=>by subst hg;exact hN (id:=3) rfl (re.nn 3 _ rfl (by intros;simp) (by simp)),rfl,by simp,fun j cs x h1 h2=>?_⟩;rcases j with _|_|j
  ·cases h1;cases h2;exact⟨_,_,_,_,_,_,_,_,rfl,hL⟩
  ·cases h1;cases h2;exact⟨_,_,_,_,_,_,_,_,rfl,hL⟩
  ·cases h2
 ·refine⟨oP 6++[[.int .i64 2,.int .i64 1,.bool false,.slice none 0 0,.bool false,.slice none 0 0]],?_,rfl,by decide,fun j cs x h1 h2=>?_⟩
  ·have h5:=re.gB (id:=7) (sz:=6) (m:=7) rfl (by decide) (by decide) (by decide) (by decide);rw[List.flatten_append];exact h5.bz fun g hg=>.inr hg
  ·rcases j with _|_|_|_|_|_|_|j
   ·cases h1;cases h2;exact⟨_,_,_,_,_,_,_,_,rfl,dc.zeroV⟩
   ·cases h1;cases h2;exact⟨_,_,_,_,_,_,_,_,rfl,dc.zeroV⟩
   ·cases h1;cases h2;exact⟨_,_,_,_,_,_,_,_,rfl,dc.zeroV⟩
   ·cases h1;cases h2;exact⟨_,_,_,_,_,_,_,_,rfl,dc.zeroV⟩
   ·cases h1;cases h2;exact⟨_,_,_,_,_,_,_,_,rfl,dc.zeroV⟩
   ·cases h1;cases h2;exact⟨_,_,_,_,_,_,_,_,rfl,dc.zeroV⟩
   ·cases h1;cases h2;exact⟨_,_,_,_,_,_,_,_,rfl,dc.zeroV⟩
   ·cases h2
structure eJ(w:World)(S:Nat->Prop)(css:List (List Value))(qs:List Rat):Prop where
 len:css.length=qs.length
 four:∀cs∈css,cs.length=4
 at_:∀(j:Nat) cs q,css[j]? =some cs->qs[j]? =some q->gP w S cs q
section
variable{S S':Nat->Prop}{H:Hp}{nx:Nat}{iv iv':Iv}{B:Nat}{w w' w2:World}{ρ:Nat->Sx.dN}{css:List (List Value)}{qs:List Rat}
theorem eJ.nil:eJ w S [] []:=⟨rfl,fun _ h=>(by cases h),fun _ _ _ h=>by cases h⟩
theorem eJ.bu(h:eJ w S css qs)(hk:∀g,S g->w2.heap[g]? =w.heap[g]?):eJ w2 S css qs:=⟨h.len,h.four,fun j cs q h1 h2=>by
 obtain⟨b,a,n,c,b2,a2,n2,c2,e,hr⟩:=h.at_ j cs q h1 h2
 exact⟨b,a,n,c,b2,a2,n2,c2,e,hr.bu hk⟩⟩
theorem eJ.bz(h:eJ w S css qs)(hk:∀g,S g->S' g):eJ w S' css qs:=⟨h.len,h.four,fun j cs q h1 h2=>by
 obtain⟨b,a,n,c,b2,a2,n2,c2,e,hr⟩:=h.at_ j cs q h1 h2
 exact⟨b,a,n,c,b2,a2,n2,c2,e,hr.bz hk⟩⟩
theorem eJ.rel(h:eJ w (Cv S B iv) css qs)(r:Rel H nx iv B w ρ w')(hS:∀g,S g->g<B):eJ w' (Cv S B iv) css qs:=h.bu fun _ hg=>Rel.same r hS hg
theorem eJ.bq(h:eJ w (Cv S B iv) css qs)(r:Rel H nx iv B w ρ w')(hS:∀g,S g->g<B)(he:Ext w' w2)(hm:∀p,p∈iv->p∈iv'):eJ w2 (Cv S B iv') css qs:=
 ((h.rel r hS).bu fun g hg=>he.block g (Rel.old r hS g hg)).bz fun _ hg=>hg.mono hm
theorem eJ.push{cs:List Value}{q:Rat}(h:eJ w S css qs)(hc:gP w S cs q)(h4:cs.length=4):eJ w S (css++[cs]) (qs++[q]):=by
 refine⟨by simp[h.len],fun x hx=>?_,fun j x p h1 h2=>?_⟩
 ·rcases bT.1 hx with hx|hx
  ·exact h.four x hx
  ·rw[bB.1 hx];exact h4
 ·rcases bA j css.length with hi|hi
  ·rw[aJ hi]at h1;rw[aJ (by rw[<-h.len];exact hi)]at h2;exact h.at_ j x p h1 h2
  ·have hi0:j=css.length:=by have:=(aE.1 h1).1;simp at this;omega
   subst hi0;rw[aT (aI _),bP]at h1;rw[h.len,aT (aI _),bP]at h2;simp at h1 h2;subst h1 h2;exact hc
theorem eJ.one(h:eJ w S css qs):∀u∈css.flatten,u.oneCell'=true:=fun u hu=>by
 obtain⟨cs,hc,hu⟩:=List.mem_flatten.1 hu;obtain⟨j,hj⟩:=aU hc;obtain⟨_,_,_,_,_,_,_,_,rfl,_⟩:=h.at_ j cs _ hj (aA (by rw[<-h.len];exact(aE.1 hj).1));simp at hu;rcases hu with rfl|rfl|rfl|rfl<;>rfl
theorem eJ.oy{id:Nat}(h:eJ w (Cv (fun _=>False) B iv) css qs)(r:Rel H nx iv B w ρ w')(hid:cT H id=some (.vec T.Rat 4 css.flatten))(h0:0<css.length)(hm:css.length<=maxLen):
  dK w' (fun _=>False) B [(B,w'.heap.size)] ((SV.o (.w id css.length)).den ρ) css.length qs:=by
 have h2:=h.rel r (fQ B);obtain⟨k1,k2,k3,k4⟩:=GQ r hid rfl h0 hm ⟨h2.len,h2.at_⟩;have hden:(SV.o (.w id css.length)).den ρ= .slice (some ⟨(ρ id).g,0,none⟩) css.length (ρ id).cap:=by simp[SV.den,At.den,k1]
 rw[hden];have key:∀g,Cv (fun _=>False) B iv g->Cv (fun _=>False) B [(B,w'.heap.size)] g:=fun g hg=>
  .inr ⟨hg.elim (fun h=>h.elim) fun h=>h.1,B,w'.heap.size,bB.2 rfl,hg.elim (fun h=>h.elim) fun h=>h.1,Rel.old r (fQ B) g hg⟩
 refine⟨k4.bz fun g hg=>⟨key g hg,fun e=>?_⟩,fun g hg=>?_⟩
 ·injection e with e;exact Rel.not r (fQ B) hg id _ hid k1 e
 ·injection hg with hg;subst hg;have:=(r.low id _ hid k1).2;exact .inr ⟨k2,B,w'.heap.size,bB.2 rfl,k2,this⟩
theorem eJ.list{v:Value}(h:eJ w S css qs)(hs:gw w S 4 v css.flatten css.length):cB w S v qs:=⟨css,h.len▸hs,h.len,h.four,h.at_⟩
end
theorem AD{S:Nat->Prop}{w:World}{v:Value}{l:List Int}(hS:Old S w)(hl:yq w S v l)(hl0:0<l.length)(hl2:l.length<=1000)(hb:∀z∈l,z.natAbs<1073741824):
  dQ PG N.pc #[v] w (dU w fun v' w2=>dK w2 (fun _=>False) w.heap.size [(w.heap.size,w2.heap.size)] v' l.length (cK l)):=by
 have hw:cF w.heap.size w w:=cF.refl;obtain⟨al,cl,rfl,hcl,hml⟩:=hl.shape;unfold maxLen at hml;refine s8 (by simp) ?_;conv=>whnf
 refine⟨Nat×List (List Value)×World×Iv,fun z=>⟨[(0,.o (.v (.slice al l.length cl))),(3,.o (.w 0 z.2.1.length)),(4,.o (.v (.int .i64 ((z.1:Nat):Int))))],[(0,.vec T.Rat 4 z.2.1.flatten)],1,z.2.2.2,z.2.2.1⟩,fun z=>l.length-z.1,
  fun z=>z.1<=l.length∧cF w.heap.size w z.2.2.1∧eJ z.2.2.1 (Cv (fun _=>False) w.heap.size z.2.2.2) z.2.1 (cK (l.take z.1)),?_,?_⟩
 ·intro ρ w' r;exact⟨(0,[],w',[]),⟨aO _,hw.tr r.bs,eJ.nil⟩,Sub.nil 3 T.Rat 4 rfl (by simp[cO,SV.sc,At.sc,cJ]) r fun ρ1 r1=>Sub.gen [] r1 ⟨rfl,trivial⟩ ⟨rfl,rfl,rfl,trivial⟩ (by simp[cY,cN.scopd,At.sc]) (by simp[cO,SV.sc,At.sc,cJ]) (by rfl) (fun lo hi h=>h)⟩
 clear hw;rintro⟨i,css,w1,iv⟩ ⟨hi,hw,hG⟩;dsimp only at hi hw hG ⊢;have hfl:=eH hG.four;have hcl2:css.length=i:=by rw[hG.len,cK,aK,aW];omega
 conv=>whnf
 refine cW.mk (fun hib=>?_) (fun hib=>?_)
 ·have hib:i<l.length:=by simpa using hib
  obtain⟨z,hz⟩:∃z,l[i]? =some z:=⟨_,aA hib⟩
  have hzb:=hb z (aD hz);have hnx:cK (l.take (i+1))=cK (l.take i)++[(z:Rat)]:=by rw[cK,List.take_add_one,hz,List.map_append];rfl
  obtain⟨adx,hax,hSx,hlx⟩:=yq.at hl hz;conv=>whnf
  refine⟨adx,hax,⟨by omega,by omega⟩,?_⟩;conv=>whnf
  refine⟨.int .i64 z,fun ρ w' r=>?_,?_⟩
  ·rw[aB,bo (w:=w) (w2:=w') (by rw[cC];exact(hw.tr r.bs).block _ (hS _ hSx))];exact hlx
  conv=>whnf
  refine bp (cE hw (Φ:=fun _ w' v w2=>cH w2 (Nw (fun _=>False) w' w2) v (z:Rat)) (fun ρ w' r=>gq z w' (by omega)) ?_);rintro ρ wa1 v1 wb1 iv1 r he hw h_ hn;replace hG:=hG.bq r (bl w) he (mC h_);have hd:=hn.cQ (S:=fun _=>False) r.bm (mN h_);clear r;obtain⟨s1_0,s1_1,s1_2,s1_3,s1_4,s1_5,s1_6,s1_7,rfl⟩:=hd.shape;conv=>whnf
  have hG2:=hG.push (cs:=[.bool s1_0,.slice s1_1 s1_2 s1_3,.bool s1_4,.slice s1_5 s1_6 s1_7]) (q:=(z:Rat)) ⟨_,_,_,_,_,_,_,_,rfl,hd⟩ rfl;rw[<-hnx]at hG2;have hfl2:css.flatten++([.bool s1_0,.slice s1_1 s1_2 s1_3,.bool s1_4,.slice s1_5 s1_6 s1_7]:List Value)=(css++([[.bool s1_0,.slice s1_1 s1_2 s1_3,.bool s1_4,.slice s1_5 s1_6 s1_7]]:List (List Value))).flatten:=by simp
  refine .inl ?_;conv=>whnf
  refine⟨by omega,by omega,by unfold maxLen;omega,?_⟩;conv=>whnf
  refine⟨((i+1:Nat):Int),by rw[wrap64]<;>omega,?_⟩;conv=>whnf
  intro ρ3 w3 r3;exact⟨(i+1,css++[[.bool s1_0,.slice s1_1 s1_2 s1_3,.bool s1_4,.slice s1_5 s1_6 s1_7]],w3,_),⟨hib,hw.tr r3.bs,hG2.rel r3 (bl w)⟩,Sub.gen [(0,2)] r3 ⟨by dsimp only;rw[<-hfl2];rfl,trivial⟩ ⟨rfl,by dsimp only;rw[List.length_append,List.length_singleton];rfl,rfl,trivial⟩ (by simp[cY,cN.scopd,At.sc]) (by simp[cO,SV.sc,At.sc,cJ]) (by rfl) (fun lo hi h=>h),by dsimp only;omega⟩
 have hib:i=l.length:=aM hi (by simpa using hib);subst hib;rw[ah]at hG;conv=>whnf
 intro ρe we re;refine⟨_,rfl,hw.tr re.bs,?_⟩;have h5:=hG.oy re (id:=0) rfl (by omega) (by unfold maxLen;omega);have h6:css.length=l.length:=hcl2;rw[<-h6];exact h5
theorem dE.cQ{w' w2:World}{vn vb vs:Value}{f:eX}{B:Nat}{iv:Iv}(h:dE w2 (Nw (fun _=>False) w' w2) vn vb vs f)(hB:B<=w'.heap.size)(hm:(w'.heap.size,w2.heap.size)∈iv):dE w2 (Cv (fun _=>False) B iv) vn vb vs f:=h.bz fun _ hg=>hg.cQ hB hm
abbrev BF(a b c:Int):Value:=.agg #[.int .i64 a,.int .i64 b,.int .i64 c]
theorem Fl(p0 p1 p2 q0 q1 q2:Int)(w:World):(Op.equal T.uU (BF p0 p1 p2) (BF q0 q1 q2)).run PG w= .ok (decide (p0=q0∧p1=q1∧p2=q2)) w:=by
 have h:=run_underlying Tryz.underlying68;simp only[Op.equal,Op.maxDepth]
 unfold Op.equalIn;have a0:=eI (cs:= #[Value.int .i64 p0,Value.int .i64 p1,Value.int .i64 p2]) (j:=0) rfl;have a1:=eI (cs:= #[Value.int .i64 p0,Value.int .i64 p1,Value.int .i64 p2]) (j:=1) rfl;have a2:=eI (cs:= #[Value.int .i64 p0,Value.int .i64 p1,Value.int .i64 p2]) (j:=2) rfl;have b0:=eI (cs:= #[Value.int .i64 q0,Value.int .i64 q1,Value.int .i64 q2]) (j:=0) rfl;have b1:=eI (cs:= #[Value.int .i64 q0,Value.int .i64 q1,Value.int .i64 q2]) (j:=1) rfl;have b2:=eI (cs:= #[Value.int .i64 q0,Value.int .i64 q1,Value.int .i64 q2]) (j:=2) rfl;simp[h,a0,a1,a2,b0,b1,b2,eq_int 9998];by_cases h0:p0=q0
 ·by_cases h1:p1=q1
  ·by_cases h2:p2=q2<;>simp[h0,h1,h2]
  ·simp[h0,h1]
 ·simp[h0]
theorem Ek(p0 p1 p2 q0 q1 q2:Int)(w:World)(o1 o2:Operand):(do eqGuard .eql T.uU o1 o2 (BF p0 p1 p2) (BF q0 q1 q2);binOp .eql T.uU (BF p0 p1 p2) (BF q0 q1 q2)).run PG w= .ok (.bool (decide (p0=q0∧p1=q1∧p2=q2))) w:=by
 have h:=Fl p0 p1 p2 q0 q1 q2 w;simp[eqGuard,binOp,h]
def Fm:List Int:=[0,0,0,0,0,0,-1,0,0]
def Fo:List Int:=[-3,3,9,0,0,-9,0,12,0]
theorem El:(cK Fm).set 8 (Rat.divInt (-3) 2)=Fj:=by decide +kernel
theorem Fp:cK Fo=BD:=by decide +kernel
theorem C6:∀q∈BD,rl q<=100000:=by decide +kernel
theorem AE:∀q∈jb BD (jM eZ),rl q<=100000:=by decide +kernel
theorem Gp:Rat.divInt 2000 1000=((2:Int):Rat):=by decide +kernel
theorem FJ{H:Hp}{nx:Nat}{iv:Iv}{B:Nat}{w w':World}{ρ:Nat->Sx.dN}(r:Rel H nx iv B w ρ w'){id n:Nat}{l:List Int}(h:cT H id=some (.box T.int (l.map fun z=>At.v (.int .i64 z))))(hn:l.length=n)(hm:n<=maxLen):
  yq w' (fun g=>g=(ρ id).g) (.slice (some ⟨(ρ id).g,0,none⟩) n n) l:=by
 subst hn;have h5:=r.nA (sz:=1) (n:=l.length) h (by simp) hm (fun u hu=>by obtain⟨z,_,rfl⟩:=aS.1 hu;rfl);rw[List.map_map]at h5;exact h5
set_option maxHeartbeats 1000000 in
theorem kg(w:World):dQ PG N.rp #[] w (dU w fun v' _=>v'= .bool true):=by
 have hw:cF w.heap.size w w:=cF.refl;refine ue (by simp) ?_;conv=>whnf
 refine bp (cE hw (Φ:=fun _ w' v w2=>∃vn vb vs,v= .agg #[vn,vb,vs]∧dE w2 (Nw (fun _=>False) w' w2) vn vb vs eZ) (fun ρ w' r=>rR w') ?_);rintro ρ wa1 v1 wb1 iv1 r he hw h_ ⟨vn1,vb1,vs1,rfl,hn⟩;have hf:=hn.cQ r.bm (mN h_);clear r;clear hn;obtain⟨an1,cn1,ab1,cb1,aq1,cq1,rfl,rfl,rfl,-,-,-⟩:=hf.shape;conv=>whnf
 refine bp (cE hw (Φ:=fun _ w' v w2=>∃vx,v= .tuple #[vx,.int .i64 0]∧cB w2 (Nw (fun _=>False) w' w2) vx BD) (fun ρ w' r=>BA (S:=(fun g=>Cv (fun _=>False) w.heap.size iv1 g∨g=(ρ 0).g)) (l:=C3) (h:=2) (fun g hg=>hg.elim (Rel.old r (bl w) g) fun e=>by subst e;exact Rel.lt r (id:=0) rfl) (dE.bz (dE.rel hf r (bl w)) fun g hg=>.inl hg) (show eh w' (fun g=>Cv (fun _=>False) w.heap.size iv1 g∨g=(ρ 0).g) (.slice (some ⟨(ρ 0).g,0,none⟩) 1 1) C3 from⟨[[.int .i64 2,.int .i64 0,.int .i64 0,.int .i64 (-12)]],(r.nA (id:=0) (sz:=4) (n:=1) rfl rfl (by decide) (by repeat' first|refine List.forall_mem_cons.2 ⟨rfl,?_⟩|exact fun u hu=>absurd hu List.not_mem_nil)).bz fun g hg=>.inr hg,rfl,by simp,fun j cs x h1 h2=>by cases j with|zero=>(cases h1;cases h2;rfl)|succ j=>cases h2⟩) y8 AB vP) ?_);rintro ρ wa2 v2 wb2 iv2 r he hw h_ ⟨vx1,rfl,hn⟩;clear hf;have hx:=cB.cQ (S:=fun _=>False) hn r.bm (mN h_);clear r;clear hn;obtain⟨ax1,cx1,rfl,-,-⟩:=cd.shape hx;conv=>whnf
 refine bp (cE hw (Φ:=fun _ w' v w2=>∃vn vb vs,v= .agg #[vn,vb,vs]∧dE w2 (Nw (fun _=>False) w' w2) vn vb vs eZ) (fun ρ w' r=>rR w') ?_);rintro ρ wa3 v3 wb3 iv3 r he hw h_ ⟨vn2,vb2,vs2,rfl,hn⟩;replace hx:=cB.bq hx r (bl w) he (mC h_);have hf:=hn.cQ r.bm (mN h_);clear r;clear hn;obtain⟨an2,cn2,ab2,cb2,aq2,cq2,rfl,rfl,rfl,-,-,-⟩:=hf.shape;conv=>whnf
 refine bp (cE hw (Φ:=fun _ w' v w2=>∃vu vx,v= .tuple #[vu,vx,.int .i64 0]∧cB w2 (Nw (fun _=>False) w' w2) vu Fj∧∃a n c,vx= .slice a n c) (fun ρ w' r=>(y6 (S:=(fun g=>Cv (fun _=>False) w.heap.size iv3 g∨g=(ρ 0).g)) (l:=C3) (h:=2) (fun g hg=>hg.elim (Rel.old r (bl w) g) fun e=>by subst e;exact Rel.lt r (id:=0) rfl) (dE.bz (dE.rel hf r (bl w)) fun g hg=>.inl hg) (show eh w' (fun g=>Cv (fun _=>False) w.heap.size iv3 g∨g=(ρ 0).g) (.slice (some ⟨(ρ 0).g,0,none⟩) 1 1) C3 from⟨[[.int .i64 2,.int .i64 0,.int .i64 0,.int .i64 (-12)]],(r.nA (id:=0) (sz:=4) (n:=1) rfl rfl (by decide) (by repeat' first|refine List.forall_mem_cons.2 ⟨rfl,?_⟩|exact fun u hu=>absurd hu List.not_mem_nil)).bz fun g hg=>.inr hg,rfl,by simp,fun j cs x h1 h2=>by cases j with|zero=>(cases h1;cases h2;rfl)|succ j=>cases h2⟩) y8 AB vP y9 rfl C6 AE GS Gm).mono fun _ _ ⟨v2,e1,e2,vu,vx,e3,e4,e5⟩=>⟨v2,e1,e2,vu,vx,e3,e4,by obtain⟨a,c,h,_⟩:=cd.shape e5;exact⟨a,_,c,h⟩⟩) ?_);rintro ρ wa4 v4 wb4 iv4 r he hw h_ ⟨vu1,_,rfl,hn,ay1,ny1,cy1,rfl⟩;replace hx:=cB.bq hx r (bl w) he (mC h_);clear hf;have hu:=cB.cQ (S:=fun _=>False) hn r.bm (mN h_);clear r;clear hn;obtain⟨au1,cu1,rfl,-,-⟩:=cd.shape hu;conv=>whnf
 refine bp (cE hw (Φ:=fun _ w' v w2=>∃vn vb vs,v= .agg #[vn,vb,vs]∧dE w2 (Nw (fun _=>False) w' w2) vn vb vs eZ) (fun ρ w' r=>rR w') ?_);rintro ρ wa5 v5 wb5 iv5 r he hw h_ ⟨vn3,vb3,vs3,rfl,hn⟩;replace hx:=cB.bq hx r (bl w) he (mC h_);replace hu:=cB.bq hu r (bl w) he (mC h_);have hf:=hn.cQ r.bm (mN h_);clear r;clear hn;obtain⟨an3,cn3,ab3,cb3,aq3,cq3,rfl,rfl,rfl,-,-,-⟩:=hf.shape;conv=>whnf
 refine bp (cE hw (Φ:=fun _ w' v w2=>v= .tuple #[BF 9 0 0,.int .i64 0]) (fun ρ w' r=>(C2 (S:=Cv (fun _=>False) w.heap.size iv5) (h:=2) (Rel.old r (bl w)) (dE.rel hf r (bl w)) y8 (jX vP).1 (by rw[y9];decide)).mono fun _ _ ⟨v2,e1,e2,e3⟩=>⟨v2,e1,e2,by rw[e3,y9];rfl⟩) ?_);rintro ρ wa6 v6 wb6 iv6 r he hw h_ rfl;replace hx:=cB.bq hx r (bl w) he (mC h_);replace hu:=cB.bq hu r (bl w) he (mC h_);clear hf;clear r;conv=>whnf
 refine bp (cE hw (Φ:=fun _ w' v w2=>∃vr,v= .tuple #[vr,.int .i64 0]∧cH w2 (Nw (fun _=>False) w' w2) vr ((2:Int):Rat)) (fun ρ w' r=>(BC 25 10 w' (by decide) (by decide) (by decide)).mono fun _ _ ⟨v2,e1,e2,vr,rt,e3,e4,e5,e6⟩=>⟨v2,e1,e2,vr,e3,by
  have:rt=2000:=Fi e4 e5 (by decide) (by decide);rw[this]at e6
  exact Gp▸e6⟩) ?_)
 rintro ρ wa7 v7 wb7 iv7 r he hw h_ ⟨vr1,rfl,hn⟩;replace hx:=cB.bq hx r (bl w) he (mC h_);replace hu:=cB.bq hu r (bl w) he (mC h_);have hl:=hn.cQ (S:=fun _=>False) r.bm (mN h_);clear r;obtain⟨s7_0a,s7_0b,s7_0c,s7_0d,s7_0e,s7_0f,s7_0g,s7_0h,rfl⟩:=hl.shape;clear hn;conv=>whnf
 refine bp (cE hw (Φ:=fun _ w' v w2=>∃q,v= .tuple #[q,.int .i64 0]∧cH w2 (Nw (fun _=>False) w' w2) q (Rat.divInt (-3) 2)) (fun ρ w' r=>(Df (-3) 2 w' (by decide) (by decide) (by decide) (by decide)).mono fun _ _ ⟨v2,e1,e2,e3⟩=>⟨v2,e1,e2,e3.elim (fun k=>absurd k.1 (by decide)) fun h=>h.2⟩) ?_);rintro ρ wa8 v8 wb8 iv8 r he hw h_ ⟨q1,rfl,hn⟩;replace hx:=cB.bq hx r (bl w) he (mC h_);replace hu:=cB.bq hu r (bl w) he (mC h_);replace hl:=hl.bq r (bl w) he (mC h_);have hh:=hn.cQ (S:=fun _=>False) r.bm (mN h_);clear r;obtain⟨s8_0a,s8_0b,s8_0c,s8_0d,s8_0e,s8_0f,s8_0g,s8_0h,rfl⟩:=hh.shape;clear hn;conv=>whnf
 refine bp (cA (Φ:=fun _ w' v w2=>dK w2 (fun _=>False) w'.heap.size [(w'.heap.size,w2.heap.size)] v 9 (cK Fm)) (fun ρ w' r=>AD (S:=fun g=>g=(ρ 4).g) (fun g hg=>by subst hg;exact Rel.lt r (id:=4) rfl) (FJ r (id:=4) (n:=9) (l:=Fm) rfl rfl (by decide)) (by decide) (by decide) (by decide)) ?_);rintro ρ wa9 v9 wb9 r he hb hn;replace hw:=hw.tr hb;replace hx:=cB.bz (S':=Bs (fun _=>False) w.heap.size ((wa9.heap.size,wb9.heap.size)::iv8) v9) (cB.bu (cB.rel hx r (bl w)) fun g hg=>he.block g (Rel.old r (bl w) g hg)) fun g hg=>Bs.of r (bl w) (fun x hx=>aC _ hx) hn hg;replace hu:=cB.bz (S':=Bs (fun _=>False) w.heap.size ((wa9.heap.size,wb9.heap.size)::iv8) v9) (cB.bu (cB.rel hu r (bl w)) fun g hg=>he.block g (Rel.old r (bl w) g hg)) fun g hg=>Bs.of r (bl w) (fun x hx=>aC _ hx) hn hg;replace hl:=cH.bz (S':=Bs (fun _=>False) w.heap.size ((wa9.heap.size,wb9.heap.size)::iv8) v9) (cH.bu (hl.rel r (bl w)) fun g hg=>he.block g (Rel.old r (bl w) g hg)) fun g hg=>Bs.of r (bl w) (fun x hx=>aC _ hx) hn hg;replace hh:=cH.bz (S':=Bs (fun _=>False) w.heap.size ((wa9.heap.size,wb9.heap.size)::iv8) v9) (cH.bu (hh.rel r (bl w)) fun g hg=>he.block g (Rel.old r (bl w) g hg)) fun g hg=>Bs.of r (bl w) (fun x hx=>aC _ hx) hn hg;have hX:=hn.cQ (S:=fun _=>False) r.bm (iv:=(wa9.heap.size,wb9.heap.size)::iv8) aH;clear r he hb hn;generalize (wa9.heap.size,wb9.heap.size)::iv8=iv9 at*
 obtain⟨ax,cx,rfl,hcx⟩:=hX.row.form;obtain⟨gx,rfl⟩:=hX.at (by decide);conv=>whnf
 refine⟨⟨gx,0,none⟩,rfl,⟨by omega,by omega⟩,?_⟩;conv=>whnf
 intro ρ w' r;obtain⟨g,hg,h1,h2,h3,h4,h5⟩:=(hX.rel r (bl w)).store (j:=8) (by decide) (hh.bu (Bs.same r (bl w))) r (bl w);injection hg with hg;injection hg with hg;subst hg;refine⟨h1,h2,h3,fun w5 hw5=>?_⟩;obtain⟨k1,k2,k3⟩:=h5 w5 hw5;rw[El]at k1;have hw2:cF w.heap.size w w5:=(hw.tr r.bs).tr (cF.grown k2 (fun g e=>by injection e with e;subst e;exact h4.elim (fun h=>h.elim) fun h=>h.1) r.bm);have hx2:=cB.bz (S':=Cv (fun _=>False) w.heap.size iv9) (cB.bu hx (Bs.kept r (bl w) k2 fun g e=>e)) fun g hg=>hg.1;have hu2:=cB.bz (S':=Cv (fun _=>False) w.heap.size iv9) (cB.bu hu (Bs.kept r (bl w) k2 fun g e=>e)) fun g hg=>hg.1;have hl2:=cH.bz (S':=Cv (fun _=>False) w.heap.size iv9) (cH.bu hl (Bs.kept r (bl w) k2 fun g e=>e)) fun g hg=>hg.1;have hd2:=k1.c;clear hX hx hu hl hh hw h1 h2 h3 h4 h5 hw5 k1 k2 k3 r;have hw:=hw2;have hx:=hx2;have hu:=hu2;have hl:=hl2;have hd:=hd2;clear hw2 hx2 hu2 hl2 hd2;conv=>whnf
 refine bw hτ dH [.x 0,.x 1,.x 2,.x 3,.x 4,.x 5,.x 6,.x 7,.x 8,.x 9,.x 10,.x 11,.x 12,.x 13,.x 14,.x 15,.x 16,.x 17,.x 18,.x 19,.x 20,.x 21,.x 22,.x 23,.x 24,.x 25,.x 26,.x 27,.x 28,.x 29,.x 30,.x 31,.x 32,.x 33,.x 34,.x 35] (by kernel_rfl) (by kernel_rfl) ?_;conv=>whnf
 refine cE hw (Φ:=fun _ w' v w2=>dK w2 (fun _=>False) w'.heap.size [(w'.heap.size,w2.heap.size)] v 9 (cK Fo)) (fun ρ w' r=>AD (S:=fun g=>g=(ρ 5).g) (fun g hg=>by subst hg;exact Rel.lt r (id:=5) rfl) (FJ r (id:=5) (n:=9) (l:=Fo) rfl rfl (by decide)) (by decide) (by decide) (by decide)) ?_;rintro ρ wa10 v10 wb10 iv10 r he hw h_ hn;replace hx:=cB.bq hx r (bl w) he (mC h_);replace hu:=cB.bq hu r (bl w) he (mC h_);replace hl:=hl.bq r (bl w) he (mC h_);replace hd:=cB.bq hd r (bl w) he (mC h_);have hX:=hn.cQ (S:=fun _=>False) r.bm (mN h_);clear r he hn;have hv:=hX.c;rw[Fp]at hv;clear hX;obtain⟨av,cv,rfl,-,-⟩:=cd.shape hv;conv=>whnf
 refine cE hw (Φ:=fun _ w' v w2=>v= .bool true) (fun ρ w' r=>(vR (S:=Cv (fun _=>False) w.heap.size iv10) (Rel.old r (bl w)) (cB.rel hx r (bl w)) (cB.rel hv r (bl w))).mono fun _ _ ⟨v2,e1,e2,e3⟩=>⟨v2,e1,e2,by rw[e3];exact congrArg _ (bM rfl)⟩) ?_;rintro ρ wa11 v11 wb11 iv11 r he hw h_ rfl;clear hx;replace hu:=cB.bq hu r (bl w) he (mC h_);replace hl:=hl.bq r (bl w) he (mC h_);replace hd:=cB.bq hd r (bl w) he (mC h_);clear hv;clear r he;conv=>whnf
 refine cE hw (Φ:=fun _ w' v w2=>v= .bool true) (fun ρ w' r=>(vR (S:=Cv (fun _=>False) w.heap.size iv11) (Rel.old r (bl w)) (cB.rel hu r (bl w)) (cB.rel hd r (bl w))).mono fun _ _ ⟨v2,e1,e2,e3⟩=>⟨v2,e1,e2,by rw[e3];exact congrArg _ (bM rfl)⟩) ?_;rintro ρ wa12 v12 wb12 iv12 r he hw h_ rfl;clear hu;replace hl:=hl.bq r (bl w) he (mC h_);clear hd;clear r he;conv=>whnf
 refine⟨true,fun ρ w o1 o2=>Ek 9 0 0 9 0 0 w o1 o2,?_⟩;conv=>whnf
 refine cE hw (Φ:=fun _ w' v w2=>cH w2 (Nw (fun _=>False) w' w2) v ((2:Int):Rat)) (fun ρ w' r=>gq 2 w' (by decide)) ?_;rintro ρ wa13 v13 wb13 iv13 r he hw h_ hn;replace hl:=hl.bq r (bl w) he (mC h_);have ht:=hn.cQ (S:=fun _=>False) r.bm (mN h_);clear r he hn;obtain⟨s13_0,s13_1,s13_2,s13_3,s13_4,s13_5,s13_6,s13_7,rfl⟩:=ht.shape;conv=>whnf
 refine cE hw (Φ:=fun _ w' v w2=>v= .bool true) (fun ρ w' r=>(Dh (S:=Cv (fun _=>False) w.heap.size iv13) (Rel.old r (bl w)) (hl.rel r (bl w)) (ht.rel r (bl w))).mono fun _ _ ⟨v2,e1,e2,e3⟩=>⟨v2,e1,e2,by rw[e3];exact congrArg _ (bM rfl)⟩) ?_;rintro ρ wa14 v14 wb14 iv14 r he hw h_ rfl;clear hl;clear ht;clear r he;conv=>whnf
 intro ρe we re;exact⟨_,rfl,hw.tr re.bs,rfl⟩
def GV(cs:List Value):Prop:=∃b a n c b2 a2 n2 c2,cs=[.bool b,.slice a n c,.bool b2,.slice a2 n2 c2]
def tK(cs:List Value):Prop:=∃b a n c b2 a2 n2 c2,cs=[.bool b,.slice a n c,.bool b2,.slice a2 n2 c2]∧n<=3∧n2<=3
theorem iW(a:Addr)(m n:Nat):(a.add m).add n=a.add (m+n):=by
 unfold Addr.add;split<;>split<;>simp_all<;>omega
theorem fb.l3{S:Nat->Prop}{w:World}{b1 b2:Bool}{a1 a2:Option Addr}{n1 n2 c1 c2:Nat}{a b:Int}(h:fb w S (.agg #[.bool b1,.slice a1 n1 c1,.bool b2,.slice a2 n2 c2]) a b)(hf:tK [.bool b1,.slice a1 n1 c1,.bool b2,.slice a2 n2 c2]):
  dc w S (.agg #[.bool b1,.slice a1 n1 c1,.bool b2,.slice a2 n2 c2]) (ratio a b)∧rl (ratio a b)<=3:=by
 obtain⟨_,_,_,_,_,_,_,_,e,k1,k2⟩:=hf;simp only[List.cons.injEq,Value.slice.injEq,Value.bool.injEq,and_true]at e;obtain⟨rfl,⟨rfl,rfl,rfl⟩,rfl,rfl,rfl,rfl⟩:=e;obtain⟨b1,l1,b2,l2,e,h1,h2⟩:=h;simp only[Value.agg.injEq,Array.mk.injEq,List.cons.injEq,Value.bool.injEq,and_true]at e;obtain⟨rfl,rfl,rfl,rfl⟩:=e;have g1:=h1.short k1;have g2:=h2.short k2;have r1:=g1.ln;have r2:=g2.ln;have hr:=fY a b;refine⟨⟨_,_,_,_,a,b,rfl,?_,?_,rfl⟩,by omega⟩
 ·obtain⟨ng,ls,i1,i2,i3⟩:=g1;exact⟨ng,ls,i1,i2,by omega⟩
 ·obtain⟨ng,ls,i1,i2,i3⟩:=g2;exact⟨ng,ls,i1,i2,by omega⟩
theorem ya{S:Nat->Prop}{w:World}{v:Value}{css:List (List Value)}(hS:Old S w)(hq:gw w S 4 v css.flatten css.length)(hF:∀cs∈css,GV cs):
  dQ PG N.jf #[v] w (dU w fun v' _=>∃d,v'= .bool d∧(d=true->css.length<=80∧∀cs∈css,tK cs)):=by
 have hw:cF w.heap.size w w:=cF.refl;have h4:∀cs∈css,cs.length=4:=fun cs hc=>by obtain⟨_,_,_,_,_,_,_,_,rfl⟩:=hF cs hc;rfl
 have hK:df 4 (fun _ _ cs x=>cs=x) w S v css:=⟨css,hq,rfl,h4,fun j cs x h1 h2=>by rw[h1]at h2;injection h2⟩
 obtain⟨a,c,rfl,hc,hm⟩:=hK.shape;unfold maxLen at hm;refine uf (by simp) ?_;conv=>whnf
 refine⟨Nat×World,fun z=>⟨[(0,.o (.v (.slice a css.length c))),(3,.o (.v (.int .i64 ((z.1:Nat):Int))))],[],0,[],z.2⟩,fun z=>css.length-z.1,
  fun z=>z.1<=css.length∧cF w.heap.size w z.2∧∀j cs,j<z.1->css[j]? =some cs->tK cs,?_,?_⟩
 ·intro ρ w' r3;exact⟨(0,w'),⟨aO _,hw.tr r3.bs,fun j cs hj=>absurd hj (bj j)⟩,Sub.gen [] r3 trivial ⟨rfl,rfl,trivial⟩ (by simp[cY,cN.scopd,At.sc]) (by simp[cO,SV.sc,At.sc,cJ]) (by rfl) (fun lo hi h=>h)⟩
 clear hw;rintro⟨i,w1⟩ ⟨hi,hw,hE⟩;dsimp only at hi hw hE ⊢;conv=>whnf
 refine cW.mk (fun hib=>?_) (fun hib=>?_)
 ·have hib:i<css.length:=by simpa using hib
  conv=>whnf
  refine cW.mk (fun h80=>?_) (fun h80=>?_)
  ·have h80:css.length<=80:=by have:=aG h80;omega
   obtain⟨cs,hcs⟩:∃cs,css[i]? =some cs:=⟨_,aA hib⟩
   obtain⟨g0,g1,g2,g3,g4,g5,g6,g7,rfl⟩:=hF cs (aD hcs);obtain⟨adx,cs2,hax,he2,-,hat⟩:=hK.load (by decide) hcs;subst he2;conv=>whnf
   refine⟨adx,hax,⟨by omega,by omega⟩,?_⟩;conv=>whnf
   refine⟨.slice g1 g2 g3,fun ρ w' r=>?_,?_⟩
   ·obtain⟨k1,k2⟩:=hat 1 _ rfl;rw[aB,bo (w:=w) (w2:=w') (by simp only[cC];exact(hw.tr r.bs).block _ (hS _ k1))];exact k2
   conv=>whnf
   refine cW.mk (fun k3=>?_) (fun k3=>?_)
   ·conv=>whnf
    intro ρe we re;exact⟨_,rfl,hw.tr re.bs,_,rfl,fun h=>by cases h⟩
   have k3:=aF k3;conv=>whnf
   refine⟨adx,hax,⟨by omega,by omega⟩,?_⟩;conv=>whnf
   refine⟨.slice g5 g6 g7,fun ρ w' r=>?_,?_⟩
   ·obtain⟨k1,k2⟩:=hat 3 _ rfl;rw[aB,bo (w:=w) (w2:=w') (by simp only[cC];exact(hw.tr r.bs).block _ (hS _ k1))];exact k2
   conv=>whnf
   refine cW.mk (fun k4=>?_) (fun k4=>?_)
   ·conv=>whnf
    intro ρe we re;exact⟨_,rfl,hw.tr re.bs,_,rfl,fun h=>by cases h⟩
   have k4:=aF k4;have hE2:∀j cs,j<i+1->css[j]? =some cs->tK cs:=fun j cs hj hc=>by
    rcases bA j i with h|h
    ·exact hE j cs h hc
    ·have:j=i:=by omega
     subst this;rw[hcs]at hc;injection hc with hc;subst hc;exact⟨_,_,_,_,_,_,_,_,rfl,by omega,by omega⟩
   conv=>whnf
   refine⟨((i+1:Nat):Int),by rw[wrap64]<;>omega,?_⟩;conv=>whnf
   intro ρ3 w6 r3;exact⟨(i+1,w6),⟨hib,hw.tr r3.bs,hE2⟩,Sub.gen [] r3 trivial ⟨rfl,rfl,trivial⟩ (by simp[cY,cN.scopd,At.sc]) (by simp[cO,SV.sc,At.sc,cJ]) (by rfl) (fun lo hi h=>h),by dsimp only;omega⟩
  ·have h80:=aF h80;conv=>whnf
   intro ρe we re;exact⟨_,rfl,hw.tr re.bs,_,rfl,fun h=>by have:=aG h;omega⟩
 have hib:i=css.length:=aM hi (by simpa using hib);subst hib;conv=>whnf
 intro ρe we re
 exact⟨_,rfl,hw.tr re.bs,_,rfl,fun h=>⟨by have:=aG h;omega,fun cs hc=>by
  obtain⟨j,hj⟩:=aU hc
  exact hE j cs (aE.1 hj).1 hj⟩⟩
end Go.Ex
namespace Go.Ex
theorem aAD{a b x p q:Rat}(h1:a<x)(h2:x<=b):(p<=q->p<=p+(x-a) / (b-a)*(q-p)∧p+(x-a) / (b-a)*(q-p)<=q)∧(q<=p->q<=p+(x-a) / (b-a)*(q-p)∧p+(x-a) / (b-a)*(q-p)<=p):=by
 have hd:0<b-a:=by grind
 have hi:0<=(b-a)⁻¹:=Rat.le_of_lt (Rat.inv_pos.2 hd);obtain⟨t,ht⟩:∃t,(x-a) / (b-a)=t:=⟨_,rfl⟩
 have t0:0<=t:=by rw[<-ht,Rat.div_def];exact Rat.mul_nonneg (by grind) hi
 have t1:t<=1:=by
  rw[<-ht,Rat.div_def,<-Rat.mul_inv_cancel (b-a) (by grind)];exact Rat.mul_le_mul_of_nonneg_right (by grind) hi
 rw[ht];refine⟨fun h=>?_,fun h=>?_⟩
 ·have k1:0<=t*(q-p):=Rat.mul_nonneg t0 (by grind);have k2:t*(q-p)<=1*(q-p):=Rat.mul_le_mul_of_nonneg_right t1 (by grind);grind
 ·have k1:0<=t*(p-q):=Rat.mul_nonneg t0 (by grind);have k2:t*(p-q)<=1*(p-q):=Rat.mul_le_mul_of_nonneg_right t1 (by grind);have k3:t*(q-p)= -(t*(p-q)):=by grind
  grind
end Go.Ex
namespace Go.Ex
open Go Go.Sx Go.Proofs
theorem lT(c b:Int×Int×Rat):ew c=ew b↔(c.1=b.1∧c.2.1=b.2.1)∨(c.1=b.2.1∧c.2.1=b.1):=by
 unfold ew;rw[Prod.mk.injEq];omega
theorem yb(c b:Int×Int×Rat):fu c=fu b↔c.1=b.1∧c.2.1=b.2.1:=by
 unfold fu;rw[Prod.mk.injEq]
section
variable{α β:Type}{L:List α}{K:α->β}{x:β}
theorem j0{k:Nat}{c:α}(hc:L[k]? =some c)(h:K c≠x)(hE:x∈L.map K↔x∈(L.drop k).map K):x∈L.map K↔x∈(L.drop (k+1)).map K:=by
 rw[hE,List.drop_eq_getElem_cons (aE.1 hc).1,(aE.1 hc).2,List.map_cons,List.mem_cons,or_iff_right fun e=>h e.symm]
theorem qY{k:Nat}{c:α}(hc:L[k]? =some c)(h:K c=x):x∈L.map K:=aS.2 ⟨c,aD hc,h⟩
theorem yc{k:Nat}(hk:L.length<=k)(hE:x∈L.map K↔x∈(L.drop k).map K):x∉L.map K:=fun h=>by
 have:=hE.1 h;rw[List.drop_eq_nil_of_le hk]at this
 cases this
end
theorem nT(n:Int)(an ab aq:Option Addr)(ln cn nb cb nq cq:Nat)(w:World):dQ PG N.pf #[.agg #[.slice an ln cn,.slice ab nb cb,.slice aq nq cq],.int .i64 n] w (dU w fun v' _=>∃d,v'= .bool d∧(d=true↔gJ ln n)):=by
 have hw:cF w.heap.size w w:=cF.refl;refine sd (by simp) ?_;conv=>whnf
 refine cW.mk (fun h1=>?_) (fun h1=>?_)
 ·conv=>whnf
  intro ρe we re;have h1:=aG h1;exact⟨_,rfl,hw.tr re.bs,_,rfl,by rw[decide_eq_true_iff];exact⟨fun h=>⟨h1,h⟩,fun h=>h.2⟩⟩
 ·conv=>whnf
  intro ρe we re;have h1:=aF h1;exact⟨_,rfl,hw.tr re.bs,_,rfl,(fun h=>by cases h),fun h=>absurd h.1 h1⟩
theorem j1(n lo hi:Int)(w:World):dQ PG N.rz #[.int .i64 n,.int .i64 lo,.int .i64 hi] w (dU w fun v' _=>∃d,v'= .bool d∧(d=true↔lo<=n∧n<=hi)):=by
 have hw:cF w.heap.size w w:=cF.refl;refine uh (by simp) ?_;conv=>whnf
 refine cW.mk (fun h1=>?_) (fun h1=>?_)
 ·conv=>whnf
  intro ρe we re;have h1:=aG h1;exact⟨_,rfl,hw.tr re.bs,_,rfl,by rw[decide_eq_true_iff];exact⟨fun h=>⟨h1,h⟩,fun h=>h.2⟩⟩
 ·conv=>whnf
  intro ρe we re;have h1:=aF h1;exact⟨_,rfl,hw.tr re.bs,_,rfl,(fun h=>by cases h),fun h=>absurd h.1 h1⟩
theorem vS{S:Nat->Prop}{w:World}{v:Value}{q:Rat}(hS:Old S w)(hp:dc w S v q):dQ PG N.gl #[v] w (dU w fun v' _=>v'= .int .i64 (rs q)):=by
 obtain⟨a,b,h1,rfl,_,_⟩:=hp.v;exact pD hS h1
set_option maxHeartbeats 2000000 in
theorem AF{S:Nat->Prop}{w:World}{vn vb vs:Value}{f:eX}(hS:Old S w)(hf:dE w S vn vb vs f):dQ PG N.ry #[.agg #[vn,vb,vs]] w (dU w fun v' _=>v'= .int .i64 (dh f)):=by
 have hw:cF w.heap.size w w:=cF.refl;obtain⟨an,cn,ab,cb,aq,cq,rfl,rfl,rfl,hmn,hmb,hms⟩:=hf.shape;refine ug (by simp) ?_;conv=>whnf
 refine cW.mk (fun h0=>?_) (fun h0=>?_)
 ·have h0:=aG h0;conv=>whnf
  intro ρe we re;exact⟨_,rfl,hw.tr re.bs,by show Value.int .i64 _=_;rw[dh,aQ (by omega)]⟩
 have h0:=aF h0;conv=>whnf
 refine cW.mk (fun h1=>?_) (fun h1=>?_)
 ·have h1:=aG h1;conv=>whnf
  intro ρe we re;exact⟨_,rfl,hw.tr re.bs,by show Value.int .i64 _=_;rw[dh,aQ (by omega)]⟩
 have h1:=aF h1;conv=>whnf
 refine cW.mk (fun h2=>?_) (fun h2=>?_)
 ·have h2:=aG h2;conv=>whnf
  intro ρe we re;exact⟨_,rfl,hw.tr re.bs,by show Value.int .i64 _=_;rw[dh,aQ (by omega)]⟩
 have h2:=aF h2;conv=>whnf
 refine⟨Nat×World×Iv,fun z=>⟨[(1,.o (.p 0 0)),(3,.o (.v (.int .i64 ((z.1:Nat):Int))))],[(0,.box T.Frame [.v (.slice an f.nodes.length cn),.v (.slice ab f.bars.length cb),.v (.slice aq f.cG.length cq)])],1,z.2.2,z.2.1⟩,fun z=>f.nodes.length-z.1,
  fun z=>z.1<=f.nodes.length∧cF w.heap.size w z.2.1∧dq dx [] f.nodes=dq dx (f.nodes.take z.1) (f.nodes.drop z.1),?_,?_⟩
 ·intro ρ w' r3;exact⟨(0,w',_),⟨aO _,hw.tr r3.bs,rfl⟩,Sub.gen [] r3 ⟨rfl,trivial⟩ ⟨rfl,rfl,trivial⟩ (by simp[cY,cN.scopd,At.sc]) (by simp[cO,SV.sc,At.sc,cJ]) (by rfl) (fun lo hi h=>h)⟩
 clear hw;rintro⟨i,w1,iv⟩ ⟨hi,hw,hE⟩;dsimp only at hi hw hE ⊢;conv=>whnf
 refine cW.mk (fun hib=>?_) (fun hib=>?_)
 ·have hib:i<f.nodes.length:=by simpa using hib
  obtain⟨b,hx⟩:∃b,f.nodes[i]? =some b:=⟨_,aA hib⟩
  have hLl:(f.nodes.take i).length=i:=by rw[aW];omega
  obtain⟨adb,cs,hab,hF,-,hlb⟩:=hf.nodes.load (by decide) hx;have hF:cs=[.int .i64 b.1,.int .i64 b.2.1,.int .i64 b.2.2]:=hF;subst hF;conv=>whnf
  refine⟨adb,hab,⟨by omega,by omega⟩,?_⟩;conv=>whnf
  refine⟨[.int .i64 b.1,.int .i64 b.2.1,.int .i64 b.2.2],rfl,fun ρ w' r j u hu=>?_,?_⟩
  ·obtain⟨k1,k2⟩:=hlb j u hu;rw[aB,bo (w:=w) (w2:=w') (by rw[cC,cC];exact(hw.tr r.bs).block _ (hS _ k1))];exact k2
  conv=>whnf
  refine bp (cE hw (Φ:=fun _ w' v w2=>∃d,v= .bool d∧(d=true↔kH b.1)) (fun ρ w' r=>j1 _ _ _ w') ?_);rintro ρ wa1 v1 wb1 iv1 r he hw h_ ⟨d0,rfl,hz0⟩;clear r
  cases d0
  ·have hz0:¬kH b.1:=fun h=>by have:=hz0.2 h;cases this
   conv=>whnf
   intro ρe we re;exact⟨_,rfl,hw.tr re.bs,by show Value.int .i64 _=_;rw[dh,aL (by omega),aQ (by rw[hE,cD hx (show dx (f.nodes.take i) b=2 by rw[dx,aL (fun h=>hz0 h.1)]) (by decide)];decide),hE,cD hx (show dx (f.nodes.take i) b=2 by rw[dx,aL (fun h=>hz0 h.1)]) (by decide)]⟩
  replace hz0:=hz0.1 rfl;conv=>whnf
  refine bp (cE hw (Φ:=fun _ w' v w2=>∃d,v= .bool d∧(d=true↔kH b.2.1)) (fun ρ w' r=>j1 _ _ _ w') ?_);rintro ρ wa2 v2 wb2 iv2 r he hw h_ ⟨d1,rfl,hz1⟩;clear r
  cases d1
  ·have hz1:¬kH b.2.1:=fun h=>by have:=hz1.2 h;cases this
   conv=>whnf
   intro ρe we re;exact⟨_,rfl,hw.tr re.bs,by show Value.int .i64 _=_;rw[dh,aL (by omega),aQ (by rw[hE,cD hx (show dx (f.nodes.take i) b=2 by rw[dx,aL (fun h=>hz1 h.2.1)]) (by decide)];decide),hE,cD hx (show dx (f.nodes.take i) b=2 by rw[dx,aL (fun h=>hz1 h.2.1)]) (by decide)]⟩
  replace hz1:=hz1.1 rfl;conv=>whnf
  refine bp (cE hw (Φ:=fun _ w' v w2=>∃d,v= .bool d∧(d=true↔kH b.2.2)) (fun ρ w' r=>j1 _ _ _ w') ?_);rintro ρ wa3 v3 wb3 iv3 r he hw h_ ⟨d2,rfl,hz2⟩;clear r
  cases d2
  ·have hz2:¬kH b.2.2:=fun h=>by have:=hz2.2 h;cases this
   conv=>whnf
   intro ρe we re;exact⟨_,rfl,hw.tr re.bs,by show Value.int .i64 _=_;rw[dh,aL (by omega),aQ (by rw[hE,cD hx (show dx (f.nodes.take i) b=2 by rw[dx,aL (fun h=>hz2 h.2.2)]) (by decide)];decide),hE,cD hx (show dx (f.nodes.take i) b=2 by rw[dx,aL (fun h=>hz2 h.2.2)]) (by decide)]⟩
  replace hz2:=hz2.1 rfl;conv=>whnf
  refine⟨Nat×World,fun z=>⟨[(1,.o (.p 0 0)),(3,.o (.v (.int .i64 ((i:Nat):Int)))),(4,.o (.p 1 0)),(5,.o (.v (.int .i64 ((z.1:Nat):Int))))],[(1,.box T.Node [.v (.int .i64 b.1),.v (.int .i64 b.2.1),.v (.int .i64 b.2.2)]),(0,.box T.Frame [.v (.slice an f.nodes.length cn),.v (.slice ab f.bars.length cb),.v (.slice aq f.cG.length cq)])],2,iv3,z.2⟩,fun z=>i-z.1,
   fun z=>z.1<=i∧cF w.heap.size w z.2∧(b∈(f.nodes.take i).map id↔b∈((f.nodes.take i).drop z.1).map id),?_,?_⟩
  ·intro ρ w' r3;exact⟨(0,w'),⟨aO _,hw.tr r3.bs,Iff.rfl⟩,Sub.gen [] r3 ⟨rfl,rfl,trivial⟩ ⟨rfl,rfl,rfl,rfl,trivial⟩ (by simp[cY,cN.scopd,At.sc]) (by simp[cO,SV.sc,At.sc,cJ]) (by rfl) (fun lo hi h=>h)⟩
  clear hw;rintro⟨k,w2⟩ ⟨hk,hw,hK⟩;dsimp only at hk hw hK ⊢;conv=>whnf
  refine cW.mk (fun hkb=>?_) (fun hkb=>?_)
  ·have hkb:k<i:=by have:=aG hkb;omega
   obtain⟨c,hc⟩:∃c,f.nodes[k]? =some c:=⟨_,aA (by omega)⟩
   have hcL:(f.nodes.take i)[k]? =some c:=by rw[bQ hkb];exact hc
   obtain⟨adc,cs2,hac,hF2,-,hlc⟩:=hf.nodes.load (by decide) hc;have hF2:cs2=[.int .i64 c.1,.int .i64 c.2.1,.int .i64 c.2.2]:=hF2;subst hF2;conv=>whnf
   refine bw hτ dH [.x 0,.x 1,.x 2,.x 3,.x 4,.x 5,.x 6] (by kernel_rfl) (by kernel_rfl) ?_;conv=>whnf
   refine⟨adc,hac,⟨by omega,by omega⟩,?_⟩;conv=>whnf
   refine⟨[.int .i64 c.1,.int .i64 c.2.1,.int .i64 c.2.2],rfl,fun ρ w' r j u hu=>?_,?_⟩
   ·obtain⟨k1,k2⟩:=hlc j u hu;rw[aB,bo (w:=w) (w2:=w') (by rw[cC,cC];exact(hw.tr r.bs).block _ (hS _ k1))];exact k2
   conv=>whnf
   refine⟨decide (c=b),fun ρ w o1 o2=>zz c b w o1 o2,?_⟩;conv=>whnf
   refine cW.mk (fun hd=>?_) (fun hd=>?_)
   ·have hd:c=b:=aG hd;have hin:b∈f.nodes.take i:=by have:=qY (K:=id) hcL hd;rwa [List.map_id]at this
    conv=>whnf
    intro ρe we re;exact⟨_,rfl,hw.tr re.bs,by show Value.int .i64 _=_;rw[dh,aL (by omega),aQ (by rw[hE,cD hx (show dx (f.nodes.take i) b=12 by rw[dx,aQ ⟨hz0,hz1,hz2⟩,aQ hin]) (by decide)];decide),hE,cD hx (show dx (f.nodes.take i) b=12 by rw[dx,aQ ⟨hz0,hz1,hz2⟩,aQ hin]) (by decide)]⟩
   have hd:c≠b:=aF hd;have hK2:=j0 (K:=id) hcL hd hK;conv=>whnf
   refine⟨((k+1:Nat):Int),by rw[wrap64]<;>omega,?_⟩;conv=>whnf
   intro ρ3 w6 r3;exact⟨(k+1,w6),⟨hkb,hw.tr r3.bs,hK2⟩,Sub.gen [] r3 ⟨rfl,rfl,trivial⟩ ⟨rfl,rfl,rfl,rfl,trivial⟩ (by simp[cY,cN.scopd,At.sc]) (by simp[cO,SV.sc,At.sc,cJ]) (by rfl) (fun lo hi h=>h),by dsimp only;omega⟩
  have hkb:k=i:=by have:=aF hkb;omega
  have hdup:=yc (by rw[hLl];omega) hK;rw[List.map_id]at hdup;conv=>whnf
  rw[fD hx (pB.2 ⟨⟨hz0,hz1,hz2⟩,hdup⟩)]at hE;conv=>whnf
  refine⟨((i+1:Nat):Int),by rw[wrap64]<;>omega,?_⟩;conv=>whnf
  intro ρ3 w6 r3;exact⟨(i+1,w6,_),⟨hib,hw.tr r3.bs,hE⟩,Sub.gen [] r3 ⟨rfl,trivial⟩ ⟨rfl,rfl,trivial⟩ (by simp[cY,cN.scopd,At.sc]) (by simp[cO,SV.sc,At.sc,cJ]) (by rfl) (fun lo hi h=>h),by dsimp only;omega⟩
 have hib:i=f.nodes.length:=aM hi (by simpa using hib);rw[gD (by omega)]at hE;clear hib hi;conv=>whnf
 refine⟨Nat×World×Iv,fun z=>⟨[(1,.o (.p 0 0)),(6,.o (.v (.int .i64 ((z.1:Nat):Int))))],[(0,.box T.Frame [.v (.slice an f.nodes.length cn),.v (.slice ab f.bars.length cb),.v (.slice aq f.cG.length cq)])],1,z.2.2,z.2.1⟩,fun z=>f.bars.length-z.1,
  fun z=>z.1<=f.bars.length∧cF w.heap.size w z.2.1∧dq (eE f.nodes.length) [] f.bars=dq (eE f.nodes.length) (f.bars.take z.1) (f.bars.drop z.1),?_,?_⟩
 ·intro ρ w' r3;exact⟨(0,w',_),⟨aO _,hw.tr r3.bs,rfl⟩,Sub.gen [] r3 ⟨rfl,trivial⟩ ⟨rfl,rfl,trivial⟩ (by simp[cY,cN.scopd,At.sc]) (by simp[cO,SV.sc,At.sc,cJ]) (by rfl) (fun lo hi h=>h)⟩
 clear hw;rintro⟨i,w1,iv⟩ ⟨hi,hw,hE2⟩;dsimp only at hi hw hE2 ⊢;conv=>whnf
 refine cW.mk (fun hib=>?_) (fun hib=>?_)
 ·have hib:i<f.bars.length:=by simpa using hib
  obtain⟨b,hx⟩:∃b,f.bars[i]? =some b:=⟨_,aA hib⟩
  have hLl:(f.bars.take i).length=i:=by rw[aW];omega
  obtain⟨adb,cs,hab,hF,-,hlb⟩:=hf.bars.load (by decide) hx;obtain⟨g0,g1,g2,g3,g4,g5,g6,g7,rfl,hF⟩:=hF;conv=>whnf
  refine⟨adb,hab,⟨by omega,by omega⟩,?_⟩;conv=>whnf
  refine⟨[.int .i64 b.1,.int .i64 b.2.1,.bool g0,.slice g1 g2 g3,.bool g4,.slice g5 g6 g7],rfl,fun ρ w' r j u hu=>?_,?_⟩
  ·obtain⟨k1,k2⟩:=hlb j u hu;rw[aB,bo (w:=w) (w2:=w') (by rw[cC,cC];exact(hw.tr r.bs).block _ (hS _ k1))];exact k2
  conv=>whnf
  refine bp (cE hw (Φ:=fun _ w' v w2=>∃d,v= .bool d∧(d=true↔gJ f.nodes.length b.1)) (fun ρ w' r=>nT _ _ _ _ _ _ _ _ _ _ w') ?_);rintro ρ wa1 v1 wb1 iv1 r he hw h_ ⟨d0,rfl,hz0⟩;clear r
  cases d0
  ·have hz0:¬gJ f.nodes.length b.1:=fun h=>by have:=hz0.2 h;cases this
   conv=>whnf
   intro ρe we re;exact⟨_,rfl,hw.tr re.bs,by show Value.int .i64 _=_;rw[dh,aL (by omega),aL (by rw[hE];decide),aQ (by rw[hE2,cD hx (show eE f.nodes.length (f.bars.take i) b=6 by rw[eE,aL (fun h=>hz0 h.1)]) (by decide)];decide),hE2,cD hx (show eE f.nodes.length (f.bars.take i) b=6 by rw[eE,aL (fun h=>hz0 h.1)]) (by decide)]⟩
  replace hz0:=hz0.1 rfl;conv=>whnf
  refine bp (cE hw (Φ:=fun _ w' v w2=>∃d,v= .bool d∧(d=true↔gJ f.nodes.length b.2.1)) (fun ρ w' r=>nT _ _ _ _ _ _ _ _ _ _ w') ?_);rintro ρ wa2 v2 wb2 iv2 r he hw h_ ⟨d1,rfl,hz1⟩;clear r
  cases d1
  ·have hz1:¬gJ f.nodes.length b.2.1:=fun h=>by have:=hz1.2 h;cases this
   conv=>whnf
   intro ρe we re;exact⟨_,rfl,hw.tr re.bs,by show Value.int .i64 _=_;rw[dh,aL (by omega),aL (by rw[hE];decide),aQ (by rw[hE2,cD hx (show eE f.nodes.length (f.bars.take i) b=6 by rw[eE,aL (fun h=>hz1 h.2)]) (by decide)];decide),hE2,cD hx (show eE f.nodes.length (f.bars.take i) b=6 by rw[eE,aL (fun h=>hz1 h.2)]) (by decide)]⟩
  replace hz1:=hz1.1 rfl;conv=>whnf
  refine cW.mk (fun hab2=>?_) (fun hab2=>?_)
  ·have hab2:b.1=b.2.1:=by simpa using hab2
   conv=>whnf
   intro ρe we re;exact⟨_,rfl,hw.tr re.bs,by show Value.int .i64 _=_;rw[dh,aL (by omega),aL (by rw[hE];decide),aQ (by rw[hE2,cD hx (show eE f.nodes.length (f.bars.take i) b=3 by rw[eE,aQ ⟨hz0,hz1⟩,aQ hab2]) (by decide)];decide),hE2,cD hx (show eE f.nodes.length (f.bars.take i) b=3 by rw[eE,aQ ⟨hz0,hz1⟩,aQ hab2]) (by decide)]⟩
  have hab2:b.1≠b.2.1:=by simpa using hab2
  conv=>whnf
  refine⟨Nat×World,fun z=>⟨[(1,.o (.p 0 0)),(6,.o (.v (.int .i64 ((i:Nat):Int)))),(7,.o (.p 1 0)),(8,.o (.v (.int .i64 ((z.1:Nat):Int))))],[(1,.box T.G6 [.v (.int .i64 b.1),.v (.int .i64 b.2.1),.v (.bool g0),.v (.slice g1 g2 g3),.v (.bool g4),.v (.slice g5 g6 g7)]),(0,.box T.Frame [.v (.slice an f.nodes.length cn),.v (.slice ab f.bars.length cb),.v (.slice aq f.cG.length cq)])],2,iv2,z.2⟩,fun z=>i-z.1,
   fun z=>z.1<=i∧cF w.heap.size w z.2∧(ew b∈(f.bars.take i).map ew↔ew b∈((f.bars.take i).drop z.1).map ew),?_,?_⟩
  ·intro ρ w' r3;exact⟨(0,w'),⟨aO _,hw.tr r3.bs,Iff.rfl⟩,Sub.gen [] r3 ⟨rfl,rfl,trivial⟩ ⟨rfl,rfl,rfl,rfl,trivial⟩ (by simp[cY,cN.scopd,At.sc]) (by simp[cO,SV.sc,At.sc,cJ]) (by rfl) (fun lo hi h=>h)⟩
  clear hw;rintro⟨k,w2⟩ ⟨hk,hw,hK⟩;dsimp only at hk hw hK ⊢;conv=>whnf
  refine cW.mk (fun hkb=>?_) (fun hkb=>?_)
  ·have hkb:k<i:=by have:=aG hkb;omega
   obtain⟨c,hc⟩:∃c,f.bars[k]? =some c:=⟨_,aA (by omega)⟩
   have hcL:(f.bars.take i)[k]? =some c:=by rw[bQ hkb];exact hc
   obtain⟨adc,cs2,hac,hF2,-,hlc⟩:=hf.bars.load (by decide) hc;obtain⟨q0,q1,q2,q3,q4,q5,q6,q7,rfl,-⟩:=hF2;conv=>whnf
   refine⟨adc,hac,⟨by omega,by omega⟩,?_⟩;conv=>whnf
   refine⟨[.int .i64 c.1,.int .i64 c.2.1,.bool q0,.slice q1 q2 q3,.bool q4,.slice q5 q6 q7],rfl,fun ρ w' r j u hu=>?_,?_⟩
   ·obtain⟨k1,k2⟩:=hlc j u hu;rw[aB,bo (w:=w) (w2:=w') (by rw[cC,cC];exact(hw.tr r.bs).block _ (hS _ k1))];exact k2
   conv=>whnf
   refine cW.mk (fun e1=>?_) (fun e1=>?_)
   ·have e1:(c.1=b.1):=by simpa using e1
    conv=>whnf
    refine cW.mk (fun e2=>?_) (fun e2=>?_)
    ·have e2:(c.2.1=b.2.1):=by simpa using e2
     have hin:=qY (K:=ew) hcL (show ew c=ew b by rw[lT];omega);conv=>whnf
     intro ρe we re;exact⟨_,rfl,hw.tr re.bs,by show Value.int .i64 _=_;rw[dh,aL (by omega),aL (by rw[hE];decide),aQ (by rw[hE2,cD hx (show eE f.nodes.length (f.bars.take i) b=5 by rw[eE,aQ ⟨hz0,hz1⟩,aL hab2,aQ hin]) (by decide)];decide),hE2,cD hx (show eE f.nodes.length (f.bars.take i) b=5 by rw[eE,aQ ⟨hz0,hz1⟩,aL hab2,aQ hin]) (by decide)]⟩
    ·have e2:¬(c.2.1=b.2.1):=by simpa using e2
     conv=>whnf
     refine cW.mk (fun e3=>?_) (fun e3=>?_)
     ·have e3:(c.1=b.2.1):=by simpa using e3
      conv=>whnf
      refine cW.mk (fun e4=>?_) (fun e4=>?_)
      ·have e4:(c.2.1=b.1):=by simpa using e4
       have hin:=qY (K:=ew) hcL (show ew c=ew b by rw[lT];omega);conv=>whnf
       intro ρe we re;exact⟨_,rfl,hw.tr re.bs,by show Value.int .i64 _=_;rw[dh,aL (by omega),aL (by rw[hE];decide),aQ (by rw[hE2,cD hx (show eE f.nodes.length (f.bars.take i) b=5 by rw[eE,aQ ⟨hz0,hz1⟩,aL hab2,aQ hin]) (by decide)];decide),hE2,cD hx (show eE f.nodes.length (f.bars.take i) b=5 by rw[eE,aQ ⟨hz0,hz1⟩,aL hab2,aQ hin]) (by decide)]⟩
      ·have e4:¬(c.2.1=b.1):=by simpa using e4
       have hK2:=j0 (K:=ew) hcL (show ew c≠ew b by rw[Ne,lT];omega) hK;conv=>whnf
       refine⟨((k+1:Nat):Int),by rw[wrap64]<;>omega,?_⟩;conv=>whnf
       intro ρ3 w6 r3;exact⟨(k+1,w6),⟨hkb,hw.tr r3.bs,hK2⟩,Sub.gen [] r3 ⟨rfl,rfl,trivial⟩ ⟨rfl,rfl,rfl,rfl,trivial⟩ (by simp[cY,cN.scopd,At.sc]) (by simp[cO,SV.sc,At.sc,cJ]) (by rfl) (fun lo hi h=>h),by dsimp only;omega⟩
     ·have e3:¬(c.1=b.2.1):=by simpa using e3
      have hK2:=j0 (K:=ew) hcL (show ew c≠ew b by rw[Ne,lT];omega) hK;conv=>whnf
      refine⟨((k+1:Nat):Int),by rw[wrap64]<;>omega,?_⟩;conv=>whnf
      intro ρ3 w6 r3;exact⟨(k+1,w6),⟨hkb,hw.tr r3.bs,hK2⟩,Sub.gen [] r3 ⟨rfl,rfl,trivial⟩ ⟨rfl,rfl,rfl,rfl,trivial⟩ (by simp[cY,cN.scopd,At.sc]) (by simp[cO,SV.sc,At.sc,cJ]) (by rfl) (fun lo hi h=>h),by dsimp only;omega⟩
   ·have e1:¬(c.1=b.1):=by simpa using e1
    conv=>whnf
    refine cW.mk (fun e3=>?_) (fun e3=>?_)
    ·have e3:(c.1=b.2.1):=by simpa using e3
     conv=>whnf
     refine cW.mk (fun e4=>?_) (fun e4=>?_)
     ·have e4:(c.2.1=b.1):=by simpa using e4
      have hin:=qY (K:=ew) hcL (show ew c=ew b by rw[lT];omega);conv=>whnf
      intro ρe we re;exact⟨_,rfl,hw.tr re.bs,by show Value.int .i64 _=_;rw[dh,aL (by omega),aL (by rw[hE];decide),aQ (by rw[hE2,cD hx (show eE f.nodes.length (f.bars.take i) b=5 by rw[eE,aQ ⟨hz0,hz1⟩,aL hab2,aQ hin]) (by decide)];decide),hE2,cD hx (show eE f.nodes.length (f.bars.take i) b=5 by rw[eE,aQ ⟨hz0,hz1⟩,aL hab2,aQ hin]) (by decide)]⟩
     ·have e4:¬(c.2.1=b.1):=by simpa using e4
      have hK2:=j0 (K:=ew) hcL (show ew c≠ew b by rw[Ne,lT];omega) hK;conv=>whnf
      refine⟨((k+1:Nat):Int),by rw[wrap64]<;>omega,?_⟩;conv=>whnf
      intro ρ3 w6 r3;exact⟨(k+1,w6),⟨hkb,hw.tr r3.bs,hK2⟩,Sub.gen [] r3 ⟨rfl,rfl,trivial⟩ ⟨rfl,rfl,rfl,rfl,trivial⟩ (by simp[cY,cN.scopd,At.sc]) (by simp[cO,SV.sc,At.sc,cJ]) (by rfl) (fun lo hi h=>h),by dsimp only;omega⟩
    ·have e3:¬(c.1=b.2.1):=by simpa using e3
     have hK2:=j0 (K:=ew) hcL (show ew c≠ew b by rw[Ne,lT];omega) hK;conv=>whnf
     refine⟨((k+1:Nat):Int),by rw[wrap64]<;>omega,?_⟩;conv=>whnf
     intro ρ3 w6 r3;exact⟨(k+1,w6),⟨hkb,hw.tr r3.bs,hK2⟩,Sub.gen [] r3 ⟨rfl,rfl,trivial⟩ ⟨rfl,rfl,rfl,rfl,trivial⟩ (by simp[cY,cN.scopd,At.sc]) (by simp[cO,SV.sc,At.sc,cJ]) (by rfl) (fun lo hi h=>h),by dsimp only;omega⟩
  have hkb:k=i:=by have:=aF hkb;omega
  have hdup:=yc (by rw[hLl];omega) hK;conv=>whnf
  refine bp (cE hw (Φ:=fun _ w' v w2=>v= .int .i64 (rs b.2.2)) (fun ρ w' r=>(vS (fun g hg=>by have:=hS g hg;have:=r.bm;omega) (hF.bu fun g hg=>(hw.tr r.bs).block g (hS g hg)))) ?_);rintro ρ wa3 v3 wb3 iv3 r he hw h_ rfl;clear r;obtain⟨cf,hcf⟩:∃c,rs b.2.2=c:=⟨_,rfl⟩
  rw[hcf];conv=>whnf
  refine cW.mk (fun hd2=>?_) (fun hd2=>?_)
  ·have hd2:b.2.2<=0:=by have:=aG hd2;rw[<-Rat.not_lt,<-lQ];omega
   conv=>whnf
   intro ρe we re;exact⟨_,rfl,hw.tr re.bs,by show Value.int .i64 _=_;rw[dh,aL (by omega),aL (by rw[hE];decide),aQ (by rw[hE2,cD hx (show eE f.nodes.length (f.bars.take i) b=2 by rw[eE,aQ ⟨hz0,hz1⟩,aL hab2,aL hdup,aQ hd2]) (by decide)];decide),hE2,cD hx (show eE f.nodes.length (f.bars.take i) b=2 by rw[eE,aQ ⟨hz0,hz1⟩,aL hab2,aL hdup,aQ hd2]) (by decide)]⟩
  have hd2:0<b.2.2:=by have:=aF hd2;rw[<-lQ];omega
  rw[fD hx (kO.2 ⟨⟨hz0,hz1⟩,hab2,hdup,hd2⟩)]at hE2;conv=>whnf
  refine⟨((i+1:Nat):Int),by rw[wrap64]<;>omega,?_⟩;conv=>whnf
  intro ρ3 w6 r3;exact⟨(i+1,w6,_),⟨hib,hw.tr r3.bs,hE2⟩,Sub.gen [] r3 ⟨rfl,trivial⟩ ⟨rfl,rfl,trivial⟩ (by simp[cY,cN.scopd,At.sc]) (by simp[cO,SV.sc,At.sc,cJ]) (by rfl) (fun lo hi h=>h),by dsimp only;omega⟩
 have hib:i=f.bars.length:=aM hi (by simpa using hib);rw[gD (by omega)]at hE2;clear hib hi;conv=>whnf
 refine⟨Nat×World×Iv,fun z=>⟨[(1,.o (.p 0 0)),(10,.o (.v (.int .i64 ((z.1:Nat):Int))))],[(0,.box T.Frame [.v (.slice an f.nodes.length cn),.v (.slice ab f.bars.length cb),.v (.slice aq f.cG.length cq)])],1,z.2.2,z.2.1⟩,fun z=>f.cG.length-z.1,
  fun z=>z.1<=f.cG.length∧cF w.heap.size w z.2.1∧dq (iR f.nodes.length) [] f.cG=dq (iR f.nodes.length) (f.cG.take z.1) (f.cG.drop z.1),?_,?_⟩
 ·intro ρ w' r3;exact⟨(0,w',_),⟨aO _,hw.tr r3.bs,rfl⟩,Sub.gen [] r3 ⟨rfl,trivial⟩ ⟨rfl,rfl,trivial⟩ (by simp[cY,cN.scopd,At.sc]) (by simp[cO,SV.sc,At.sc,cJ]) (by rfl) (fun lo hi h=>h)⟩
 clear hw;rintro⟨i,w1,iv⟩ ⟨hi,hw,hE3⟩;dsimp only at hi hw hE3 ⊢;conv=>whnf
 refine cW.mk (fun hib=>?_) (fun hib=>?_)
 ·have hib:i<f.cG.length:=by simpa using hib
  obtain⟨b,hx⟩:∃b,f.cG[i]? =some b:=⟨_,aA hib⟩
  have hLl:(f.cG.take i).length=i:=by rw[aW];omega
  obtain⟨adb,cs,hab,hF,-,hlb⟩:=hf.cG.load (by decide) hx;obtain⟨g0,g1,g2,g3,g4,g5,g6,g7,rfl,hF⟩:=hF;conv=>whnf
  refine⟨adb,hab,⟨by omega,by omega⟩,?_⟩;conv=>whnf
  refine⟨[.int .i64 b.1,.int .i64 b.2.1,.bool g0,.slice g1 g2 g3,.bool g4,.slice g5 g6 g7],rfl,fun ρ w' r j u hu=>?_,?_⟩
  ·obtain⟨k1,k2⟩:=hlb j u hu;rw[aB,bo (w:=w) (w2:=w') (by rw[cC,cC];exact(hw.tr r.bs).block _ (hS _ k1))];exact k2
  conv=>whnf
  refine bp (cE hw (Φ:=fun _ w' v w2=>∃d,v= .bool d∧(d=true↔gJ f.nodes.length b.1)) (fun ρ w' r=>nT _ _ _ _ _ _ _ _ _ _ w') ?_);rintro ρ wa1 v1 wb1 iv1 r he hw h_ ⟨d0,rfl,hz0⟩;clear r
  cases d0
  ·have hz0:¬gJ f.nodes.length b.1:=fun h=>by have:=hz0.2 h;cases this
   conv=>whnf
   intro ρe we re;exact⟨_,rfl,hw.tr re.bs,by show Value.int .i64 _=_;rw[dh,aL (by omega),aL (by rw[hE];decide),aL (by rw[hE2];decide),hE3,cD hx (show iR f.nodes.length (f.cG.take i) b=6 by rw[iR,aL hz0]) (by decide)]⟩
  replace hz0:=hz0.1 rfl;conv=>whnf
  refine bp (cE hw (Φ:=fun _ w' v w2=>∃d,v= .bool d∧(d=true↔0<=b.2.1∧b.2.1<=2)) (fun ρ w' r=>j1 _ _ _ w') ?_);rintro ρ wa2 v2 wb2 iv2 r he hw h_ ⟨d1,rfl,hax⟩;clear r
  cases d1
  ·have hax:¬(0<=b.2.1∧b.2.1<=2):=fun h=>by have:=hax.2 h;cases this
   conv=>whnf
   intro ρe we re;exact⟨_,rfl,hw.tr re.bs,by show Value.int .i64 _=_;rw[dh,aL (by omega),aL (by rw[hE];decide),aL (by rw[hE2];decide),hE3,cD hx (show iR f.nodes.length (f.cG.take i) b=2 by rw[iR,aQ hz0,aL hax]) (by decide)]⟩
  replace hax:=hax.1 rfl;conv=>whnf
  refine⟨Nat×World,fun z=>⟨[(1,.o (.p 0 0)),(10,.o (.v (.int .i64 ((i:Nat):Int)))),(11,.o (.p 1 0)),(12,.o (.v (.int .i64 ((z.1:Nat):Int))))],[(1,.box T.tY [.v (.int .i64 b.1),.v (.int .i64 b.2.1),.v (.bool g0),.v (.slice g1 g2 g3),.v (.bool g4),.v (.slice g5 g6 g7)]),(0,.box T.Frame [.v (.slice an f.nodes.length cn),.v (.slice ab f.bars.length cb),.v (.slice aq f.cG.length cq)])],2,iv2,z.2⟩,fun z=>i-z.1,
   fun z=>z.1<=i∧cF w.heap.size w z.2∧(fu b∈(f.cG.take i).map fu↔fu b∈((f.cG.take i).drop z.1).map fu),?_,?_⟩
  ·intro ρ w' r3;exact⟨(0,w'),⟨aO _,hw.tr r3.bs,Iff.rfl⟩,Sub.gen [] r3 ⟨rfl,rfl,trivial⟩ ⟨rfl,rfl,rfl,rfl,trivial⟩ (by simp[cY,cN.scopd,At.sc]) (by simp[cO,SV.sc,At.sc,cJ]) (by rfl) (fun lo hi h=>h)⟩
  clear hw;rintro⟨k,w2⟩ ⟨hk,hw,hK⟩;dsimp only at hk hw hK ⊢;conv=>whnf
  refine cW.mk (fun hkb=>?_) (fun hkb=>?_)
  ·have hkb:k<i:=by have:=aG hkb;omega
   obtain⟨c,hc⟩:∃c,f.cG[k]? =some c:=⟨_,aA (by omega)⟩
   have hcL:(f.cG.take i)[k]? =some c:=by rw[bQ hkb];exact hc
   obtain⟨adc,cs2,hac,hF2,-,hlc⟩:=hf.cG.load (by decide) hc;obtain⟨q0,q1,q2,q3,q4,q5,q6,q7,rfl,-⟩:=hF2;conv=>whnf
   refine bw hτ dH [.x 0,.x 1,.x 2,.x 3,.x 4,.x 5,.x 6,.x 7,.x 8,.x 9,.x 10,.x 11,.x 12,.x 13,.x 14,.x 15,.x 16,.x 17,.x 18,.x 19] (by kernel_rfl) (by kernel_rfl) ?_;conv=>whnf
   refine⟨adc,hac,⟨by omega,by omega⟩,?_⟩;conv=>whnf
   refine⟨.int .i64 c.1,fun ρ w' r=>?_,?_⟩
   ·obtain⟨k1,k2⟩:=hlc 0 _ rfl;rw[bo (w:=w) (w2:=w') (by simp only[cC];exact(hw.tr r.bs).block _ (hS _ k1))];simp only[aB,iW]at k2 ⊢;exact k2
   conv=>whnf
   refine cW.mk (fun e1=>?_) (fun e1=>?_)
   ·have e1:(c.1=b.1):=by simpa using e1
    conv=>whnf
    refine⟨adc,hac,⟨by omega,by omega⟩,?_⟩;conv=>whnf
    refine⟨.int .i64 c.2.1,fun ρ w' r=>?_,?_⟩
    ·obtain⟨k1,k2⟩:=hlc 1 _ rfl;rw[bo (w:=w) (w2:=w') (by simp only[cC];exact(hw.tr r.bs).block _ (hS _ k1))];simp only[aB,iW]at k2 ⊢;exact k2
    conv=>whnf
    refine cW.mk (fun e2=>?_) (fun e2=>?_)
    ·have e2:(c.2.1=b.2.1):=by simpa using e2
     have hin:=qY (K:=fu) hcL (show fu c=fu b by rw[yb];omega);conv=>whnf
     intro ρe we re;exact⟨_,rfl,hw.tr re.bs,by show Value.int .i64 _=_;rw[dh,aL (by omega),aL (by rw[hE];decide),aL (by rw[hE2];decide),hE3,cD hx (show iR f.nodes.length (f.cG.take i) b=5 by rw[iR,aQ hz0,aQ hax,aQ hin]) (by decide)]⟩
    ·have e2:¬(c.2.1=b.2.1):=by simpa using e2
     have hK2:=j0 (K:=fu) hcL (show fu c≠fu b by rw[Ne,yb];omega) hK;conv=>whnf
     refine⟨((k+1:Nat):Int),by rw[wrap64]<;>omega,?_⟩;conv=>whnf
     intro ρ3 w6 r3;exact⟨(k+1,w6),⟨hkb,hw.tr r3.bs,hK2⟩,Sub.gen [] r3 ⟨rfl,rfl,trivial⟩ ⟨rfl,rfl,rfl,rfl,trivial⟩ (by simp[cY,cN.scopd,At.sc]) (by simp[cO,SV.sc,At.sc,cJ]) (by rfl) (fun lo hi h=>h),by dsimp only;omega⟩
   ·have e1:¬(c.1=b.1):=by simpa using e1
    have hK2:=j0 (K:=fu) hcL (show fu c≠fu b by rw[Ne,yb];omega) hK;conv=>whnf
    refine⟨((k+1:Nat):Int),by rw[wrap64]<;>omega,?_⟩;conv=>whnf
    intro ρ3 w6 r3;exact⟨(k+1,w6),⟨hkb,hw.tr r3.bs,hK2⟩,Sub.gen [] r3 ⟨rfl,rfl,trivial⟩ ⟨rfl,rfl,rfl,rfl,trivial⟩ (by simp[cY,cN.scopd,At.sc]) (by simp[cO,SV.sc,At.sc,cJ]) (by rfl) (fun lo hi h=>h),by dsimp only;omega⟩
  have hkb:k=i:=by have:=aF hkb;omega
  have hdup:=yc (by rw[hLl];omega) hK;conv=>whnf
  refine bp (cE hw (Φ:=fun _ w' v w2=>v= .int .i64 (rs b.2.2)) (fun ρ w' r=>(vS (fun g hg=>by have:=hS g hg;have:=r.bm;omega) (hF.bu fun g hg=>(hw.tr r.bs).block g (hS g hg)))) ?_);rintro ρ wa3 v3 wb3 iv3 r he hw h_ rfl;clear r;obtain⟨cf,hcf⟩:∃c,rs b.2.2=c:=⟨_,rfl⟩
  rw[hcf];conv=>whnf
  refine cW.mk (fun hd2=>?_) (fun hd2=>?_)
  ·have hd2:b.2.2<0:=by have:=aG hd2;rw[<-jY];omega
   conv=>whnf
   intro ρe we re;exact⟨_,rfl,hw.tr re.bs,by show Value.int .i64 _=_;rw[dh,aL (by omega),aL (by rw[hE];decide),aL (by rw[hE2];decide),hE3,cD hx (show iR f.nodes.length (f.cG.take i) b=2 by rw[iR,aQ hz0,aQ hax,aL hdup,aQ hd2]) (by decide)]⟩
  have hd2:0<=b.2.2:=by have:=aF hd2;rw[<-Rat.not_lt,<-jY];omega
  rw[fD hx (nQ.2 ⟨hz0,hax,hdup,hd2⟩)]at hE3;conv=>whnf
  refine⟨((i+1:Nat):Int),by rw[wrap64]<;>omega,?_⟩;conv=>whnf
  intro ρ3 w6 r3;exact⟨(i+1,w6,_),⟨hib,hw.tr r3.bs,hE3⟩,Sub.gen [] r3 ⟨rfl,trivial⟩ ⟨rfl,rfl,trivial⟩ (by simp[cY,cN.scopd,At.sc]) (by simp[cO,SV.sc,At.sc,cJ]) (by rfl) (fun lo hi h=>h),by dsimp only;omega⟩
 have hib:i=f.cG.length:=aM hi (by simpa using hib);rw[gD (by omega)]at hE3;conv=>whnf
 intro ρe we re;exact⟨_,rfl,hw.tr re.bs,by show Value.int .i64 _=_;rw[dh,aL (by omega),aL (by rw[hE];decide),aL (by rw[hE2];decide),hE3]⟩
def rq(p:Int×Int):Rat:=ratio p.1 p.2
structure BG where
 nodes:List (Int×Int×Int)
 bars:List (Int×Int×(Int×Int))
 cG:List (Int×Int×(Int×Int))
def BH(p:Int×Int×(Int×Int)):Int×Int×Rat:=(p.1,p.2.1,rq p.2.2)
def BG.val(f:BG):eX:=⟨f.nodes,f.bars.map BH,f.cG.map BH⟩
def qZ(w:World)(S:Nat->Prop)(cs:List Value)(p:Int×Int×(Int×Int)):Prop:=∃b a n c b2 a2 n2 c2,cs=[.int .i64 p.1,.int .i64 p.2.1,.bool b,.slice a n c,.bool b2,.slice a2 n2 c2]∧fb w S (.agg #[.bool b,.slice a n c,.bool b2,.slice a2 n2 c2]) p.2.2.1 p.2.2.2
structure nB(w:World)(S:Nat->Prop)(vn vb vs:Value)(f:BG):Prop where
 nodes:kE w S vn f.nodes
 bars:df 6 qZ w S vb f.bars
 cG:df 6 qZ w S vs f.cG
theorem qZ.bu{w w2:World}{S:Nat->Prop}{cs:List Value}{p:Int×Int×(Int×Int)}(h:qZ w S cs p)(hk:∀g,S g->w2.heap[g]? =w.heap[g]?):qZ w2 S cs p:=by
 obtain⟨b,a,n,c,b2,a2,n2,c2,h1,h2⟩:=h;exact⟨b,a,n,c,b2,a2,n2,c2,h1,h2.bu hk⟩
theorem nB.bu{w w2:World}{S:Nat->Prop}{vn vb vs:Value}{f:BG}(h:nB w S vn vb vs f)(hk:∀g,S g->w2.heap[g]? =w.heap[g]?):nB w2 S vn vb vs f:=
 ⟨df.bu (w:=w) (fun _ _ h=>h) h.nodes hk,df.bu (fun _ _ h=>h.bu hk) h.bars hk,df.bu (fun _ _ h=>h.bu hk) h.cG hk⟩
theorem qZ.Gy{w:World}{S:Nat->Prop}{cs:List Value}{p:Int×Int×(Int×Int)}(h:qZ w S cs p)(hf:tK (cs.drop 2)):yW w S cs (BH p)∧rl (BH p).2.2<=3:=by
 obtain⟨b,a,n,c,b2,a2,n2,c2,rfl,h2⟩:=h;obtain⟨h3,h4⟩:=h2.l3 hf;exact⟨⟨b,a,n,c,b2,a2,n2,c2,rfl,h3⟩,h4⟩
theorem df.cells{α:Type}{k:Nat}{P:World->(Nat->Prop)->List Value->α->Prop}{w:World}{S:Nat->Prop}{v:Value}{xs:List α}(h:df k P w S v xs):
  ∃css:List (List Value),css.length=xs.length∧df k (fun w S cs (y:List Value×α)=>cs=y.1∧P w S cs y.2) w S v (css.zip xs)∧(∀(j:Nat) cs x,css[j]? =some cs->xs[j]? =some x->P w S cs x)∧
   ∀{β:Type} (Q:World->(Nat->Prop)->List Value->β->Prop) (ys:List β),ys.length=xs.length->(∀(j:Nat) cs y,css[j]? =some cs->ys[j]? =some y->Q w S cs y)->df k Q w S v ys:=by
 obtain⟨css,h1,h2,h3,h4⟩:=h;have hz:(css.zip xs).length=xs.length:=by rw[List.length_zip,h2,Nat.min_self]
 refine⟨css,h2,⟨css,by rw[hz];exact h1,by rw[hz,h2],h3,fun j cs y k1 k2=>?_⟩,h4,fun Q ys hl hQ=>⟨css,by rw[hl];exact h1,by rw[hl,h2],h3,hQ⟩⟩;rw[List.getElem?_zip_eq_some]at k2;rw[k1]at k2;exact⟨by injection k2.1,h4 j cs _ k1 k2.2⟩
theorem FK.of{w:World}{S:Nat->Prop}{v:Value}{xs:List (Int×Int×(Int×Int))}{css:List (List Value)}(h4:∀(j:Nat) cs x,css[j]? =some cs->xs[j]? =some x->qZ w S cs x)
  (hQ:∀{β:Type} (Q:World->(Nat->Prop)->List Value->β->Prop) (ys:List β),ys.length=xs.length->(∀(j:Nat) cs y,css[j]? =some cs->ys[j]? =some y->Q w S cs y)->df 6 Q w S v ys)
  (hl:css.length=xs.length) (hf:∀j cs,j<xs.length->css[j]? =some cs->tK (cs.drop 2)):D8 w S v (xs.map BH)∧∀b∈xs.map BH,rl b.2.2<=3:=by
 refine⟨hQ yW _ (aK ..) fun j cs y k1 k2=>?_,fun b hb=>?_⟩
 ·rw[aN]at k2;obtain⟨p,hp,rfl⟩:=Option.map_eq_some_iff.1 k2;exact((h4 j cs p k1 hp).Gy (hf j cs (aE.1 hp).1 k1)).1
 ·obtain⟨p,hp,rfl⟩:=aS.1 hb;obtain⟨j,hj⟩:=aU hp;have hjl:=(aE.1 hj).1;have hc:css[j]? =some css[j]:=aA (by omega);exact((h4 j _ p hc hj).Gy (hf j _ hjl hc)).2
set_option maxHeartbeats 1000000 in
theorem Di{S:Nat->Prop}{w:World}{vn vb vs:Value}{f:BG}(hS:Old S w)(hf:nB w S vn vb vs f):dQ PG N.mU #[.agg #[vn,vb,vs]] w (dU w fun v' _=>∃d,v'= .bool d∧
  (d=true->dE w S vn vb vs f.val∧(∀b∈f.val.bars,rl b.2.2<=3)∧(∀b∈f.val.cG,rl b.2.2<=3)∧(dh f.val≠0∨f.val.nodes.length<=4∧f.val.bars.length<=6))):=by
 have hw:cF w.heap.size w w:=cF.refl;obtain⟨an,cn,rfl,hcn,hmn⟩:=hf.nodes.shape;obtain⟨bcs,hbl,hbz,hb4,hbQ⟩:=hf.bars.cells;obtain⟨qcs,hql,hqz,hq4,hqQ⟩:=hf.cG.cells;obtain⟨ab,cb,rfl,hcb,hmb⟩:=hf.bars.shape;obtain⟨aq,cq,rfl,hcq,hms⟩:=hf.cG.shape;refine ud (by simp) ?_;conv=>whnf
 refine cW.mk (fun h0=>?_) (fun h0=>?_)
 ·conv=>whnf
  intro ρe we re;exact⟨_,rfl,hw.tr re.bs,_,rfl,fun h=>by cases h⟩
 have h0:=aF h0;conv=>whnf
 refine cW.mk (fun h1=>?_) (fun h1=>?_)
 ·conv=>whnf
  intro ρe we re;exact⟨_,rfl,hw.tr re.bs,_,rfl,fun h=>by cases h⟩
 have h1:=aF h1;conv=>whnf
 refine cW.mk (fun h2=>?_) (fun h2=>?_)
 ·conv=>whnf
  intro ρe we re;exact⟨_,rfl,hw.tr re.bs,_,rfl,fun h=>by cases h⟩
 have h2:=aF h2;conv=>whnf
 refine⟨Nat×World×Iv,fun z=>⟨[(1,.o (.p 0 0)),(3,.o (.v (.int .i64 ((z.1:Nat):Int))))],[(0,.box T.Frame [.v (.slice an f.nodes.length cn),.v (.slice ab f.bars.length cb),.v (.slice aq f.cG.length cq)])],1,z.2.2,z.2.1⟩,fun z=>f.bars.length-z.1,
  fun z=>z.1<=f.bars.length∧cF w.heap.size w z.2.1∧∀(j:Nat) (cs:List Value),j<z.1->bcs[j]? =some cs->tK (cs.drop 2),?_,?_⟩
 ·intro ρ w' r3;exact⟨(0,w',_),⟨aO _,hw.tr r3.bs,fun j cs hj=>absurd hj (bj j)⟩,Sub.gen [] r3 ⟨rfl,trivial⟩ ⟨rfl,rfl,trivial⟩ (by simp[cY,cN.scopd,At.sc]) (by simp[cO,SV.sc,At.sc,cJ]) (by rfl) (fun lo hi h=>h)⟩
 clear hw;rintro⟨i,w1,iv⟩ ⟨hi,hw,hB⟩;dsimp only at hi hw hB ⊢;conv=>whnf
 refine cW.mk (fun hib=>?_) (fun hib=>?_)
 ·have hib:i<f.bars.length:=by simpa using hib
  obtain⟨cs,hcs⟩:∃cs,bcs[i]? =some cs:=⟨_,aA (by omega)⟩
  obtain⟨p,hp⟩:∃p,f.bars[i]? =some p:=⟨_,aA hib⟩
  obtain⟨g0,g1,g2,g3,g4,g5,g6,g7,rfl,-⟩:=hb4 i cs p hcs hp;obtain⟨adx,cs2,hax,⟨he2,-⟩,-,hat⟩:=hbz.load (by decide) (show (bcs.zip f.bars)[i]? =some (_,p) by rw[List.getElem?_zip_eq_some];exact⟨hcs,hp⟩);have he2:cs2=[.int .i64 p.1,.int .i64 p.2.1,.bool g0,.slice g1 g2 g3,.bool g4,.slice g5 g6 g7]:=he2;subst he2;conv=>whnf
  refine⟨adx,hax,⟨by omega,by omega⟩,?_⟩;conv=>whnf
  refine⟨[.bool g0,.slice g1 g2 g3,.bool g4,.slice g5 g6 g7],rfl,fun ρ w' r j u hu=>?_,?_⟩
  ·have hj4:=(aE.1 hu).1;obtain⟨k1,k2⟩:=hat (2+j) u (by rcases j with _|_|_|_|j<;>first|exact hu|(have:j+4<4:=hj4;omega));rw[bo (w:=w) (w2:=w') (by simp only[cC];exact(hw.tr r.bs).block _ (hS _ k1))];simp only[aB,iW]at k2 ⊢
   first|exact k2|(rw [<-k2];congr 2;omega)
  conv=>whnf
  refine bp (cE hw (Φ:=fun _ w' v w2=>∃d,v= .bool d∧(d=true->tK [.bool g0,.slice g1 g2 g3,.bool g4,.slice g5 g6 g7])) (fun ρ w' r=>(ya (S:=fun g=>g=(ρ 1).g) (css:=[[.bool g0,.slice g1 g2 g3,.bool g4,.slice g5 g6 g7]]) (fun g hg=>by subst hg;exact Rel.lt r (id:=1) rfl) (r.nA (id:=1) (sz:=4) (n:=1) rfl rfl (by decide) (by repeat' first|refine List.forall_mem_cons.2 ⟨rfl,?_⟩|exact fun u hu=>absurd hu List.not_mem_nil)) (fun cs hc=>by rw[bB.1 hc];exact⟨_,_,_,_,_,_,_,_,rfl⟩)).mono fun _ _ ⟨v2,e1,e2,d,e3,e4⟩=>⟨v2,e1,e2,d,e3,fun h=>(e4 h).2 _ aH⟩) ?_);rintro ρ wa1 v1 wb1 iv1 r he hw h_ ⟨d2,rfl,hz2⟩;clear r
  cases d2
  ·conv=>whnf
   intro ρe we re;exact⟨_,rfl,hw.tr re.bs,_,rfl,fun h=>by cases h⟩
  have hE2:∀j cs,j<i+1->bcs[j]? =some cs->tK (cs.drop 2):=fun j cs hj hc=>by
   rcases bA j i with h|h
   ·exact hB j cs h hc
   ·have:j=i:=by omega
    subst this;rw[hcs]at hc;injection hc with hc;subst hc;exact hz2 rfl
  conv=>whnf
  refine⟨((i+1:Nat):Int),by rw[wrap64]<;>omega,?_⟩;conv=>whnf
  intro ρ3 w6 r3;exact⟨(i+1,w6,_),⟨hib,hw.tr r3.bs,hE2⟩,Sub.gen [] r3 ⟨rfl,trivial⟩ ⟨rfl,rfl,trivial⟩ (by simp[cY,cN.scopd,At.sc]) (by simp[cO,SV.sc,At.sc,cJ]) (by rfl) (fun lo hi h=>h),by dsimp only;omega⟩
 have hib:i=f.bars.length:=aM hi (by simpa using hib);subst hib;clear hi;conv=>whnf
 refine⟨Nat×World×Iv,fun z=>⟨[(1,.o (.p 0 0)),(4,.o (.v (.int .i64 ((z.1:Nat):Int))))],[(0,.box T.Frame [.v (.slice an f.nodes.length cn),.v (.slice ab f.bars.length cb),.v (.slice aq f.cG.length cq)])],1,z.2.2,z.2.1⟩,fun z=>f.cG.length-z.1,
  fun z=>z.1<=f.cG.length∧cF w.heap.size w z.2.1∧∀(j:Nat) (cs:List Value),j<z.1->qcs[j]? =some cs->tK (cs.drop 2),?_,?_⟩
 ·intro ρ w' r3;exact⟨(0,w',_),⟨aO _,hw.tr r3.bs,fun j cs hj=>absurd hj (bj j)⟩,Sub.gen [] r3 ⟨rfl,trivial⟩ ⟨rfl,rfl,trivial⟩ (by simp[cY,cN.scopd,At.sc]) (by simp[cO,SV.sc,At.sc,cJ]) (by rfl) (fun lo hi h=>h)⟩
 clear hw;rintro⟨i,w1,iv⟩ ⟨hi,hw,hQ⟩;dsimp only at hi hw hQ ⊢;conv=>whnf
 refine cW.mk (fun hib=>?_) (fun hib=>?_)
 ·have hib:i<f.cG.length:=by simpa using hib
  obtain⟨cs,hcs⟩:∃cs,qcs[i]? =some cs:=⟨_,aA (by omega)⟩
  obtain⟨p,hp⟩:∃p,f.cG[i]? =some p:=⟨_,aA hib⟩
  obtain⟨g0,g1,g2,g3,g4,g5,g6,g7,rfl,-⟩:=hq4 i cs p hcs hp;obtain⟨adx,cs2,hax,⟨he2,-⟩,-,hat⟩:=hqz.load (by decide) (show (qcs.zip f.cG)[i]? =some (_,p) by rw[List.getElem?_zip_eq_some];exact⟨hcs,hp⟩);have he2:cs2=[.int .i64 p.1,.int .i64 p.2.1,.bool g0,.slice g1 g2 g3,.bool g4,.slice g5 g6 g7]:=he2;subst he2;conv=>whnf
  refine⟨adx,hax,⟨by omega,by omega⟩,?_⟩;conv=>whnf
  refine⟨[.bool g0,.slice g1 g2 g3,.bool g4,.slice g5 g6 g7],rfl,fun ρ w' r j u hu=>?_,?_⟩
  ·have hj4:=(aE.1 hu).1;obtain⟨k1,k2⟩:=hat (2+j) u (by rcases j with _|_|_|_|j<;>first|exact hu|(have:j+4<4:=hj4;omega));rw[bo (w:=w) (w2:=w') (by simp only[cC];exact(hw.tr r.bs).block _ (hS _ k1))];simp only[aB,iW]at k2 ⊢
   first|exact k2|(rw [<-k2];congr 2;omega)
  conv=>whnf
  refine bp (cE hw (Φ:=fun _ w' v w2=>∃d,v= .bool d∧(d=true->tK [.bool g0,.slice g1 g2 g3,.bool g4,.slice g5 g6 g7])) (fun ρ w' r=>(ya (S:=fun g=>g=(ρ 1).g) (css:=[[.bool g0,.slice g1 g2 g3,.bool g4,.slice g5 g6 g7]]) (fun g hg=>by subst hg;exact Rel.lt r (id:=1) rfl) (r.nA (id:=1) (sz:=4) (n:=1) rfl rfl (by decide) (by repeat' first|refine List.forall_mem_cons.2 ⟨rfl,?_⟩|exact fun u hu=>absurd hu List.not_mem_nil)) (fun cs hc=>by rw[bB.1 hc];exact⟨_,_,_,_,_,_,_,_,rfl⟩)).mono fun _ _ ⟨v2,e1,e2,d,e3,e4⟩=>⟨v2,e1,e2,d,e3,fun h=>(e4 h).2 _ aH⟩) ?_);rintro ρ wa1 v1 wb1 iv1 r he hw h_ ⟨d2,rfl,hz2⟩;clear r
  cases d2
  ·conv=>whnf
   intro ρe we re;exact⟨_,rfl,hw.tr re.bs,_,rfl,fun h=>by cases h⟩
  have hE2:∀j cs,j<i+1->qcs[j]? =some cs->tK (cs.drop 2):=fun j cs hj hc=>by
   rcases bA j i with h|h
   ·exact hQ j cs h hc
   ·have:j=i:=by omega
    subst this;rw[hcs]at hc;injection hc with hc;subst hc;exact hz2 rfl
  conv=>whnf
  refine⟨((i+1:Nat):Int),by rw[wrap64]<;>omega,?_⟩;conv=>whnf
  intro ρ3 w6 r3;exact⟨(i+1,w6,_),⟨hib,hw.tr r3.bs,hE2⟩,Sub.gen [] r3 ⟨rfl,trivial⟩ ⟨rfl,rfl,trivial⟩ (by simp[cY,cN.scopd,At.sc]) (by simp[cO,SV.sc,At.sc,cJ]) (by rfl) (fun lo hi h=>h),by dsimp only;omega⟩
 have hib:i=f.cG.length:=aM hi (by simpa using hib);subst hib;clear hi;obtain⟨kb,kb2⟩:=FK.of hb4 hbQ hbl hB;obtain⟨kq,kq2⟩:=FK.of hq4 hqQ hql hQ;have hR:dE w S (.slice an f.nodes.length cn) (.slice ab f.bars.length cb) (.slice aq f.cG.length cq) f.val:=⟨hf.nodes,kb,kq⟩
 conv=>whnf
 refine bp (cE hw (Φ:=fun _ w' v w2=>v= .int .i64 (dh f.val)) (fun ρ w' r=>AF (fun g hg=>by have:=hS g hg;have:=r.bm;omega) (hR.bu fun g hg=>(hw.tr r.bs).block g (hS g hg))) ?_);rintro ρ wa1 v1 wb1 iv1 r he hw h_ rfl;clear r;obtain⟨e,he⟩:∃e,dh f.val=e:=⟨_,rfl⟩
 rw[he];conv=>whnf
 refine cW.mk (fun hd=>?_) (fun hd=>?_)
 ·have hd:e≠0:=by simpa using hd
  conv=>whnf
  intro ρe we re;exact⟨_,rfl,hw.tr re.bs,_,rfl,fun _=>⟨hR,kb2,kq2,.inl hd⟩⟩
 have hd:e=0:=by simpa using hd
 conv=>whnf
 refine cW.mk (fun h4=>?_) (fun h4=>?_)
 ·have h4:=aG h4;conv=>whnf
  intro ρe we re;exact⟨_,rfl,hw.tr re.bs,_,rfl,fun h=>⟨hR,kb2,kq2,.inr ⟨by show f.nodes.length<=4;omega,by show(f.bars.map BH).length<=6;rw[aK];have:=aG h;omega⟩⟩⟩
 conv=>whnf
 intro ρe we re;exact⟨_,rfl,hw.tr re.bs,_,rfl,fun h=>by cases h⟩
theorem Dj{S:Nat->Prop}{w:World}{v:Value}{xs:List (Int×Int)}(hS:Old S w)(hx:lh w S v xs):
  dQ PG N.jf #[v] w (dU w fun v' _=>∃d,v'= .bool d∧(d=true->xs.length<=80∧cS w S v (xs.map rq)∧∀q∈xs.map rq,rl q<=3)):=by
 obtain⟨css,h1,h2,h3,h4⟩:=hx;have hF:∀cs∈css,GV cs:=fun cs hc=>by
  obtain⟨j,hj⟩:=aU hc;have hjl:=(aE.1 hj).1;obtain⟨b,a,n,c,b2,a2,n2,c2,e,_⟩:=h4 j cs _ hj (aA (by omega));exact⟨b,a,n,c,b2,a2,n2,c2,e⟩
 refine(ya hS (by rw[h2];exact h1) hF).mono fun _ _ ⟨v2,e1,e2,d,e3,e4⟩=>⟨v2,e1,e2,d,e3,fun h=>?_⟩
 obtain⟨k1,k2⟩:=e4 h;have key:∀(j:Nat) cs p,css[j]? =some cs->xs[j]? =some p->jW w S cs (rq p)∧rl (rq p)<=3:=fun j cs p m1 m2=>by
  obtain⟨b,a,n,c,b2,a2,n2,c2,rfl,m3⟩:=h4 j cs p m1 m2;obtain⟨m4,m5⟩:=m3.l3 (k2 _ (aD m1));exact⟨⟨b,a,n,c,b2,a2,n2,c2,rfl,m4⟩,m5⟩
 refine⟨by omega,⟨css,by rw[aK];exact h1,by rw[aK];exact h2,h3,fun j cs q m1 m2=>?_⟩,fun q hq=>?_⟩
 ·rw[aN]at m2;obtain⟨p,hp,rfl⟩:=Option.map_eq_some_iff.1 m2;exact(key j cs p m1 hp).1
 ·obtain⟨p,hp,rfl⟩:=aS.1 hq;obtain⟨j,hj⟩:=aU hp;have hjl:=(aE.1 hj).1;exact(key j _ p (aA (by omega)) hj).2
section
variable{xs:List Rat}{l:List (Rat×Rat)}{i:Nat}{x:Rat}{r:Rat×Rat}
end
theorem jt{S:Nat->Prop}{w:World}{vn vb vs:Value}{f:eX}(hf:dE w S vn vb vs f)(h60:f.bars.length<=60∧f.cG.length<=60):dQ PG N.mX #[.agg #[vn,vb,vs]] w (dU w fun v' _=>v'= .int .i64 f.cols):=by
 have hw:cF w.heap.size w w:=cF.refl;obtain⟨an,cn,ab,cb,aq,cq,rfl,rfl,rfl,hmn,hmb,hms⟩:=hf.shape;refine qE (by simp) ?_;conv=>whnf
 refine⟨((f.bars.length+f.cG.length:Nat):Int),by rw[wrap64]<;>omega,?_⟩;conv=>whnf
 intro ρe we re;exact⟨_,rfl,hw.tr re.bs,rfl⟩
section
variable{S:Nat->Prop}{w w1 w':World}{H:Hp}{nx:Nat}{iv:Iv}{ρ:Nat->Sx.dN}
theorem C7{vn vb vs:Value}{f:BG}(hS:Old S w)(hw:cF w.heap.size w w1)(r:Rel H nx iv w.heap.size w1 ρ w')(hf:nB w S vn vb vs f):dQ PG N.mU #[.agg #[vn,vb,vs]] w' (dU w' fun v' _=>∃d,v'= .bool d∧
  (d=true->dE w S vn vb vs f.val∧(∀b∈f.val.bars,rl b.2.2<=3)∧(∀b∈f.val.cG,rl b.2.2<=3)∧(dh f.val≠0∨f.val.nodes.length<=4∧f.val.bars.length<=6))):=
 have hk:∀g,S g->w'.heap[g]? =w.heap[g]? :=fun g hg=>(hw.tr r.bs).block g (hS g hg)
 (Di (S:=S) (fun g hg=>by have:=hS g hg;have:=r.bm;omega) (hf.bu hk)).mono fun _ _ ⟨v2,e1,e2,d,e3,e4⟩=>⟨v2,e1,e2,d,e3,fun h=>⟨(e4 h).1.bu fun g hg=>(hk g hg).symm,(e4 h).2⟩⟩
theorem xX{v:Value}{xs:List (Int×Int)}(hS:Old S w)(hw:cF w.heap.size w w1)(r:Rel H nx iv w.heap.size w1 ρ w')(hx:lh w S v xs):
  dQ PG N.jf #[v] w' (dU w' fun v' _=>∃d,v'= .bool d∧(d=true->xs.length<=80∧cS w S v (xs.map rq)∧∀q∈xs.map rq,rl q<=3)):=
 have hk:∀g,S g->w'.heap[g]? =w.heap[g]? :=fun g hg=>(hw.tr r.bs).block g (hS g hg)
 (Dj (S:=S) (fun g hg=>by have:=hS g hg;have:=r.bm;omega) (hx.bu hk)).mono fun _ _ ⟨v2,e1,e2,d,e3,e4⟩=>⟨v2,e1,e2,d,e3,fun h=>⟨(e4 h).1,cS.bu (e4 h).2.1 fun g hg=>(hk g hg).symm,(e4 h).2.2⟩⟩
end
end Go.Ex
namespace Go.Ex
end Go.Ex
namespace Go.Ex
open Go Go.Sx Go.Proofs
theorem C8{n:Nat}(h:n<9223372036854775807):ln n<=2:=by have:=j2 (n:=(n:Int)) (by omega) (by omega);rwa [Int.natAbs_natCast]at this
theorem Dl{f:eX}(h:dh f=0){b:Int×Int×Rat}(hb:b∈f.bars):b.1≠b.2.1∧0<b.2.2:=by
 obtain⟨_,_,hb',_⟩:=qq h;obtain⟨k,hk⟩:=aU hb;have:=kO.1 (fw hb' k b hk);exact⟨this.2.1,this.2.2.2⟩
structure aAG{α:Type}(k:Nat)(P:World->(Nat->Prop)->List Value->α->Prop)(w:World)(S:Nat->Prop)(css:List (List Value))(qs:List α):Prop where
 len:css.length=qs.length
 wid:∀cs∈css,cs.length=k
 at_:∀(j:Nat) cs q,css[j]? =some cs->qs[j]? =some q->P w S cs q
section
variable{α:Type}{k:Nat}{P:World->(Nat->Prop)->List Value->α->Prop}{w w2:World}{S S':Nat->Prop}{css:List (List Value)}{qs:List α}
end
theorem Bl{n:Int}(h:n.natAbs<9223372036854775807):rl (n:Rat)<=2:=by
 have h2:ln n.natAbs<=2:=C8 h;unfold rl;rw[Rat.num_intCast,Rat.den_intCast];have h3:ln 1=1:=by decide
 omega
set_option maxHeartbeats 1000000 in
theorem wS{S:Nat->Prop}{w:World}{vn vb vs:Value}{f:eX}{i:Nat}{b:Int×Int×Rat}(hS:Old S w)(hf:dE w S vn vb vs f)(hok:oO f)(hb:f.bars[i]? =some b):
  dQ PG N.kS #[.agg #[vn,vb,vs],.int .i64 i] w (dU w fun v' _=>v'= .agg #[.int .i64 ((f.node b.2.1).1-(f.node b.1).1),.int .i64 ((f.node b.2.1).2.1-(f.node b.1).2.1),.int .i64 ((f.node b.2.1).2.2-(f.node b.1).2.2)]):=by
 have hw:cF w.heap.size w w:=cF.refl;obtain⟨an,cn,ab,cb,aq,cq,rfl,rfl,rfl,hmn,hmb,hms⟩:=hf.shape;obtain⟨hn20,hb60,hs60⟩:=And.intro hok.n (And.intro hok.b hok.s);have hib:=(aE.1 hb).1;obtain⟨hA,hB⟩:=hok.GB b (aD hb);obtain⟨ka,pa,ea,hka,hpa,hna,⟨_,_⟩,⟨_,_⟩,⟨_,_⟩⟩:=hok.node hA.1 hA.2;obtain⟨kb,pb,eb,hkb,hpb,hnb,⟨_,_⟩,⟨_,_⟩,⟨_,_⟩⟩:=hok.node hB.1 hB.2;obtain⟨adx,csx,hax,hFx,-,hlx⟩:=hf.bars.load (by decide) hb;obtain⟨g0,g1,g2,g3,g4,g5,g6,g7,rfl,-⟩:=hFx;obtain⟨ada,csa,haa,hPa,-,hla⟩:=hf.nodes.load (by decide) hpa;obtain⟨adb,csb,hab,hPb,-,hlb⟩:=hf.nodes.load (by decide) hpb;have hPa:csa=[.int .i64 pa.1,.int .i64 pa.2.1,.int .i64 pa.2.2]:=hPa;have hPb:csb=[.int .i64 pb.1,.int .i64 pb.2.1,.int .i64 pb.2.2]:=hPb;subst hPa hPb;rw[hna,hnb];rw[ea,eb]at hlx;refine nh (by simp) ?_;conv=>whnf
 refine gA hτ dH (.x 0 (.x 2 (.x 4 (.x 10 (.x 12 (.x 14 (.ld 1 12583680 (.ld 3 12583904 (.x 5 (.x 6 (.ld 7 12583680 (.x 8 (.ld 9 12582912 (.ld 11 9175040 (.ld 13 9404416 (.x 15 (.x 16 (.ld 17 9175040 (.x 18 (.ld 19 8388608 (.two 20 (.x 21 (.x 22 (.x 23 .nil))) 21 (.x 20 (.x 22 (.x 23 .nil)))))))))))))))))))))))) (by kernel_rfl) (by kernel_rfl) ?_;conv=>whnf
 refine⟨adx,hax,⟨by omega,by omega⟩,?_⟩;conv=>whnf
 refine⟨.int .i64 (ka:Int),fun ρ w' r=>?_,?_⟩
 ·obtain⟨k1,k2⟩:=hlx 0 _ rfl;rw[bo (w:=w) (w2:=w') (by simp only[cC];exact(hw.tr r.bs).block _ (hS _ k1))];simp only[aB,iW]at k2 ⊢;exact k2
 conv=>whnf
 refine⟨ada,haa,⟨by omega,by omega⟩,?_⟩;conv=>whnf
 refine⟨[.int .i64 pa.1,.int .i64 pa.2.1,.int .i64 pa.2.2],rfl,fun ρ w' r j u hu=>?_,?_⟩
 ·obtain⟨k1,k2⟩:=hla j u hu;rw[aB,bo (w:=w) (w2:=w') (by rw[cC,cC];exact(hw.tr r.bs).block _ (hS _ k1))];exact k2
 conv=>whnf
 refine⟨adx,hax,⟨by omega,by omega⟩,?_⟩;conv=>whnf
 refine⟨.int .i64 (kb:Int),fun ρ w' r=>?_,?_⟩
 ·obtain⟨k1,k2⟩:=hlx 1 _ rfl;rw[bo (w:=w) (w2:=w') (by simp only[cC];exact(hw.tr r.bs).block _ (hS _ k1))];simp only[aB,iW]at k2 ⊢;exact k2
 conv=>whnf
 refine⟨adb,hab,⟨by omega,by omega⟩,?_⟩;conv=>whnf
 refine⟨[.int .i64 pb.1,.int .i64 pb.2.1,.int .i64 pb.2.2],rfl,fun ρ w' r j u hu=>?_,?_⟩
 ·obtain⟨k1,k2⟩:=hlb j u hu;rw[aB,bo (w:=w) (w2:=w') (by rw[cC,cC];exact(hw.tr r.bs).block _ (hS _ k1))];exact k2
 conv=>whnf
 refine⟨?_,?_⟩
 ·conv=>whnf
  refine⟨[.int .i64 pb.1,.int .i64 pb.2.1,.int .i64 pb.2.2],rfl,fun ρ w' r j u hu=>?_,?_⟩
  ·obtain⟨k1,k2⟩:=hlb j u hu;rw[aB,bo (w:=w) (w2:=w') (by rw[cC,cC];exact(hw.tr r.bs).block _ (hS _ k1))];exact k2
  conv=>whnf
  refine⟨rfl,?_⟩;conv=>whnf
  refine⟨.int .i64 (kb:Int),fun ρ w' r=>?_,?_⟩
  ·obtain⟨k1,k2⟩:=hlx 1 _ rfl;rw[bo (w:=w) (w2:=w') (by simp only[cC];exact(hw.tr r.bs).block _ (hS _ k1))];simp only[aB,iW]at k2 ⊢;exact k2
  conv=>whnf
  refine⟨rfl,?_⟩;conv=>whnf
  refine⟨rfl,?_⟩;conv=>whnf
  refine⟨rfl,?_⟩;conv=>whnf
  refine⟨[.int .i64 pa.1,.int .i64 pa.2.1,.int .i64 pa.2.2],rfl,fun ρ w' r j u hu=>?_,?_⟩
  ·obtain⟨k1,k2⟩:=hla j u hu;rw[aB,bo (w:=w) (w2:=w') (by rw[cC,cC];exact(hw.tr r.bs).block _ (hS _ k1))];exact k2
  conv=>whnf
  refine⟨rfl,?_⟩;conv=>whnf
  refine⟨.int .i64 (ka:Int),fun ρ w' r=>?_,?_⟩
  ·obtain⟨k1,k2⟩:=hlx 0 _ rfl;rw[bo (w:=w) (w2:=w') (by simp only[cC];exact(hw.tr r.bs).block _ (hS _ k1))];simp only[aB,iW]at k2 ⊢;exact k2
  conv=>whnf
  refine⟨rfl,?_⟩;conv=>whnf
  refine⟨rfl,?_⟩;conv=>whnf
  refine⟨rfl,?_⟩;conv=>whnf
  refine⟨[.int .i64 pb.1,.int .i64 pb.2.1,.int .i64 pb.2.2],rfl,fun ρ w' r j u hu=>?_,?_⟩
  ·obtain⟨k1,k2⟩:=hlb j u hu;rw[aB,bo (w:=w) (w2:=w') (by rw[cC,cC];exact(hw.tr r.bs).block _ (hS _ k1))];exact k2
  conv=>whnf
  refine⟨rfl,?_⟩;conv=>whnf
  refine⟨.int .i64 (kb:Int),fun ρ w' r=>?_,?_⟩
  ·obtain⟨k1,k2⟩:=hlx 1 _ rfl;rw[bo (w:=w) (w2:=w') (by simp only[cC];exact(hw.tr r.bs).block _ (hS _ k1))];simp only[aB,iW]at k2 ⊢;exact k2
  conv=>whnf
  refine⟨rfl,?_⟩;conv=>whnf
  refine⟨rfl,?_⟩;conv=>whnf
  refine⟨rfl,?_⟩;conv=>whnf
  refine⟨[.int .i64 pa.1,.int .i64 pa.2.1,.int .i64 pa.2.2],rfl,fun ρ w' r j u hu=>?_,?_⟩
  ·obtain⟨k1,k2⟩:=hla j u hu;rw[aB,bo (w:=w) (w2:=w') (by rw[cC,cC];exact(hw.tr r.bs).block _ (hS _ k1))];exact k2
  conv=>whnf
  refine⟨rfl,?_⟩;conv=>whnf
  refine⟨.int .i64 (ka:Int),fun ρ w' r=>?_,?_⟩
  ·obtain⟨k1,k2⟩:=hlx 0 _ rfl;rw[bo (w:=w) (w2:=w') (by simp only[cC];exact(hw.tr r.bs).block _ (hS _ k1))];simp only[aB,iW]at k2 ⊢;exact k2
  conv=>whnf
  refine⟨rfl,?_⟩;conv=>whnf
  refine⟨rfl,?_⟩;conv=>whnf
  refine⟨rfl,?_⟩;conv=>whnf
  refine⟨[.int .i64 pb.1,.int .i64 pb.2.1,.int .i64 pb.2.2],rfl,fun ρ w' r j u hu=>?_,?_⟩
  ·obtain⟨k1,k2⟩:=hlb j u hu;rw[aB,bo (w:=w) (w2:=w') (by rw[cC,cC];exact(hw.tr r.bs).block _ (hS _ k1))];exact k2
  conv=>whnf
  refine⟨rfl,?_⟩;conv=>whnf
  refine⟨.int .i64 (kb:Int),fun ρ w' r=>?_,?_⟩
  ·obtain⟨k1,k2⟩:=hlx 1 _ rfl;rw[bo (w:=w) (w2:=w') (by simp only[cC];exact(hw.tr r.bs).block _ (hS _ k1))];simp only[aB,iW]at k2 ⊢;exact k2
  conv=>whnf
  refine⟨rfl,?_⟩;conv=>whnf
  refine⟨rfl,?_⟩;conv=>whnf
  refine⟨rfl,?_⟩;conv=>whnf
  refine⟨pb.1-pa.1,by rw[wrap64]<;>omega,?_⟩;conv=>whnf
  refine⟨pb.2.1-pa.2.1,by rw[wrap64]<;>omega,?_⟩;conv=>whnf
  refine⟨pb.2.2-pa.2.2,by rw[wrap64]<;>omega,?_⟩;conv=>whnf
  intro ρe we re;exact⟨_,rfl,hw.tr re.bs,rfl⟩
 ·conv=>whnf
  refine⟨[.int .i64 pb.1,.int .i64 pb.2.1,.int .i64 pb.2.2],rfl,fun ρ w' r j u hu=>?_,?_⟩
  ·obtain⟨k1,k2⟩:=hlb j u hu;rw[aB,bo (w:=w) (w2:=w') (by rw[cC,cC];exact(hw.tr r.bs).block _ (hS _ k1))];exact k2
  conv=>whnf
  refine⟨rfl,?_⟩;conv=>whnf
  refine⟨.int .i64 (kb:Int),fun ρ w' r=>?_,?_⟩
  ·obtain⟨k1,k2⟩:=hlx 1 _ rfl;rw[bo (w:=w) (w2:=w') (by simp only[cC];exact(hw.tr r.bs).block _ (hS _ k1))];simp only[aB,iW]at k2 ⊢;exact k2
  conv=>whnf
  refine⟨rfl,?_⟩;conv=>whnf
  refine⟨rfl,?_⟩;conv=>whnf
  refine⟨rfl,?_⟩;conv=>whnf
  refine⟨[.int .i64 pa.1,.int .i64 pa.2.1,.int .i64 pa.2.2],rfl,fun ρ w' r j u hu=>?_,?_⟩
  ·obtain⟨k1,k2⟩:=hla j u hu;rw[aB,bo (w:=w) (w2:=w') (by rw[cC,cC];exact(hw.tr r.bs).block _ (hS _ k1))];exact k2
  conv=>whnf
  refine⟨rfl,?_⟩;conv=>whnf
  refine⟨.int .i64 (ka:Int),fun ρ w' r=>?_,?_⟩
  ·obtain⟨k1,k2⟩:=hlx 0 _ rfl;rw[bo (w:=w) (w2:=w') (by simp only[cC];exact(hw.tr r.bs).block _ (hS _ k1))];simp only[aB,iW]at k2 ⊢;exact k2
  conv=>whnf
  refine⟨rfl,?_⟩;conv=>whnf
  refine⟨rfl,?_⟩;conv=>whnf
  refine⟨rfl,?_⟩;conv=>whnf
  refine⟨[.int .i64 pb.1,.int .i64 pb.2.1,.int .i64 pb.2.2],rfl,fun ρ w' r j u hu=>?_,?_⟩
  ·obtain⟨k1,k2⟩:=hlb j u hu;rw[aB,bo (w:=w) (w2:=w') (by rw[cC,cC];exact(hw.tr r.bs).block _ (hS _ k1))];exact k2
  conv=>whnf
  refine⟨rfl,?_⟩;conv=>whnf
  refine⟨.int .i64 (kb:Int),fun ρ w' r=>?_,?_⟩
  ·obtain⟨k1,k2⟩:=hlx 1 _ rfl;rw[bo (w:=w) (w2:=w') (by simp only[cC];exact(hw.tr r.bs).block _ (hS _ k1))];simp only[aB,iW]at k2 ⊢;exact k2
  conv=>whnf
  refine⟨rfl,?_⟩;conv=>whnf
  refine⟨rfl,?_⟩;conv=>whnf
  refine⟨rfl,?_⟩;conv=>whnf
  refine⟨[.int .i64 pa.1,.int .i64 pa.2.1,.int .i64 pa.2.2],rfl,fun ρ w' r j u hu=>?_,?_⟩
  ·obtain⟨k1,k2⟩:=hla j u hu;rw[aB,bo (w:=w) (w2:=w') (by rw[cC,cC];exact(hw.tr r.bs).block _ (hS _ k1))];exact k2
  conv=>whnf
  refine⟨rfl,?_⟩;conv=>whnf
  refine⟨.int .i64 (ka:Int),fun ρ w' r=>?_,?_⟩
  ·obtain⟨k1,k2⟩:=hlx 0 _ rfl;rw[bo (w:=w) (w2:=w') (by simp only[cC];exact(hw.tr r.bs).block _ (hS _ k1))];simp only[aB,iW]at k2 ⊢;exact k2
  conv=>whnf
  refine⟨rfl,?_⟩;conv=>whnf
  refine⟨rfl,?_⟩;conv=>whnf
  refine⟨rfl,?_⟩;conv=>whnf
  refine⟨[.int .i64 pb.1,.int .i64 pb.2.1,.int .i64 pb.2.2],rfl,fun ρ w' r j u hu=>?_,?_⟩
  ·obtain⟨k1,k2⟩:=hlb j u hu;rw[aB,bo (w:=w) (w2:=w') (by rw[cC,cC];exact(hw.tr r.bs).block _ (hS _ k1))];exact k2
  conv=>whnf
  refine⟨rfl,?_⟩;conv=>whnf
  refine⟨.int .i64 (kb:Int),fun ρ w' r=>?_,?_⟩
  ·obtain⟨k1,k2⟩:=hlx 1 _ rfl;rw[bo (w:=w) (w2:=w') (by simp only[cC];exact(hw.tr r.bs).block _ (hS _ k1))];simp only[aB,iW]at k2 ⊢;exact k2
  conv=>whnf
  refine⟨rfl,?_⟩;conv=>whnf
  refine⟨rfl,?_⟩;conv=>whnf
  refine⟨rfl,?_⟩;conv=>whnf
  refine⟨pb.1-pa.1,by rw[wrap64]<;>omega,?_⟩;conv=>whnf
  refine⟨pb.2.1-pa.2.1,by rw[wrap64]<;>omega,?_⟩;conv=>whnf
  refine⟨pb.2.2-pa.2.2,by rw[wrap64]<;>omega,?_⟩;conv=>whnf
  intro ρe we re;exact⟨_,rfl,hw.tr re.bs,rfl⟩
section
variable{S S':Nat->Prop}{H:Hp}{nx:Nat}{iv iv':Iv}{B:Nat}{w w' w2:World}{ρ:Nat->Sx.dN}{v:Value}{l:List (Rat×Rat)}
end
end Go.Ex
namespace Go.Ex
abbrev I3:=Int×Int×Int
def E3(p:I3):Prop:=kH p.1∧kH p.2.1∧kH p.2.2
instance (p : I3) : Decidable (E3 p) := by unfold E3; infer_instance
end Go.Ex
namespace Go.Ex
open Go Go.Sx Go.Proofs
end Go.Ex
namespace Go.Sx
open Go Go.Ex Go.Proofs
theorem Sub.Gq{B nx:Nat}{l:Env}{H:Hp}{iv:Iv}{w w':World}{ρ:Nat->Sx.dN}{t:xA}(id:Nat){bt:Nat}{vs:List Value}(hid:cT H id=some (.box bt (vs.map At.v)))(r:Rel H nx iv B w ρ w')
  (h:Rel ((id,.arr bt vs)::H) nx iv B w ρ w'->Sx.Sub B l nx ρ w' t):Sx.Sub B l nx ρ w' t:=by
 have hnn:=r.nn id _ hid (by intros;simp) (by simp);have hcell:=r.box id bt _ hid;have hden:(vs.map At.v).map (At.den ρ)=vs:=by
  rw[List.map_map];exact List.map_id _
 rw[hden]at hcell
 exact h (r.store (b':=.arr bt vs) (H':=(id,.arr bt vs)::H) (w2:=w') hid (by simp) hnn (fun j=>by
  rw[cR];by_cases hj:id=j
  ·subst hj;simp
  ·rw[aL hj,aL (fun h=>hj h.symm)]) rfl rfl rfl rfl (fun _ _=>rfl) ⟨hnn,hcell⟩ trivial)
end Go.Sx
namespace Go.Ex
open Go Go.Sx Go.Proofs
abbrev GW(x:Ld):Value:=.agg #[.int .i64 x.1,.int .i64 x.2.1,.int .i64 x.2.2.1,.int .i64 x.2.2.2]
end Go.Ex
namespace Go.Ex
open Go Go.Sx Go.Proofs
theorem C9(x:Ld)(w:World):dQ PG N.pg #[GW x] w (dU w fun v' _=>∃d,v'= .bool d∧(d=true↔E3 x.2)):=by
 have hw:cF w.heap.size w w:=cF.refl;obtain⟨x0,x1,x2,x3⟩:=x;refine se (by simp) ?_;conv=>whnf
 refine bp (cE hw (Φ:=fun _ w' v w2=>∃d,v= .bool d∧(d=true↔ -1000000<=x1∧x1<=1000000)) (fun ρ w' r=>j1 _ _ _ w') ?_);rintro ρ wa1 v1 wb1 iv1 r he hw h_ ⟨d0,rfl,hz0⟩;clear r
 cases d0
 ·have hz0:¬kH x1:=fun h=>by have:=hz0.2 h;cases this
  conv=>whnf
  intro ρe we re;exact⟨_,rfl,hw.tr re.bs,_,rfl,(fun h=>by cases h),fun h=>absurd h.1 hz0⟩
 replace hz0:kH x1:=hz0.1 rfl;conv=>whnf
 refine bp (cE hw (Φ:=fun _ w' v w2=>∃d,v= .bool d∧(d=true↔ -1000000<=x2∧x2<=1000000)) (fun ρ w' r=>j1 _ _ _ w') ?_);rintro ρ wa2 v2 wb2 iv2 r he hw h_ ⟨d1,rfl,hz1⟩;clear r
 cases d1
 ·have hz1:¬kH x2:=fun h=>by have:=hz1.2 h;cases this
  conv=>whnf
  intro ρe we re;exact⟨_,rfl,hw.tr re.bs,_,rfl,(fun h=>by cases h),fun h=>absurd h.2.1 hz1⟩
 replace hz1:kH x2:=hz1.1 rfl;conv=>whnf
 refine bp (cE hw (Φ:=fun _ w' v w2=>∃d,v= .bool d∧(d=true↔ -1000000<=x3∧x3<=1000000)) (fun ρ w' r=>j1 _ _ _ w') ?_);rintro ρ wa3 v3 wb3 iv3 r he hw h_ ⟨d2,rfl,hz2⟩;clear r
 cases d2
 ·have hz2:¬kH x3:=fun h=>by have:=hz2.2 h;cases this
  conv=>whnf
  intro ρe we re;exact⟨_,rfl,hw.tr re.bs,_,rfl,(fun h=>by cases h),fun h=>absurd h.2.2 hz2⟩
 replace hz2:kH x3:=hz2.1 rfl;conv=>whnf
 intro ρe we re;exact⟨_,rfl,hw.tr re.bs,_,rfl,fun _=>⟨hz0,hz1,hz2⟩,fun _=>rfl⟩
section
variable{S S':Nat->Prop}{H:Hp}{nx:Nat}{iv iv':Iv}{B:Nat}{w w' w2:World}{ρ:Nat->Sx.dN}{v:Value}{l:List Ld}
end
end Go.Ex
namespace Go.Ex
theorem DK{l:List Rat}{t:Nat}(h:l.length<=t):l.getD t 0=0:=by rw[List.getD,List.getElem?_eq_none h];rfl
section
variable{M:List (List Rat)}{n B:Nat}{b:List Rat}
end
theorem getD_some{α:Type}{l:List α}{i:Nat}{x d:α}(h:l[i]? =some x):l.getD i d=x:=by rw[List.getD,h];rfl
structure aAL(M:List (List Rat))(n:Nat)(φ:Nat->Rat):Prop where
 len:qo n M
 pos:∀t,t<n->0<=φ t
 aAM:∀x:Nat->Rat,(∀j,j<M.length->mulR M n x j=0)->Ae (fun t=>φ t*(x t*x t)) n=0->∀t,t<n->x t=0
def HE(φ x y:Nat->Rat)(n:Nat):Rat:=Ae (fun t=>φ t*(x t*y t)) n
section
variable{M:List (List Rat)}{n:Nat}{φ:Nat->Rat}{b:List Rat}
structure aAE(M:List (List Rat))(n:Nat)(φ:Nat->Rat)(b x:List Rat):Prop where
 len:x.length=n
 eq:∀j,j<M.length->mulR M n (fun t=>x.getD t 0) j=b.getD j 0
 st:∀k,k<(GK M n).length->HE φ (l0 (GK M n) k) (fun t=>x.getD t 0) n=0
end
section
variable{M:List (List Rat)}{n:Nat}{fl b:List Rat}
end
def ez(M:List (List Int))(r c:Nat):Int:=(M.getD r []).getD c 0
theorem getD_set_ne{α:Type}{l:List α}{i j:Nat}{x d:α}(h:i≠j):(l.set i x).getD j d=l.getD j d:=by rw[List.getD,ai h,<-List.getD]
theorem jc{α:Type}{l:List α}{i:Nat}{x d:α}(h:i<l.length):(l.set i x).getD i d=x:=by rw[List.getD,aZ h];rfl
theorem gN{M:List (List Int)}{r c r' c':Nat}{d:Int}(h:r'≠r∨c'≠c):ez (putAt M r c d) r' c'=ez M r' c':=by
 unfold ez putAt;by_cases h1:r'=r
 ·subst h1;have h2:c≠c':=h.elim (fun h=>absurd rfl h) fun h=>h.symm;rcases bA r' M.length with h3|h3
  ·rw[jc h3,getD_set_ne h2]
  ·rw[List.set_eq_of_length_le h3]
 ·rw[getD_set_ne (Ne.symm h1)]
theorem zX{M:List (List Int)}{r c:Nat}{d:Int}(hr:r<M.length)(hc:c<(M.getD r []).length):ez (putAt M r c d) r c=d:=by
 unfold ez putAt;rw[jc hr,jc hc]
theorem fM(M:List (List Int))(r c:Nat)(d:Int):pW M r c d=putAt M r c (ez M r c+d):=rfl
theorem xr{f:eX}{i:Nat}{b:Int×Int×Rat}(hb:f.bars[i]? =some b):f.bars.getD i (0,0,0)=b:=by rw[List.getD,hb];rfl
theorem qp{f:eX}{M:List (List Int)}{i c r:Nat}(h:c≠i):∀k,ez (da f M i k) r c=ez M r c
 |0=>rfl
 |k+1=>by
  rw[da];rw[fM,gN (.inr h),fM,gN (.inr h)];exact qp h k
theorem jd(f:eX){r c:Nat}:∀i,i<=c->ez (dD f i) r c=0
 |0,_=>by
  unfold ez dD;rcases bA r (3*f.nodes.length)with h|h
  ·rw[show (List.replicate (3*f.nodes.length) (List.replicate f.cols (0:Int))).getD r []=List.replicate f.cols 0 by rw[List.getD,List.getElem?_replicate,aQ h];rfl,List.getD,List.getElem?_replicate];split<;>rfl
  ·rw[show (List.replicate (3*f.nodes.length) (List.replicate f.cols (0:Int))).getD r []=[] by rw[List.getD,List.getElem?_replicate,aL (by omega)];rfl];rfl
 |i+1,h=>by rw[dD,qp (by omega)];exact jd f i (by omega)
theorem toNat_add{a:Int}{k ka:Nat}(h:a=ka):(3*a+(k:Int)).toNat=3*ka+k:=by omega
theorem xD{f:eX}{M:List (List Int)}{i r ka kb:Nat}{b:Int×Int×Rat}(hb:f.bars[i]? =some b)(ea:b.1=ka)(eb:b.2.1=kb):∀k,k<=3->k<=r % 3->ez (da f M i k) r i=ez M r i
 |0,_,_=>rfl
 |k+1,h3,h=>by
  rw[da];rw[xr hb,toNat_add ea,toNat_add eb,fM,gN (.inl (by omega)),fM,gN (.inl (by omega))];exact xD hb ea eb k (by omega) (by omega)
theorem ky{f:eX}{i r ka kb k:Nat}{b:Int×Int×Rat}(hb:f.bars[i]? =some b)(ea:b.1=ka)(eb:b.2.1=kb)(hk:k<=3)(h:k<=r % 3):ez (da f (dD f i) i k) r i=0:=by
 rw[xD hb ea eb k hk h];exact jd f i (aI _)
theorem uM{f:eX}{r c:Nat}(h:c<f.bars.length):∀k,ez (eA f k) r c=ez (dD f f.bars.length) r c
 |0=>rfl
 |k+1=>by
  rw[eA];rw[gN (.inr (by omega))];exact uM h k
theorem rk{f:eX}{r i:Nat}:∀k,k<=i->ez (eA f k) r (f.bars.length+i)=0
 |0,_=>jd f _ (by omega)
 |k+1,h=>by
  rw[eA];rw[gN (.inr (by omega))];exact rk k (by omega)
def fN(s:Int×Int×Rat):Nat:=(3*s.1+s.2.1).toNat
theorem xE{f:eX}(hw:∀k,∀l∈eA f k,l.length=f.cols)(hlen:∀k,(eA f k).length=3*f.nodes.length)(hrow:∀s∈f.cG,fN s<3*f.nodes.length){r i:Nat}{s:Int×Int×Rat}(hs:f.cG[i]? =some s):
  ∀k,i<k->ez (eA f k) r (f.bars.length+i)=if r=fN s then 1 else 0
 |0,h=>by omega
 |k+1,h=>by
  rw[eA];rcases bA i k with h1|h1
  ·rw[gN (.inr (by omega))];exact xE hw hlen hrow hs k h1
  ·have:i=k:=by omega
   subst this;have hg:f.cG.getD i (0,0,0)=s:=by rw[List.getD,hs];rfl
   have hsr:=hrow s (aD hs);have hi:=(aE.1 hs).1;rw[hg];by_cases h2:r=fN s
   ·rw[aQ h2,h2];have hm:fN s<(eA f i).length:=by rw[hlen];exact hsr
    exact zX hm (by
     show f.bars.length+i<((eA f i).getD (fN s) []).length;rw[List.getD,aA hm];show f.bars.length+i<((eA f i)[fN s]).length;rw[hw i _ (List.getElem_mem hm),eX.cols]
     omega)
   ·rw[aL h2];exact(gN (r:=fN s) (.inl h2)).trans (rk i (aI _))
end Go.Ex
