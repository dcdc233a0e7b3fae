/- A part of the proof: texts X77 to X81. Each tells its conditions in its theorems. -/
import Derived.Test.YtmkjmkdmfamciaaGreatDoorP7
import Derived.Test.YtmkjmkdmfamciaaGreatDoorP13
/- Echelon of the reference. Printed by program. No condition but sizes. -/
namespace Go.Ex
open Go Go.Sx Go.Proofs

theorem plusF_nil(ys:List Rat)(b:Rat):plusF [] ys b=ys.map (· *b):=by
 refine List.ext_getElem? fun j=>?_
 rcases Nat.lt_or_ge j ys.length with h|h
 ·rw[plusF_get h,if_neg (by simp),List.getElem?_map,List.getD,List.getElem?_eq_getElem h]
  rfl
 ·rw[List.getElem?_eq_none (by rw[plusF_length];exact h),List.getElem?_eq_none (by simp;exact h)]
theorem plusF_addR{xs ys:List Rat}(b:Rat)(h:xs.length=ys.length):plusF xs ys b=xs.mapIdx (addR b ys):=by
 refine List.ext_getElem? fun j=>?_
 rw[List.getElem?_mapIdx]
 rcases Nat.lt_or_ge j ys.length with h1|h1
 ·rw[plusF_get h1,if_pos (by omega),List.getElem?_eq_getElem (by omega),List.getD,List.getElem?_eq_getElem (show j<xs.length by omega)]
  simp[addR,Rat.mul_comm]
 ·rw[List.getElem?_eq_none (by rw[plusF_length];exact h1),List.getElem?_eq_none (show xs.length≤j by omega)]
  rfl
theorem RatsC.l{S:Nat→Prop}{w:World}{v:Value}{qs:List Rat}(h:RatsC w S v qs)(hq:∀q∈qs,rl q≤100000):RatsL w S v qs:=by
 obtain⟨css,h1,h2,h3,h4⟩:=h
 refine⟨css,h1,h2,h3,fun j cs q k1 k2=>?_⟩
 obtain⟨b,a,n,c,b2,a2,n2,c2,e,hc⟩:=h4 j cs q k1 k2
 exact⟨b,a,n,c,b2,a2,n2,c2,e,hc.l (hq q (List.mem_of_getElem? k2))⟩
theorem RatsL.nil(w:World)(S:Nat→Prop):RatsL w S (.slice none 0 0) []:=⟨[],⟨by simp,by simp,by simp,none,0,rfl,Nat.le_refl _,by simp⟩,rfl,by simp,by simp⟩
theorem rQuoNon_c{S:Nat→Prop}{w:World}{v u:Value}{p q:Rat}(hS:Old S w)(hp:RatL w S v p)(hq:RatL w S u q)(h0:q≠0):
  Con PG N.ref01_Quo #[v,u] w (Ret w fun v' w2=>∃r,v'= .tuple #[r,.int .i64 0]∧RatC w2 (Nw (fun _=>False) w w2) r (p / q)):=
 (rQuo_c hS hp hq).mono fun _ _ ⟨v2,e1,e2,e3⟩=>⟨v2,e1,e2,e3.elim (fun h=>absurd h.1 h0) fun h=>h.2⟩
/-- rows of a matrix of one's own -/
def RowsV(w:World)(S:Nat→Prop)(rv:List Value)(M:List (List Rat)):Prop:=rv.length=M.length∧(∀u∈rv,u.oneCell'=true)∧∀(i:Nat) u r,rv[i]? =some u→M[i]? =some r→RatsL w S u r
section
variable{S S':Nat→Prop}{H:Hp}{nx:Nat}{iv iv':Iv}{B:Nat}{w w' w2:World}{ρ:Nat→Sx.Val}{rv:List Value}{M:List (List Rat)}
theorem RowsV.rel(h:RowsV w (Cv S B iv) rv M)(r:Rel H nx iv B w ρ w')(hS:∀g,S g→g<B):RowsV w' (Cv S B iv) rv M:=⟨h.1,h.2.1,fun i u x h1 h2=>RatsL.rel (h.2.2 i u x h1 h2) r hS⟩
theorem RowsV.past(h:RowsV w (Cv S B iv) rv M)(r:Rel H nx iv B w ρ w')(hS:∀g,S g→g<B)(he:Ext w' w2)(hm:∀p,p∈iv→p∈iv'):RowsV w2 (Cv S B iv') rv M:=⟨h.1,h.2.1,fun i u x h1 h2=>RatsL.past (h.2.2 i u x h1 h2) r hS he hm⟩
theorem RowsV.set{i:Nat}{u:Value}{x:List Rat}(h:RowsV w S rv M)(hu:u.oneCell'=true)(hx:RatsL w S u x):RowsV w S (rv.set i u) (M.set i x):=by
 refine⟨by simp[h.1],fun v hv=>?_,fun j v y h1 h2=>?_⟩
 ·rcases List.mem_or_eq_of_mem_set hv with h1|h1
  ·exact h.2.1 v h1
  ·rw[h1];exact hu
 ·rw[List.getElem?_set]at h1 h2
  by_cases hj:i=j
  ·rw[if_pos hj]at h1 h2
   split at h1
   ·split at h2
    ·injection h1 with h1
     injection h2 with h2
     subst h1 h2
     exact hx
    ·cases h2
   ·cases h1
  ·rw[if_neg hj]at h1 h2
   exact h.2.2 j v y h1 h2
theorem RowsV.get{i:Nat}(h:RowsV w S rv M)(hi:i<M.length):∃u r,rv[i]? =some u∧M[i]? =some r∧RatsL w S u r:=by
 obtain⟨u,hu⟩:∃u,rv[i]? =some u:=⟨_,List.getElem?_eq_getElem (by rw[h.1];exact hi)⟩
 obtain⟨r,hr⟩:∃r,M[i]? =some r:=⟨_,List.getElem?_eq_getElem hi⟩
 exact⟨u,r,hu,hr,h.2.2 i u r hu hr⟩
end
theorem rEchelon_c{S:Nat→Prop}{w:World}{v:Value}{M:List (List Rat)}{n cols h0:Nat}(hS:Old S w)(h:RatML w S v M)(hlen:Len n M)(hn:n≤1000)(hR:M.length≤1000)(hcols:cols≤n)(hht:Ht M h0)(h2:2≤h0)(hbd:4^M.length*h0≤90000):
  Con PG N.ref01_Echelon #[v,.int .i64 cols] w (Ret w fun v' w2=>∃vm vp,v'= .tuple #[vm,vp]∧RatML w2 (Nw S w w2) vm (reduceF M cols).1∧IntsR w2 (Nw (fun _=>False) w w2) vp (reduceF M cols).2):=by
 have hw:Bel w.heap.size w w:=Bel.refl
 replace h:=RatML.arg h []
 obtain⟨rv0,⟨hm0,hl0,h1,am,cm,rfl,hcm,hcell⟩,hl,hrows⟩:=h
 unfold maxLen at hm0
 have hRV:RowsV w (Cv S w.heap.size []) rv0 M:=⟨hl,h1,hrows⟩
 refine in_ref01_Echelon (by simp) ?_
 conv=>whnf
 refine .inl ?_
 conv=>whnf
 refine⟨rv0,hl0,h1,fun ρ w' r hpos=>?_,?_⟩
 ·obtain⟨u0,hu0⟩:∃u,rv0[0]? =some u:=⟨_,List.getElem?_eq_getElem (by omega)⟩
  obtain⟨ad,ha,_,_⟩:=hcell 0 u0 hu0
  refine⟨ad,ha,fun j u hj=>?_⟩
  obtain⟨ad2,ha2,q1,q2⟩:=hcell j u hj
  rw[ha]at ha2
  injection ha2 with ha2
  subst ha2
  rw[cell_of_heap (w:=w) (w2:=w') (by rw[addB];exact Rel.same r hS q1)]
  exact q2
 conv=>whnf
 refine⟨rfl,by omega,by unfold maxLen;omega,?_⟩
 conv=>whnf
 rw[Nat.zero_add M.length]
 refine⟨Nat×List Value×List (List Rat)×List Nat×World×Iv,fun z=>⟨[(1,.o (.v (.int .i64 cols))),(6,.o (.w 0 M.length)),(7,.o (.w 1 z.2.2.2.1.length)),(8,.o (.v (.int .i64 ((z.1:Nat):Int))))],[(1,.vec T.int 1 (z.2.2.2.1.map fun c:Nat=>.int .i64 (c:Int))),(0,.vec T.LRat 1 z.2.1)],2,z.2.2.2.2.2,z.2.2.2.2.1⟩,fun z=>cols-z.1,
  fun z=>z.1≤cols∧(z.2.2.1,z.2.2.2.1)=(List.range z.1).foldl stepF (M,[])∧Len n z.2.2.1∧Inv M cols h0 (z.2.2.1,z.2.2.2.1)∧Bel w.heap.size w z.2.2.2.2.1∧RowsV z.2.2.2.2.1 (Cv S w.heap.size z.2.2.2.2.2) z.2.1 z.2.2.1,?_,?_⟩
 ·intro ρ w' r
  exact⟨(0,rv0,M,[],w',[]),⟨Nat.zero_le _,rfl,hlen,⟨rfl,Nat.zero_le _,by simp,by simpa using hht⟩,hw.tr r.bel,hRV.rel r hS⟩,Sub.nil 7 T.int 1 rfl (by simp[ScE,SV.sc,At.sc,initE]) r fun ρ1 r1=>
   Sub.gen [(0,1),(1,2)] r1 ⟨rfl,rfl,trivial⟩ ⟨rfl,rfl,rfl,rfl,trivial⟩ (by simp[ScH,Blk.scopd]) (by simp[ScE,SV.sc,At.sc]) (by rfl) (by simp)⟩
 clear hw hRV hrows hcell hl h1 hl0
 rintro⟨c,rv,M1,pv,w1,iv⟩ ⟨hc,hfold,hLen,hInv,hw,hRV⟩
 dsimp only at hc hfold hLen hInv hw hRV ⊢
 obtain⟨hI1,hI2,hI3,hI4⟩:=hInv
 dsimp only at hI1 hI2 hI3 hI4
 have hrl:rv.length=M.length:=by rw[hRV.1,hI1]
 conv=>whnf
 refine BrS.mk (fun hib=>?_) (fun hib=>?_)
 ·have hib:c<cols:=by simpa using hib
  conv=>whnf
  refine⟨by simp,?_⟩
  conv=>whnf
  refine⟨Nat×World×Iv,fun z=>⟨[(1,.o (.v (.int .i64 cols))),(6,.o (.w 0 M.length)),(7,.o (.w 1 pv.length)),(8,.o (.v (.int .i64 ((c:Nat):Int)))),(9,.o (.v (.int .i64 ((pv.length:Nat):Int)))),(10,.o (.v (.int .i64 ((z.1:Nat):Int))))],[(1,.vec T.int 1 (pv.map fun c:Nat=>.int .i64 (c:Int))),(0,.vec T.LRat 1 rv)],2,z.2.2,z.2.1⟩,fun z=>M.length-z.1,
   fun z=>pv.length≤z.1∧z.1≤M.length∧(∀j,pv.length≤j→j<z.1→at2 M1 j c=0)∧Bel w.heap.size w z.2.1∧RowsV z.2.1 (Cv S w.heap.size z.2.2) rv M1,?_,?_⟩
  ·intro ρ w' r
   exact⟨(pv.length,w',iv),⟨Nat.le_refl _,hI2,fun j h3 h4=>by dsimp only at h4;omega,hw.tr r.bel,hRV.rel r hS⟩,Sub.gen [] r ⟨rfl,rfl,trivial⟩ ⟨rfl,rfl,rfl,rfl,rfl,rfl,trivial⟩ (by simp[ScH,Blk.scopd]) (by simp[ScE,SV.sc,At.sc]) (by rfl) (fun lo hi h=>h)⟩
  clear hw hRV
  rintro⟨k,w2,iv⟩ ⟨hk0,hk1,hkz,hw,hRV⟩
  dsimp only at hk0 hk1 hkz hw hRV ⊢
  have hRl:=hRV.1
  conv=>whnf
  refine⟨by rw[hrl,Nat.zero_add,Nat.mul_one],?_⟩
  conv=>whnf
  refine BrS.mk (fun hkb=>?_) (fun hkb=>?_)
  ·have hkb:k<M.length:=by have:=of_decide_eq_true hkb;omega
   obtain⟨u,x,hu,hx,hux⟩:=hRV.get (i:=k) (by omega)
   have hxl:=hLen x (List.mem_of_getElem? hx)
   obtain⟨y,hy⟩:∃y,x[c]? =some y:=⟨_,List.getElem?_eq_getElem (by omega)⟩
   have hat:at2 M1 k c=y:=by simp[at2,List.getD,hx,hy]
   obtain⟨au,cu,rfl,hcu,-⟩:=ListR.shape hux
   obtain⟨ad,cs,had,hF,_,hlc⟩:=ListR.load hux hy
   obtain⟨p0,p1,p2,p3,p4,p5,p6,p7,rfl,hF⟩:=hF
   conv=>whnf
   refine⟨by simp[hrl],⟨by omega,by omega⟩,?_⟩
   conv=>whnf
   refine⟨.slice au x.length cu,by simpa using hu,?_⟩
   conv=>whnf
   refine⟨ad,had,⟨by omega,by omega⟩,?_⟩
   conv=>whnf
   refine⟨[.bool p0,.slice p1 p2 p3,.bool p4,.slice p5 p6 p7],rfl,fun ρ w' r i x hx=>?_,?_⟩
   ·obtain⟨k1,k2⟩:=hlc i x hx
    rw[Int.toNat_natCast,cell_of_heap (w:=w2) (w2:=w') (by rw[addB,addB];exact Rel.same r hS k1)]
    exact k2
   conv=>whnf
   refine callE_S (callE_con (Φ:=fun _ w' v w2=>v= .int .i64 (rs y)) (fun ρ w' r=>rSignOfL_c (Rel.old r hS) (hF.rel r hS)) ?_)
   rintro ρ wa1 v1 wb1 r he hb rfl
   replace hw:=hw.tr hb
   replace hRV:=hRV.past (iv':=(wa1.heap.size,wb1.heap.size)::iv) r hS he fun x hx=>List.mem_cons_of_mem _ hx
   clear r he hb
   generalize (wa1.heap.size,wb1.heap.size)::iv=iv1 at*
   conv=>whnf
   clear hux hlc hF
   refine BrS.mk (fun hs=>?_) (fun hs=>?_)
   ·have hs:y=0:=rs_zero.1 (by simpa using hs)
    conv=>whnf
    refine⟨((k+1:Nat):Int),by rw[wrap64]<;>omega,?_⟩
    conv=>whnf
    intro ρ3 w3 r3
    exact⟨(k+1,w3,_),⟨by dsimp only;omega,hkb,fun j h3 h4=>by
      by_cases hj:j=k
      ·rw[hj,hat,hs]
      ·exact hkz j h3 (by dsimp only at h4;omega),hw.tr r3.bel,hRV.rel r3 hS⟩,Sub.gen [] r3 ⟨rfl,rfl,trivial⟩ ⟨rfl,rfl,rfl,rfl,rfl,rfl,trivial⟩ (by simp[ScH,Blk.scopd]) (by simp[ScE,SV.sc,At.sc]) (by rfl) (fun lo hi h=>h),by dsimp only;omega⟩
   have hs:y≠0:=fun e=>by rw[e]at hs;exact absurd hs (by decide)
   conv=>whnf
   refine⟨by rw[hrl,Nat.zero_add,Nat.mul_one],?_⟩
   conv=>whnf
   refine BrS.mk (fun hge=>absurd (of_decide_eq_true hge) (by omega)) (fun _=>?_)
   conv=>whnf
   obtain⟨uk,xk,huk,hxk,huxk⟩:=hRV.get (i:=k) (by omega)
   obtain⟨ur,xr,hur,hxr,huxr⟩:=hRV.get (i:=pv.length) (by omega)
   have hukc:=hRV.2.1 uk (List.mem_of_getElem? huk)
   have hurc:=hRV.2.1 ur (List.mem_of_getElem? hur)
   obtain⟨aur,cur,rfl,-,-⟩:=ListR.shape huxr
   obtain⟨auk,cuk,rfl,-,-⟩:=ListR.shape huxk
   have hsw:swapL [] M1 pv.length k=(M1.set pv.length xk).set k xr:=by simp[swapL,List.getD,hxk,hxr]
   have hMr:pv.length<M.length:=by omega
   have hpow:4*(4^pv.length*h0)≤90000:=by
    have h5:=Nat.mul_le_mul_right h0 (Nat.pow_le_pow_right (show 0<4 by decide) (show pv.length+1≤M.length by omega))
    rw[Nat.pow_succ,Nat.mul_comm (4^pv.length) 4,Nat.mul_assoc]at h5
    omega
   have hh2:2≤4^pv.length*h0:=Nat.le_trans h2 (Nat.le_mul_of_pos_left _ (Nat.pow_pos (by decide)))
   have hne:at2 M1 k c≠0:=by rw[hat];exact hs
   have hstep:=stepF_some (s:=(M1,pv)) (c:=c) (k:=k) hk0 (by show k<M1.length;omega) hkz hne
   have hHt2:=hI4.swap (i:=pv.length) (j:=k) (by omega) (by omega)
   have hat2:=at2_swap (M:=M1) (i:=pv.length) (j:=k) (c:=c) (by omega) (by omega)
   have hHt3:=hHt2.scaled (a:=pv.length) (c:=c) hh2 (by rw[swapL_length];omega) (by rw[hat2];exact hne)
   have hRV2:=(hRV.set (i:=pv.length) hukc huxk).set (i:=k) hurc huxr
   rw[←hsw]at hRV2
   have hLen2:Len n (swapL [] M1 pv.length k):=by
    rw[hsw];exact(hLen.set (hLen xk (List.mem_of_getElem? hxk))).set (hLen xr (List.mem_of_getElem? hxr))
   have hl2:(swapL [] M1 pv.length k).length=M.length:=by rw[swapL_length,hI1]
   generalize hrv2:(rv.set pv.length (.slice auk xk.length cuk)).set k (.slice aur xr.length cur)=rv2 at hRV2
   have hrl2:rv2.length=M.length:=by rw[hRV2.1,hl2]
   dsimp only at hstep
   refine drawn_of_pi hτ hmix [.x 0,.x 1,.x 2,.x 3,.x 4,.x 5,.x 6,.x 7,.x 8,.x 9,.x 10,.x 11,.x 12,.x 13,.x 14,.x 15] (by kernel_rfl) (by kernel_rfl) ?_
   conv=>whnf
   refine⟨by simp[hrl],⟨by omega,by omega⟩,?_⟩
   conv=>whnf
   refine⟨.slice auk xk.length cuk,by simpa using huk,?_⟩
   conv=>whnf
   refine⟨by simp[hrl],⟨by omega,by omega⟩,?_⟩
   conv=>whnf
   refine⟨.slice aur xr.length cur,by simpa using hur,?_⟩
   conv=>whnf
   refine⟨by simp[hrl],⟨by omega,by omega⟩,?_⟩
   conv=>whnf
   refine⟨by simp[hrl];omega,rv.set pv.length (.slice auk xk.length cuk),by rw[Int.toNat_natCast,Nat.mul_one];exact set_take_drop (by simp[hrl];omega),?_⟩
   conv=>whnf
   refine⟨by simp[hrl],⟨by omega,by omega⟩,?_⟩
   conv=>whnf
   refine⟨by simp[hrl];omega,rv2,by rw[Int.toNat_natCast,Nat.mul_one,←hrv2];exact set_take_drop (by simp[hrl];omega),?_⟩
   conv=>whnf
   clear hRV huxk huxr hsw
   obtain⟨u2,x2,hu2,hx2,hux2⟩:=hRV2.get (i:=pv.length) (by omega)
   have hx2l:=hLen2 x2 (List.mem_of_getElem? hx2)
   obtain⟨y2,hy2⟩:∃y,x2[c]? =some y:=⟨_,List.getElem?_eq_getElem (by omega)⟩
   have hat3:at2 (swapL [] M1 pv.length k) pv.length c=y2:=by simp[at2,List.getD,hx2,hy2]
   have hy20:y2≠0:=by rw[←hat3,hat2];exact hne
   have hgd:(swapL [] M1 pv.length k).getD pv.length []=x2:=by simp[List.getD,hx2]
   have hscl:scaled (swapL [] M1 pv.length k) pv.length c=(swapL [] M1 pv.length k).set pv.length (x2.map (· *(1 / y2))):=by rw[scaled,hgd,hat3]
   rw[hscl]at hstep hHt3
   have hb2:=hHt2.at hx2
   have hyb:=hb2 y2 (List.mem_of_getElem? hy2)
   have hinv:=rl_inv hy20
   have hl3:((swapL [] M1 pv.length k).set pv.length (x2.map (· *(1 / y2)))).length=M.length:=by rw[List.length_set,hl2]
   have hget3:((swapL [] M1 pv.length k).set pv.length (x2.map (· *(1 / y2))))[pv.length]? =some (x2.map (· *(1 / y2))):=List.getElem?_set_self (by omega)
   have hLen3:Len n ((swapL [] M1 pv.length k).set pv.length (x2.map (· *(1 / y2)))):=hLen2.set (by rw[List.length_map];exact hx2l)
   generalize swapL [] M1 pv.length k=M2 at*
   obtain⟨au2,cu2,rfl,hcu2,-⟩:=ListR.shape hux2
   obtain⟨ad2,cs2,had2,hF2,_,hlc2⟩:=ListR.load hux2 hy2
   obtain⟨q0,q1,q2,q3,q4,q5,q6,q7,rfl,hF2⟩:=hF2
   replace hrl:=hrl2
   refine drawn_of_pi hτ hmix [.x 1,.x 2,.x 3,.x 4,.x 5,.x 6,.x 7,.p 12,.x 0,.x 8,.x 9,.x 10,.x 11,.x 12,.x 13,.x 14] (by kernel_rfl) (by kernel_rfl) ?_
   conv=>whnf
   refine⟨by simp[hrl],⟨by omega,by omega⟩,?_⟩
   conv=>whnf
   refine⟨.slice au2 x2.length cu2,by simpa using hu2,?_⟩
   conv=>whnf
   refine⟨ad2,had2,⟨by omega,by omega⟩,?_⟩
   conv=>whnf
   refine⟨[.bool q0,.slice q1 q2 q3,.bool q4,.slice q5 q6 q7],rfl,fun ρ w' r i x hx=>?_,?_⟩
   ·obtain⟨k1,k2⟩:=hlc2 i x hx
    rw[Int.toNat_natCast,cell_of_heap (w:=wb1) (w2:=w') (by rw[addB,addB];exact Rel.same r hS k1)]
    exact k2
   conv=>whnf
   refine callE_con (Φ:=fun _ w' v w2=>RatC w2 (Nw (fun _=>False) w' w2) v (1:Rat)) (fun ρ w' r=>(show ((1:Int):Rat)=1 from rfl)▸rWholeAll_c 1 w' (by decide) (by decide)) ?_
   rintro ρ wa2 v2 wb2 r he hb hn
   replace hw:=hw.tr hb
   replace hRV2:=hRV2.past (iv':=(wa2.heap.size,wb2.heap.size)::iv1) r hS he fun x hx=>List.mem_cons_of_mem _ hx
   replace hux2:=RatsL.past (iv':=(wa2.heap.size,wb2.heap.size)::iv1) hux2 r hS he fun x hx=>List.mem_cons_of_mem _ hx
   replace hF2:=hF2.past (iv':=(wa2.heap.size,wb2.heap.size)::iv1) r hS he fun x hx=>List.mem_cons_of_mem _ hx
   have h_1:=hn.got (S:=fun _=>False) r.baseLe (iv:=(wa2.heap.size,wb2.heap.size)::iv1) List.mem_cons_self
   clear r he hb hn
   generalize (wa2.heap.size,wb2.heap.size)::iv1=iv2 at*
   obtain⟨s2_0,s2_1,s2_2,s2_3,s2_4,s2_5,s2_6,s2_7,rfl⟩:=h_1.shape
   conv=>whnf
   refine callE_con (Φ:=fun _ w' v w2=>∃q,v= .tuple #[q,.int .i64 0]∧RatC w2 (Nw (fun _=>False) w' w2) q (1 / y2)) (fun ρ w' r=>rQuoNon_c (Rel.old r hS) (((h_1.rel r (oldF w)).l (by rw[rl_one];decide)).weak fun g hg=>Cv.false hg) (hF2.rel r hS) hy20) ?_
   rintro ρ wa3 v3 wb3 r he hb ⟨q,rfl,k1⟩
   replace hw:=hw.tr hb
   replace hRV2:=hRV2.past (iv':=(wa3.heap.size,wb3.heap.size)::iv2) r hS he fun x hx=>List.mem_cons_of_mem _ hx
   replace hux2:=RatsL.past (iv':=(wa3.heap.size,wb3.heap.size)::iv2) hux2 r hS he fun x hx=>List.mem_cons_of_mem _ hx
   clear hF2
   clear h_1
   have hby:=k1.got (S:=fun _=>False) r.baseLe (iv:=(wa3.heap.size,wb3.heap.size)::iv2) List.mem_cons_self
   clear r he hb
   generalize (wa3.heap.size,wb3.heap.size)::iv2=iv3 at*
   obtain⟨s3_0a,s3_0b,s3_0c,s3_0d,s3_0e,s3_0f,s3_0g,s3_0h,rfl⟩:=hby.shape
   clear k1 hlc2
   conv=>whnf
   refine drawn_of_pi hτ hmix [.x 0,.x 1,.x 2,.x 3,.x 4,.x 5,.x 6,.x 7,.x 8,.x 9] (by kernel_rfl) (by kernel_rfl) ?_
   conv=>whnf
   refine⟨by simp[hrl],⟨by omega,by omega⟩,?_⟩
   conv=>whnf
   refine⟨.slice au2 x2.length cu2,by simpa using hu2,?_⟩
   conv=>whnf
   refine callE_con (Φ:=fun _ w' v w2=>RatsC w2 (Nw (fun _=>False) w' w2) v (x2.map (· *(1 / y2)))) (fun ρ w' r=>(plusF_nil x2 (1 / y2))▸rPlus_c (Rel.old r hS) (RatsL.nil w' _) (RatsL.rel hux2 r hS) (((hby.rel r (oldF w)).l (by omega)).weak fun g hg=>Cv.false hg) (.inl rfl) (by omega) (fun y hy=>by have:=hb2 y hy;omega)) ?_
   rintro ρ wa4 v4 wb4 r he hb hn
   replace hw:=hw.tr hb
   replace hRV2:=hRV2.past (iv':=(wa4.heap.size,wb4.heap.size)::iv3) r hS he fun x hx=>List.mem_cons_of_mem _ hx
   clear hux2
   clear hby
   have hx3:=RatsC.got (S:=fun _=>False) hn r.baseLe (iv:=(wa4.heap.size,wb4.heap.size)::iv3) List.mem_cons_self
   clear r he hb
   generalize (wa4.heap.size,wb4.heap.size)::iv3=iv4 at*
   clear hn
   obtain⟨a3,c3,rfl,hc3,-⟩:=ListR.shape hx3
   have hRV3:=hRV2.set (i:=pv.length) (u:=.slice a3 (x2.map (· *(1 / y2))).length c3) rfl (RatsL.weak (RatsC.l hx3 fun q hq=>by have:=hHt3.1 _ hget3 q hq;omega) fun g hg=>Cv.false hg)
   clear hx3 hRV2
   obtain⟨rv3,hrv3⟩:∃rv3,rv3=rv2.set pv.length (.slice a3 (x2.map (· *(1 / y2))).length c3):=⟨_,rfl⟩
   rw[←hrv3]at hRV3
   generalize x2.map (· *(1 / y2))=x3 at*
   generalize hM3:M2.set pv.length x3=M3 at*
   conv=>whnf
   refine⟨by simp[hrl],⟨by omega,by omega⟩,?_⟩
   conv=>whnf
   refine⟨by simp[hrl];omega,rv3,by rw[Int.toNat_natCast,Nat.mul_one,hrv3];exact set_take_drop (by simp[hrl];omega),?_⟩
   conv=>whnf
   have hrl3:rv3.length=M.length:=by rw[hRV3.1,hl3]
   refine⟨Nat×List Value×World×Iv,fun z=>⟨[(1,.o (.v (.int .i64 cols))),(6,.o (.w 0 M.length)),(7,.o (.w 1 pv.length)),(8,.o (.v (.int .i64 ((c:Nat):Int)))),(9,.o (.v (.int .i64 ((pv.length:Nat):Int)))),(13,.o (.v (.int .i64 ((z.1:Nat):Int))))],[(1,.vec T.int 1 (pv.map fun c:Nat=>.int .i64 (c:Int))),(0,.vec T.LRat 1 z.2.1)],2,z.2.2.2,z.2.2.1⟩,fun z=>M.length-z.1,
    fun z=>z.1≤M.length∧Bel w.heap.size w z.2.2.1∧RowsV z.2.2.1 (Cv S w.heap.size z.2.2.2) z.2.1 (clearTo M3 pv.length c z.1),?_,?_⟩
   ·intro ρ w' r
    exact⟨(0,rv3,w',iv4),⟨Nat.zero_le _,hw.tr r.bel,by dsimp only;rw[clearTo_zero];exact hRV3.rel r hS⟩,Sub.gen [] r ⟨rfl,rfl,trivial⟩ ⟨rfl,rfl,rfl,rfl,rfl,rfl,trivial⟩ (by simp[ScH,Blk.scopd]) (by simp[ScE,SV.sc,At.sc]) (by rfl) (fun lo hi h=>h)⟩
   clear hw hRV3 hrv3 hrl3 hu2 hrv2 hrl2 hrl
   rintro⟨i,rv,w4,iv⟩ ⟨hi,hw,hRV⟩
   dsimp only at hi hw hRV ⊢
   have hrl:rv.length=M.length:=by rw[hRV.1,clearTo_length,hl3]
   conv=>whnf
   refine⟨by rw[hrl,Nat.zero_add,Nat.mul_one],?_⟩
   conv=>whnf
   refine BrS.mk (fun hiR=>?_) (fun hiR=>?_)
   ·have hiR:i<M.length:=by have:=of_decide_eq_true hiR;omega
    conv=>whnf
    refine BrS.mk (fun hir=>?_) (fun hir=>?_)
    ·have hir:i≠pv.length:=fun e=>by rw[e]at hir;simp at hir
     obtain⟨u4,x4,hu4,hx4,hux4⟩:=hRV.get (i:=i) (by rw[clearTo_length];omega)
     obtain⟨u5,x5,hu5,hx5,hux5⟩:=hRV.get (i:=pv.length) (by rw[clearTo_length];omega)
     rw[clearTo_ge _ _ _ _ _ (Nat.le_refl _)]at hx4
     rw[clearTo_at]at hx5
     have hx4l:=hLen3 x4 (List.mem_of_getElem? hx4)
     have hx5l:=hLen3 x5 (List.mem_of_getElem? hx5)
     obtain⟨y4,hy4⟩:∃y,x4[c]? =some y:=⟨_,List.getElem?_eq_getElem (by omega)⟩
     have hy4d:x4.getD c 0=y4:=by simp[List.getD,hy4]
     have hx5d:M3.getD pv.length []=x5:=by simp[List.getD,hx5]
     have hb4:=hHt3.2 i x4 hir hx4
     have hb5:=hHt3.1 x5 hx5
     have hyb4:=hb4 y4 (List.mem_of_getElem? hy4)
     have hrn:=rl_neg y4
     obtain⟨au4,cu4,rfl,hcu4,-⟩:=ListR.shape hux4
     obtain⟨au5,cu5,rfl,hcu5,-⟩:=ListR.shape hux5
     obtain⟨ad4,cs4,had4,hF4,_,hlc4⟩:=ListR.load hux4 hy4
     obtain⟨e0,e1,e2,e3,e4,e5,e6,e7,rfl,hF4⟩:=hF4
     conv=>whnf
     refine⟨by simp[hrl],⟨by omega,by omega⟩,?_⟩
     conv=>whnf
     refine⟨.slice au4 x4.length cu4,by simpa using hu4,?_⟩
     conv=>whnf
     refine⟨ad4,had4,⟨by omega,by omega⟩,?_⟩
     conv=>whnf
     refine⟨[.bool e0,.slice e1 e2 e3,.bool e4,.slice e5 e6 e7],rfl,fun ρ w' r i x hx=>?_,?_⟩
     ·obtain⟨k1,k2⟩:=hlc4 i x hx
      rw[Int.toNat_natCast,cell_of_heap (w:=w4) (w2:=w') (by rw[addB,addB];exact Rel.same r hS k1)]
      exact k2
     conv=>whnf
     clear hlc4
     refine callE_S (callE_con (Φ:=fun _ w' v w2=>v= .int .i64 (rs y4)) (fun ρ w' r=>rSignOfL_c (Rel.old r hS) (hF4.rel r hS)) ?_)
     rintro ρ wa5 v5 wb5 r he hb rfl
     replace hw:=hw.tr hb
     replace hRV:=hRV.past (iv':=(wa5.heap.size,wb5.heap.size)::iv) r hS he fun x hx=>List.mem_cons_of_mem _ hx
     replace hux4:=RatsL.past (iv':=(wa5.heap.size,wb5.heap.size)::iv) hux4 r hS he fun x hx=>List.mem_cons_of_mem _ hx
     replace hux5:=RatsL.past (iv':=(wa5.heap.size,wb5.heap.size)::iv) hux5 r hS he fun x hx=>List.mem_cons_of_mem _ hx
     clear hF4
     clear r he hb
     generalize (wa5.heap.size,wb5.heap.size)::iv=iv5 at*
     conv=>whnf
     refine BrS.mk (fun hs4=>?_) (fun hs4=>?_)
     ·have hs4:y4≠0:=fun e=>by rw[e]at hs4;exact absurd hs4 (by decide)
      obtain⟨ad6,cs6,had6,hF6,_,hlc6⟩:=ListR.load hux4 hy4
      obtain⟨f0,f1,f2',f3,f4,f5,f6,f7,rfl,hF6⟩:=hF6
      conv=>whnf
      refine drawn_of_pi hτ hmix [.x 0,.x 1,.x 2,.x 3,.x 4,.x 5,.x 6,.x 7,.x 8,.x 9,.x 10,.x 11,.x 12,.x 13,.x 14,.x 15,.x 16,.x 17,.x 18,.x 19,.x 20] (by kernel_rfl) (by kernel_rfl) ?_
      conv=>whnf
      refine⟨by simp[hrl],⟨by omega,by omega⟩,?_⟩
      conv=>whnf
      refine⟨.slice au4 x4.length cu4,by simpa using hu4,?_⟩
      conv=>whnf
      refine⟨by simp[hrl],⟨by omega,by omega⟩,?_⟩
      conv=>whnf
      refine⟨.slice au5 x5.length cu5,by simpa using hu5,?_⟩
      conv=>whnf
      refine⟨by simp[hrl],⟨by omega,by omega⟩,?_⟩
      conv=>whnf
      refine⟨.slice au4 x4.length cu4,by simpa using hu4,?_⟩
      conv=>whnf
      refine⟨ad6,had6,⟨by omega,by omega⟩,?_⟩
      conv=>whnf
      refine⟨[.bool f0,.slice f1 f2' f3,.bool f4,.slice f5 f6 f7],rfl,fun ρ w' r i x hx=>?_,?_⟩
      ·obtain⟨k1,k2⟩:=hlc6 i x hx
       rw[Int.toNat_natCast,cell_of_heap (w:=wb5) (w2:=w') (by rw[addB,addB];exact Rel.same r hS k1)]
       exact k2
      conv=>whnf
      clear hlc6
      refine callE_con (Φ:=fun _ w' v w2=>RatC w2 (Nw (fun _=>False) w' w2) v (-y4)) (fun ρ w' r=>rNeg_c (Rel.old r hS) (hF6.rel r hS)) ?_
      rintro ρ wa6 v6 wb6 r he hb hn
      replace hw:=hw.tr hb
      replace hRV:=hRV.past (iv':=(wa6.heap.size,wb6.heap.size)::iv5) r hS he fun x hx=>List.mem_cons_of_mem _ hx
      replace hux4:=RatsL.past (iv':=(wa6.heap.size,wb6.heap.size)::iv5) hux4 r hS he fun x hx=>List.mem_cons_of_mem _ hx
      replace hux5:=RatsL.past (iv':=(wa6.heap.size,wb6.heap.size)::iv5) hux5 r hS he fun x hx=>List.mem_cons_of_mem _ hx
      clear hF6
      have hng:=hn.got (S:=fun _=>False) r.baseLe (iv:=(wa6.heap.size,wb6.heap.size)::iv5) List.mem_cons_self
      clear r he hb hn
      generalize (wa6.heap.size,wb6.heap.size)::iv5=iv6 at*
      obtain⟨s6_0,s6_1,s6_2,s6_3,s6_4,s6_5,s6_6,s6_7,rfl⟩:=hng.shape
      conv=>whnf
      refine callE_con (Φ:=fun _ w' v w2=>RatsC w2 (Nw (fun _=>False) w' w2) v (plusF x4 x5 (-y4))) (fun ρ w' r=>rPlus_c (Rel.old r hS) (RatsL.rel hux4 r hS) (RatsL.rel hux5 r hS) (((hng.rel r (oldF w)).l (by omega)).weak fun g hg=>Cv.false hg) (.inr (by omega)) (by omega) (fun y hy=>by have:=hb5 y hy;omega)) ?_
      rintro ρ wa7 v7 wb7 r he hb hn
      replace hw:=hw.tr hb
      replace hRV:=hRV.past (iv':=(wa7.heap.size,wb7.heap.size)::iv6) r hS he fun x hx=>List.mem_cons_of_mem _ hx
      clear hux4
      clear hux5
      clear hng
      have hx7:=RatsC.got (S:=fun _=>False) hn r.baseLe (iv:=(wa7.heap.size,wb7.heap.size)::iv6) List.mem_cons_self
      clear r he hb
      generalize (wa7.heap.size,wb7.heap.size)::iv6=iv7 at*
      clear hn
      obtain⟨a7,c7,rfl,hc7,-⟩:=ListR.shape hx7
      have hnew:(clearTo M3 pv.length c i).set i (plusF x4 x5 (-y4))=clearTo M3 pv.length c (i+1):=by
       rw[←clearTo_succ hx4 hir,hy4d,hx5d,plusF_addR _ (by omega)]
      have hrow7:(clearTo M3 pv.length c (i+1))[i]? =some (plusF x4 x5 (-y4)):=by rw[←hnew];exact List.getElem?_set_self (by rw[clearTo_length];omega)
      have hb7:=(Ht.cleared (i:=i+1) hHt3.1 hHt3.2 hh2).at hrow7
      replace hRV:=hRV.set (i:=i) (u:=.slice a7 (plusF x4 x5 (-y4)).length c7) rfl (RatsL.weak (RatsC.l hx7 fun q hq=>by have:=hb7 q hq;omega) fun g hg=>Cv.false hg)
      rw[hnew]at hRV
      clear hx7
      conv=>whnf
      refine⟨by simp[hrl],⟨by omega,by omega⟩,?_⟩
      conv=>whnf
      refine⟨by simp[hrl];omega,rv.set i (.slice a7 (plusF x4 x5 (-y4)).length c7),by rw[Int.toNat_natCast,Nat.mul_one];exact set_take_drop (by omega),?_⟩
      conv=>whnf
      refine⟨((i+1:Nat):Int),by rw[wrap64]<;>omega,?_⟩
      conv=>whnf
      intro ρ3 w3 r3
      exact⟨(i+1,rv.set i (.slice a7 (plusF x4 x5 (-y4)).length c7),w3,_),⟨hiR,hw.tr r3.bel,by dsimp only;rw[show i+1=i+1 from rfl];exact hRV.rel r3 hS⟩,Sub.gen [] r3 ⟨rfl,rfl,trivial⟩ ⟨rfl,rfl,rfl,rfl,rfl,rfl,trivial⟩ (by simp[ScH,Blk.scopd]) (by simp[ScE,SV.sc,At.sc]) (by rfl) (fun lo hi h=>h),by dsimp only;omega⟩
     have hs4:y4=0:=rs_zero.1 (by simpa using hs4)
     clear hux4 hux5
     conv=>whnf
     refine⟨((i+1:Nat):Int),by rw[wrap64]<;>omega,?_⟩
     conv=>whnf
     intro ρ3 w3 r3
     exact⟨(i+1,rv,w3,_),⟨hiR,hw.tr r3.bel,by dsimp only;rw[clearTo_same hx4 (by rw[hy4d,hs4])];exact hRV.rel r3 hS⟩,Sub.gen [] r3 ⟨rfl,rfl,trivial⟩ ⟨rfl,rfl,rfl,rfl,rfl,rfl,trivial⟩ (by simp[ScH,Blk.scopd]) (by simp[ScE,SV.sc,At.sc]) (by rfl) (fun lo hi h=>h),by dsimp only;omega⟩
    have hir1:(i:Int)=pv.length:=by simpa using hir
    have hir:i=pv.length:=by omega
    conv=>whnf
    refine⟨((i+1:Nat):Int),by rw[wrap64]<;>omega,?_⟩
    conv=>whnf
    intro ρ3 w3 r3
    exact⟨(i+1,rv,w3,_),⟨hiR,hw.tr r3.bel,by dsimp only;rw[show clearTo M3 pv.length c (i+1)=clearTo M3 pv.length c i by rw[hir,←clearTo_skip]];exact hRV.rel r3 hS⟩,Sub.gen [] r3 ⟨rfl,rfl,trivial⟩ ⟨rfl,rfl,rfl,rfl,rfl,rfl,trivial⟩ (by simp[ScH,Blk.scopd]) (by simp[ScE,SV.sc,At.sc]) (by rfl) (fun lo hi h=>h),by dsimp only;omega⟩
   have hiR:i=M.length:=by have:=of_decide_eq_false hiR;omega
   subst hiR
   conv=>whnf
   refine .inl ?_
   conv=>whnf
   refine⟨by simp,by omega,by unfold maxLen;omega,?_⟩
   conv=>whnf
   have hpm:(pv++[c]).map (fun c:Nat=>Value.int .i64 (c:Int))=pv.map (fun c:Nat=>Value.int .i64 (c:Int))++[.int .i64 (c:Int)]:=by simp
   rw[hI1]at hstep
   refine⟨((c+1:Nat):Int),by rw[wrap64]<;>omega,?_⟩
   conv=>whnf
   intro ρ3 w3 r3
   have hs:stepF (M1,pv) c=((clearTo M3 pv.length c M.length),(pv++[c])):=hstep
   have hf2:((clearTo M3 pv.length c M.length),(pv++[c]))=(List.range (c+1)).foldl stepF (M,[]):=by rw[List.range_succ,List.foldl_append,←hfold];exact hs.symm
   have hi2:=Inv.step (show Inv M cols h0 (M1,pv)from⟨hI1,hI2,hI3,hI4⟩) hib h2
   have hl2:=Len.step (s:=(M1,pv)) (c:=c) hLen
   rw[hs]at hi2 hl2
   exact⟨(c+1,rv,(clearTo M3 pv.length c M.length),(pv++[c]),w3,_),⟨hib,hf2,hl2,hi2,hw.tr r3.bel,hRV.rel r3 hS⟩,Sub.gen [(1,3)] r3 ⟨by dsimp only;rw[hpm];rfl,rfl,trivial⟩ ⟨rfl,rfl,by dsimp only;rw[List.length_append,List.length_singleton];rfl,rfl,trivial⟩ (by simp[ScH,Blk.scopd]) (by simp[ScE,SV.sc,At.sc]) (by rfl) (fun lo hi h=>h),by dsimp only;omega⟩
  have hkb:k=M.length:=by have:=of_decide_eq_false hkb;omega
  conv=>whnf
  refine⟨by rw[hrl,Nat.zero_add,Nat.mul_one],?_⟩
  conv=>whnf
  refine BrS.mk (fun _=>?_) (fun hge=>absurd (of_decide_eq_false hge) (by omega))
  conv=>whnf
  refine⟨((c+1:Nat):Int),by rw[wrap64]<;>omega,?_⟩
  conv=>whnf
  intro ρ3 w3 r3
  have hs:stepF (M1,pv) c=(M1,pv):=stepF_end hk0 (by show k=M1.length;omega) hkz
  have hf2:(M1,pv)=(List.range (c+1)).foldl stepF (M,[]):=by rw[List.range_succ,List.foldl_append,←hfold];exact hs.symm
  have hi2:=Inv.step (show Inv M cols h0 (M1,pv)from⟨hI1,hI2,hI3,hI4⟩) hib h2
  have hl2:=Len.step (s:=(M1,pv)) (c:=c) hLen
  rw[hs]at hi2 hl2
  exact⟨(c+1,rv,M1,pv,w3,_),⟨hib,hf2,hl2,hi2,hw.tr r3.bel,hRV.rel r3 hS⟩,Sub.gen [] r3 ⟨rfl,rfl,trivial⟩ ⟨rfl,rfl,rfl,rfl,trivial⟩ (by simp[ScH,Blk.scopd]) (by simp[ScE,SV.sc,At.sc]) (by rfl) (fun lo hi h=>h),by dsimp only;omega⟩
 have hib:c=cols:=Nat.le_antisymm hc (by simpa using hib)
 subst hib
 have hred:reduceF M c=(M1,pv):=hfold.symm
 rw[hred]
 conv=>whnf
 intro ρe we re
 refine⟨_,rfl,hw.tr re.bel,_,_,rfl,⟨rv,?_,hRV.1,fun i u x h1 h2=>RatsL.out (hRV.2.2 i u x h1 h2) re hS⟩,?_⟩
 ·have:=re.vecSeq (id:=0) (sz:=1) (m:=M.length) rfl (by rw[hrl,Nat.mul_one]) (by unfold maxLen;omega) (by decide) hRV.2.1
  rw[show (M1,pv).1.length=M.length from hI1]
  exact this.weak fun g hg=>.inr hg
 ·have:=re.vecSeq (id:=1) (sz:=1) (m:=pv.length) rfl (by simp) (by unfold maxLen;omega) (by decide) (fun u hu=>by
   obtain⟨_,_,rfl⟩:=List.mem_map.1 hu
   rfl)
  exact this.weak fun g hg=>.inr hg
end Go.Ex

/- Columns and CheckMatrix of the reference; Rank and Kernel of package exact. Printed by program. No condition but sizes. -/
namespace Go.Ex
open Go Go.Sx Go.Proofs

theorem rColumns_c{S:Nat→Prop}{w:World}{v:Value}{M:List (List (Int×Int))}(hS:Old S w)(h:RatMR w S v M):Con PG N.ref01_Columns #[v] w (Ret w fun v' _=>v'= .int .i64 (colsM M)):=by
 have hn:=h
 obtain⟨a,c,rfl,hc,hm⟩:=SlicesR.shape h
 refine in_ref01_Columns (by simp) ?_
 cases M with
 |nil=>
  conv=>whnf
  intro ρe we re
  exact⟨_,rfl,re.bel,rfl⟩
 |cons r t=>
  obtain⟨ad,u,rfl,hu,h1,h2⟩:=SlicesR.load h (j:=0) (x:=r) rfl
  obtain⟨a2,c2,rfl⟩:=SlicesR.rowShape hu
  conv=>whnf
  refine⟨ad,rfl,⟨by omega,by simp⟩,?_⟩
  conv=>whnf
  refine⟨.slice a2 r.length c2,fun ρ w' r'=>by simpa using cellS hS Bel.refl r' h1 (by simpa using h2),?_⟩
  conv=>whnf
  intro ρe we re
  exact⟨_,rfl,re.bel,rfl⟩
theorem colsM_get{α:Type}{M:List (List α)}{r:List α}(h:M[0]? =some r):colsM M=r.length:=by
 cases M with
 |nil=>cases h
 |cons x t=>injection h with h;rw[←h];rfl
theorem rCheckMatrix_c{S:Nat→Prop}{w:World}{v:Value}{M:List (List (Int×Int))}(hS:Old S w)(h:RatMR w S v M):Con PG N.ref01_CheckMatrix #[v] w (Ret w fun v' _=>v'= .int .i64 (errM M)):=by
 have hw:Bel w.heap.size w w:=Bel.refl
 obtain⟨a,c,rfl,hc,hm⟩:=SlicesR.shape h
 unfold maxLen at hm
 refine in_ref01_CheckMatrix (by simp) ?_
 conv=>whnf
 refine⟨Nat×World,fun z=>⟨[(0,.o (.v (.slice a M.length c))),(3,.o (.v (.int .i64 ((z.1:Nat):Int))))],[],0,[],z.2⟩,fun z=>M.length-z.1,
  fun z=>z.1≤M.length∧Bel w.heap.size w z.2∧∀(j:Nat) r,j<z.1→M[j]? =some r→r.length=colsM M,?_,?_⟩
 ·intro ρ w' r
  exact⟨(0,w'),⟨by simp,r.bel,fun j r hj=>by dsimp only at hj;omega⟩,Sub.gen [] r trivial ⟨rfl,rfl,trivial⟩ (by simp[ScH]) (by simp[ScE,SV.sc,At.sc]) (by rfl) (by simp)⟩
 clear hw
 rintro⟨i,w1⟩ ⟨hi,hw,hrow⟩
 dsimp only at hi hw hrow ⊢
 conv=>whnf
 refine BrS.mk (fun hib=>?_) (fun hib=>?_)
 ·have hib:i<M.length:=by simpa using hib
  obtain⟨r,hr⟩:∃r,M[i]? =some r:=⟨_,List.getElem?_eq_getElem hib⟩
  obtain⟨r0,hr0⟩:∃r,M[0]? =some r:=⟨_,List.getElem?_eq_getElem (by omega)⟩
  have hc0:=colsM_get hr0
  obtain⟨ad,u,ha,hu,h1,h2⟩:=SlicesR.load h hr
  obtain⟨ad2,u2,ha2,hu2,h3,h4⟩:=SlicesR.load h hr0
  obtain⟨a2,c2,rfl⟩:=SlicesR.rowShape hu
  obtain⟨a3,c3,rfl⟩:=SlicesR.rowShape hu2
  conv=>whnf
  refine drawn_of_pi hτ hmix [.x 0,.x 1,.x 2,.x 3,.x 4,.x 5,.x 6,.x 7,.x 8,.x 9] (by kernel_rfl) (by kernel_rfl) ?_
  conv=>whnf
  refine⟨ad,ha,⟨by omega,by omega⟩,?_⟩
  conv=>whnf
  refine⟨.slice a2 r.length c2,fun ρ w' r'=>by rw[Int.toNat_natCast];exact cellS hS hw r' h1 h2,?_⟩
  conv=>whnf
  refine⟨ad2,ha2,⟨by omega,by omega⟩,?_⟩
  conv=>whnf
  refine⟨.slice a3 r0.length c3,fun ρ w' r'=>cellS hS hw r' h3 h4,?_⟩
  conv=>whnf
  refine BrS.mk (fun hne=>?_) (fun hne=>?_)
  ·have hne:r.length≠colsM M:=fun e=>by rw[hc0]at e;rw[e]at hne;simp at hne
   conv=>whnf
   intro ρe we re
   exact⟨_,rfl,hw.tr re.bel,by rw[errM,if_neg (fun hall=>hne (hall r (List.mem_of_getElem? hr)))];rfl⟩
  have heq:r.length=colsM M:=by
   have h5:((r.length:Int)==(r0.length:Int))=true:=by simpa using hne
   have:=eq_of_beq h5
   omega
  conv=>whnf
  refine⟨((i+1:Nat):Int),by rw[wrap64]<;>omega,?_⟩
  conv=>whnf
  intro ρ3 w3 r3
  refine⟨(i+1,w3),⟨hib,hw.tr r3.bel,fun j r' hj hr'=>?_⟩,Sub.gen [] r3 trivial ⟨rfl,rfl,trivial⟩ (by simp[ScH]) (by simp[ScE,SV.sc,At.sc]) (by rfl) (fun lo hi h=>h),by dsimp only;omega⟩
  by_cases hji:j=i
  ·subst hji;rw[hr]at hr';injection hr' with hr';rw[←hr'];exact heq
  ·exact hrow j r' (by dsimp only at hj;omega) hr'
 have hib:i=M.length:=Nat.le_antisymm hi (by simpa using hib)
 have hall:∀r∈M,r.length=colsM M:=fun r hr=>by
  obtain⟨j,hj⟩:=List.getElem?_of_mem hr
  exact hrow j r (by rw[hib];exact(List.getElem?_eq_some_iff.1 hj).1) hj
 have herr:errM M=if 60<M.length∨60<colsM M then 8 else 0:=by rw[errM,if_pos hall]
 replace h:=RatMR.keep h fun g hg=>hw.block g (hS g hg)
 replace h:=RatMR.weak (S':=Cv S w.heap.size []) h fun _ h=>.inl h
 conv=>whnf
 refine BrS.mk (fun h1=>?_) (fun h1=>?_)
 ·have h1:60<M.length:=by have:=of_decide_eq_true h1;omega
  conv=>whnf
  intro ρe we re
  exact⟨_,rfl,hw.tr re.bel,by rw[herr,if_pos (.inl h1)];rfl⟩
 have h1:¬60<M.length:=by have:=of_decide_eq_false h1;omega
 conv=>whnf
 refine callE_S (callE_con (Φ:=fun _ _ v _=>v= .int .i64 (colsM M)) (fun ρ w' r=>rColumns_c (Rel.old r hS) (RatMR.rel h r hS)) ?_)
 rintro ρ wa v1 wb r' he hb rfl
 replace hw:=hw.tr hb
 clear r' he hb h
 conv=>whnf
 refine BrS.mk (fun h2=>?_) (fun h2=>?_)
 ·have h2:60<colsM M:=by have:=of_decide_eq_true h2;omega
  conv=>whnf
  intro ρe we re
  exact⟨_,rfl,hw.tr re.bel,by rw[herr,if_pos (.inr h2)];rfl⟩
 have h2:¬60<colsM M:=by have:=of_decide_eq_false h2;omega
 conv=>whnf
 intro ρe we re
 exact⟨_,rfl,hw.tr re.bel,by rw[herr,if_neg (by omega)];rfl⟩
theorem errM_zero{M:List (List (Int×Int))}(h:errM M=0):(∀r∈M,r.length=colsM M)∧M.length≤60∧colsM M≤60:=by
 unfold errM at h
 split at h
 ·split at h
  ·cases h
  ·exact⟨‹_›,by omega,by omega⟩
 ·cases h
end Go.Ex

/- Rows of api fractions in normal form that are held raw, and written. No condition but sizes. -/
namespace Go.Ex
open Go Go.Sx Go.Proofs

theorem Rat4C.len{S:Nat→Prop}{w:World}{cs:List Value}{q:Rat}(h:Rat4C w S cs q):cs.length=4:=by obtain⟨_,_,_,_,_,_,_,_,rfl,_⟩:=h;rfl
def Fc(w:World)(S:Nat→Prop)(css:List (List Value))(qs:List Rat):Prop:=css.length=qs.length∧∀(j:Nat) cs q,css[j]? =some cs→qs[j]? =some q→Rat4C w S cs q
section
variable{S S':Nat→Prop}{w w2:World}{cs:List Value}{css:List (List Value)}{q:Rat}{qs:List Rat}
theorem Fc.keep(h:Fc w S css qs)(hk:∀g,S g→w2.heap[g]? =w.heap[g]?):Fc w2 S css qs:=⟨h.1,fun j cs q h1 h2=>(h.2 j cs q h1 h2).keep hk⟩
theorem Fc.weak(h:Fc w S css qs)(hk:∀g,S g→S' g):Fc w S' css qs:=⟨h.1,fun j cs q h1 h2=>(h.2 j cs q h1 h2).weak hk⟩
theorem Fc.len4(h:Fc w S css qs):∀cs∈css,cs.length=4:=fun cs hc=>by
 obtain⟨j,hj⟩:=List.getElem?_of_mem hc
 have hl:=(List.getElem?_eq_some_iff.1 hj).1
 exact(h.2 j cs _ hj (List.getElem?_eq_getElem (by rw[←h.1];exact hl))).len
theorem Fc.one(h:Fc w S css qs):∀u∈css.flatten,u.oneCell'=true:=fun u hu=>by
 obtain⟨cs,hc,hu⟩:=List.mem_flatten.1 hu
 obtain⟨j,hj⟩:=List.getElem?_of_mem hc
 have hl:=(List.getElem?_eq_some_iff.1 hj).1
 obtain⟨_,_,_,_,_,_,_,_,rfl,_⟩:=h.2 j cs _ hj (List.getElem?_eq_getElem (by rw[←h.1];exact hl))
 simp at hu
 rcases hu with rfl|rfl|rfl|rfl<;>rfl
theorem Fc.set(h:Fc w S css qs){j:Nat}(hq:Rat4C w S cs q):Fc w S (css.set j cs) (qs.set j q):=by
 refine⟨by simp[h.1],fun i c p h1 h2=>?_⟩
 by_cases hij:j=i
 ·subst hij
  have hl:=(List.getElem?_eq_some_iff.1 h1).1
  rw[List.getElem?_set_self (by simpa using hl)]at h1
  rw[List.getElem?_set_self (by have:=h.1;simp at hl;omega)]at h2
  injection h1 with h1;injection h2 with h2
  subst h1 h2
  exact hq
 ·rw[List.getElem?_set_ne hij]at h1 h2
  exact h.2 i c p h1 h2
end
def RowRc(w:World)(C S:Nat→Prop)(v:Value)(qs:List Rat):Prop:=∃css,SeqR w C 4 v css.flatten qs.length∧Fc w S css qs
section
variable{C C' S S':Nat→Prop}{H:Hp}{nx:Nat}{iv iv':Iv}{B:Nat}{w w' w2:World}{ρ:Nat→Sx.Val}{v:Value}{qs:List Rat}
theorem RowRc.weak(h:RowRc w C S v qs)(hk:∀g,C g→C' g)(hk2:∀g,S g→S' g):RowRc w C' S' v qs:=by
 obtain⟨css,h1,h2⟩:=h;exact⟨css,h1.weak hk,h2.weak hk2⟩
end
/-- a row that may be written: its limbs lie in S -/
def RowWc(w:World)(S:Nat→Prop)(v:Value)(n:Nat)(qs:List Rat):Prop:=∃css,w.ownsRow 0 T.Rat 4 v n css.flatten∧css.length=n∧Fc w S css qs
section
variable{S S' C:Nat→Prop}{H:Hp}{nx n:Nat}{iv iv':Iv}{B:Nat}{w w' w2:World}{ρ:Nat→Sx.Val}{v:Value}{qs:List Rat}
theorem RowWc.keep(h:RowWc w S v n qs)(hk:∀g,S g∨v.ownBlock=some g→w2.heap[g]? =w.heap[g]?):RowWc w2 S v n qs:=by
 obtain⟨css,h1,h2,h3⟩:=h
 exact⟨css,ownsRow.keep h1 fun g hg=>hk g (.inr hg),h2,h3.keep fun g hg=>hk g (.inl hg)⟩
theorem RowWc.weak(h:RowWc w S v n qs)(hk:∀g,S g→S' g):RowWc w S' v n qs:=by
 obtain⟨css,h1,h2,h3⟩:=h
 exact⟨css,h1,h2,h3.weak hk⟩
theorem RowWc.len(h:RowWc w S v n qs):qs.length=n:=by
 obtain⟨css,h1,h2,h3⟩:=h
 rw[←h3.1,h2]
theorem RowWc.le(h:RowWc w S v n qs):n≤maxLen:=by
 obtain⟨css,h1,h2,h3⟩:=h
 rcases h1.2 with⟨_,h0⟩|⟨_,_,_,_,_,_,h1,h2,_⟩
 ·omega
 ·omega
theorem RowWc.read(h:RowWc w S v n qs):RowRc w (fun g=>v.ownBlock=some g) S v qs:=by
 have hl:=h.len
 have hn:=h.le
 obtain⟨css,h1,h2,h3⟩:=h
 refine⟨css,?_,h3⟩
 rw[hl]
 rcases h1.2 with⟨rfl,rfl⟩|⟨g,cap,cur,rfl,hb,hc,hmc,hcap,hsz,htake⟩
 ·refine⟨hn,h1.1,h3.one,none,0,rfl,Nat.le_refl _,fun j u hu=>?_⟩
  have:=h1.1
  rw[Nat.zero_mul]at this
  rw[List.eq_nil_of_length_eq_zero this]at hu
  cases hu
 ·refine⟨hn,h1.1,h3.one,_,cap,rfl,hmc,fun j u hu=>⟨_,rfl,rfl,?_⟩⟩
  exact h1.cells (g:=g) rfl j u hu
/-- an element is stored -/
theorem RowWc.store{a a1 a2:Option Addr}{c j n1 c1 n2 c2:Nat}{b b2:Bool}{q:Rat}(h:RowWc w S (.slice a n c) n qs)(hj:j<n)(hf:RatC w S (.agg #[.bool b,.slice a1 n1 c1,.bool b2,.slice a2 n2 c2]) q)(hoff:∀g,(Value.slice a n c).ownBlock=some g→¬S g)(hS:Old S w):
  ∃g,a=some ⟨g,0,none⟩∧((⟨g,0,none⟩:Addr).add ((j:Int).toNat*4)).spot=none∧((⟨g,0,none⟩:Addr).add ((j:Int).toNat*4)).block=g∧
   (∀k,k<4→(w.cell? (((⟨g,0,none⟩:Addr).add ((j:Int).toNat*4)).add k)).isSome=true∧w.frozen? (((⟨g,0,none⟩:Addr).add ((j:Int).toNat*4)).add k)=false)∧
   ∀w2,w2=setCells w ((⟨g,0,none⟩:Addr).add ((j:Int).toNat*4)) [.bool b,.slice a1 n1 c1,.bool b2,.slice a2 n2 c2]→RowWc w2 S (.slice a n c) n (qs.set j q)∧w.grownBy w2 (some g)∧w2.heap.size=w.heap.size:=by
 obtain⟨css,h1,h2,h3⟩:=h
 obtain⟨g,rfl,hok,hst,hgr,hsz⟩:=storeRow (nv:=[.bool b,.slice a1 n1 c1,.bool b2,.slice a2 n2 c2]) h1 rfl hj rfl (by decide)
 have had:(⟨g,0,none⟩:Addr).add ((j:Int).toNat*4)=⟨g,j*4,none⟩:=by rw[Int.toNat_natCast,addr_add,Nat.zero_add]
 refine⟨g,rfl,by rw[had],by rw[had],fun k hk=>by rw[had];exact hok k hk,fun w2 hw2=>?_⟩
 rw[had]at hw2
 subst hw2
 have hset:=flat_set (cs:=[.bool b,.slice a1 n1 c1,.bool b2,.slice a2 n2 c2]) h3.len4 (show j<css.length by omega)
 rw[hset]at hst
 have hkeep:∀x,S x→(setCells w ⟨g,j*4,none⟩ [.bool b,.slice a1 n1 c1,.bool b2,.slice a2 n2 c2]).heap[x]? =w.heap[x]? :=fun x hx=>
  hgr.block x (hS x hx) fun e=>hoff g rfl (by injection e with e;rw[←e];exact hx)
 exact⟨⟨_,hst,by simpa using h2,(h3.keep hkeep).set (hf.keep hkeep).fourC⟩,hgr,hsz⟩

/-- a row of a call's own making, which the caller may write: its block is new, its limbs lie elsewhere -/
structure RowXc(w:World)(S:Nat→Prop)(B:Nat)(iv:Iv)(v:Value)(n:Nat)(qs:List Rat):Prop where
 row:RowWc w (fun g=>Cv S B iv g∧v.ownBlock≠some g) v n qs
 new:∀g,v.ownBlock=some g→Cv (fun _=>False) B iv g
theorem RowXc.keep(h:RowXc w S B iv v n qs)(hk:∀g,Cv S B iv g→w2.heap[g]? =w.heap[g]?):RowXc w2 S B iv v n qs:=
 ⟨h.row.keep fun g hg=>hk g (hg.elim (fun h=>h.1) fun hg=>(h.new g hg).elim (fun h=>h.elim) .inr),h.new⟩
theorem RowXc.rel(h:RowXc w S B iv v n qs)(r:Rel H nx iv B w ρ w')(hS:∀g,S g→g<B):RowXc w' S B iv v n qs:=h.keep fun _ hg=>Rel.same r hS hg
theorem RowXc.past(h:RowXc w S B iv v n qs)(r:Rel H nx iv B w ρ w')(hS:∀g,S g→g<B)(he:Ext w' w2)(hm:∀p,p∈iv→p∈iv'):RowXc w2 S B iv' v n qs:=
 have h2:=(h.rel r hS).keep fun g hg=>he.block g (Rel.old r hS g hg)
 ⟨h2.row.weak fun _ hg=>⟨hg.1.mono hm,hg.2⟩,fun g hg=>(h2.new g hg).mono hm⟩
theorem RowXc.read(h:RowXc w S B iv v n qs):RowRc w (Cv S B iv) (Cv S B iv) v qs:=
 h.row.read.weak (fun g hg=>(h.new g hg).elim (fun h=>h.elim) .inr) fun _ hg=>hg.1
end
section
variable{S S':Nat→Prop}{H:Hp}{nx n:Nat}{iv iv':Iv}{B:Nat}{w w' w2:World}{ρ:Nat→Sx.Val}{v:Value}{qs:List Rat}
theorem RowXc.store{a a1 a2:Option Addr}{c j n1 c1 n2 c2:Nat}{b b2:Bool}{q:Rat}(h:RowXc w' S B iv (.slice a n c) n qs)(hj:j<n)(hf:RatC w' (fun g=>Cv S B iv g∧(Value.slice a n c).ownBlock≠some g) (.agg #[.bool b,.slice a1 n1 c1,.bool b2,.slice a2 n2 c2]) q)
  (r:Rel H nx iv B w ρ w') (hS:∀g,S g→g<B):
  ∃g,a=some ⟨g,0,none⟩∧((⟨g,0,none⟩:Addr).add ((j:Int).toNat*4)).spot=none∧
   (∀k,k<4→(w'.cell? (((⟨g,0,none⟩:Addr).add ((j:Int).toNat*4)).add k)).isSome=true∧w'.frozen? (((⟨g,0,none⟩:Addr).add ((j:Int).toNat*4)).add k)=false)∧
   (∀id b,getH H id=some b→(ρ id).nil=false→(ρ id).g≠((⟨g,0,none⟩:Addr).add ((j:Int).toNat*4)).block)∧Cv (fun _=>False) B iv g∧
   ∀w2,w2=setCells w' ((⟨g,0,none⟩:Addr).add ((j:Int).toNat*4)) [.bool b,.slice a1 n1 c1,.bool b2,.slice a2 n2 c2]→RowXc w2 S B iv (.slice a n c) n (qs.set j q)∧w'.grownBy w2 (some g)∧w2.heap.size=w'.heap.size:=by
 obtain⟨g,rfl,h1,h2,h3,h4⟩:=h.row.store hj hf (fun g hg hx=>hx.2 hg) (fun x hx=>Rel.old r hS x hx.1)
 refine⟨g,rfl,h1,h3,fun id b hb hn=>by rw[h2];exact Rel.not r hS (cvF (h.new g rfl)) id b hb hn,h.new g rfl,fun w2 hw2=>?_⟩
 obtain⟨k1,k2,k3⟩:=h4 w2 hw2
 exact⟨⟨k1,h.new⟩,k2,k3⟩
end
end Go.Ex
namespace Go.Sx
open Go Go.Ex Go.Proofs
/-- an array of one's own, given up at a loop: it is held raw there -/
theorem Sub.give{B:Nat}{l tl:Env}{nx:Nat}{H tH:Hp}{iv:Iv}{w w':World}{ρ:Nat→Sx.Val}{id t n c:Nat}{e:TypeId}{cs:List Value}(r:Rel H nx iv B w ρ w')(hid:getH H id=some (.arr e cs))(ht:getE l t=some (.o (.s id 0 n c)))
  (hs:SubH H tH) (ho:okH id tH=true) (h1:SubE l tl) (h2:ScE nx tl):
  Sub B l nx ρ w' ⟨(t,.o (.v (.slice (some ⟨(ρ id).g,0,none⟩) n c)))::tl,tH,nx,((ρ id).g,(ρ id).g+1)::iv,w'⟩:=by
 refine⟨ρ,r.free hid (by simp) (r.fits hid).1 hs ho,fun u v hv=>?_⟩
 rw[getE_cons]at hv
 split at hv
 ·rename_i e
  subst e
  injection hv with hv
  subst hv
  exact⟨trivial,_,ht,rfl⟩
 ·exact⟨h2.get u v hv,v,h1.get u v hv,rfl⟩
end Go.Sx
namespace Go.Ex
open Go Go.Sx Go.Proofs
end Go.Ex

/- has, Rank and Kernel of the reference. Printed by program. No condition but sizes. -/
namespace Go.Ex
open Go Go.Sx Go.Proofs

theorem rhas_c{S:Nat→Prop}{w:World}{v:Value}{ps:List Nat}{x:Nat}(hS:Old S w)(h:IntsR w S v ps):
  Con PG N.ref01_has #[v,.int .i64 x] w (Ret w fun v' _=>v'= .bool (decide (x∈ps))):=by
 obtain⟨h0,h1,h2,a,c,rfl,hc,hcell⟩:=h
 unfold maxLen at h0
 refine in_ref01_has (by simp) ?_
 conv=>whnf
 refine⟨Nat×World,fun z=>⟨[(0,.o (.v (.slice a ps.length c))),(1,.o (.v (.int .i64 x))),(5,.o (.v (.int .i64 ((z.1:Nat):Int))))],[],0,[],z.2⟩,fun z=>ps.length-z.1,
  fun z=>z.1≤ps.length∧Bel w.heap.size w z.2∧∀(j:Nat) y,j<z.1→ps[j]? =some y→y≠x,?_,?_⟩
 ·intro ρ w' r
  exact⟨(0,w'),⟨by simp,r.bel,fun j y hj=>by dsimp only at hj;omega⟩,Sub.gen [] r trivial ⟨rfl,rfl,rfl,trivial⟩ (by simp[ScH]) (by simp[ScE,SV.sc,At.sc]) (by rfl) (by simp)⟩
 rintro⟨i,w1⟩ ⟨hi,hw,ht⟩
 dsimp only at hi hw ht ⊢
 conv=>whnf
 refine BrS.mk (fun hib=>?_) (fun hib=>?_)
 ·have hib:i<ps.length:=by simpa using hib
  obtain⟨y,hy⟩:∃y,ps[i]? =some y:=⟨_,List.getElem?_eq_getElem hib⟩
  obtain⟨ad,rfl,q1,q2⟩:=hcell i (.int .i64 (y:Int)) (by rw[List.getElem?_map,hy];rfl)
  conv=>whnf
  refine⟨ad,rfl,⟨by omega,by omega⟩,?_⟩
  conv=>whnf
  refine⟨.int .i64 (y:Int),fun ρ w' r=>by rw[Int.toNat_natCast,Nat.mul_one];exact cellS hS hw r q1 q2,?_⟩
  conv=>whnf
  refine BrS.mk (fun he=>?_) (fun he=>?_)
  ·have he1:(y:Int)=x:=by simpa using he
   have he2:y=x:=by omega
   conv=>whnf
   intro ρ w2 r
   exact⟨_,rfl,hw.tr r.bel,by rw[decide_eq_true (by rw[←he2];exact List.mem_of_getElem? hy)];rfl⟩
  have he1:¬(y:Int)=x:=by simpa using he
  conv=>whnf
  refine⟨((i+1:Nat):Int),by rw[wrap64]<;>omega,?_⟩
  conv=>whnf
  intro ρ3 w3 r3
  exact⟨(i+1,w3),⟨hib,hw.tr r3.bel,fun j z hj hz=>by
   by_cases hji:j=i
   ·subst hji;rw[hy]at hz;injection hz with hz;omega
   ·exact ht j z (by dsimp only at hj;omega) hz⟩,Sub.gen [] r3 trivial ⟨rfl,rfl,rfl,trivial⟩ (by simp[ScH]) (by simp[ScE,SV.sc,At.sc]) (by rfl) (fun lo hi h=>h),by dsimp only;omega⟩
 have hib:i=ps.length:=Nat.le_antisymm hi (by simpa using hib)
 conv=>whnf
 intro ρ w2 r
 refine⟨_,rfl,hw.tr r.bel,?_⟩
 rw[decide_eq_false (fun hm=>by
  obtain⟨j,hj,e⟩:=List.mem_iff_getElem.1 hm
  exact ht j _ (by omega) (List.getElem?_eq_getElem hj) e)]
 rfl
/-- a growing list of rows in normal form -/
def RowsC(w:World)(S:Nat→Prop)(rv:List Value)(K:List (List Rat)):Prop:=rv.length=K.length∧(∀u∈rv,u.oneCell'=true)∧∀(i:Nat) u r,rv[i]? =some u→K[i]? =some r→RatsC w S u r
section
variable{S S':Nat→Prop}{H:Hp}{nx:Nat}{iv iv':Iv}{B:Nat}{w w' w2:World}{ρ:Nat→Sx.Val}{rv:List Value}{K:List (List Rat)}
theorem RowsC.keep(h:RowsC w S rv K)(hk:∀g,S g→w2.heap[g]? =w.heap[g]?):RowsC w2 S rv K:=⟨h.1,h.2.1,fun i u x h1 h2=>RatsC.keep (h.2.2 i u x h1 h2) hk⟩
theorem RowsC.weak(h:RowsC w S rv K)(hk:∀g,S g→S' g):RowsC w S' rv K:=⟨h.1,h.2.1,fun i u x h1 h2=>RatsC.weak (h.2.2 i u x h1 h2) hk⟩
theorem RowsC.rel(h:RowsC w (Cv S B iv) rv K)(r:Rel H nx iv B w ρ w')(hS:∀g,S g→g<B):RowsC w' (Cv S B iv) rv K:=h.keep fun _ hg=>Rel.same r hS hg
theorem RowsC.past(h:RowsC w (Cv S B iv) rv K)(r:Rel H nx iv B w ρ w')(hS:∀g,S g→g<B)(he:Ext w' w2)(hm:∀p,p∈iv→p∈iv'):RowsC w2 (Cv S B iv') rv K:=
 ((h.rel r hS).keep fun g hg=>he.block g (Rel.old r hS g hg)).weak fun _ hg=>hg.mono hm
theorem RowsC.push{u:Value}{x:List Rat}(h:RowsC w S rv K)(hu:u.oneCell'=true)(hx:RatsC w S u x):RowsC w S (rv++[u]) (K++[x]):=by
 refine⟨by simp[h.1],fun v hv=>?_,fun i v y h1 h2=>?_⟩
 ·rcases List.mem_append.1 hv with hv|hv
  ·exact h.2.1 v hv
  ·simp at hv;subst hv;exact hu
 ·rcases Nat.lt_or_ge i rv.length with hi|hi
  ·rw[List.getElem?_append_left hi]at h1
   rw[List.getElem?_append_left (by rw[←h.1];exact hi)]at h2
   exact h.2.2 i v y h1 h2
  ·have hi0:i=rv.length:=by have:=(List.getElem?_eq_some_iff.1 h1).1;simp at this;omega
   subst hi0
   rw[List.getElem?_append_right (Nat.le_refl _),Nat.sub_self]at h1
   rw[h.1,List.getElem?_append_right (Nat.le_refl _),Nat.sub_self]at h2
   simp at h1 h2
   subst h1 h2
   exact hx
end
/-- an array of one's own, as a row that is held raw -/
theorem arrRow{H:Hp}{nx:Nat}{iv:Iv}{B:Nat}{w w':World}{ρ:Nat→Sx.Val}(r:Rel H nx iv B w ρ w'){id n:Nat}{css:List (List Value)}(h:getH H id=some (.arr T.Rat css.flatten))(hl:css.length=n)(h4:∀cs∈css,cs.length=4)(hn:n≤maxLen):
  w'.ownsRow 0 T.Rat 4 (.slice (some ⟨(ρ id).g,0,none⟩) n n) n css.flatten:=by
 have hf:=flat_len h4
 rw[hl]at hf
 exact⟨hf,.inr ⟨(ρ id).g,n,css.flatten.toArray,rfl,Nat.zero_le _,r.arr id _ _ h,Nat.le_refl _,hn,by simpa using hf,by rw[←hf];exact List.take_length⟩⟩
theorem RowXc.give{S:Nat→Prop}{H:Hp}{nx:Nat}{iv:Iv}{B:Nat}{w w':World}{ρ:Nat→Sx.Val}(r:Rel H nx iv B w ρ w'){id n:Nat}{css:List (List Value)}{qs:List Rat}(h:getH H id=some (.arr T.Rat css.flatten))(hl:css.length=n)(hn:n≤maxLen)(hc:Fc w (Cv (fun _=>False) B iv) css qs):
  RowXc w' S B (((ρ id).g,(ρ id).g+1)::iv) (.slice (some ⟨(ρ id).g,0,none⟩) n n) n qs:=by
 refine⟨⟨css,arrRow r h hl hc.len4 hn,hl,(hc.keep fun g hg=>Rel.same r (oldF' B) hg).weak fun g hg=>⟨?_,fun e=>?_⟩⟩,fun g hg=>?_⟩
 ·exact cvF (hg.mono fun p hp=>List.mem_cons_of_mem _ hp)
 ·injection e with e
  exact Rel.not r (oldF' B) hg id _ h (r.fits h).1 e
 ·injection hg with hg
  subst hg
  exact .inr ⟨(r.low id _ h (r.fits h).1).1,_,_,List.mem_cons_self,Nat.le_refl _,Nat.lt_succ_self _⟩
theorem RowXc.rats{S:Nat→Prop}{iv:Iv}{B n:Nat}{w:World}{v:Value}{qs:List Rat}(h:RowXc w S B iv v n qs):RatsC w (Cv S B iv) v qs:=by
 obtain⟨css,h1,h2⟩:=h.read
 exact⟨css,h1,h2.1,h2.len4,h2.2⟩
/-- the first elements of a list are 0 -/
def ZerosTo(w:World)(S:Nat→Prop)(css:List (List Value))(k:Nat):Prop:=∀(j:Nat) cs,j<k→css[j]? =some cs→Rat4C w S cs 0
theorem ZerosTo.rel{S:Nat→Prop}{H:Hp}{nx:Nat}{iv:Iv}{B:Nat}{w w':World}{ρ:Nat→Sx.Val}{css:List (List Value)}{k:Nat}(h:ZerosTo w (Cv S B iv) css k)(r:Rel H nx iv B w ρ w')(hS:∀g,S g→g<B):ZerosTo w' (Cv S B iv) css k:=fun j cs h1 h2=>(h j cs h1 h2).keep fun _ hg=>Rel.same r hS hg
theorem ZerosTo.past{S:Nat→Prop}{H:Hp}{nx:Nat}{iv iv':Iv}{B:Nat}{w w' w2:World}{ρ:Nat→Sx.Val}{css:List (List Value)}{k:Nat}(h:ZerosTo w (Cv S B iv) css k)(r:Rel H nx iv B w ρ w')(hS:∀g,S g→g<B)(he:Ext w' w2)(hm:∀p,p∈iv→p∈iv'):ZerosTo w2 (Cv S B iv') css k:=fun j cs h1 h2=>
 (((h.rel r hS) j cs h1 h2).keep fun g hg=>he.block g (Rel.old r hS g hg)).weak fun _ hg=>hg.mono hm
theorem ZerosTo.push{S:Nat→Prop}{w:World}{css:List (List Value)}{k:Nat}{cs:List Value}(h:ZerosTo w S css k)(hc:Rat4C w S cs 0):ZerosTo w S (css.set k cs) (k+1):=fun j x hj hx=>by
 rw[List.getElem?_set]at hx
 split at hx
 ·split at hx
  ·injection hx with hx;subst hx;exact hc
  ·cases hx
 ·exact h j x (by omega) hx
theorem four_set{css:List (List Value)}{k:Nat}{cs:List Value}(h:∀x∈css,x.length=4)(hc:cs.length=4):∀x∈css.set k cs,x.length=4:=fun x hx=>by
 rcases List.mem_or_eq_of_mem_set hx with h1|h1
 ·exact h x h1
 ·rw[h1];exact hc
/-- zeros, and a 1 -/
theorem ZerosTo.one{S:Nat→Prop}{w:World}{css:List (List Value)}{c n:Nat}{cs:List Value}(h:ZerosTo w S css n)(hl:css.length=n)(hc:Rat4C w S cs 1):Fc w S (css.set c cs) ((List.replicate n 0).set c 1):=by
 refine⟨by simp[hl],fun j x q h1 h2=>?_⟩
 rw[List.getElem?_set]at h1 h2
 by_cases hj:c=j
 ·rw[if_pos hj]at h1 h2
  split at h1
  ·split at h2
   ·injection h1 with h1
    injection h2 with h2
    subst h1 h2
    exact hc
   ·cases h2
  ·cases h1
 ·rw[if_neg hj]at h1 h2
  have hjn:j<n:=by have:=(List.getElem?_eq_some_iff.1 h1).1;omega
  rw[List.getElem?_replicate,if_pos hjn]at h2
  injection h2 with h2
  subst h2
  exact h j x hjn h1
theorem rKernel_c{S:Nat→Prop}{w:World}{v:Value}{M:List (List (Int×Int))}{h0:Nat}(hS:Old S w)(h:RatMR w S v M)(hL:RatML w S v (valsM M))(hall:∀r∈M,r.length=colsM M)(hR:M.length≤1000)(hn:colsM M≤1000)(hht:Ht (valsM M) h0)(h2:2≤h0)(hbd:4^(valsM M).length*h0≤90000):
  Con PG N.ref01_Kernel #[v] w (Ret w fun v' w2=>RatMC w2 (Nw (fun _=>False) w w2) v' (kernelTo (reduceF (valsM M) (colsM M)).1 (reduceF (valsM M) (colsM M)).2 (colsM M) (colsM M))):=by
 have hw:Bel w.heap.size w w:=Bel.refl
 have hvl:(valsM M).length=M.length:=by simp[valsM]
 have hlen:Len (colsM M) (valsM M):=fun r hr=>by
  rw[valsM]at hr
  obtain⟨x,hx,rfl⟩:=List.mem_map.1 hr
  rw[List.length_map];exact hall x hx
 replace h:=RatMR.arg h []
 replace hL:=RatML.arg hL []
 obtain⟨am,cm,rfl,hcm,hmm⟩:=SlicesR.shape h
 refine in_ref01_Kernel (by simp) ?_
 conv=>whnf
 refine callE_S (callE_con (Φ:=fun _ w' v w2=>v= .int .i64 (colsM M)) (fun ρ w' r=>rColumns_c (Rel.old r hS) (RatMR.rel h r hS)) ?_)
 rintro ρ wa1 v1 wb1 r he hb rfl
 replace hw:=hw.tr hb
 clear h
 replace hL:=RatML.past (iv':=(wa1.heap.size,wb1.heap.size)::[]) hL r hS he fun x hx=>List.mem_cons_of_mem _ hx
 clear r he hb
 generalize (wa1.heap.size,wb1.heap.size)::[]=iv1 at*
 conv=>whnf
 refine callE_S (callE_con (Φ:=fun _ w' v w2=>∃vm vp,v= .tuple #[vm,vp]∧RatML w2 (Nw (Cv S w.heap.size iv1) w' w2) vm (reduceF (valsM M) (colsM M)).1∧IntsR w2 (Nw (fun _=>False) w' w2) vp (reduceF (valsM M) (colsM M)).2) (fun ρ w' r=>rEchelon_c (Rel.old r hS) (RatML.rel hL r hS) hlen (by omega) (by omega) (Nat.le_refl _) hht h2 hbd) ?_)
 rintro ρ wa2 v2 wb2 r he hb ⟨vm,vp,rfl,k1,k2⟩
 replace hw:=hw.tr hb
 clear hL
 have hA:=RatML.old k1 r.baseLe
 have hP:=IntsR.got (S:=fun _=>False) k2 r.baseLe (iv:=(wa2.heap.size,wb2.heap.size)::iv1) List.mem_cons_self
 clear r he hb
 generalize (wa2.heap.size,wb2.heap.size)::iv1=iv2 at*
 clear k1 k2
 obtain⟨aA,cA,rfl,hcA,-⟩:=SlicesR.shape hA
 have hPs:=hP
 obtain⟨-,-,-,ap,cp,rfl,hcp,-⟩:=hPs
 obtain⟨hAl,hpl,hpc,hAh⟩:=reduceF_inv (cols:=colsM M) hht h2
 have hAlen:=reduceF_len (cols:=colsM M) hlen
 have hpow:=Nat.mul_le_mul_right h0 (Nat.pow_le_pow_right (show 0<4 by decide) hpl)
 generalize (reduceF (valsM M) (colsM M)).1=A at*
 generalize (reduceF (valsM M) (colsM M)).2=pv at*
 generalize colsM M=cols at*
 conv=>whnf
 refine⟨Nat×List Value×World×Iv,fun z=>⟨[(3,.o (.v (.int .i64 cols))),(4,.o (.v (.slice aA A.length cA))),(5,.o (.v (.slice ap pv.length cp))),(6,.o (.w 0 z.2.1.length)),(7,.o (.v (.int .i64 ((z.1:Nat):Int))))],[(0,.vec T.LRat 1 z.2.1)],1,z.2.2.2,z.2.2.1⟩,fun z=>cols-z.1,
  fun z=>z.1≤cols∧z.2.1.length≤z.1∧Bel w.heap.size w z.2.2.1∧RatML z.2.2.1 (Cv S w.heap.size z.2.2.2) (.slice aA A.length cA) A∧IntsR z.2.2.1 (Cv (fun _=>False) w.heap.size z.2.2.2) (.slice ap pv.length cp) pv∧RowsC z.2.2.1 (Cv (fun _=>False) w.heap.size z.2.2.2) z.2.1 (kernelTo A pv cols z.1),?_,?_⟩
 ·intro ρ w' r
  exact⟨(0,[],w',iv2),⟨Nat.zero_le _,Nat.le_refl _,hw.tr r.bel,RatML.rel hA r hS,IntsR.rel hP r (oldF w),by simp[RowsC,kernelTo]⟩,Sub.nil 6 T.LRat 1 rfl (by simp[ScE,SV.sc,At.sc,initE]) r fun ρ1 r1=>
   Sub.gen [] r1 ⟨rfl,trivial⟩ ⟨rfl,rfl,rfl,rfl,rfl,trivial⟩ (by simp[ScH,Blk.scopd]) (by simp[ScE,SV.sc,At.sc]) (by rfl) (fun lo hi h=>h)⟩
 clear hw hA hP
 rintro⟨c,rv,w1,iv⟩ ⟨hc,hrc,hw,hA,hP,hK⟩
 dsimp only at hc hrc hw hA hP hK ⊢
 conv=>whnf
 refine BrS.mk (fun hib=>?_) (fun hib=>?_)
 ·have hib:c<cols:=by simpa using hib
  conv=>whnf
  refine callE_S (callE_con (Φ:=fun _ w' v w2=>v= .bool (decide (c∈pv))) (fun ρ w' r=>rhas_c (Rel.old r (oldF w)) (IntsR.rel hP r (oldF w))) ?_)
  rintro ρ wa3 v3 wb3 r he hb rfl
  replace hw:=hw.tr hb
  replace hA:=RatML.past (iv':=(wa3.heap.size,wb3.heap.size)::iv) hA r hS he fun x hx=>List.mem_cons_of_mem _ hx
  replace hP:=IntsR.past (iv':=(wa3.heap.size,wb3.heap.size)::iv) hP r (oldF w) he fun x hx=>List.mem_cons_of_mem _ hx
  replace hK:=hK.past (iv':=(wa3.heap.size,wb3.heap.size)::iv) r (oldF w) he fun x hx=>List.mem_cons_of_mem _ hx
  clear r he hb
  generalize (wa3.heap.size,wb3.heap.size)::iv=iv3 at*
  conv=>whnf
  refine BrS.mk (fun hm=>?_) (fun hm=>?_)
  ·have hm:=of_decide_eq_true hm
   conv=>whnf
   refine⟨((c+1:Nat):Int),by rw[wrap64]<;>omega,?_⟩
   conv=>whnf
   intro ρ3 w3 r3
   exact⟨(c+1,rv,w3,_),⟨hib,by simp;omega,hw.tr r3.bel,RatML.rel hA r3 hS,IntsR.rel hP r3 (oldF w),by dsimp only;rw[kernelTo_in hm];exact hK.rel r3 (oldF w)⟩,Sub.gen [] r3 ⟨rfl,trivial⟩ ⟨rfl,rfl,rfl,rfl,rfl,trivial⟩ (by simp[ScH,Blk.scopd]) (by simp[ScE,SV.sc,At.sc]) (by rfl) (fun lo hi h=>h),by dsimp only;omega⟩
  have hm:=of_decide_eq_false hm
  conv=>whnf
  refine⟨cols,cols,rfl,rfl,Nat.le_refl _,by omega,by omega,?_⟩
  conv=>whnf
  refine⟨Nat×List (List Value)×World×Iv,fun z=>⟨[(3,.o (.v (.int .i64 cols))),(4,.o (.v (.slice aA A.length cA))),(5,.o (.v (.slice ap pv.length cp))),(6,.o (.w 0 rv.length)),(7,.o (.v (.int .i64 ((c:Nat):Int)))),(8,.o (.s 1 0 cols cols)),(9,.o (.v (.int .i64 ((z.1:Nat):Int))))],[(1,.arr T.Rat z.2.1.flatten),(0,.vec T.LRat 1 rv)],2,z.2.2.2,z.2.2.1⟩,fun z=>cols-z.1,
   fun z=>z.1≤cols∧z.2.1.length=cols∧(∀x∈z.2.1,x.length=4)∧Bel w.heap.size w z.2.2.1∧RatML z.2.2.1 (Cv S w.heap.size z.2.2.2) (.slice aA A.length cA) A∧IntsR z.2.2.1 (Cv (fun _=>False) w.heap.size z.2.2.2) (.slice ap pv.length cp) pv∧RowsC z.2.2.1 (Cv (fun _=>False) w.heap.size z.2.2.2) rv (kernelTo A pv cols c)∧
    ZerosTo z.2.2.1 (Cv (fun _=>False) w.heap.size z.2.2.2) z.2.1 z.1,?_,?_⟩
  ·intro ρ w' r
   exact⟨(0,List.replicate cols [.bool false,.slice none 0 0,.bool false,.slice none 0 0],w',iv3),⟨Nat.zero_le _,by simp,fun x hx=>by rw[List.eq_of_mem_replicate hx];rfl,hw.tr r.bel,RatML.rel hA r hS,IntsR.rel hP r (oldF w),hK.rel r (oldF w),fun j cs hj=>by dsimp only at hj;omega⟩,
    Sub.gen [] r ⟨rfl,rfl,trivial⟩ ⟨rfl,rfl,rfl,rfl,rfl,rfl,rfl,trivial⟩ (by simp[ScH,Blk.scopd]) (by simp[ScE,SV.sc,At.sc]) (by rfl) (fun lo hi h=>h)⟩
  clear hw hA hP hK
  rintro⟨k,css,w2,iv⟩ ⟨hk,hcl,hc4,hw,hA,hP,hK,hz⟩
  dsimp only at hk hcl hc4 hw hA hP hK hz ⊢
  conv=>whnf
  refine BrS.mk (fun hkb=>?_) (fun hkb=>?_)
  ·have hkb:k<cols:=by simpa using hkb
   conv=>whnf
   refine callE_S (callE_con (Φ:=fun _ w' v w2=>RatC w2 (Nw (fun _=>False) w' w2) v (0)) (fun ρ w' r=>(show ((0:Int):Rat)=0 from rfl)▸rWholeAll_c 0 w' (by decide) (by decide)) ?_)
   rintro ρ wa4 v4 wb4 r he hb hn
   replace hw:=hw.tr hb
   replace hA:=RatML.past (iv':=(wa4.heap.size,wb4.heap.size)::iv) hA r hS he fun x hx=>List.mem_cons_of_mem _ hx
   replace hP:=IntsR.past (iv':=(wa4.heap.size,wb4.heap.size)::iv) hP r (oldF w) he fun x hx=>List.mem_cons_of_mem _ hx
   replace hK:=hK.past (iv':=(wa4.heap.size,wb4.heap.size)::iv) r (oldF w) he fun x hx=>List.mem_cons_of_mem _ hx
   replace hz:=hz.past (iv':=(wa4.heap.size,wb4.heap.size)::iv) r (oldF w) he fun x hx=>List.mem_cons_of_mem _ hx
   have h_0:=hn.got (S:=fun _=>False) r.baseLe (iv:=(wa4.heap.size,wb4.heap.size)::iv) List.mem_cons_self
   clear r he hb hn
   generalize (wa4.heap.size,wb4.heap.size)::iv=iv4 at*
   obtain⟨s4_0,s4_1,s4_2,s4_3,s4_4,s4_5,s4_6,s4_7,rfl⟩:=h_0.shape
   conv=>whnf
   refine⟨⟨by omega,by omega⟩,?_⟩
   conv=>whnf
   have hfl:=flat_len hc4
   refine⟨by rw[Int.toNat_natCast,hfl];omega,(css.set k [.bool s4_0,.slice s4_1 s4_2 s4_3,.bool s4_4,.slice s4_5 s4_6 s4_7]).flatten,by rw[Int.toNat_natCast,Nat.zero_add];exact flat_set (css:=css) (j:=k) hc4 (by omega),?_⟩
   conv=>whnf
   refine⟨((k+1:Nat):Int),by rw[wrap64]<;>omega,?_⟩
   conv=>whnf
   intro ρ3 w3 r3
   exact⟨(k+1,css.set k [.bool s4_0,.slice s4_1 s4_2 s4_3,.bool s4_4,.slice s4_5 s4_6 s4_7],w3,_),⟨hkb,by simp[hcl],four_set hc4 rfl,hw.tr r3.bel,RatML.rel hA r3 hS,IntsR.rel hP r3 (oldF w),hK.rel r3 (oldF w),(hz.rel r3 (oldF w)).push (h_0.rel r3 (oldF w)).fourC⟩,
    Sub.gen [] r3 ⟨rfl,rfl,trivial⟩ ⟨rfl,rfl,rfl,rfl,rfl,rfl,rfl,trivial⟩ (by simp[ScH,Blk.scopd]) (by simp[ScE,SV.sc,At.sc]) (by rfl) (fun lo hi h=>h),by dsimp only;omega⟩
  have hkb:k=cols:=Nat.le_antisymm hk (by simpa using hkb)
  subst hkb
  conv=>whnf
  refine callE_S (callE_con (Φ:=fun _ w' v w2=>RatC w2 (Nw (fun _=>False) w' w2) v (1)) (fun ρ w' r=>(show ((1:Int):Rat)=1 from rfl)▸rWholeAll_c 1 w' (by decide) (by decide)) ?_)
  rintro ρ wa4 v4 wb4 r he hb hn
  replace hw:=hw.tr hb
  replace hA:=RatML.past (iv':=(wa4.heap.size,wb4.heap.size)::iv) hA r hS he fun x hx=>List.mem_cons_of_mem _ hx
  replace hP:=IntsR.past (iv':=(wa4.heap.size,wb4.heap.size)::iv) hP r (oldF w) he fun x hx=>List.mem_cons_of_mem _ hx
  replace hK:=hK.past (iv':=(wa4.heap.size,wb4.heap.size)::iv) r (oldF w) he fun x hx=>List.mem_cons_of_mem _ hx
  replace hz:=hz.past (iv':=(wa4.heap.size,wb4.heap.size)::iv) r (oldF w) he fun x hx=>List.mem_cons_of_mem _ hx
  have h_1:=hn.got (S:=fun _=>False) r.baseLe (iv:=(wa4.heap.size,wb4.heap.size)::iv) List.mem_cons_self
  clear r he hb hn
  generalize (wa4.heap.size,wb4.heap.size)::iv=iv4 at*
  obtain⟨s4_0,s4_1,s4_2,s4_3,s4_4,s4_5,s4_6,s4_7,rfl⟩:=h_1.shape
  conv=>whnf
  refine⟨⟨by omega,by omega⟩,?_⟩
  conv=>whnf
  have hfl:=flat_len hc4
  refine⟨by rw[Int.toNat_natCast,hfl];omega,(css.set c [.bool s4_0,.slice s4_1 s4_2 s4_3,.bool s4_4,.slice s4_5 s4_6 s4_7]).flatten,by rw[Int.toNat_natCast,Nat.zero_add];exact flat_set (css:=css) (j:=c) hc4 (by omega),?_⟩
  conv=>whnf
  have hFc:=hz.one hcl (c:=c) h_1.fourC
  have hcl2:(css.set c [.bool s4_0,.slice s4_1 s4_2 s4_3,.bool s4_4,.slice s4_5 s4_6 s4_7]).length=k:=by simp[hcl]
  generalize css.set c [.bool s4_0,.slice s4_1 s4_2 s4_3,.bool s4_4,.slice s4_5 s4_6 s4_7]=cs2 at*
  clear hz h_1 hcl hc4
  refine⟨Nat×Nat×World×Iv,fun z=>⟨[(8,.o (.v (.slice (some ⟨z.2.1,0,none⟩) k k))),(3,.o (.v (.int .i64 k))),(4,.o (.v (.slice aA A.length cA))),(5,.o (.v (.slice ap pv.length cp))),(6,.o (.w 0 rv.length)),(7,.o (.v (.int .i64 ((c:Nat):Int)))),(10,.o (.v (.int .i64 ((z.1:Nat):Int))))],[(0,.vec T.LRat 1 rv)],2,z.2.2.2,z.2.2.1⟩,fun z=>pv.length-z.1,
   fun z=>z.1≤pv.length∧Bel w.heap.size w z.2.2.1∧(∀p,p∈iv4→p∈z.2.2.2)∧¬Cv S w.heap.size iv4 z.2.1∧w.heap.size≤z.2.1∧RatML z.2.2.1 (Cv S w.heap.size iv4) (.slice aA A.length cA) A∧IntsR z.2.2.1 (Cv (fun _=>False) w.heap.size iv4) (.slice ap pv.length cp) pv∧RowsC z.2.2.1 (Cv (fun _=>False) w.heap.size iv4) rv (kernelTo A pv k c)∧
    RowXc z.2.2.1 (fun _=>False) w.heap.size z.2.2.2 (.slice (some ⟨z.2.1,0,none⟩) k k) k (kvecTo A pv k c z.1),?_,?_⟩
  ·intro ρ w' r
   exact⟨(0,(ρ 1).g,w',((ρ 1).g,(ρ 1).g+1)::iv4),⟨Nat.zero_le _,hw.tr r.bel,fun p hp=>List.mem_cons_of_mem _ hp,fun hg=>Rel.not r hS hg 1 _ rfl (r.fits (id:=1) rfl).1 rfl,(r.low 1 _ rfl (r.fits (id:=1) rfl).1).1,RatML.rel hA r hS,IntsR.rel hP r (oldF w),hK.rel r (oldF w),RowXc.give r (id:=1) rfl hcl2 (by unfold maxLen;omega) hFc⟩,
    Sub.give r (id:=1) (t:=8) rfl rfl ⟨rfl,trivial⟩ rfl ⟨rfl,rfl,rfl,rfl,rfl,rfl,trivial⟩ (by simp[ScE,SV.sc,At.sc])⟩
  clear hw hA hP hK hFc hcl2
  rintro⟨i,gx,w5,iv5⟩ ⟨hi,hw,hsub,hxo,hxB,hA,hP,hK,hX⟩
  dsimp only at hi hw hsub hxo hxB hA hP hK hX ⊢
  conv=>whnf
  refine BrS.mk (fun hi2=>?_) (fun hi2=>?_)
  ·have hi2:i<pv.length:=by simpa using hi2
   obtain⟨p,hpi⟩:∃p,pv[i]? =some p:=⟨_,List.getElem?_eq_getElem hi2⟩
   have hpd:pv.getD i 0=p:=by simp[List.getD,hpi]
   have hpcol:=hpc p (List.mem_of_getElem? hpi)
   obtain⟨ra,hra⟩:∃r,A[i]? =some r:=⟨_,List.getElem?_eq_getElem (by omega)⟩
   have hral:=hAlen ra (List.mem_of_getElem? hra)
   have hPs:=hP
   obtain⟨_,_,_,_,_,hpe,_,hpcell⟩:=hPs
   injection hpe with hpe1 hpe2 hpe3
   subst hpe1 hpe3
   obtain⟨adp,hap,kp1,kp2⟩:=hpcell i (.int .i64 (p:Int)) (by rw[List.getElem?_map,hpi];rfl)
   obtain⟨adm,um,ham,hRm,km1,km2⟩:=SlicesR.load hA hra
   obtain⟨au,cu,rfl,hcu,-⟩:=ListR.shape hRm
   obtain⟨q,hq⟩:∃q,ra[c]? =some q:=⟨_,List.getElem?_eq_getElem (by omega)⟩
   have hat:at2 A i c=q:=by simp[at2,List.getD,hra,hq]
   obtain⟨adq,cs,haq,hF,_,hl⟩:=ListR.load hRm hq
   obtain⟨b3,a3,n3,c3,b4,a4,n4,c4,rfl,hF⟩:=hF
   have hsm:∀{H nx ρ w'},Rel H nx iv5 w.heap.size w5 ρ w'→∀{g},Cv S w.heap.size iv4 g→w'.heap[g]? =w5.heap[g]? :=fun r g hg=>Rel.same r hS (hg.mono hsub)
   conv=>whnf
   refine drawn_of_pi hτ hmix [.x 0,.x 1,.x 2,.x 3,.x 4,.x 5,.x 6,.x 7,.x 8,.x 9,.x 10,.x 11,.x 12,.x 13,.x 14] (by kernel_rfl) (by kernel_rfl) ?_
   conv=>whnf
   refine⟨adp,hap,⟨by omega,by omega⟩,?_⟩
   conv=>whnf
   refine⟨.int .i64 (p:Int),fun ρ w' r=>?_,?_⟩
   ·rw[Int.toNat_natCast,Nat.mul_one,cell_of_heap (w:=w5) (w2:=w') (by rw[addB];exact hsm r (cvF kp1))]
    exact kp2
   conv=>whnf
   refine⟨adm,ham,⟨by omega,by omega⟩,?_⟩
   conv=>whnf
   refine⟨.slice au ra.length cu,fun ρ w' r=>?_,?_⟩
   ·rw[Int.toNat_natCast,cell_of_heap (w:=w5) (w2:=w') (by rw[addB];exact hsm r km1)]
    exact km2
   conv=>whnf
   refine⟨adq,haq,⟨by omega,by omega⟩,?_⟩
   conv=>whnf
   refine⟨[.bool b3,.slice a3 n3 c3,.bool b4,.slice a4 n4 c4],rfl,fun ρ w' r j u hu=>?_,?_⟩
   ·obtain⟨k1,k2⟩:=hl j u hu
    rw[Int.toNat_natCast,cell_of_heap (w:=w5) (w2:=w') (by rw[addB,addB];exact hsm r k1)]
    exact k2
   conv=>whnf
   refine callE_con (Φ:=fun _ w' v w2=>RatC w2 (Nw (fun _=>False) w' w2) v (-q)) (fun ρ w' r=>rNeg_c (fun g hg=>Rel.old r hS g (hg.mono hsub)) (hF.keep fun g hg=>hsm r hg)) ?_
   rintro ρ wa v1 wb r he hb hO
   have hON:RatC wb (fun g=>Cv (fun _=>False) w.heap.size ((wa.heap.size,wb.heap.size)::iv5) g∧(Value.slice (some ⟨gx,0,none⟩) k k).ownBlock≠some g) v1 (-q):=hO.weak fun g hg=>by
    rcases hg with hg|hg
    ·exact hg.elim
    ·have hB:=r.baseLe
     have:=Rel.old r hS gx (cvF (hX.new gx rfl))
     refine⟨.inr ⟨by omega,_,_,List.mem_cons_self,hg.1,hg.2⟩,fun e=>?_⟩
     have e2:gx=_:=Option.some.inj e
     omega
   replace hX:=hX.past (iv':=(wa.heap.size,wb.heap.size)::iv5) r (oldF w) he fun x hx=>List.mem_cons_of_mem _ hx
   have hkp:∀g,Cv S w.heap.size iv4 g→wb.heap[g]? =w5.heap[g]? :=fun g hg=>by rw[he.block g (Rel.old r hS g (hg.mono hsub)),Rel.same r hS (hg.mono hsub)]
   replace hA:=RatML.keep hA hkp
   replace hP:=SeqR.keep hP fun g hg=>hkp g (cvF hg)
   replace hK:=hK.keep fun g hg=>hkp g (cvF hg)
   replace hw:=hw.tr hb
   replace hsub:∀p,p∈iv4→p∈(wa.heap.size,wb.heap.size)::iv5:=fun p hp=>List.mem_cons_of_mem _ (hsub p hp)
   clear r he hb hO hF hl hRm hsm kp1 kp2 km1 km2 hpcell hkp
   generalize (wa.heap.size,wb.heap.size)::iv5=iv6 at*
   obtain⟨b1,a1,n1,c1,b2,a2,n2,c2,rfl⟩:=hON.shape
   conv=>whnf
   refine⟨⟨gx,0,none⟩,rfl,⟨by omega,by omega⟩,?_⟩
   conv=>whnf
   intro ρ w' r
   obtain⟨_,hgx,h1,h2',h3,h4,h5⟩:=(hX.rel r (oldF w)).store hpcol (RatC.keep hON fun g hg=>Rel.same r (oldF w) hg.1) r (oldF w)
   injection hgx with hgx
   injection hgx with hgx
   subst hgx
   have hkp:∀g,Cv S w.heap.size iv4 g→w'.heap[g]? =wb.heap[g]? :=fun g hg=>Rel.same r hS (hg.mono hsub)
   replace hw:=hw.tr r.bel
   have hold:∀g,Cv S w.heap.size iv6 g→g<w'.heap.size:=Rel.old r hS
   clear r hX hON
   refine⟨h1,h2',h3,fun w2 hw2=>?_⟩
   obtain⟨hX,hgr,-⟩:=h5 w2 hw2
   have hkp2:∀g,Cv S w.heap.size iv4 g→w2.heap[g]? =wb.heap[g]? :=fun g hg=>by
    rw[←hkp g hg]
    exact hgr.block g (hold g (hg.mono hsub)) fun e=>by injection e with e;subst e;exact hxo hg
   replace hA:=RatML.keep hA hkp2
   replace hP:=SeqR.keep hP fun g hg=>hkp2 g (cvF hg)
   replace hK:=hK.keep fun g hg=>hkp2 g (cvF hg)
   replace hw:Bel w.heap.size w w2:=hw.tr (Bel.grown hgr (fun g hg=>by injection hg with hg;subst hg;exact hxB) (by have:=hw.size;omega))
   clear h1 h2' h3 h4 h5 hw2 hgr hold hkp hkp2
   rw[←hat,←hpd,←kvecTo_succ]at hX
   conv=>whnf
   refine⟨((i+1:Nat):Int),by rw[wrap64]<;>omega,?_⟩
   conv=>whnf
   intro ρ3 w3 r3
   have hkp:∀g,Cv S w.heap.size iv4 g→w3.heap[g]? =w2.heap[g]? :=fun g hg=>Rel.same r3 hS (hg.mono hsub)
   exact⟨(i+1,gx,w3,iv6),⟨hi2,hw.tr r3.bel,hsub,hxo,hxB,RatML.keep hA hkp,SeqR.keep hP fun g hg=>hkp g (cvF hg),hK.keep fun g hg=>hkp g (cvF hg),hX.rel r3 (oldF w)⟩,
    Sub.gen [] r3 ⟨rfl,trivial⟩ ⟨rfl,rfl,rfl,rfl,rfl,rfl,rfl,trivial⟩ (by simp[ScH,Blk.scopd]) (by simp[ScE,SV.sc,At.sc]) (by rfl) (fun lo hi h=>h),by dsimp only;omega⟩
  have hi2:i=pv.length:=Nat.le_antisymm hi (by simpa using hi2)
  subst hi2
  have hnr:RatsC w5 (Cv (fun _=>False) w.heap.size iv5) (.slice (some ⟨gx,0,none⟩) k k) (kvecTo A pv k c pv.length):=hX.rats
  have hK2:RowsC w5 (Cv (fun _=>False) w.heap.size iv5) (rv++[.slice (some ⟨gx,0,none⟩) k k]) (kernelTo A pv k (c+1)):=by
   rw[kernelTo_out hm]
   exact(hK.weak fun g hg=>hg.mono hsub).push rfl hnr
  replace hA:=RatML.weak hA fun g hg=>hg.mono hsub
  replace hP:=IntsR.weak hP fun g hg=>hg.mono hsub
  clear hK hX hnr hsub hxo hxB
  have hK:=hK2
  clear hK2
  conv=>whnf
  refine .inl ?_
  conv=>whnf
  refine⟨by simp,by omega,by unfold maxLen;omega,?_⟩
  conv=>whnf
  refine⟨((c+1:Nat):Int),by rw[wrap64]<;>omega,?_⟩
  conv=>whnf
  intro ρ3 w3 r3
  exact⟨(c+1,(rv++[.slice (some ⟨gx,0,none⟩) k k]),w3,_),⟨hib,by simp;omega,hw.tr r3.bel,RatML.rel hA r3 hS,IntsR.rel hP r3 (oldF w),by dsimp only;rw[show c+1=c+1 from rfl];exact hK.rel r3 (oldF w)⟩,Sub.gen [(0,3)] r3 ⟨rfl,trivial⟩ ⟨rfl,rfl,rfl,by dsimp only;rw[List.length_append,List.length_singleton];rfl,rfl,trivial⟩ (by simp[ScH,Blk.scopd]) (by simp[ScE,SV.sc,At.sc]) (by rfl) (fun lo hi h=>h),by dsimp only;omega⟩
 have hib:c=cols:=Nat.le_antisymm hc (by simpa using hib)
 subst hib
 conv=>whnf
 intro ρe we re
 refine⟨_,rfl,hw.tr re.bel,rv,?_,hK.1,fun i u x h1 h2=>RatsC.out (hK.2.2 i u x h1 h2) re (oldF w)⟩
 have:=re.vecSeq (id:=0) (sz:=1) (m:=rv.length) rfl (by rw[Nat.mul_one]) (by unfold maxLen;omega) (by decide) hK.2.1
 rw[←hK.1]
 exact this.weak fun g hg=>.inr hg
end Go.Ex

/- The pivots of an elimination. Plain. -/
namespace Go.Ex
end Go.Ex

/- ExactRanks of the laws of chapter 1. Printed by program. No condition. -/
namespace Go.Ex
open Go Go.Sx Go.Proofs

theorem SmallM.keep{S:Nat→Prop}{w w2:World}{v:Value}{M:List (List (Int×Int))}(h:SmallM w S v M)(hk:∀g,S g→w2.heap[g]? =w.heap[g]?):SmallM w2 S v M:=⟨h.1,h.2.1,RatML.keep h.2.2.1 hk,h.2.2.2⟩
theorem SmallM.weak{S S':Nat→Prop}{w:World}{v:Value}{M:List (List (Int×Int))}(h:SmallM w S v M)(hk:∀g,S g→S' g):SmallM w S' v M:=⟨h.1,h.2.1,RatML.weak h.2.2.1 hk,h.2.2.2⟩
section
variable{S S':Nat→Prop}{H:Hp}{nx:Nat}{iv iv':Iv}{B:Nat}{w w' w2:World}{ρ:Nat→Sx.Val}{v:Value}{M:List (List (Int×Int))}
theorem SmallM.rel(h:SmallM w (Cv S B iv) v M)(r:Rel H nx iv B w ρ w')(hS:∀g,S g→g<B):SmallM w' (Cv S B iv) v M:=h.keep fun _ hg=>Rel.same r hS hg
theorem SmallM.past(h:SmallM w (Cv S B iv) v M)(r:Rel H nx iv B w ρ w')(hS:∀g,S g→g<B)(he:Ext w' w2)(hm:∀p,p∈iv→p∈iv'):SmallM w2 (Cv S B iv') v M:=
 ((h.rel r hS).keep fun g hg=>he.block g (Rel.old r hS g hg)).weak fun _ hg=>hg.mono hm
theorem SmallM.arg(h:SmallM w S v M)(iv:Iv):SmallM w (Cv S w.heap.size iv) v M:=h.weak fun _ h=>.inl h
end
/-- sizes of a matrix that the laws are told for -/
theorem SmallM.sizes{S:Nat→Prop}{w:World}{v:Value}{M:List (List (Int×Int))}(h:SmallM w S v M)(he:errM M=0):
  (∀r∈M,r.length=colsM M)∧M.length≤5∧colsM M≤5∧Ht (valsM M) 4∧4^(valsM M).length*4≤4096:=by
 obtain⟨h1,h2,h3⟩:=errM_zero he
 have h4:M.length≤5:=by have:=h.1;unfold Sized at this;omega
 refine⟨h1,h4,?_,fun r hr q hq=>?_,?_⟩
 ·cases M with
  |nil=>exact Nat.zero_le _
  |cons r t=>
   have:=h.2.1 r List.mem_cons_self
   have h5:colsM (r::t)=r.length:=rfl
   unfold Sized at this
   omega
 ·have:=h.2.2.2.1 r hr q hq
  omega
 ·have h5:(valsM M).length≤5:=by simp[valsM];exact h4
  exact Nat.le_trans (Nat.mul_le_mul_right 4 (Nat.pow_le_pow_right (by decide) h5)) (by decide)
end Go.Ex

/- Rows of package exact: same, nought, dot. Printed by program. No condition but sizes. -/
namespace Go.Ex
open Go Go.Sx Go.Proofs

theorem rat_back81(x y:Rat):x-y+y=x:=by rw[Rat.sub_eq_add_neg,Rat.add_assoc,Rat.neg_add_cancel,Rat.add_zero]
theorem sub_zero_iff(p q:Rat):p-q=0↔p=q:=by
 constructor
 ·intro h
  have:=congrArg (· +q) h
  simpa [rat_back81,Rat.zero_add]using this
 ·intro h;rw[h,Rat.sub_self]
theorem rs_eq{p q:Rat}:rs (p-q)=0↔p=q:=by rw[rs_zero,sub_zero_iff]
def fnV(g:Nat):Value:=.func (.func g) #[] #[]
theorem same1_c{S:Nat→Prop}{w:World}{v u:Value}{f g:Rat}(hS:Old S w)(hf:FracR w S v f)(hg:FracR w S u g)(hlf:rl f≤10000000000)(hlg:rl g≤10000000000):
  Con PG N.exact_row_same_1 #[v,u] w (Ret w fun v' _=>v'= .bool (decide (f=g))):=by
 have hw:Bel w.heap.size w w:=Bel.refl
 obtain⟨b1,a1,n1,c1,b2,a2,n2,c2,rfl⟩:=hf.shape
 obtain⟨b3,a3,n3,c3,b4,a4,n4,c4,rfl⟩:=hg.shape
 refine in_exact_row_same_1 (by simp) ?_
 conv=>whnf
 refine callE_S (callE_con (Φ:=fun _ w' v w2=>v= .int .i64 (rs (f-g))) (fun ρ w' r=>fcmp_c (fun g hg=>by have:=hS g hg;have:=r.baseLe;omega) (hf.keep fun g hg=>(hw.tr r.bel).block g (hS g hg)) (hg.keep fun g hg=>(hw.tr r.bel).block g (hS g hg)) hlf hlg) ?_)
 rintro ρ wa1 v1 wb1 r he hb rfl
 replace hw:=hw.tr hb
 clear r he hb
 generalize (wa1.heap.size,wb1.heap.size)::[]=iv1 at*
 conv=>whnf
 intro ρe we re
 exact⟨_,rfl,hw.tr re.bel,by rw[show decide (f=g)=(rs (f-g)==0)from Bool.eq_iff_iff.2 (by rw[decide_eq_true_eq,beq_iff_eq,rs_eq])];rfl⟩
theorem nought1_c{S:Nat→Prop}{w:World}{v:Value}{f:Rat}(hS:Old S w)(hf:FracR w S v f):
  Con PG N.exact_row_nought_1 #[v] w (Ret w fun v' _=>v'= .bool (decide (f≠0))):=by
 have hw:Bel w.heap.size w w:=Bel.refl
 obtain⟨b1,a1,n1,c1,b2,a2,n2,c2,rfl⟩:=hf.shape
 refine in_exact_row_nought_1 (by simp) ?_
 conv=>whnf
 refine callE_S (callE_con (Φ:=fun _ w' v w2=>v= .int .i64 (rs f)) (fun ρ w' r=>fsign_c (fun g hg=>by have:=hS g hg;have:=r.baseLe;omega) (hf.keep fun g hg=>(hw.tr r.bel).block g (hS g hg))) ?_)
 rintro ρ wa1 v1 wb1 r he hb rfl
 replace hw:=hw.tr hb
 clear r he hb
 generalize (wa1.heap.size,wb1.heap.size)::[]=iv1 at*
 conv=>whnf
 intro ρe we re
 exact⟨_,rfl,hw.tr re.bel,by rw[show decide (f≠0)=(rs f != 0)from Bool.eq_iff_iff.2 (by rw[decide_eq_true_eq,bne_iff_ne,ne_eq,ne_eq,rs_zero])];rfl⟩
theorem equalFrac_c{S:Nat→Prop}{w:World}{v u:Value}{xs ys:List Rat}(hS:Old S w)(hx:RowR w S S v xs)(hy:RowR w S S u ys)(hqx:∀x∈xs,rl x≤10000000000)(hqy:∀x∈ys,rl x≤10000000000):
  Con PG N.slices_EqualFunc_of_exact_row_exact_row_exact_fraction_exact_fraction_of #[v,u,fnV 149] w (Ret w fun v' _=>v'= .bool (decide (xs=ys))):=by
 have hw:Bel w.heap.size w w:=Bel.refl
 obtain⟨ax,cx,rfl,hcx,hmx⟩:=hx.shape
 obtain⟨ay,cy,rfl,hcy,hmy⟩:=hy.shape
 unfold maxLen at hmx hmy
 refine in_slices_EqualFunc_of_exact_row_exact_row_exact_fraction_exact_fraction_of (by simp) ?_
 conv=>whnf
 refine BrS.mk (fun hl=>?_) (fun hl=>?_)
 ·have hl:xs.length≠ys.length:=fun e=>by rw[e]at hl;simp at hl
  conv=>whnf
  intro ρe we re
  exact⟨_,rfl,hw.tr re.bel,by rw[decide_eq_false (fun e=>hl (by rw[e]))];rfl⟩
 have hl1:(xs.length:Int)=ys.length:=by simpa using hl
 have hl2:xs.length=ys.length:=by omega
 conv=>whnf
 refine⟨Nat×World×Iv,fun z=>⟨[(1,.o (.v (.slice ay ys.length cy))),(2,.o (.v (fnV 149))),(15,.o (.v (.slice ax xs.length cx))),(16,.o (.v (.int .i64 xs.length))),(17,.o (.v (.int .i64 ((z.1:Nat):Int))))],[],0,z.2.2,z.2.1⟩,fun z=>xs.length-z.1,
  fun z=>z.1≤xs.length∧Bel w.heap.size w z.2.1∧xs.take z.1=ys.take z.1,?_,?_⟩
 ·intro ρ w' r
  exact⟨(0,w',[]),⟨by simp,r.bel,by simp⟩,Sub.gen [] r trivial ⟨rfl,rfl,rfl,rfl,rfl,trivial⟩ (by simp[ScH]) (by simp[ScE,SV.sc,At.sc]) (by rfl) (by simp)⟩
 clear hw
 rintro⟨i,w1,iv⟩ ⟨hi,hw,ht⟩
 dsimp only at hi hw ht ⊢
 conv=>whnf
 refine BrS.mk (fun hib=>?_) (fun hib=>?_)
 ·have hib:i<xs.length:=by simpa using hib
  obtain⟨x,hxi⟩:∃x,xs[i]? =some x:=⟨_,List.getElem?_eq_getElem hib⟩
  obtain⟨y,hyi⟩:∃x,ys[i]? =some x:=⟨_,List.getElem?_eq_getElem (by omega)⟩
  obtain⟨adx,csx,hax,hFx,hlx⟩:=hx.load hxi
  obtain⟨ady,csy,hay,hFy,hly⟩:=hy.load hyi
  obtain⟨p0,p1,p2,p3,p4,p5,p6,p7,rfl,hFx⟩:=hFx
  obtain⟨q0,q1,q2,q3,q4,q5,q6,q7,rfl,hFy⟩:=hFy
  conv=>whnf
  refine⟨adx,hax,⟨by omega,by omega⟩,?_⟩
  conv=>whnf
  refine⟨[.bool p0,.slice p1 p2 p3,.bool p4,.slice p5 p6 p7],rfl,fun ρ w' r j u hu=>?_,?_⟩
  ·obtain⟨k1,k2⟩:=hlx j u hu
   rw[Int.toNat_natCast,cell_of_heap (w:=w) (w2:=w') (by rw[addB,addB];exact(hw.tr r.bel).block _ (hS _ k1))]
   exact k2
  conv=>whnf
  refine⟨ady,hay,⟨by omega,by omega⟩,?_⟩
  conv=>whnf
  refine⟨[.bool q0,.slice q1 q2 q3,.bool q4,.slice q5 q6 q7],rfl,fun ρ w' r j u hu=>?_,?_⟩
  ·obtain⟨k1,k2⟩:=hly j u hu
   rw[Int.toNat_natCast,cell_of_heap (w:=w) (w2:=w') (by rw[addB,addB];exact(hw.tr r.bel).block _ (hS _ k1))]
   exact k2
  conv=>whnf
  refine callE_S (callE_con (Φ:=fun _ w' v w2=>v= .bool (decide (x=y))) (fun ρ w' r=>same1_c (fun g hg=>by have:=hS g hg;have:=r.baseLe;omega) (hFx.keep fun g hg=>(hw.tr r.bel).block g (hS g hg)) (hFy.keep fun g hg=>(hw.tr r.bel).block g (hS g hg)) (hqx x (List.mem_of_getElem? hxi)) (hqy y (List.mem_of_getElem? hyi))) ?_)
  rintro ρ wa1 v1 wb1 r he hb rfl
  replace hw:=hw.tr hb
  clear r he hb
  generalize (wa1.heap.size,wb1.heap.size)::iv=iv1 at*
  conv=>whnf
  refine BrS.mk (fun he=>?_) (fun he=>?_)
  ·have he1:x≠y:=by simpa using he
   conv=>whnf
   intro ρe we re
   exact⟨_,rfl,hw.tr re.bel,by rw[decide_eq_false (fun e=>he1 (by subst e;rw[hxi]at hyi;injection hyi))];rfl⟩
  have he1:x=y:=by simpa using he
  have ht2:xs.take (i+1)=ys.take (i+1):=by rw[List.take_add_one,List.take_add_one,ht,hxi,hyi,he1]
  conv=>whnf
  refine⟨((i+1:Nat):Int),by rw[wrap64]<;>omega,?_⟩
  conv=>whnf
  intro ρ3 w3 r3
  exact⟨(i+1,w3,_),⟨hib,hw.tr r3.bel,ht2⟩,Sub.gen [] r3 trivial ⟨rfl,rfl,rfl,rfl,rfl,trivial⟩ (by simp[ScH]) (by simp[ScE,SV.sc,At.sc]) (by rfl) (fun lo hi h=>h),by dsimp only;omega⟩
 have hib:i=xs.length:=Nat.le_antisymm hi (by simpa using hib)
 rw[hib,List.take_length,hl2,List.take_length]at ht
 conv=>whnf
 intro ρe we re
 exact⟨_,rfl,hw.tr re.bel,by rw[decide_eq_true ht];rfl⟩
theorem rowSame_c{S:Nat→Prop}{w:World}{v u:Value}{xs ys:List Rat}(hS:Old S w)(hx:RowR w S S v xs)(hy:RowR w S S u ys)(hqx:∀x∈xs,rl x≤10000000000)(hqy:∀x∈ys,rl x≤10000000000):
  Con PG N.exact_row_same #[v,u] w (Ret w fun v' _=>v'= .bool (decide (xs=ys))):=by
 have hw:Bel w.heap.size w w:=Bel.refl
 have hx0:=hx
 have hy0:=hy
 obtain⟨ax,cx,rfl,hcx,-⟩:=hx0.shape
 obtain⟨ay,cy,rfl,hcy,-⟩:=hy0.shape
 refine in_exact_row_same (by simp) ?_
 conv=>whnf
 refine callE_S (callE_con (Φ:=fun _ w' v w2=>v= .bool (decide (xs=ys))) (fun ρ w' r=>equalFrac_c (fun g hg=>by have:=hS g hg;have:=r.baseLe;omega) (hx.keep fun g hg=>(hw.tr r.bel).block g (hS g (hg.elim id id))) (hy.keep fun g hg=>(hw.tr r.bel).block g (hS g (hg.elim id id))) hqx hqy) ?_)
 rintro ρ wa1 v1 wb1 r he hb rfl
 replace hw:=hw.tr hb
 clear r he hb
 generalize (wa1.heap.size,wb1.heap.size)::[]=iv1 at*
 conv=>whnf
 intro ρe we re
 exact⟨_,rfl,hw.tr re.bel,rfl⟩
end Go.Ex
