/- A part of the proof: texts X142 to X147. Each tells its conditions in its theorems. -/
import Derived.Test.YtkdcaknoaeicdaaGreatP11
/- The load vector and the flexibilities of a frame. Printed by program. No condition but sizes. -/
namespace Go.Ex
open Go Go.Sx Go.Proofs

def ldC(x:Ld):List Int:=[x.2.1,x.2.2.1,x.2.2.2]
def loadTo(s:List Int)(x:Ld):Nat→List Int
 |0=>s
 |k+1=>sumAt (loadTo s x k) (3*x.1+k).toNat ((ldC x).getD k 0)
def loadsT(n:Nat)(l:List Ld):Nat→List Int
 |0=>List.replicate (3*n) 0
 |i+1=>loadTo (loadsT n l i) (l.getD i (0,0,0,0)) 3
def vecT(f:Frm)(l:List Ld):List Rat:=wholesF (loadsT f.nodes.length l l.length)
structure LdsOk(n:Nat)(l:List Ld):Prop where
 len:l.length≤200
 ld:∀x∈l,(0≤x.1∧x.1<n)∧(-1000000≤x.2.1∧x.2.1≤1000000)∧(-1000000≤x.2.2.1∧x.2.2.1≤1000000)∧(-1000000≤x.2.2.2∧x.2.2.2≤1000000)
theorem loadTo_len(s:List Int)(x:Ld):∀k,(loadTo s x k).length=s.length
 |0=>rfl
 |k+1=>by rw[loadTo,sumAt,List.length_set];exact loadTo_len s x k
theorem loadsT_len(n:Nat)(l:List Ld):∀i,(loadsT n l i).length=3*n
 |0=>List.length_replicate ..
 |i+1=>by rw[loadsT,loadTo_len];exact loadsT_len n l i
theorem loadTo_succ{s:List Int}{x:Ld}{k j:Nat}{d z:Int}(e:3*x.1+(k:Int)=j)(hd:(ldC x).getD k 0=d)(hz:(loadTo s x k)[j]? =some z):(loadTo s x k).set j (z+d)=loadTo s x (k+1):=by
 rw[loadTo,sumAt,hd,e,Int.toNat_natCast,show(loadTo s x k).getD j 0=z by rw[List.getD,hz];rfl]
def LBd(s:List Int)(t:Int):Prop:=∀z∈s,-t≤z∧z≤t
theorem LBd.set{s:List Int}{t t2 z:Int}{j:Nat}(h:LBd s t)(ht:t≤t2)(hz: -t2≤z∧z≤t2):LBd (s.set j z) t2:=fun y hy=>by
 rcases List.mem_or_eq_of_mem_set hy with hy|rfl
 ·have:=h y hy;omega
 ·exact hz
def zv(l:List Int):List Value:=l.map fun z=>.int .i64 z
theorem zv_len(l:List Int):(zv l).length=l.length:=List.length_map ..
theorem zv_at{l:List Int}{j:Nat}{z:Int}(h:l[j]? =some z):(zv l)[j]? =some (.int .i64 z):=by rw[zv,List.getElem?_map,h];rfl
theorem zv_set{l:List Int}{j:Nat}{z:Int}(h:j<l.length):(zv l).take j++[.int .i64 z]++(zv l).drop (j+1)=zv (l.set j z):=by
 rw[zv,zv,List.map_set]
 exact set_take_drop (by rw[List.length_map];exact h)
theorem flexF_length(f:Frm):(flexF f).length=f.cols:=by simp[flexF,Frm.cols]
theorem RatsL.pushC{S:Nat→Prop}{w:World}{css:List (List Value)}{qs:List Rat}{cs:List Value}{q:Rat}(h:css.length=qs.length∧∀(j:Nat) cs q,css[j]? =some cs→qs[j]? =some q→Rat4L w S cs q)(hc:Rat4L w S cs q):
  (css++[cs]).length=(qs++[q]).length∧∀(j:Nat) c p,(css++[cs])[j]? =some c→(qs++[q])[j]? =some p→Rat4L w S c p:=by
 refine⟨by simp[h.1],fun j x p h1 h2=>?_⟩
 rcases Nat.lt_or_ge j css.length with hi|hi
 ·rw[List.getElem?_append_left hi]at h1
  rw[List.getElem?_append_left (by rw[←h.1];exact hi)]at h2
  exact h.2 j x p h1 h2
 ·have hi0:j=css.length:=by have:=(List.getElem?_eq_some_iff.1 h1).1;simp at this;omega
  subst hi0
  rw[List.getElem?_append_right (Nat.le_refl _),Nat.sub_self]at h1
  rw[h.1,List.getElem?_append_right (Nat.le_refl _),Nat.sub_self]at h2
  simp at h1 h2
  subst h1 h2
  exact hc
set_option maxHeartbeats 1000000 in
theorem sVector_c{S:Nat→Prop}{w:World}{vl vb vs:Value}{an:Option Addr}{cn:Nat}{f:Frm}{l:List Ld}(hS:Old S w)(hl:LoadsR w S vl l)(hn20:f.nodes.length≤20)(hok:LdsOk f.nodes.length l)
  {ab aq:Option Addr} {nb cb nq cq:Nat} (hvb:vb= .slice ab nb cb) (hvs:vs= .slice aq nq cq):
  Con PG N.statics_vector #[.agg #[.slice an f.nodes.length cn,vb,vs],vl] w (Ret w fun v' w2=>RowXc w2 (fun _=>False) w.heap.size [(w.heap.size,w2.heap.size)] v' (3*f.nodes.length) (vecT f l)∧∀q∈vecT f l,rl q≤1):=by
 subst hvb hvs
 have hw:Bel w.heap.size w w:=Bel.refl
 obtain⟨al,cl,rfl,hcl,hml⟩:=hl.shape
 have hl200:=hok.len
 refine in_statics_vector (by simp) ?_
 conv=>whnf
 refine⟨((3*f.nodes.length:Nat):Int),by rw[wrap64]<;>omega,?_⟩
 conv=>whnf
 obtain⟨m,hm⟩:∃m,3*f.nodes.length=m:=⟨_,rfl⟩
 rw[hm]
 refine⟨m,m,rfl,rfl,Nat.le_refl _,by omega,by omega,?_⟩
 conv=>whnf
 refine⟨Nat×World,fun z=>⟨[(5,.o (.s 1 0 m m)),(18,.o (.v (.slice al l.length cl))),(19,.o (.v (.int .i64 l.length))),(20,.o (.v (.int .i64 ((z.1:Nat):Int))))],[(1,.arr T.int (zv (loadsT f.nodes.length l z.1)))],2,[],z.2⟩,fun z=>l.length-z.1,
  fun z=>z.1≤l.length∧Bel w.heap.size w z.2∧LBd (loadsT f.nodes.length l z.1) (3000000*z.1),?_,?_⟩
 ·intro ρ w' r3
  exact⟨(0,w'),⟨Nat.zero_le _,hw.tr r3.bel,fun z hz=>by rw[loadsT]at hz;rw[List.eq_of_mem_replicate hz];exact⟨Int.le_refl _,Int.le_refl _⟩⟩,Sub.gen [] r3 ⟨by dsimp only;rw[loadsT,hm,zv,List.map_replicate];rfl,trivial⟩ ⟨rfl,rfl,rfl,rfl,trivial⟩ (by simp[ScH,Blk.scopd,At.sc]) (by simp[ScE,SV.sc,At.sc,initE]) (by rfl) (fun lo hi h=>h)⟩
 clear hw
 rintro⟨i,w1⟩ ⟨hi,hw,hbd⟩
 dsimp only at hi hw hbd ⊢
 conv=>whnf
 refine BrS.mk (fun hib=>?_) (fun hib=>?_)
 ·have hib:i<l.length:=by simpa using hib
  obtain⟨x,hx⟩:∃x,l[i]? =some x:=⟨_,List.getElem?_eq_getElem hib⟩
  obtain⟨hn,hx1,hx2,hx3⟩:=hok.ld x (List.mem_of_getElem? hx)
  obtain⟨kn,hkn⟩:=Int.eq_ofNat_of_zero_le hn.1
  obtain⟨adx,cs,hax,hP,-,hlx⟩:=hl.load (by decide) hx
  have hP:cs=[.int .i64 x.1,.int .i64 x.2.1,.int .i64 x.2.2.1,.int .i64 x.2.2.2]:=hP
  subst hP
  conv=>whnf
  refine⟨adx,hax,⟨by omega,by omega⟩,?_⟩
  conv=>whnf
  refine⟨[.int .i64 x.1,.int .i64 x.2.1,.int .i64 x.2.2.1,.int .i64 x.2.2.2],rfl,fun ρ w' r j u hu=>?_,?_⟩
  ·obtain⟨k1,k2⟩:=hlx j u hu
   rw[Int.toNat_natCast,cell_of_heap (w:=w) (w2:=w') (by rw[addB,addB];exact(hw.tr r.bel).block _ (hS _ k1))]
   exact k2
  conv=>whnf
  refine⟨Nat×World,fun z=>⟨[(5,.o (.s 1 0 m m)),(7,.o (.p 2 0)),(30,.a [.v (.int .i64 x.2.1),.v (.int .i64 x.2.2.1),.v (.int .i64 x.2.2.2)]),(31,.o (.v (.int .i64 ((z.1:Nat):Int)))),(18,.o (.v (.slice al l.length cl))),(19,.o (.v (.int .i64 l.length))),(20,.o (.v (.int .i64 ((i:Nat):Int))))],[(2,.box T.Load [.v (.int .i64 x.1),.v (.int .i64 x.2.1),.v (.int .i64 x.2.2.1),.v (.int .i64 x.2.2.2)]),(1,.arr T.int (zv (loadTo (loadsT f.nodes.length l i) x z.1)))],3,[],z.2⟩,fun z=>3-z.1,
   fun z=>z.1≤3∧Bel w.heap.size w z.2∧LBd (loadTo (loadsT f.nodes.length l i) x z.1) (3000000*i+1000000*z.1),?_,?_⟩
  ·intro ρ w' r3
   exact⟨(0,w'),⟨Nat.zero_le _,hw.tr r3.bel,hbd⟩,Sub.gen [] r3 ⟨rfl,rfl,trivial⟩ ⟨rfl,rfl,rfl,rfl,rfl,rfl,rfl,trivial⟩ (by simp[ScH,Blk.scopd,At.sc]) (by simp[ScE,SV.sc,At.sc,initE]) (by rfl) (fun lo hi h=>h)⟩
  clear hw hbd
  rintro⟨k,w3⟩ ⟨hk,hw,hbd⟩
  dsimp only at hk hw hbd ⊢
  conv=>whnf
  refine BrS.mk (fun hkb=>?_) (fun hkb=>?_)
  ·have hkb:k<3:=by have:=of_decide_eq_true hkb;omega
   obtain⟨d,hd⟩:∃d,(ldC x).getD k 0=d:=⟨_,rfl⟩
   have hdb: -1000000≤d∧d≤1000000:=by
    rw[←hd,ldC]
    rcases(show k=0∨k=1∨k=2 by omega)with rfl|rfl|rfl<;>simp[List.getD]<;>omega
   have hLl:(loadTo (loadsT f.nodes.length l i) x k).length=m:=by rw[loadTo_len,loadsT_len,hm]
   obtain⟨z,hz⟩:∃z,(loadTo (loadsT f.nodes.length l i) x k)[3*kn+k]? =some z:=⟨_,List.getElem?_eq_getElem (by omega)⟩
   have hzb:=hbd z (List.mem_of_getElem? hz)
   have hej:3*x.1+(k:Int)=((3*kn+k:Nat):Int):=by omega
   have hnx:=loadTo_succ hej hd hz
   have hbd2:=hbd.set (j:=3*kn+k) (z:=z+d) (t2:=3000000*i+1000000*(k+1:Nat)) (by omega) (by omega)
   rw[hnx]at hbd2
   refine opS_indexT hτ (cs:= #[.int .i64 x.2.1,.int .i64 x.2.2.1,.int .i64 x.2.2.2]) rfl rfl rfl (fun _=>rfl) rfl ⟨by omega,by omega⟩ (u:=.int .i64 d) ?_ (fun ρ w4 r=>?_)
   ·rw[←hd,ldC,Int.toNat_natCast]
    rcases(show k=0∨k=1∨k=2 by omega)with rfl|rfl|rfl<;>rfl
   replace hw:=hw.tr r.bel
   clear r
   conv=>whnf
   refine⟨3*x.1,by rw[wrap64]<;>omega,?_⟩
   conv=>whnf
   refine⟨((3*kn+k:Nat):Int),by rw[wrap64]<;>omega,?_⟩
   conv=>whnf
   refine⟨⟨by omega,by omega⟩,?_⟩
   conv=>whnf
   refine⟨.int .i64 z,by rw[Int.toNat_natCast,Nat.mul_one,Nat.zero_add];exact zv_at hz,?_⟩
   conv=>whnf
   refine⟨z+d,by rw[wrap64]<;>omega,?_⟩
   conv=>whnf
   refine⟨⟨by omega,by omega⟩,?_⟩
   conv=>whnf
   refine⟨by rw[zv_len];omega,zv (loadTo (loadsT f.nodes.length l i) x (k+1)),?_,?_⟩
   ·rw[Int.toNat_natCast,Nat.mul_one,Nat.zero_add,←hnx]
    exact zv_set (by omega)
   conv=>whnf
   refine⟨((k+1:Nat):Int),by rw[wrap64]<;>omega,?_⟩
   conv=>whnf
   intro ρ3 w6 r3
   exact⟨(k+1,w6),⟨hkb,hw.tr r3.bel,hbd2⟩,Sub.gen [] r3 ⟨rfl,rfl,trivial⟩ ⟨rfl,rfl,rfl,rfl,rfl,rfl,rfl,trivial⟩ (by simp[ScH,Blk.scopd,At.sc]) (by simp[ScE,SV.sc,At.sc,initE]) (by rfl) (fun lo hi h=>h),by dsimp only;omega⟩
  have hkb:k=3:=by have:=of_decide_eq_false hkb;omega
  subst hkb
  have hnx:loadTo (loadsT f.nodes.length l i) x 3=loadsT f.nodes.length l (i+1):=by rw[loadsT,show l.getD i (0,0,0,0)=x by rw[List.getD,hx];rfl]
  rw[hnx]at hbd ⊢
  conv=>whnf
  refine⟨((i+1:Nat):Int),by rw[wrap64]<;>omega,?_⟩
  conv=>whnf
  intro ρ3 w6 r3
  exact⟨(i+1,w6),⟨hib,hw.tr r3.bel,fun z hz=>by have:=hbd z hz;dsimp only;omega⟩,Sub.gen [] r3 ⟨rfl,trivial⟩ ⟨rfl,rfl,rfl,rfl,trivial⟩ (by simp[ScH,Blk.scopd,At.sc]) (by simp[ScE,SV.sc,At.sc,initE]) (by rfl) (fun lo hi h=>h),by dsimp only;omega⟩
 have hib:i=l.length:=Nat.le_antisymm hi (by simpa using hib)
 subst hib
 obtain⟨s,hs⟩:∃s,loadsT f.nodes.length l l.length=s:=⟨_,rfl⟩
 have hsl:s.length=m:=by rw[←hs,loadsT_len,hm]
 rw[hs]at hbd ⊢
 unfold vecT
 rw[hs]
 conv=>whnf
 refine⟨m,m,rfl,rfl,Nat.le_refl _,by omega,by omega,?_⟩
 conv=>whnf
 refine⟨Nat×List (List Value)×Iv×World,fun z=>⟨[(10,.o (.s 2 0 m m)),(51,.o (.s 1 0 m m)),(52,.o (.v (.int .i64 m))),(53,.o (.v (.int .i64 ((z.1:Nat):Int))))],[(2,.arr T.Rat z.2.1.flatten),(1,.arr T.int (zv s))],3,z.2.2.1,z.2.2.2⟩,fun z=>m-z.1,
  fun z=>z.1≤m∧Bel w.heap.size w z.2.2.2∧FillC z.2.2.2 (Cv (fun _=>False) w.heap.size z.2.2.1) m z.1 z.2.1 (wholesF s),?_,?_⟩
 ·intro ρ w' r
  exact⟨(0,List.replicate m f0,_,w'),⟨Nat.zero_le _,hw.tr r.bel,FillC.start _ _ _ _⟩,Sub.gen [] r ⟨rfl,rfl,trivial⟩ ⟨rfl,rfl,rfl,rfl,trivial⟩ (by simp[ScH,Blk.scopd,At.sc]) (by simp[ScE,SV.sc,At.sc,initE]) (by rfl) (fun lo hi h=>h)⟩
 clear hw
 rintro⟨i,css,iv,w1⟩ ⟨hi2,hw,hF⟩
 dsimp only at hi2 hw hF ⊢
 conv=>whnf
 refine BrS.mk (fun hib=>?_) (fun hib=>?_)
 ·have hib:i<m:=by simpa using hib
  obtain⟨z,hz⟩:∃z,s[i]? =some z:=⟨_,List.getElem?_eq_getElem (by omega)⟩
  have hzb:=hbd z (List.mem_of_getElem? hz)
  conv=>whnf
  refine⟨⟨by omega,by omega⟩,?_⟩
  conv=>whnf
  refine⟨.int .i64 z,by rw[Int.toNat_natCast,Nat.mul_one,Nat.zero_add];exact zv_at hz,?_⟩
  conv=>whnf
  refine callE_S (cE hw (Φ:=fun _ w' v w2=>RatC w2 (Nw (fun _=>False) w' w2) v (z:Rat)) (fun ρ w' r=>sWhole_c z w' (by omega) (by omega)) ?_)
  rintro ρ wa1 v1 wb1 iv1 r he hw h_ hn
  replace hF:=hF.past r (oldF w) he (mC h_)
  have hd:=hn.got (S:=fun _=>False) r.baseLe (mN h_)
  clear r hn
  obtain⟨s1_0,s1_1,s1_2,s1_3,s1_4,s1_5,s1_6,s1_7,rfl⟩:=hd.shape
  have hnext:=hF.next hib (q:=_) (by rw[wholesF,List.getElem?_map,hz];rfl) hd
  conv=>whnf
  refine⟨⟨by omega,by omega⟩,?_⟩
  conv=>whnf
  refine⟨by have:=hF.flat;omega,(css.set i [.bool s1_0,.slice s1_1 s1_2 s1_3,.bool s1_4,.slice s1_5 s1_6 s1_7]).flatten,?_,?_⟩
  ·have:=flat_set (cs:=[.bool s1_0,.slice s1_1 s1_2 s1_3,.bool s1_4,.slice s1_5 s1_6 s1_7]) hF.four (show i<css.length by rw[hF.len];exact hib)
   rw[←this]
   simp
  conv=>whnf
  refine⟨((i+1:Nat):Int),by rw[wrap64]<;>omega,?_⟩
  conv=>whnf
  intro ρ3 w3 r3
  exact⟨(i+1,css.set i [.bool s1_0,.slice s1_1 s1_2 s1_3,.bool s1_4,.slice s1_5 s1_6 s1_7],_,w3),⟨hib,hw.tr r3.bel,hnext.rel r3 (oldF w)⟩,Sub.gen [] r3 ⟨rfl,rfl,trivial⟩ ⟨rfl,rfl,rfl,rfl,trivial⟩ (by simp[ScH,Blk.scopd,At.sc]) (by simp[ScE,SV.sc,At.sc,initE]) (by rfl) (fun lo hi h=>h),by dsimp only;omega⟩
 have hib:i=m:=Nat.le_antisymm hi2 (by simpa using hib)
 subst hib
 conv=>whnf
 intro ρe we re
 exact⟨_,rfl,hw.tr re.bel,hF.done (by rw[wholesF,List.length_map];exact hsl) (by unfold maxLen;omega) re (id:=2) rfl (re.nn 2 _ rfl (by intros;simp) (by simp)),fun q hq=>by
  obtain⟨z,hz,rfl⟩:=List.mem_map.1 hq
  have:=hbd z hz
  exact rl_smallZ (by omega) (by omega)⟩
set_option maxHeartbeats 1000000 in
theorem sFlexes_c{S:Nat→Prop}{w:World}{vn vb vs:Value}{f:Frm}(hS:Old S w)(hf:FrameR w S vn vb vs f)(hok:FrmOk f):
  Con PG N.statics_flexes #[.agg #[vn,vb,vs]] w (Ret w fun v' w2=>RatsL w2 (Nw S w w2) v' (flexF f)):=by
 have hw:Bel w.heap.size w w:=Bel.refl
 obtain⟨an,cn,ab,cb,aq,cq,rfl,rfl,rfl,hmn,hmb,hms⟩:=hf.shape
 have hf0:=hf
 refine in_statics_flexes (by simp) ?_
 conv=>whnf
 refine⟨Nat×List (List Value)×World,fun z=>⟨[(3,.o (.w 1 z.2.1.length)),(9,.o (.v (.slice ab f.bars.length cb))),(10,.o (.v (.int .i64 f.bars.length))),(11,.o (.v (.int .i64 ((z.1:Nat):Int)))),(1,.o (.p 0 0))],[(1,.vec T.Rat 4 z.2.1.flatten),(0,.box T.Frame [.v (.slice an f.nodes.length cn),.v (.slice ab f.bars.length cb),.v (.slice aq f.sups.length cq)])],2,[],z.2.2⟩,fun z=>f.bars.length-z.1,
  fun z=>z.1≤f.bars.length∧Bel w.heap.size w z.2.2∧(∀cs∈z.2.1,cs.length=4)∧(z.2.1.length=((fun i=>(f.bars.take i).map (·.2.2)) z.1).length∧∀(j:Nat) cs q,z.2.1[j]? =some cs→((fun i=>(f.bars.take i).map (·.2.2)) z.1)[j]? =some q→Rat4L z.2.2 S cs q),?_,?_⟩
 ·intro ρ w' r
  exact⟨(0,[],w'),⟨Nat.zero_le _,hw.tr r.bel,fun cs h=>(by cases h),rfl,fun j cs q h=>by cases h⟩,Sub.nil 3 T.Rat 4 rfl (by simp[ScE,SV.sc,At.sc,initE]) r fun ρ1 r1=>Sub.gen [] r1 ⟨rfl,rfl,trivial⟩ ⟨rfl,rfl,rfl,rfl,rfl,trivial⟩ (by simp[ScH,Blk.scopd,At.sc]) (by simp[ScE,SV.sc,At.sc,initE]) (by rfl) (fun lo hi h=>h)⟩
 clear hw
 rintro⟨k,css,w1⟩ ⟨hk,hw,hc4,hR⟩
 dsimp only at hk hw hc4 hR ⊢
 have hfl:=flat_len hc4
 conv=>whnf
 refine BrS.mk (fun hkb=>?_) (fun hkb=>?_)
 ·have hkb:k<f.bars.length:=by simpa using hkb
  have hb60:=hok.b
  have hs60:=hok.s
  obtain⟨b,hb⟩:∃b,f.bars[k]? =some b:=⟨_,List.getElem?_eq_getElem hkb⟩
  have hnx:(fun i=>(f.bars.take i).map (·.2.2)) (k+1)=(fun i=>(f.bars.take i).map (·.2.2)) k++[b.2.2]:=by dsimp only;rw[List.take_add_one,hb];simp
  obtain⟨adb,cs,hab,hF,-,hlb⟩:=hf0.bars.load (by decide) hb
  obtain⟨g0,g1,g2,g3,g4,g5,g6,g7,rfl,hF⟩:=hF
  conv=>whnf
  refine⟨adb,hab,⟨by omega,by omega⟩,?_⟩
  conv=>whnf
  refine⟨[.int .i64 b.1,.int .i64 b.2.1,.bool g0,.slice g1 g2 g3,.bool g4,.slice g5 g6 g7],rfl,fun ρ w' r j u hu=>?_,?_⟩
  ·obtain⟨k1,k2⟩:=hlb j u hu
   rw[Int.toNat_natCast,cell_of_heap (w:=w) (w2:=w') (by rw[addB,addB];exact(hw.tr r.bel).block _ (hS _ k1))]
   exact k2
  conv=>whnf
  have hC2:Rat4L w1 S [.bool g0,.slice g1 g2 g3,.bool g4,.slice g5 g6 g7] b.2.2:=⟨_,_,_,_,_,_,_,_,rfl,hF.keep fun g hg=>hw.block g (hS g hg)⟩
  have hR2:=RatsL.pushC hR hC2
  rw[←hnx]at hR2
  have hfl2:css.flatten++([.bool g0,.slice g1 g2 g3,.bool g4,.slice g5 g6 g7]:List Value)=(css++([[.bool g0,.slice g1 g2 g3,.bool g4,.slice g5 g6 g7]]:List (List Value))).flatten:=by simp
  have hlen2:css.length≤200:=by rw[hR.1,List.length_map,List.length_take];have:=hok.b;omega
  refine .inl ?_
  conv=>whnf
  refine⟨by omega,by omega,by unfold maxLen;omega,?_⟩
  conv=>whnf
  refine⟨((k+1:Nat):Int),by rw[wrap64]<;>omega,?_⟩
  conv=>whnf
  intro ρ3 w3 r3
  exact⟨(k+1,css++[[.bool g0,.slice g1 g2 g3,.bool g4,.slice g5 g6 g7]],w3),⟨hkb,hw.tr r3.bel,fun cs hc=>by
   rcases List.mem_append.1 hc with hc|hc
   ·exact hc4 cs hc
   ·rw[List.mem_singleton.1 hc];rfl,hR2.1,fun j cs q h1 h2=>(hR2.2 j cs q h1 h2).keep fun g hg=>(r3.bel).block g (hS g hg)⟩,Sub.gen [(1,4)] r3 ⟨by dsimp only;rw[←hfl2];rfl,rfl,trivial⟩ ⟨by dsimp only;rw[List.length_append,List.length_singleton];rfl,rfl,rfl,rfl,rfl,trivial⟩ (by simp[ScH,Blk.scopd,At.sc]) (by simp[ScE,SV.sc,At.sc,initE]) (by rfl) (fun lo hi h=>h),by dsimp only;omega⟩
 have hkb:k=f.bars.length:=Nat.le_antisymm hk (by simpa using hkb)
 subst hkb
 have hrl:css.length=f.bars.length:=by rw[hR.1,List.length_map,List.length_take];omega
 rw[List.take_length,show f.bars.map (·.2.2)=f.bars.map (·.2.2)++(f.sups.take 0).map (·.2.2) by simp]at hR
 conv=>whnf
 refine⟨Nat×List (List Value)×World,fun z=>⟨[(3,.o (.w 1 z.2.1.length)),(22,.o (.v (.slice aq f.sups.length cq))),(23,.o (.v (.int .i64 f.sups.length))),(24,.o (.v (.int .i64 ((z.1:Nat):Int))))],[(1,.vec T.Rat 4 z.2.1.flatten),(0,.box T.Frame [.v (.slice an f.nodes.length cn),.v (.slice ab f.bars.length cb),.v (.slice aq f.sups.length cq)])],2,[],z.2.2⟩,fun z=>f.sups.length-z.1,
  fun z=>z.1≤f.sups.length∧Bel w.heap.size w z.2.2∧(∀cs∈z.2.1,cs.length=4)∧(z.2.1.length=((fun i=>f.bars.map (·.2.2)++(f.sups.take i).map (·.2.2)) z.1).length∧∀(j:Nat) cs q,z.2.1[j]? =some cs→((fun i=>f.bars.map (·.2.2)++(f.sups.take i).map (·.2.2)) z.1)[j]? =some q→Rat4L z.2.2 S cs q),?_,?_⟩
 ·intro ρ w' r3
  exact⟨(0,css,w'),⟨Nat.zero_le _,hw.tr r3.bel,hc4,hR.1,fun j cs q h1 h2=>(hR.2 j cs q h1 h2).keep fun g hg=>(r3.bel).block g (hS g hg)⟩,Sub.gen [] r3 ⟨rfl,rfl,trivial⟩ ⟨rfl,rfl,rfl,rfl,trivial⟩ (by simp[ScH,Blk.scopd,At.sc]) (by simp[ScE,SV.sc,At.sc,initE]) (by rfl) (fun lo hi h=>h)⟩
 clear hw hc4 hR hk hrl
 rintro⟨k,css,w1⟩ ⟨hk,hw,hc4,hR⟩
 dsimp only at hk hw hc4 hR ⊢
 have hfl:=flat_len hc4
 conv=>whnf
 refine BrS.mk (fun hkb=>?_) (fun hkb=>?_)
 ·have hkb:k<f.sups.length:=by simpa using hkb
  have hb60:=hok.b
  have hs60:=hok.s
  obtain⟨b,hb⟩:∃b,f.sups[k]? =some b:=⟨_,List.getElem?_eq_getElem hkb⟩
  have hnx:(fun i=>f.bars.map (·.2.2)++(f.sups.take i).map (·.2.2)) (k+1)=(fun i=>f.bars.map (·.2.2)++(f.sups.take i).map (·.2.2)) k++[b.2.2]:=by dsimp only;rw[List.take_add_one,hb];simp
  obtain⟨adb,cs,hab,hF,-,hlb⟩:=hf0.sups.load (by decide) hb
  obtain⟨g0,g1,g2,g3,g4,g5,g6,g7,rfl,hF⟩:=hF
  conv=>whnf
  refine⟨adb,hab,⟨by omega,by omega⟩,?_⟩
  conv=>whnf
  refine⟨[.int .i64 b.1,.int .i64 b.2.1,.bool g0,.slice g1 g2 g3,.bool g4,.slice g5 g6 g7],rfl,fun ρ w' r j u hu=>?_,?_⟩
  ·obtain⟨k1,k2⟩:=hlb j u hu
   rw[Int.toNat_natCast,cell_of_heap (w:=w) (w2:=w') (by rw[addB,addB];exact(hw.tr r.bel).block _ (hS _ k1))]
   exact k2
  conv=>whnf
  have hC2:Rat4L w1 S [.bool g0,.slice g1 g2 g3,.bool g4,.slice g5 g6 g7] b.2.2:=⟨_,_,_,_,_,_,_,_,rfl,hF.keep fun g hg=>hw.block g (hS g hg)⟩
  have hR2:=RatsL.pushC hR hC2
  rw[←hnx]at hR2
  have hfl2:css.flatten++([.bool g0,.slice g1 g2 g3,.bool g4,.slice g5 g6 g7]:List Value)=(css++([[.bool g0,.slice g1 g2 g3,.bool g4,.slice g5 g6 g7]]:List (List Value))).flatten:=by simp
  have hlen2:css.length≤200:=by rw[hR.1,List.length_append,List.length_map,List.length_map,List.length_take];have:=hok.b;have:=hok.s;omega
  refine .inl ?_
  conv=>whnf
  refine⟨by omega,by omega,by unfold maxLen;omega,?_⟩
  conv=>whnf
  refine⟨((k+1:Nat):Int),by rw[wrap64]<;>omega,?_⟩
  conv=>whnf
  intro ρ3 w3 r3
  exact⟨(k+1,css++[[.bool g0,.slice g1 g2 g3,.bool g4,.slice g5 g6 g7]],w3),⟨hkb,hw.tr r3.bel,fun cs hc=>by
   rcases List.mem_append.1 hc with hc|hc
   ·exact hc4 cs hc
   ·rw[List.mem_singleton.1 hc];rfl,hR2.1,fun j cs q h1 h2=>(hR2.2 j cs q h1 h2).keep fun g hg=>(r3.bel).block g (hS g hg)⟩,Sub.gen [(1,4)] r3 ⟨by dsimp only;rw[←hfl2];rfl,rfl,trivial⟩ ⟨by dsimp only;rw[List.length_append,List.length_singleton];rfl,rfl,rfl,rfl,trivial⟩ (by simp[ScH,Blk.scopd,At.sc]) (by simp[ScE,SV.sc,At.sc,initE]) (by rfl) (fun lo hi h=>h),by dsimp only;omega⟩
 have hkb:k=f.sups.length:=Nat.le_antisymm hk (by simpa using hkb)
 subst hkb
 conv=>whnf
 intro ρe we re
 have hfull:f.bars.map (·.2.2)++(f.sups.take f.sups.length).map (·.2.2)=flexF f:=by rw[List.take_length];rfl
 rw[hfull]at hR
 refine⟨_,rfl,hw.tr re.bel,css,?_,hR.1,hc4,fun j cs q k1 k2=>((hR.2 j cs q k1 k2).keep fun g hg=>(re.bel).block g (hS g hg)).weak fun g hg=>.inl hg⟩
 have hcl:=hR.1
 have h5:=re.vecSeq (id:=1) (sz:=4) (m:=css.length) rfl hfl (by have:=hok.b;have:=hok.s;rw[hcl,flexF_length];unfold Frm.cols maxLen;omega) (by decide) (fun u hu=>by
  obtain⟨cs,hc,hu⟩:=List.mem_flatten.1 hu
  obtain⟨j,hj⟩:=List.getElem?_of_mem hc
  obtain⟨_,_,_,_,_,_,_,_,rfl,_⟩:=hR.2 j cs _ hj (List.getElem?_eq_getElem (by rw[←hcl];exact(List.getElem?_eq_some_iff.1 hj).1))
  simp at hu
  rcases hu with rfl|rfl|rfl|rfl<;>rfl)
 rw[←hcl]
 exact h5.weak fun g hg=>.inr hg
end Go.Ex

/- The forces of a frame that has no stresses. Printed by program. No condition but sizes. -/
namespace Go.Ex
open Go Go.Sx Go.Proofs

theorem redB_nil(cols h:Nat):RedB [] cols h:=by
 refine⟨fun i hi r hr=>?_,fun i hi=>absurd hi (Nat.not_lt_zero i)⟩
 have:i=0:=Nat.le_zero.1 hi
 subst this
 cases hr
theorem solve_nil:solveS [] [] 0=some []:=by decide +kernel
theorem MatC.nil{w:World}{C S:Nat→Prop}:MatC w C S (.slice none 0 0) []:=⟨[],⟨Nat.zero_le _,rfl,by simp,none,0,rfl,Nat.le_refl _,fun j u h=>by cases h⟩,rfl,fun i u x h=>by cases h⟩
theorem RatsC.nilC{w:World}{S:Nat→Prop}:RatsC w S (.slice none 0 0) []:=⟨[],⟨Nat.zero_le _,rfl,by simp,none,0,rfl,Nat.le_refl _,fun j u h=>by cases h⟩,rfl,by simp,fun j cs x h=>by cases h⟩
set_option maxHeartbeats 1000000 in
theorem sForces0_c{S:Nat→Prop}{w:World}{vn vb vs u:Value}{f:Frm}{p:List Rat}{h:Nat}(hS:Old S w)(hf:FrameR w S vn vb vs f)(hok:FrmOk f)(hp:RatsC w S u p)(hpl:p.length=3*f.nodes.length)(hpq:∀q∈p,rl q≤100000)(hc0:0<f.cols)
  (hB1:RedB (wideF (tabF f) (scaleF p (-1))) (f.cols+1) h) (hB2:RedB (tabF f) f.cols h) (hA2:Ht (reduceS (tabF f) f.cols).1 h) (hst:kernelS (tabF f) f.cols=[]) (hh:3*h≤90000):
  Con PG N.statics_forces #[.agg #[vn,vb,vs],u] w (Ret w fun v' w2=>(solveS (tabF f) (scaleF p (-1)) f.cols=none∧v'= .tuple #[.slice none 0 0,.bool false])∨∃x vx,solveS (tabF f) (scaleF p (-1)) f.cols=some x∧v'= .tuple #[vx,.bool true]∧RowXc w2 (fun _=>False) w.heap.size [(w.heap.size,w2.heap.size)] vx f.cols x):=by
 have hw:Bel w.heap.size w w:=Bel.refl
 obtain⟨an,cn,ab,cb,aq,cq,rfl,rfl,rfl,hmn,hmb,hms⟩:=hf.shape
 obtain⟨hn20,hb60,hs60⟩:=And.intro hok.n (And.intro hok.b hok.s)
 have hcols:f.cols=f.bars.length+f.sups.length:=rfl
 obtain⟨ap,cp,rfl,hcp,hmp⟩:=ListR.shape hp
 refine in_statics_forces (by simp) ?_
 conv=>whnf
 refine callE_S (cE hw (Φ:=fun _ w' v w2=>(∃vr,v= .agg #[vr,.int .i64 f.cols]∧RatMC w2 (Nw (fun _=>False) w' w2) vr (tabF f))∧Len f.cols (tabF f)∧Ht (tabF f) 2) (fun ρ w' r=>sTableOf_c (S:=S) (fun g hg=>by have:=hS g hg;have:=r.baseLe;omega) (hf.keep fun g hg=>(hw.tr r.bel).block g (hS g hg)) hok) ?_)
 rintro ρ wa1 v1 wb1 iv1 r he hw h_ ⟨⟨vr,rfl,k1⟩,hlen,hht⟩
 have hM:=RatMC.got (S:=fun _=>False) k1 r.baseLe (mN h_)
 clear r
 obtain⟨am,cm,rfl,hcm,hmm⟩:=SlicesR.shape hM
 have htl:=tabF_length f
 conv=>whnf
 refine drawn_of_pi hτ hmix [.x 0,.x 1,.x 2,.x 3,.x 4,.x 5,.x 6,.x 7,.x 8,.x 9] (by kernel_rfl) (by kernel_rfl) ?_
 conv=>whnf
 refine cE hw (Φ:=fun _ w' v w2=>RatC w2 (Nw (fun _=>False) w' w2) v ((-1:Int):Rat)) (fun ρ w' r=>sWhole_c (-1) w' (by decide) (by decide)) ?_
 rintro ρ wa2 v2 wb2 iv2 r he hw h_ hn
 replace hM:=RatMC.past hM r (oldF w) he (mC h_)
 have hd:=hn.got (S:=fun _=>False) r.baseLe (mN h_)
 clear r
 obtain⟨s2_0,s2_1,s2_2,s2_3,s2_4,s2_5,s2_6,s2_7,rfl⟩:=hd.shape
 conv=>whnf
 refine cE hw (Φ:=fun _ w' v w2=>RowXc w2 (fun _=>False) w'.heap.size [(w'.heap.size,w2.heap.size)] v p.length (scaleF p (-1))) (fun ρ w' r=>sScaled_c (S:=Cv S w.heap.size iv2) (Rel.old r hS) (RatsL.weak (RatsC.l (RatsC.keep hp fun g hg=>(hw.tr r.bel).block g (hS g hg)) fun q hq=>by have:=hpq q hq;omega) fun g hg=>.inl hg) (((hd.rel r (oldF w)).l (by decide)).weak fun g hg=>cvF hg) (by omega)) ?_
 rintro ρ wa3 v3 wb3 iv3 r he hw h_ hn
 replace hM:=RatMC.past hM r (oldF w) he (mC h_)
 have hB:=hn.got (S:=fun _=>False) r.baseLe (mN h_)
 clear r
 obtain⟨a3,c3,rfl,hc3⟩:=hB.row.form
 conv=>whnf
 refine callE_con (Φ:=fun _ w' v w2=>(solveS (tabF f) (scaleF p (-1)) f.cols=none∧v= .tuple #[.slice none 0 0,.bool false])∨∃x vx,solveS (tabF f) (scaleF p (-1)) f.cols=some x∧v= .tuple #[vx,.bool true]∧RowXc w2 (Cv (fun _=>False) w.heap.size iv3) w'.heap.size [(w'.heap.size,w2.heap.size)] vx f.cols x) (fun ρ w' r=>sSolve_c (C:=Cv (fun _=>False) w.heap.size iv3) (S:=Cv (fun _=>False) w.heap.size iv3) (h:=h) (Rel.old r (oldF w)) (Rel.old r (oldF w)) (RatMC.rel hM r (oldF w)) ((hB.rel r (oldF w)).c) (by rw[scaleF,List.length_map,htl];exact hpl) hlen (by omega) (by omega) hB1 hh) ?_
 rintro ρ wa4 v4 wb4 r he hb (⟨hno,rfl⟩|⟨x,vx,hx,rfl,k2⟩)
 ·replace hw:=hw.tr hb
  clear r he hb
  conv=>whnf
  intro ρe we re
  exact⟨_,rfl,hw.tr re.bel,.inl ⟨hno,rfl⟩⟩
 replace hw:=hw.tr hb
 replace hM:=RatMC.past (iv':=(wa4.heap.size,wb4.heap.size)::iv3) hM r (oldF w) he fun x hx=>List.mem_cons_of_mem _ hx
 have hX:=k2.oldS r.baseLe
 clear r he hb k2 hB
 generalize (wa4.heap.size,wb4.heap.size)::iv3=iv4 at*
 obtain⟨ax,cx,rfl,hcx⟩:=hX.row.form
 conv=>whnf
 refine drawn_of_pi hτ hmix [.x 0,.x 2,.x 1,.x 3,.x 4,.x 5] (by kernel_rfl) (by kernel_rfl) ?_
 conv=>whnf
 refine cE hw (Φ:=fun _ w' v w2=>RatMC w2 (Nw (fun _=>False) w' w2) v []) (fun ρ w' r=>hst▸sKernel_c (C:=Cv (fun _=>False) w.heap.size iv4) (S:=Cv (fun _=>False) w.heap.size iv4) (h:=h) (Rel.old r (oldF w)) (Rel.old r (oldF w)) (RatMC.rel hM r (oldF w)) hlen hc0 (by omega) (by omega) hB2 hA2 hh) ?_
 rintro ρ wa5 v5 wb5 iv5 r he hw h_ hn
 replace hX:=hX.past r (oldF w) he (mC h_)
 obtain⟨ak,ck,rfl,-,-⟩:=SlicesR.shape hn
 clear r he
 conv=>whnf
 refine cE hw (Φ:=fun _ w' v w2=>RatsL w2 (Nw S w' w2) v (flexF f)) (fun ρ w' r=>sFlexes_c (S:=S) (fun g hg=>by have:=hS g hg;have:=r.baseLe;omega) (hf.keep fun g hg=>(hw.tr r.bel).block g (hS g hg)) hok) ?_
 rintro ρ wa6 v6 wb6 iv6 r he hw h_ hn
 replace hX:=hX.past r (oldF w) he (mC h_)
 obtain⟨al,cl,rfl,-,-⟩:=ListR.shape hn
 clear r he
 conv=>whnf
 refine⟨World×Iv,fun z=>⟨[(7,.o (.v (.slice ax f.cols cx))),(9,.o (.v (.slice ak 0 ck))),(11,.o (.p 2 0)),(12,.o (.v (.slice none 0 0))),(43,.o (.v (.slice ak 0 ck))),(44,.o (.v (.int .i64 0))),(45,.o (.v (.int .i64 0)))],[(2,.box T.s_table [.v (.slice none 0 0),.v (.int .i64 0)])],3,z.2,z.1⟩,fun _=>0,
  fun z=>Bel w.heap.size w z.1∧RowXc z.1 (fun _=>False) w.heap.size z.2 (.slice ax f.cols cx) f.cols x,?_,?_⟩
 ·intro ρ w' r3
  exact⟨(w',_),⟨hw.tr r3.bel,hX.rel r3 (oldF w)⟩,Sub.gen [] r3 ⟨rfl,trivial⟩ ⟨rfl,rfl,rfl,rfl,rfl,rfl,rfl,trivial⟩ (by simp[ScH,Blk.scopd,At.sc]) (by simp[ScE,SV.sc,At.sc]) (by rfl) (fun lo hi h=>h)⟩
 clear hw hX
 rintro⟨w7,iv⟩ ⟨hw,hX⟩
 dsimp only at hw hX ⊢
 conv=>whnf
 refine callE_S (cE hw (Φ:=fun _ w' v w2=>∃vx,v= .tuple #[vx,.bool true]∧∃a c,vx= .slice a 0 c) (fun ρ w' r=>(sSolve_c (C:=fun _=>False) (S:=fun _=>False) (M:=[]) (b:=[]) (cols:=0) (h:=h) (fun g hg=>hg.elim) (fun g hg=>hg.elim) MatC.nil RatsC.nilC rfl (fun r hr=>by cases hr) (by decide) (by decide) (redB_nil _ _) hh).mono fun e w2 ⟨v2,e1,e2,e3⟩=>⟨v2,e1,e2,by
  rcases e3 with⟨h1,_⟩|⟨x2,vx,h1,h2,h3⟩
  ·rw[solve_nil]at h1;cases h1
  ·obtain⟨a,c,h4,_⟩:=h3.row.form
   exact⟨vx,h2,a,c,h4⟩⟩) ?_)
 rintro ρ wa8 v8 wb8 iv8 r he hw h_ ⟨vx2,rfl,a8,c8,rfl⟩
 replace hX:=hX.past r (oldF w) he (mC h_)
 clear r he
 conv=>whnf
 refine⟨World×Iv,fun z=>⟨[(7,.o (.v (.slice ax f.cols cx))),(87,.o (.v (.slice ak 0 ck))),(88,.o (.v (.int .i64 0))),(89,.o (.v (.int .i64 0)))],[],0,z.2,z.1⟩,fun _=>0,
  fun z=>Bel w.heap.size w z.1∧RowXc z.1 (fun _=>False) w.heap.size z.2 (.slice ax f.cols cx) f.cols x,?_,?_⟩
 ·intro ρ w' r3
  exact⟨(w',_),⟨hw.tr r3.bel,hX.rel r3 (oldF w)⟩,Sub.gen [] r3 trivial ⟨rfl,rfl,rfl,rfl,trivial⟩ (by simp[ScH]) (by simp[ScE,SV.sc,At.sc]) (by rfl) (fun lo hi h=>h)⟩
 clear hw hX
 rintro⟨w7,iv⟩ ⟨hw,hX⟩
 dsimp only at hw hX ⊢
 conv=>whnf
 intro ρe we re
 exact⟨_,rfl,hw.tr re.bel,.inr ⟨x,_,hx,rfl,hX.out re⟩⟩
end Go.Ex

/- The errors of frames and loads; the small checks of package statics. Printed by program. No condition but sizes. -/
namespace Go.Ex
open Go Go.Sx Go.Proofs

/-- the first error of a list's members, each of which is told after those before it -/
def firstE{α:Type}(e:List α→α→Int):List α→List α→Int
 |_,[]=>0
 |seen,x::r=>if e seen x=0 then firstE e (seen++[x]) r else e seen x
section
variable{α:Type}{e:List α→α→Int}{xs:List α}
theorem firstE_step{k:Nat}{x:α}(hx:xs[k]? =some x)(h0:e (xs.take k) x=0):firstE e (xs.take k) (xs.drop k)=firstE e (xs.take (k+1)) (xs.drop (k+1)):=by
 have hk:=(List.getElem?_eq_some_iff.1 hx).1
 have h2:=(List.getElem?_eq_some_iff.1 hx).2
 rw[List.drop_eq_getElem_cons hk,h2,firstE,if_pos h0,List.take_add_one,hx]
 rfl
theorem firstE_ret{k:Nat}{x:α}{c:Int}(hx:xs[k]? =some x)(h0:e (xs.take k) x=c)(hc:c≠0):firstE e (xs.take k) (xs.drop k)=c:=by
 have hk:=(List.getElem?_eq_some_iff.1 hx).1
 have h2:=(List.getElem?_eq_some_iff.1 hx).2
 rw[List.drop_eq_getElem_cons hk,h2,firstE,if_neg (by rw[h0];exact hc),h0]
theorem firstE_end{k:Nat}(hk:xs.length≤k):firstE e (xs.take k) (xs.drop k)=0:=by
 rw[List.drop_eq_nil_of_le hk]
 rfl
theorem firstE_zero(h:firstE e [] xs=0):∀k x,xs[k]? =some x→e (xs.take k) x=0:=by
 have key:∀k,k≤xs.length→firstE e (xs.take k) (xs.drop k)=0∧∀j x,j<k→xs[j]? =some x→e (xs.take j) x=0:=fun k=>by
  induction k with
  |zero=>intro _;exact⟨by simpa using h,fun j x hj=>by omega⟩
  |succ k ih=>
   intro hk
   obtain⟨h1,h2⟩:=ih (by omega)
   obtain⟨x,hx⟩:∃x,xs[k]? =some x:=⟨_,List.getElem?_eq_getElem (by omega)⟩
   have h0:e (xs.take k) x=0:=by
    by_cases h0:e (xs.take k) x=0
    ·exact h0
    ·rw[firstE_ret hx rfl h0]at h1
     exact h1
   refine⟨by rw[←firstE_step hx h0];exact h1,fun j y hj hy=>?_⟩
   rcases Nat.lt_or_ge j k with hjk|hjk
   ·exact h2 j y hjk hy
   ·have:j=k:=by omega
    subst this
    rw[hx]at hy
    injection hy with hy
    rw[←hy]
    exact h0
 exact fun k x hx=>(key xs.length (Nat.le_refl _)).2 k x (List.getElem?_eq_some_iff.1 hx).1 hx
end
def inB(n:Int):Prop:= -1000000≤n∧n≤1000000
instance (n : Int) : Decidable (inB n) := by unfold inB; infer_instance
def nodeE(seen:List (Int×Int×Int))(p:Int×Int×Int):Int:=if inB p.1∧inB p.2.1∧inB p.2.2 then(if p∈seen then 12 else 0)else 2
def barK(b:Int×Int×Rat):Int×Int:=(min b.1 b.2.1,max b.1 b.2.1)
def hasN(n:Nat)(i:Int):Prop:=0≤i∧i<n
instance (n : Nat) (i : Int) : Decidable (hasN n i) := by unfold hasN; infer_instance
def barE(n:Nat)(seen:List (Int×Int×Rat))(b:Int×Int×Rat):Int:=
 if hasN n b.1∧hasN n b.2.1 then(if b.1=b.2.1 then 3 else if barK b∈seen.map barK then 5 else if b.2.2≤0 then 2 else 0)else 6
def supK(s:Int×Int×Rat):Int×Int:=(s.1,s.2.1)
def supE(n:Nat)(seen:List (Int×Int×Rat))(s:Int×Int×Rat):Int:=
 if hasN n s.1 then(if 0≤s.2.1∧s.2.1≤2 then(if supK s∈seen.map supK then 5 else if s.2.2<0 then 2 else 0)else 2)else 6
/-- a frame's error -/
def errF(f:Frm):Int:=
 if 20<f.nodes.length∨60<f.bars.length∨60<f.sups.length then 8 else
  if firstE nodeE [] f.nodes≠0 then firstE nodeE [] f.nodes else
   if firstE (barE f.nodes.length) [] f.bars≠0 then firstE (barE f.nodes.length) [] f.bars else firstE (supE f.nodes.length) [] f.sups
def loadE(n:Nat)(x:Ld):Int:=if hasN n x.1 then(if inB x.2.1∧inB x.2.2.1∧inB x.2.2.2 then 0 else 2)else 6
/-- the error of loads -/
def errL(n:Nat)(l:List Ld):Int:=if 200<l.length then 8 else firstE (fun _=>loadE n) [] l
def errFL(f:Frm)(l:List Ld):Int:=if errF f≠0 then errF f else errL f.nodes.length l
theorem nodeE_zero{seen:List (Int×Int×Int)}{p:Int×Int×Int}:nodeE seen p=0↔(inB p.1∧inB p.2.1∧inB p.2.2)∧p∉seen:=by
 unfold nodeE
 split<;>rename_i h
 ·split<;>rename_i h2<;>simp[h,h2]
 ·simp[h]
theorem barE_zero{n:Nat}{seen:List (Int×Int×Rat)}{b:Int×Int×Rat}:barE n seen b=0↔(hasN n b.1∧hasN n b.2.1)∧b.1≠b.2.1∧barK b∉seen.map barK∧0<b.2.2:=by
 unfold barE
 rw[←Rat.not_le]
 by_cases h:hasN n b.1∧hasN n b.2.1
 ·rw[if_pos h]
  by_cases h2:b.1=b.2.1
  ·rw[if_pos h2];exact⟨(fun e=>by cases e),fun e=>absurd h2 e.2.1⟩
  ·rw[if_neg h2]
   by_cases h3:barK b∈seen.map barK
   ·rw[if_pos h3];exact⟨(fun e=>by cases e),fun e=>absurd h3 e.2.2.1⟩
   ·rw[if_neg h3]
    by_cases h4:b.2.2≤0
    ·rw[if_pos h4];exact⟨(fun e=>by cases e),fun e=>absurd h4 e.2.2.2⟩
    ·rw[if_neg h4];exact⟨fun _=>⟨h,h2,h3,h4⟩,fun _=>rfl⟩
 ·rw[if_neg h];exact⟨(fun e=>by cases e),fun e=>absurd e.1 h⟩
theorem supE_zero{n:Nat}{seen:List (Int×Int×Rat)}{s:Int×Int×Rat}:supE n seen s=0↔hasN n s.1∧(0≤s.2.1∧s.2.1≤2)∧supK s∉seen.map supK∧0≤s.2.2:=by
 unfold supE
 rw[←Rat.not_lt]
 by_cases h:hasN n s.1<;>by_cases h2:0≤s.2.1∧s.2.1≤2<;>by_cases h3:supK s∈seen.map supK<;>by_cases h4:s.2.2<0<;>simp only[h,h2,h3,h4]<;>simp
theorem loadE_zero{n:Nat}{x:Ld}:loadE n x=0↔hasN n x.1∧inB x.2.1∧inB x.2.2.1∧inB x.2.2.2:=by
 unfold loadE
 split<;>rename_i h
 ·split<;>rename_i h2<;>simp[h,h2]
 ·simp[h]
theorem errF_zero{f:Frm}(h:errF f=0):(f.nodes.length≤20∧f.bars.length≤60∧f.sups.length≤60)∧firstE nodeE [] f.nodes=0∧firstE (barE f.nodes.length) [] f.bars=0∧firstE (supE f.nodes.length) [] f.sups=0:=by
 unfold errF at h
 split at h<;>rename_i h1
 ·cases h
 ·split at h<;>rename_i h2
  ·exact absurd h h2
  ·split at h<;>rename_i h3
   ·exact absurd h h3
   ·exact⟨by omega,by simpa using h2,by simpa using h3,h⟩
theorem errF_ok{f:Frm}(h:errF f=0):FrmOk f:=by
 obtain⟨⟨h1,h2,h3⟩,hn,hb,hs⟩:=errF_zero h
 refine⟨fun p hp=>?_,fun b hb'=>?_,fun s hs'=>?_,h1,h2,h3⟩
 ·obtain⟨k,hk⟩:=List.getElem?_of_mem hp
  exact(nodeE_zero.1 (firstE_zero hn k p hk)).1
 ·obtain⟨k,hk⟩:=List.getElem?_of_mem hb'
  exact(barE_zero.1 (firstE_zero hb k b hk)).1
 ·obtain⟨k,hk⟩:=List.getElem?_of_mem hs'
  have:=supE_zero.1 (firstE_zero hs k s hk)
  exact⟨this.1,this.2.1⟩
theorem errL_ok{n:Nat}{l:List Ld}(h:errL n l=0):LdsOk n l:=by
 unfold errL at h
 split at h<;>rename_i h1
 ·cases h
 ·refine⟨by omega,fun x hx=>?_⟩
  obtain⟨k,hk⟩:=List.getElem?_of_mem hx
  exact loadE_zero.1 (firstE_zero h k x hk)
theorem errFL_zero{f:Frm}{l:List Ld}(h:errFL f l=0):errF f=0∧errL f.nodes.length l=0:=by
 unfold errFL at h
 split at h<;>rename_i h1
 ·exact absurd h h1
 ·exact⟨by simpa using h1,h⟩
theorem sInSize_c(n:Int)(w:World):Con PG N.statics_inSize #[.int .i64 n,.int .i64 1000000] w (Ret w fun v' _=>∃d,v'= .bool d∧(d=true↔inB n)):=by
 have hw:Bel w.heap.size w w:=Bel.refl
 refine in_statics_inSize (by simp) ?_
 conv=>whnf
 refine⟨-1000000,by decide,?_⟩
 conv=>whnf
 refine BrS.mk (fun h1=>?_) (fun h1=>?_)
 ·conv=>whnf
  intro ρe we re
  have h1:=of_decide_eq_true h1
  exact⟨_,rfl,hw.tr re.bel,_,rfl,by rw[decide_eq_true_iff];exact⟨fun h=>⟨h1,h⟩,fun h=>h.2⟩⟩
 ·conv=>whnf
  intro ρe we re
  have h1:=of_decide_eq_false h1
  exact⟨_,rfl,hw.tr re.bel,_,rfl,(fun h=>by cases h),fun h=>absurd h.1 h1⟩
theorem sHas_c(n:Int)(w:World)(an ab aq:Option Addr)(ln cn nb cb nq cq:Nat):Con PG N.statics_has #[.agg #[.slice an ln cn,.slice ab nb cb,.slice aq nq cq],.int .i64 n] w (Ret w fun v' _=>∃d,v'= .bool d∧(d=true↔hasN ln n)):=by
 have hw:Bel w.heap.size w w:=Bel.refl
 refine in_statics_has (by simp) ?_
 conv=>whnf
 refine BrS.mk (fun h1=>?_) (fun h1=>?_)
 ·conv=>whnf
  intro ρe we re
  have h1:=of_decide_eq_true h1
  exact⟨_,rfl,hw.tr re.bel,_,rfl,by rw[decide_eq_true_iff];exact⟨fun h=>⟨h1,h⟩,fun h=>h.2⟩⟩
 ·conv=>whnf
  intro ρe we re
  have h1:=of_decide_eq_false h1
  exact⟨_,rfl,hw.tr re.bel,_,rfl,(fun h=>by cases h),fun h=>absurd h.1 h1⟩
theorem sCheckLoad_c(x y0 y1 y2:Int)(n:Nat)(w:World):Con PG N.statics_checkLoad #[.agg #[.int .i64 x,.int .i64 y0,.int .i64 y1,.int .i64 y2],.int .i64 n] w (Ret w fun v' _=>v'= .int .i64 (loadE n (x,y0,y1,y2))):=by
 have hw:Bel w.heap.size w w:=Bel.refl
 refine in_statics_checkLoad (by simp) ?_
 conv=>whnf
 refine BrS.mk (fun h1=>?_) (fun h1=>?_)
 ·have h1:=of_decide_eq_true h1
  conv=>whnf
  intro ρe we re
  exact⟨_,rfl,hw.tr re.bel,by show Value.int .i64 _=_;rw[loadE,if_neg (by unfold hasN;omega)]⟩
 have h1:=of_decide_eq_false h1
 conv=>whnf
 refine BrS.mk (fun h2=>?_) (fun h2=>?_)
 ·have h2:=of_decide_eq_true h2
  conv=>whnf
  intro ρe we re
  exact⟨_,rfl,hw.tr re.bel,by show Value.int .i64 _=_;rw[loadE,if_neg (by unfold hasN;omega)]⟩
 have h2:=of_decide_eq_false h2
 have hh:hasN n x:=by unfold hasN;omega
 conv=>whnf
 refine callE_S (cE hw (Φ:=fun _ w' v w2=>∃d,v= .bool d∧(d=true↔inB y0)) (fun ρ w' r=>sInSize_c _ w') ?_)
 rintro ρ wa1 v1 wb1 iv1 r he hw h_ ⟨d0,rfl,hz0⟩
 clear r
 cases d0
 ·have hz0:¬inB y0:=fun h=>by have:=hz0.2 h;cases this
  conv=>whnf
  intro ρe we re
  exact⟨_,rfl,hw.tr re.bel,by show Value.int .i64 _=_;rw[loadE,if_pos hh,if_neg (fun h=>hz0 h.1)]⟩
 replace hz0:=hz0.1 rfl
 conv=>whnf
 refine callE_S (cE hw (Φ:=fun _ w' v w2=>∃d,v= .bool d∧(d=true↔inB y1)) (fun ρ w' r=>sInSize_c _ w') ?_)
 rintro ρ wa2 v2 wb2 iv2 r he hw h_ ⟨d1,rfl,hz1⟩
 clear r
 cases d1
 ·have hz1:¬inB y1:=fun h=>by have:=hz1.2 h;cases this
  conv=>whnf
  intro ρe we re
  exact⟨_,rfl,hw.tr re.bel,by show Value.int .i64 _=_;rw[loadE,if_pos hh,if_neg (fun h=>hz1 h.2.1)]⟩
 replace hz1:=hz1.1 rfl
 conv=>whnf
 refine callE_S (cE hw (Φ:=fun _ w' v w2=>∃d,v= .bool d∧(d=true↔inB y2)) (fun ρ w' r=>sInSize_c _ w') ?_)
 rintro ρ wa3 v3 wb3 iv3 r he hw h_ ⟨d2,rfl,hz2⟩
 clear r
 cases d2
 ·have hz2:¬inB y2:=fun h=>by have:=hz2.2 h;cases this
  conv=>whnf
  intro ρe we re
  exact⟨_,rfl,hw.tr re.bel,by show Value.int .i64 _=_;rw[loadE,if_pos hh,if_neg (fun h=>hz2 h.2.2)]⟩
 replace hz2:=hz2.1 rfl
 conv=>whnf
 intro ρe we re
 exact⟨_,rfl,hw.tr re.bel,by show Value.int .i64 _=_;rw[loadE,if_pos hh,if_pos ⟨hz0,hz1,hz2⟩]⟩
theorem sCheckLoads_c{S:Nat→Prop}{w:World}{vl:Value}{l:List Ld}{n:Nat}(hS:Old S w)(hl:LoadsR w S vl l):Con PG N.statics_checkLoads #[vl,.int .i64 n] w (Ret w fun v' _=>v'= .int .i64 (errL n l)):=by
 have hw:Bel w.heap.size w w:=Bel.refl
 obtain⟨al,cl,rfl,hcl,hml⟩:=hl.shape
 unfold maxLen at hml
 refine in_statics_checkLoads (by simp) ?_
 conv=>whnf
 refine BrS.mk (fun h1=>?_) (fun h1=>?_)
 ·have h1:=of_decide_eq_true h1
  conv=>whnf
  intro ρe we re
  exact⟨_,rfl,hw.tr re.bel,by show Value.int .i64 _=_;rw[errL,if_pos (by omega)]⟩
 have h1:=of_decide_eq_false h1
 conv=>whnf
 refine⟨Nat×World×Iv,fun z=>⟨[(1,.o (.v (.int .i64 n))),(11,.o (.v (.slice al l.length cl))),(12,.o (.v (.int .i64 l.length))),(13,.o (.v (.int .i64 ((z.1:Nat):Int))))],[],0,z.2.2,z.2.1⟩,fun z=>l.length-z.1,
  fun z=>z.1≤l.length∧Bel w.heap.size w z.2.1∧errL n l=firstE (fun _=>loadE n) (l.take z.1) (l.drop z.1),?_,?_⟩
 ·intro ρ w' r3
  exact⟨(0,w',[]),⟨Nat.zero_le _,hw.tr r3.bel,by rw[errL,if_neg (by omega)];rfl⟩,Sub.gen [] r3 trivial ⟨rfl,rfl,rfl,rfl,trivial⟩ (by simp[ScH,Blk.scopd,At.sc]) (by simp[ScE,SV.sc,At.sc,initE]) (by rfl) (fun lo hi h=>h)⟩
 clear hw
 rintro⟨i,w1,iv⟩ ⟨hi,hw,hE⟩
 dsimp only at hi hw hE ⊢
 conv=>whnf
 refine BrS.mk (fun hib=>?_) (fun hib=>?_)
 ·have hib:i<l.length:=by simpa using hib
  obtain⟨x,hx⟩:∃x,l[i]? =some x:=⟨_,List.getElem?_eq_getElem hib⟩
  obtain⟨adx,cs,hax,hP,-,hlx⟩:=hl.load (by decide) hx
  have hP:cs=[.int .i64 x.1,.int .i64 x.2.1,.int .i64 x.2.2.1,.int .i64 x.2.2.2]:=hP
  subst hP
  conv=>whnf
  refine⟨adx,hax,⟨by omega,by omega⟩,?_⟩
  conv=>whnf
  refine⟨[.int .i64 x.1,.int .i64 x.2.1,.int .i64 x.2.2.1,.int .i64 x.2.2.2],rfl,fun ρ w' r j u hu=>?_,?_⟩
  ·obtain⟨k1,k2⟩:=hlx j u hu
   rw[Int.toNat_natCast,cell_of_heap (w:=w) (w2:=w') (by rw[addB,addB];exact(hw.tr r.bel).block _ (hS _ k1))]
   exact k2
  conv=>whnf
  refine callE_S (cE hw (Φ:=fun _ w' v w2=>v= .int .i64 (loadE n x)) (fun ρ w' r=>sCheckLoad_c _ _ _ _ n w') ?_)
  rintro ρ wa1 v1 wb1 iv1 r he hw h_ rfl
  clear r
  obtain⟨c,hc⟩:∃c,loadE n x=c:=⟨_,rfl⟩
  rw[hc]
  conv=>whnf
  refine BrS.mk (fun hd=>?_) (fun hd=>?_)
  ·have hd:c≠0:=by simpa using hd
   conv=>whnf
   intro ρe we re
   exact⟨_,rfl,hw.tr re.bel,by show Value.int .i64 _=_;rw[hE,firstE_ret hx hc hd]⟩
  have hd:c=0:=by simpa using hd
  rw[hd]at hc
  rw[firstE_step hx hc]at hE
  conv=>whnf
  refine⟨((i+1:Nat):Int),by rw[wrap64]<;>omega,?_⟩
  conv=>whnf
  intro ρ3 w6 r3
  exact⟨(i+1,w6,_),⟨hib,hw.tr r3.bel,hE⟩,Sub.gen [] r3 trivial ⟨rfl,rfl,rfl,rfl,trivial⟩ (by simp[ScH,Blk.scopd,At.sc]) (by simp[ScE,SV.sc,At.sc,initE]) (by rfl) (fun lo hi h=>h),by dsimp only;omega⟩
 have hib:i=l.length:=Nat.le_antisymm hi (by simpa using hib)
 rw[firstE_end (by omega)]at hE
 conv=>whnf
 intro ρe we re
 exact⟨_,rfl,hw.tr re.bel,by show Value.int .i64 _=_;rw[hE]⟩
end Go.Ex

/- The check of a frame and of its loads. Printed by program. No condition but sizes. -/
namespace Go.Ex
open Go Go.Sx Go.Proofs

theorem part_int{cs:Array Value}{j:Nat}{v:Value}(h:cs[j]? =some v)(w:World):(part T.int cs j).run PG w= .ok v w:=by
 have:=(hτ T.int _ rfl).isAgg w
 simp only[part,Sem.run_bind,this,Result.andThen]
 simp[h]
theorem eq_int(d:Nat)(a b:Int)(w:World):(Op.equalIn (d+1) T.int (.int .i64 a) (.int .i64 b)).run PG w= .ok (a==b) w:=by
 unfold Op.equalIn
 simp[run_underlying ((hτ T.int _ rfl).i1 rfl)]
theorem node_eq(p0 p1 p2 q0 q1 q2:Int)(w:World):(Op.equal T.Node (.agg #[.int .i64 p0,.int .i64 p1,.int .i64 p2]) (.agg #[.int .i64 q0,.int .i64 q1,.int .i64 q2])).run PG w= .ok (decide (p0=q0∧p1=q1∧p2=q2)) w:=by
 have h:=run_underlying Tryz.underlying169
 simp only[Op.equal,Op.maxDepth]
 unfold Op.equalIn
 have a0:=part_int (cs:= #[Value.int .i64 p0,Value.int .i64 p1,Value.int .i64 p2]) (j:=0) rfl
 have a1:=part_int (cs:= #[Value.int .i64 p0,Value.int .i64 p1,Value.int .i64 p2]) (j:=1) rfl
 have a2:=part_int (cs:= #[Value.int .i64 p0,Value.int .i64 p1,Value.int .i64 p2]) (j:=2) rfl
 have b0:=part_int (cs:= #[Value.int .i64 q0,Value.int .i64 q1,Value.int .i64 q2]) (j:=0) rfl
 have b1:=part_int (cs:= #[Value.int .i64 q0,Value.int .i64 q1,Value.int .i64 q2]) (j:=1) rfl
 have b2:=part_int (cs:= #[Value.int .i64 q0,Value.int .i64 q1,Value.int .i64 q2]) (j:=2) rfl
 simp[h,a0,a1,a2,b0,b1,b2,eq_int 9998]
 by_cases h0:p0=q0
 ·by_cases h1:p1=q1
  ·by_cases h2:p2=q2<;>simp[h0,h1,h2]
  ·simp[h0,h1]
 ·simp[h0]
theorem ends_eq(p0 p1 q0 q1:Int)(w:World):(Op.equal T.s_ends (.agg #[.int .i64 p0,.int .i64 p1]) (.agg #[.int .i64 q0,.int .i64 q1])).run PG w= .ok (decide (p0=q0∧p1=q1)) w:=by
 have h:=run_underlying Tryz.underlying187
 simp only[Op.equal,Op.maxDepth]
 unfold Op.equalIn
 have a0:=part_int (cs:= #[Value.int .i64 p0,Value.int .i64 p1]) (j:=0) rfl
 have a1:=part_int (cs:= #[Value.int .i64 p0,Value.int .i64 p1]) (j:=1) rfl
 have b0:=part_int (cs:= #[Value.int .i64 q0,Value.int .i64 q1]) (j:=0) rfl
 have b1:=part_int (cs:= #[Value.int .i64 q0,Value.int .i64 q1]) (j:=1) rfl
 simp[h,a0,a1,b0,b1,eq_int 9998]
 by_cases h0:p0=q0
 ·by_cases h1:p1=q1<;>simp[h0,h1]
 ·simp[h0]
abbrev nodeV(p:Int×Int×Int):Value:=.agg #[.int .i64 p.1,.int .i64 p.2.1,.int .i64 p.2.2]
theorem node_eql(p q:Int×Int×Int)(w:World)(o1 o2:Operand):(do eqGuard .eql T.Node o1 o2 (nodeV p) (nodeV q);binOp .eql T.Node (nodeV p) (nodeV q)).run PG w= .ok (.bool (decide (p=q))) w:=by
 have h:=node_eq p.1 p.2.1 p.2.2 q.1 q.2.1 q.2.2 w
 simp[eqGuard,binOp,h]
 obtain⟨a,b,c⟩:=p
 obtain⟨a2,b2,c2⟩:=q
 by_cases h0:a=a2
 ·by_cases h1:b=b2
  ·by_cases h2:c=c2<;>simp[h0,h1,h2]
  ·simp[h0,h1]
 ·simp[h0]
def endV(k:Int×Int):Value:=.agg #[.int .i64 k.1,.int .i64 k.2]
theorem endV_inj{a b:Int×Int}(h:endV a=endV b):a=b:=by
 unfold endV at h
 injection h with h
 have h1:=congrArg (fun x=>x[0]?) h
 have h2:=congrArg (fun x=>x[1]?) h
 simp at h1 h2
 exact Prod.ext h1 h2
theorem int_check(d:Nat)(a:Int)(em:Bool)(w:World):(Instr.checkKey em (d+1) T.int (.int .i64 a)).run PG w= .ok () w:=by
 unfold Instr.checkKey
 simp[run_underlying ((hτ T.int _ rfl).i1 rfl)]
theorem ends_check(p0 p1:Int)(em:Bool)(w:World):(Instr.checkKey em 10000 T.s_ends (.agg #[.int .i64 p0,.int .i64 p1])).run PG w= .ok () w:=by
 have h:=run_underlying Tryz.underlying187
 have a0:=part_int (cs:= #[Value.int .i64 p0,Value.int .i64 p1]) (j:=0) rfl
 have a1:=part_int (cs:= #[Value.int .i64 p0,Value.int .i64 p1]) (j:=1) rfl
 unfold Instr.checkKey
 simp[h,a0,a1,int_check 9998]
theorem endsKey:KeyS PG T.s_ends (fun v=>∃k,v=endV k) where
 desc:=⟨_,Tryz.underlying187⟩
 check:=fun w em v ⟨k,e⟩=>by subst e;exact ends_check k.1 k.2 em w
 eq:=fun w a b ⟨p,e1⟩ ⟨q,e2⟩=>by
  subst e1 e2
  refine⟨_,ends_eq p.1 p.2 q.1 q.2 w,?_⟩
  rw[decide_eq_true_iff]
  exact⟨fun h=>by rw[show p=q from Prod.ext h.1 h.2],fun h=>by have:=endV_inj h;subst this;exact⟨rfl,rfl⟩⟩
theorem ends_map:PG.underlying T.map_s_ends_bool=some (.map T.s_ends T.bool):=Tryz.underlying185
theorem zero_bool(w:World):(zeroValue T.bool).run PG w= .ok (.bool false) w:=by kernel_rfl
theorem map_add0(ad:Option Addr)(k:Nat):ad.map (·.add (0*k))=ad:=by
 rw[Nat.zero_mul]
 cases ad with
 |none=>rfl
 |some a=>simp only[Option.map_some,Option.some.injEq];unfold Addr.add;split<;>simp_all
theorem ListK.take{α:Type}{k:Nat}{P:World→(Nat→Prop)→List Value→α→Prop}{w:World}{S:Nat→Prop}{a:Option Addr}{n c:Nat}{xs:List α}(h:ListK k P w S (.slice a n c) xs){i:Nat}(hi:i≤xs.length):
  ListK k P w S (.slice a i c) (xs.take i):=by
 obtain⟨css,⟨h0,h1,h2,a',c',e,h3,h4⟩,hl,hlk,hf⟩:=h
 injection e with e1 e2 e3
 subst e1 e2 e3
 have hlen:(css.take i).length=i:=by rw[List.length_take,hl];omega
 have hli:(xs.take i).length=i:=by rw[List.length_take];omega
 have hsplit:css.flatten=(css.take i).flatten++(css.drop i).flatten:=by rw[←List.flatten_append,List.take_append_drop]
 refine⟨css.take i,⟨by omega,?_,fun u hu=>h2 u (by rw[hsplit];exact List.mem_append_left _ hu),a,c,by rw[hli],by omega,fun j u hj=>h4 j u ?_⟩,by rw[hlen,hli],fun cs hc=>hlk cs (List.mem_of_mem_take hc),fun j cs x k1 k2=>?_⟩
 ·rw[flatk_len fun cs hc=>hlk cs (List.mem_of_mem_take hc),hlen,hli]
 ·rw[hsplit,List.getElem?_append_left (List.getElem?_eq_some_iff.1 hj).1]
  exact hj
 ·have hj:=(List.getElem?_eq_some_iff.1 k1).1
  rw[hlen]at hj
  rw[List.getElem?_take_of_lt hj]at k1 k2
  exact hf j cs x k1 k2
theorem NodesR.keep{w w2:World}{S:Nat→Prop}{v:Value}{xs:List (Int×Int×Int)}(h:NodesR w S v xs)(hk:∀g,S g→w2.heap[g]? =w.heap[g]?):NodesR w2 S v xs:=ListK.keep (w:=w) (fun _ _ h=>h) h hk
theorem nodesIndex_c{S:Nat→Prop}{w:World}{vn:Value}{xs:List (Int×Int×Int)}(hS:Old S w)(hn:NodesR w S vn xs)(p:Int×Int×Int):Con PG N.slices_Index_of_api_Node_api_Node_of #[vn,nodeV p] w (Ret w fun v' _=>∃r,v'= .int .i64 r∧(-1≤r)∧(0≤r↔p∈xs)):=by
 have hw:Bel w.heap.size w w:=Bel.refl
 obtain⟨an,cn,rfl,hcn,hmn⟩:=hn.shape
 unfold maxLen at hmn
 refine in_slices_Index_of_api_Node_api_Node_of (by simp) ?_
 conv=>whnf
 refine⟨Nat×World,fun z=>⟨[(0,.o (.v (.slice an xs.length cn))),(3,.o (.p 0 0)),(7,.o (.v (.int .i64 xs.length))),(8,.o (.v (.int .i64 ((z.1:Nat):Int))))],[(0,.box T.Node [.v (.int .i64 p.1),.v (.int .i64 p.2.1),.v (.int .i64 p.2.2)])],1,[],z.2⟩,fun z=>xs.length-z.1,
  fun z=>z.1≤xs.length∧Bel w.heap.size w z.2∧(p∈xs↔p∈xs.drop z.1),?_,?_⟩
 ·intro ρ w' r3
  exact⟨(0,w'),⟨Nat.zero_le _,hw.tr r3.bel,Iff.rfl⟩,Sub.gen [] r3 ⟨rfl,trivial⟩ ⟨rfl,rfl,rfl,rfl,trivial⟩ (by simp[ScH,Blk.scopd,At.sc]) (by simp[ScE,SV.sc,At.sc,initE]) (by rfl) (fun lo hi h=>h)⟩
 clear hw
 rintro⟨i,w1⟩ ⟨hi,hw,hE⟩
 dsimp only at hi hw hE ⊢
 conv=>whnf
 refine BrS.mk (fun hib=>?_) (fun hib=>?_)
 ·have hib:i<xs.length:=by simpa using hib
  obtain⟨q,hx⟩:∃x,xs[i]? =some x:=⟨_,List.getElem?_eq_getElem hib⟩
  have hdr:xs.drop i=q::xs.drop (i+1):=by rw[List.drop_eq_getElem_cons hib,(List.getElem?_eq_some_iff.1 hx).2]
  obtain⟨adx,cs,hax,hP,-,hlx⟩:=hn.load (by decide) hx
  have hP:cs=[.int .i64 q.1,.int .i64 q.2.1,.int .i64 q.2.2]:=hP
  subst hP
  conv=>whnf
  refine drawn_of_tg hτ hmix (.x 1 (.x 2 (.x 3 (.ld 0 32 (.ld 4 32 (.x 5 .nil)))))) (by kernel_rfl) (by kernel_rfl) ?_
  conv=>whnf
  refine⟨adx,hax,⟨by omega,by omega⟩,?_⟩
  conv=>whnf
  refine⟨[.int .i64 q.1,.int .i64 q.2.1,.int .i64 q.2.2],rfl,fun ρ w' r j u hu=>?_,?_⟩
  ·obtain⟨k1,k2⟩:=hlx j u hu
   rw[Int.toNat_natCast,cell_of_heap (w:=w) (w2:=w') (by rw[addB,addB];exact(hw.tr r.bel).block _ (hS _ k1))]
   exact k2
  conv=>whnf
  refine⟨decide (p=q),fun ρ w o1 o2=>node_eql p q w o1 o2,?_⟩
  conv=>whnf
  refine BrS.mk (fun hd=>?_) (fun hd=>?_)
  ·have hd:p=q:=of_decide_eq_true hd
   conv=>whnf
   intro ρe we re
   exact⟨_,rfl,hw.tr re.bel,_,rfl,by omega,iff_of_true (by omega) (hE.2 (by rw[hdr,hd];exact List.mem_cons_self))⟩
  have hd:p≠q:=of_decide_eq_false hd
  rw[hdr,List.mem_cons,or_iff_right hd]at hE
  conv=>whnf
  refine⟨((i+1:Nat):Int),by rw[wrap64]<;>omega,?_⟩
  conv=>whnf
  intro ρ3 w6 r3
  exact⟨(i+1,w6),⟨hib,hw.tr r3.bel,hE⟩,Sub.gen [] r3 ⟨rfl,trivial⟩ ⟨rfl,rfl,rfl,rfl,trivial⟩ (by simp[ScH,Blk.scopd,At.sc]) (by simp[ScE,SV.sc,At.sc,initE]) (by rfl) (fun lo hi h=>h),by dsimp only;omega⟩
 have hib:i=xs.length:=Nat.le_antisymm hi (by simpa using hib)
 rw[hib,List.drop_length]at hE
 conv=>whnf
 intro ρe we re
 exact⟨_,rfl,hw.tr re.bel,_,rfl,by omega,iff_of_false (by omega) fun h=>by cases hE.1 h⟩
theorem nodesContains_c{S:Nat→Prop}{w:World}{vn:Value}{xs:List (Int×Int×Int)}(hS:Old S w)(hn:NodesR w S vn xs)(p:Int×Int×Int):Con PG N.slices_Contains_of_api_Node_api_Node_of #[vn,nodeV p] w (Ret w fun v' _=>∃d,v'= .bool d∧(d=true↔p∈xs)):=by
 have hw:Bel w.heap.size w w:=Bel.refl
 obtain⟨an,cn,rfl,hcn,hmn⟩:=hn.shape
 refine in_slices_Contains_of_api_Node_api_Node_of (by simp) ?_
 conv=>whnf
 refine callE_S (cE hw (Φ:=fun _ w' v w2=>∃r,v= .int .i64 r∧(-1≤r)∧(0≤r↔p∈xs)) (fun ρ w' r=>nodesIndex_c (p:=p) (fun g hg=>by have:=hS g hg;have:=r.baseLe;omega) (NodesR.keep hn fun g hg=>(hw.tr r.bel).block g (hS g hg))) ?_)
 rintro ρ wa1 v1 wb1 iv1 r he hw h_ ⟨r0,rfl,hr0,hr1⟩
 clear r
 conv=>whnf
 intro ρe we re
 exact⟨_,rfl,hw.tr re.bel,_,rfl,by rw[decide_eq_true_iff];exact hr1⟩
def MapC(w:World)(S:Nat→Prop)(g:Nat)(ks:List Value):Prop:=S g∧MapB w g ks
section
variable{S:Nat→Prop}{H:Hp}{nx:Nat}{iv iv':Iv}{B:Nat}{w w' w2:World}{ρ:Nat→Sx.Val}{g:Nat}{ks:List Value}
theorem MapC.rel(h:MapC w (Cv S B iv) g ks)(r:Rel H nx iv B w ρ w')(hS:∀g,S g→g<B):MapC w' (Cv S B iv) g ks:=⟨h.1,h.2.keep (Rel.same r hS h.1)⟩
theorem MapC.past(h:MapC w (Cv S B iv) g ks)(r:Rel H nx iv B w ρ w')(hS:∀g,S g→g<B)(he:Ext w' w2)(hm:∀p,p∈iv→p∈iv'):MapC w2 (Cv S B iv') g ks:=
 ⟨h.1.mono hm,(h.rel r hS).2.keep (he.block g (Rel.old r hS g h.1))⟩
end
set_option maxHeartbeats 2000000 in
theorem sCheck_c{S:Nat→Prop}{w:World}{vn vb vs:Value}{f:Frm}(hS:Old S w)(hf:FrameR w S vn vb vs f):Con PG N.statics_Check #[.agg #[vn,vb,vs]] w (Ret w fun v' _=>v'= .int .i64 (errF f)):=by
 have hw:Bel w.heap.size w w:=Bel.refl
 obtain⟨an,cn,ab,cb,aq,cq,rfl,rfl,rfl,hmn,hmb,hms⟩:=hf.shape
 obtain⟨_,_,hsh,hcn,_⟩:=hf.nodes.shape
 injection hsh with e1 e2 e3
 subst e1 e3
 refine in_statics_Check (by simp) ?_
 conv=>whnf
 refine BrS.mk (fun h0=>?_) (fun h0=>?_)
 ·have h0:=of_decide_eq_true h0
  conv=>whnf
  intro ρe we re
  exact⟨_,rfl,hw.tr re.bel,by show Value.int .i64 _=_;rw[errF,if_pos (by omega)]⟩
 have h0:=of_decide_eq_false h0
 conv=>whnf
 refine BrS.mk (fun h1=>?_) (fun h1=>?_)
 ·have h1:=of_decide_eq_true h1
  conv=>whnf
  intro ρe we re
  exact⟨_,rfl,hw.tr re.bel,by show Value.int .i64 _=_;rw[errF,if_pos (by omega)]⟩
 have h1:=of_decide_eq_false h1
 conv=>whnf
 refine BrS.mk (fun h2=>?_) (fun h2=>?_)
 ·have h2:=of_decide_eq_true h2
  conv=>whnf
  intro ρe we re
  exact⟨_,rfl,hw.tr re.bel,by show Value.int .i64 _=_;rw[errF,if_pos (by omega)]⟩
 have h2:=of_decide_eq_false h2
 conv=>whnf
 refine⟨Nat×World×Iv,fun z=>⟨[(1,.o (.p 0 0)),(30,.o (.v (.slice an f.nodes.length cn))),(31,.o (.v (.int .i64 f.nodes.length))),(32,.o (.v (.int .i64 ((z.1:Nat):Int))))],[(0,.box T.Frame [.v (.slice an f.nodes.length cn),.v (.slice ab f.bars.length cb),.v (.slice aq f.sups.length cq)])],1,z.2.2,z.2.1⟩,fun z=>f.nodes.length-z.1,
  fun z=>z.1≤f.nodes.length∧Bel w.heap.size w z.2.1∧firstE nodeE [] f.nodes=firstE nodeE (f.nodes.take z.1) (f.nodes.drop z.1),?_,?_⟩
 ·intro ρ w' r3
  exact⟨(0,w',[]),⟨Nat.zero_le _,hw.tr r3.bel,rfl⟩,Sub.gen [] r3 ⟨rfl,trivial⟩ ⟨rfl,rfl,rfl,rfl,trivial⟩ (by simp[ScH,Blk.scopd,At.sc]) (by simp[ScE,SV.sc,At.sc,initE]) (by rfl) (fun lo hi h=>h)⟩
 clear hw
 rintro⟨i,w1,iv⟩ ⟨hi,hw,hE⟩
 dsimp only at hi hw hE ⊢
 conv=>whnf
 refine BrS.mk (fun hib=>?_) (fun hib=>?_)
 ·have hib:i<f.nodes.length:=by simpa using hib
  obtain⟨q,hx⟩:∃x,f.nodes[i]? =some x:=⟨_,List.getElem?_eq_getElem hib⟩
  obtain⟨adx,cs,hax,hP,-,hlx⟩:=hf.nodes.load (by decide) hx
  have hP:cs=[.int .i64 q.1,.int .i64 q.2.1,.int .i64 q.2.2]:=hP
  subst hP
  conv=>whnf
  refine⟨adx,hax,⟨by omega,by omega⟩,?_⟩
  conv=>whnf
  refine⟨[.int .i64 q.1,.int .i64 q.2.1,.int .i64 q.2.2],rfl,fun ρ w' r j u hu=>?_,?_⟩
  ·obtain⟨k1,k2⟩:=hlx j u hu
   rw[Int.toNat_natCast,cell_of_heap (w:=w) (w2:=w') (by rw[addB,addB];exact(hw.tr r.bel).block _ (hS _ k1))]
   exact k2
  conv=>whnf
  refine callE_S (cE hw (Φ:=fun _ w' v w2=>∃d,v= .bool d∧(d=true↔inB q.1)) (fun ρ w' r=>sInSize_c _ w') ?_)
  rintro ρ wa1 v1 wb1 iv1 r he hw h_ ⟨d0,rfl,hz0⟩
  clear r
  cases d0
  ·have hz0:¬inB q.1:=fun h=>by have:=hz0.2 h;cases this
   conv=>whnf
   intro ρe we re
   exact⟨_,rfl,hw.tr re.bel,by show Value.int .i64 _=_;rw[errF,if_neg (by omega),if_pos (by rw[hE,firstE_ret hx (show nodeE (f.nodes.take i) q=2 by rw[nodeE,if_neg (fun h=>hz0 h.1)]) (by decide)];decide),hE,firstE_ret hx (show nodeE (f.nodes.take i) q=2 by rw[nodeE,if_neg (fun h=>hz0 h.1)]) (by decide)]⟩
  replace hz0:=hz0.1 rfl
  conv=>whnf
  refine callE_S (cE hw (Φ:=fun _ w' v w2=>∃d,v= .bool d∧(d=true↔inB q.2.1)) (fun ρ w' r=>sInSize_c _ w') ?_)
  rintro ρ wa2 v2 wb2 iv2 r he hw h_ ⟨d1,rfl,hz1⟩
  clear r
  cases d1
  ·have hz1:¬inB q.2.1:=fun h=>by have:=hz1.2 h;cases this
   conv=>whnf
   intro ρe we re
   exact⟨_,rfl,hw.tr re.bel,by show Value.int .i64 _=_;rw[errF,if_neg (by omega),if_pos (by rw[hE,firstE_ret hx (show nodeE (f.nodes.take i) q=2 by rw[nodeE,if_neg (fun h=>hz1 h.2.1)]) (by decide)];decide),hE,firstE_ret hx (show nodeE (f.nodes.take i) q=2 by rw[nodeE,if_neg (fun h=>hz1 h.2.1)]) (by decide)]⟩
  replace hz1:=hz1.1 rfl
  conv=>whnf
  refine callE_S (cE hw (Φ:=fun _ w' v w2=>∃d,v= .bool d∧(d=true↔inB q.2.2)) (fun ρ w' r=>sInSize_c _ w') ?_)
  rintro ρ wa3 v3 wb3 iv3 r he hw h_ ⟨d2,rfl,hz2⟩
  clear r
  cases d2
  ·have hz2:¬inB q.2.2:=fun h=>by have:=hz2.2 h;cases this
   conv=>whnf
   intro ρe we re
   exact⟨_,rfl,hw.tr re.bel,by show Value.int .i64 _=_;rw[errF,if_neg (by omega),if_pos (by rw[hE,firstE_ret hx (show nodeE (f.nodes.take i) q=2 by rw[nodeE,if_neg (fun h=>hz2 h.2.2)]) (by decide)];decide),hE,firstE_ret hx (show nodeE (f.nodes.take i) q=2 by rw[nodeE,if_neg (fun h=>hz2 h.2.2)]) (by decide)]⟩
  replace hz2:=hz2.1 rfl
  conv=>whnf
  refine drawn_of_tg hτ hmix (.x 0 (.x 2 (.ld 1 104 (.x 3 (.ld 4 96 (.x 5 (.x 6 .nil))))))) (by kernel_rfl) (by kernel_rfl) ?_
  conv=>whnf
  refine⟨⟨by omega,by omega,by omega⟩,?_⟩
  refine⟨an,i,cn,by rw[show ((0:Int).toNat*3)=0*3 from rfl,map_add0];split<;>rfl,by simp,by simp,?_⟩
  conv=>whnf
  refine cE hw (Φ:=fun _ w' v w2=>∃d,v= .bool d∧(d=true↔q∈f.nodes.take i)) (fun ρ w' r=>nodesContains_c (p:=q) (fun g hg=>by have:=hS g hg;have:=r.baseLe;omega) (NodesR.keep (hf.nodes.take (Nat.le_of_lt hib)) fun g hg=>(hw.tr r.bel).block g (hS g hg))) ?_
  rintro ρ wa4 v4 wb4 iv4 r he hw h_ ⟨d3,rfl,hz3⟩
  clear r
  conv=>whnf
  cases d3
  ·have hz3:q∉f.nodes.take i:=fun h=>by have:=hz3.2 h;cases this
   rw[firstE_step hx (nodeE_zero.2 ⟨⟨hz0,hz1,hz2⟩,hz3⟩)]at hE
   conv=>whnf
   refine⟨((i+1:Nat):Int),by rw[wrap64]<;>omega,?_⟩
   conv=>whnf
   intro ρ3 w6 r3
   exact⟨(i+1,w6,_),⟨hib,hw.tr r3.bel,hE⟩,Sub.gen [] r3 ⟨rfl,trivial⟩ ⟨rfl,rfl,rfl,rfl,trivial⟩ (by simp[ScH,Blk.scopd,At.sc]) (by simp[ScE,SV.sc,At.sc,initE]) (by rfl) (fun lo hi h=>h),by dsimp only;omega⟩
  replace hz3:=hz3.1 rfl
  conv=>whnf
  intro ρe we re
  exact⟨_,rfl,hw.tr re.bel,by show Value.int .i64 _=_;rw[errF,if_neg (by omega),if_pos (by rw[hE,firstE_ret hx (show nodeE (f.nodes.take i) q=12 by rw[nodeE,if_pos ⟨hz0,hz1,hz2⟩,if_pos hz3]) (by decide)];decide),hE,firstE_ret hx (show nodeE (f.nodes.take i) q=12 by rw[nodeE,if_pos ⟨hz0,hz1,hz2⟩,if_pos hz3]) (by decide)]⟩
 have hib:i=f.nodes.length:=Nat.le_antisymm hi (by simpa using hib)
 rw[firstE_end (by omega)]at hE
 clear hib hi
 conv=>whnf
 refine opS_makeMap (fun ρ wa wb r hM0 hg hsz=>?_)
 have hw2:=(hw.tr r.bel).tr (Bel.grown hg (fun x e=>by cases e) r.baseLe)
 have hB:w.heap.size≤wa.heap.size:=r.baseLe
 have hM:MapC wb (Cv (fun _=>False) w.heap.size ((wa.heap.size,wa.heap.size+1)::iv)) wa.heap.size []:=⟨.inr ⟨hB,_,_,List.mem_cons_self,Nat.le_refl _,Nat.lt_succ_self _⟩,hM0⟩
 generalize (wa.heap.size,wa.heap.size+1)::iv=iv2 at*
 obtain⟨gm,hgm⟩:∃gm,wa.heap.size=gm:=⟨_,rfl⟩
 rw[hgm]at hM ⊢
 clear r hg hsz hM0 hw
 have hw:=hw2
 clear hw2
 conv=>whnf
 refine⟨Nat×World×Iv,fun z=>⟨[(1,.o (.p 0 0)),(5,.o (.v (.map (some gm)))),(64,.o (.v (.slice ab f.bars.length cb))),(65,.o (.v (.int .i64 f.bars.length))),(66,.o (.v (.int .i64 ((z.1:Nat):Int))))],[(0,.box T.Frame [.v (.slice an f.nodes.length cn),.v (.slice ab f.bars.length cb),.v (.slice aq f.sups.length cq)])],1,z.2.2,z.2.1⟩,fun z=>f.bars.length-z.1,
  fun z=>z.1≤f.bars.length∧Bel w.heap.size w z.2.1∧firstE (barE f.nodes.length) [] f.bars=firstE (barE f.nodes.length) (f.bars.take z.1) (f.bars.drop z.1)∧MapC z.2.1 (Cv (fun _=>False) w.heap.size z.2.2) gm ((f.bars.take z.1).map fun b=>endV (barK b)),?_,?_⟩
 ·intro ρ w' r3
  exact⟨(0,w',iv2),⟨Nat.zero_le _,hw.tr r3.bel,rfl,hM.rel r3 (oldF w)⟩,Sub.gen [] r3 ⟨rfl,trivial⟩ ⟨rfl,rfl,rfl,rfl,rfl,trivial⟩ (by simp[ScH,Blk.scopd,At.sc]) (by simp[ScE,SV.sc,At.sc,initE]) (by rfl) (fun lo hi h=>h)⟩
 clear hw hM hB hgm
 rintro⟨i,w1,iv⟩ ⟨hi,hw,hE2,hM⟩
 dsimp only at hi hw hE2 hM ⊢
 conv=>whnf
 refine BrS.mk (fun hib=>?_) (fun hib=>?_)
 ·have hib:i<f.bars.length:=by simpa using hib
  obtain⟨b,hx⟩:∃b,f.bars[i]? =some b:=⟨_,List.getElem?_eq_getElem hib⟩
  obtain⟨adb,cs,hab,hF,-,hlb⟩:=hf.bars.load (by decide) hx
  obtain⟨g0,g1,g2,g3,g4,g5,g6,g7,rfl,hF⟩:=hF
  conv=>whnf
  refine⟨adb,hab,⟨by omega,by omega⟩,?_⟩
  conv=>whnf
  refine⟨[.int .i64 b.1,.int .i64 b.2.1,.bool g0,.slice g1 g2 g3,.bool g4,.slice g5 g6 g7],rfl,fun ρ w' r j u hu=>?_,?_⟩
  ·obtain⟨k1,k2⟩:=hlb j u hu
   rw[Int.toNat_natCast,cell_of_heap (w:=w) (w2:=w') (by rw[addB,addB];exact(hw.tr r.bel).block _ (hS _ k1))]
   exact k2
  conv=>whnf
  refine callE_S (cE hw (Φ:=fun _ w' v w2=>∃d,v= .bool d∧(d=true↔hasN f.nodes.length b.1)) (fun ρ w' r=>sHas_c _ w' _ _ _ _ _ _ _ _ _) ?_)
  rintro ρ wa1 v1 wb1 iv1 r he hw h_ ⟨d0,rfl,hz0⟩
  replace hM:=hM.past r (oldF w) he (mC h_)
  clear r
  cases d0
  ·have hz0:¬hasN f.nodes.length b.1:=fun h=>by have:=hz0.2 h;cases this
   conv=>whnf
   intro ρe we re
   exact⟨_,rfl,hw.tr re.bel,by show Value.int .i64 _=_;rw[errF,if_neg (by omega),if_neg (by rw[hE];decide),if_pos (by rw[hE2,firstE_ret hx (show barE f.nodes.length (f.bars.take i) b=6 by rw[barE,if_neg (fun h=>hz0 h.1)]) (by decide)];decide),hE2,firstE_ret hx (show barE f.nodes.length (f.bars.take i) b=6 by rw[barE,if_neg (fun h=>hz0 h.1)]) (by decide)]⟩
  replace hz0:=hz0.1 rfl
  conv=>whnf
  refine callE_S (cE hw (Φ:=fun _ w' v w2=>∃d,v= .bool d∧(d=true↔hasN f.nodes.length b.2.1)) (fun ρ w' r=>sHas_c _ w' _ _ _ _ _ _ _ _ _) ?_)
  rintro ρ wa2 v2 wb2 iv2 r he hw h_ ⟨d1,rfl,hz1⟩
  replace hM:=hM.past r (oldF w) he (mC h_)
  clear r
  cases d1
  ·have hz1:¬hasN f.nodes.length b.2.1:=fun h=>by have:=hz1.2 h;cases this
   conv=>whnf
   intro ρe we re
   exact⟨_,rfl,hw.tr re.bel,by show Value.int .i64 _=_;rw[errF,if_neg (by omega),if_neg (by rw[hE];decide),if_pos (by rw[hE2,firstE_ret hx (show barE f.nodes.length (f.bars.take i) b=6 by rw[barE,if_neg (fun h=>hz1 h.2)]) (by decide)];decide),hE2,firstE_ret hx (show barE f.nodes.length (f.bars.take i) b=6 by rw[barE,if_neg (fun h=>hz1 h.2)]) (by decide)]⟩
  replace hz1:=hz1.1 rfl
  conv=>whnf
  refine BrS.mk (fun hab2=>?_) (fun hab2=>?_)
  ·have hab2:b.1=b.2.1:=by simpa using hab2
   conv=>whnf
   intro ρe we re
   exact⟨_,rfl,hw.tr re.bel,by show Value.int .i64 _=_;rw[errF,if_neg (by omega),if_neg (by rw[hE];decide),if_pos (by rw[hE2,firstE_ret hx (show barE f.nodes.length (f.bars.take i) b=3 by rw[barE,if_pos ⟨hz0,hz1⟩,if_pos hab2]) (by decide)];decide),hE2,firstE_ret hx (show barE f.nodes.length (f.bars.take i) b=3 by rw[barE,if_pos ⟨hz0,hz1⟩,if_pos hab2]) (by decide)]⟩
  have hab2:b.1≠b.2.1:=by simpa using hab2
  conv=>whnf
  refine opS_lookup endsKey ends_map zero_bool rfl rfl (key:=endV (barK b)) (fun _=>rfl) ⟨_,rfl⟩ (fun k hk=>by obtain⟨x,_,rfl⟩:=List.mem_map.1 hk;exact⟨_,rfl⟩) (fun ρ w' r=>(hM.rel r (oldF w)).2) (fun ρ w' d r hd=>?_)
  replace hw:=hw.tr r.bel
  replace hM:=hM.rel r (oldF w)
  replace hd:d=true↔barK b∈(f.bars.take i).map barK:=by
   rw[hd]
   constructor
   ·intro h
    obtain⟨x,h1,h2⟩:=List.mem_map.1 h
    exact List.mem_map.2 ⟨x,h1,endV_inj h2⟩
   ·intro h
    obtain⟨x,h1,h2⟩:=List.mem_map.1 h
    exact List.mem_map.2 ⟨x,h1,congrArg endV h2⟩
  clear r
  cases d
  ·have hdup:barK b∉(f.bars.take i).map barK:=fun h=>by have:=hd.2 h;cases this
   clear hd
   conv=>whnf
   refine callE_S (cE hw (Φ:=fun _ w' v w2=>v= .int .i64 (rs b.2.2)) (fun ρ w' r=>(vCmp_c (fun g hg=>by have:=hS g hg;have:=r.baseLe;omega) (hF.v.keep fun g hg=>(hw.tr r.bel).block g (hS g hg)) (RatL.zero (S:=S)).v).mono fun _ _ ⟨v2,e1,e2,e3⟩=>⟨v2,e1,e2,by rw[e3,rs_sub_zero]⟩) ?_)
   rintro ρ wa3 v3 wb3 iv3 r he hw h_ rfl
   replace hM:=hM.past r (oldF w) he (mC h_)
   clear r
   obtain⟨cf,hcf⟩:∃c,rs b.2.2=c:=⟨_,rfl⟩
   rw[hcf]
   conv=>whnf
   refine BrS.mk (fun hd2=>?_) (fun hd2=>?_)
   ·have hd2:b.2.2≤0:=by have:=of_decide_eq_true hd2;rw[←Rat.not_lt,←rs_pos_iff];omega
    conv=>whnf
    intro ρe we re
    exact⟨_,rfl,hw.tr re.bel,by show Value.int .i64 _=_;rw[errF,if_neg (by omega),if_neg (by rw[hE];decide),if_pos (by rw[hE2,firstE_ret hx (show barE f.nodes.length (f.bars.take i) b=2 by rw[barE,if_pos ⟨hz0,hz1⟩,if_neg hab2,if_neg hdup,if_pos hd2]) (by decide)];decide),hE2,firstE_ret hx (show barE f.nodes.length (f.bars.take i) b=2 by rw[barE,if_pos ⟨hz0,hz1⟩,if_neg hab2,if_neg hdup,if_pos hd2]) (by decide)]⟩
   ·have hd2:0<b.2.2:=by have:=of_decide_eq_false hd2;rw[←rs_pos_iff];omega
    conv=>whnf
    refine opS_mapUpdate endsKey ends_map rfl rfl (key:=endV (barK b)) (fun _=>rfl) rfl ⟨_,rfl⟩ (fun k hk=>by obtain⟨x,_,rfl⟩:=List.mem_map.1 hk;exact⟨_,rfl⟩) (fun h=>by
     obtain⟨x,h1,h2⟩:=List.mem_map.1 h
     exact hdup (List.mem_map.2 ⟨x,h1,endV_inj h2⟩)) (fun ρ w' r=>⟨(hM.rel r (oldF w)).2,Rel.not r (oldF w) hM.1⟩) (fun ρ wa wb r hM2 hg hsz=>?_)
    replace hw:=(hw.tr r.bel).tr (Bel.grown hg (fun x e=>by injection e with e;subst e;exact hM.1.elim (fun h=>h.elim) fun h=>h.1) r.baseLe)
    rw[show ((f.bars.take i).map fun b=>endV (barK b))++[endV (barK b)]=(f.bars.take (i+1)).map fun b=>endV (barK b) by rw[List.take_add_one,hx];simp]at hM2
    replace hM:MapC wb (Cv (fun _=>False) w.heap.size iv3) gm ((f.bars.take (i+1)).map fun b=>endV (barK b)):=⟨hM.1,hM2⟩
    rw[firstE_step hx (barE_zero.2 ⟨⟨hz0,hz1⟩,hab2,hdup,hd2⟩)]at hE2
    clear r hg hsz hM2
    conv=>whnf
    refine⟨((i+1:Nat):Int),by rw[wrap64]<;>omega,?_⟩
    conv=>whnf
    intro ρ3 w6 r3
    exact⟨(i+1,w6,_),⟨hib,hw.tr r3.bel,hE2,hM.rel r3 (oldF w)⟩,Sub.gen [] r3 ⟨rfl,trivial⟩ ⟨rfl,rfl,rfl,rfl,rfl,trivial⟩ (by simp[ScH,Blk.scopd,At.sc]) (by simp[ScE,SV.sc,At.sc,initE]) (by rfl) (fun lo hi h=>h),by dsimp only;omega⟩
  ·have hd:=hd.1 rfl
   conv=>whnf
   intro ρe we re
   exact⟨_,rfl,hw.tr re.bel,by show Value.int .i64 _=_;rw[errF,if_neg (by omega),if_neg (by rw[hE];decide),if_pos (by rw[hE2,firstE_ret hx (show barE f.nodes.length (f.bars.take i) b=5 by rw[barE,if_pos ⟨hz0,hz1⟩,if_neg hab2,if_pos hd]) (by decide)];decide),hE2,firstE_ret hx (show barE f.nodes.length (f.bars.take i) b=5 by rw[barE,if_pos ⟨hz0,hz1⟩,if_neg hab2,if_pos hd]) (by decide)]⟩
 have hib:i=f.bars.length:=Nat.le_antisymm hi (by simpa using hib)
 rw[firstE_end (by omega)]at hE2
 have hE1:=hE2
 clear hib hi hE2 hM
 conv=>whnf
 refine opS_makeMap (fun ρ wa wb r hM0 hg hsz=>?_)
 have hw2:=(hw.tr r.bel).tr (Bel.grown hg (fun x e=>by cases e) r.baseLe)
 have hB:w.heap.size≤wa.heap.size:=r.baseLe
 have hM:MapC wb (Cv (fun _=>False) w.heap.size ((wa.heap.size,wa.heap.size+1)::iv)) wa.heap.size []:=⟨.inr ⟨hB,_,_,List.mem_cons_self,Nat.le_refl _,Nat.lt_succ_self _⟩,hM0⟩
 generalize (wa.heap.size,wa.heap.size+1)::iv=iv2 at*
 obtain⟨gm,hgm⟩:∃gm,wa.heap.size=gm:=⟨_,rfl⟩
 rw[hgm]at hM ⊢
 clear r hg hsz hM0 hw
 have hw:=hw2
 clear hw2
 conv=>whnf
 refine⟨Nat×World×Iv,fun z=>⟨[(1,.o (.p 0 0)),(9,.o (.v (.map (some gm)))),(115,.o (.v (.slice aq f.sups.length cq))),(116,.o (.v (.int .i64 f.sups.length))),(117,.o (.v (.int .i64 ((z.1:Nat):Int))))],[(0,.box T.Frame [.v (.slice an f.nodes.length cn),.v (.slice ab f.bars.length cb),.v (.slice aq f.sups.length cq)])],1,z.2.2,z.2.1⟩,fun z=>f.sups.length-z.1,
  fun z=>z.1≤f.sups.length∧Bel w.heap.size w z.2.1∧firstE (supE f.nodes.length) [] f.sups=firstE (supE f.nodes.length) (f.sups.take z.1) (f.sups.drop z.1)∧MapC z.2.1 (Cv (fun _=>False) w.heap.size z.2.2) gm ((f.sups.take z.1).map fun b=>endV (supK b)),?_,?_⟩
 ·intro ρ w' r3
  exact⟨(0,w',iv2),⟨Nat.zero_le _,hw.tr r3.bel,rfl,hM.rel r3 (oldF w)⟩,Sub.gen [] r3 ⟨rfl,trivial⟩ ⟨rfl,rfl,rfl,rfl,rfl,trivial⟩ (by simp[ScH,Blk.scopd,At.sc]) (by simp[ScE,SV.sc,At.sc,initE]) (by rfl) (fun lo hi h=>h)⟩
 clear hw hM hB hgm
 rintro⟨i,w1,iv⟩ ⟨hi,hw,hE2,hM⟩
 dsimp only at hi hw hE2 hM ⊢
 conv=>whnf
 refine BrS.mk (fun hib=>?_) (fun hib=>?_)
 ·have hib:i<f.sups.length:=by simpa using hib
  obtain⟨b,hx⟩:∃b,f.sups[i]? =some b:=⟨_,List.getElem?_eq_getElem hib⟩
  obtain⟨adb,cs,hab,hF,-,hlb⟩:=hf.sups.load (by decide) hx
  obtain⟨g0,g1,g2,g3,g4,g5,g6,g7,rfl,hF⟩:=hF
  conv=>whnf
  refine⟨adb,hab,⟨by omega,by omega⟩,?_⟩
  conv=>whnf
  refine⟨[.int .i64 b.1,.int .i64 b.2.1,.bool g0,.slice g1 g2 g3,.bool g4,.slice g5 g6 g7],rfl,fun ρ w' r j u hu=>?_,?_⟩
  ·obtain⟨k1,k2⟩:=hlb j u hu
   rw[Int.toNat_natCast,cell_of_heap (w:=w) (w2:=w') (by rw[addB,addB];exact(hw.tr r.bel).block _ (hS _ k1))]
   exact k2
  conv=>whnf
  refine callE_S (cE hw (Φ:=fun _ w' v w2=>∃d,v= .bool d∧(d=true↔hasN f.nodes.length b.1)) (fun ρ w' r=>sHas_c _ w' _ _ _ _ _ _ _ _ _) ?_)
  rintro ρ wa1 v1 wb1 iv1 r he hw h_ ⟨d0,rfl,hz0⟩
  replace hM:=hM.past r (oldF w) he (mC h_)
  clear r
  cases d0
  ·have hz0:¬hasN f.nodes.length b.1:=fun h=>by have:=hz0.2 h;cases this
   conv=>whnf
   intro ρe we re
   exact⟨_,rfl,hw.tr re.bel,by show Value.int .i64 _=_;rw[errF,if_neg (by omega),if_neg (by rw[hE];decide),if_neg (by rw[hE1];decide),hE2,firstE_ret hx (show supE f.nodes.length (f.sups.take i) b=6 by rw[supE,if_neg hz0]) (by decide)]⟩
  replace hz0:=hz0.1 rfl
  conv=>whnf
  refine BrS.mk (fun hx1=>?_) (fun hx1=>?_)
  ·have hx1:=of_decide_eq_true hx1
   conv=>whnf
   intro ρe we re
   exact⟨_,rfl,hw.tr re.bel,by show Value.int .i64 _=_;rw[errF,if_neg (by omega),if_neg (by rw[hE];decide),if_neg (by rw[hE1];decide),hE2,firstE_ret hx (show supE f.nodes.length (f.sups.take i) b=2 by rw[supE,if_pos hz0,if_neg (fun h=>by omega)]) (by decide)]⟩
  have hx1:=of_decide_eq_false hx1
  conv=>whnf
  refine BrS.mk (fun hx2=>?_) (fun hx2=>?_)
  ·have hx2:=of_decide_eq_true hx2
   conv=>whnf
   intro ρe we re
   exact⟨_,rfl,hw.tr re.bel,by show Value.int .i64 _=_;rw[errF,if_neg (by omega),if_neg (by rw[hE];decide),if_neg (by rw[hE1];decide),hE2,firstE_ret hx (show supE f.nodes.length (f.sups.take i) b=2 by rw[supE,if_pos hz0,if_neg (fun h=>by omega)]) (by decide)]⟩
  have hx2:=of_decide_eq_false hx2
  conv=>whnf
  have hax:0≤b.2.1∧b.2.1≤2:=by omega
  refine opS_lookup endsKey ends_map zero_bool rfl rfl (key:=endV (supK b)) (fun _=>rfl) ⟨_,rfl⟩ (fun k hk=>by obtain⟨x,_,rfl⟩:=List.mem_map.1 hk;exact⟨_,rfl⟩) (fun ρ w' r=>(hM.rel r (oldF w)).2) (fun ρ w' d r hd=>?_)
  replace hw:=hw.tr r.bel
  replace hM:=hM.rel r (oldF w)
  replace hd:d=true↔supK b∈(f.sups.take i).map supK:=by
   rw[hd]
   constructor
   ·intro h
    obtain⟨x,h1,h2⟩:=List.mem_map.1 h
    exact List.mem_map.2 ⟨x,h1,endV_inj h2⟩
   ·intro h
    obtain⟨x,h1,h2⟩:=List.mem_map.1 h
    exact List.mem_map.2 ⟨x,h1,congrArg endV h2⟩
  clear r
  cases d
  ·have hdup:supK b∉(f.sups.take i).map supK:=fun h=>by have:=hd.2 h;cases this
   clear hd
   conv=>whnf
   refine callE_S (cE hw (Φ:=fun _ w' v w2=>v= .int .i64 (rs b.2.2)) (fun ρ w' r=>(vCmp_c (fun g hg=>by have:=hS g hg;have:=r.baseLe;omega) (hF.v.keep fun g hg=>(hw.tr r.bel).block g (hS g hg)) (RatL.zero (S:=S)).v).mono fun _ _ ⟨v2,e1,e2,e3⟩=>⟨v2,e1,e2,by rw[e3,rs_sub_zero]⟩) ?_)
   rintro ρ wa2 v2 wb2 iv2 r he hw h_ rfl
   replace hM:=hM.past r (oldF w) he (mC h_)
   clear r
   obtain⟨cf,hcf⟩:∃c,rs b.2.2=c:=⟨_,rfl⟩
   rw[hcf]
   conv=>whnf
   refine BrS.mk (fun hd2=>?_) (fun hd2=>?_)
   ·have hd2:b.2.2<0:=by have:=of_decide_eq_true hd2;rw[←rs_neg_iff];omega
    conv=>whnf
    intro ρe we re
    exact⟨_,rfl,hw.tr re.bel,by show Value.int .i64 _=_;rw[errF,if_neg (by omega),if_neg (by rw[hE];decide),if_neg (by rw[hE1];decide),hE2,firstE_ret hx (show supE f.nodes.length (f.sups.take i) b=2 by rw[supE,if_pos hz0,if_pos hax,if_neg hdup,if_pos hd2]) (by decide)]⟩
   ·have hd2:0≤b.2.2:=by have:=of_decide_eq_false hd2;rw[←Rat.not_lt,←rs_neg_iff];omega
    conv=>whnf
    refine opS_mapUpdate endsKey ends_map rfl rfl (key:=endV (supK b)) (fun _=>rfl) rfl ⟨_,rfl⟩ (fun k hk=>by obtain⟨x,_,rfl⟩:=List.mem_map.1 hk;exact⟨_,rfl⟩) (fun h=>by
     obtain⟨x,h1,h2⟩:=List.mem_map.1 h
     exact hdup (List.mem_map.2 ⟨x,h1,endV_inj h2⟩)) (fun ρ w' r=>⟨(hM.rel r (oldF w)).2,Rel.not r (oldF w) hM.1⟩) (fun ρ wa wb r hM2 hg hsz=>?_)
    replace hw:=(hw.tr r.bel).tr (Bel.grown hg (fun x e=>by injection e with e;subst e;exact hM.1.elim (fun h=>h.elim) fun h=>h.1) r.baseLe)
    rw[show ((f.sups.take i).map fun b=>endV (supK b))++[endV (supK b)]=(f.sups.take (i+1)).map fun b=>endV (supK b) by rw[List.take_add_one,hx];simp]at hM2
    replace hM:MapC wb (Cv (fun _=>False) w.heap.size iv2) gm ((f.sups.take (i+1)).map fun b=>endV (supK b)):=⟨hM.1,hM2⟩
    rw[firstE_step hx (supE_zero.2 ⟨hz0,hax,hdup,hd2⟩)]at hE2
    clear r hg hsz hM2
    conv=>whnf
    refine⟨((i+1:Nat):Int),by rw[wrap64]<;>omega,?_⟩
    conv=>whnf
    intro ρ3 w6 r3
    exact⟨(i+1,w6,_),⟨hib,hw.tr r3.bel,hE2,hM.rel r3 (oldF w)⟩,Sub.gen [] r3 ⟨rfl,trivial⟩ ⟨rfl,rfl,rfl,rfl,rfl,trivial⟩ (by simp[ScH,Blk.scopd,At.sc]) (by simp[ScE,SV.sc,At.sc,initE]) (by rfl) (fun lo hi h=>h),by dsimp only;omega⟩
  ·have hd:=hd.1 rfl
   conv=>whnf
   intro ρe we re
   exact⟨_,rfl,hw.tr re.bel,by show Value.int .i64 _=_;rw[errF,if_neg (by omega),if_neg (by rw[hE];decide),if_neg (by rw[hE1];decide),hE2,firstE_ret hx (show supE f.nodes.length (f.sups.take i) b=5 by rw[supE,if_pos hz0,if_pos hax,if_pos hd]) (by decide)]⟩
 have hib:i=f.sups.length:=Nat.le_antisymm hi (by simpa using hib)
 rw[firstE_end (by omega)]at hE2
 conv=>whnf
 intro ρe we re
 exact⟨_,rfl,hw.tr re.bel,by show Value.int .i64 _=_;rw[errF,if_neg (by omega),if_neg (by rw[hE];decide),if_neg (by rw[hE1];decide),hE2]⟩
theorem sCheckLoadsP_c{S:Nat→Prop}{w:World}{vn vb vs vl:Value}{f:Frm}{l:List Ld}(hS:Old S w)(hf:FrameR w S vn vb vs f)(hl:LoadsR w S vl l):Con PG N.statics_CheckLoads #[.agg #[vn,vb,vs],vl] w (Ret w fun v' _=>v'= .int .i64 (errFL f l)):=by
 have hw:Bel w.heap.size w w:=Bel.refl
 obtain⟨an,cn,ab,cb,aq,cq,rfl,rfl,rfl,hmn,hmb,hms⟩:=hf.shape
 obtain⟨al,cl,rfl,hcl,hml⟩:=hl.shape
 refine in_statics_CheckLoads (by simp) ?_
 conv=>whnf
 refine callE_S (cE hw (Φ:=fun _ w' v w2=>v= .int .i64 (errF f)) (fun ρ w' r=>sCheck_c (fun g hg=>by have:=hS g hg;have:=r.baseLe;omega) (hf.keep fun g hg=>(hw.tr r.bel).block g (hS g hg))) ?_)
 rintro ρ wa1 v1 wb1 iv1 r he hw h_ rfl
 clear r
 obtain⟨c,hc⟩:∃c,errF f=c:=⟨_,rfl⟩
 rw[hc]
 conv=>whnf
 refine BrS.mk (fun hd=>?_) (fun hd=>?_)
 ·have hd:c≠0:=by simpa using hd
  conv=>whnf
  intro ρe we re
  exact⟨_,rfl,hw.tr re.bel,by show Value.int .i64 _=_;rw[errFL,if_pos (by rw[hc];exact hd),hc]⟩
 have hd:c=0:=by simpa using hd
 conv=>whnf
 refine callE_S (cE hw (Φ:=fun _ w' v w2=>v= .int .i64 (errL f.nodes.length l)) (fun ρ w' r=>sCheckLoads_c (fun g hg=>by have:=hS g hg;have:=r.baseLe;omega) (hl.keep fun g hg=>(hw.tr r.bel).block g (hS g hg))) ?_)
 rintro ρ wa2 v2 wb2 iv2 r he hw h_ rfl
 clear r
 conv=>whnf
 intro ρe we re
 exact⟨_,rfl,hw.tr re.bel,by show Value.int .i64 _=_;rw[errFL,if_neg (by rw[hc,hd];decide)]⟩
end Go.Ex

/- Forces, Displace and Count of a frame that has no stresses. Printed by program. No condition but sizes. -/
namespace Go.Ex
open Go Go.Sx Go.Proofs

/-- a frame without stresses, small enough -/
structure Calm(f:Frm)(h:Nat):Prop where
 ok:FrmOk f
 c0:0<f.cols
 b2:RedB (tabF f) f.cols h
 a2:Ht (reduceS (tabF f) f.cols).1 h
 st:kernelS (tabF f) f.cols=[]
 hh:3*h≤90000
/-- loads that such a frame carries -/
structure Borne(f:Frm)(l:List Ld)(h:Nat)(x:List Rat):Prop where
 ok:LdsOk f.nodes.length l
 b1:RedB (wideF (tabF f) (scaleF (vecT f l) (-1))) (f.cols+1) h
 x:solveS (tabF f) (scaleF (vecT f l) (-1)) f.cols=some x
theorem vecT_length(f:Frm)(l:List Ld):(vecT f l).length=3*f.nodes.length:=by rw[vecT,wholesF,List.length_map,loadsT_len]
theorem eachF_length(a b:List Rat):(eachF a b).length=a.length:=List.length_mapIdx ..
theorem transF_len(M:List (List Rat))(n:Nat):Len M.length (transF M n):=fun r hr=>by
 obtain⟨k,_,rfl⟩:=List.mem_map.1 hr
 exact List.length_map ..
theorem sForces1_c{S:Nat→Prop}{w:World}{vn vb vs vl:Value}{f:Frm}{l:List Ld}{x:List Rat}{h:Nat}(hS:Old S w)(hf:FrameR w S vn vb vs f)(hl:LoadsR w S vl l)(hc:Calm f h)(hB:Borne f l h x)(herr:errFL f l=0):
  Con PG N.statics_Forces #[.agg #[vn,vb,vs],vl] w (Ret w fun v' w2=>∃vx,v'= .tuple #[vx,.int .i64 0]∧RatsC w2 (Nw (fun _=>False) w w2) vx x):=by
 have hw:Bel w.heap.size w w:=Bel.refl
 obtain⟨an,cn,ab,cb,aq,cq,rfl,rfl,rfl,hmn,hmb,hms⟩:=hf.shape
 obtain⟨al,cl,rfl,hcl,hml⟩:=hl.shape
 obtain⟨hn20,hb60,hs60⟩:=And.intro hc.ok.n (And.intro hc.ok.b hc.ok.s)
 have hcols:f.cols=f.bars.length+f.sups.length:=rfl
 have htl:=tabF_length f
 refine in_statics_Forces (by simp) ?_
 conv=>whnf
 refine callE_S (cE hw (Φ:=fun _ w' v w2=>v= .int .i64 0) (fun ρ w' r=>(sCheckLoadsP_c (fun g hg=>by have:=hS g hg;have:=r.baseLe;omega) (hf.keep fun g hg=>(hw.tr r.bel).block g (hS g hg)) (hl.keep fun g hg=>(hw.tr r.bel).block g (hS g hg))).mono fun _ _ ⟨v2,e1,e2,e3⟩=>⟨v2,e1,e2,by rw[e3,herr]⟩) ?_)
 rintro ρ wa1 v1 wb1 iv1 r he hw h_ rfl
 clear r
 conv=>whnf
 refine drawn_of_pi hτ hmix [.x 0,.x 1,.x 2,.x 3,.x 4,.x 5,.x 6,.x 7,.x 8,.x 9] (by kernel_rfl) (by kernel_rfl) ?_
 conv=>whnf
 refine cE hw (Φ:=fun _ w' v w2=>RowXc w2 (fun _=>False) w'.heap.size [(w'.heap.size,w2.heap.size)] v (3*f.nodes.length) (vecT f l)∧∀q∈vecT f l,rl q≤1) (fun ρ w' r=>sVector_c (fun g hg=>by have:=hS g hg;have:=r.baseLe;omega) (hl.keep fun g hg=>(hw.tr r.bel).block g (hS g hg)) hn20 hB.ok rfl rfl) ?_
 rintro ρ wa2 v2 wb2 iv2 r he hw h_ ⟨hn,hvq⟩
 have hP:=hn.got (S:=fun _=>False) r.baseLe (mN h_)
 clear r
 clear hn
 obtain⟨ap,cp,rfl,hcp⟩:=hP.row.form
 conv=>whnf
 refine cE hw (Φ:=fun _ w' v w2=>∃vx,v= .tuple #[vx,.bool true]∧RowXc w2 (fun _=>False) w'.heap.size [(w'.heap.size,w2.heap.size)] vx f.cols x) (fun ρ w' r=>(sForces0_c (S:=fun g=>S g∨Cv (fun _=>False) w.heap.size iv2 g) (p:=vecT f l) (h:=h) (fun g hg=>hg.elim (fun hg=>by have:=hS g hg;have:=r.baseLe;omega) (Rel.old r (oldF w) g)) ((hf.keep fun g hg=>(hw.tr r.bel).block g (hS g hg)).weak fun g hg=>.inl hg) hc.ok (RatsC.weak ((hP.rel r (oldF w)).c) fun g hg=>.inr hg) (vecT_length f l) (fun q hq=>by have:=hvq q hq;omega) hc.c0 hB.b1 hc.b2 hc.a2 hc.st hc.hh).mono fun _ _ ⟨v2,e1,e2,e3⟩=>⟨v2,e1,e2,by
  rcases e3 with⟨k1,_⟩|⟨x2,vx,k1,k2,k3⟩
  ·rw[hB.x]at k1;cases k1
  ·rw[hB.x]at k1;injection k1 with k1;subst k1;exact⟨vx,k2,k3⟩⟩) ?_
 rintro ρ wa3 v3 wb3 iv3 r he hw h_ ⟨vx,rfl,hn⟩
 clear hP
 have hX:=hn.got (S:=fun _=>False) r.baseLe (mN h_)
 clear r
 clear hn
 obtain⟨ax,cx,rfl,hcx⟩:=hX.row.form
 conv=>whnf
 intro ρe we re
 exact⟨_,rfl,hw.tr re.bel,_,rfl,RatsC.out hX.c re (oldF w)⟩
theorem sCount0_c{S:Nat→Prop}{w:World}{vn vb vs:Value}{f:Frm}{h:Nat}(hS:Old S w)(hf:FrameR w S vn vb vs f)(hc:Calm f h)(herr:errF f=0)(hnr0:(reduceS (tabF f) f.cols).1.length≤f.cols):
  Con PG N.statics_Count #[.agg #[vn,vb,vs]] w (Ret w fun v' _=>v'= .tuple #[.agg #[.int .i64 (reduceS (tabF f) f.cols).1.length,.int .i64 ((f.cols:Int)-(reduceS (tabF f) f.cols).1.length),.int .i64 ((3*f.nodes.length:Nat)-(reduceS (tabF f) f.cols).1.length)],.int .i64 0]):=by
 have hw:Bel w.heap.size w w:=Bel.refl
 obtain⟨an,cn,ab,cb,aq,cq,rfl,rfl,rfl,hmn,hmb,hms⟩:=hf.shape
 obtain⟨hn20,hb60,hs60⟩:=And.intro hc.ok.n (And.intro hc.ok.b hc.ok.s)
 have hcols:f.cols=f.bars.length+f.sups.length:=rfl
 have htl:=tabF_length f
 refine in_statics_Count (by simp) ?_
 conv=>whnf
 refine callE_S (cE hw (Φ:=fun _ w' v w2=>v= .int .i64 0) (fun ρ w' r=>(sCheck_c (fun g hg=>by have:=hS g hg;have:=r.baseLe;omega) (hf.keep fun g hg=>(hw.tr r.bel).block g (hS g hg))).mono fun _ _ ⟨v2,e1,e2,e3⟩=>⟨v2,e1,e2,by rw[e3,herr]⟩) ?_)
 rintro ρ wa1 v1 wb1 iv1 r he hw h_ rfl
 clear r
 conv=>whnf
 refine callE_S (cE hw (Φ:=fun _ w' v w2=>(∃vr,v= .agg #[vr,.int .i64 f.cols]∧RatMC w2 (Nw (fun _=>False) w' w2) vr (tabF f))∧Len f.cols (tabF f)∧Ht (tabF f) 2) (fun ρ w' r=>sTableOf_c (S:=S) (fun g hg=>by have:=hS g hg;have:=r.baseLe;omega) (hf.keep fun g hg=>(hw.tr r.bel).block g (hS g hg)) hc.ok) ?_)
 rintro ρ wa1 v1 wb1 ivt r he hw h_ ⟨⟨vr,rfl,k1⟩,hlen,hht⟩
 have hM:=RatMC.got (S:=fun _=>False) k1 r.baseLe (mN h_)
 clear r
 obtain⟨am,cm,rfl,hcm,hmm⟩:=SlicesR.shape hM
 have hmt:=htl
 have hhc:=hc.c0
 conv=>whnf
 refine callE_S (cE hw (Φ:=fun _ w' v w2=>∃vr vp vf,v= .agg #[vr,.int .i64 f.cols,vp,vf]∧RatMC w2 (Nw (Cv (fun _=>False) w.heap.size ivt) w' w2) vr (reduceS (tabF f) f.cols).1) (fun ρ w' r=>(sReduce_c (C:=Cv (fun _=>False) w.heap.size ivt) (S:=Cv (fun _=>False) w.heap.size ivt) (h:=h) (Rel.old r (oldF w)) (Rel.old r (oldF w)) (RatMC.rel hM r (oldF w)) hlen hc.c0 (by omega) (by omega) (Nat.le_refl _) hc.b2 hc.hh).mono fun _ _ ⟨v2,e1,e2,vr,vp,vf,k1,k2,_,_⟩=>⟨v2,e1,e2,vr,vp,vf,k1,k2⟩) ?_)
 rintro ρ wa2 v2 wb2 iv2 r he hw h_ ⟨vr2,vp2,vf2,rfl,hn⟩
 replace hM:=RatMC.past hM r (oldF w) he (mC h_)
 clear r
 obtain⟨ar,cr,rfl,-,-⟩:=SlicesR.shape hn
 obtain⟨nr,hnr⟩:∃nr,(reduceS (tabF f) f.cols).1.length=nr:=⟨_,rfl⟩
 rw[hnr]
 clear hn
 conv=>whnf
 refine⟨(f.cols:Int)-nr,by rw[wrap64]<;>omega,?_⟩
 conv=>whnf
 refine⟨((tabF f).length:Int)-nr,by rw[wrap64]<;>omega,?_⟩
 conv=>whnf
 intro ρe we re
 exact⟨_,rfl,hw.tr re.bel,by rw[htl];rfl⟩
set_option maxHeartbeats 1000000 in
theorem sDisplace0_c{S:Nat→Prop}{w:World}{vn vb vs vl:Value}{f:Frm}{l:List Ld}{x u:List Rat}{h:Nat}(hS:Old S w)(hf:FrameR w S vn vb vs f)(hl:LoadsR w S vl l)(hc:Calm f h)(hB:Borne f l h x)(herr:errFL f l=0)
  (hrank:(reduceS (tabF f) f.cols).1.length=3*f.nodes.length) (hxl:x.length=f.cols) (hxq:∀q∈x,rl q≤100000) (heq:∀q∈eachF x (flexF f),rl q≤100000)
  (hB3:RedB (wideF (transF (tabF f) f.cols) (scaleF (eachF x (flexF f)) (-1))) (3*f.nodes.length+1) h) (hu:solveS (transF (tabF f) f.cols) (scaleF (eachF x (flexF f)) (-1)) (3*f.nodes.length)=some u):
  Con PG N.statics_Displace #[.agg #[vn,vb,vs],vl] w (Ret w fun v' w2=>∃vu vx,v'= .tuple #[vu,vx,.int .i64 0]∧RatsC w2 (Nw (fun _=>False) w w2) vu u∧RatsC w2 (Nw (fun _=>False) w w2) vx x):=by
 have hw:Bel w.heap.size w w:=Bel.refl
 obtain⟨an,cn,ab,cb,aq,cq,rfl,rfl,rfl,hmn,hmb,hms⟩:=hf.shape
 obtain⟨al,cl,rfl,hcl,hml⟩:=hl.shape
 obtain⟨hn20,hb60,hs60⟩:=And.intro hc.ok.n (And.intro hc.ok.b hc.ok.s)
 have hcols:f.cols=f.bars.length+f.sups.length:=rfl
 have htl:=tabF_length f
 refine in_statics_Displace (by simp) ?_
 conv=>whnf
 refine callE_S (cE hw (Φ:=fun _ w' v w2=>v= .int .i64 0) (fun ρ w' r=>(sCheckLoadsP_c (fun g hg=>by have:=hS g hg;have:=r.baseLe;omega) (hf.keep fun g hg=>(hw.tr r.bel).block g (hS g hg)) (hl.keep fun g hg=>(hw.tr r.bel).block g (hS g hg))).mono fun _ _ ⟨v2,e1,e2,e3⟩=>⟨v2,e1,e2,by rw[e3,herr]⟩) ?_)
 rintro ρ wa1 v1 wb1 iv1 r he hw h_ rfl
 clear r
 conv=>whnf
 refine callE_S (cE hw (Φ:=fun _ w' v w2=>(∃vr,v= .agg #[vr,.int .i64 f.cols]∧RatMC w2 (Nw (fun _=>False) w' w2) vr (tabF f))∧Len f.cols (tabF f)∧Ht (tabF f) 2) (fun ρ w' r=>sTableOf_c (S:=S) (fun g hg=>by have:=hS g hg;have:=r.baseLe;omega) (hf.keep fun g hg=>(hw.tr r.bel).block g (hS g hg)) hc.ok) ?_)
 rintro ρ wa1 v1 wb1 ivt r he hw h_ ⟨⟨vr,rfl,k1⟩,hlen,hht⟩
 have hM:=RatMC.got (S:=fun _=>False) k1 r.baseLe (mN h_)
 clear r
 obtain⟨am,cm,rfl,hcm,hmm⟩:=SlicesR.shape hM
 have hmt:=htl
 have hhc:=hc.c0
 conv=>whnf
 refine drawn_of_pi hτ hmix [.x 0,.x 1,.x 2,.x 7,.x 8,.x 9,.x 3,.x 4,.x 5,.x 6,.x 10] (by kernel_rfl) (by kernel_rfl) ?_
 conv=>whnf
 refine cE hw (Φ:=fun _ w' v w2=>∃vr vp vf,v= .agg #[vr,.int .i64 f.cols,vp,vf]∧RatMC w2 (Nw (Cv (fun _=>False) w.heap.size ivt) w' w2) vr (reduceS (tabF f) f.cols).1) (fun ρ w' r=>(sReduce_c (C:=Cv (fun _=>False) w.heap.size ivt) (S:=Cv (fun _=>False) w.heap.size ivt) (h:=h) (Rel.old r (oldF w)) (Rel.old r (oldF w)) (RatMC.rel hM r (oldF w)) hlen hc.c0 (by omega) (by omega) (Nat.le_refl _) hc.b2 hc.hh).mono fun _ _ ⟨v2,e1,e2,vr,vp,vf,k1,k2,_,_⟩=>⟨v2,e1,e2,vr,vp,vf,k1,k2⟩) ?_
 rintro ρ wa2 v2 wb2 iv2 r he hw h_ ⟨vr2,vp2,vf2,rfl,hn⟩
 replace hM:=RatMC.past hM r (oldF w) he (mC h_)
 clear r
 obtain⟨ar,cr,rfl,-,-⟩:=SlicesR.shape hn
 obtain⟨nr,hnr⟩:∃nr,(reduceS (tabF f) f.cols).1.length=nr:=⟨_,rfl⟩
 rw[hnr]
 clear hn
 conv=>whnf
 have hnr2:(nr:Int)=(tabF f).length:=by rw[←hnr,hrank,htl]
 refine BrS.mk (fun h1=>absurd (of_decide_eq_true h1) (by omega)) (fun _=>?_)
 conv=>whnf
 refine drawn_of_pi hτ hmix [.x 0,.x 1,.x 2,.x 3,.x 4,.x 5,.x 6,.x 7,.x 8,.x 9] (by kernel_rfl) (by kernel_rfl) ?_
 conv=>whnf
 refine cE hw (Φ:=fun _ w' v w2=>RowXc w2 (fun _=>False) w'.heap.size [(w'.heap.size,w2.heap.size)] v (3*f.nodes.length) (vecT f l)∧∀q∈vecT f l,rl q≤1) (fun ρ w' r=>sVector_c (fun g hg=>by have:=hS g hg;have:=r.baseLe;omega) (hl.keep fun g hg=>(hw.tr r.bel).block g (hS g hg)) hn20 hB.ok rfl rfl) ?_
 rintro ρ wa3 v3 wb3 iv3 r he hw h_ ⟨hn,hvq⟩
 replace hM:=RatMC.past hM r (oldF w) he (mC h_)
 have hP:=hn.got (S:=fun _=>False) r.baseLe (mN h_)
 clear r
 clear hn
 obtain⟨ap,cp,rfl,hcp⟩:=hP.row.form
 conv=>whnf
 refine cE hw (Φ:=fun _ w' v w2=>∃vx,v= .tuple #[vx,.bool true]∧RowXc w2 (fun _=>False) w'.heap.size [(w'.heap.size,w2.heap.size)] vx f.cols x) (fun ρ w' r=>(sForces0_c (S:=fun g=>S g∨Cv (fun _=>False) w.heap.size iv3 g) (p:=vecT f l) (h:=h) (fun g hg=>hg.elim (fun hg=>by have:=hS g hg;have:=r.baseLe;omega) (Rel.old r (oldF w) g)) ((hf.keep fun g hg=>(hw.tr r.bel).block g (hS g hg)).weak fun g hg=>.inl hg) hc.ok (RatsC.weak ((hP.rel r (oldF w)).c) fun g hg=>.inr hg) (vecT_length f l) (fun q hq=>by have:=hvq q hq;omega) hc.c0 hB.b1 hc.b2 hc.a2 hc.st hc.hh).mono fun _ _ ⟨v2,e1,e2,e3⟩=>⟨v2,e1,e2,by
  rcases e3 with⟨k1,_⟩|⟨x2,vx,k1,k2,k3⟩
  ·rw[hB.x]at k1;cases k1
  ·rw[hB.x]at k1;injection k1 with k1;subst k1;exact⟨vx,k2,k3⟩⟩) ?_
 rintro ρ wa4 v4 wb4 iv4 r he hw h_ ⟨vx,rfl,hn⟩
 replace hM:=RatMC.past hM r (oldF w) he (mC h_)
 clear hP
 have hX:=hn.got (S:=fun _=>False) r.baseLe (mN h_)
 clear r
 clear hn
 obtain⟨ax,cx,rfl,hcx⟩:=hX.row.form
 conv=>whnf
 refine drawn_of_pi hτ hmix [.x 0,.x 2,.x 3,.x 1,.x 4,.x 5,.x 6,.x 7,.x 8,.x 9,.x 10,.x 11,.x 12,.x 13] (by kernel_rfl) (by kernel_rfl) ?_
 conv=>whnf
 refine callE_con (Φ:=fun _ w' v w2=>∃vr,v= .agg #[vr,.int .i64 (tabF f).length]∧RatMC w2 (Nw (Cv (fun _=>False) w.heap.size iv4) w' w2) vr (transF (tabF f) f.cols)) (fun ρ w' r=>sTransposed_c (C:=Cv (fun _=>False) w.heap.size iv4) (S:=Cv (fun _=>False) w.heap.size iv4) (Rel.old r (oldF w)) (Rel.old r (oldF w)) (RatMC.rel hM r (oldF w)) hlen (by omega) (by omega)) ?_
 rintro ρ wa5 v5 wb5 r he hb ⟨vt,rfl,hn⟩
 replace hw:=hw.tr hb
 clear hM
 replace hX:=hX.past (iv':=(wa5.heap.size,wb5.heap.size)::iv4) r (oldF w) he fun x hx=>List.mem_cons_of_mem _ hx
 have hT:=RatMC.old hn r.baseLe
 clear r he hb
 generalize (wa5.heap.size,wb5.heap.size)::iv4=iv5 at*
 clear hn
 obtain⟨at_,ct,rfl,-,-⟩:=SlicesR.shape hT
 conv=>whnf
 refine callE_con (Φ:=fun _ w' v w2=>RatsL w2 (Nw (Cv S w.heap.size iv5) w' w2) v (flexF f)) (fun ρ w' r=>sFlexes_c (S:=Cv S w.heap.size iv5) (Rel.old r hS) (FrameR.weak (hf.keep fun g hg=>(hw.tr r.bel).block g (hS g hg)) fun g hg=>.inl hg) hc.ok) ?_
 rintro ρ wa6 v6 wb6 r he hb hn
 replace hw:=hw.tr hb
 replace hX:=hX.past (iv':=(wa6.heap.size,wb6.heap.size)::iv5) r (oldF w) he fun x hx=>List.mem_cons_of_mem _ hx
 replace hT:=RatMC.past (iv':=(wa6.heap.size,wb6.heap.size)::iv5) hT r (oldF w) he fun x hx=>List.mem_cons_of_mem _ hx
 have hF:=RatsL.old hn r.baseLe
 clear r he hb hn
 generalize (wa6.heap.size,wb6.heap.size)::iv5=iv6 at*
 obtain⟨afl,cfl,rfl,-,-⟩:=ListR.shape hF
 conv=>whnf
 refine cE hw (Φ:=fun _ w' v w2=>RowXc w2 (fun _=>False) w'.heap.size [(w'.heap.size,w2.heap.size)] v x.length (eachF x (flexF f))) (fun ρ w' r=>sEach_c (S:=Cv S w.heap.size iv6) (Rel.old r hS) (RatsL.weak (RatsC.l ((hX.rel r (oldF w)).c) fun q hq=>hxq q hq) fun g hg=>cvF hg) (RatsL.rel hF r hS) (by rw[hxl,flexF_length];exact Nat.le_refl _) (by omega)) ?_
 rintro ρ wa7 v7 wb7 iv7 r he hw h_ hn
 replace hX:=hX.past r (oldF w) he (mC h_)
 replace hT:=RatMC.past hT r (oldF w) he (mC h_)
 clear hF
 have hE:=hn.got (S:=fun _=>False) r.baseLe (mN h_)
 clear r he hn
 obtain⟨ae,ce,rfl,hce⟩:=hE.row.form
 conv=>whnf
 refine cE hw (Φ:=fun _ w' v w2=>RatC w2 (Nw (fun _=>False) w' w2) v ((-1:Int):Rat)) (fun ρ w' r=>sWhole_c (-1) w' (by decide) (by decide)) ?_
 rintro ρ wa8 v8 wb8 iv8 r he hw h_ hn
 replace hX:=hX.past r (oldF w) he (mC h_)
 replace hT:=RatMC.past hT r (oldF w) he (mC h_)
 replace hE:=hE.past r (oldF w) he (mC h_)
 have hd:=hn.got (S:=fun _=>False) r.baseLe (mN h_)
 clear r he hn
 obtain⟨s8_0,s8_1,s8_2,s8_3,s8_4,s8_5,s8_6,s8_7,rfl⟩:=hd.shape
 conv=>whnf
 refine cE hw (Φ:=fun _ w' v w2=>RowXc w2 (fun _=>False) w'.heap.size [(w'.heap.size,w2.heap.size)] v (eachF x (flexF f)).length (scaleF (eachF x (flexF f)) (-1))) (fun ρ w' r=>sScaled_c (S:=Cv (fun _=>False) w.heap.size iv8) (Rel.old r (oldF w)) (RatsC.l ((hE.rel r (oldF w)).c) heq) ((hd.rel r (oldF w)).l (by decide)) (by rw[eachF_length];omega)) ?_
 rintro ρ wa9 v9 wb9 iv9 r he hw h_ hn
 replace hX:=hX.past r (oldF w) he (mC h_)
 replace hT:=RatMC.past hT r (oldF w) he (mC h_)
 clear hE
 clear hd
 have hG:=hn.got (S:=fun _=>False) r.baseLe (mN h_)
 clear r he hn
 obtain⟨ag,cg,rfl,hcg⟩:=hG.row.form
 conv=>whnf
 refine callE_con (Φ:=fun _ w' v w2=>∃vu,v= .tuple #[vu,.bool true]∧RowXc w2 (Cv (fun _=>False) w.heap.size iv9) w'.heap.size [(w'.heap.size,w2.heap.size)] vu (tabF f).length u) (fun ρ w' r=>(sSolve_c (C:=Cv (fun _=>False) w.heap.size iv9) (S:=Cv (fun _=>False) w.heap.size iv9) (h:=h) (Rel.old r (oldF w)) (Rel.old r (oldF w)) (RatMC.rel hT r (oldF w)) ((hG.rel r (oldF w)).c) (by rw[scaleF,List.length_map,eachF_length,transF_length];exact hxl) (transF_len _ _) (by omega) (by rw[transF_length];omega) (by rw[htl];exact hB3) hc.hh).mono fun _ _ ⟨v2,e1,e2,e3⟩=>⟨v2,e1,e2,by
  rcases e3 with⟨k1,_⟩|⟨x2,vx,k1,k2,k3⟩
  ·rw[htl,hu]at k1;cases k1
  ·rw[htl,hu]at k1;injection k1 with k1;subst k1;exact⟨vx,k2,k3⟩⟩) ?_
 rintro ρ wa10 v10 wb10 r he hb ⟨vu,rfl,hn⟩
 replace hw:=hw.tr hb
 replace hX:=hX.past (iv':=(wa10.heap.size,wb10.heap.size)::iv9) r (oldF w) he fun x hx=>List.mem_cons_of_mem _ hx
 clear hT
 clear hG
 have hU:=hn.oldS r.baseLe
 clear r he hb
 generalize (wa10.heap.size,wb10.heap.size)::iv9=iv10 at*
 clear hn
 obtain⟨au,cu,rfl,hcu⟩:=hU.row.form
 conv=>whnf
 intro ρe we re
 exact⟨_,rfl,hw.tr re.bel,_,_,rfl,RatsC.out hU.c re (oldF w),RatsC.out hX.c re (oldF w)⟩
end Go.Ex

/- The integer square root, the limit of a force density. Printed by program. No condition but sizes. -/

namespace Go.Ex
open Go Go.Sx Go.Proofs

theorem sq_one{r s n:Nat}(h1:r*r≤n)(h2:n<(r+1)*(r+1))(h3:s*s≤n)(h4:n<(s+1)*(s+1)):r=s:=by
 rcases Nat.lt_trichotomy r s with h|h|h
 ·have:=Nat.mul_le_mul (show r+1≤s from h) (show r+1≤s from h);omega
 ·exact h
 ·have:=Nat.mul_le_mul (show s+1≤r from h) (show s+1≤r from h);omega
theorem sRoot_c(n:Nat)(w:World)(hn:n<4000000004000000001):Con PG N.statics_root #[.int .i64 n] w (Ret w fun v' _=>∃r:Nat,v'= .int .i64 r∧r*r≤n∧n<(r+1)*(r+1)):=by
 have hw:Bel w.heap.size w w:=Bel.refl
 refine in_statics_root (by simp) ?_
 conv=>whnf
 refine⟨Nat×Int×World,fun z=>⟨[(0,.o (.v (.int .i64 n))),(3,.o (.v (.int .i64 ((z.1:Nat):Int)))),(4,.o (.v (.int .i64 z.2.1)))],[],0,[],z.2.2⟩,fun z=>(z.2.1-z.1).toNat,
  fun z=>(z.1:Int)≤z.2.1∧z.2.1≤2000000000∧Bel w.heap.size w z.2.2∧z.1*z.1≤n∧(n:Int)<(z.2.1+1)*(z.2.1+1),?_,?_⟩
 ·intro ρ w' r3
  exact⟨(0,2000000000,w'),⟨by simp,by simp,hw.tr r3.bel,by simp,by dsimp only;omega⟩,Sub.gen [] r3 trivial ⟨rfl,rfl,rfl,trivial⟩ (by simp[ScH,Blk.scopd,At.sc]) (by simp[ScE,SV.sc,At.sc,initE]) (by rfl) (fun lo hi h=>h)⟩
 clear hw
 rintro⟨lo,hi,w1⟩ ⟨hlh,hhi,hw,hlo,hup⟩
 dsimp only at hlh hhi hw hlo hup ⊢
 obtain⟨hi,rfl⟩:=Int.eq_ofNat_of_zero_le (show 0≤hi by omega)
 replace hup:n<(hi+1)*(hi+1):=by
  have h:((hi:Int)+1)*((hi:Int)+1)=(((hi+1)*(hi+1):Nat):Int):=by push_cast;rfl
  rw[h]at hup;omega
 conv=>whnf
 refine BrS.mk (fun hib=>?_) (fun hib=>?_)
 ·have hib:lo<hi:=by have:=of_decide_eq_true hib;omega
  obtain⟨m,hm⟩:∃m,(lo+hi+1) / 2=m:=⟨_,rfl⟩
  have hm1:lo<m:=by omega
  have hm2:m≤hi:=by omega
  have hmm:m*m≤2000000000*2000000000:=Nat.mul_le_mul (by omega) (by omega)
  conv=>whnf
  refine⟨((lo+hi:Nat):Int),by rw[wrap64]<;>omega,?_⟩
  conv=>whnf
  refine⟨((lo+hi+1:Nat):Int),by rw[wrap64]<;>omega,?_⟩
  conv=>whnf
  refine⟨by decide,(m:Int),by rw[show ((lo+hi+1:Nat):Int).tdiv 2=(((lo+hi+1) / 2:Nat):Int)from rfl,hm,wrap64]<;>omega,?_⟩
  conv=>whnf
  refine⟨((m*m:Nat):Int),by rw[wrap64]<;>push_cast<;>first|rfl|omega,?_⟩
  conv=>whnf
  refine BrS.mk (fun hd=>?_) (fun hd=>?_)
  ·have hd:m*m≤n:=by have:=of_decide_eq_true hd;omega
   conv=>whnf
   intro ρ3 w6 r3
   exact⟨(m,hi,w6),⟨by dsimp only;omega,hhi,hw.tr r3.bel,hd,by dsimp only;rw[show ((hi:Int)+1)*((hi:Int)+1)=(((hi+1)*(hi+1):Nat):Int) by push_cast;rfl];omega⟩,Sub.gen [] r3 trivial ⟨rfl,rfl,rfl,trivial⟩ (by simp[ScH,Blk.scopd,At.sc]) (by simp[ScE,SV.sc,At.sc,initE]) (by rfl) (fun lo hi h=>h),by dsimp only;omega⟩
  ·have hd:n<m*m:=by have:=of_decide_eq_false hd;omega
   conv=>whnf
   have hu3:(lo:Int)≤((m-1:Nat):Int):=by omega
   have hu4:((m-1:Nat):Int)≤2000000000:=by omega
   have hu2:(n:Int)<(((m-1:Nat):Int)+1)*(((m-1:Nat):Int)+1):=by rw[show ((m-1:Nat):Int)+1=m by omega];exact_mod_cast hd
   refine⟨((m-1:Nat):Int),by rw[wrap64]<;>omega,?_⟩
   conv=>whnf
   intro ρ3 w6 r3
   exact⟨(lo,((m-1:Nat):Int),w6),⟨hu3,hu4,hw.tr r3.bel,hlo,hu2⟩,Sub.gen [] r3 trivial ⟨rfl,rfl,rfl,trivial⟩ (by simp[ScH,Blk.scopd,At.sc]) (by simp[ScE,SV.sc,At.sc,initE]) (by rfl) (fun lo hi h=>h),by dsimp only;omega⟩
 have hib:lo=hi:=by have:=of_decide_eq_false hib;omega
 subst hib
 conv=>whnf
 intro ρe we re
 exact⟨_,rfl,hw.tr re.bel,_,rfl,hlo,hup⟩
theorem sGood_c(n:Int)(w:World):Con PG N.statics_goodStrength #[.int .i64 n] w (Ret w fun v' _=>∃d,v'= .bool d∧(d=true↔0≤n∧n≤1000000)):=by
 have hw:Bel w.heap.size w w:=Bel.refl
 refine in_statics_goodStrength (by simp) ?_
 conv=>whnf
 refine BrS.mk (fun h1=>?_) (fun h1=>?_)
 ·conv=>whnf
  intro ρe we re
  have h1:=of_decide_eq_true h1
  exact⟨_,rfl,hw.tr re.bel,_,rfl,by rw[decide_eq_true_iff];exact⟨fun h=>⟨h1,h⟩,fun h=>h.2⟩⟩
 ·conv=>whnf
  intro ρe we re
  have h1:=of_decide_eq_false h1
  exact⟨_,rfl,hw.tr re.bel,_,rfl,(fun h=>by cases h),fun h=>absurd h.1 h1⟩
theorem sLimit_c(sq st:Nat)(w:World)(h0:0<sq)(h1:st≤1000000):Con PG N.statics_limit #[.int .i64 sq,.int .i64 st] w (Ret w fun v' w2=>∃r:Nat,r*r≤st*st*1000*1000 / sq∧st*st*1000*1000 / sq<(r+1)*(r+1)∧RatC w2 (Nw (fun _=>False) w w2) v' (Rat.divInt r 1000)):=by
 have hw:Bel w.heap.size w w:=Bel.refl
 have h2:st*st≤1000000*1000000:=Nat.mul_le_mul h1 h1
 have h4:st*st*1000*1000 / sq≤st*st*1000*1000:=Nat.div_le_self _ _
 obtain⟨m,hm⟩:∃m,st*st*1000*1000 / sq=m:=⟨_,rfl⟩
 refine in_statics_limit (by simp) ?_
 conv=>whnf
 refine⟨((st*st:Nat):Int),by rw[wrap64]<;>push_cast<;>first|rfl|omega,?_⟩
 conv=>whnf
 refine⟨((st*st*1000:Nat):Int),by rw[wrap64]<;>omega,?_⟩
 conv=>whnf
 refine⟨((st*st*1000*1000:Nat):Int),by rw[wrap64]<;>omega,?_⟩
 conv=>whnf
 refine⟨by omega,(m:Int),by rw[show ((st*st*1000*1000:Nat):Int).tdiv (sq:Int)=((st*st*1000*1000 / sq:Nat):Int)from rfl,hm,wrap64]<;>omega,?_⟩
 conv=>whnf
 refine callE_S (cE hw (Φ:=fun _ w' v w2=>∃r:Nat,v= .int .i64 r∧r*r≤m∧m<(r+1)*(r+1)) (fun ρ w' r=>sRoot_c m w' (by omega)) ?_)
 rintro ρ wa1 v1 wb1 iv1 r he hw h_ ⟨rt,rfl,hr1,hr2⟩
 clear r
 have hrt:rt≤2000000000:=by
  rcases Nat.lt_or_ge 2000000000 rt with h|h
  ·have:=Nat.mul_le_mul h h;omega
  ·exact h
 conv=>whnf
 refine callE_S (cE hw (Φ:=fun _ w' v w2=>∃r,v= .tuple #[r,.int .i64 0]∧RatC w2 (Nw (fun _=>False) w' w2) r (Rat.divInt rt 1000)) (fun ρ w' r=>(pubRatio_c rt 1000 w' (by omega) (by omega) (by decide) (by decide)).mono fun _ _ ⟨v2,e1,e2,e3⟩=>⟨v2,e1,e2,e3.elim (fun k=>absurd k.1 (by decide)) fun h=>h.2⟩) ?_)
 rintro ρ wa2 v2 wb2 iv2 r he hw h_ ⟨q1,rfl,k1⟩
 have hd:=k1.got (S:=fun _=>False) r.baseLe (mN h_)
 clear r
 obtain⟨s2_0a,s2_0b,s2_0c,s2_0d,s2_0e,s2_0f,s2_0g,s2_0h,rfl⟩:=hd.shape
 clear k1
 conv=>whnf
 intro ρe we re
 exact⟨_,rfl,hw.tr re.bel,rt,hm▸hr1,hm▸hr2,hd.out re (oldF w)⟩
theorem sLimitOk_c(sq st:Nat)(w:World)(h0:0<sq)(h2:sq≤20000000000000)(h1:st≤1000000):Con PG N.statics_Limit #[.int .i64 sq,.int .i64 st] w (Ret w fun v' w2=>∃vr,∃r:Nat,v'= .tuple #[vr,.int .i64 0]∧r*r≤st*st*1000*1000 / sq∧st*st*1000*1000 / sq<(r+1)*(r+1)∧RatC w2 (Nw (fun _=>False) w w2) vr (Rat.divInt r 1000)):=by
 have hw:Bel w.heap.size w w:=Bel.refl
 refine in_statics_Limit (by simp) ?_
 conv=>whnf
 refine BrS.mk (fun k1=>absurd (of_decide_eq_true k1) (by omega)) (fun _=>?_)
 conv=>whnf
 refine BrS.mk (fun k1=>absurd (of_decide_eq_true k1) (by omega)) (fun _=>?_)
 conv=>whnf
 refine callE_S (cE hw (Φ:=fun _ w' v w2=>v= .bool true) (fun ρ w' r=>(sGood_c st w').mono fun _ _ ⟨v2,e1,e2,d,e3,e4⟩=>⟨v2,e1,e2,by rw[e3,e4.2 ⟨by omega,by omega⟩]⟩) ?_)
 rintro ρ wa1 v1 wb1 iv1 r he hw h_ rfl
 clear r
 conv=>whnf
 refine callE_S (cE hw (Φ:=fun _ w' v w2=>∃r:Nat,r*r≤st*st*1000*1000 / sq∧st*st*1000*1000 / sq<(r+1)*(r+1)∧RatC w2 (Nw (fun _=>False) w' w2) v (Rat.divInt r 1000)) (fun ρ w' r=>sLimit_c sq st w' h0 h1) ?_)
 rintro ρ wa2 v2 wb2 iv2 r he hw h_ ⟨rt,hr1,hr2,k1⟩
 have hd:=k1.got (S:=fun _=>False) r.baseLe (mN h_)
 clear r
 obtain⟨s2_0a,s2_0b,s2_0c,s2_0d,s2_0e,s2_0f,s2_0g,s2_0h,rfl⟩:=hd.shape
 clear k1
 conv=>whnf
 intro ρe we re
 exact⟨_,rfl,hw.tr re.bel,_,rt,rfl,hr1,hr2,hd.out re (oldF w)⟩
end Go.Ex
