/- A part of the proof: texts X164 to L50. Each tells its conditions in its theorems. -/
import Derived.Test.YtkdcaknoaeicdaaGreatP8
import Derived.Test.YtkdcaknoaeicdaaGreatP11
import Derived.Test.YtkdcaknoaeicdaaGreatP12
namespace Go.Ex
open Go Go.Sx Go.Proofs
end Go.Ex
namespace Go.Sx
open Go Go.Ex Go.Proofs
variable{vs:List Value}{O:Nat->Sx.dU}
theorem Sub.LZ{B nx:Nat}{l:Env}{H:Hp}{iv:Iv}{w w':World}{t:zl}(id:Nat){bt:Nat}(hid:cY H id=some (.box bt (vs.map At.v)))(r:Rel H nx iv B w O w')
  (h:Rel ((id,.arr bt vs)::H) nx iv B w O w'->Sx.Sub B l nx O w' t):Sx.Sub B l nx O w' t:=by
 have hnn:=r.nn id _ hid (by intros;simp) (by simp);have hcell:=r.box id bt _ hid;have hden:(vs.map At.v).map (At.den O)=vs:=by
  rw[List.map_map];exact List.map_id _
 rw[hden]at hcell
 exact h (r.store (b':=.arr bt vs) (H':=(id,.arr bt vs)::H) (w2:=w') hid (by simp) hnn (fun j=>by
  rw[c9];by_cases hj:id=j
  ·subst hj;simp
  ·rw[aF hj,aF (fun h=>hj h.symm)]) rfl rfl rfl rfl (fun _ _=>rfl) ⟨hnn,hcell⟩ trivial)
end Go.Sx
namespace Go.Ex
open Go Go.Sx Go.Proofs
variable{after:Array Edge}{cs:List (List Ld)}{fs:List Int}{S:Nat->Prop}{guard:Option (Nat×Bool)}{dst:Option Tmp}{K:SV->Hp->Nat->Iv->World->Prop}{u:Value}
theorem EH{P:Program}{B nx:Nat}{l:Env}{H:Hp}{iv:Iv}{w:World}{t ty len e sz:Nat}{x i:Operand}{pos:String}{vx:SV}{cs:Array Value}{k:IntKind}{m:Int}
  (hu:P.underlying t=some (.array len e)) (hs:∀w,(sizeOf e).run P w= .ok sz w) (hp:∀w:World,(part e cs (m.toNat*sz)).run P w= .ok u w) (hx:ev l x=some vx) (hxd:∀O,vx.den O= .agg cs) (hi:ev l i=some (.o (.v (.int k m)))) (hm:0<=m∧m<len)
  (hK:∀O w',Rel H nx iv B w O w'->K (.o (.v u)) H nx iv w'):vz P B ⟨dst,.index t x i,ty,pos,after,guard⟩ l H nx iv w K:=by
 refine⟨fun O w' ev' r hev=>⟨u,w',iv,.inl ?_,r.here,hK O w' r⟩⟩;have e1:ev' x= .agg cs:=by rw[hev x _ hx,hxd]
 have e2:ev' i= .int k m:=hev i _ hi;simp[execOp,e1,e2,Instr.index,asIntOf,run_underlying hu,hm.1,hm.2,hs,hp]
def zc(z:Nat->Int):List Value:=(List.range 80).map fun j=>.int .i64 (z j)
theorem uD(z:Nat->Int):(zc z).length=80:=by rw[zc,aL,List.length_range]
theorem FJ(z:Nat->Int){j:Nat}(h:j<80):(zc z)[j]? =some (.int .i64 (z j)):=by rw[zc,aM,bS h];rfl
theorem EI(z:Nat->Int){j:Nat}(v:Int)(h:j<80):(zc z).take j++[.int .i64 v]++(zc z).drop (j+1)=zc (pf z j v):=by
 rw[iX (by rw[uD];exact h)];have:=congrArg (List.map (Value.int .i64)) (HA z v h);rw[List.map_set,List.map_map,List.map_map]at this;exact this
theorem KX{z z2:Nat->Int}(h:∀j,z j=z2 j):zc z=zc z2:=by rw[show z=z2 from funext h]
theorem GK(z:Nat->Int){n:Nat}(hn:n<20)(w:World):(part T.xu (zc z).toArray ((n:Int).toNat*4)).run PG w= .ok (.agg #[.int .i64 (z (4*n)),.int .i64 (z (4*n+1)),.int .i64 (z (4*n+2)),.int .i64 (z (4*n+3))]) w:=by
 have h1:=(hτ T.xu _ rfl).isAgg w;have h2:=(hτ T.xu _ rfl).sizeOf w;simp only[part,Sem.run_bind,h1,Result.andThen,if_true]
 simp only[Sem.run_bind,h2,Result.andThen,aJ]
 have h3:(zc z).extract (n*4) (n*4+4)=[.int .i64 (z (4*n)),.int .i64 (z (4*n+1)),.int .i64 (z (4*n+2)),.int .i64 (z (4*n+3))]:=by
  refine bO fun i=>?_;rw[List.extract_eq_take_drop,List.getElem?_take];split<;>rename_i hi
  ·rw[List.getElem?_drop,FJ z (by omega),bN];rcases(show i=0∨i=1∨i=2∨i=3 by omega)with rfl|rfl|rfl|rfl<;>rfl
  ·rw[List.getElem?_eq_none (by simp;omega)]
 rw[List.extract_toArray,h3];rfl
theorem JQ(p0 p1 p2 p3 q0 q1 q2 q3:Int)(w:World):(Op.equal T.xu (.agg #[.int .i64 p0,.int .i64 p1,.int .i64 p2,.int .i64 p3]) (.agg #[.int .i64 q0,.int .i64 q1,.int .i64 q2,.int .i64 q3])).run PG w= .ok (decide (p0=q0∧p1=q1∧p2=q2∧p3=q3)) w:=by
 have h:=run_underlying Tryz.underlying147;simp only[Op.equal,Op.maxDepth]
 unfold Op.equalIn;have a0:=dm (cs:= #[Value.int .i64 p0,Value.int .i64 p1,Value.int .i64 p2,Value.int .i64 p3]) (j:=0) rfl;have a1:=dm (cs:= #[Value.int .i64 p0,Value.int .i64 p1,Value.int .i64 p2,Value.int .i64 p3]) (j:=1) rfl;have a2:=dm (cs:= #[Value.int .i64 p0,Value.int .i64 p1,Value.int .i64 p2,Value.int .i64 p3]) (j:=2) rfl;have a3:=dm (cs:= #[Value.int .i64 p0,Value.int .i64 p1,Value.int .i64 p2,Value.int .i64 p3]) (j:=3) rfl;have b0:=dm (cs:= #[Value.int .i64 q0,Value.int .i64 q1,Value.int .i64 q2,Value.int .i64 q3]) (j:=0) rfl;have b1:=dm (cs:= #[Value.int .i64 q0,Value.int .i64 q1,Value.int .i64 q2,Value.int .i64 q3]) (j:=1) rfl;have b2:=dm (cs:= #[Value.int .i64 q0,Value.int .i64 q1,Value.int .i64 q2,Value.int .i64 q3]) (j:=2) rfl;have b3:=dm (cs:= #[Value.int .i64 q0,Value.int .i64 q1,Value.int .i64 q2,Value.int .i64 q3]) (j:=3) rfl;simp[h,a0,a1,a2,a3,b0,b1,b2,b3,eq_int 9998];by_cases h0:p0=q0
 ·by_cases h1:p1=q1
  ·by_cases h2:p2=q2
   ·by_cases h3:p3=q3<;>simp[h0,h1,h2,h3]
   ·simp[h0,h1,h2]
  ·simp[h0,h1]
 ·simp[h0]
abbrev Cs(x:Ld):Value:=.agg #[.int .i64 x.1,.int .i64 x.2.1,.int .i64 x.2.2.1,.int .i64 x.2.2.2]
theorem GL(x y:Ld):(x.1=y.1∧x.2.1=y.2.1∧x.2.2.1=y.2.2.1∧x.2.2.2=y.2.2.2)↔x=y:=by
 obtain⟨a,b,c,d⟩:=x;obtain⟨a2,b2,c2,d2⟩:=y;simp
theorem Hw(x y:Ld)(w:World)(o1 o2:Operand):(do eqGuard .neq T.xu o1 o2 (Cs x) (Cs y);binOp .neq T.xu (Cs x) (Cs y)).run PG w= .ok (.bool (!decide (x=y))) w:=by
 have h:=JQ x.1 x.2.1 x.2.2.1 x.2.2.2 y.1 y.2.1 y.2.2.1 y.2.2.2 w;rw[show decide (x.1=y.1∧x.2.1=y.2.1∧x.2.2.1=y.2.2.1∧x.2.2.2=y.2.2.2)=decide (x=y)from decide_eq_decide.2 (GL x y)]at h;simp[eqGuard,binOp,h]
theorem Hx:PG.underlying 194=some (.array 20 T.xu):=Tryz.underlying194
abbrev KY:=eP (dG)
theorem Hy(xs:List Value)(O:Nat->Sx.dU):SV.den O (.a (xs.map At.v))= .agg xs.toArray:=by
 rw[SV.den,List.map_map];congr 2;exact List.map_id _
theorem nh.one{w:World}{cs:List Value}{x:Ld}(h:nh w S cs x):∀u∈cs,u.oneCell'=true:=fun u hu=>by
 have h:cs=[.int .i64 x.1,.int .i64 x.2.1,.int .i64 x.2.2.1,.int .i64 x.2.2.2]:=h;subst h;simp at hu;rcases hu with rfl|rfl|rfl|rfl<;>rfl
theorem BT(n:Int)(w:World):du PG N.k5 #[.int .i64 n,.int .i64 100] w (eD w fun v' _=>∃d,v'= .bool d∧(d=true↔ -100<=n∧n<=100)):=by
 have hw:cQ w.heap.size w w:=cQ.refl;refine lP (by simp) ?_;refine⟨-100,by decide,?_⟩;refine dH.mk (fun h1=>?_) (fun h1=>?_)
 ·intro ρe we re;have h1:=aH h1;exact⟨_,rfl,hw.tr re.cI,_,rfl,by rw[decide_eq_true_iff];exact⟨fun h=>⟨h1,h⟩,fun h=>h.2⟩⟩
 ·intro ρe we re;have h1:=aG h1;exact⟨_,rfl,hw.tr re.cI,_,rfl,(fun h=>by cases h),fun h=>absurd h.1 h1⟩
set_option maxHeartbeats 2000000 in
theorem AW{w:World}{v:Value}{e0:Int}(hS:Old S w)(hC:KY w S v cs)(hF:BN w S u fs)(he0:e0=kr cs fs):
  du PG N.oY #[v,u] w (eD w fun v' w2=>(e0≠0∧v'= .tuple #[.slice none 0 0,.int .i64 e0])∨(e0=0∧∃vr,v'= .tuple #[vr,.int .i64 0]∧dG w2 (Nf w w2) vr (ek (fI cs fs cs.length) 20))):=by
 have hw:cQ w.heap.size w w:=cQ.refl;obtain⟨ac,cc,rfl,-,hmc⟩:=eP.shape hC;obtain⟨af,cf,rfl,-,hmf⟩:=hF.shape;unfold maxLen at hmc hmf;refine sR (by simp) ?_;refine dH.mk (fun h1=>?_) (fun h1=>?_)
 ·have h1:=aH h1;have hge:kr cs fs=8:=by rw[kr,if_pos (by omega)]
  intro ρe we re;exact⟨_,rfl,hw.tr re.cI,.inl ⟨by rw[he0,hge];decide,by rw[he0,hge];rfl⟩⟩
 have h1:=aG h1;have h16:¬16<cs.length:=by omega
 refine dH.mk (fun h2=>?_) (fun h2=>?_)
 ·have h2:fs.length≠cs.length:=by intro h;rw[h]at h2;simp at h2
  have hge:kr cs fs=11:=by rw[kr,aF h16,if_pos h2]
  intro ρe we re;exact⟨_,rfl,hw.tr re.cI,.inl ⟨by rw[he0,hge];decide,by rw[he0,hge];rfl⟩⟩
 have h2:=(show (fs.length:Int)=(cs.length:Int)from(by simpa using h2))
 have hlen:fs.length=cs.length:=by omega
 have hlen2:¬fs.length≠cs.length:=fun h=>h hlen
 refine⟨Nat×World×Iv,fun z=>⟨[(0,.o (.v (.slice ac cs.length cc))),(1,.o (.v (.slice af fs.length cf))),(28,.o (.v (.slice af fs.length cf))),(29,.o (.v (.int .i64 fs.length))),(30,.o (.v (.int .i64 ((z.1:Nat):Int))))],[],0,z.2.2,z.2.1⟩,fun z=>fs.length-z.1,
  fun z=>z.1<=fs.length∧cQ w.heap.size w z.2.1∧dJ (fun _=>GY) [] fs=dJ (fun _=>GY) (fs.take z.1) (fs.drop z.1),?_,?_⟩
 ·intro O w' r3;exact⟨(0,w',_),⟨aP _,hw.tr r3.cI,rfl⟩,Sub.gn [] r3⟩
 rintro⟨i,w1,iv⟩ ⟨hi,hw,hE⟩;dsimp only at hi hw hE ⊢;refine dH.mk (fun hib=>?_) (fun hib=>?_)
 ·have hib:i<fs.length:=by simpa using hib
  obtain⟨x,hx⟩:∃x,fs[i]? =some x:=⟨_,aA hib⟩
  obtain⟨adx,hax,hSx,hlx⟩:=BN.at hF hx;refine⟨adx,hax,by omega,.int .i64 x,rd1 hlx hw (hS _ hSx),?_⟩;refine bu (cE hw (fun _ w' v w2=>∃d,v= .bool d∧(d=true↔ -100<=x∧x<=100)) (fun O w' r=>BT x w') ?_);rintro O wa1 v1 wb1 iv1 r he hw h_ ⟨d1,rfl,hz1⟩
  cases d1
  ·have hz1:¬(-100<=x∧x<=100):=fun h=>by have:=hz1.2 h;cases this
   have hf2:dJ (fun _=>GY) [] fs≠0:=by rw[hE,cK hx (show GY x=2 by rw[GY,aF hz1]) (by decide)];decide
   have hge:kr cs fs=2:=by rw[kr,aF h16,aF hlen2,if_pos hf2]
   intro ρe we re;exact⟨_,rfl,hw.tr re.cI,.inl ⟨by rw[he0,hge];decide,by rw[he0,hge];rfl⟩⟩
  have hz1:=hz1.1 rfl;rw[eY hx (show GY x=0 by rw[GY,if_pos hz1])]at hE;refine⟨((i+1:Nat):Int),wo,?_⟩;intro ρ3 w6 r3;exact⟨(i+1,w6,_),⟨hib,hw.tr r3.cI,hE⟩,Sub.gn [] r3,by dsimp only;omega⟩
 have hib:i=fs.length:=aQ hi (by simpa using hib);rw[fM (by omega)]at hE;have hfac:∀(k:Nat) x,fs[k]? =some x-> -100<=x∧x<=100:=fun k x hk=>by
  have h:=fV hE k x hk;unfold GY at h;split at h<;>rename_i h2
  ·exact h2
  ·cases h
 have hf0:¬dJ (fun _=>GY) [] fs≠0:=fun h=>h hE
 refine⟨Nat×World×Iv,fun z=>⟨[(0,.o (.v (.slice ac cs.length cc))),(1,.o (.v (.slice af fs.length cf))),(38,.o (.v (.slice ac cs.length cc))),(39,.o (.v (.int .i64 cs.length))),(40,.o (.v (.int .i64 ((z.1:Nat):Int))))],[],0,z.2.2,z.2.1⟩,fun z=>cs.length-z.1,
  fun z=>z.1<=cs.length∧cQ w.heap.size w z.2.1∧dJ (fun _=>jc 20) [] cs=dJ (fun _=>jc 20) (cs.take z.1) (cs.drop z.1),?_,?_⟩
 ·intro O w' r3;exact⟨(0,w',_),⟨aP _,hw.tr r3.cI,rfl⟩,Sub.gn [] r3⟩
 rintro⟨i,w1,iv⟩ ⟨hi,hw,hE⟩;dsimp only at hi hw hE ⊢;refine dH.mk (fun hib=>?_) (fun hib=>?_)
 ·have hib:i<cs.length:=by simpa using hib
  obtain⟨x,hx⟩:∃x,cs[i]? =some x:=⟨_,aA hib⟩
  obtain⟨adm,um,ham,hRm,km1,km2⟩:=eP.load hC hx;obtain⟨al,cl,rfl,-,hml⟩:=hRm.shape;refine⟨adm,ham,by omega,.slice al x.length cl,rd1 km2 hw (hS _ km1),?_⟩;refine bu (cE hw (fun _ w' v w2=>v= .int .i64 (jc 20 x)) (fun O w' r=>qM (oS hS r) (dG.cB hRm (kS hw r hS))) ?_);rintro O wa1 v1 wb1 iv1 r he hw h_ rfl;obtain⟨e,he⟩:∃e,jc 20 x=e:=⟨_,rfl⟩
  rw[he];refine dH.mk (fun hd=>?_) (fun hd=>?_)
  ·have hd:e≠0:=by simpa using hd
   have hc2:dJ (fun _=>jc 20) [] cs=e:=by rw[hE];exact cK hx he hd
   have hge:kr cs fs=e:=by rw[kr,aF h16,aF hlen2,aF hf0,if_pos (by rw[hc2];exact hd),hc2]
   intro ρe we re;exact⟨_,rfl,hw.tr re.cI,.inl ⟨by rw[he0,hge];exact hd,by rw[he0,hge];rfl⟩⟩
  have hd:e=0:=by simpa using hd
  subst hd;rw[eY (e:=fun _=>jc 20) hx he]at hE;refine⟨((i+1:Nat):Int),wo,?_⟩;intro ρ3 w6 r3;exact⟨(i+1,w6,_),⟨hib,hw.tr r3.cI,hE⟩,Sub.gn [] r3,by dsimp only;omega⟩
 have hib:i=cs.length:=aQ hi (by simpa using hib);rw[fM (by omega)]at hE;have hcas:∀(k:Nat) l,cs[k]? =some l->iS 20 l:=fun k l hk=>s8 (fV hE k l hk);have hc0:¬dJ (fun _=>jc 20) [] cs≠0:=fun h=>h hE
 refine⟨Nat×World,fun z=>⟨[(0,.o (.v (.slice ac cs.length cc))),(1,.o (.v (.slice af fs.length cf))),(11,.o (.p 0 0)),(50,.o (.v (.slice ac cs.length cc))),(51,.o (.v (.int .i64 cs.length))),(52,.o (.v (.int .i64 ((z.1:Nat):Int))))],[(0,.arr 194 (zc (zf (fI cs fs z.1))))],1,iv,z.2⟩,fun z=>cs.length-z.1,
  fun z=>z.1<=cs.length∧cQ w.heap.size w z.2∧Kh (fI cs fs z.1) (20000000000*z.1),?_,?_⟩
 ·intro O w' r3;exact⟨(0,w'),⟨aP _,hw.tr r3.cI,fun n=>by simp[fI]⟩,Sub.LZ 0 (vs:=zc fun _=>0) rfl r3 fun r4=>Sub.gn [] r4 ⟨by dsimp only;rw[show zf (fI cs fs 0)=fun _=>0 from funext fun j=>by unfold zf fI;simp];rfl,trivial⟩⟩
 rintro⟨c,w1⟩ ⟨hi,hw,hB⟩;dsimp only at hi hw hB ⊢;refine dH.mk (fun hib=>?_) (fun hib=>?_)
 ·have hib:c<cs.length:=by simpa using hib
  obtain⟨l,hl⟩:∃x,cs[c]? =some x:=⟨_,aA hib⟩
  obtain⟨fa,hfa⟩:∃x,fs[c]? =some x:=⟨_,aA (by omega)⟩
  have hfb:=hfac c fa hfa;have hok:=hcas c l hl;have hl200:=hok.len;obtain⟨adf,haf,hSf,hlf⟩:=BN.at hF hfa;have hnx:fI cs fs (c+1)=qe (fI cs fs c) fa l l.length:=by rw[fI,show cs.getD c []=l by rw[List.getD,hl];rfl,show fs.getD c 0=fa by rw[List.getD,hfa];rfl]
  obtain⟨adm,um,ham,hRm,km1,km2⟩:=eP.load hC hl;obtain⟨al,cl,rfl,-,hml⟩:=hRm.shape
  refine⟨adm,ham,by omega,.slice al l.length cl,rd1 km2 hw (hS _ km1),Nat×World,fun z=>⟨[(0,.o (.v (.slice ac cs.length cc))),(1,.o (.v (.slice af fs.length cf))),(11,.o (.p 0 0)),(12,.o (.v (.int .i64 ((c:Nat):Int)))),(50,.o (.v (.slice ac cs.length cc))),(51,.o (.v (.int .i64 cs.length))),(52,.o (.v (.int .i64 ((c:Nat):Int)))),(57,.o (.v (.slice al l.length cl))),(58,.o (.v (.int .i64 l.length))),(59,.o (.v (.int .i64 ((z.1:Nat):Int))))],[(0,.arr 194 (zc (zf (qe (fI cs fs c) fa l z.1))))],1,iv,z.2⟩,fun z=>l.length-z.1,
   fun z=>z.1<=l.length∧cQ w.heap.size w z.2∧Kh (qe (fI cs fs c) fa l z.1) (20000000000*c+100000000*z.1),?_,?_⟩
  ·intro O w' r3;exact⟨(0,w'),⟨aP _,hw.tr r3.cI,by simpa [qe]using hB⟩,Sub.gn [] r3⟩
  rintro⟨k,w3⟩ ⟨hk,hw,hB⟩;dsimp only at hk hw hB ⊢;refine dH.mk (fun hkb=>?_) (fun hkb=>?_)
  ·have hkb:k<l.length:=by simpa using hkb
   obtain⟨x,hx⟩:∃x,l[k]? =some x:=⟨_,aA hkb⟩
   obtain⟨hn0,hxb⟩:=hok.ld x (aD hx);obtain⟨n,hn⟩:=Int.eq_ofNat_of_zero_le hn0.1;have hn20:n<20:=by omega
   obtain⟨adx,csx,hax,hP,-,hlx⟩:=hRm.load (by decide) hx;have hP:csx=[.int .i64 x.1,.int .i64 x.2.1,.int .i64 x.2.2.1,.int .i64 x.2.2.2]:=hP;subst hP;rw[hn]at hlx;have hnk:qe (fI cs fs c) fa l (k+1)=tL (qe (fI cs fs c) fa l k) fa x:=by rw[qe,show l.getD k (0,0,0,0)=x by rw[List.getD,hx];rfl]
   have hB2:=hB.add (x:=x) hfb hxb;obtain⟨s,hs⟩:∃s,qe (fI cs fs c) fa l k=s:=⟨_,rfl⟩
   rw[hs]at hB hB2 hnk ⊢;have hbn:=hB n;obtain⟨z0,z1,z2,z3⟩:=CH s n;obtain⟨⟨q1,q2⟩,⟨q3,q4⟩,q5,q6⟩:=hxb;have m1:=tM hfb.1 hfb.2 q1 q2;have m2:=tM hfb.1 hfb.2 q3 q4;have m3:=tM hfb.1 hfb.2 q5 q6;refine⟨adx,hax,by omega,[.int .i64 (n:Int),.int .i64 x.2.1,.int .i64 x.2.2.1,.int .i64 x.2.2.2],rfl,rdO hlx hw hS,by omega,?_⟩;refine cD hτ df [.x 0,.x 1,.x 2,.x 3,.x 4,.x 5,.x 6,.x 7,.x 8,.x 9,.x 10,.x 11,.x 12,.x 13,.x 14] (by kernel_rfl) (by kernel_rfl) ?_;refine⟨.int .i64 (s n).1,by rw[show ∀m,0+(n:Int).toNat*4+m=4*n+m from fun m=>by omega,FJ _ (by omega)];rw[z1],adf,haf,by omega,.int .i64 fa,rd1 hlf hw (hS _ hSf),fa*x.2.1,wo,(s n).1+fa*x.2.1,wo,by rw[uD];omega,zc (pf (zf s) (4*n+1) ((s n).1+fa*x.2.1)),?_,?_⟩
   ·rw[show ∀m,0+(n:Int).toNat*4+m=4*n+m from fun m=>by omega];exact EI _ _ (by omega)
   refine cD hτ df [.x 0,.x 1,.x 2,.x 3,.x 4,.x 5,.x 6,.x 7,.x 8,.x 9,.x 10,.x 11,.x 12,.x 13,.x 14] (by kernel_rfl) (by kernel_rfl) ?_;refine⟨.int .i64 (s n).2.1,by rw[show ∀m,0+(n:Int).toNat*4+m=4*n+m from fun m=>by omega,FJ _ (by omega)];simp[pf,z2],adf,haf,by omega,.int .i64 fa,rd1 hlf hw (hS _ hSf),fa*x.2.2.1,wo,(s n).2.1+fa*x.2.2.1,wo,by rw[uD];omega,zc (pf ((pf (zf s) (4*n+1) ((s n).1+fa*x.2.1))) (4*n+2) ((s n).2.1+fa*x.2.2.1)),?_,?_⟩
   ·rw[show ∀m,0+(n:Int).toNat*4+m=4*n+m from fun m=>by omega];exact EI _ _ (by omega)
   refine cD hτ df [.x 0,.x 1,.x 2,.x 3,.x 4,.x 5,.x 6,.x 7,.x 8,.x 9,.x 10,.x 11,.x 12,.x 13,.x 14] (by kernel_rfl) (by kernel_rfl) ?_;refine⟨.int .i64 (s n).2.2,by rw[show ∀m,0+(n:Int).toNat*4+m=4*n+m from fun m=>by omega,FJ _ (by omega)];simp[pf,z3],adf,haf,by omega,.int .i64 fa,rd1 hlf hw (hS _ hSf),fa*x.2.2.2,wo,(s n).2.2+fa*x.2.2.2,wo,by rw[uD];omega,zc (pf ((pf ((pf (zf s) (4*n+1) ((s n).1+fa*x.2.1))) (4*n+2) ((s n).2.1+fa*x.2.2.1))) (4*n+3) ((s n).2.2+fa*x.2.2.2)),?_,?_⟩
   ·rw[show ∀m,0+(n:Int).toNat*4+m=4*n+m from fun m=>by omega];exact EI _ _ (by omega)
   rw[KX (KA s fa x hn)];refine⟨((k+1:Nat):Int),wo,?_⟩;intro ρ3 w6 r3;exact⟨(k+1,w6),⟨hkb,hw.tr r3.cI,by dsimp only;rw[hnk];exact fun n=>by have:=hB2 n;omega⟩,Sub.gn [] r3 ⟨by dsimp only;rw[hnk];rfl,trivial⟩,by dsimp only;omega⟩
  have hkb:k=l.length:=aQ hk (by simpa using hkb);subst hkb;rw[<-hnx]at hB ⊢;refine⟨((c+1:Nat):Int),wo,?_⟩;intro ρ3 w6 r3;exact⟨(c+1,w6),⟨hib,hw.tr r3.cI,fun n=>by have:=hB n;dsimp only;omega⟩,Sub.gn [] r3,by dsimp only;omega⟩
 have hib:c=cs.length:=aQ hi (by simpa using hib);subst hib;obtain⟨s,hs⟩:∃s,fI cs fs cs.length=s:=⟨_,rfl⟩
 rw[hs]at hB ⊢
 refine⟨zc (zf s),by rw[List.drop_zero,List.take_of_length_le (by rw[uD];exact aE _)],uD _,Nat×List (List Value)×World×Iv,fun z=>⟨[(17,.o (.w 1 z.2.1.length)),(110,.a ((zc (zf s)).map At.v)),(111,.o (.v (.int .i64 ((z.1:Nat):Int))))],[(1,.vec T.xu 4 z.2.1.flatten)],2,z.2.2.2,z.2.2.1⟩,fun z=>20-z.1,
  fun z=>z.1<=20∧cQ w.heap.size w z.2.2.1∧jk 4 nh z.2.2.1 S z.2.1 (ek s z.1)∧dJ (fun _=>CG s) [] (List.range 20)=dJ (fun _=>CG s) ((List.range 20).take z.1) ((List.range 20).drop z.1),?_,?_⟩
 ·intro O w' r;exact⟨(0,[],w',_),⟨aP _,hw.tr r.cI,jk.nil,rfl⟩,Sub.nil 17 T.xu 4 rfl (by simp[ko,SV.sc,At.sc,gM]) r fun ρ1 r1=>Sub.gn [] r1⟩
 rintro⟨n,css,w4,iv⟩ ⟨hi,hw,hG,hE⟩;dsimp only at hi hw hG hE ⊢;have hfl:=pV hG.wid;have hcl:css.length<=n:=by rw[hG.len];exact qf s n
 refine dH.mk (fun hib=>?_) (fun hib=>?_)
 ·have hib:n<20:=by have:=aH hib;omega
  have hr:(List.range 20)[n]? =some n:=bS hib;obtain⟨z0,z1,z2,z3⟩:=CH s n;obtain⟨a0,ha0⟩:∃a,(s n).1=a:=⟨_,rfl⟩
  obtain⟨a1,ha1⟩:∃a,(s n).2.1=a:=⟨_,rfl⟩
  obtain⟨a2,ha2⟩:∃a,(s n).2.2=a:=⟨_,rfl⟩
  have hsn:s n=(a0,a1,a2):=by rw[<-ha0,<-ha1,<-ha2]
  have hpt:=GK (zf s) hib;rw[z0,z1,z2,z3,ha0,ha1,ha2]at hpt;refine EH (sz:=4) Hx (fun w=>(hτ T.xu _ rfl).sizeOf w) hpt rfl (Hy (zc (zf s))) rfl ⟨by omega,by omega⟩ (fun O w4 r=>?_);replace hw:=hw.tr r.cI;refine bu (cE hw (fun _ w' v w2=>∃d,v= .bool d∧(d=true↔jn a0)) (fun O w' r=>iN _ w') ?_);rintro O wa1 v1 wb1 iv1 r he hw h_ ⟨d0,rfl,hz0⟩
  cases d0
  ·have hz0:¬jn a0:=fun h=>by have:=hz0.2 h;cases this
   have hs2:dJ (fun _=>CG s) [] (List.range 20)=8:=by rw[hE];exact cK hr (show CG s n=8 by rw[CG,hsn,aF (fun h=>hz0 h.1)]) (by decide)
   have hge:kr cs fs=8:=by rw[kr,aF h16,aF hlen2,aF hf0,aF hc0,hs,hs2]
   intro ρe we re;exact⟨_,rfl,hw.tr re.cI,.inl ⟨by rw[he0,hge];decide,by rw[he0,hge];rfl⟩⟩
  replace hz0:=hz0.1 rfl;refine bu (cE hw (fun _ w' v w2=>∃d,v= .bool d∧(d=true↔jn a1)) (fun O w' r=>iN _ w') ?_);rintro O wa2 v2 wb2 iv2 r he hw h_ ⟨d1,rfl,hz1⟩
  cases d1
  ·have hz1:¬jn a1:=fun h=>by have:=hz1.2 h;cases this
   have hs2:dJ (fun _=>CG s) [] (List.range 20)=8:=by rw[hE];exact cK hr (show CG s n=8 by rw[CG,hsn,aF (fun h=>hz1 h.2.1)]) (by decide)
   have hge:kr cs fs=8:=by rw[kr,aF h16,aF hlen2,aF hf0,aF hc0,hs,hs2]
   intro ρe we re;exact⟨_,rfl,hw.tr re.cI,.inl ⟨by rw[he0,hge];decide,by rw[he0,hge];rfl⟩⟩
  replace hz1:=hz1.1 rfl;refine bu (cE hw (fun _ w' v w2=>∃d,v= .bool d∧(d=true↔jn a2)) (fun O w' r=>iN _ w') ?_);rintro O wa3 v3 wb3 iv3 r he hw h_ ⟨d2,rfl,hz2⟩
  cases d2
  ·have hz2:¬jn a2:=fun h=>by have:=hz2.2 h;cases this
   have hs2:dJ (fun _=>CG s) [] (List.range 20)=8:=by rw[hE];exact cK hr (show CG s n=8 by rw[CG,hsn,aF (fun h=>hz2 h.2.2)]) (by decide)
   have hge:kr cs fs=8:=by rw[kr,aF h16,aF hlen2,aF hf0,aF hc0,hs,hs2]
   intro ρe we re;exact⟨_,rfl,hw.tr re.cI,.inl ⟨by rw[he0,hge];decide,by rw[he0,hge];rfl⟩⟩
  replace hz2:=hz2.1 rfl;rw[eY hr (show CG s n=0 by rw[CG,hsn,if_pos ⟨hz0,hz1,hz2⟩])]at hE;refine⟨!decide (((0:Int),a0,a1,a2)=(0,0,0,0)),fun O w o1 o2=>Hw (0,a0,a1,a2) (0,0,0,0) w o1 o2,?_⟩;refine dH.mk (fun hd=>?_) (fun hd=>?_)
  ·have hd:¬(s n=(0,0,0)):=by
    intro h;rw[hsn]at h;injection h with h1 h2;injection h2 with h2 h3;subst h1 h2 h3;simp at hd
   have hnx:ek s (n+1)=ek s n++[((n:Int),a0,a1,a2)]:=by rw[ek,aF hd,hsn]
   have hG2:=hG.push (cs:=[.int .i64 (n:Int),.int .i64 a0,.int .i64 a1,.int .i64 a2]) (q:=((n:Int),a0,a1,a2)) rfl rfl;rw[<-hnx]at hG2;have hfl2:css.flatten++([.int .i64 (n:Int),.int .i64 a0,.int .i64 a1,.int .i64 a2]:List Value)=(css++([[.int .i64 (n:Int),.int .i64 a0,.int .i64 a1,.int .i64 a2]]:List (List Value))).flatten:=by simp
   refine .inl ?_;refine⟨by omega,by omega,by unfold maxLen;omega,((n+1:Nat):Int),wo,?_⟩;intro ρ3 w6 r3;exact⟨(n+1,css++([[.int .i64 (n:Int),.int .i64 a0,.int .i64 a1,.int .i64 a2]]:List (List Value)),w6,_),⟨hib,hw.tr r3.cI,jk.map (P:=nh) (P':=nh) (w2:=w6) (S':=S) hG2 fun _ _ h=>h,hE⟩,Sub.gn [(1,4)] r3 ⟨by dsimp only;rw[<-hfl2];rfl,trivial⟩ ⟨by dsimp only;rw[List.length_append,List.length_singleton];rfl,rfl,rfl,trivial⟩,by dsimp only;omega⟩
  have hd:s n=(0,0,0):=by
   rw[hsn];have h:((0:Int),a0,a1,a2)=(0,0,0,0):=by simpa using hd
   injection h with _ h
  have hnx:ek s (n+1)=ek s n:=by rw[ek,if_pos hd]
  rw[<-hnx]at hG;refine⟨((n+1:Nat):Int),wo,?_⟩;intro ρ3 w6 r3;exact⟨(n+1,css,w6,_),⟨hib,hw.tr r3.cI,jk.map (P:=nh) (P':=nh) (w2:=w6) (S':=S) hG fun _ _ h=>h,hE⟩,Sub.gn [] r3,by dsimp only;omega⟩
 have hib:n=20:=by have:=aG hib;omega
 subst hib;rw[fM (by simp)]at hE;have hge:kr cs fs=0:=by rw[kr,aF h16,aF hlen2,aF hf0,aF hc0,hs,hE]
 intro ρe we re;have h5:=re.jq (id:=1) (sz:=4) (m:=css.length) rfl hfl (by unfold maxLen;omega) (by decide) (hG.one fun cs q h=>nh.one h);exact⟨_,rfl,hw.tr re.cI,.inr ⟨by rw[he0,hge],_,rfl,jk.list (hG.map fun cs q h=>h) (h5.cC fun g hg=>.inr hg)⟩⟩
end Go.Ex
namespace Go.Ex
open Go Go.Sx Go.Proofs
theorem GM(x:Ld)(w:World):du PG N.sE #[Cs x] w (eD w fun v' _=>∃d,v'= .bool d∧(d=true↔D4 x.2)):=by
 have hw:cQ w.heap.size w w:=cQ.refl;obtain⟨x0,x1,x2,x3⟩:=x;refine vK (by simp) ?_;refine bu (cE hw (fun _ w' v w2=>∃d,v= .bool d∧(d=true↔ -1000000<=x1∧x1<=1000000)) (fun O w' r=>ki _ _ _ w') ?_);rintro O wa1 v1 wb1 iv1 r he hw h_ ⟨d0,rfl,hz0⟩
 cases d0
 ·have hz0:¬jn x1:=fun h=>by have:=hz0.2 h;cases this
  intro ρe we re;exact⟨_,rfl,hw.tr re.cI,_,rfl,(fun h=>by cases h),fun h=>absurd h.1 hz0⟩
 replace hz0:jn x1:=hz0.1 rfl;refine bu (cE hw (fun _ w' v w2=>∃d,v= .bool d∧(d=true↔ -1000000<=x2∧x2<=1000000)) (fun O w' r=>ki _ _ _ w') ?_);rintro O wa2 v2 wb2 iv2 r he hw h_ ⟨d1,rfl,hz1⟩
 cases d1
 ·have hz1:¬jn x2:=fun h=>by have:=hz1.2 h;cases this
  intro ρe we re;exact⟨_,rfl,hw.tr re.cI,_,rfl,(fun h=>by cases h),fun h=>absurd h.2.1 hz1⟩
 replace hz1:jn x2:=hz1.1 rfl;refine bu (cE hw (fun _ w' v w2=>∃d,v= .bool d∧(d=true↔ -1000000<=x3∧x3<=1000000)) (fun O w' r=>ki _ _ _ w') ?_);rintro O wa3 v3 wb3 iv3 r he hw h_ ⟨d2,rfl,hz2⟩
 cases d2
 ·have hz2:¬jn x3:=fun h=>by have:=hz2.2 h;cases this
  intro ρe we re;exact⟨_,rfl,hw.tr re.cI,_,rfl,(fun h=>by cases h),fun h=>absurd h.2.2 hz2⟩
 replace hz2:jn x3:=hz2.1 rfl;intro ρe we re;exact⟨_,rfl,hw.tr re.cI,_,rfl,fun _=>⟨hz0,hz1,hz2⟩,fun _=>rfl⟩
section
variable{S S':Nat->Prop}{H:Hp}{nx:Nat}{iv iv':Iv}{B:Nat}{w w' w2:World}{O:Nat->Sx.dU}{v:Value}{l:List Ld}
theorem dG.rel(h:dG w (Cv S B iv) v l)(r:Rel H nx iv B w O w')(hS:∀g,S g->g<B):dG w' (Cv S B iv) v l:=dG.cB h fun _ hg=>Rel.same r hS hg
theorem dG.bz(h:dG w (Cv S B iv) v l)(r:Rel H nx iv B w O w')(hS:∀g,S g->g<B)(he:Ext w' w2)(hm:∀p,p∈iv->p∈iv'):dG w2 (Cv S B iv') v l:=
 dG.cC ((dG.rel h r hS).cB fun g hg=>he.block g (Rel.old r hS g hg)) fun _ hg=>hg.mono hm
theorem dG.dB(h:dG w2 (Nf w' w2) v l)(hB:B<=w'.heap.size)(hm:(w'.heap.size,w2.heap.size)∈iv):dG w2 (Cv S B iv) v l:=dG.cC h fun _ hg=>hg.dB hB hm
end
end Go.Ex
namespace Go.Ex
variable{d:Int}{M:List (List Rat)}{l x0 φ:List Rat}{K c n:Nat}{x y:Nat->Rat}{D:Rat}{f:fT}
theorem rf{a b:Rat}(ha:a≠0)(hb:b≠0):a*b≠0:=fun e=>by
 rcases Rat.mul_eq_zero.1 e with h|h
 ·exact ha h
 ·exact hb h
def Den(K:Nat)(D:Rat)(l:List Rat):Prop:=D≠0∧Ib K D∧∀t,Ib K (D*l.getD t 0)
def Da(K:Nat)(D:Rat)(M:List (List Rat)):Prop:=D≠0∧Ib K D∧∀k t,Ib K (D*cd M k t)
theorem Den.rl(h:Den K D l):∀q∈l,rl q<=ln K:=fun q hq=>by
 obtain⟨j,hj⟩:=aR hq;have:=wE h.1 h.2.1 (h.2.2 j)
 rwa [List.getD,hj]at this
theorem Da.rl(h:Da K D M):∀r∈M,∀q∈r,rl q<=ln K:=fun r hr q hq=>by
 obtain⟨k,hk⟩:=aR hr;obtain⟨j,hj⟩:=aR hq;have:=wE h.1 h.2.1 (h.2.2 k j)
 rwa [cd,show M.getD k []=r by rw[List.getD,hk];rfl,List.getD,hj]at this
theorem iY{t:Nat}(h:l.length<=t):l.getD t 0=0:=by rw[List.getD,List.getElem?_eq_none h];rfl
theorem Ir{k t:Nat}(hM:fp n M)(h:n<=t):cd M k t=0:=by
 rw[cd];rcases aO k M.length with hk|hk
 ·exact iY (by rw[hM.getD hk];exact h)
 ·rw[show M.getD k []=[] by rw[List.getD,List.getElem?_eq_none hk];rfl];rfl
theorem HJ{k t:Nat}(h:M.length<=k):cd M k t=0:=by
 rw[cd,show M.getD k []=[] by rw[List.getD,List.getElem?_eq_none h];rfl];rfl
section
variable{M:List (List Rat)}{n B:Nat}{b:List Rat}
theorem Ef(hM:fp n M)(hW:Al M n B)(hB:1<=B)(hc:c<=n):∃D:Rat,D≠0∧Ib (fB B M.length) D∧∀i t,i<(cG M c).2.length->t<n->Ib (fB B M.length) (D*cd (cG M c).1 i t):=by
 obtain⟨σ,Z,h⟩:=oO hM hW c hc;have hle:=h.red.2.1;rw[h.len]at hle;have hm:=pN hB hle;exact⟨_,h.xV.nz,h.xV.den.mono hm,fun i t hi ht=>(h.xV.LQ hi ht).mono hm⟩
theorem Is(hM:fp n M)(hW:Al M n B)(hB:1<=B):∃D,Da (fB B M.length) D (cN M n):=by
 obtain⟨D,h0,hD,hE⟩:=Ef hM hW hB (aE n);obtain⟨r1,r2,r3,r4,r5⟩:=dS hM n (aE _);have hpc:=gU M n;refine⟨D,h0,hD,fun k t=>?_⟩;rcases aO k (cN M n).length with hk|hk
 ·rcases aO t n with ht|ht
  ·have hf:=kV.1 (oN (by rw[<-kY];exact hk));rw[cd,xW M n hk];generalize (iR (cG M n).2 n).getD k 0=c at hf;by_cases hp:t∈(cG M n).2
   ·obtain⟨j,hj,rfl⟩:=q8 hp;rw[mn (F:=fZ (cG M n).1 (cG M n).2 n c) (f:=fun i=> -(cd (cG M n).1 i c)) (fun i=>gN _ _ n c i) (j4 _ _ n c) hpc.2.1 r4 _ (aE _) hj,show D* -(cd (cG M n).1 j c)= -(D*cd (cG M n).1 j c) by grind];exact(hE j c hj hf.1).neg
   ·rw[oM hp hf.1];split
    ·rw[Rat.mul_one];exact hD
    ·rw[bA];exact Ib.zero _
  ·rw[Ir (mw M n) ht,bA];exact Ib.zero _
 ·rw[HJ hk,bA];exact Ib.zero _
theorem xZ{x:List Rat}(hM:fp n M)(hW:Al (dX M b) (n+1) B)(hB:1<=B)(h:fU M b n=some x):∃D,Den (fB B M.length) D x:=by
 obtain⟨D,h0,hD,hE⟩:=Ef (hJ (b:=b) hM) hW hB (Nat.le_succ n);rw[eG]at hD hE;obtain⟨r1,r2,r3,r4,r5⟩:=dS (hJ (b:=b) hM) n (Nat.le_succ _);have hpc:=gU (dX M b) n;unfold fU at h;dsimp only at h;split at h
 ·injection h with h;subst h;refine⟨D,h0,hD,fun t=>?_⟩;by_cases hp:t∈(cG (dX M b) n).2
  ·obtain⟨j,hj,rfl⟩:=q8 hp;rw[mn (F:=gJ (cG (dX M b) n).1 (cG (dX M b) n).2 n) (f:=fun i=>cd (cG (dX M b) n).1 i n) (fun i=>gO _ _ n i) (j5 _ _ n) hpc.2.1 r4 _ (aE _) hj];exact hE j n hj (by omega)
  ·rw[rV hp,bA];exact Ib.zero _
 ·cases h
end
def lC(φ:List Rat):Nat->Rat
 |0=>1
 |t+1=>lC φ t*((φ.getD t 0).den:Rat)
theorem CM(φ:List Rat):∀k,lC φ k≠0
 |0=>by show(1:Rat)≠0;decide
 |k+1=>rf (CM φ k) (by have:=(φ.getD k 0).den_nz;exact_mod_cast this)
theorem x4{φ:List Rat}{B:Nat}(h:∀t,(φ.getD t 0).den<=B):∀k,Ib (B^k) (lC φ k)
 |0=>Ib.one (aE _)
 |k+1=>by
  rw[Nat.pow_succ];exact(x4 h k).mul ⟨((φ.getD k 0).den:Int),rfl,by rw[Int.natAbs_natCast];exact h k⟩
theorem Eg(q:Rat):(q.den:Rat)*q=(q.num:Rat):=by
 have h:=Rat.num_divInt_den q;have h0:((q.den:Int):Rat)≠0:=by have:=q.den_nz;exact_mod_cast this
 rw[Rat.divInt_eq_div]at h;have h1:(q.num:Rat) / ((q.den:Int):Rat)*((q.den:Int):Rat)=(q.num:Rat):=Rat.div_mul_cancel h0;rw[h,bh]at h1;exact h1
theorem zy{φ:List Rat}{B:Nat}(h:∀t,(φ.getD t 0).den<=B)(hn:∀t,(φ.getD t 0).num.natAbs<=B)(hB:1<=B):∀k t,t<k->Ib (B^k) (lC φ k*φ.getD t 0)
 |0,t,ht=>by omega
 |k+1,t,ht=>by
  rw[lC,Nat.pow_succ];rcases aO t k with h1|h1
  ·rw[show ∀a b c:Rat,a*b*c=(a*c)*b from fun a b c=>by grind];exact(zy h hn hB k t h1).mul ⟨((φ.getD k 0).den:Int),rfl,by rw[Int.natAbs_natCast];exact h k⟩
  ·rw[show t=k by omega,Rat.mul_assoc,Eg];exact(x4 h k).mul (Ib.int (hn k))
theorem mx{l:Nat}:1<=wt l:=wx l
theorem Eh{q:Rat}{l:Nat}(h:rl q<=l):q.num.natAbs<wt l∧q.den<wt l:=⟨fo.1 (ah (fk q) h),fo.1 (ah (KD q) h)⟩
theorem HK(l k:Nat):wt l^k=wt (l*k):=by rw[tI,tI,<-Nat.pow_mul,bZ]
theorem HL(hl:φ.length<=n)(h:∀q∈φ,rl q<=3):Den (wt (3*n)) (lC φ n) φ:=by
 have h3:∀t,rl (φ.getD t 0)<=3:=fun t=>by
  rw[List.getD]
  cases ht:φ[t]? with
  |none=>show rl 0<=3;decide
  |some q=>exact h q (aD ht)
 have h1:∀t,(φ.getD t 0).den<=wt 3:=fun t=>Nat.le_of_lt (Eh (h3 t)).2;have h2:∀t,(φ.getD t 0).num.natAbs<=wt 3:=fun t=>Nat.le_of_lt (Eh (h3 t)).1;refine⟨CM φ n,by rw[<-HK];exact x4 h1 n,fun t=>?_⟩;rcases aO t n with ht|ht
 ·rw[<-HK];exact zy h1 h2 mx n t ht
 ·rw[iY (by omega),bA];exact Ib.zero _
theorem getD_some{α:Type}{l:List α}{i:Nat}{x d:α}(h:l[i]? =some x):l.getD i d=x:=by rw[List.getD,h];rfl
structure Am(M:List (List Rat))(n:Nat)(φ:Nat->Rat):Prop where
 len:fp n M
 pos:∀t,t<n->0<=φ t
 Kj:∀x:Nat->Rat,(∀j,j<M.length->mulR M n x j=0)->cR (fun t=>φ t*(x t*x t)) n=0->∀t,t<n->x t=0
theorem x5(M:List (List Rat))(n:Nat)(x y:Nat->Rat)(j:Nat):mulR M n (fun t=>x t+y t) j=mulR M n x j+mulR M n y j:=by
 unfold mulR;rw[<-fO];exact cA fun t _=>by grind
theorem x6(M:List (List Rat))(n:Nat)(x:Nat->Rat)(c:Rat)(j:Nat):mulR M n (fun t=>c*x t) j=c*mulR M n x j:=by
 unfold mulR;rw[<-eF];exact cA fun t _=>by grind
theorem CN(M:List (List Rat))(n:Nat)(S:Mx)(c:Nat->Rat)(j s:Nat):mulR M n (fun t=>cR (fun k=>c k*S k t) s) j=cR (fun k=>c k*mulR M n (S k) j) s:=by
 induction s with
 |zero=>exact(cA (g:=fun _=>0) fun t _=>bA _).trans (dQ n)
 |succ s ih=>
  show mulR M n (fun t=>cR (fun k=>c k*S k t) s+c s*S s t) j=cR (fun k=>c k*mulR M n (S k) j) s+c s*mulR M n (S s) j;rw[x5,x6,ih]
theorem my(h:∀t,t<n->x t=y t)(j:Nat):mulR M n x j=mulR M n y j:=cA fun t ht=>by rw[h t ht]
def tB(φ x y:Nat->Rat)(n:Nat):Rat:=cR (fun t=>φ t*(x t*y t)) n
theorem rh(φ x y:Nat->Rat)(n:Nat):tB φ x y n=tB φ y x n:=cA fun t _=>by grind
theorem Ei(φ x y z:Nat->Rat)(n:Nat):tB φ x (fun t=>y t+z t) n=tB φ x y n+tB φ x z n:=by
 unfold tB;rw[<-fO];exact cA fun t _=>by grind
theorem rk(φ x:Nat->Rat)(S:Mx)(c:Nat->Rat)(n s:Nat):tB φ x (fun t=>cR (fun k=>c k*S k t) s) n=cR (fun k=>c k*tB φ x (S k) n) s:=by
 unfold tB;rw[cA (g:=fun t=>cR (fun k=>c k*(φ t*(x t*S k t))) s) fun t _=>by rw[<-eF,<-eF];exact cA fun k _=>by grind,mH];exact cA fun k _=>by rw[eF]
theorem tO{φ x' y':Nat->Rat}(h1:∀t,t<n->x t=x' t)(h2:∀t,t<n->y t=y' t):tB φ x y n=tB φ x' y' n:=cA fun t ht=>by rw[h1 t ht,h2 t ht]
section
variable{M:List (List Rat)}{n:Nat}{φ:Nat->Rat}{b:List Rat}
def Ej(M:List (List Rat))(n:Nat)(φ:Nat->Rat)(i j:Nat):Rat:=tB φ (cd (cN M n) i) (cd (cN M n) j) n
theorem Am.HM(h:Am M n φ){c:Nat->Rat}(hc:∀i,i<(cN M n).length->cR (fun j=>Ej M n φ i j*c j) (cN M n).length=0):∀i,i<(cN M n).length->c i=0:=by
 obtain⟨y,hy⟩:∃y:Nat->Rat,y=fun t=>cR (fun k=>c k*cd (cN M n) k t) (cN M n).length:=⟨_,rfl⟩
 have hnull:∀j,j<M.length->mulR M n y j=0:=fun j hj=>by
  rw[hy,CN,cA (g:=fun _=>0) fun k hk=>by rw[rb h.len hk j hj,bA],dQ]
 have hw:∀i,i<(cN M n).length->tB φ (cd (cN M n) i) y n=0:=fun i hi=>by
  rw[hy,rk,<-hc i hi];exact cA fun k _=>bh _ _
 have h0:tB φ y y n=0:=by
  have:tB φ y y n=cR (fun k=>c k*tB φ y (cd (cN M n) k) n) (cN M n).length:=by
   rw[<-rk,<-hy]
  rw[this,cA (g:=fun _=>0) fun k hk=>by rw[rh,hw k hk,bA],dQ]
 exact Ee (M:=M) fun t ht=>by
  have:=h.Kj y hnull h0 t ht;rw[hy]at this;exact this
theorem Am.only(h:Am M n φ)(hx:∀j,j<M.length->mulR M n x j=0)(hs:∀k,k<(cN M n).length->tB φ (cd (cN M n) k) x n=0):∀t,t<n->x t=0:=by
 obtain⟨c,hc⟩:=Ed h.len hx;have h0:tB φ x x n=0:=by
  rw[tO (x':=x) (fun _ _=>rfl) hc,rk,cA (g:=fun _=>0) fun k hk=>by rw[rh,hs k hk,bA],dQ]
 exact h.Kj x hx h0
def tP(k:Nat):List Rat:=List.replicate k 0
theorem oP(b:List Rat)(k j:Nat):(b++tP k).getD j 0=b.getD j 0:=by
 unfold tP;rcases aO j b.length with h|h
 ·rw[List.getD,aK h,<-List.getD]
 ·rw[iY h,List.getD,aN h,List.getElem?_replicate];split<;>rfl
structure iZ(M:List (List Rat))(n:Nat)(φ:Nat->Rat)(b x:List Rat):Prop where
 len:x.length=n
 eq:∀j,j<M.length->mulR M n (fun t=>x.getD t 0) j=b.getD j 0
 st:∀k,k<(cN M n).length->tB φ (cd (cN M n) k) (fun t=>x.getD t 0) n=0
theorem Am.one(h:Am M n φ){x y:List Rat}(hx:iZ M n φ b x)(hy:iZ M n φ b y):x=y:=by
 refine gi 0 (by rw[hx.len,hy.len]) fun t ht=>?_;rw[hx.len]at ht
 have:=h.only (x:=fun t=>x.getD t 0-y.getD t 0) (fun j hj=>by rw[HG,hx.eq j hj,hy.eq j hj];grind) (fun k hk=>by
  rw[show (fun t=>x.getD t 0-y.getD t 0)=fun t=>x.getD t 0+(-1)*y.getD t 0 from funext fun t=>by grind,Ei,hx.st k hk];have h2:=hy.st k hk;unfold tB at h2 ⊢;rw[cA (f:=fun t=>φ t*(cd (cN M n) k t*(-1*y.getD t 0))) (g:=fun t=>(-1)*(φ t*(cd (cN M n) k t*y.getD t 0))) fun t _=>by grind,eF,h2]
  grind) t ht
 grind
end
theorem mI{a b:List Rat}{t:Nat}(ht:t<a.length):(eh a b).getD t 0=a.getD t 0*b.getD t 0:=by
 have h:=aA ht;rw[getD_some h];exact getD_some (by rw[eh,List.getElem?_mapIdx,h];rfl)
section
variable{M:List (List Rat)}{n:Nat}{fl b:List Rat}
theorem tQ(M:List (List Rat))(n:Nat)(fl:List Rat){i j:Nat}(hi:i<(cN M n).length)(hj:j<(cN M n).length):cd (eI (cN M n) fl) i j=Ej M n (fun t=>fl.getD t 0) i j:=by
 have hr:=aA hi;have hs:=aA hj;have hl:((cN M n)[i]).length=n:=mw M n _ (aV hi);have h1:(eI (cN M n) fl)[i]? =some ((cN M n).map fun r=>ef (eh (cN M n)[i] fl) r (cN M n)[i].length):=by rw[eI,aM,hr];rfl
 have h2:((cN M n).map fun r=>ef (eh (cN M n)[i] fl) r (cN M n)[i].length)[j]? =some (ef (eh (cN M n)[i] fl) (cN M n)[j] (cN M n)[i].length):=by rw[aM,hs];rfl
 rw[cd,getD_some h1,getD_some h2,qd,hl];refine cA fun t ht=>?_;rw[mI (by omega),cd,cd,getD_some hr,getD_some hs];grind
theorem mz(st:List (List Rat))(fl:List Rat):fp st.length (eI st fl):=fun r hr=>by
 obtain⟨s,hs,rfl⟩:=aS.1 hr;rw[aL]
theorem CO(M:List (List Rat))(n:Nat)(fl x:List Rat){i:Nat}(hi:i<(cN M n).length):(gB (cN M n) fl x).getD i 0= -(tB (fun t=>fl.getD t 0) (cd (cN M n) i) (fun t=>x.getD t 0) n):=by
 have hr:=aA hi;have hl:((cN M n)[i]).length=n:=mw M n _ (aV hi);have h1:(gB (cN M n) fl x)[i]? =some (-(ef (eh (cN M n)[i] fl) x (cN M n)[i].length)):=by rw[gB,aM,hr];rfl
 rw[getD_some h1,qd,hl];congr 1;refine cA fun t ht=>?_;rw[mI (by omega),cd,getD_some hr];grind
theorem pP(st:List (List Rat))(c x:List Rat):∀i,(jV st c x i).length=x.length
 |0=>rfl
 |i+1=>by rw[jV,List.length_mapIdx,pP st c x i]
theorem x7(st:List (List Rat))(c x:List Rat){t:Nat}(ht:t<x.length):∀i,(jV st c x i).getD t 0=x.getD t 0+cR (fun k=>c.getD k 0*cd st k t) i
 |0=>(bV _).symm
 |i+1=>by
  have hl:t<(jV st c x i).length:=by rw[pP];exact ht
  have ih:=x7 st c x ht i;rw[getD_some (aA hl)]at ih;rw[getD_some (show (jV st c x (i+1))[t]? =some ((jV st c x i)[t]+c.getD i 0*(st.getD i []).getD t 0) by rw[jV,List.getElem?_mapIdx,aA hl];rfl),ih,cR,Rat.add_assoc];rfl
theorem Am.force(h:Am M n fun t=>fl.getD t 0)(h0:fU M b n=some x0):∃c,fU (eI (cN M n) fl) (gB (cN M n) fl x0) (cN M n).length=some c∧c.length=(cN M n).length∧
  iZ M n (fun t=>fl.getD t 0) b (jV (cN M n) c x0 (cN M n).length):=by
 obtain⟨hx1,hx2⟩:=kX h.len h0;have hG:=mz (cN M n) fl;have hGl:(eI (cN M n) fl).length=(cN M n).length:=aL _;have hc:∃c,fU (eI (cN M n) fl) (gB (cN M n) fl x0) (cN M n).length=some c:=by
  cases e:fU (eI (cN M n) fl) (gB (cN M n) fl x0) (cN M n).length with
  |some c=>exact⟨c,rfl⟩
  |none=>
   obtain⟨y,y1,y2⟩:=mu hG e;rw[hGl]at y1 y2;have hy:=h.HM (c:=y) fun i hi=>Eq.trans (cA fun j hj=>by rw[tQ M n fl hj hi,bh];unfold Ej;rw[rh]) (y1 i hi);exact absurd (by rw[cA (g:=fun _=>0) fun j hj=>by rw[hy j hj,bC],dQ]) y2
 obtain⟨c,hc⟩:=hc;obtain⟨c1,c2⟩:=kX hG hc;refine⟨c,hc,c1,by rw[pP];exact hx1,fun j hj=>?_,fun k hk=>?_⟩
 ·rw[my (y:=fun t=>x0.getD t 0+cR (fun k=>c.getD k 0*cd (cN M n) k t) (cN M n).length) fun t ht=>x7 _ c x0 (by omega) _,x5,CN,hx2 j hj,cA (g:=fun _=>0) fun k hk=>by rw[rb h.len hk j hj,bA],dQ,bV]
 ·rw[tO (x':=cd (cN M n) k) (y':=fun t=>x0.getD t 0+cR (fun k=>c.getD k 0*cd (cN M n) k t) (cN M n).length) (fun _ _=>rfl) fun t ht=>x7 _ c x0 (by omega) _,Ei,rk];have h2:=c2 k (by omega);rw[CO M n fl x0 hk]at h2;unfold mulR at h2;rw[cA (g:=fun t=>c.getD t 0*tB (fun t=>fl.getD t 0) (cd (cN M n) k) (cd (cN M n) t) n) fun t ht=>by rw[tQ M n fl hk ht,bh];rfl]at h2;rw[h2];grind
end
def ez(M:List (List Int))(r c:Nat):Int:=(M.getD r []).getD c 0
theorem getD_set_ne{α:Type}{l:List α}{i j:Nat}{x d:α}(h:i≠j):(l.set i x).getD j d=l.getD j d:=by rw[List.getD,aw h,<-List.getD]
theorem lD{α:Type}{l:List α}{i:Nat}{x d:α}(h:i<l.length):(l.set i x).getD i d=x:=by rw[List.getD,aT h];rfl
theorem ia{M:List (List Int)}{r r' c':Nat}(h:r'≠r∨c'≠c):ez (putAt M r c d) r' c'=ez M r' c':=by
 unfold ez putAt;by_cases h1:r'=r
 ·subst h1;have h2:c≠c':=h.elim (fun h=>absurd rfl h) fun h=>h.symm;rcases aO r' M.length with h3|h3
  ·rw[lD h3,getD_set_ne h2]
  ·rw[List.set_eq_of_length_le h3]
 ·rw[getD_set_ne (Ne.symm h1)]
theorem CP{M:List (List Int)}{r:Nat}(hr:r<M.length)(hc:c<(M.getD r []).length):ez (putAt M r c d) r c=d:=by
 unfold ez putAt;rw[lD hr,lD hc]
theorem gj(M:List (List Int))(r c:Nat)(d:Int):xP M r c d=putAt M r c (ez M r c+d):=rfl
theorem Ek{i:Nat}{b:Int×Int×Rat}(hb:f.bars[i]? =some b):f.bars.getD i (0,0,0)=b:=by rw[List.getD,hb];rfl
theorem tR{f:fT}{M:List (List Int)}{i c r:Nat}(h:c≠i):∀k,ez (fQ f M i k) r c=ez M r c
 |0=>rfl
 |k+1=>by
  rw[fQ];rw[gj,ia (.inr h),gj,ia (.inr h)];exact tR h k
theorem lE(f:fT){r c:Nat}:∀i,i<=c->ez (eU f i) r c=0
 |0,_=>by
  unfold ez eU;rcases aO r (3*f.nodes.length)with h|h
  ·rw[show (List.replicate (3*f.nodes.length) (List.replicate f.cols (0:Int))).getD r []=List.replicate f.cols 0 by rw[List.getD,List.getElem?_replicate,if_pos h];rfl,List.getD,List.getElem?_replicate];split<;>rfl
  ·rw[show (List.replicate (3*f.nodes.length) (List.replicate f.cols (0:Int))).getD r []=[] by rw[List.getD,List.getElem?_replicate,aF (by omega)];rfl];rfl
 |i+1,h=>by rw[eU,tR (by omega)];exact lE f i (by omega)
theorem toNat_add{a:Int}{k ka:Nat}(h:a=ka):(3*a+(k:Int)).toNat=3*ka+k:=by omega
theorem zz{f:fT}{M:List (List Int)}{i r ka kb:Nat}{b:Int×Int×Rat}(hb:f.bars[i]? =some b)(ea:b.1=ka)(eb:b.2.1=kb):∀k,k<=3->k<=r % 3->ez (fQ f M i k) r i=ez M r i
 |0,_,_=>rfl
 |k+1,h3,h=>by
  rw[fQ];rw[Ek hb,toNat_add ea,toNat_add eb,gj,ia (.inl (by omega)),gj,ia (.inl (by omega))];exact zz hb ea eb k (by omega) (by omega)
theorem x8{i r ka kb k:Nat}{b:Int×Int×Rat}(hb:f.bars[i]? =some b)(ea:b.1=ka)(eb:b.2.1=kb)(hk:k<=3)(h:k<=r % 3):ez (fQ f (eU f i) i k) r i=0:=by
 rw[zz hb ea eb k hk h];exact lE f i (aE _)
theorem x9{f:fT}{r c:Nat}(h:c<f.bars.length):∀k,ez (ei f k) r c=ez (eU f f.bars.length) r c
 |0=>rfl
 |k+1=>by
  rw[ei];rw[ia (.inr (by omega))];exact x9 h k
theorem uU{f:fT}{r i:Nat}:∀k,k<=i->ez (ei f k) r (f.bars.length+i)=0
 |0,_=>lE f _ (by omega)
 |k+1,h=>by
  rw[ei];rw[ia (.inr (by omega))];exact uU k (by omega)
def gC(s:Int×Int×Rat):Nat:=(3*s.1+s.2.1).toNat
theorem AA{f:fT}(hw:∀k,∀l∈ei f k,l.length=f.cols)(hlen:∀k,(ei f k).length=3*f.nodes.length)(hrow:∀s∈f.cS,gC s<3*f.nodes.length){r i:Nat}{s:Int×Int×Rat}(hs:f.cS[i]? =some s):
  ∀k,i<k->ez (ei f k) r (f.bars.length+i)=if r=gC s then 1 else 0
 |0,h=>by omega
 |k+1,h=>by
  rw[ei];rcases aO i k with h1|h1
  ·rw[ia (.inr (by omega))];exact AA hw hlen hrow hs k h1
  ·have:i=k:=by omega
   subst this;have hg:f.cS.getD i (0,0,0)=s:=by rw[List.getD,hs];rfl
   have hsr:=hrow s (aD hs);have hi:=(aC.1 hs).1;rw[hg];by_cases h2:r=gC s
   ·rw[if_pos h2,h2];have hm:gC s<(ei f i).length:=by rw[hlen];exact hsr
    exact CP hm (by
     show f.bars.length+i<((ei f i).getD (gC s) []).length;rw[List.getD,aA hm];show f.bars.length+i<((ei f i)[gC s]).length;rw[hw i _ (aV hm),fT.cols]
     omega)
   ·rw[aF h2];exact(ia (r:=gC s) (.inl h2)).trans (uU i (aE _))
end Go.Ex
namespace Go.Ex
open Go Go.Sx Go.Proofs
variable{O:Nat->Sx.dU}
theorem Cv.new{w w2:World}{g:Nat}(hg:Cf w [(w.heap.size,w2.heap.size)] g):Nf w w2 g:=by
 rcases hg with hg|⟨h1,lo,hi,h2,h3,h4⟩
 ·exact hg.elim
 ·simp at h2;obtain⟨rfl,rfl⟩:=h2;exact .inr ⟨h3,h4⟩
structure aAL(w:World)(B:Nat)(iv:Iv)(v:Value)(M:List (List Rat)):Prop where
 row:∃rv,w.ownsRow 0 T.jG 1 v M.length rv∧rv.length=M.length∧(∀u∈rv,u.oneCell'=true)∧∀(i:Nat) u x,rv[i]? =some u->M[i]? =some x->cF w (Bs (fun _=>False) B iv v) u x
 new:∀g,v.ownBlock=some g->Cv (fun _=>False) B iv g
section
variable{H:Hp}{nx:Nat}{iv iv':Iv}{B:Nat}{w w' w2:World}{O:Nat->Sx.dU}{v:Value}{M:List (List Rat)}
end
theorem At.Ku{id n:Nat}:((At.w id n).den O).oneCell'=true:=by
 cases h:(O id).nil<;>simp[At.den,h,Value.oneCell']
end Go.Ex
namespace Go.Ex
variable{s:Int×Int×Rat}{M:List (List Rat)}{fl x:List Rat}{n r:Nat}{u y z:Nat->Rat}{f:fT}
theorem Iu{M:List (List Int)}{c:Nat}:cd (M.map dc) r c=((ez M r c:Int):Rat):=by
 have key:∀l:List Int,(dc l).getD c 0=((l.getD c 0:Int):Rat):=fun l=>by
  rw[dc,List.getD,List.getD,aM]
  cases l[c]? <;>rfl
 unfold cd ez;rw[<-key];congr 1;rw[List.getD,List.getD,aM]
 cases M[r]? <;>rfl
theorem Db(f:fT)(r c:Nat):cd (cM f) r c=((ez (ir f) r c:Int):Rat):=Iu
def KE(n:Nat)(M:List (List Int)):Prop:=∀l∈M,l.length=n
theorem KE.put{c:Nat}{d:Int}{M:List (List Int)}(h:KE n M):KE n (putAt M r c d):=fun l hl=>by
 unfold putAt at hl;rcases aO r M.length with hr|hr
 ·rcases bU hl with hl|rfl
  ·exact h l hl
  ·rw[b9,List.getD,aA hr];exact h _ (aV hr)
 ·rw[List.set_eq_of_length_le hr]at hl;exact h l hl
theorem AB{f:fT}{M:List (List Int)}{n i:Nat}(h:KE n M):∀k,KE n (fQ f M i k)
 |0=>h
 |k+1=>by rw[fQ];rw[gj,gj];exact((AB h k).put).put
theorem xa(f:fT):∀i,KE f.cols (eU f i)
 |0=>fun l hl=>by rw[eU]at hl;rw[List.eq_of_mem_replicate hl,bE]
 |i+1=>by rw[eU];exact AB (xa f i) 3
theorem nA(f:fT):∀i,KE f.cols (ei f i)
 |0=>xa f _
 |i+1=>by rw[ei];exact(nA f i).put
theorem nB(M:List (List Int))(r c:Nat)(d:Int):(putAt M r c d).length=M.length:=b9 ..
theorem rn(f:fT)(M:List (List Int))(i:Nat):∀k,(fQ f M i k).length=M.length
 |0=>rfl
 |k+1=>by rw[fQ];rw[gj,gj,nB,nB];exact rn f M i k
theorem pw(f:fT):∀i,(eU f i).length=3*f.nodes.length
 |0=>bE ..
 |i+1=>by rw[eU,rn];exact pw f i
theorem l9(f:fT):∀i,(ei f i).length=3*f.nodes.length
 |0=>pw f _
 |i+1=>by rw[ei,nB];exact l9 f i
theorem fJ(f:fT):fp f.cols (cM f):=fun r hr=>by
 obtain⟨l,hl,rfl⟩:=aS.1 hr;rw[dc,aL];exact nA f _ l hl
theorem iB(f:fT):(cM f).length=3*f.nodes.length:=by rw[cM,aL];exact l9 f _
structure DE(f:fT):Prop where
 co:∀p∈f.nodes,(-1000000<=p.1∧p.1<=1000000)∧(-1000000<=p.2.1∧p.2.1<=1000000)∧(-1000000<=p.2.2∧p.2.2<=1000000)
 K9:∀b∈f.bars,∃ka kb:Nat,b.1=ka∧b.2.1=kb∧ka<f.nodes.length∧kb<f.nodes.length∧ka≠kb∧0<b.2.2
 sup:∀s∈f.cS,gC s<3*f.nodes.length∧0<=s.2.2
 one:∀(i j:Nat) s t,f.cS[i]? =some s->f.cS[j]? =some t->gC s=gC t->i=j
 n:f.nodes.length<=20
 b:f.bars.length<=60
 s:f.cS.length<=60
theorem El{α:Type}{l:List α}{x:α}(h:x∈l):∃i:Nat,l[i]? =some x:=by
 obtain⟨i,hi,rfl⟩:=List.mem_iff_getElem.1 h;exact⟨i,aA hi⟩
theorem KF(h:eK f=0):DE f:=by
 have hok:=rp h;obtain⟨⟨h1,h2,h3⟩,h4,h5,h6⟩:=AD h;have hsup:∀(k:Nat) s,f.cS[k]? =some s->iU f.nodes.length s.1∧(0<=s.2.1∧s.2.1<=2)∧iC s∉(f.cS.take k).map iC∧0<=s.2.2:=fun k s hs=>pQ.1 (fV h6 k s hs);have hrow:∀(k:Nat) s,f.cS[k]? =some s->(gC s:Int)=3*s.1+s.2.1∧gC s<3*f.nodes.length:=fun k s hs=>by
  obtain⟨⟨a1,a2⟩,⟨a3,a4⟩,-,-⟩:=hsup k s hs;unfold gC;omega
 have lt:∀(i j:Nat) s t,i<j->f.cS[i]? =some s->f.cS[j]? =some t->gC s≠gC t:=fun i j s t hij hs ht e=>by
  obtain⟨⟨a1,a2⟩,⟨a3,a4⟩,-,-⟩:=hsup i s hs;obtain⟨⟨b1,b2⟩,⟨b3,b4⟩,b5,-⟩:=hsup j t ht;have e1:=(hrow i s hs).1;have e2:=(hrow j t ht).1;refine b5 (aS.2 ⟨s,aD (i:=i) (by rw[bM hij];exact hs),?_⟩);exact Prod.ext (by show s.1=t.1;omega) (by show s.2.1=t.2.1;omega)
 refine⟨hok.co,fun b hb=>?_,fun s hs=>?_,fun i j s t hs ht e=>?_,h1,h2,h3⟩
 ·obtain⟨k,hk⟩:=El hb;obtain⟨⟨⟨a1,a2⟩,a3,a4⟩,a5,-,a6⟩:=pR.1 (fV h5 k b hk);exact⟨b.1.toNat,b.2.1.toNat,by omega,by omega,by omega,by omega,by omega,a6⟩
 ·obtain⟨k,hk⟩:=El hs;exact⟨(hrow k s hk).2,(hsup k s hk).2.2.2⟩
 ·rcases bm i j with h7|h7|h7
  ·exact absurd e (lt i j s t h7 hs ht)
  ·exact h7
  ·exact absurd e.symm (lt j i t s h7 ht hs)
theorem CQ(M:List (List Int))(r c r' c':Nat)(d:Int):ez (putAt M r c d) r' c'=d∨ez (putAt M r c d) r' c'=ez M r' c':=by
 by_cases h:r'=r∧c'=c
 ·obtain⟨rfl,rfl⟩:=h;rcases aO r' M.length with h1|h1
  ·rcases aO c' (M.getD r' []).length with h2|h2
   ·exact .inl (CP h1 h2)
   ·refine .inr ?_;unfold ez putAt;rw[lD h1,List.set_eq_of_length_le h2]
  ·refine .inr ?_;unfold ez putAt;rw[List.set_eq_of_length_le h1]
 ·exact .inr (ia (by
   by_cases h1:r'=r
   ·exact .inr fun h2=>h ⟨h1,h2⟩
   ·exact .inl h1))
theorem CR{k:Nat}(hk:k<f.nodes.length):f.node (k:Int)∈f.nodes:=by
 rw[fT.node,aJ,List.getD,aA hk];exact aV hk
section
variable{f:fT}(h:DE f)
include h
theorem DE.Lp{b:Int×Int×Rat}(hb:b∈f.bars)(k:Nat): -2000000<=(xO f b).getD k 0∧(xO f b).getD k 0<=2000000:=by
 obtain⟨ka,kb,ea,eb,hka,hkb,-,-⟩:=h.K9 b hb;obtain⟨⟨a1,a2⟩,⟨a3,a4⟩,a5,a6⟩:=h.co _ (CR hka);obtain⟨⟨b1,b2⟩,⟨b3,b4⟩,b5,b6⟩:=h.co _ (CR hkb);rw[xO,ea,eb]
 match k with
 |0=>simp[List.getD];omega
 |1=>simp[List.getD];omega
 |2=>simp[List.getD];omega
 |k+3=>simp[List.getD]
theorem DE.CS{i:Nat}{b:Int×Int×Rat}(hb:f.bars[i]? =some b)(r:Nat):∀k,k<=3-> -2000000<=ez (fQ f (eU f i) i k) r i∧ez (fQ f (eU f i) i k) r i<=2000000
 |0,_=>by
  have:=lE f (r:=r) i (aE i);rw[fQ,this];omega
 |k+1,hk=>by
  obtain⟨ka,kb,ea,eb,-,-,hne,-⟩:=h.K9 b (aD hb);have ih:=DE.CS hb r k (by omega);have hd:=h.Lp (aD hb) k;have z1:=x8 (r:=3*ka+k) hb ea eb (show k<=3 by omega) (by omega);have z2:=x8 (r:=3*kb+k) hb ea eb (show k<=3 by omega) (by omega);rw[fQ];rw[Ek hb,toNat_add ea,toNat_add eb,gj,gj,z1,ia (r':=3*kb+k) (.inl (by omega)),z2];rcases CQ (putAt (fQ f (eU f i) i k) (3*ka+k) i (0+(xO f b).getD k 0)) (3*kb+k) i r i (0+ -(xO f b).getD k 0)with e|e
  ·rw[e];omega
  ·rw[e];rcases CQ (fQ f (eU f i) i k) (3*ka+k) i r i (0+(xO f b).getD k 0)with e|e
   ·rw[e];omega
   ·rw[e];exact ih
theorem DE.Em{i r:Nat}(hi:i<f.bars.length):∀j,i<j->j<=f.bars.length-> -2000000<=ez (eU f j) r i∧ez (eU f j) r i<=2000000
 |0,h1,_=>by omega
 |j+1,h1,h2=>by
  rw[eU];rcases aO i j with h3|h3
  ·rw[tR (by omega)];exact DE.Em hi j h3 (by omega)
  ·rw[show j=i by omega];exact h.CS (aA hi) r 3 (aE _)
theorem DE.Dc{i:Nat}(hs:f.cS[i]? =some s):ez (ir f) r (f.bars.length+i)=if r=gC s then 1 else 0:=
 AA (nA f) (l9 f) (fun s hs=>(h.sup s hs).1) hs _ (aC.1 hs).1
theorem DE.KG(r c:Nat): -2000000<=ez (ir f) r c∧ez (ir f) r c<=2000000:=by
 rcases aO c f.bars.length with hc|hc
 ·rw[ir,x9 hc];exact h.Em hc _ hc (aE _)
 ·rcases aO c f.cols with h1|h1
  ·obtain⟨i,rfl⟩:∃i,c=f.bars.length+i:=⟨c-f.bars.length,by omega⟩
   rw[fT.cols]at h1;rw[h.Dc (aA (show i<f.cS.length by omega))];split<;>omega
  ·have:ez (ir f) r c=0:=by
    unfold ez;rw[List.getD,List.getElem?_eq_none]
    ·rfl
    ·rcases aO r (ir f).length with h2|h2
     ·rw[List.getD,aA h2];show((ir f)[r]).length<=c;rw[nA f _ _ (aV h2)];exact h1
     ·rw[List.getD,List.getElem?_eq_none h2];exact aP _
   rw[this];omega
theorem DE.xb(r c:Nat):Ib 2000000 (cd (cM f) r c):=by
 rw[Db];have:=h.KG r c;exact Ib.int (by omega)
theorem DE.lF:Al (cM f) f.cols 2000000:=fun j _=>⟨1,by decide,Ib.one (by decide),fun t _=>by rw[bp];exact h.xb j t⟩
theorem DE.only{x:Nat->Rat}(hx:∀j,j<(cM f).length->mulR (cM f) f.cols x j=0)(h0:∀t,t<f.bars.length->x t=0):∀t,t<f.cols->x t=0:=fun t ht=>by
 rcases aO t f.bars.length with h1|h1
 ·exact h0 t h1
 ·obtain⟨i,rfl⟩:∃i,t=f.bars.length+i:=⟨t-f.bars.length,by omega⟩
  have hi:i<f.cS.length:=by unfold fT.cols at ht;omega
  have hs:=aA hi;have hr:=h.sup _ (aV hi);have h2:=hx (gC f.cS[i]) (by rw[iB];exact hr.1);unfold mulR at h2;rw[eS ht fun k hk hne=>?_,Db,h.Dc hs,if_pos rfl]at h2
  ·have e:((1:Int):Rat)*x (f.bars.length+i)=x (f.bars.length+i):=bp _
   rwa [e]at h2
  ·rcases aO k f.bars.length with h3|h3
   ·rw[h0 k h3,bA]
   ·obtain⟨i',rfl⟩:∃i,k=f.bars.length+i:=⟨k-f.bars.length,by omega⟩
    have hi':i'<f.cS.length:=by unfold fT.cols at hk;omega
    have hs':=aA hi';rw[Db,h.Dc hs',aF fun e=>hne (by rw[h.one i i' _ _ hs hs' e])];exact bC _
theorem DE.HN{t:Nat}(ht:t<f.bars.length):0<(cX f).getD t 0:=by
 obtain⟨_,_,_,_,_,_,_,h1⟩:=h.K9 _ (aV ht);rw[cX,List.getD,aK (by rw[aL];exact ht),aM,aA ht];exact h1
theorem DE.CT(t:Nat):0<=(cX f).getD t 0:=by
 rw[List.getD]
 cases ht:(cX f)[t]? with
 |none=>exact Rat.le_refl
 |some q=>
  show 0<=q;have hm:=aD ht;rcases bK.1 hm with hm|hm
  ·obtain⟨b,hb,rfl⟩:=aS.1 hm;obtain⟨_,_,_,_,_,_,_,h1⟩:=h.K9 b hb;exact Rat.le_of_lt h1
  ·obtain⟨s,hs,rfl⟩:=aS.1 hm;exact(h.sup s hs).2
theorem DE.vD:Am (cM f) f.cols fun t=>(cX f).getD t 0:=by
 refine⟨fJ f,fun t _=>h.CT t,fun x hx h0=>h.only hx fun t ht=>?_⟩;have h1:=uQ (f:=fun t=>(cX f).getD t 0*(x t*x t)) (n:=f.cols) (fun k _=>Rat.mul_nonneg (h.CT k) (sq_nonneg _)) (by rw[h0];exact Rat.le_refl) t (by unfold fT.cols;omega);have h2:=h.HN ht;rcases Rat.mul_eq_zero.1 h1 with h3|h3
 ·rw[h3]at h2;exact absurd h2 (Rat.lt_irrefl)
 ·rcases Rat.mul_eq_zero.1 h3 with h4|h4<;>exact h4
end
theorem qg(f:Nat->Rat)(a:Nat):∀b,cR f (a+b)=cR f a+cR (fun k=>f (a+k)) b
 |0=>(bV _).symm
 |b+1=>by rw[show a+(b+1)=a+b+1 by omega,cR,cR,qg f a b,Rat.add_assoc]
theorem tS{k:Nat}(hk:k<n):(eN M n).getD k []=M.map fun r=>r.getD k 0:=by
 unfold eN;exact getD_some (by rw[aM,bS hk];rfl)
theorem mJ{k i:Nat}(hk:k<n):cd (eN M n) k i=cd M i k:=by
 rw[cd,cd,tS hk];rcases aO i M.length with h|h
 ·have hr:=aA h;rw[getD_some (show (M.map fun r=>r.getD k 0)[i]? =some (M[i].getD k 0) by rw[aM,hr];rfl),getD_some hr]
 ·rw[iY (by rw[aL];exact h),show M.getD i []=[] by rw[List.getD,List.getElem?_eq_none h];rfl];rfl
theorem iK(M:List (List Rat))(n:Nat):fp M.length (eN M n):=fun r hr=>by
 obtain⟨k,_,rfl⟩:=aS.1 hr;exact aL ..
theorem eJ(M:List (List Rat))(n:Nat):(eN M n).length=n:=by simp[eN]
theorem CU(hM:fp n M):eN (eN M n) M.length=M:=by
 refine gi [] (eJ _ _) fun i hi=>?_;rw[eJ]at hi;have hr:=hM.getD hi;refine gi 0 (by rw[tS hi,aL,eJ,hr]) fun t ht=>?_;rw[tS hi,aL,eJ]at ht;have:=mJ (M:=eN M n) (n:=M.length) (i:=t) hi;rw[mJ ht]at this;exact this
abbrev mY(M:List (List Rat))(n:Nat):Nat:=(cG M n).2.length
section
variable{M:List (List Rat)}{n:Nat}
theorem Fo(hM:fp n M){G:Mx}(h:∀j,j<M.length->dh G r n (cd M j)):mY M n<=r:=by
 obtain⟨r1,r2,r3,r4,r5⟩:=dS hM n (aE _);have hl:=dw M n;have hrk:mY M n=(cG M n).2.length:=rfl;have hB:∀i,∃c:Nat->Rat,i<mY M n->∀t,t<n->cd (cG M n).1 i t=cR (fun k=>c k*G k t) r:=fun i=>by
  by_cases hi:i<mY M n
  ·obtain⟨c,hc⟩:=((iq hM n (aE _)).1 i (by omega)).trans h;exact⟨c,fun _=>hc⟩
  ·exact⟨fun _=>0,fun h=>absurd h hi⟩
 obtain⟨D,hD⟩:∃D:Nat->Nat->Rat,∀i,i<mY M n->∀t,t<n->cd (cG M n).1 i t=cR (fun k=>D i k*G k t) r:=⟨fun i=>(hB i).choose,fun i=>(hB i).choose_spec⟩
 refine Nat.le_of_not_lt fun hlt=>?_;obtain⟨T,hT⟩:∃T:List (List Rat),T=(List.range r).map fun k=>(List.range (mY M n)).map fun i=>D i k:=⟨_,rfl⟩
 have hTl:T.length=r:=by rw[hT];simp
 have hTn:fp (mY M n) T:=fun x hx=>by
  rw[hT]at hx;obtain⟨k,_,rfl⟩:=aS.1 hx;simp
 have hTat:∀k i,k<r->i<mY M n->cd T k i=D i k:=fun k i hk hi=>by
  have h1:T[k]? =some ((List.range (mY M n)).map fun i=>D i k):=by rw[hT,aM,bS hk];rfl
  rw[cd,getD_some h1];exact getD_some (by rw[aM,bS hi];rfl)
 obtain⟨-,t2,-⟩:=dS hTn (mY M n) (aE _);have hkl:=kY T (mY M n);rw[dw,hTl]at t2;have hc:=xY hTn;have hk0:0<(cN T (mY M n)).length:=by omega
 have hy:=rb hTn hk0;have hall:∀i,i<mY M n->cd (cN T (mY M n)) 0 i=0:=fun j hj=>by
  have hpj:(cG M n).2.getD j 0<n:=r4 _ (by rw[List.getD,aA hj];exact aV _);have e1:cR (fun i=>cd (cN T (mY M n)) 0 i*cd (cG M n).1 i ((cG M n).2.getD j 0)) (mY M n)=0:=by
   rw[cA (g:=fun i=>cR (fun k=>cd (cN T (mY M n)) 0 i*(D i k*G k ((cG M n).2.getD j 0))) r) fun i hi=>by rw[hD i hi _ hpj,eF],mH,cA (g:=fun _=>0) fun k hk=>?_,dQ];have h2:=hy k (by omega);unfold mulR at h2;rw[cA (g:=fun i=>(cd T k i*cd (cN T (mY M n)) 0 i)*G k ((cG M n).2.getD j 0)) fun i hi=>by rw[hTat k i hk hi];grind,kO,h2,bC]
  rw[eS hj fun i hi hne=>by rw[r5 j i hj (by omega),aF hne,bA],r5 j j hj (by omega),if_pos rfl,Rat.mul_one]at e1;exact e1
 have h3:=Ee (M:=T) (n:=mY M n) (c:=fun k=>if k=0 then 1 else 0) (fun t ht=>by
  rw[eS hk0 fun k _ hne=>by rw[aF hne,bC],if_pos rfl,bp]
  exact hall t ht) 0 hk0
 exact absurd h3 (by decide)
theorem pz(hM:fp n M):mY (eN M n) M.length<=mY M n:=by
 obtain⟨r1,r2,r3,r4,r5⟩:=dS hM n (aE _);have hl:=dw M n;have hrk:mY M n=(cG M n).2.length:=rfl;have hrf:=xK hM;refine Fo (iK M n) (G:=fun i j=>cd M j ((cG M n).2.getD i 0)) fun t ht=>?_;rw[eJ]at ht;refine⟨fun i=>cd (cG M n).1 i t,fun j hj=>?_⟩;rw[mJ ht];have h1:dh (cd (cG M n).1) (mY M n) n (cd M j):=((iq hM n (aE _)).2 j hj).cut fun i t h1 h2 ht=>r3 i t h1 (by omega) ht;rw[hrf.coeff h1 t ht];exact cA fun i _=>bh _ _
theorem Dd(hM:fp n M):mY (eN M n) M.length=mY M n:=by
 refine aQ (pz hM) ?_;have h:=pz (iK M n);rw[eJ,CU hM]at h;exact h
theorem HO(hM:fp n M)(hr:mY M n=M.length):Aj (cd M) M.length n:=by
 obtain⟨r1,r2,r3,r4,r5⟩:=dS hM n (aE _);have hl:=dw M n;have hrk:mY M n=(cG M n).2.length:=rfl;refine(uR hM n (aE _)).1 fun x hx j hj=>?_;have hj2:j<(cG M n).2.length:=by omega
 have hpj:(cG M n).2.getD j 0<n:=r4 _ (by rw[List.getD,aA hj2];exact aV _);have h1:=hx _ hpj;rw[eS hj fun i hi hne=>by rw[r5 j i hj2 (by omega),aF hne,bA],r5 j j hj2 (by omega),if_pos rfl,Rat.mul_one]at h1;exact h1
theorem Fp{k:Nat}(hk:k<n):mulR (eN M n) M.length y k=cR (fun i=>cd M i k*y i) M.length:=cA fun i _=>by rw[mJ hk]
def jW(M:List (List Rat))(n:Nat)(fl:List Rat):List (List Rat):=(M.map fun r=>List.replicate M.length 0++r)++(List.range n).map fun j=>(M.map fun r=>r.getD j 0)++(List.replicate n 0).set j (fl.getD j 0)
theorem iL(fl:List Rat):(jW M n fl).length=M.length+n:=by unfold jW;rw[List.length_append,aL,aL,List.length_range]
theorem pS(hM:fp n M)(fl:List Rat):fp (M.length+n) (jW M n fl):=fun r hr=>by
 rcases bK.1 hr with hr|hr
 ·obtain⟨x,hx,rfl⟩:=aS.1 hr;rw[List.length_append,bE,hM x hx]
 ·obtain⟨x,hx,rfl⟩:=aS.1 hr;rw[List.length_append,aL,b9,bE]
theorem An{i t:Nat}(hi:i<M.length):(t<M.length->cd (jW M n fl) i t=0)∧cd (jW M n fl) i (M.length+t)=cd M i t:=by
 have hr:=aA hi;have h:(jW M n fl)[i]? =some (List.replicate M.length 0++M[i]):=by
  unfold jW;rw[aK (by rw[aL];exact hi),aM,hr];rfl
 refine⟨fun ht=>?_,?_⟩
 ·rw[cd,getD_some h];exact getD_some (by rw[aK (by rw[bE];exact ht),List.getElem?_replicate,if_pos ht])
 ·rw[cd,cd,getD_some h,getD_some hr,List.getD,List.getD,aN (by rw[bE];exact Nat.le_add_right _ _),bE,Nat.add_sub_cancel_left]
theorem xc{j t:Nat}(hj:j<n):(t<M.length->cd (jW M n fl) (M.length+j) t=cd M t j)∧(t<n->cd (jW M n fl) (M.length+j) (M.length+t)=if t=j then fl.getD j 0 else 0):=by
 have h:(jW M n fl)[M.length+j]? =some ((M.map fun r=>r.getD j 0)++(List.replicate n 0).set j (fl.getD j 0)):=by
  unfold jW;rw[aN (by rw[aL];exact Nat.le_add_right _ _),aL,Nat.add_sub_cancel_left,aM,bS hj];rfl
 refine⟨fun ht=>?_,fun ht=>?_⟩
 ·have hr:=aA ht;rw[cd,cd,getD_some h,getD_some hr];exact getD_some (by rw[aK (by rw[aL];exact ht),aM,hr];rfl)
 ·rw[cd,getD_some h];by_cases e:t=j
  ·subst e;rw[if_pos rfl];exact getD_some (by rw[aN (by rw[aL];exact Nat.le_add_right _ _),aL,Nat.add_sub_cancel_left,aT (by rw[bE];exact ht)])
  ·rw[aF e];exact getD_some (by rw[aN (by rw[aL];exact Nat.le_add_right _ _),aL,Nat.add_sub_cancel_left,aw (Ne.symm e),List.getElem?_replicate,if_pos ht])
theorem AE{i:Nat}(hi:i<M.length):mulR (jW M n fl) (M.length+n) z i=mulR M n (fun t=>z (M.length+t)) i:=by
 unfold mulR;rw[qg,cA (g:=fun _=>0) fun t ht=>by rw[(An hi).1 ht,bC],dQ,Rat.zero_add];exact cA fun t _=>by rw[(An hi).2]
theorem AF{j:Nat}(hj:j<n):mulR (jW M n fl) (M.length+n) z (M.length+j)=cR (fun i=>cd M i j*z i) M.length+fl.getD j 0*z (M.length+j):=by
 unfold mulR;rw[qg,cA fun t ht=>by rw[(xc hj).1 ht]];congr 1;rw[eS hj fun t ht hne=>by rw[(xc hj).2 ht,aF hne,bC],(xc hj).2 hj,if_pos rfl]
theorem Fq(h:∀j,j<M.length->mulR M n y j=0):cR (fun t=>y t*cR (fun i=>cd M i t*u i) M.length) n=0:=by
 rw[cA (g:=fun t=>cR (fun i=>y t*(cd M i t*u i)) M.length) fun t _=>by rw[eF],mH,cA (g:=fun _=>0) fun i hi=>?_,dQ];have h1:=h i hi;unfold mulR at h1;rw[cA (g:=fun t=>cd M i t*y t*u i) fun t _=>by grind,kO,h1,bC]
end
section
variable{M:List (List Rat)}{n:Nat}{fl b:List Rat}
theorem iZ.Kk(hM:fp n M)(h:iZ M n (fun t=>fl.getD t 0) b x):∃u,fU (eN M n) (dC (eh x fl) (-1)) M.length=some u:=by
 cases e:fU (eN M n) (dC (eh x fl) (-1)) M.length with
 |some u=>exact⟨u,rfl⟩
 |none=>
  obtain⟨y,y1,y2⟩:=mu (iK M n) e;rw[eJ]at y1 y2;refine absurd ?_ y2;have hnull:∀j,j<M.length->mulR M n y j=0:=fun j hj=>Eq.trans (cA fun t ht=>by rw[mJ ht,bh]) (y1 j hj);obtain⟨c,hc⟩:=Ed hM hnull;have hb:∀t,t<n->(dC (eh x fl) (-1)).getD t 0= -(fl.getD t 0*x.getD t 0):=fun t ht=>by
   have h1:=mI (a:=x) (b:=fl) (t:=t) (by rw[h.len];exact ht);have hl:t<(eh x fl).length:=by rw[eh,List.length_mapIdx,h.len];exact ht
   rw[getD_some (aA hl)]at h1;rw[getD_some (show (dC (eh x fl) (-1))[t]? =some ((eh x fl)[t]* -1) by rw[dC,aM,aA hl];rfl),h1];grind
  have e1:cR (fun t=>y t*(dC (eh x fl) (-1)).getD t 0) n= -(tB (fun t=>fl.getD t 0) (fun t=>x.getD t 0) y n):=by
   unfold tB;rw[<-mF];exact cA fun t ht=>by rw[hb t ht];grind
  rw[e1,tO (x':=fun t=>x.getD t 0) (fun _ _=>rfl) hc,rk,cA (g:=fun _=>0) fun k hk=>by rw[rh,h.st k hk,bA],dQ];rfl
theorem xd(x fl:List Rat){n t:Nat}(hx:x.length=n)(ht:t<n):(dC (eh x fl) (-1)).getD t 0= -(fl.getD t 0*x.getD t 0):=by
 have h1:=mI (a:=x) (b:=fl) (t:=t) (by rw[hx];exact ht);have hl:t<(eh x fl).length:=by rw[eh,List.length_mapIdx,hx];exact ht
 rw[getD_some (aA hl)]at h1;rw[getD_some (show (dC (eh x fl) (-1))[t]? =some ((eh x fl)[t]* -1) by rw[dC,aM,aA hl];rfl),h1];grind
theorem HP(hM:fp n M){u:List Rat}(hb:b.length=M.length)(h:iZ M n (fun t=>fl.getD t 0) b x)(hu:fU (eN M n) (dC (eh x fl) (-1)) M.length=some u):
  (u++x).length=M.length+n∧∀j,j<(jW M n fl).length->mulR (jW M n fl) (M.length+n) (fun t=>(u++x).getD t 0) j=(b++tP n).getD j 0:=by
 obtain⟨u1,u2⟩:=kX (iK M n) hu;rw[eJ]at u2;have ha:∀t,t<M.length->(u++x).getD t 0=u.getD t 0:=fun t ht=>by rw[List.getD,aK (by omega),<-List.getD]
 have hc:∀t,(u++x).getD (M.length+t) 0=x.getD t 0:=fun t=>by rw[List.getD,aN (by omega),u1,Nat.add_sub_cancel_left,<-List.getD]
 refine⟨by rw[List.length_append,u1,h.len],fun j hj=>?_⟩;rw[iL]at hj;rw[oP];rcases aO j M.length with h1|h1
 ·rw[AE h1,my (y:=fun t=>x.getD t 0) fun t _=>hc t];exact h.eq j h1
 ·obtain⟨k,rfl⟩:∃k,j=M.length+k:=⟨j-M.length,by omega⟩
  have hk:k<n:=by omega
  rw[AF hk,hc,iY (l:=b) (by omega),cA (g:=fun i=>cd M i k*u.getD i 0) fun i hi=>by rw[ha i hi]];have h2:=u2 k hk;rw[Fp hk,xd x fl h.len hk]at h2;rw[h2];grind
theorem HQ(hM:fp n M){z:List Rat}(hb:b.length=M.length)(hz:fU (jW M n fl) (b++tP n) (M.length+n)=some z):iZ M n (fun t=>fl.getD t 0) b (z.drop M.length):=by
 obtain⟨z1,z2⟩:=kX (pS hM fl) hz;have hd:∀t,(z.drop M.length).getD t 0=z.getD (M.length+t) 0:=fun t=>by rw[List.getD,List.getD,List.getElem?_drop]
 refine⟨by rw[List.length_drop,z1];omega,fun j hj=>?_,fun k hk=>?_⟩
 ·have h1:=z2 j (by rw[iL];omega);rw[AE hj,oP]at h1;rw[<-h1];exact my (fun t _=>hd t) j
 ·have h0:=Fq (u:=fun i=>z.getD i 0) (rb hM hk);unfold tB;have e:cR (fun t=>fl.getD t 0*(cd (cN M n) k t*(z.drop M.length).getD t 0)) n= -cR (fun t=>cd (cN M n) k t*cR (fun i=>cd M i t*z.getD i 0) M.length) n:=by
   rw[<-mF];refine cA fun t ht=>?_;have h1:=z2 (M.length+t) (by rw[iL];omega);rw[AF ht,oP,iY (l:=b) (by omega)]at h1;rw[hd];grind
  rw[e,h0];rfl
theorem Fs(hM:fp n M)(hr:mY M n=M.length):∃x,fU M b n=some x:=by
 cases e:fU M b n with
 |some x=>exact⟨x,rfl⟩
 |none=>
  obtain⟨y,y1,y2⟩:=mu hM e;have:=HO hM hr y y1;exact absurd (by rw[cA (g:=fun _=>0) fun j hj=>by rw[this j hj,bC],dQ]) y2
end
end Go.Ex
namespace Go.Ex
open Go Go.Sx Go.Proofs
section
variable{S S':Nat->Prop}{H:Hp}{nx:Nat}{iv iv':Iv}{B:Nat}{w w' w2:World}{O:Nat->Sx.dU}{v:Value}{M:List (List Int)}
end
end Go.Ex
namespace Go.Ex
open Go
theorem De:∀(N m:Nat) (g:Nat->Nat),(∀i,i<m->g i<N)->(∀i j,i<m->j<m->g i=g j->i=j)->m<=N
 |0,m,g,h1,_=>by
  rcases bJ m with h|h
  ·omega
  ·exact absurd (h1 0 h) (Nat.not_lt_zero _)
 |N+1,m,g,h1,h2=>by
  by_cases h:∃i,i<m∧g i=N
  ·obtain⟨i0,hi,e⟩:=h
   have:=De N (m-1) (fun i=>if i<i0 then g i else g (i+1)) (fun i hi'=>by
    show(if i<i0 then g i else g (i+1))<N;split
    ·rename_i hlt;have:=h1 i (by omega);have:g i≠N:=fun e2=>by have:=h2 i i0 (by omega) hi (by rw[e2,e]);omega
     omega
    ·have:=h1 (i+1) (by omega);have:g (i+1)≠N:=fun e2=>by have:=h2 (i+1) i0 (by omega) hi (by rw[e2,e]);omega
     omega) (fun i j hi' hj' e2=>by
    have e3:(if i<i0 then g i else g (i+1))=(if j<i0 then g j else g (j+1)):=e2;split at e3<;>split at e3
    ·exact h2 _ _ (by omega) (by omega) e3
    ·have:=h2 _ _ (by omega) (by omega) e3;omega
    ·have:=h2 _ _ (by omega) (by omega) e3;omega
    ·have:=h2 _ _ (by omega) (by omega) e3;omega)
   omega
  ·exact Nat.le_succ_of_le (De N m g (fun i hi=>by
    have:=h1 i hi;have:g i≠N:=fun e=>h ⟨i,hi,e⟩
    omega) h2)
structure FrS(f:fT):Prop extends DE f where
 n4:f.nodes.length<=4
 b6:f.bars.length<=6
variable{f:fT}
theorem FrS.Lq(h:FrS f):f.cS.length<=12:=by
 have:=De (3*f.nodes.length) f.cS.length (fun i=>gC (f.cS.getD i (0,0,0))) (fun i hi=>by
  have e:f.cS.getD i (0,0,0)=f.cS[i]:=getD_some (aA hi);show gC (f.cS.getD i (0,0,0))<_;rw[e]
  exact(h.sup _ (aV hi)).1) (fun i j hi hj e=>by
  have e1:f.cS.getD i (0,0,0)=f.cS[i]:=getD_some (aA hi);have e2:f.cS.getD j (0,0,0)=f.cS[j]:=getD_some (aA hj);have e:gC (f.cS.getD i (0,0,0))=gC (f.cS.getD j (0,0,0)):=e;rw[e1,e2]at e
  exact h.one i j _ _ (aA hi) (aA hj) e)
 have:=h.n4;omega
theorem FrS.I9(h:FrS f):f.cols<=18:=by
 have h1:=h.Lq;have h2:=h.b6;unfold fT.cols;omega
theorem FrS.J7(h:FrS f):(cM f).length<=12:=by
 rw[iB];have:=h.n4;omega
theorem Kl:18*2000000<=wt 1:=by decide
theorem FrS.size(h:FrS f):ln (fB 2000000 (cM f).length)<=13:=by
 have:=h.J7;have h2:=J6 (B:=2000000) (R:=18) (l:=1) (n:=(cM f).length) (by omega) Kl;omega
end Go.Ex
namespace Go.Ex
open Go Go.Sx Go.Proofs
variable{M:List (List Rat)}{s:List Int}{l:List Ld}{S:Nat->Prop}{vb vl vn vs:Value}{f:fT}
theorem mV{n B h:Nat}(hM:fp n M)(hW:Al M n B)(hB:1<=B)(hh:ln (fB B M.length)+1<=h):BK M n h:=
 ⟨fun i hi r hr q hq=>by have:=HD hM hW hB hi r hr q hq;omega,fun i hi k hk q hq=>by have:=HE hM hW hB hi hk q hq;omega⟩
theorem EM{n B h:Nat}(hM:fp n M)(hW:Al M n B)(hB:1<=B)(hh:ln (fB B M.length)+1<=h):Ht (dF M n).1 h:=fun r hr q hq=>by
 rw[(kW hM hW).2]at hr;have:=D7 hM hW hB (aE n) r (List.mem_of_mem_take hr) q hq;omega
theorem lW(M:List (List Rat))(n:Nat)(hM:fp n M):(cG M n).2.length<=(cG M n).1.length∧(cG M n).2.length<=n:=by
 obtain⟨r1,r2,r3,r4,r5⟩:=dS hM n (aE _);have:=(gU M n).2.2;unfold cG at*
 exact⟨r2,by omega⟩
theorem GN{w:World}(hS:Old S w)(hf:dY w S vn vb vs f)(hsm:eK f=0->FrS f):
  du PG N.qA #[.agg #[vn,vb,vs]] w (eD w fun v' _=>(eK f≠0∧v'= .tuple #[.agg #[.int .i64 0,.int .i64 0,.int .i64 0],.int .i64 (eK f)])∨(eK f=0∧v'= .tuple #[.agg #[.int .i64 (mY (cM f) f.cols),.int .i64 ((f.cols:Int)-mY (cM f) f.cols),.int .i64 ((3*f.nodes.length:Nat)-mY (cM f) f.cols)],.int .i64 0])):=by
 have hw:cQ w.heap.size w w:=cQ.refl;obtain⟨an,cn,ab,cb,aq,cq,rfl,rfl,rfl,hmn,hmb,hms⟩:=hf.shape;have hcols:f.cols=f.bars.length+f.cS.length:=rfl;have htl:=Cl f;obtain⟨e0,EE⟩:∃e,eK f=e:=⟨_,rfl⟩
 refine tf (by simp) ?_;refine bu (cE hw (fun _ w' v w2=>v= .int .i64 e0) (fun O w' r=>(Co (oS hS r) (hf.cB (kS hw r hS))).mono fun _ _ ⟨v2,e1,e2,e3⟩=>⟨v2,e1,e2,by rw[e3,EE]⟩) ?_);rintro O wa1 v1 wb1 iv1 r he hw h_ rfl;refine dH.mk (fun he=>?_) (fun he=>?_)
 ·have he:e0≠0:=by simpa using he
  intro ρe we re;exact⟨_,rfl,hw.tr re.cI,.inl ⟨by rw[EE];exact he,by rw[EE];rfl⟩⟩
 have he:e0=0:=by simpa using he
 have herr:eK f=0:=by rw[EE,he]
 have hfs:=hsm herr;have hok:=rp herr;refine bu (cE hw (fun _ w' v w2=>(∃vr,v= .agg #[vr,.int .i64 f.cols]∧cO w2 (Nf w' w2) vr (cM f))∧fp f.cols (cM f)∧Ht (cM f) 2) (fun O w' r=>rB (S:=S) (oS hS r) (hf.cB (kS hw r hS)) hok) ?_);rintro O wa1 v1 wb1 ivt r he hw h_ ⟨⟨vr,rfl,k1⟩,hlen,hht⟩;have hM:=cO.dB (S:=fun _=>False) k1 r.bw (mN h_);obtain⟨am,cm,rfl,hcm,hmm⟩:=eP.shape hM;have hc18:=hfs.I9;have hr12:=hfs.J7;refine bu (cE hw (fun _ w' v w2=>∃vr vp vf,v= .agg #[vr,.int .i64 f.cols,vp,vf]∧cO w2 (Nw (Cf w ivt) w' w2) vr (dF (cM f) f.cols).1) (fun O w' r=>(yi (C:=Cf w ivt) (S:=Cf w ivt) (h:=20) (Rel.old r (bs w)) (Rel.old r (bs w)) (cO.rel hM r (bs w)) hlen (by omega) (by omega) (mV hlen hfs.lF (by decide) (by have:=hfs.size;omega)) (by decide)).mono fun _ _ ⟨v2,e1,e2,vr,vp,vf,k1,k2,_,_⟩=>⟨v2,e1,e2,vr,vp,vf,k1,k2⟩) ?_);rintro O wa2 v2 wb2 iv2 r he hw h_ ⟨vr2,vp2,vf2,rfl,hn⟩;replace hM:=cO.bz hM r (bs w) he (mC h_);obtain⟨ar,cr,rfl,-,-⟩:=eP.shape hn;have hrk:(dF (cM f) f.cols).1.length=mY (cM f) f.cols:=by
  rw[(kW hlen hfs.lF).2,aW,Nat.min_eq_left (lW _ _ hlen).1]
 rw[hrk];have hle:mY (cM f) f.cols<=f.cols:=(lW _ _ hlen).2;obtain⟨nr,hnr⟩:∃nr,mY (cM f) f.cols=nr:=⟨_,rfl⟩
 rw[hnr]at hle ⊢;refine⟨(f.cols:Int)-nr,wo,((cM f).length:Int)-nr,wo,?_⟩;intro ρe we re;exact⟨_,rfl,hw.tr re.cI,.inr ⟨herr,by rw[htl];rfl⟩⟩
section
variable{S:Nat->Prop}{w:World}{v u:Value}{M:List (List Rat)}{b:List Rat}{n h0:Nat}
end
theorem Hz{w:World}(hl:dG w S vl l):du PG N.AG #[vl] w (eD w fun v' _=>∃d,v'= .bool d):=by
 have hw:cQ w.heap.size w w:=cQ.refl;obtain⟨al,cl,rfl,-,hml⟩:=hl.shape;refine Au (by simp) ?_;refine dH.mk (fun h1=>?_) (fun h1=>?_)
 ·conv=>whnf
  intro ρe we re;exact⟨_,rfl,hw.tr re.cI,_,rfl⟩
 refine dH.mk (fun h1=>?_) (fun h1=>?_)
 ·conv=>whnf
  intro ρe we re;exact⟨_,rfl,hw.tr re.cI,_,rfl⟩
 intro ρe we re;exact⟨_,rfl,hw.tr re.cI,_,rfl⟩
theorem zR{w:World}(hS:Old S w)(hf:dY w S vn vb vs f)(hl:dG w S vl l):du PG N.mL #[.agg #[vn,vb,vs],vl] w (eD w fun v' _=>v'= .int .i64 (jc f.nodes.length l)):=by
 have hw:cQ w.heap.size w w:=cQ.refl;obtain⟨an,cn,ab,cb,aq,cq,rfl,rfl,rfl,hmn,hmb,hms⟩:=hf.shape;obtain⟨al,cl,rfl,hcl,hml⟩:=hl.shape;unfold maxLen at hml;refine ph (by simp) ?_;refine dH.mk (fun h1=>?_) (fun h1=>?_)
 ·have h1:=aH h1;intro ρe we re;exact⟨_,rfl,hw.tr re.cI,by show Value.int .i64 _=_;rw[jc,if_pos (by omega)]⟩
 have h1:=aG h1
 refine⟨Nat×World×Iv,fun z=>⟨[(1,.o (.v (.slice al l.length cl))),(2,.o (.p 0 0)),(5,.o (.v (.int .i64 ((z.1:Nat):Int))))],[(0,.box T.Frame [.v (.slice an f.nodes.length cn),.v (.slice ab f.bars.length cb),.v (.slice aq f.cS.length cq)])],1,z.2.2,z.2.1⟩,fun z=>l.length-z.1,
  fun z=>z.1<=l.length∧cQ w.heap.size w z.2.1∧jc f.nodes.length l=dJ (fun _=>jE f.nodes.length) (l.take z.1) (l.drop z.1),?_,?_⟩
 ·intro O w' r3;exact⟨(0,w',[]),⟨aP _,hw.tr r3.cI,by rw[jc,aF (by omega)];rfl⟩,Sub.gn [] r3⟩
 clear hw;rintro⟨i,w1,iv⟩ ⟨hi,hw,hE⟩;dsimp only at hi hw hE ⊢;refine dH.mk (fun hib=>?_) (fun hib=>?_)
 ·have hib:i<l.length:=by simpa using hib
  obtain⟨x,hx⟩:∃x,l[i]? =some x:=⟨_,aA hib⟩
  obtain⟨adx,cs,hax,hP,-,hlx⟩:=hl.load (by decide) hx;have hP:cs=[.int .i64 x.1,.int .i64 x.2.1,.int .i64 x.2.2.1,.int .i64 x.2.2.2]:=hP;subst hP;refine cD hτ df [.x 0,.x 1,.x 2,.x 3,.x 4,.x 5,.x 6,.x 7] (by kernel_rfl) (by kernel_rfl) ?_;refine⟨adx,hax,by omega,.int .i64 x.1,fun O w' r=>?_,?_⟩
  ·obtain⟨k1,k2⟩:=hlx 0 _ rfl;rw[cJ (w:=w) (w2:=w') (by simp only[dq];exact(hw.tr r.cI).block _ (hS _ k1))];simp only[aJ,Hs]at k2 ⊢;exact k2
  refine cE hw (fun _ w' v w2=>∃d,v= .bool d∧(d=true↔iU f.nodes.length x.1)) (fun O w' r=>pW _ _ _ _ _ _ _ _ _ _ w') ?_;rintro O wa1 v1 wb1 iv1 r he hw h_ ⟨d,rfl,hd⟩;clear r
  cases d
  ·have hc:jE f.nodes.length x=6:=by
    unfold jE;rw[aF fun h=>by have:=hd.2 h;cases this]
   intro ρe we re;exact⟨_,rfl,hw.tr re.cI,by show Value.int .i64 _=_;rw[hE,cK hx hc (by decide)]⟩
  have hd:=hd.1 rfl;refine⟨adx,hax,by omega,[.int .i64 x.1,.int .i64 x.2.1,.int .i64 x.2.2.1,.int .i64 x.2.2.2],rfl,rdO hlx hw hS,?_⟩;refine bu (cE hw (fun _ w' v w2=>∃d,v= .bool d∧(d=true↔D4 x.2)) (fun O w' r=>GM x w') ?_);rintro O wa2 v2 wb2 iv2 r he hw h_ ⟨d2,rfl,hd2⟩;clear r
  cases d2
  ·have hc:jE f.nodes.length x=2:=by
    unfold jE;rw[if_pos hd,aF fun h=>by have:=hd2.2 h;cases this]
   intro ρe we re;exact⟨_,rfl,hw.tr re.cI,by show Value.int .i64 _=_;rw[hE,cK hx hc (by decide)]⟩
  have hd2:=hd2.1 rfl;have hc:jE f.nodes.length x=0:=by
   unfold jE;rw[if_pos hd];exact if_pos hd2
  rw[eY hx hc]at hE;refine⟨((i+1:Nat):Int),wo,?_⟩;intro ρ3 w6 r3;exact⟨(i+1,w6,_),⟨hib,hw.tr r3.cI,hE⟩,Sub.gn [] r3,by dsimp only;omega⟩
 have hib:i=l.length:=aQ hi (by simpa using hib);rw[fM (by omega)]at hE;intro ρe we re;exact⟨_,rfl,hw.tr re.cI,by show Value.int .i64 _=_;rw[hE]⟩
theorem sh{w:World}(hS:Old S w)(hf:dY w S vn vb vs f)(hl:dG w S vl l):du PG N.nY #[.agg #[vn,vb,vs],vl] w (eD w fun v' _=>v'= .int .i64 (iG f l)):=by
 have hw:cQ w.heap.size w w:=cQ.refl;obtain⟨an,cn,ab,cb,aq,cq,rfl,rfl,rfl,hmn,hmb,hms⟩:=hf.shape;obtain⟨al,cl,rfl,hcl,hml⟩:=hl.shape;obtain⟨e0,EE⟩:∃e,eK f=e:=⟨_,rfl⟩
 refine qk (by simp) ?_;refine bu (cE hw (fun _ w' v w2=>v= .int .i64 e0) (fun O w' r=>(Cq (oS hS r) (hf.cB (kS hw r hS))).mono fun _ _ ⟨v2,e1,e2,e3⟩=>⟨v2,e1,e2,by rw[e3,EE]⟩) ?_);rintro O wa1 v1 wb1 iv1 r he hw h_ rfl;clear r;refine dH.mk (fun he=>?_) (fun he=>?_)
 ·have he:e0≠0:=by simpa using he
  intro ρe we re;exact⟨_,rfl,hw.tr re.cI,by show Value.int .i64 _=_;rw[iG,if_pos (by rw[EE];exact he),EE]⟩
 have he:e0=0:=by simpa using he
 refine bu (cE hw (fun _ w' v w2=>v= .int .i64 (jc f.nodes.length l)) (fun O w' r=>zR (oS hS r) (hf.cB (kS hw r hS)) (hl.cB (kS hw r hS))) ?_);rintro O wa2 v2 wb2 iv2 r he hw h_ rfl;clear r he;intro ρe we re;exact⟨_,rfl,hw.tr re.cI,by show Value.int .i64 _=_;rw[iG,aF (by rw[EE,he];decide)]⟩
theorem KZ(h:eK f≠0∨f.nodes.length<=4∧f.bars.length<=6)(h0:eK f=0):FrS f:=⟨KF h0,(h.resolve_left fun e=>e h0).1,(h.resolve_left fun e=>e h0).2⟩
theorem IB{t:Int}(h:JK s t)(ht:0<=t)(j:Nat): -t<=s.getD j 0∧s.getD j 0<=t:=by
 rcases aO j s.length with hj|hj
 ·rw[getD_some (aA hj)];exact h _ (aV hj)
 ·rw[List.getD,List.getElem?_eq_none hj];show -t<=0∧0<=t;omega
theorem AY{s:List Int}{x:Ld}{t:Int}(h:JK s t)(ht:0<=t)(hx:(-1000000<=x.2.1∧x.2.1<=1000000)∧(-1000000<=x.2.2.1∧x.2.2.1<=1000000)∧(-1000000<=x.2.2.2∧x.2.2.2<=1000000)):∀k,k<=3->JK (gE s x k) (t+1000000*(k:Int))
 |0,_=>by rw[gE];simpa using h
 |k+1,hk=>by
  have ih:=AY h ht hx k (by omega);have hd: -1000000<=(J9 x).getD k 0∧(J9 x).getD k 0<=1000000:=by
   rcases(show k=0∨k=1∨k=2 by omega)with rfl|rfl|rfl
   ·exact hx.1
   ·exact hx.2.1
   ·exact hx.2.2
  have hg:=IB ih (by omega) (3*x.1+k).toNat;rw[gE,CF];exact ih.set (by omega) (by omega)
theorem AZ{n:Nat}{l:List Ld}(hok:iS n l):∀i,i<=l.length->JK (eC n l i) (3000000*(i:Int))
 |0,_=>fun z hz=>by rw[List.eq_of_mem_replicate hz];decide
 |i+1,hi=>by
  have ih:=AZ hok i (by omega);have hm:l.getD i (0,0,0,0)∈l:=by rw[getD_some (aA (show i<l.length by omega))];exact aV _
  have:=AY ih (by omega) (hok.ld _ hm).2 3 (aE _);rw[eC];intro z hz;have:=this z hz;omega
end Go.Ex
namespace Go.Ex
variable{M:List (List Rat)}{l:Nat}{g:Nat->Rat}{D p q:Rat}
structure tU(f:fT):Prop extends FrS f where
 fx:∀q∈cX f,rl q<=3
def Bl(b:List Rat):Prop:=∀t,Ib 1000000000 (b.getD t 0)
theorem Ib.w{B:Nat}(h:Ib B q)(k:B<=wt l):Ib (wt l) q:=h.mono k
theorem tV(a b:Nat)(h:a+b<=l):wt a*wt b<=wt l:=by rw[<-Ai];exact zo h
theorem Ib.sA{a b:Nat}(h:Ib (wt a) p)(k:Ib (wt b) q)(hl:a+b<=l):Ib (wt l) (p*q):=(h.mul k).mono (tV a b hl)
theorem Ib.up{a:Nat}(h:Ib (wt a) p)(hl:a<=l):Ib (wt l) p:=h.mono (zo hl)
theorem Ib.Km{a n:Nat}(hn:n<=18)(h:∀k,k<n->Ib (wt a) (g k))(hl:a+1<=l):Ib (wt l) (cR g n):=
 (Ib.sum n h).mono (ah (Nat.mul_le_mul_right _ (ah hn (by decide:18<=wt 1))) (tV 1 a (by omega)))
theorem Den.mono{K L:Nat}{l:List Rat}(h:Den K D l)(k:K<=L):Den L D l:=⟨h.1,h.2.1.mono k,fun t=>(h.2.2 t).mono k⟩
theorem Da.mono{K L:Nat}(h:Da K D M)(k:K<=L):Da L D M:=⟨h.1,h.2.1.mono k,fun i t=>(h.2.2 i t).mono k⟩
theorem CV{k n R m:Nat}(hn:n<=R)(hR:R<=4294967295)(hl:k+1<=l)(hm:l*R+1<=m):ln (fB (wt k) n)<=m∧fB (wt k) n<=wt m:=by
 have h1:=J6 (B:=wt k) (l:=l) hn (ah (Nat.mul_le_mul_right _ (ah hR (by decide:4294967295<=wt 1))) (tV 1 k (by omega)));have h2:l*n+1<=m:=ah (Nat.succ_le_succ (bW _ hn)) hm;exact⟨ah h1 h2,Nat.le_of_lt (fo.1 (ah h1 h2))⟩
section
variable{f:fT}{b x x0 c u:List Rat}
theorem FrS.Eo(h:FrS f)(hb:Bl b):Al (dX (cM f) b) (f.cols+1) (wt 1):=fun j hj=>by
 rw[eG]at hj;have hw:=fun t=>j0 (b:=b) (t:=t) (fJ f) hj;refine⟨1,by decide,Ib.one mx,fun t ht=>?_⟩;rw[bp];rcases aO t f.cols with h1|h1
 ·rw[(hw t).1 h1];exact(h.xb j t).w (by decide)
 ·rw[show t=f.cols by omega,(hw 0).2];exact(hb j).w (by decide)
theorem FrS.HR(h:FrS f):ln (fB (wt 1) (dX (cM f) b).length)<=25:=by
 rw[eG];exact(CV (l:=2) h.J7 (by decide) (by decide) (by decide)).1
theorem FrS.Kn(h:FrS f)(hb:Bl b)(h0:fU (cM f) b f.cols=some x0):∃D,Den (wt 25) D x0:=by
 obtain⟨D,hD⟩:=xZ (fJ f) (h.Eo hb) mx h0;exact⟨D,hD.mono (CV (l:=2) h.J7 (by decide) (by decide) (by decide)).2⟩
theorem FrS.Li(h:FrS f):∃D,Da (wt 13) D (cN (cM f) f.cols):=by
 obtain⟨D,hD⟩:=Is (fJ f) h.lF (by decide);exact⟨D,hD.mono (Nat.le_of_lt (fo.1 h.size))⟩
theorem FrS.J8(h:FrS f):(cN (cM f) f.cols).length<=18:=by
 have h1:=xY (fJ f);have h2:=h.I9;omega
theorem xf(f:fT):(cX f).length=f.cols:=by simp[cX,fT.cols]
theorem tU.LR(h:tU f):Den (wt 54) (lC (cX f) 18) (cX f):=HL (by rw[xf];exact h.I9) h.fx
theorem tU.HS(h:tU f)(hx:∃D,Den (wt 25) D x0):Al (dX (eI (cN (cM f) f.cols) (cX f)) (gB (cN (cM f) f.cols) (cX f) x0)) ((cN (cM f) f.cols).length+1) (wt 106):=fun i hi=>by
 rw[eG,eI,aL]at hi;obtain⟨D0,a1,a2,a3⟩:=hx;obtain⟨D1,b1,b2,b3⟩:=h.Li;obtain⟨c1,c2,c3⟩:=h.LR;have hn:=h.I9;have hw:=fun t=>j0 (b:=gB (cN (cM f) f.cols) (cX f) x0) (t:=t) (mz (cN (cM f) f.cols) (cX f)) (j:=i) (by rw[eI,aL];exact hi);refine⟨lC (cX f) 18*(D1*D1)*D0,rf (rf c1 (rf b1 b1)) a1,(((c2.sA (b2.sA b2 (aE _)) (aE _)).sA a2 (by decide))),fun t ht=>?_⟩;rcases aO t (cN (cM f) f.cols).length with h1|h1
 ·rw[(hw t).1 h1,tQ _ _ _ hi h1];unfold Ej tB;rw[<-eF];refine Ib.Km hn (fun k _=>?_) (aE _);rw[show lC (cX f) 18*(D1*D1)*D0*((cX f).getD k 0*(cd (cN (cM f) f.cols) i k*cd (cN (cM f) f.cols) t k))=(lC (cX f) 18*(cX f).getD k 0)*((D1*cd (cN (cM f) f.cols) i k)*(D1*cd (cN (cM f) f.cols) t k))*D0 by grind];exact((c3 k).sA ((b3 i k).sA (b3 t k) (aE _)) (aE _)).sA a2 (by decide)
 ·rw[show t=(cN (cM f) f.cols).length by omega,(hw 0).2,CO _ _ _ _ hi];unfold tB;rw[show lC (cX f) 18*(D1*D1)*D0* -(cR (fun t=>(cX f).getD t 0*(cd (cN (cM f) f.cols) i t*x0.getD t 0)) f.cols)= -(lC (cX f) 18*(D1*D1)*D0*cR (fun t=>(cX f).getD t 0*(cd (cN (cM f) f.cols) i t*x0.getD t 0)) f.cols) by grind,<-eF];refine(Ib.Km hn (fun k _=>?_) (aE _)).neg;rw[show lC (cX f) 18*(D1*D1)*D0*((cX f).getD k 0*(cd (cN (cM f) f.cols) i k*x0.getD k 0))=(lC (cX f) 18*(cX f).getD k 0)*((D1*cd (cN (cM f) f.cols) i k)*D1)*(D0*x0.getD k 0) by grind];exact((c3 k).sA ((b3 i k).sA b2 (aE _)) (aE _)).sA (a3 k) (by decide)
theorem tU.Ep(h:tU f){b:List Rat}:ln (fB (wt 106) (dX (eI (cN (cM f) f.cols) (cX f)) b).length)<=1927:=by
 rw[eG,eI,aL];exact(CV (l:=107) h.J8 (by decide) (by decide) (by decide)).1
theorem tU.KI(h:tU f)(hx:∃D,Den (wt 25) D x0)(hc:fU (eI (cN (cM f) f.cols) (cX f)) (gB (cN (cM f) f.cols) (cX f) x0) (cN (cM f) f.cols).length=some c):∀q∈c,rl q<=1927:=fun q hq=>by
 obtain⟨D,hD⟩:=xZ (mz _ _) (h.HS hx) mx hc;have h1:=hD.rl q hq;have h2:=h.Ep (b:=[]);rw[eG]at h2;omega
theorem Ao(h:rl q<=3):Ib (wt 3) (q.den:Rat):=⟨(q.den:Int),rfl,by have:=(Eh h).2;omega⟩
theorem HT(h:rl q<=3):Ib (wt 3) ((q.den:Rat)*q):=by rw[Eg];exact⟨q.num,rfl,Nat.le_of_lt (Eh h).1⟩
theorem Er(q:Rat):(q.den:Rat)≠0:=fun e=>by
 have:((q.den:Int):Rat)=((0:Int):Rat):=e;exact q.den_nz (by have:=Rat.intCast_inj.1 this;omega)
theorem tU.LH(h:tU f){t:Nat}(ht:t<f.cols):rl ((cX f).getD t 0)<=3:=by
 have hl:t<(cX f).length:=by rw[xf];exact ht
 rw[getD_some (aA hl)];exact h.fx _ (aV hl)
theorem tU.Ix(h:tU f)(hb:Bl b)(hbl:b.length=(cM f).length):Al (dX (jW (cM f) f.cols (cX f)) (b++tP f.cols)) ((cM f).length+f.cols+1) (wt 4):=fun j hj=>by
 rw[eG,iL]at hj;have hw:=fun t=>j0 (b:=b++tP f.cols) (t:=t) (pS (fJ f) (cX f)) (j:=j) (by rw[iL];exact hj);rcases aO j (cM f).length with h2|h2
 ·refine⟨1,by decide,Ib.one mx,fun t ht=>?_⟩;rw[bp];rcases aO t ((cM f).length+f.cols)with h1|h1
  ·rw[(hw t).1 h1];rcases aO t (cM f).length with h3|h3
   ·rw[(An h2).1 h3];exact Ib.zero _
   ·obtain⟨s,rfl⟩:∃s,t=(cM f).length+s:=⟨t-(cM f).length,by omega⟩
    rw[(An (t:=s) h2).2];exact((h.xb j s).w (by decide:2000000<=wt 1)).up (by decide)
  ·rw[show t=(cM f).length+f.cols by omega,(hw 0).2,oP];exact((hb j).w (by decide:1000000000<=wt 1)).up (by decide)
 ·obtain⟨k,rfl⟩:∃k,j=(cM f).length+k:=⟨j-(cM f).length,by omega⟩
  have hk:k<f.cols:=by omega
  have hq:=h.LH hk;refine⟨(((cX f).getD k 0).den:Rat),Er _,(Ao hq).up (by decide),fun t ht=>?_⟩;rcases aO t ((cM f).length+f.cols)with h1|h1
  ·rw[(hw t).1 h1];rcases aO t (cM f).length with h3|h3
   ·rw[(xc (t:=t) hk).1 h3];exact(Ao hq).sA ((h.xb t k).w (by decide:2000000<=wt 1)) (by decide)
   ·obtain⟨s,rfl⟩:∃s,t=(cM f).length+s:=⟨t-(cM f).length,by omega⟩
    rw[(xc (t:=s) hk).2 (by omega)];split
    ·exact(HT hq).up (by decide)
    ·rw[bA];exact Ib.zero _
  ·rw[show t=(cM f).length+f.cols by omega,(hw 0).2,oP,iY (l:=b) (by omega),bA];exact Ib.zero _
theorem tU.HU(h:tU f)(hb:Bl b)(hbl:b.length=(cM f).length)(hx:iZ (cM f) f.cols (fun t=>(cX f).getD t 0) b x):∃D,Den (wt 151) D x:=by
 obtain⟨u,hu⟩:=hx.Kk (fJ f);obtain⟨s1,s2⟩:=HP (fJ f) hbl hx hu;obtain⟨z,hz⟩:=j1 (pS (fJ f) (cX f)) s2;have h1:=HQ (fJ f) hbl hz;have h2:=h.vD.one hx h1;obtain⟨D,d1,d2,d3⟩:=xZ (pS (fJ f) (cX f)) (h.Ix hb hbl) mx hz;have h3:fB (wt 4) (jW (cM f) f.cols (cX f)).length<=wt 151:=by
  rw[iL];have h1:=h.I9;have h2:=h.J7;exact(CV (l:=5) (R:=30) (by omega) (by decide) (by decide) (by decide)).2
 refine⟨D,d1,d2.mono h3,fun t=>?_⟩;rw[h2,List.getD,List.getElem?_drop,<-List.getD];exact(d3 _).mono h3
theorem tU.Es(h:tU f)(hb:Bl b)(hbl:b.length=(cM f).length)(hx:iZ (cM f) f.cols (fun t=>(cX f).getD t 0) b x):∀q∈x,rl q<=152:=fun q hq=>by
 obtain⟨D,hD⟩:=h.HU hb hbl hx;have:=hD.rl q hq;have h2:ln (wt 151)<=152:=fo.2 (Gi (by decide));omega
theorem tU.Ft(h:tU f)(hxl:x.length=f.cols)(hx:∃D,Den (wt 151) D x):Al (dX (eN (cM f) f.cols) (dC (eh x (cX f)) (-1))) ((cM f).length+1) (wt 156):=fun j hj=>by
 rw[eG,eJ]at hj;obtain⟨D,d1,d2,d3⟩:=hx;have hq:=h.LH hj;have hw:=fun t=>j0 (b:=dC (eh x (cX f)) (-1)) (t:=t) (iK (cM f) f.cols) (j:=j) (by rw[eJ];exact hj);refine⟨(((cX f).getD j 0).den:Rat)*D,rf (Er _) d1,(Ao hq).sA d2 (by decide),fun t ht=>?_⟩;rcases aO t (cM f).length with h1|h1
 ·rw[(hw t).1 h1,mJ hj];exact((Ao hq).sA d2 (aE _)).sA ((h.xb t j).w (by decide:2000000<=wt 1)) (by decide)
 ·rw[show t=(cM f).length by omega,(hw 0).2,xd x _ hxl hj,show(((cX f).getD j 0).den:Rat)*D* -((cX f).getD j 0*x.getD j 0)= -(((((cX f).getD j 0).den:Rat)*(cX f).getD j 0)*(D*x.getD j 0)) by grind];exact((HT hq).sA (d3 j) (by decide)).neg
theorem tU.Df(h:tU f){b:List Rat}:ln (fB (wt 156) (dX (eN (cM f) f.cols) b).length)<=2827:=by
 rw[eG,eJ];exact(CV (l:=157) h.I9 (by decide) (by decide) (by decide)).1
end
end Go.Ex
