/- Texts X164 to L44: lemmas, each with its conditions. -/
import Derived.Test.YtgkpbdkechfgmaaGreatP10
set_option maxHeartbeats 2000000
namespace Go.Sx
open Go Go.Ex Go.Proofs
variable{vs:List Value}{O:Nat->Sx.da}
theorem Sub.Nj{B nx:Nat}{l:Env}{H:Hp}{iv:Iv}{w J:World}{t:Ai}(id:Nat){bt:Nat}(Oh:cw H id=some (.box bt (vs.map At.v)))(r:Rel H nx iv B w O J)
  (h:Rel ((id,.arr bt vs)::H) nx iv B w O J->Sx.Sub B l nx O J t):Sx.Sub B l nx O J t:=by
 have hnn:=r.nn id _ Oh (by intros;simp) bv;have Oz:=r.box id bt _ Oh;have R6:(vs.map At.v).map (At.den O)=vs:=by
  rw[List.map_map];exact List.map_id _
 rw[R6]at Oz
 exact h (r.store (b':=.arr bt vs) (H':=(id,.arr bt vs)::H) (I:=J) Oh bv hnn (fun j=>by
  rw[dA];by_cases hj:id=j
  .subst hj;simp
  .rw[aF hj,aF (fun h=>hj h.symm)]) rfl rfl rfl rfl (fun _ _=>rfl) ⟨hnn,Oz⟩ trivial)
end Go.Sx
namespace Go.Ex
open Go Go.Sx Go.Proofs
section
variable{after:Array Edge}{L:List (List Ld)}{fs:List Int}{j:Nat}{S:Nat->Prop}{guard:Option (Nat×Bool)}{dst:Option Tmp}{F':SV->Hp->Nat->Iv->World->Prop}{u:Value}{w:World}
theorem FZ{P:Program}{B nx:Nat}{l:Env}{H:Hp}{iv:Iv}{t ty len e sz:Nat}{x i:Operand}{pos:String}{vx:SV}{L:Array Value}{k:IntKind}{m:Int}
  (hu:P.underlying t=some (.array len e)) (hs:∀w,(sizeOf e).run P w= .ok sz w) (hp:∀w:World,(part e L (m.toNat*sz)).run P w= .ok u w) (G:ev l x=some vx) (TP:∀O,vx.den O= .agg L) (D:ev l i=some (.o (.v (.int k m)))) (hm:0<=m/\m<len)
  (hK:∀O J,Rel H nx iv B w O J->F' (.o (.v u)) H nx iv J):xK P B ⟨dst,.index t x i,ty,pos,after,guard⟩ l H nx iv w F':=by
 refine⟨fun O J ev' r Pz=>⟨u,J,iv,.inl ?_,r.here,hK O J r⟩⟩;have e1:ev' x= .agg L:=by rw[Pz x _ G,TP]
 have e2:ev' i= .int k m:=Pz i _ D;simp[execOp,e1,e2,Instr.index,asIntOf,run_underlying hu,hm.1,hm.2,hs,hp]
def zc(z:Nat->Int):List Value:=(List.range 80).map fun j=>iV (z j)
theorem uz(z:Nat->Int):(zc z).length=80:=by rw[zc,aM,List.length_range]
theorem Gq(z:Nat->Int)(h:j<80):(zc z)[j]? =some (iV (z j)):=by rw[zc,aO,bf h];rfl
theorem Fa(z:Nat->Int)(v:Int)(h:j<80):(zc z).take j++[iV v]++(zc z).drop (j+1)=zc (q8 z j v):=by
 rw[iu (by rw[uz];exact h)];have:=congrArg (List.map (Value.int .i64)) (Ik z v h);rw[List.map_set,List.map_map,List.map_map]at this;exact this
theorem M7{z z2:Nat->Int}(h:∀j,z j=z2 j):zc z=zc z2:=by rw[show z=z2 from funext h]
theorem Hq(z:Nat->Int){n:Nat}(Z:n<20)(w:World):(part T.gV (zc z).toArray ((n:Int).toNat*4)).run PG w= .ok (.agg #[iV (z (4*n)),iV (z (4*n+1)),iV (z (4*n+2)),iV (z (4*n+3))]) w:=by
 have Y:=(hτ T.gV _ rfl).isAgg w;have X:=(hτ T.gV _ rfl).sizeOf w;simp only[part,Sem.run_bind,Y,Result.andThen,if_true]
 simp only[Sem.run_bind,X,Result.andThen,aJ]
 have N:(zc z).extract (n*4) (n*4+4)=[iV (z (4*n)),iV (z (4*n+1)),iV (z (4*n+2)),iV (z (4*n+3))]:=by
  refine bY fun i=>?_;rw[List.extract_eq_take_drop,List.getElem?_take];split<;>rename_i D
  .rw[List.getElem?_drop,Gq z be,bU];rcases(show i=0\/i=1\/i=2\/i=3 by omega)with rfl|rfl|rfl|rfl<;>rfl
  .rw[List.getElem?_eq_none (by simp;omega)]
 rw[List.extract_toArray,N];rfl
theorem LI(p0 p1 p2 p3 q0 q1 q2 q3:Int)(w:World):(Op.equal T.gV (.agg #[iV p0,iV p1,iV p2,iV p3]) (.agg #[iV q0,iV q1,iV q2,iV q3])).run PG w= .ok (decide (p0=q0/\p1=q1/\p2=q2/\p3=q3)) w:=by
 have h:=run_underlying Tryz.underlying141;simp only[Op.equal,Op.maxDepth]
 unfold Op.equalIn;have a0:=eB (L:= #[iV p0,iV p1,iV p2,iV p3]) (j:=0) rfl;have a1:=eB (L:= #[iV p0,iV p1,iV p2,iV p3]) (j:=1) rfl;have a2:=eB (L:= #[iV p0,iV p1,iV p2,iV p3]) (j:=2) rfl;have a3:=eB (L:= #[iV p0,iV p1,iV p2,iV p3]) (j:=3) rfl;have b0:=eB (L:= #[iV q0,iV q1,iV q2,iV q3]) (j:=0) rfl;have b1:=eB (L:= #[iV q0,iV q1,iV q2,iV q3]) (j:=1) rfl;have b2:=eB (L:= #[iV q0,iV q1,iV q2,iV q3]) (j:=2) rfl;have b3:=eB (L:= #[iV q0,iV q1,iV q2,iV q3]) (j:=3) rfl;simp[h,a0,a1,a2,a3,b0,b1,b2,b3,eq_int 9998];by_cases h0:p0=q0
 .by_cases Y:p1=q1
  .by_cases X:p2=q2
   .by_cases N:p3=q3<;>simp[h0,Y,X,N]
   .simp[h0,Y,X]
  .simp[h0,Y]
 .simp[h0]
abbrev EC(x:Ld):Value:=.agg #[iV x.1,iV x.2.1,iV x.2.2.1,iV x.2.2.2]
theorem Hr(x y:Ld):(x.1=y.1/\x.2.1=y.2.1/\x.2.2.1=y.2.2.1/\x.2.2.2=y.2.2.2)↔x=y:=by
 obtain⟨a,b,c,d⟩:=x;obtain⟨a2,b2,c2,d2⟩:=y;simp
theorem ED(x y:Ld)(w:World)(o1 o2:Operand):(do eqGuard .neq T.gV o1 o2 (EC x) (EC y);binOp .neq T.gV (EC x) (EC y)).run PG w= .ok (.bool (!decide (x=y))) w:=by
 have h:=LI x.1 x.2.1 x.2.2.1 x.2.2.2 y.1 y.2.1 y.2.2.1 y.2.2.2 w;rw[show decide (x.1=y.1/\x.2.1=y.2.1/\x.2.2.1=y.2.2.1/\x.2.2.2=y.2.2.2)=decide (x=y)from decide_eq_decide.2 (Hr x y)]at h;simp[eqGuard,binOp,h]
theorem Jn:PG.underlying 152=some (.array 20 T.gV):=Tryz.underlying152
abbrev Jo:=eH (cU)
theorem Jp(xs:List Value)(O:Nat->Sx.da):SV.den O (.a (xs.map At.v))= .agg xs.toArray:=by
 rw[SV.den,List.map_map];congr 2;exact List.map_id _
theorem dD.one{L:List Value}{x:Ld}(h:dD w S L x):∀u∈L,u.oneCell'=true:=fun u hu=>by
 have h:L=[iV x.1,iV x.2.1,iV x.2.2.1,iV x.2.2.2]:=h;subst h;simp at hu;rcases hu with rfl|rfl|rfl|rfl<;>rfl
theorem CR(n:Int)(w:World):eC PG Fn.ko #[iV n,iV 100] w (eI w fun v' _=>∃d,v'= .bool d/\(d=true↔ -100<=n/\n<=100)):=by
 have V:=bR w;refine ll bv ?_;refine⟨-100,bi,?_⟩;apply bS<;>intro Y
 .intro GT we re;have Y:=aE Y;exact⟨_,rfl,V.tr re.cN,_,rfl,by rw[decide_eq_true_iff];exact⟨fun h=>⟨Y,h⟩,fun h=>h.2⟩⟩
 .intro GT we re;have Y:=aC Y;exact⟨_,rfl,V.tr re.cN,_,rfl,(fun h=>by cases h),fun h=>absurd h.1 Y⟩
theorem Hs{v:Value}{e0:Int}(U:Old S w)(hC:Jo w S v L)(hF:tf w S u fs)(OJ:e0=iO L fs):
  eC PG Fn.pC #[v,u] w (eI w fun v' I=>(e0≠0/\v'= .tuple #[nls,iV e0])\/(e0=0/\∃vr,v'= .tuple #[vr,iV 0]/\cU I (Nf w I) vr (fF (fK L fs L.length) 20))):=by
 have V:=bR w;obtain⟨ac,cc,rfl,-,UP⟩:=eH.shape hC;obtain⟨af,cf,rfl,-,hmf⟩:=hF.shape;unfold maxLen at UP hmf;refine tP bv ?_;apply bS<;>intro Y
 .have Y:=aE Y;have OC:iO L fs=8:=by rw[iO,aH be]
  exact rtn V fun GT we re=>.inl ⟨by rw[OJ,OC];decide,by rw[OJ,OC];rfl⟩
 have Y:=aC Y;have h16:¬16<L.length:=by omega
 apply bS<;>intro X
 .have X:fs.length≠L.length:=by intro h;rw[h]at X;simp at X
  have OC:iO L fs=11:=by rw[iO,aF h16,aH X]
  exact rtn V fun GT we re=>.inl ⟨by rw[OJ,OC];decide,by rw[OJ,OC];rfl⟩
 have X:=(show (fs.length:Int)=(L.length:Int)from(by simpa using X))
 have hlen:fs.length=L.length:=by omega
 have PE:¬fs.length≠L.length:=fun h=>h hlen
 refine⟨Nat×World×Iv,fun z=>⟨[(0,sV ac L.length cc),(1,sV af fs.length cf),(28,sV af fs.length cf),(29,iZ fs.length),(30,iN z.1)],[],0,z.2.2,z.2.1⟩,fun z=>fs.length-z.1,
  fun z=>z.1<=fs.length/\Bq w z.2.1/\cX (fun _=>Bi) [] fs=cX (fun _=>Bi) (fs.take z.1) (fs.drop z.1),?_,?_⟩
 .intro O J A;exact⟨(0,J,_),⟨aP _,V.tr A.cN,rfl⟩,sbgn [] A⟩
 rintro⟨i,w1,iv⟩ ⟨D,V,hE⟩;dsimp only at D V hE ⊢;apply bS<;>intro Ny
 .have Ny:=dL Ny;obtain⟨x,G⟩:=gO fs i;obtain⟨adx,Od,hSx,OZ⟩:=tf.at hF G;refine⟨adx,Od,be,iV x,rd1 OZ V (U _ hSx),?_⟩;refine cD (cE V (fun _ J v I=>∃d,v= .bool d/\(d=true↔ -100<=x/\x<=100)) (fun O J r=>CR x J) ?_);rintro O Ph v1 Pa OK r R V h_ ⟨d1,rfl,OG⟩
  cases d1
  .have OG:¬(-100<=x/\x<=100):=fun h=>by have:=OG.2 h;cases this
   have hf2:cX (fun _=>Bi) [] fs≠0:=by rw[hE,cJ G (show Bi x=2 by rw[Bi,aF OG]) bi];decide
   have OC:iO L fs=2:=by rw[iO,aF h16,aF PE,aH hf2]
   exact rtn V fun GT we re=>.inl ⟨by rw[OJ,OC];decide,by rw[OJ,OC];rfl⟩
  have OG:=OG.1 rfl;rw[dH G (show Bi x=0 by rw[Bi,aH OG])]at hE;refine inc i ?_;intro IR w6 A;exact⟨(i+1,w6,_),⟨Ny,V.tr A.cN,hE⟩,sbgn [] A,dec Ny⟩
 have Ny:=dE D Ny;rw[dy be]at hE;have hfac:∀(k:Nat) x,fs[k]? =some x-> -100<=x/\x<=100:=fun k x E=>by
  have h:=fL hE k x E;unfold Bi at h;split at h<;>rename_i X
  .exact X
  .cases h
 have SE:¬cX (fun _=>Bi) [] fs≠0:=fun h=>h hE
 refine⟨Nat×World×Iv,fun z=>⟨[(0,sV ac L.length cc),(1,sV af fs.length cf),(38,sV ac L.length cc),(39,iZ L.length),(40,iN z.1)],[],0,z.2.2,z.2.1⟩,fun z=>L.length-z.1,
  fun z=>z.1<=L.length/\Bq w z.2.1/\cX (fun _=>jH 20) [] L=cX (fun _=>jH 20) (L.take z.1) (L.drop z.1),?_,?_⟩
 .intro O J A;exact⟨(0,J,_),⟨aP _,V.tr A.cN,rfl⟩,sbgn [] A⟩
 rintro⟨i,w1,iv⟩ ⟨D,V,hE⟩;dsimp only at D V hE ⊢;apply bS<;>intro Ny
 .have Ny:=dL Ny;obtain⟨x,G⟩:=gO L i;obtain⟨adm,um,Qh,PD,km1,km2⟩:=eH.load hC G;obtain⟨al,cl,rfl,-,Qo⟩:=PD.shape;refine⟨adm,Qh,be,.slice al x.length cl,rd1 km2 V (U _ km1),?_⟩;refine cD (cE V (pE (iV (jH 20 x))) (fun O J r=>qz (oS U r) (cU.cK PD (kS V r U))) ?_);rintro O Ph v1 Pa OK r R V h_ rfl;obtain⟨e,R⟩:=exq (jH 20 x);rw[R];apply bS<;>intro hd
  .have hd:e≠0:=by simpa using hd
   have RU:cX (fun _=>jH 20) [] L=e:=by rw[hE];exact cJ G R hd
   have OC:iO L fs=e:=by rw[iO,aF h16,aF PE,aF SE,aH (by rw[RU];exact hd),RU]
   exact rtn V fun GT we re=>.inl ⟨by rw[OJ,OC];exact hd,by rw[OJ,OC];rfl⟩
  have hd:e=0:=by simpa using hd
  subst hd;rw[dH (e:=fun _=>jH 20) G R]at hE;refine inc i ?_;intro IR w6 A;exact⟨(i+1,w6,_),⟨Ny,V.tr A.cN,hE⟩,sbgn [] A,dec Ny⟩
 have Ny:=dE D Ny;rw[dy be]at hE;have hcas:∀(k:Nat) l,L[k]? =some l->zT 20 l:=fun k l E=>xU (fL hE k l E);have Sv:¬cX (fun _=>jH 20) [] L≠0:=fun h=>h hE
 refine⟨Nat×World,fun z=>⟨[(0,sV ac L.length cc),(1,sV af fs.length cf),(11,pP 0 0),(50,sV ac L.length cc),(51,iZ L.length),(52,iN z.1)],[(0,.arr 152 (zc (zf (fK L fs z.1))))],1,iv,z.2⟩,fun z=>L.length-z.1,
  fun z=>z.1<=L.length/\Bq w z.2/\MH (fK L fs z.1) (20000000000*z.1),?_,?_⟩
 .intro O J A;exact⟨(0,J),⟨aP _,V.tr A.cN,fun n=>by simp[fK]⟩,Sub.Nj 0 (vs:=zc fun _=>0) rfl A fun r4=>sbgn [] r4 ⟨by dsimp only;rw[show zf (fK L fs 0)=fun _=>0 from funext fun j=>by unfold zf fK;simp];rfl,trivial⟩⟩
 rintro⟨c,w1⟩ ⟨D,V,hB⟩;dsimp only at D V hB ⊢;apply bS<;>intro Ny
 .have Ny:=dL Ny;obtain⟨l,hl⟩:=gO L c;obtain⟨fa,hfa⟩:=gO fs c;have PM:=hfac c fa hfa;have OE:=hcas c l hl;have VG:=OE.len;obtain⟨adf,haf,UE,SW⟩:=tf.at hF hfa;have PI:fK L fs (c+1)=ma (fK L fs c) fa l l.length:=by rw[fK,show L.getD c []=l by rw[List.getD,hl];rfl,show fs.getD c 0=fa by rw[List.getD,hfa];rfl]
  obtain⟨adm,um,Qh,PD,km1,km2⟩:=eH.load hC hl;obtain⟨al,cl,rfl,-,Qo⟩:=PD.shape
  refine⟨adm,Qh,be,.slice al l.length cl,rd1 km2 V (U _ km1),Nat×World,fun z=>⟨[(0,sV ac L.length cc),(1,sV af fs.length cf),(11,pP 0 0),(12,iN c),(50,sV ac L.length cc),(51,iZ L.length),(52,iN c),(57,sV al l.length cl),(58,iZ l.length),(59,iN z.1)],[(0,.arr 152 (zc (zf (ma (fK L fs c) fa l z.1))))],1,iv,z.2⟩,fun z=>l.length-z.1,
   fun z=>z.1<=l.length/\Bq w z.2/\MH (ma (fK L fs c) fa l z.1) (20000000000*c+100000000*z.1),?_,?_⟩
  .intro O J A;exact⟨(0,J),⟨aP _,V.tr A.cN,by simpa [ma]using hB⟩,sbgn [] A⟩
  rintro⟨k,w3⟩ ⟨E,V,hB⟩;dsimp only at E V hB ⊢;apply bS<;>intro OA
  .have OA:=dL OA;obtain⟨x,G⟩:=gO l k;obtain⟨Ub,hxb⟩:=OE.ld x (aG G);obtain⟨n,Z⟩:=Int.eq_ofNat_of_zero_le Ub.1;have hn20:n<20:=by omega
   obtain⟨adx,csx,Od,hP,-,OZ⟩:=PD.load bi G;have hP:csx=[iV x.1,iV x.2.1,iV x.2.2.1,iV x.2.2.2]:=hP;subst hP;rw[Z]at OZ;have Uh:ma (fK L fs c) fa l (k+1)=rU (ma (fK L fs c) fa l k) fa x:=by rw[ma,show l.getD k (0,0,0,0)=x by rw[List.getD,G];rfl]
   have hB2:=hB.add (x:=x) PM hxb;obtain⟨s,hs⟩:=exq (ma (fK L fs c) fa l k);rw[hs]at hB hB2 Uh ⊢;have hbn:=hB n;obtain⟨z0,z1,z2,z3⟩:=DS s n;obtain⟨⟨q1,q2⟩,⟨q3,q4⟩,q5,q6⟩:=hxb;have m1:=nN PM.1 PM.2 q1 q2;have m2:=nN PM.1 PM.2 q3 q4;have m3:=nN PM.1 PM.2 q5 q6;refine⟨adx,Od,be,[iV (n:Int),iV x.2.1,iV x.2.2.1,iV x.2.2.2],rfl,rdO OZ V U,be,?_⟩;refine dP (idO 15) ?_;refine⟨iV (s n).1,by rw[show ∀m,0+(n:Int).toNat*4+m=4*n+m from fun m=>be,Gq _ be];rw[z1],adf,haf,be,iV fa,rd1 SW V (U _ UE),fa*x.2.1,wo,(s n).1+fa*x.2.1,wo,by rw[uz];omega,zc (q8 (zf s) (4*n+1) ((s n).1+fa*x.2.1)),?_,?_⟩
   .rw[show ∀m,0+(n:Int).toNat*4+m=4*n+m from fun m=>by omega];exact Fa _ _ be
   refine dP (idO 15) ?_;refine⟨iV (s n).2.1,by rw[show ∀m,0+(n:Int).toNat*4+m=4*n+m from fun m=>be,Gq _ be];simp[q8,z2],adf,haf,be,iV fa,rd1 SW V (U _ UE),fa*x.2.2.1,wo,(s n).2.1+fa*x.2.2.1,wo,by rw[uz];omega,zc (q8 ((q8 (zf s) (4*n+1) ((s n).1+fa*x.2.1))) (4*n+2) ((s n).2.1+fa*x.2.2.1)),?_,?_⟩
   .rw[show ∀m,0+(n:Int).toNat*4+m=4*n+m from fun m=>by omega];exact Fa _ _ be
   refine dP (idO 15) ?_;refine⟨iV (s n).2.2,by rw[show ∀m,0+(n:Int).toNat*4+m=4*n+m from fun m=>be,Gq _ be];simp[q8,z3],adf,haf,be,iV fa,rd1 SW V (U _ UE),fa*x.2.2.2,wo,(s n).2.2+fa*x.2.2.2,wo,by rw[uz];omega,zc (q8 ((q8 ((q8 (zf s) (4*n+1) ((s n).1+fa*x.2.1))) (4*n+2) ((s n).2.1+fa*x.2.2.1))) (4*n+3) ((s n).2.2+fa*x.2.2.2)),?_,?_⟩
   .rw[show ∀m,0+(n:Int).toNat*4+m=4*n+m from fun m=>by omega];exact Fa _ _ be
   rw[M7 (MI s fa x Z)];refine inc k ?_;intro IR w6 A;exact⟨(k+1,w6),⟨OA,V.tr A.cN,by dsimp only;rw[Uh];exact fun n=>by have:=hB2 n;omega⟩,sbgn [] A ⟨by dsimp only;rw[Uh];rfl,trivial⟩,dec OA⟩
  have OA:=dE E OA;subst OA;rw[<-PI]at hB ⊢;refine inc c ?_;intro IR w6 A;exact⟨(c+1,w6),⟨Ny,V.tr A.cN,fun n=>by have:=hB n;dsimp only;omega⟩,sbgn [] A,dec Ny⟩
 have Ny:=dE D Ny;subst Ny;obtain⟨s,hs⟩:=exq (fK L fs L.length);rw[hs]at hB ⊢
 refine⟨zc (zf s),by rw[List.drop_zero,bF (by rw[uz];exact aN _)],uz _,Nat×List (List Value)×World×Iv,fun z=>⟨[(17,.o (.w 1 z.2.1.length)),(110,.a ((zc (zf s)).map At.v)),(111,iN z.1)],[(1,.vec T.gV 4 z.2.1.flatten)],2,z.2.2.2,z.2.2.1⟩,fun z=>20-z.1,
  fun z=>z.1<=20/\Bq w z.2.2.1/\dR 4 dD z.2.2.1 S z.2.1 (fF s z.1)/\cX (fun _=>zt s) [] (List.range 20)=cX (fun _=>zt s) ((List.range 20).take z.1) ((List.range 20).drop z.1),?_,?_⟩
 .intro O J r;exact⟨(0,[],J,_),⟨aP _,V.tr r.cN,dR.nil,rfl⟩,Sub.nil 17 T.gV 4 rfl (by simp[kL,SV.sc,At.sc,fp]) r fun Id r1=>sbgn [] r1⟩
 rintro⟨n,W,w4,iv⟩ ⟨D,V,hG,hE⟩;dsimp only at D V hG hE ⊢;have OL:=ed hG.wid;have OR:W.length<=n:=by rw[hG.len];exact rV s n
 apply bS<;>intro Ny
 .have Ny:n<20:=by have:=aE Ny;omega
  have hr:(List.range 20)[n]? =some n:=bf Ny;obtain⟨z0,z1,z2,z3⟩:=DS s n;obtain⟨a0,Q4⟩:=exq ((s n).1);obtain⟨a1,Qk⟩:=exq ((s n).2.1);obtain⟨a2,Pu⟩:=exq ((s n).2.2);have RB:s n=(a0,a1,a2):=by rw[<-Q4,<-Qk,<-Pu]
  have hpt:=Hq (zf s) Ny;rw[z0,z1,z2,z3,Q4,Qk,Pu]at hpt;refine FZ (sz:=4) Jn (fun w=>(hτ T.gV _ rfl).sizeOf w) hpt rfl (Jp (zc (zf s))) rfl ⟨be,be⟩ (fun O w4 r=>?_);replace V:=V.tr r.cN;refine cD (cE V (fun _ J v I=>∃d,v= .bool d/\(d=true↔jx a0)) (fun O J r=>ig _ J) ?_);rintro O _ _ _ OK r R V h_ ⟨d0,rfl,OM⟩
  cases d0
  .have OM:¬jx a0:=fun h=>by have:=OM.2 h;cases this
   have PY:cX (fun _=>zt s) [] (List.range 20)=8:=by rw[hE];exact cJ hr (show zt s n=8 by rw[zt,RB,aF (fun h=>OM h.1)]) bi
   have OC:iO L fs=8:=by rw[iO,aF h16,aF PE,aF SE,aF Sv,hs,PY]
   exact rtn V fun GT we re=>.inl ⟨by rw[OJ,OC];decide,by rw[OJ,OC];rfl⟩
  replace OM:=OM.1 rfl;refine cD (cE V (fun _ J v I=>∃d,v= .bool d/\(d=true↔jx a1)) (fun O J r=>ig _ J) ?_);rintro O _ _ _ OH r R V h_ ⟨d1,rfl,OG⟩
  cases d1
  .have OG:¬jx a1:=fun h=>by have:=OG.2 h;cases this
   have PY:cX (fun _=>zt s) [] (List.range 20)=8:=by rw[hE];exact cJ hr (show zt s n=8 by rw[zt,RB,aF (fun h=>OG h.2.1)]) bi
   have OC:iO L fs=8:=by rw[iO,aF h16,aF PE,aF SE,aF Sv,hs,PY]
   exact rtn V fun GT we re=>.inl ⟨by rw[OJ,OC];decide,by rw[OJ,OC];rfl⟩
  replace OG:=OG.1 rfl;refine cD (cE V (fun _ J v I=>∃d,v= .bool d/\(d=true↔jx a2)) (fun O J r=>ig _ J) ?_);rintro O _ _ _ OW r R V h_ ⟨d2,rfl,OQ⟩
  cases d2
  .have OQ:¬jx a2:=fun h=>by have:=OQ.2 h;cases this
   have PY:cX (fun _=>zt s) [] (List.range 20)=8:=by rw[hE];exact cJ hr (show zt s n=8 by rw[zt,RB,aF (fun h=>OQ h.2.2)]) bi
   have OC:iO L fs=8:=by rw[iO,aF h16,aF PE,aF SE,aF Sv,hs,PY]
   exact rtn V fun GT we re=>.inl ⟨by rw[OJ,OC];decide,by rw[OJ,OC];rfl⟩
  replace OQ:=OQ.1 rfl;rw[dH hr (show zt s n=0 by rw[zt,RB,aH ⟨OM,OG,OQ⟩])]at hE;refine⟨!decide (((0:Int),a0,a1,a2)=(0,0,0,0)),fun O w o1 o2=>ED (0,a0,a1,a2) (0,0,0,0) w o1 o2,?_⟩;apply bS<;>intro hd
  .have hd:¬(s n=(0,0,0)):=by
    intro h;rw[RB]at h;injection h with Y X;injection X with X N;subst Y X N;simp at hd
   have PI:fF s (n+1)=fF s n++[((n:Int),a0,a1,a2)]:=by rw[fF,aF hd,RB]
   have PF:=hG.push (L:=[iV (n:Int),iV a0,iV a1,iV a2]) (q:=((n:Int),a0,a1,a2)) rfl rfl;rw[<-PI]at PF;have OV:W.flatten++([iV (n:Int),iV a0,iV a1,iV a2]:List Value)=(W++([[iV (n:Int),iV a0,iV a1,iV a2]]:List (List Value))).flatten:=by simp
   refine .inl ?_;refine⟨be,be,mx,((n+1:Nat):Int),wo,?_⟩;intro IR w6 A;exact⟨(n+1,W++([[iV (n:Int),iV a0,iV a1,iV a2]]:List (List Value)),w6,_),⟨Ny,V.tr A.cN,dR.map (P:=dD) (P':=dD) (I:=w6) (S':=S) PF fun _ _ h=>h,hE⟩,sbgn [(1,4)] A ⟨by dsimp only;rw[<-OV];rfl,trivial⟩ ⟨by dsimp only;rw[l1];rfl,rfl,rfl,trivial⟩,dec Ny⟩
  have hd:s n=(0,0,0):=by
   rw[RB];have h:((0:Int),a0,a1,a2)=(0,0,0,0):=by simpa using hd
   injection h with _ h
  have PI:fF s (n+1)=fF s n:=by rw[fF,aH hd]
  rw[<-PI]at hG;refine inc n ?_;intro IR w6 A;exact⟨(n+1,W,w6,_),⟨Ny,V.tr A.cN,dR.map (P:=dD) (P':=dD) (I:=w6) (S':=S) hG fun _ _ h=>h,hE⟩,sbgn [] A,dec Ny⟩
 have Ny:n=20:=by have:=aC Ny;omega
 subst Ny;rw[dy bv]at hE;have OC:iO L fs=0:=by rw[iO,aF h16,aF PE,aF SE,aF Sv,hs,hE]
 intro GT we re;have h5:=re.iq (id:=1) (sz:=4) (m:=W.length) rfl OL mx bi (hG.one fun L q h=>dD.one h);exact⟨_,rfl,V.tr re.cN,.inr ⟨by rw[OJ,OC],_,rfl,dR.list (hG.map fun L q h=>h) (h5.cF fun g F=>.inr F)⟩⟩
end
variable{L:List (List Ld)}{fs:List Int}{S:Nat->Prop}{w:World}
theorem BP(x:Ld)(w:World):eC PG Fn.tF #[EC x] w (eI w fun v' _=>∃d,v'= .bool d/\(d=true↔zq x.2)):=by
 have V:=bR w;obtain⟨x0,x1,x2,x3⟩:=x;refine wZ bv ?_;refine cD (cE V (fun _ J v I=>∃d,v= .bool d/\(d=true↔ -1000000<=x1/\x1<=1000000)) (fun O J r=>fm _ _ _ J) ?_);rintro O _ _ _ OK r R V h_ ⟨d0,rfl,OM⟩
 cases d0
 .have OM:¬jx x1:=fun h=>by have:=OM.2 h;cases this
  exact rtn V fun GT we re=>⟨_,rfl,(fun h=>by cases h),fun h=>absurd h.1 OM⟩
 replace OM:jx x1:=OM.1 rfl;refine cD (cE V (fun _ J v I=>∃d,v= .bool d/\(d=true↔ -1000000<=x2/\x2<=1000000)) (fun O J r=>fm _ _ _ J) ?_);rintro O _ _ _ OH r R V h_ ⟨d1,rfl,OG⟩
 cases d1
 .have OG:¬jx x2:=fun h=>by have:=OG.2 h;cases this
  exact rtn V fun GT we re=>⟨_,rfl,(fun h=>by cases h),fun h=>absurd h.2.1 OG⟩
 replace OG:jx x2:=OG.1 rfl;refine cD (cE V (fun _ J v I=>∃d,v= .bool d/\(d=true↔ -1000000<=x3/\x3<=1000000)) (fun O J r=>fm _ _ _ J) ?_);rintro O _ _ _ OW r R V h_ ⟨d2,rfl,OQ⟩
 cases d2
 .have OQ:¬jx x3:=fun h=>by have:=OQ.2 h;cases this
  exact rtn V fun GT we re=>⟨_,rfl,(fun h=>by cases h),fun h=>absurd h.2.2 OQ⟩
 replace OQ:jx x3:=OQ.1 rfl;exact rtn V fun GT we re=>⟨_,rfl,fun _=>⟨OM,OG,OQ⟩,fun _=>rfl⟩
theorem Hu{v u:Value}{e0:Int}(U:Old S w)(hC:Jo w S v L)(hF:tf w S u fs)(OJ:e0=iO L fs):
  eC PG Fn.tB #[v,u] w (eI w fun v' I=>(e0≠0/\v'= .tuple #[nls,iV e0])\/(e0=0/\∃vr,v'= .tuple #[vr,iV 0]/\cU I (Nf w I) vr (fF (fK L fs L.length) 20))):=by
 have V:=bR w;obtain⟨ac,cc,rfl,-,UP⟩:=eH.shape hC;obtain⟨af,cf,rfl,-,hmf⟩:=hF.shape;unfold maxLen at UP hmf;refine wU bv ?_;apply bS<;>intro Y
 .have Y:=aE Y;have OC:iO L fs=8:=by rw[iO,aH be]
  exact rtn V fun GT we re=>.inl ⟨by rw[OJ,OC];decide,by rw[OJ,OC];rfl⟩
 have Y:=aC Y;have h16:¬16<L.length:=by omega
 apply bS<;>intro X
 .have X:fs.length≠L.length:=by intro h;rw[h]at X;simp at X
  have OC:iO L fs=11:=by rw[iO,aF h16,aH X]
  exact rtn V fun GT we re=>.inl ⟨by rw[OJ,OC];decide,by rw[OJ,OC];rfl⟩
 have X:=(show (fs.length:Int)=(L.length:Int)from(by simpa using X))
 have hlen:fs.length=L.length:=by omega
 have PE:¬fs.length≠L.length:=fun h=>h hlen
 refine⟨Nat×World×Iv,fun z=>⟨[(0,sV ac L.length cc),(1,sV af fs.length cf),(6,iN z.1)],[],0,z.2.2,z.2.1⟩,fun z=>fs.length-z.1,
  fun z=>z.1<=fs.length/\Bq w z.2.1/\cX (fun _=>Bi) [] fs=cX (fun _=>Bi) (fs.take z.1) (fs.drop z.1),?_,?_⟩
 .intro O J A;exact⟨(0,J,[]),⟨aP _,V.tr A.cN,rfl⟩,sbgn [] A⟩
 rintro⟨i,w1,iv⟩ ⟨D,V,hE⟩;dsimp only at D V hE ⊢;apply bS<;>intro Ny
 .have Ny:=dL Ny;obtain⟨x,G⟩:=gO fs i;obtain⟨adx,Od,hSx,OZ⟩:=tf.at hF G;refine⟨adx,Od,be,iV x,rd1 OZ V (U _ hSx),?_⟩;refine cD (cE V (fun _ J v I=>∃d,v= .bool d/\(d=true↔ -100<=x/\x<=100)) (fun O J r=>fm _ _ _ J) ?_);rintro O Ph v1 Pa OK r R V h_ ⟨d1,rfl,OG⟩
  cases d1
  .have OG:¬(-100<=x/\x<=100):=fun h=>by have:=OG.2 h;cases this
   have hf2:cX (fun _=>Bi) [] fs≠0:=by rw[hE,cJ G (show Bi x=2 by rw[Bi,aF OG]) bi];decide
   have OC:iO L fs=2:=by rw[iO,aF h16,aF PE,aH hf2]
   exact rtn V fun GT we re=>.inl ⟨by rw[OJ,OC];decide,by rw[OJ,OC];rfl⟩
  have OG:=OG.1 rfl;rw[dH G (show Bi x=0 by rw[Bi,aH OG])]at hE;refine inc i ?_;intro IR w6 A;exact⟨(i+1,w6,_),⟨Ny,V.tr A.cN,hE⟩,sbgn [] A,dec Ny⟩
 have Ny:=dE D Ny;rw[dy be]at hE;have hfac:∀(k:Nat) x,fs[k]? =some x-> -100<=x/\x<=100:=fun k x E=>by
  have h:=fL hE k x E;unfold Bi at h;split at h<;>rename_i X
  .exact X
  .cases h
 have SE:¬cX (fun _=>Bi) [] fs≠0:=fun h=>h hE
 refine⟨Nat×World×Iv,fun z=>⟨[(0,sV ac L.length cc),(1,sV af fs.length cf),(7,iN z.1)],[],0,z.2.2,z.2.1⟩,fun z=>L.length-z.1,
  fun z=>z.1<=L.length/\Bq w z.2.1/\cX (fun _=>jH 20) [] L=cX (fun _=>jH 20) (L.take z.1) (L.drop z.1),?_,?_⟩
 .intro O J A;exact⟨(0,J,_),⟨aP _,V.tr A.cN,rfl⟩,sbgn [] A⟩
 rintro⟨i,w1,iv⟩ ⟨D,V,hE⟩;dsimp only at D V hE ⊢;apply bS<;>intro Ny
 .have Ny:=dL Ny;obtain⟨l,hl⟩:=gO L i;obtain⟨adm,um,Qh,PD,km1,km2⟩:=eH.load hC hl;obtain⟨al,cl,rfl,-,Qo⟩:=PD.shape;refine⟨adm,Qh,be,.slice al l.length cl,rd1 km2 V (U _ km1),?_⟩;apply bS<;>intro h200
  .have h200:200<l.length:=by have:=aE h200;omega
   have RG:jH 20 l=8:=by rw[jH,aH h200]
   have RU:cX (fun _=>jH 20) [] L=8:=by rw[hE];exact cJ hl RG bi
   have OC:iO L fs=8:=by rw[iO,aF h16,aF PE,aF SE,aH (by rw[RU];decide),RU]
   exact rtn V fun GT we re=>.inl ⟨by rw[OJ,OC];decide,by rw[OJ,OC];rfl⟩
  have h200:¬200<l.length:=by have:=aC h200;omega
  refine⟨Nat×World×Iv,fun z=>⟨[(0,sV ac L.length cc),(1,sV af fs.length cf),(7,iN i),(8,iN z.1)],[],0,z.2.2,z.2.1⟩,fun z=>l.length-z.1,
   fun z=>z.1<=l.length/\Bq w z.2.1/\jH 20 l=cX (fun _=>jO 20) (l.take z.1) (l.drop z.1),?_,?_⟩
  .intro O J A;exact⟨(0,J,_),⟨aP _,V.tr A.cN,by rw[jH,aF h200];rfl⟩,sbgn [] A⟩
  rintro⟨k,w3,iv⟩ ⟨E,V,OS⟩;dsimp only at E V OS ⊢;refine⟨adm,Qh,be,.slice al l.length cl,rd1 km2 V (U _ km1),?_⟩;apply bS<;>intro OA
  .have OA:=dL OA;obtain⟨x,G⟩:=gO l k;obtain⟨adx,csx,Od,hP,-,OZ⟩:=PD.load bi G;have hP:csx=[iV x.1,iV x.2.1,iV x.2.2.1,iV x.2.2.2]:=hP;subst hP;refine⟨adm,Qh,be,.slice al l.length cl,rd1 km2 V (U _ km1),adx,Od,be,iV x.1,rdF (OZ 0 _ rfl) V U,?_⟩;refine cD (cE V (fun _ J v I=>∃d,v= .bool d/\(d=true↔0<=x.1/\x.1<=19)) (fun O J r=>fm _ _ _ J) ?_);rintro O Ph v1 Pa OK r R V h_ ⟨d1,rfl,OG⟩
   cases d1
   .have OG:¬gA 20 x.1:=fun h=>by have:=OG.2 ⟨h.1,by have:=h.2;omega⟩;cases this
    have RG:jH 20 l=6:=by rw[OS];exact cJ G (show jO 20 x=6 by rw[jO,aF OG]) bi
    have RU:cX (fun _=>jH 20) [] L=6:=by rw[hE];exact cJ hl RG bi
    have OC:iO L fs=6:=by rw[iO,aF h16,aF PE,aF SE,aH (by rw[RU];decide),RU]
    exact rtn V fun GT we re=>.inl ⟨by rw[OJ,OC];decide,by rw[OJ,OC];rfl⟩
   have OG:gA 20 x.1:=⟨(OG.1 rfl).1,by have:=(OG.1 rfl).2;omega⟩
   refine⟨adm,Qh,be,.slice al l.length cl,rd1 km2 V (U _ km1),adx,Od,be,[iV x.1,iV x.2.1,iV x.2.2.1,iV x.2.2.2],rfl,rdO OZ V U,?_⟩;refine cD (cE V (fun _ J v I=>∃d,v= .bool d/\(d=true↔zq x.2)) (fun O J r=>BP x J) ?_);rintro O _ _ _ OH r R V h_ ⟨d2,rfl,OQ⟩
   cases d2
   .have OQ:¬zq x.2:=fun h=>by have:=OQ.2 h;cases this
    have RG:jH 20 l=2:=by rw[OS];exact cJ G (show jO 20 x=2 by rw[jO,aH OG];exact aF OQ) bi
    have RU:cX (fun _=>jH 20) [] L=2:=by rw[hE];exact cJ hl RG bi
    have OC:iO L fs=2:=by rw[iO,aF h16,aF PE,aF SE,aH (by rw[RU];decide),RU]
    exact rtn V fun GT we re=>.inl ⟨by rw[OJ,OC];decide,by rw[OJ,OC];rfl⟩
   have OQ:zq x.2:=OQ.1 rfl;rw[dH G (show jO 20 x=0 by rw[jO,aH OG];exact aH OQ)]at OS;refine inc k ?_;intro IR w6 A;exact⟨(k+1,w6,_),⟨OA,V.tr A.cN,OS⟩,sbgn [] A,dec OA⟩
  have OA:=dE E OA;rw[dy be]at OS;rw[dH (e:=fun _=>jH 20) hl OS]at hE;refine inc i ?_;intro IR w6 A;exact⟨(i+1,w6,_),⟨Ny,V.tr A.cN,hE⟩,sbgn [] A,dec Ny⟩
 have Ny:=dE D Ny;rw[dy be]at hE;have hcas:∀(k:Nat) l,L[k]? =some l->zT 20 l:=fun k l E=>xU (fL hE k l E);have Sv:¬cX (fun _=>jH 20) [] L≠0:=fun h=>h hE;obtain⟨s,hs⟩:=exq (fK L fs L.length);rw[hs]
 refine⟨Nat×List (List Value)×World×Iv,fun z=>⟨[(0,sV ac L.length cc),(1,sV af fs.length cf),(9,.o (.w 0 z.2.1.length)),(10,iN z.1)],[(0,.vec T.gV 4 z.2.1.flatten)],1,z.2.2.2,z.2.2.1⟩,fun z=>20-z.1,
  fun z=>z.1<=20/\Bq w z.2.2.1/\dR 4 dD z.2.2.1 S z.2.1 (fF s z.1)/\cX (fun _=>zt s) [] (List.range 20)=cX (fun _=>zt s) ((List.range 20).take z.1) ((List.range 20).drop z.1),?_,?_⟩
 .intro O J r;exact⟨(0,[],J,_),⟨aP _,V.tr r.cN,dR.nil,rfl⟩,Sub.nil 9 T.gV 4 rfl (by simp[kL,SV.sc,At.sc,fp]) r fun Id r1=>sbgn [] r1⟩
 rintro⟨n,W,w4,iv⟩ ⟨D,V,hG,hE⟩;dsimp only at D V hG hE ⊢;have OL:=ed hG.wid;have OR:W.length<=n:=by rw[hG.len];exact rV s n
 apply bS<;>intro Ny
 .have R7:n<20:=by have:=aE Ny;omega
  have hr:(List.range 20)[n]? =some n:=bf R7
  refine⟨Nat×World,fun z=>⟨[(0,sV ac L.length cc),(1,sV af fs.length cf),(9,.o (.w 0 W.length)),(10,iN n),(11,pP 1 0),(12,iN z.1)],[(1,.box T.gV [.v (iV (n:Int)),.v (iV (fK L fs z.1 n).1),.v (iV (fK L fs z.1 n).2.1),.v (iV (fK L fs z.1 n).2.2)]),(0,.vec T.gV 4 W.flatten)],2,iv,z.2⟩,fun z=>L.length-z.1,
   fun z=>z.1<=L.length/\Bq w z.2/\MH (fK L fs z.1) (20000000000*z.1),?_,?_⟩
  .intro O J A;exact⟨(0,J),⟨aP _,V.tr A.cN,fun n=>by simp[fK]⟩,sbgn [] A⟩
  rintro⟨c,w5⟩ ⟨D,V,hB⟩;dsimp only at D V hB ⊢;apply bS<;>intro Ny
  .have Ny:=dL Ny;obtain⟨l,hl⟩:=gO L c;obtain⟨fa,hfa⟩:=gO fs c;have PM:=hfac c fa hfa;have OE:=hcas c l hl;have VG:=OE.len;obtain⟨adf,haf,UE,SW⟩:=tf.at hF hfa;have PI:fK L fs (c+1)=ma (fK L fs c) fa l l.length:=by rw[fK,show L.getD c []=l by rw[List.getD,hl];rfl,show fs.getD c 0=fa by rw[List.getD,hfa];rfl]
   obtain⟨adm,um,Qh,PD,km1,km2⟩:=eH.load hC hl;obtain⟨al,cl,rfl,-,Qo⟩:=PD.shape
   refine⟨Nat×World,fun z=>⟨[(0,sV ac L.length cc),(1,sV af fs.length cf),(9,.o (.w 0 W.length)),(10,iN n),(11,pP 1 0),(12,iN c),(13,iN z.1)],[(1,.box T.gV [.v (iV (n:Int)),.v (iV (ma (fK L fs c) fa l z.1 n).1),.v (iV (ma (fK L fs c) fa l z.1 n).2.1),.v (iV (ma (fK L fs c) fa l z.1 n).2.2)]),(0,.vec T.gV 4 W.flatten)],2,iv,z.2⟩,fun z=>l.length-z.1,
    fun z=>z.1<=l.length/\Bq w z.2/\MH (ma (fK L fs c) fa l z.1) (20000000000*c+100000000*z.1),?_,?_⟩
   .intro O J A;exact⟨(0,J),⟨aP _,V.tr A.cN,by simpa [ma]using hB⟩,sbgn [] A⟩
   rintro⟨k,w3⟩ ⟨E,V,hB⟩;dsimp only at E V hB ⊢;refine⟨adm,Qh,be,.slice al l.length cl,rd1 km2 V (U _ km1),?_⟩;apply bS<;>intro OA
   .have OA:=dL OA;obtain⟨x,G⟩:=gO l k;obtain⟨Ub,hxb⟩:=OE.ld x (aG G);obtain⟨adx,csx,Od,hP,-,OZ⟩:=PD.load bi G;have hP:csx=[iV x.1,iV x.2.1,iV x.2.2.1,iV x.2.2.2]:=hP;subst hP;have Uh:ma (fK L fs c) fa l (k+1)=rU (ma (fK L fs c) fa l k) fa x:=by rw[ma,show l.getD k (0,0,0,0)=x by rw[List.getD,G];rfl]
    have hB2:=hB.add (x:=x) PM hxb;obtain⟨t,ht⟩:=exq (ma (fK L fs c) fa l k);rw[ht]at hB hB2 Uh ⊢;have hbn:=hB n;obtain⟨t0,ht0⟩:=exq ((t n).1);obtain⟨t1,ht1⟩:=exq ((t n).2.1);obtain⟨t2,RS⟩:=exq ((t n).2.2);have htn:t n=(t0,t1,t2):=by rw[<-ht0,<-ht1,<-RS]
    rw[ht0,ht1,RS]at hbn ⊢;obtain⟨⟨q1,q2⟩,⟨q3,q4⟩,q5,q6⟩:=hxb;have m1:=nN PM.1 PM.2 q1 q2;have m2:=nN PM.1 PM.2 q3 q4;have m3:=nN PM.1 PM.2 q5 q6;refine⟨adm,Qh,be,.slice al l.length cl,rd1 km2 V (U _ km1),adx,Od,be,[iV x.1,iV x.2.1,iV x.2.2.1,iV x.2.2.2],rfl,rdO OZ V U,?_⟩;apply bS<;>intro R
    .have R:x.1=(n:Int):=by simpa using R
     have St:rU t fa x n=(t0+fa*x.2.1,t1+fa*x.2.2.1,t2+fa*x.2.2.2):=by rw[rU,aH R.symm,htn]
     refine gH hτ pB (.x 0 (.x 2 (.x 3 (.x 4 (.x 6 (.x 10 (.x 12 (.x 13 (.x 14 (.x 16 (.x 20 (.x 22 (.x 23 (.x 24 (.x 26 (.ld 1 67645735424 (.ld 5 67645735680 (.ld 7 67645735680 (.x 8 (.x 9 (.ld 11 67646259200 (.ld 15 64425295872 (.ld 17 64425295872 (.x 18 (.x 19 (.ld 21 68182605824 (.x 30 (.ld 25 52344913920 (.ld 27 52344913920 (.x 28 (.x 29 (.x 31 (.x 32 (.x 33 (.x 34 (.x 35 .nil)))))))))))))))))))))))))))))))))))) d4 d4 ?_;refine⟨adf,haf,be,adf,haf,be,adf,haf,be,iV fa,rd1 SW V (U _ UE),fa*x.2.1,wo,t0+fa*x.2.1,wo,iV fa,rd1 SW V (U _ UE),fa*x.2.2.1,wo,t1+fa*x.2.2.1,wo,iV fa,rd1 SW V (U _ UE),fa*x.2.2.2,wo,t2+fa*x.2.2.2,wo,rfl,iV fa,rd1 SW V (U _ UE),rfl,rfl,iV fa,rd1 SW V (U _ UE),rfl,rfl,iV fa,rd1 SW V (U _ UE),rfl,((k+1:Nat):Int),wo,?_⟩;intro IR w6 A;exact⟨(k+1,w6),⟨OA,V.tr A.cN,by dsimp only;rw[Uh];exact fun n=>by have:=hB2 n;omega⟩,sbgn [] A ⟨by dsimp only;rw[Uh,St];rfl,rfl,trivial⟩,dec OA⟩
    have R:¬((n:Int)=x.1):=fun h=>by rw[h]at R;simp at R
    have St:rU t fa x n=(t0,t1,t2):=by rw[rU,aF R,htn]
    refine inc k ?_;intro IR w6 A;exact⟨(k+1,w6),⟨OA,V.tr A.cN,by dsimp only;rw[Uh];exact fun n=>by have:=hB2 n;omega⟩,sbgn [] A ⟨by dsimp only;rw[Uh,St];rfl,rfl,trivial⟩,dec OA⟩
   have OA:=dE E OA;subst OA;rw[<-PI]at hB ⊢;refine inc c ?_;intro IR w6 A;exact⟨(c+1,w6),⟨Ny,V.tr A.cN,fun n=>by have:=hB n;dsimp only;omega⟩,sbgn [] A,dec Ny⟩
  have Ny:=dE D Ny;subst Ny;rw[hs]at hB ⊢;obtain⟨a0,Q4⟩:=exq ((s n).1);obtain⟨a1,Qk⟩:=exq ((s n).2.1);obtain⟨a2,Pu⟩:=exq ((s n).2.2);have RB:s n=(a0,a1,a2):=by rw[<-Q4,<-Qk,<-Pu]
  rw[Q4,Qk,Pu];refine cD (cE V (fun _ J v I=>∃d,v= .bool d/\(d=true↔zq (a0,a1,a2))) (fun O J r=>BP ((n:Int),a0,a1,a2) J) ?_);rintro O _ _ _ OK r R V h_ ⟨d1,rfl,OG⟩
  cases d1
  .have OG:¬zq (a0,a1,a2):=fun h=>by have:=OG.2 h;cases this
   have PY:cX (fun _=>zt s) [] (List.range 20)=8:=by rw[hE];exact cJ hr (show zt s n=8 by rw[zt,RB,aF OG]) bi
   have OC:iO L fs=8:=by rw[iO,aF h16,aF PE,aF SE,aF Sv,hs,PY]
   exact rtn V fun GT we re=>.inl ⟨by rw[OJ,OC];decide,by rw[OJ,OC];rfl⟩
  have OG:zq (a0,a1,a2):=OG.1 rfl;rw[dH hr (show zt s n=0 by rw[zt,RB,aH OG])]at hE;apply bS<;>intro QU
  .have QU:a0≠0:=by simpa using QU
   have hd:¬(s n=(0,0,0)):=fun h=>by
    rw[RB]at h;injection h with Y X;injection X with X N
    first|exact QU Y|exact QU X|exact QU N
   have PI:fF s (n+1)=fF s n++[((n:Int),a0,a1,a2)]:=by rw[fF,aF hd,RB]
   have PF:=hG.push (L:=[iV (n:Int),iV a0,iV a1,iV a2]) (q:=((n:Int),a0,a1,a2)) rfl rfl;rw[<-PI]at PF;have OV:W.flatten++([iV (n:Int),iV a0,iV a1,iV a2]:List Value)=(W++([[iV (n:Int),iV a0,iV a1,iV a2]]:List (List Value))).flatten:=by simp
   refine .inl ?_;refine⟨be,be,mx,((n+1:Nat):Int),wo,?_⟩;intro IR w6 A;exact⟨(n+1,W++([[iV (n:Int),iV a0,iV a1,iV a2]]:List (List Value)),w6,_),⟨R7,V.tr A.cN,dR.map (P:=dD) (P':=dD) (I:=w6) (S':=S) PF fun _ _ h=>h,hE⟩,sbgn [(0,3)] A ⟨by dsimp only;rw[<-OV];rfl,trivial⟩ ⟨rfl,rfl,by dsimp only;rw[l1];rfl,rfl,trivial⟩,dec R7⟩
  have k0:a0=0:=by simpa using QU
  apply bS<;>intro QU
  .have QU:a1≠0:=by simpa using QU
   have hd:¬(s n=(0,0,0)):=fun h=>by
    rw[RB]at h;injection h with Y X;injection X with X N
    first|exact QU Y|exact QU X|exact QU N
   have PI:fF s (n+1)=fF s n++[((n:Int),a0,a1,a2)]:=by rw[fF,aF hd,RB]
   have PF:=hG.push (L:=[iV (n:Int),iV a0,iV a1,iV a2]) (q:=((n:Int),a0,a1,a2)) rfl rfl;rw[<-PI]at PF;have OV:W.flatten++([iV (n:Int),iV a0,iV a1,iV a2]:List Value)=(W++([[iV (n:Int),iV a0,iV a1,iV a2]]:List (List Value))).flatten:=by simp
   refine .inl ?_;refine⟨be,be,mx,((n+1:Nat):Int),wo,?_⟩;intro IR w6 A;exact⟨(n+1,W++([[iV (n:Int),iV a0,iV a1,iV a2]]:List (List Value)),w6,_),⟨R7,V.tr A.cN,dR.map (P:=dD) (P':=dD) (I:=w6) (S':=S) PF fun _ _ h=>h,hE⟩,sbgn [(0,3)] A ⟨by dsimp only;rw[<-OV];rfl,trivial⟩ ⟨rfl,rfl,by dsimp only;rw[l1];rfl,rfl,trivial⟩,dec R7⟩
  have k1:a1=0:=by simpa using QU
  apply bS<;>intro QU
  .have QU:a2≠0:=by simpa using QU
   have hd:¬(s n=(0,0,0)):=fun h=>by
    rw[RB]at h;injection h with Y X;injection X with X N
    first|exact QU Y|exact QU X|exact QU N
   have PI:fF s (n+1)=fF s n++[((n:Int),a0,a1,a2)]:=by rw[fF,aF hd,RB]
   have PF:=hG.push (L:=[iV (n:Int),iV a0,iV a1,iV a2]) (q:=((n:Int),a0,a1,a2)) rfl rfl;rw[<-PI]at PF;have OV:W.flatten++([iV (n:Int),iV a0,iV a1,iV a2]:List Value)=(W++([[iV (n:Int),iV a0,iV a1,iV a2]]:List (List Value))).flatten:=by simp
   refine .inl ?_;refine⟨be,be,mx,((n+1:Nat):Int),wo,?_⟩;intro IR w6 A;exact⟨(n+1,W++([[iV (n:Int),iV a0,iV a1,iV a2]]:List (List Value)),w6,_),⟨R7,V.tr A.cN,dR.map (P:=dD) (P':=dD) (I:=w6) (S':=S) PF fun _ _ h=>h,hE⟩,sbgn [(0,3)] A ⟨by dsimp only;rw[<-OV];rfl,trivial⟩ ⟨rfl,rfl,by dsimp only;rw[l1];rfl,rfl,trivial⟩,dec R7⟩
  have k2:a2=0:=by simpa using QU
  have hd:s n=(0,0,0):=by rw[RB,k0,k1,k2]
  have PI:fF s (n+1)=fF s n:=by rw[fF,aH hd]
  rw[<-PI]at hG;refine inc n ?_;intro IR w6 A;exact⟨(n+1,W,w6,_),⟨R7,V.tr A.cN,dR.map (P:=dD) (P':=dD) (I:=w6) (S':=S) hG fun _ _ h=>h,hE⟩,sbgn [] A,dec R7⟩
 have Ny:n=20:=by have:=aC Ny;omega
 subst Ny;rw[dy bv]at hE;have OC:iO L fs=0:=by rw[iO,aF h16,aF PE,aF SE,aF Sv,hs,hE]
 intro GT we re;have h5:=re.iq (id:=0) (sz:=4) (m:=W.length) rfl OL mx bi (hG.one fun L q h=>dD.one h);exact⟨_,rfl,V.tr re.cN,.inr ⟨by rw[OJ,OC],_,rfl,dR.list (hG.map fun L q h=>h) (h5.cF fun g F=>.inr F)⟩⟩
theorem pn{v u:Value}{l:List Ld}(U:Old S w)(G:cU w S v l)(hy:cU w S u l):eC PG Fn.oL #[v,u] w (eI w fun v' _=>v'= .bool true):=by
 have V:=bR w;obtain⟨a,c,rfl,-,hm⟩:=G.shape;obtain⟨a2,c2,rfl,-,-⟩:=hy.shape;unfold maxLen at hm;refine r9 bv ?_;refine vF.mk (fun hd=>by simp at hd) (fun _=>?_)
 refine⟨Nat×World×Iv,fun z=>⟨[(0,sV a l.length c),(1,sV a2 l.length c2),(5,iN z.1)],[],0,z.2.2,z.2.1⟩,fun z=>l.length-z.1,
  fun z=>z.1<=l.length/\Bq w z.2.1,?_,?_⟩
 .intro O J A;exact⟨(0,J,_),⟨aP _,V.tr A.cN⟩,sbgn [] A⟩
 rintro⟨i,w1,iv⟩ ⟨D,V⟩;dsimp only at D V ⊢;apply bS<;>intro Ny
 .have Ny:=dL Ny;obtain⟨x,hq⟩:=gO l i;obtain⟨ad,csx,Od,hP,-,Qt⟩:=G.load bi hq;obtain⟨ad2,csy,RF,hQ,-,Ps⟩:=hy.load bi hq;have hP:csx=[iV x.1,iV x.2.1,iV x.2.2.1,iV x.2.2.2]:=hP;have hQ:csy=[iV x.1,iV x.2.1,iV x.2.2.1,iV x.2.2.2]:=hQ;subst hP hQ;refine dP (idO 9) ?_;refine⟨ad,Od,be,[iV x.1,iV x.2.1,iV x.2.2.1,iV x.2.2.2],rfl,rdO Qt V U,ad2,RF,be,[iV x.1,iV x.2.1,iV x.2.2.1,iV x.2.2.2],rfl,rdO Ps V U,!decide (x=x),fun O w o1 o2=>ED x x w o1 o2,?_⟩;refine vF.mk (fun hd=>absurd hd bv) (fun _=>?_);refine inc i ?_;intro IR w6 A;exact⟨(i+1,w6,_),⟨Ny,V.tr A.cN⟩,sbgn [] A,dec Ny⟩
 exact rtn V fun GT we re=>rfl
theorem cU.Nk:cU w S nls []:=⟨[],⟨aP _,rfl,bv,none,0,rfl,lr,fun j u h=>by cases h⟩,rfl,bv,fun j L x h=>by cases h⟩
section
variable{S S':Nat->Prop}{H:Hp}{nx:Nat}{iv K:Iv}{B:Nat}{w J I:World}{O:Nat->Sx.da}{v:Value}{l:List Ld}
theorem cU.rel(h:cU w (Cv S B iv) v l)(r:Rel H nx iv B w O J)(U:∀g,S g->g<B):cU J (Cv S B iv) v l:=cU.cK h fun _ F=>rls r U F
theorem cU.cH(h:cU w (Cv S B iv) v l)(r:Rel H nx iv B w O J)(U:∀g,S g->g<B)(R:Ext J I)(hm:∀p,p∈iv->p∈K):cU I (Cv S B K) v l:=
 cU.cF ((cU.rel h r U).cK fun g F=>R.block g (rlo r U g F)) fun _ F=>F.mono hm
theorem cU.iR(h:cU I (Nf J I) v l)(hB:B<=J.heap.size)(hm:(J.heap.size,I.heap.size)∈iv):cU I (Cv S B iv) v l:=cU.cF h fun _ F=>F.iR hB hm
end
end Go.Ex
namespace Go.Ex
section
variable{M:List (List Rat)}{Fd m:Mx}{B C r:Nat}{σ:Nat->Nat}{v x:Nat->Rat}{d p q:Rat}
def Ib(B:Nat)(q:Rat):Prop:=∃z:Int,q=(z:Rat)/\z.natAbs<=B
theorem Ib.mono(h:Ib B q)(k:B<=C):Ib C q:=let⟨z,e,b⟩:=h;⟨z,e,bB b k⟩
theorem Ib.add(h:Ib B p)(k:Ib C q):Ib (B+C) (p+q):=by
 obtain⟨z,rfl,b⟩:=h;obtain⟨y,rfl,c⟩:=k;exact⟨z+y,by rw[Rat.intCast_add],be⟩
theorem Ib.mul(h:Ib B p)(k:Ib C q):Ib (B*C) (p*q):=by
 obtain⟨z,rfl,b⟩:=h;obtain⟨y,rfl,c⟩:=k;exact⟨z*y,by rw[Rat.intCast_mul],by rw[Int.natAbs_mul];exact Nat.mul_le_mul b c⟩
theorem Ib.neg(h:Ib B p):Ib B (-p):=by
 obtain⟨z,rfl,b⟩:=h;exact⟨-z,by rw[Rat.intCast_neg],be⟩
theorem Ib.sub(h:Ib B p)(k:Ib C q):Ib (B+C) (p-q):=by rw[Rat.sub_eq_add_neg];exact h.add k.neg
theorem Ib.zero(B:Nat):Ib B 0:=⟨0,rfl,aP _⟩
theorem Ib.one(h:1<=B):Ib B 1:=⟨1,rfl,h⟩
theorem Ib.int{z:Int}(h:z.natAbs<=B):Ib B (z:Rat):=⟨z,rfl,h⟩
theorem Ib.sum{B:Nat}{f:Nat->Rat}:∀(n:Nat),(∀k,k<n->Ib B (f k))->Ib (n*B) (cW f n)
 |0,_=>Ib.zero _
 |n+1,h=>by rw[cW,Nat.succ_mul];exact(Ib.sum n fun k E=>h k be).add (h n be)
def fB(B:Nat):Nat->Nat
 |0=>1
 |n+1=>(n+1)*(B*fB B n)
theorem Ib.rS{k:Nat}(h:Ib B q):Ib B (rS k*q):=by
 unfold Go.Ex.rS;split
 .rw[show (-1:Rat)*q= -q by grind];exact h.neg
 .rw[cA];exact h
theorem Ib.NZ{B:Nat}:∀(n:Nat) {m:Mx},(∀i j,i<n->j<n->Ib B (m i j))->Ib (fB B n) (fV n m)
 |0,_,_=>Ib.one (aN _)
 |n+1,m,h=>by
  unfold fV fB;exact Ib.sum (n+1) fun k E=>((h 0 k be E).mul (Ib.NZ n fun i j D hj=>h (i+1) (skip k j) be (GD hj))).rS
theorem GK(B n:Nat):B*fB B n<=fB B (n+1):=Nat.le_mul_of_pos_left _ (Nat.succ_pos n)
theorem Kh(h:1<=B)(n:Nat):fB B n<=fB B (n+1):=bB (Nat.le_mul_of_pos_left _ h) (GK B n)
theorem qL{B a:Nat}(h:1<=B):∀{b:Nat},a<=b->fB B a<=fB B b
 |0,k=>by rw[Nat.le_zero.1 k];exact aN _
 |b+1,k=>by
  rcases aR b a with Y|Y
  .rw[show a=b+1 by omega];exact aN _
  .exact bB (qL h Y) (Kh h b)
theorem LZ{B E9:Nat}:∀{n:Nat},n<=E9->fB B n<=(E9*B)^n
 |0,_=>aN _
 |n+1,h=>by
  rw[fB,Nat.pow_succ,<-bl,bU _ (E9*B)];exact Nat.mul_le_mul (Nat.mul_le_mul_right B h) (LZ be)
theorem L0{E9 l n:Nat}(Z:n<=E9)(h:E9*B<=wt l):ln (fB B n)<=l*n+1:=by
 rw[gC,iW];have Y:=bB (LZ (B:=B) Z) (Nat.pow_le_pow_left h n);rw[uL,<-Nat.pow_mul]at Y;have X:=uL (l*n);have N:=xm (l*n);rw[show 32*l*n=32*(l*n) by rw[bl]]at Y;omega
theorem xP{F':Nat}{FS:Rat}(h0:FS≠0)(hD:Ib F' FS)(hq:Ib F' (FS*q)):rl q<=ln F':=by
 obtain⟨d,rfl,b⟩:=hD;obtain⟨z,e,c⟩:=hq;have hd:d≠0:=fun e=>h0 (by rw[e];rfl);have e2:q=Rat.divInt z d:=by
  rw[Rat.divInt_eq_div,<-e,bo,bs (d:Rat) q,Rat.mul_assoc,Rat.mul_inv_cancel _ h0,Rat.mul_one]
 have:=j8 (a:=z) hd;have:=fA b;have:=fA c;rw[e2];omega
theorem H0{n:Nat}(h:r<n):fV n (gR m r fun _=>0)=0:=by
 have Y:=mY 1 n r m h (fun _=>0) fun _=>0;rw[show (fun _:Nat=>(0:Rat)+1*0)=fun _=>0 from funext fun _=>by grind]at Y;grind
theorem yJ{n r:Nat}{m:Mx}(h:r<n)(c:Nat->Rat)(v:Nat->Nat->Rat):∀s,fV n (gR m r fun j=>cW (fun k=>c k*v k j) s)=cW (fun k=>c k*fV n (gR m r (v k))) s
 |0=>H0 h
 |s+1=>by
  have Y:=mY (c s) n r m h (fun j=>cW (fun k=>c k*v k j) s) (v s);rw[yJ h c v s]at Y;exact Y
theorem GL{n a b:Nat}(hb:b<n)(QB:a<b)(R:∀j,j<n->m a j=m b j):fV n m=0:=by
 obtain⟨b,rfl⟩:∃k,b=k+1:=⟨b-1,be⟩
 cases a with
 |zero=>exact nL b n m hb R
 |succ a=>
  have Y:=HU (m:=m) (k:=a) (n:=n) be;rw[nL b n _ hb fun j hj=>?_]at Y
  .grind
  .rw[show kY 0 (a+1) 0=a+1 by unfold kY;rw[aH rfl],show kY 0 (a+1) (b+1)=b+1 by unfold kY;rw[aF be,aF be]];exact R j hj
theorem DT{n a b:Nat}(ha:a<n)(hb:b<n)(QB:a≠b)(R:∀j,j<n->m a j=m b j):fV n m=0:=by
 rcases Nat.lt_or_gt_of_ne QB with h|h
 .exact GL hb h R
 .exact GL ha h fun j hj=>(R j hj).symm
section
variable{Fd EQ:Mx}{p:Nat->Nat}{r n:Nat}{v:Nat->Rat}
theorem Ru.coeff(h:Ru Fd p r n)(hv:dw Fd r n v):∀t,t<n->v t=cW (fun i=>v (p i)*Fd i t) r:=by
 obtain⟨c,hc⟩:=hv;intro t ht;rw[hc t ht];refine cG fun i D=>?_;rw[hc (p i) (h.lt i D),e7 D fun k E OB=>by rw[h.unit i k D E,aF OB,bD],h.unit i i D D,aH rfl,Rat.mul_one]
def se(EQ:Mx)(p:Nat->Nat)(r:Nat):Rat:=fV r fun j i=>EQ (r-1-i) (p (r-1-j))
theorem MJ(h:Ru Fd p r n)(hZ:∀i,i<r->dw Fd r n (EQ i)){k t:Nat}(E:k<r)(ht:t<n):
  se EQ p r*Fd k t=fV r (gR (fun j i=>EQ (r-1-i) (p (r-1-j))) (r-1-k) fun i=>EQ (r-1-i) t):=by
 have e:∀i j,i<r->j<r->gR (fun j i=>EQ (r-1-i) (p (r-1-j))) (r-1-k) (fun i=>EQ (r-1-i) t) i j=gR (fun j i=>EQ (r-1-i) (p (r-1-j))) (r-1-k) (fun i=>cW (fun j=>Fd j t*EQ (r-1-i) (p j)) r) i j:=fun i j D hj=>by
  unfold gR;split
  .show EQ (r-1-j) t=cW (fun l=>Fd l t*EQ (r-1-j) (p l)) r;rw[h.coeff (hZ (r-1-j) be) t ht];exact cG fun l _=>bs _ _
  .rfl
 rw[iM e,yJ (v:=fun k i=>EQ (r-1-i) (p k)) be,e7 E fun j hj OB=>?_]
 .rw[show gR (fun j i=>EQ (r-1-i) (p (r-1-j))) (r-1-k) (fun i=>EQ (r-1-i) (p k))=fun j i=>EQ (r-1-i) (p (r-1-j))from ?_]
  .rw[se,bs]
  .funext i j
   unfold gR;split
   .rename_i D;rw[D,show r-1-(r-1-k)=k by omega]
   .rfl
 .rw[DT (a:=r-1-k) (b:=r-1-j) be be be fun i D=>?_,bD];unfold gR;rw[aH rfl,aF be];show EQ (r-1-i) (p j)=EQ (r-1-i) (p (r-1-(r-1-j)));rw[show r-1-(r-1-j)=j by omega]
theorem MK(h:Ru Fd p r n)(hZ:∀i,i<r->dw Fd r n (EQ i)){t:Nat}(ht:t<n):
  fV (r+1) (fun j i=>if j=0 then EQ (r-i) t else EQ (r-i) (p (r-j)))=lK Fd p r (EQ r) n t*se EQ p r:=by
 obtain⟨m,hm⟩:∃m:Mx,m=fun j i=>if j=0 then EQ (r-i) t else EQ (r-i) (p (r-j)):=⟨_,rfl⟩
 obtain⟨w,V⟩:∃w:Nat->Rat,w=fun i=>if i=0 then lK Fd p r (EQ r) n t else 0:=⟨_,rfl⟩
 rw[<-hm];have OD:∀j,j<r->∀i,m (r-j) i=EQ (r-i) (p j):=fun j hj i=>by rw[hm];simp only;rw[aF be,show r-(r-j)=j by omega]
 have e:∀i j,i<r+1->j<r+1->m i j=gR m 0 (fun i=>w i+1*cW (fun j=>Fd j t*m (r-j) i) r) i j:=fun i j D hj=>by
  unfold gR;split
  .rename_i h0;subst h0;show m 0 j=w j+1*cW (fun l=>Fd l t*m (r-l) j) r;rw[cG (g:=fun l=>Fd l t*EQ (r-j) (p l)) fun l hl=>by rw[OD l hl],cA,V];simp only
   by_cases hj0:j=0
   .rw[aH hj0,hj0,hm];simp only[aH,Nat.sub_zero]
    unfold lK;rw[cG (f:=fun i=>if p i<n then EQ r (p i)*Fd i t else 0) (g:=fun i=>Fd i t*EQ r (p i)) fun l hl=>by rw[aH (h.lt l hl),bs]];grind
   .rw[aF hj0,Rat.zero_add,hm];simp only[aH]
    rw[h.coeff (hZ (r-j) be) t ht];exact cG fun l _=>bs _ _
  .rfl
 rw[iM e,mY 1 (r+1) 0 m be,yJ (v:=fun k i=>m (r-k) i) be,cG (g:=fun _=>0) fun j hj=>?_,dX,bD,bg]
 .rw[fV,e7 (i:=0) be fun k E OB=>?_]
  .unfold gR;rw[aH rfl,V];simp only[aH]
   rw[show rS 0=1 by decide,cA,se,iM fun i j D hj=>?_];rw[aF be,hm];simp only
   rw[aF be,show skip 0 j=j+1 by unfold skip;rw[aF be],show r-(j+1)=r-1-j by omega,show r-(i+1)=r-1-i by omega]
  .unfold gR;rw[aH rfl,V];simp only
   rw[aF OB,bH,bD]
 .rw[DT (a:=0) (b:=r-j) be be be fun i _=>?_,bD];unfold gR;rw[aH rfl,aF be]
theorem Ki(d:Rat)(k t:Nat):lK Fd p r (fun t=>d*v t) k t=d*lK Fd p r v k t:=by
 unfold lK;rw[cG (g:=fun i=>d*if p i<k then v (p i)*Fd i t else 0) fun i _=>?_,eY]
 .grind
 .split
  .rw[Rat.mul_assoc]
  .rw[bD]
theorem Kj(h:Ru Fd p r n)(G:dw Fd r n fun t=>v t+ -(x t))(h0:∀i,i<r->x (p i)=0){t:Nat}(ht:t<n):x t=lK Fd p r v n t:=by
 have Y:=h.coeff G t ht;unfold lK;rw[cG (g:=fun i=>v (p i)*Fd i t) fun i D=>aH (h.lt i D)];rw[cG (g:=fun i=>v (p i)*Fd i t) fun i D=>by rw[h0 i D];grind]at Y;grind
end
structure yK(Fd:Mx)(p:Nat->Nat)(r n B:Nat)(EQ:Mx):Prop where
 ru:Ru Fd p r n
 sp:∀i,i<r->dw Fd r n (EQ i)
 ib:∀i t,i<r->t<n->Ib B (EQ i t)
 nz:se EQ p r≠0
section
variable{Fd EQ:Mx}{p:Nat->Nat}{r n B k:Nat}{v u:Nat->Rat}
theorem yK.start(Fd EQ:Mx)(p:Nat->Nat)(n B:Nat):yK Fd p 0 n B EQ:=
 ⟨⟨fun _ h=>be,fun _ _ h=>be,fun _ _ h=>be,fun _ _ h=>be⟩,fun _ h=>be,fun _ _ h=>be,by show(1:Rat)≠0;decide⟩
theorem yK.push(h:yK Fd p r n B EQ)(hd:d≠0)(hz:∀t,t<n->Ib B (d*v t))(hu:∀t,t<n->u t=lK Fd p r v n t)(E:k<n)(h0:u k≠0)(hl:∀t,t<k->u t=0):
  yK (kA Fd r u k) (fun i=>if i=r then k else p i) (r+1) n B fun i t=>if i=r then d*v t else EQ i t:=by
 refine⟨h.ru.push E (fun i D=>by rw[hu _ (h.ru.lt i D),GG h.ru D]) h0 hl,fun i D=>?_,fun i t D ht=>?_,?_⟩
 .by_cases Y:i=r
  .exact((Ao h0 hu h.ru.lt).mul d).congr fun t _=>by simp only[aH Y];rw[bs]
  .exact((h.sp i be).trans fun j hj=>qK h0 j hj).congr fun t _=>by simp only[aF Y]
 .by_cases Y:i=r
  .simp only[aH Y];exact hz t ht
  .simp only[aF Y];exact h.ib i t be ht
 .have hb:=MK (EQ:=fun i t=>if i=r then d*v t else EQ i t) h.ru (fun i D=>(h.sp i D).congr fun t _=>by simp only[aF (Nat.ne_of_lt D)]) E;have e1:se (fun i t=>if i=r then d*v t else EQ i t) p r=se EQ p r:=iM fun i j D hj=>by simp only;rw[aF be]
  simp only[aH]at hb;rw[Ki,<-hu k E,e1]at hb;have e2:se (fun i t=>if i=r then d*v t else EQ i t) (fun i=>if i=r then k else p i) (r+1)=d*u k*se EQ p r:=by
   rw[<-hb];refine iM fun i j D hj=>?_;by_cases Y:i=0
   .subst Y;simp only[if_true]
    rw[aH (show r+1-1-0=r by omega),show r+1-1-j=r-j by omega]
   .simp only[aF Y]
    rw[aF (show ¬r+1-1-i=r by omega),show r+1-1-j=r-j by omega,show r+1-1-i=r-i by omega]
  rw[e2];have OG:∀{a b:Rat},a≠0->b≠0->a*b≠0:=fun ha hb e=>by
   rcases Rat.mul_eq_zero.1 e with h|h
   .exact ha h
   .exact hb h
  exact OG (OG hd h0) h.nz
theorem yK.den(h:yK Fd p r n B EQ):Ib (fB B r) (se EQ p r):=Ib.NZ r fun i j D hj=>h.ib _ _ be (h.ru.lt _ be)
theorem yK.Na(h:yK Fd p r n B EQ){i t:Nat}(D:i<r)(ht:t<n):Ib (fB B r) (se EQ p r*Fd i t):=by
 rw[MJ h.ru h.sp D ht];refine Ib.NZ r fun j l hj hl=>?_;unfold gR;split
 .exact h.ib _ _ be ht
 .exact h.ib _ _ be (h.ru.lt _ be)
theorem yK.Il(h:yK Fd p r n B EQ){i t:Nat}(D:i<r)(ht:t<n):rl (Fd i t)<=ln (fB B r):=xP h.nz h.den (h.Na D ht)
theorem yK.lK(h:yK Fd p r n B EQ)(hz:∀t,t<n->Ib B (d*v t))(k:Nat){t:Nat}(ht:t<n):Ib (fB B (r+1)) (d*se EQ p r*lK Fd p r v k t):=by
 unfold Go.Ex.lK;rw[show ∀a b c s:Rat,a*b*(c-s)=b*(a*c)-(a*b)*s from fun a b c s=>by grind,<-eY,fB,Nat.succ_mul,Nat.add_comm];refine Ib.sub (by rw[bU B];exact h.den.mul (hz t ht)) (Ib.sum r fun i D=>?_);split
 .rw[show ∀a b c s:Rat,a*b*(c*s)=(a*c)*(b*s)from fun a b c s=>by grind];exact(hz _ (h.ru.lt i D)).mul (h.Na D ht)
 .rw[bD];exact Ib.zero _
theorem yK.Im(h:yK Fd p r n B EQ)(hB:1<=B)(hd:d≠0)(hdB:Ib B d)(hz:∀t,t<n->Ib B (d*v t))(k:Nat){t:Nat}(ht:t<n):Go.Ex.rl (Go.Ex.lK Fd p r v k t)<=ln (fB B (r+1)):=
 xP (fun e=>by rcases Rat.mul_eq_zero.1 e with e|e;exact hd e;exact h.nz e) ((hdB.mul h.den).mono (GK B r)) (h.lK hz k ht)
end
def Bj(M:List (List Rat))(n B:Nat):Prop:=∀j,j<M.length->∃d:Rat,d≠0/\Ib B d/\∀t,t<n->Ib B (d*dB M j t)
theorem dw.Eo{D':Mx}{n:Nat}(h:dw Fd r n v)(e:∀i t,i<r->t<n->D' i t=Fd i t):dw D' r n v:=by
 obtain⟨c,hc⟩:=h;exact⟨c,fun t ht=>by rw[hc t ht];exact cG fun i D=>by rw[e i t D ht]⟩
theorem dw.more{s n:Nat}(h:dw Fd r n v)(k:r<=s):dw Fd s n v:=h.trans fun i D=>dw.row (Nat.lt_of_lt_of_le D k)
theorem Ru.congr{D':Mx}{p q:Nat->Nat}{n:Nat}(h:Ru Fd p r n)(e:∀i t,i<r->t<n->D' i t=Fd i t)(ep:∀i,i<r->q i=p i):Ru D' q r n:=
 ⟨fun i D=>by rw[ep i D];exact h.lt i D,fun i j D hj k=>h.inj i j D hj (by rw[<-ep i D,<-ep j hj];exact k),fun i j D hj=>by rw[ep i D,e j _ hj (h.lt i D)];exact h.unit i j D hj,
  fun i t D ht=>by rw[ep i D]at ht;rw[e i t D (by have:=h.lt i D;omega)];exact h.lead i t D ht⟩
theorem yK.congr{D' EQ AC:Mx}{p q:Nat->Nat}{n:Nat}(h:yK Fd p r n B EQ)(e:∀i t,i<r->t<n->D' i t=Fd i t)(ep:∀i,i<r->q i=p i)(eZ:∀i t,i<r->t<n->AC i t=EQ i t):yK D' q r n B AC:=by
 refine⟨h.ru.congr e ep,fun i D=>((h.sp i D).congr fun t ht=>eZ i t D ht).Eo e,fun i t D ht=>by rw[eZ i t D ht];exact h.ib i t D ht,?_⟩;rw[show se AC q r=se EQ p r from iM fun i j D hj=>by rw[ep _ be,eZ _ _ be (h.ru.lt _ be)]];exact h.nz
theorem yL(row:List Rat):∀f k,k<=oG row f k/\oG row f k<=k+f/\(∀t,k<=t->t<oG row f k->row.getD t 0=0)/\(oG row f k<k+f->row.getD (oG row f k) 0≠0)
 |0,k=>by
  unfold oG;exact⟨aN _,aN _,fun t Y X=>be,fun h=>be⟩
 |f+1,k=>by
  unfold oG;split
  .rename_i h;obtain⟨Y,X,N,h4⟩:=yL row f (k+1);refine⟨be,be,fun t k1 k2=>?_,fun h5=>h4 be⟩;rcases aR k t with h5|h5
   .exact N t h5 k2
   .rw[show t=k by omega];exact h
  .rename_i h;exact⟨aN _,be,fun t Y X=>be,fun _=>h⟩
theorem H2(row:List Rat)(n:Nat):s9 row n<=n/\(∀t,t<s9 row n->row.getD t 0=0)/\(s9 row n≠n->row.getD (s9 row n) 0≠0):=by
 obtain⟨_,X,N,h4⟩:=yL row n 0;unfold s9;exact⟨be,fun t h=>N t (aP _) h,fun h=>h4 be⟩
theorem H3(y:List Rat)(q:Rat)(t:Nat):(y.map (· / q)).getD t 0=y.getD t 0 / q:=by
 simp only[List.getD,aO]
 cases y[t]? with
 |none=>show(0:Rat)=0 / q;rw[bo,bH]
 |some x=>rfl
structure Ep(M:List (List Rat))(n B i:Nat)(s:wQ)(p:Nat->Nat)(EQ:Mx):Prop where
 ok:sd n n i s
 Mi:∀k,k<n->∀r:Nat,s.2.1[k]? =some (some r)↔r<s.1.length/\p r=k
 yM:yK (dB s.1) p s.1.length n B EQ
 up:∀r,r<s.1.length->dw (dB M) i n (dB s.1 r)
 dn:∀j,j<i->dw (dB s.1) s.1.length n (dB M j)
section
variable{M:List (List Rat)}{n B i:Nat}{s:wQ}{p:Nat->Nat}{EQ:Mx}
theorem Ep.lK(h:Ep M n B i s p EQ){x:List Rat}(G:x.length=n):∀k,k<=n->∀t,t<n->(fW s.1 s.2.1 x k).getD t 0=lK (dB s.1) p s.1.length (fun t=>x.getD t 0) k t
 |0,_,t,ht=>by rw[Ic];rfl
 |k+1,E,t,ht=>by
  have ih:=Ep.lK h G k be;obtain⟨o,ho⟩:∃o,s.2.1[k]? =some o:=⟨_,aB (by rw[h.ok.at_];omega)⟩
  have hd:s.2.1.getD k none=o:=by rw[List.getD,ho];rfl
  rw[fW,hd]
  cases o with
  |none=>
   simp only
   rw[ih t ht,Ie fun r hr e=>?_];have:=(h.Mi k be r).2 ⟨hr,e⟩;rw[ho]at this
   cases this
  |some r=>
   simp only
   obtain⟨hr,e⟩:=(h.Mi k be r).1 ho;rw[lQ,uM (by rw[gh,G];exact ht),ih t ht,ih k be,<-e,Ig h.yM.ru hr];rfl
theorem Ep.step(h:Ep M n B i s p EQ)(hM:gD n M)(D:i<M.length)(hd:d≠0)(hz:∀t,t<n->Ib B (d*dB M i t)):
  ∃p' Z',Ep M n B (i+1) (je n s i (M.getD i [])) p' Z':=by
 have G:(M.getD i []).length=n:=hM.getD D;have OE:=h.ok.step G;obtain⟨y,hy⟩:∃y,fW s.1 s.2.1 (M.getD i []) n=y:=⟨_,rfl⟩
 have hu:∀t,t<n->y.getD t 0=Go.Ex.lK (dB s.1) p s.1.length (dB M i) n t:=fun t ht=>by rw[<-hy];exact h.lK G n (aN _) t ht
 have hyl:y.length=n:=by rw[<-hy,gh,G]
 obtain⟨q1,q2,q3⟩:=H2 y n;by_cases hq:s9 y n=n
 .have e:je n s i (M.getD i [])=s:=by unfold je;simp only[hy,hq,if_true]
  rw[e]at OE ⊢;refine⟨p,EQ,OE,h.Mi,h.yM,fun r hr=>(h.up r hr).more (Nat.le_succ i),fun j hj=>?_⟩;rcases aR j i with Y|Y
  .exact h.dn j Y
  .rw[show j=i by omega];refine⟨fun j=>dB M i (p j),fun t ht=>?_⟩;have X:=hu t ht;rw[q2 t be]at X;unfold Go.Ex.lK at X;rw[cG (g:=fun j=>dB M i (p j)*dB s.1 j t) fun j hj=>aH (h.yM.ru.lt j hj)]at X;grind
 .have h0:=q3 hq;obtain⟨k,E⟩:∃k,s9 y n=k:=⟨_,rfl⟩
  rw[E]at hq h0 q1 q2;have hkn:k<n:=by omega
  have e:je n s i (M.getD i [])=(fq s.1 (y.map (· / y.getD k 0)) k s.1.length++[y.map (· / y.getD k 0)],s.2.1.set k (some s.1.length),s.2.2++[i]):=by
   unfold je;simp only[hy,E,aF hq]
  rw[e]at OE ⊢;have hl:(fq s.1 (y.map (· / y.getD k 0)) k s.1.length).length=s.1.length:=fZ ..;have Qn:(fq s.1 (y.map (· / y.getD k 0)) k s.1.length++[y.map (· / y.getD k 0)]).length=s.1.length+1:=by rw[aL,hl];rfl
  have hdv:∀t,t<n->(y.map (· / y.getD k 0)).getD t 0=y.getD t 0 / y.getD k 0:=fun t _=>H3 y _ t;have hE:∀a t,a<s.1.length+1->t<n->dB (fq s.1 (y.map (· / y.getD k 0)) k s.1.length++[y.map (· / y.getD k 0)]) a t=kA (dB s.1) s.1.length (fun t=>y.getD t 0) k a t:=fun a t ha ht=>by
   unfold kA;by_cases Y:a=s.1.length
   .rw[aH Y,<-hdv t ht,dB];congr 1;rw[List.getD,aQ be,hl,Y,bP];rfl
   .have Pu:a<s.1.length:=by omega
    have hr:=aB Pu;have QY:(s.1[a]).length=n:=h.ok.len _ (a9 Pu);have F:s.1.getD a []=s.1[a]:=by rw[List.getD,hr];rfl
    have OD:(fq s.1 (y.map (· / y.getD k 0)) k s.1.length++[y.map (· / y.getD k 0)]).getD a []=lQ s.1[a] (y.map (· / y.getD k 0)) ((s.1[a]).getD k 0):=by
     rw[List.getD,aK be,fq,List.getElem?_mapIdx,hr];simp only[Option.map_some,Option.getD_some,aH Pu]
    rw[aF Y,dB,OD,lQ,uM be,hdv t ht];unfold dB;rw[F]
  have hC:=h.yM.push hd hz hu hkn h0 q2;have UU:=MG (v:=dB M i) hu h.yM.ru.lt;refine⟨fun i=>if i=s.1.length then k else p i,fun a t=>if a=s.1.length then d*dB M i t else EQ a t,OE,?_,?_,?_,?_⟩
  .intro c hc r;dsimp only
   rw[Qn];have OB:∀j,j<s.1.length->p j≠k:=fun j hj e=>h0 (by rw[hu k hkn,<-e];exact GG h.yM.ru hj);by_cases Y:c=k
   .rw[Y,aW (by rw[h.ok.at_];exact hkn)];constructor
    .intro e;injection e with e;injection e with e;exact⟨be,by rw[aH e.symm]⟩
    .rintro⟨X,N⟩;by_cases h4:r=s.1.length
     .rw[h4]
     .rw[aF h4]at N;exact absurd N (OB r be)
   .rw[bC (Ne.symm Y),h.Mi c hc r];constructor
    .rintro⟨X,N⟩;exact⟨be,by rw[aF be];exact N⟩
    .rintro⟨X,N⟩;by_cases h4:r=s.1.length
     .rw[aH h4]at N;exact absurd N.symm Y
     .rw[aF h4]at N;exact⟨be,N⟩
  .dsimp only
   rw[Qn];exact hC.congr hE (fun _ _=>rfl) fun _ _ _ _=>rfl
  .dsimp only
   rw[Qn];intro a ha;refine((Ih (k:=k) UU a ha).trans fun b hb=>?_).congr fun t ht=>hE a t ha ht;by_cases Y:b=s.1.length
   .exact(dw.row (show i<i+1 by omega)).congr fun t _=>by unfold j2;rw[aH Y]
   .exact((h.up b be).more (Nat.le_succ i)).congr fun t _=>by unfold j2;rw[aF Y]
  .dsimp only
   rw[Qn];intro j hj;refine dw.Eo ?_ hE;rcases aR j i with Y|Y
   .exact(h.dn j Y).trans fun b hb=>qK h0 b hb
   .rw[show j=i by omega];exact Ao h0 hu h.yM.ru.lt
end
theorem qM{M:List (List Rat)}{n B:Nat}(hM:gD n M)(hW:Bj M n B):∀i,i<=M.length->∃p EQ,Ep M n B i (g8 M n i) p EQ
 |0,_=>⟨fun _=>0,fun _ _=>0,sd.start n n,fun k _ r=>⟨fun h=>(by
   simp only[g8,List.getElem?_replicate]at h
   split at h<;>cases h),fun h=>(by have:=h.1;simp[g8]at this)⟩,yK.start _ _ _ _ _,fun r h=>(by simp[g8]at h),fun j h=>be⟩
 |i+1,D=>by
  obtain⟨p,EQ,h⟩:=qM hM hW i be;obtain⟨d,hd,-,hz⟩:=hW i be;exact h.step hM be hd hz
theorem Io{n:Nat}(hM:gD n M)(hW:Bj M n B)(hB:1<=B){i:Nat}(D:i<=M.length):∀r∈(g8 M n i).1,∀q∈r,rl q<=ln (fB B M.length):=fun r hr q hq=>by
 obtain⟨p,EQ,h⟩:=qM hM hW i D;obtain⟨a,ha⟩:=aT hr;obtain⟨t,ht⟩:=aT hq;have Pu:=(aD.1 ha).1;have RS:=(aD.1 ht).1;rw[h.ok.len r hr]at RS;have Y:=h.yM.Il Pu RS;rw[dB,show(g8 M n i).1.getD a []=r by rw[List.getD,ha];rfl,show r.getD t 0=q by rw[List.getD,ht];rfl]at Y;exact bB Y (fA (qL hB (bB h.ok.le D)))
theorem Ip{n:Nat}(hM:gD n M)(hW:Bj M n B)(hB:1<=B){i k:Nat}(D:i<M.length)(E:k<=n):∀q∈fW (g8 M n i).1 (g8 M n i).2.1 (M.getD i []) k,rl q<=ln (fB B M.length):=fun q hq=>by
 obtain⟨p,EQ,h⟩:=qM hM hW i be;have G:(M.getD i []).length=n:=hM.getD D;obtain⟨t,ht⟩:=aT hq;have RS:=(aD.1 ht).1;rw[gh,G]at RS;have Y:=h.lK G k E t RS;rw[show (fW (g8 M n i).1 (g8 M n i).2.1 (M.getD i []) k).getD t 0=q by rw[List.getD,ht];rfl]at Y;obtain⟨d,hd,hdB,hz⟩:=hW i D;rw[Y];exact bB (h.yM.Im hB hd hdB hz k RS) (fA (qL hB (by have:=h.ok.le;omega)))
theorem Ap{s:wQ}:∀k,(cZ s k).1.length=(cZ s k).2.1.length/\(∀i,i<(cZ s k).2.1.length->∃r:Nat,s.2.1[(cZ s k).2.1.getD i 0]? =some (some r)/\(cZ s k).1.getD i []=s.1.getD r []/\(cZ s k).2.1.getD i 0<k)/\
  (∀i j,i<j->j<(cZ s k).2.1.length->(cZ s k).2.1.getD i 0<(cZ s k).2.1.getD j 0)/\∀q,q<k->∀r:Nat,s.2.1[q]? =some (some r)->∃i,i<(cZ s k).2.1.length/\(cZ s k).2.1.getD i 0=q
 |0=>⟨rfl,fun i h=>(by cases h),fun i j _ h=>(by cases h),fun q h=>be⟩
 |k+1=>by
  obtain⟨Y,X,N,h4⟩:=Ap (s:=s) k;have step:(∃r:Nat,s.2.1[k]? =some (some r)/\cZ s (k+1)=((cZ s k).1++[s.1.getD r []],(cZ s k).2.1++[k],(cZ s k).2.2++[s.2.2.getD r 0]))\/((∀r:Nat,s.2.1[k]? ≠some (some r))/\cZ s (k+1)=cZ s k):=by
   rw[cZ]
   cases ho:s.2.1[k]? with
   |none=>exact .inr ⟨fun r e=>(by cases e),by rw[show s.2.1.getD k none=none by rw[List.getD,ho];rfl]⟩
   |some o=>cases o with
    |none=>exact .inr ⟨fun r e=>(by cases e),by rw[show s.2.1.getD k none=none by rw[List.getD,ho];rfl]⟩
    |some r=>exact .inl ⟨r,rfl,by rw[show s.2.1.getD k none=some r by rw[List.getD,ho];rfl]⟩
  rcases step with⟨r,hr,e⟩|⟨hr,e⟩
  .rw[e];have old:∀i,i<(cZ s k).2.1.length->((cZ s k).2.1++[k]).getD i 0=(cZ s k).2.1.getD i 0:=fun i D=>by rw[List.getD,aK D,<-List.getD]
   have new:((cZ s k).2.1++[k]).getD (cZ s k).2.1.length 0=k:=by rw[List.getD,aQ (aN _),bP];rfl
   have hlen:((cZ s k).2.1++[k]).length=(cZ s k).2.1.length+1:=by simp
   dsimp only
   rw[hlen];refine⟨by simp[Y],fun i D=>?_,fun i j PR hj=>?_,fun q hq x G=>?_⟩
   .rcases aR i (cZ s k).2.1.length with h5|h5
    .obtain⟨x,x1,x2,x3⟩:=X i h5;rw[old i h5];refine⟨x,x1,?_,be⟩;rw[List.getD,aK be,<-List.getD];exact x2
    .rw[show i=(cZ s k).2.1.length by omega,new];refine⟨r,hr,?_,be⟩;rw[List.getD,aQ be,Y,bP];rfl
   .rcases aR j (cZ s k).2.1.length with h5|h5
    .rw[old i be,old j h5];exact N i j PR h5
    .rw[show j=(cZ s k).2.1.length by omega,new,old i be];obtain⟨_,_,_,x3⟩:=X i be;exact x3
   .rcases aR q k with h5|h5
    .obtain⟨i,i1,i2⟩:=h4 q h5 x G;exact⟨i,be,by rw[old i i1];exact i2⟩
    .exact⟨(cZ s k).2.1.length,be,by rw[new];omega⟩
  .rw[e];refine⟨Y,fun i D=>?_,N,fun q hq x G=>?_⟩
   .obtain⟨x,x1,x2,x3⟩:=X i D;exact⟨x,x1,x2,be⟩
   .rcases aR q k with h5|h5
    .exact h4 q h5 x G
    .rw[show q=k by omega]at G;exact absurd G (hr x)
theorem gz{α:Type}{a b:List α}(d:α)(hl:a.length=b.length)(h:∀i,i<a.length->a.getD i d=b.getD i d):a=b:=by
 refine List.ext_getElem hl fun i Y X=>?_;have:=h i Y
 rwa [List.getD,List.getD,aB Y,aB X]at this
theorem kg{n:Nat}(hM:gD n M)(hW:Bj M n B):(dJ M n).2.1=(cL M n).2/\(dJ M n).1=(cL M n).1.take (cL M n).2.length:=by
 obtain⟨p,EQ,h⟩:=qM hM hW M.length (aN _);obtain⟨Y,X,N,h4⟩:=Ap (s:=g8 M n M.length) n;unfold dJ;generalize g8 M n M.length=s at*
 obtain⟨D',hF⟩:∃D',cZ s n=D':=⟨_,rfl⟩
 rw[hF]at Y X N h4 ⊢;have OD:∀i,i<D'.2.1.length->∃r,r<s.1.length/\p r=D'.2.1.getD i 0/\D'.1.getD i []=s.1.getD r []/\D'.2.1.getD i 0<n:=fun i D=>by
  obtain⟨r,r1,r2,A⟩:=X i D;obtain⟨k1,k2⟩:=(h.Mi _ A r).1 r1;exact⟨r,k1,k2,r2,A⟩
 have inj:∀i j,i<D'.2.1.length->j<D'.2.1.length->D'.2.1.getD i 0=D'.2.1.getD j 0->i=j:=fun i j D hj e=>by
  rcases bw i j with h5|h5|h5
  .have:=N i j h5 hj;omega
  .exact h5
  .have:=N j i h5 D;omega
 have hrf:Rf (dB D'.1) (fun i=>D'.2.1.getD i 0) D'.2.1.length n:=by
  refine⟨fun i D=>?_,N,fun i j D hj=>?_,fun i t D ht=>?_⟩
  .obtain⟨_,_,_,_,h5⟩:=OD i D;exact h5
  .obtain⟨a,a1,a2,a3,_⟩:=OD i D;obtain⟨b,b1,b2,b3,_⟩:=OD j hj;rw[dB,b3,<-a2];have:=h.yM.ru.unit a b a1 b1;unfold dB at this;rw[this];by_cases h5:j=i
   .rw[aH h5,aH (h.yM.ru.inj b a b1 a1 (by rw[a2,b2,h5]))]
   .rw[aF h5,aF fun e=>h5 (inj j i hj D (by rw[<-a2,<-b2,e]))]
  .obtain⟨a,a1,a2,a3,_⟩:=OD i D;rw[dB,a3];have:=h.yM.ru.lead a t a1 (by rw[a2];exact ht);unfold dB at this;exact this
 have hsp:∀r,r<s.1.length->dw (dB D'.1) D'.2.1.length n (dB s.1 r):=fun r hr=>by
  have hp:=h.yM.ru.lt r hr;obtain⟨i,i1,i2⟩:=h4 (p r) hp r ((h.Mi _ hp r).2 ⟨hr,rfl⟩);obtain⟨a,a1,a2,a3,_⟩:=OD i i1;have e:a=r:=h.yM.ru.inj a r a1 hr (by rw[a2,i2]);exact(dw.row i1).congr fun t _=>by rw[dB,dB,a3,e]
 obtain⟨e1,e2,e3⟩:=DP hM hrf (fun i D=>by
  obtain⟨a,a1,a2,a3,_⟩:=OD i D
  exact(h.up a a1).congr fun t _=>by rw[dB,dB,a3]) fun j hj=>(h.dn j hj).trans hsp
 obtain⟨g1,g2,-,-,-⟩:=dZ hM n (aN _);refine⟨gz 0 e1.symm fun i D=>(e2 i D).symm,gz [] ?_ fun i D=>?_⟩
 .rw[aZ,e1,Y];omega
 .rw[Y]at D;have Tz:i<(cL M n).2.length:=by omega
  obtain⟨a,a1,a2,a3,_⟩:=OD i D;have Qt:(D'.1.getD i []).length=n:=by rw[a3];exact h.ok.len.getD a1
  have F:((cL M n).1.take (cL M n).2.length).getD i []=(cL M n).1.getD i []:=by rw[List.getD,bT Tz,<-List.getD]
  rw[F];refine gz 0 (by rw[Qt,g1.getD be]) fun t ht=>?_;rw[Qt]at ht;exact(e3 i t D ht).symm
structure NQ(M:List (List Rat))(n B c:Nat)(s:List (List Rat)×List Nat)(σ:Nat->Nat)(EQ:Mx):Prop where
 red:Mh n c s
 mon:Ia s
 len:s.1.length=M.length
 yM:yK (dB s.1) (fun i=>s.2.getD i 0) s.2.length n B EQ
 Mq:∀j,j<M.length->σ j<M.length
 rest:∀j,s.2.length<=j->j<M.length->∀t,t<n->dB s.1 j t=lK (dB s.1) (fun i=>s.2.getD i 0) s.2.length (dB M (σ j)) n t
theorem NQ.step{n c:Nat}{s:List (List Rat)×List Nat}{EQ:Mx}(h:NQ M n B c s σ EQ)(hW:Bj M n B)(hc:c<n):∃σ' Z',NQ M n B (c+1) (dh s c) σ' Z':=by
 have Py:=h.red.step hc;have hmon:=h.mon.step h.red hc;have hlen:(dh s c).1.length=M.length:=by rw[nI,h.len]
 obtain⟨hl,hle,hz,Qw,hu⟩:=h.red;rcases jK c hle with⟨e,h0⟩|⟨k,Y,X,N,e⟩
 .rw[e]at Py hmon hlen ⊢;exact⟨σ,EQ,Py,hmon,hlen,h.yM,h.Mq,h.rest⟩
 .obtain⟨r1,r2⟩:=kc hl Y X N e;have e2:(dh s c).2=s.2++[c]:=by rw[e]
  have e3:(dh s c).2.length=s.2.length+1:=by rw[e2];simp
  have hkM:k<M.length:=by rw[<-h.len];exact X
  have E:=h.rest k Y hkM;obtain⟨d,hd,-,hdz⟩:=hW (σ k) (h.Mq k hkM);have hC:=h.yM.push (u:=dB s.1 k) hd hdz E hc N fun t ht=>hz k t Y X ht;have hold:∀i,i<s.2.length->(dh s c).2.getD i 0=s.2.getD i 0:=fun i D=>by rw[e2,List.getD,aK D,<-List.getD]
  have So:(dh s c).2.getD s.2.length 0=c:=by rw[e2,List.getD,aQ (aN _),bP];rfl
  have hE:∀i t,i<s.2.length+1->t<n->dB (dh s c).1 i t=kA (dB s.1) s.2.length (dB s.1 k) c i t:=fun i t D ht=>by
   unfold kA;by_cases Uy:i=s.2.length
   .rw[aH Uy,Uy,r1,bo,bo,cA]
   .rw[aF Uy,r2 i be Uy t ht,aF be,bo,bo,cA]
  have Uz:yK (dB (dh s c).1) (fun i=>(dh s c).2.getD i 0) (dh s c).2.length n B fun i t=>if i=s.2.length then d*dB M (σ k) t else EQ i t:=by
   rw[e3];refine hC.congr hE (fun i D=>?_) fun _ _ _ _=>rfl;by_cases Uy:i=s.2.length
   .rw[aH Uy,Uy,So]
   .rw[aF Uy,hold i be]
  refine⟨fun j=>if j=k then σ s.2.length else σ j,_,Py,hmon,hlen,Uz,fun j hj=>?_,fun j hj hjM t ht=>?_⟩
  .split
   .exact h.Mq _ be
   .exact h.Mq j hj
  .rw[e3]at hj;have hjs:j<s.1.length:=by rw[h.len];exact hjM
   obtain⟨jj,hjj⟩:∃jj,(if j=k then s.2.length else j)=jj:=⟨_,rfl⟩
   have hjr:s.2.length<=jj:=by rw[<-hjj];split<;>omega
   have Sb:jj<M.length:=by rw[<-hjj];split<;>omega
   have hσ:(if j=k then σ s.2.length else σ j)=σ jj:=by rw[<-hjj];split<;>rfl
   rw[hσ];refine Kj Uz.ru ?_ (fun i D=>?_) ht
   .have hr:dw (dB (dh s c).1) (dh s c).2.length n (dB (dh s c).1 s.2.length):=dw.row be;have h5:dw (dB s.1) s.2.length n fun t=>cW (fun i=>dB M (σ jj) (s.2.getD i 0)*dB s.1 i t) s.2.length:=⟨_,fun t _=>rfl⟩
    have h6:dw (dB (dh s c).1) (dh s c).2.length n fun t=>cW (fun i=>dB M (σ jj) (s.2.getD i 0)*dB s.1 i t) s.2.length:=h5.trans fun i D=>by
     rw[e3];exact dw.Eo (qK N i D) hE
    refine(h6.add hr (dB s.1 jj c)).congr fun t ht=>?_;have h7:=h.rest jj hjr Sb t ht;unfold lK at h7;rw[cG (g:=fun i=>dB M (σ jj) (s.2.getD i 0)*dB s.1 i t) fun i D=>aH (h.yM.ru.lt i D)]at h7;rw[r2 j hjs be t ht,hjj,r1,h7];grind
   .rw[Py.2.2.2.2 i j D (by rw[hlen];exact hjM),aF be]
theorem ow{M:List (List Rat)}{n B:Nat}(hM:gD n M)(hW:Bj M n B):∀c,c<=n->∃σ EQ,NQ M n B c (cL M c) σ EQ
 |0,_=>⟨fun j=>j,fun _ _=>0,⟨hM,aP _,fun _ _ _ _ h=>be,fun p hp=>(by cases hp),fun _ _ h=>(by cases h)⟩,⟨fun _ _ _ h=>(by cases h),fun _ _ h=>(by cases h)⟩,rfl,yK.start _ _ _ _ _,fun j hj=>hj,fun j _ hj t ht=>by
   show dB M j t=lK (dB M) _ 0 (dB M j) n t;unfold lK;show _=_-0
   grind⟩
 |c+1,hc=>by
  obtain⟨σ,EQ,h⟩:=ow hM hW c be;unfold cL at h ⊢;rw[bZ,List.foldl_append];exact h.step hW be
theorem Er{n:Nat}(hM:gD n M)(hW:Bj M n B)(hB:1<=B){c:Nat}(hc:c<=n):∀r∈(cL M c).1,∀q∈r,rl q<=ln (fB B M.length):=fun r hr q hq=>by
 obtain⟨σ,EQ,h⟩:=ow hM hW c hc;obtain⟨a,ha⟩:=aT hr;obtain⟨t,ht⟩:=aT hq;have Pu:=(aD.1 ha).1;have RS:=(aD.1 ht).1;rw[h.red.1 r hr]at RS;have hle:=h.red.2.1;have e:q=dB (cL M c).1 a t:=by rw[dB,show(cL M c).1.getD a []=r by rw[List.getD,ha];rfl,List.getD,ht];rfl
 rw[h.len]at Pu hle;rw[e];rcases aR a (cL M c).2.length with Y|Y
 .exact bB (h.yM.Il Y RS) (fA (qL hB hle))
 .obtain⟨d,hd,hdB,hz⟩:=hW _ (h.Mq a Pu);rw[h.rest a Y Pu t RS];exact bB (h.yM.Im hB hd hdB hz n RS) (fA (qL hB be))
end
variable{F8 M:List (List Rat)}{pv:List Nat}{B j:Nat}{v:Nat->Rat}
theorem Aq(f:Nat->Rat):∀n,cW f n=j7 (List.range n) f
 |0=>rfl
 |n+1=>by
  rw[cW,Aq f n,bZ,vL];show _=_+(_+0)
  rw[bg]
theorem Ar(g:Nat->Rat):∀l:List Nat,j7 l g=cW (fun k=>g (l.getD k 0)) l.length
 |[]=>rfl
 |t::l=>by
  rw[bO,xy];show g t+j7 l g=g t+_;rw[Ar g l];rfl
def mulR(M:List (List Rat))(n:Nat)(x:Nat->Rat)(j:Nat):Rat:=cW (fun t=>dB M j t*x t) n
theorem dw.dot{Fd:Mx}{r n:Nat}(h:dw Fd r n v):∃c:Nat->Rat,(∀t,t<n->v t=cW (fun i=>c i*Fd i t) r)/\∀x:Nat->Rat,cW (fun t=>v t*x t) n=cW (fun i=>c i*cW (fun t=>Fd i t*x t) n) r:=by
 obtain⟨c,hc⟩:=h;refine⟨c,hc,fun x=>?_⟩;rw[cG (g:=fun t=>cW (fun i=>c i*Fd i t*x t) r) fun t ht=>by rw[hc t ht,<-kZ],mZ];exact cG fun i _=>by rw[<-eY];exact cG fun t _=>Rat.mul_assoc _ _ _
section
variable{M:List (List Rat)}{n:Nat}{x:Nat->Rat}{b:List Rat}
theorem Iq(hM:gD n M)(h:∀j,j<M.length->mulR M n x j=0){c:Nat}(hc:c<=n):∀i,i<M.length->mulR (cL M c).1 n x i=0:=fun i D=>by
 obtain⟨c,_,X⟩:=((jF hM c hc).1 i D).dot;unfold mulR;rw[X x,cG (g:=fun _=>0) fun j hj=>by rw[show cW (fun t=>dB M j t*x t) n=0 from h j hj,bD],dX]
theorem DU(hM:gD n M){c:Nat}(hc:c<=n)(h:∀i,i<M.length->mulR (cL M c).1 n x i=0):∀j,j<M.length->mulR M n x j=0:=fun j hj=>by
 obtain⟨c,_,X⟩:=((jF hM c hc).2 j hj).dot;unfold mulR;rw[X x,cG (g:=fun _=>0) fun i D=>by rw[show cW (fun t=>dB (cL M _).1 i t*x t) n=0 from h i D,bD],dX]
theorem j9(hM:gD n M){t:Nat}(hj:j<M.length):(t<n->dB (df M b) j t=dB M j t)/\dB (df M b) j n=b.getD j 0:=by
 have hr:=aB hj;have hl:(M[j]).length=n:=hM _ (a9 hj);have e:(df M b).getD j []=M[j]++[b.getD j 0]:=by rw[df,List.getD,List.getElem?_mapIdx,hr];rfl
 have e2:M.getD j []=M[j]:=by rw[List.getD,hr];rfl
 refine⟨fun ht=>?_,?_⟩
 .rw[dB,dB,e,e2,List.getD,aK be,<-List.getD]
 .rw[dB,e,List.getD,aQ be,hl,bP];rfl
def DV(x:Nat->Rat)(n t:Nat):Rat:=if t<n then x t else -1
theorem Es(hM:gD n M)(hj:j<M.length):mulR (df M b) (n+1) (DV x n) j=mulR M n x j-b.getD j 0:=by
 have h:=fun t=>j9 (b:=b) (t:=t) hM hj;unfold mulR;rw[cW,(h 0).2,show DV x n n= -1 by unfold DV;rw[aF (Nat.lt_irrefl n)],cG (g:=fun t=>dB M j t*x t) fun t ht=>by rw[(h t).1 ht];unfold DV;rw[aH ht]];grind
def fu(M:List (List Rat))(b:List Rat)(n:Nat):Option (List Rat):=
 let e:=cL (df M b) n
 if ∀j,j<M.length->e.2.length<=j->dB e.1 j n=0 then some (gT e.1 e.2 n e.2.length)else none
theorem kh{x:List Rat}(hM:gD n M)(h:fu M b n=some x):x.length=n/\∀j,j<M.length->mulR M n (fun t=>x.getD t 0) j=b.getD j 0:=by
 unfold fu at h;dsimp only at h;split at h
 .rename_i h0;injection h with h;have hW:=iL (b:=b) hM;obtain⟨r1,r2,A,r4,r5⟩:=dZ hW n (Nat.le_succ n);have Qw:=gg (df M b) n;have VA:=eN (M:=M) (b:=b);have hl:=eD (df M b) n;have PJ:x.length=n:=by rw[<-h,jd]
  have Q2:∀j,j<(cL (df M b) n).2.length->x.getD ((cL (df M b) n).2.getD j 0) 0=dB (cL (df M b) n).1 j n:=fun j hj=>by
   rw[<-h];exact nJ (D':=gT (cL (df M b) n).1 (cL (df M b) n).2 n) (f:=fun i=>dB (cL (df M b) n).1 i n) (fun i=>gZ _ _ n i) (jd _ _ n) Qw.2.1 r4 _ (aN _) hj
  have QR:∀t,t∉(cL (df M b) n).2->x.getD t 0=0:=fun t ht=>by rw[<-h];exact s5 ht
  refine⟨PJ,fun j hj=>?_⟩;have key:=DU (M:=df M b) (x:=DV (fun t=>x.getD t 0) n) hW (c:=n) (Nat.le_succ n) (fun i D=>?_) j (by rw[VA];exact hj)
  .rw[Es hM hj]at key;grind
  .unfold mulR;rw[cW,show DV (fun t=>x.getD t 0) n n= -1 by unfold DV;rw[aF (Nat.lt_irrefl n)],cG (g:=fun t=>dB (cL (df M b) n).1 i t*x.getD t 0) fun t ht=>by unfold DV;rw[aH ht]];rcases aR i (cL (df M b) n).2.length with Y|Y
   .rw[e7 (i:=(cL (df M b) n).2.getD i 0) (r4 _ (by rw[List.getD,aB Y];exact a9 _)) fun t ht OB=>?_,r5 i i Y be,aH rfl,Q2 i Y]
    .grind
    .by_cases hp:t∈(cL (df M b) n).2
     .obtain⟨k,E,rfl⟩:=rQ hp;rw[r5 k i E be,aF (fun e=>OB (by rw[e])),bH]
     .rw[QR t hp,bD]
   .rw[cG (g:=fun _=>0) fun t ht=>by rw[A i t Y be ht,bH],dX,h0 i (by rw[<-VA];exact D) Y];grind
 .cases h
theorem nO(hM:gD n M)(h:fu M b n=none):∃y:Nat->Rat,(∀t,t<n->cW (fun j=>y j*dB M j t) M.length=0)/\cW (fun j=>y j*b.getD j 0) M.length≠0:=by
 unfold fu at h;dsimp only at h;split at h
 .cases h
 .rename_i h0;obtain⟨i,D,Y,X⟩:∃i,i<M.length/\(cL (df M b) n).2.length<=i/\dB (cL (df M b) n).1 i n≠0:=by
   refine Decidable.byContradiction fun Qm=>h0 fun j hj hr=>Decidable.byContradiction fun X=>Qm ⟨j,hj,hr,X⟩
  have hW:=iL (b:=b) hM;have VA:=eN (M:=M) (b:=b);have hl:=eD (df M b) n;obtain⟨r1,r2,A,r4,r5⟩:=dZ hW n (Nat.le_succ n);obtain⟨y,hy⟩:=(jF hW n (Nat.le_succ n)).1 i be;rw[VA]at hy;refine⟨y,fun t ht=>?_,?_⟩
  .have N:=hy t be;rw[A i t Y be ht]at N;rw[N];exact cG fun j hj=>by rw[(j9 (b:=b) hM hj).1 ht]
  .have N:=hy n be;rw[cG (g:=fun j=>y j*b.getD j 0) fun j hj=>by rw[(j9 (b:=b) (t:=n) hM hj).2]]at N;rw[<-N];exact X
theorem As{x:Nat->Rat}(hM:gD n M)(h:∀j,j<M.length->mulR M n x j=b.getD j 0):∃z,fu M b n=some z:=by
 cases e:fu M b n with
 |some z=>exact⟨z,rfl⟩
 |none=>
  obtain⟨y,Y,X⟩:=nO hM e;refine absurd ?_ X;rw[cG fun j hj=>by rw[<-h j hj,mulR,<-eY],mZ,cG (g:=fun _=>0) fun t ht=>?_,dX];rw[cG (g:=fun j=>y j*dB M j t*x t) fun j _=>(Rat.mul_assoc _ _ _).symm,kZ,Y t ht,bH]
theorem Ir(M:List (List Rat))(n:Nat)(x y:Nat->Rat)(j:Nat):mulR M n (fun t=>x t-y t) j=mulR M n x j-mulR M n y j:=by
 unfold mulR;rw[<-s6];exact cG fun t _=>by grind
theorem sf(M:List (List Rat))(b:List Rat):j3 M b=df M b:=rfl
theorem DW{r i t:Nat}(h:i<r):dB (F8.take r) i t=dB F8 i t:=by
 rw[dB,dB,show(F8.take r).getD i []=F8.getD i [] by rw[List.getD,bT h,<-List.getD]]
theorem vQ(F8:List (List Rat))(pv:List Nat)(n:Nat):∀k,k<=pv.length->gT (F8.take pv.length) pv n k=gT F8 pv n k
 |0,_=>rfl
 |k+1,h=>by rw[gZ,gZ,vQ F8 pv n k be,DW be]
theorem vR(F8:List (List Rat))(pv:List Nat)(n c:Nat):∀k,k<=pv.length->ff (F8.take pv.length) pv n c k=ff F8 pv n c k
 |0,_=>rfl
 |k+1,h=>by rw[gY,gY,vR F8 pv n c k be,DW be]
abbrev cS(M:List (List Rat))(n:Nat):List (List Rat):=eK (cL M n).1 (cL M n).2 n n
theorem Et(hM:gD n M)(hW:Bj M n B):kO M n=cS M n:=by
 obtain⟨e1,e2⟩:=kg hM hW;unfold kO cS eK;rw[e1,e2];exact List.map_congr_left fun c _=>vR _ _ n c _ (aN _)
theorem uO(hM:gD n M)(hW:Bj (df M b) (n+1) B):nM M b n=fu M b n:=by
 have hWl:=iL (b:=b) hM;obtain⟨e1,e2⟩:=kg hWl hW;have hl:=eD (df M b) n;have VA:=eN (M:=M) (b:=b);obtain⟨r1,r2,A,r4,r5⟩:=dZ hWl n (Nat.le_succ n);have e:cL (df M b) (n+1)=dh (cL (df M b) n) n:=by
  unfold cL;rw[bZ,List.foldl_append];rfl
 unfold nM fu;dsimp only
 rcases jK n r2 with⟨k1,k2⟩|⟨k,k1,k2,k3,k4⟩
 .rw[aF (by rw[sf,e1,e,k1];exact fun h=>by have:=r4 n h;omega),aH fun j hj hr=>k2 j hr be,sf,e1,e2,e,k1,vQ _ _ n _ (aN _)]
 .rw[aH (by rw[sf,e1,e,k4];simp),aF fun h=>k3 (h k be k1)]
theorem Is(hM:gD n M){x:List Rat}(h:∀j,j<M.length->mulR M n (fun t=>x.getD t 0) j=0):Diff (cL M n).1 (cL M n).2 n x:=by
 obtain⟨r1,r2,A,r4,r5⟩:=dZ hM n (aN _);have Qw:=gg M n;have hl:=eD M n;refine⟨Qw.2.1,r4,r2,r5,fun j hj=>?_⟩;rw[<-Aq];have Y:=Iq hM h (aN n) j be;unfold mulR at Y;rw[Y,dB,List.getD,List.getElem?_eq_none (by rw[r1.getD hj];exact aN _)];rfl
theorem ki(M:List (List Rat))(n:Nat):(cS M n).length=(il (cL M n).2 n).length:=by unfold cS eK;rw[aM]
theorem yN(M:List (List Rat))(n:Nat){k:Nat}(E:k<(cS M n).length):(cS M n).getD k []=ff (cL M n).1 (cL M n).2 n ((il (cL M n).2 n).getD k 0) (cL M n).2.length:=by
 obtain⟨r,hr⟩:∃r,(cS M n)[k]? =some r:=⟨_,aB E⟩
 rw[List.getD,hr];exact(nK hr).2
theorem nP(M:List (List Rat))(n:Nat):gD n (cS M n):=fun r hr=>by
 obtain⟨k,E⟩:=aT hr;rw[(nK E).2,jc]
theorem sh(hM:gD n M){k:Nat}(E:k<(cS M n).length):∀j,j<M.length->mulR M n (dB (cS M n) k) j=0:=by
 obtain⟨r1,r2,A,r4,r5⟩:=dZ hM n (aN _);have Qw:=gg M n;have hl:=eD M n;have hf:=ke.1 (ov (by rw[<-ki];exact E));refine DU hM (aN n) fun i D=>?_;have OD:=yN M n E;generalize hc:(il (cL M n).2 n).getD k 0=c at hf OD;have Q2:∀j,j<(cL M n).2.length->dB (cS M n) k ((cL M n).2.getD j 0)= -(dB (cL M n).1 j c):=fun j hj=>by
  rw[dB,OD];exact nJ (D':=ff (cL M n).1 (cL M n).2 n c) (f:=fun i=> -(dB (cL M n).1 i c)) (fun i=>gY _ _ n c i) (jc _ _ n c) Qw.2.1 r4 _ (aN _) hj
 have QR:∀t,t∉(cL M n).2->dB (cS M n) k t=if t=c then 1 else 0:=fun t ht=>by rw[dB,OD];exact ou ht hf.1
 unfold mulR;rcases aR i (cL M n).2.length with Y|Y
 .have hpi:(cL M n).2.getD i 0∈(cL M n).2:=by rw[List.getD,aB Y];exact a9 _
  have OB:(cL M n).2.getD i 0≠c:=fun e=>hf.2 (e▸hpi);have e:cW (fun t=>dB (cL M n).1 i t*dB (cS M n) k t) n=cW (fun t=>(if t=(cL M n).2.getD i 0 then -(dB (cL M n).1 i c)else 0)+(if t=c then dB (cL M n).1 i c else 0)) n:=by
   refine cG fun t ht=>?_;by_cases hp:t∈(cL M n).2
   .obtain⟨j,hj,rfl⟩:=rQ hp;rw[Q2 j hj,r5 j i hj be,aF (show ¬(cL M n).2.getD j 0=c from fun e=>hf.2 (e▸hp)),bg];by_cases PR:i=j
    .rw[aH PR,aH (by rw[PR]),PR,cA]
    .have hne2:(cL M n).2.getD j 0≠(cL M n).2.getD i 0:=fun e2=>PR (by
      rcases bw i j with h5|h5|h5
      .have:(cL M n).2.getD i 0<(cL M n).2.getD j 0:=I4 Qw.2.1 h5 hj;omega
      .exact h5
      .have:(cL M n).2.getD j 0<(cL M n).2.getD i 0:=I4 Qw.2.1 h5 Y
       omega)
     rw[aF PR,aF hne2,bH]
   .rw[QR t hp,aF (show ¬t=(cL M n).2.getD i 0 from fun e2=>hp (e2▸hpi)),Rat.zero_add];by_cases htc:t=c
    .rw[aH htc,aH htc,htc,Rat.mul_one]
    .rw[aF htc,aF htc,bD]
  rw[e,fg,e7 (i:=(cL M n).2.getD i 0) (r4 _ hpi) fun t _ OB=>aF OB,e7 (i:=c) hf.1 fun t _ OB=>aF OB,aH rfl,aH rfl];grind
 .rw[cG (g:=fun _=>0) fun t ht=>by rw[A i t Y be ht,bH],dX]
theorem GM(hM:gD n M)(h:∀j,j<M.length->mulR M n x j=0):∃c:Nat->Rat,∀t,t<n->x t=cW (fun k=>c k*dB (cS M n) k t) (cS M n).length:=by
 obtain⟨l,hl⟩:∃l,l=(List.range n).map x:=⟨_,rfl⟩
 have G:∀t,t<n->l.getD t 0=x t:=fun t ht=>by rw[hl,List.getD,aO,bf ht];rfl
 have hd:=Is (x:=l) hM fun j hj=>Eq.trans (cG fun t ht=>congrArg (dB M j t* ·) (G t ht)) (h j hj);refine⟨fun k=>l.getD ((il (cL M n).2 n).getD k 0) 0,fun t ht=>?_⟩;have Y:=hd.rest ht;obtain⟨r1,r2,A,r4,r5⟩:=dZ hM n (aN _);have h0:(gT (cL M n).1 (cL M n).2 n (cL M n).2.length).getD t 0=0:=by
  by_cases hp:t∈(cL M n).2
  .obtain⟨j,hj,rfl⟩:=rQ hp;rw[hd.Nr hj,dB,List.getD,List.getElem?_eq_none (by rw[r1.getD be];exact aN _)];rfl
  .exact s5 hp
 rw[h0,bH,bg,G t ht,Ar]at Y;rw[Y,ki];exact cG fun k E=>by rw[dB,yN M n (by rw[ki];exact E)]
theorem GN{c:Nat->Rat}(h:∀t,t<n->cW (fun k=>c k*dB (cS M n) k t) (cS M n).length=0):∀k,k<(cS M n).length->c k=0:=fun k E=>by
 have US:k<(il (cL M n).2 n).length:=by rw[<-ki];exact E
 have hf:=ke.1 (ov US);have Y:=h _ hf.1;obtain⟨r,hr⟩:∃r,(cS M n)[k]? =some r:=⟨_,aB E⟩
 rw[e7 E fun i D OB=>?_]at Y
 .rw[dB,show(cS M n).getD k []=r by rw[List.getD,hr];rfl,xx hr hr,aH rfl,Rat.mul_one]at Y;exact Y
 .obtain⟨s,hs⟩:∃s,(cS M n)[i]? =some s:=⟨_,aB D⟩
  rw[dB,show(cS M n).getD i []=s by rw[List.getD,hs];rfl,xx hr hs,aF OB,bD]
end
theorem yO(p:Nat->Bool):∀l:List Nat,l.length=(l.filter p).length+(l.filter fun c=> !p c).length
 |[]=>rfl
 |c::l=>by
  have ih:=yO p l;rw[List.filter_cons,List.filter_cons]
  cases p c with
  |true=>simp;omega
  |false=>simp;omega
theorem Iu{n:Nat}(Z:pv.Nodup)(hl:∀p∈pv,p<n):(il pv n).length=n-pv.length:=by
 have Y:(List.range n).length=((List.range n).filter fun c=>decide (c∉pv)).length+((List.range n).filter fun c=>decide (c∈pv)).length:=by
  refine(yO (fun c=>decide (c∉pv)) (List.range n)).trans ?_;congr 2;refine List.filter_congr fun c _=>?_;by_cases h:c∈pv<;>simp[h]
 have X:((List.range n).filter fun c=>decide (c∈pv)).length=pv.length:=by
  refine(List.Perm.length_eq ?_);refine(List.perm_ext_iff_of_nodup (List.Pairwise.filter _ List.nodup_range) Z).2 fun c=>?_;rw[List.mem_filter,List.mem_range,decide_eq_true_eq];exact⟨fun h=>h.2,fun h=>⟨hl c h,h⟩⟩
 rw[List.length_range]at Y;unfold il;omega
theorem yP{n:Nat}(hM:gD n M):(cS M n).length=n-(cL M n).2.length:=by
 obtain⟨r1,r2,A,r4,r5⟩:=dZ hM n (aN _);have Qw:=gg M n;rw[ki];exact Iu (Qw.2.1.imp fun h=>Nat.ne_of_lt h) r4
end Go.Ex
namespace Go.Ex
open Go Go.Sx Go.Proofs
variable{M:List (List Rat)}{C S:Nat->Prop}{v:Value}{w:World}
theorem cT.nil:cT w S nls []:=⟨[],⟨bi,rfl,fun u hu=>absurd hu bv,none,0,rfl,lr,fun j u hu=>absurd hu bv⟩,rfl,fun i u x Y X=>absurd X bv⟩
theorem dT.nil:dT w S nls []:=⟨bi,rfl,fun u hu=>absurd hu bv,none,0,rfl,lr,fun j u hu=>absurd hu bv⟩
theorem CS(M:List (List Rat)):(dJ M 0).1=[]/\(dJ M 0).2.1=[]/\(dJ M 0).2.2=[]:=by simp[dJ,cZ]
theorem CT(M:List (List Rat)):kO M 0=[]:=by simp[kO,eK]
theorem wI(hC:Old C w)(U:Old S w)(hM:kU w C S v M)(hlen:gD 0 M)(hR:M.length<=1000):
  eC PG Fn.fN #[.agg #[v,iV 0],iV 0] w (eI w fun v' I=>v'= .agg #[nls,iV 0,nls,nls]):=by
 have V:=bR w;obtain⟨am,cm,rfl,Sd,Rc⟩:=kU.shape hM;unfold maxLen at Rc;refine jN bv ?_;refine⟨0,0,rfl,rfl,lr,be,be,World,fun z=>⟨[(1,iZ 0),(2,pP 0 0),(4,pP 1 0),(5,pP 2 0),(6,.o (.s 3 0 0 0)),(27,iZ 0),(28,iZ 0)],[(3,.arr T.int []),(2,.box T.dN [.v nls,.v (iV 0),.v nls,.v nls]),(1,.box T.dN [.v nls,.v (iV 0),.v nls,.v nls]),(0,.box T.dY [.v (.slice am M.length cm),.v (iV 0)])],4,[],z⟩,fun z=>0,fun z=>Bq w z,?_,?_⟩
 .intro O J A;exact⟨J,V.tr A.cN,sbgn [] A⟩
 rintro w1 V;dsimp only at V ⊢
 refine⟨Nat×World,fun z=>⟨[(38,iN z.1),(1,iZ 0),(2,pP 0 0),(4,pP 1 0),(5,pP 2 0),(6,.o (.s 3 0 0 0)),(36,sV am M.length cm),(37,iZ M.length)],[(3,.arr T.int []),(2,.box T.dN [.v nls,.v (iV 0),.v nls,.v nls]),(1,.box T.dN [.v nls,.v (iV 0),.v nls,.v nls]),(0,.box T.dY [.v (.slice am M.length cm),.v (iV 0)])],5,[],z.2⟩,fun z=>M.length-z.1,
  fun z=>z.1<=M.length/\Bq w z.2,?_,?_⟩
 .intro O J A;exact⟨(0,J),⟨aP _,V.tr A.cN⟩,sbgn [] A⟩
 rintro⟨i,w1⟩ ⟨D,V⟩;dsimp only at D V ⊢;apply bS<;>intro Ny
 .have Ny:=dL Ny;obtain⟨x,G⟩:=gO M i;have PJ:=hlen x (aG G);obtain rfl:=List.eq_nil_of_length_eq_zero PJ;obtain⟨adm,um,Qh,PD,km1,km2⟩:=kU.load hM G;obtain⟨W,⟨-,g1,g2,a0,c0,rfl,g4,g5⟩,OR,Sg,Of⟩:=PD;obtain rfl:=List.eq_nil_of_length_eq_zero OR;refine⟨adm,Qh,be,.slice a0 0 c0,rd1 km2 V (hC _ km1),?_⟩;refine .inl ?_;refine⟨[],rfl,g2,fun O J r PB=>absurd PB bv,rfl,be,mx,World,fun z=>⟨[(9,.o (.w 6 0)),(46,iZ 0),(47,iZ 0),(2,pP 0 0),(4,pP 1 0),(5,pP 2 0),(6,.o (.s 3 0 0 0)),(8,iN i),(36,sV am M.length cm),(37,iZ M.length),(38,iN i),(1,iZ 0)],[(6,.vec T.Rat 4 []),(3,.arr T.int []),(2,.box T.dN [.v nls,.v (iV 0),.v nls,.v nls]),(1,.box T.dN [.v nls,.v (iV 0),.v nls,.v nls]),(0,.box T.dY [.v (.slice am M.length cm),.v (iV 0)])],7,[],z⟩,fun z=>0,fun z=>Bq w z,?_,?_⟩
  .intro O J A;exact⟨J,V.tr A.cN,sbgn [] A⟩
  rintro w1 V;dsimp only at V ⊢;refine⟨World,fun z=>⟨[(9,.o (.w 6 0)),(12,iZ 0),(2,pP 0 0),(4,pP 1 0),(5,pP 2 0),(6,.o (.s 3 0 0 0)),(8,iN i),(36,sV am M.length cm),(37,iZ M.length),(38,iN i),(1,iZ 0)],[(6,.vec T.Rat 4 []),(3,.arr T.int []),(2,.box T.dN [.v nls,.v (iV 0),.v nls,.v nls]),(1,.box T.dN [.v nls,.v (iV 0),.v nls,.v nls]),(0,.box T.dY [.v (.slice am M.length cm),.v (iV 0)])],7,[],z⟩,fun z=>0,fun z=>Bq w z,?_,?_⟩
  .intro O J A;exact⟨J,V.tr A.cN,sbgn [] A⟩
  rintro w1 V;dsimp only at V ⊢;refine inc i ?_;intro IR w3 A;exact⟨(i+1,w3),⟨Ny,V.tr A.cN⟩,sbgn [] A,dec Ny⟩
 refine⟨World,fun z=>⟨[(4,pP 1 0),(5,pP 2 0),(17,pP 5 0),(159,.o (.s 3 0 0 0)),(160,iZ 0),(161,iZ 0)],[(5,.box T.dN [.v nls,.v (iV 0),.v nls,.v nls]),(3,.arr T.int []),(2,.box T.dN [.v nls,.v (iV 0),.v nls,.v nls]),(1,.box T.dN [.v nls,.v (iV 0),.v nls,.v nls]),(0,.box T.dY [.v (.slice am M.length cm),.v (iV 0)])],6,[],z⟩,fun z=>0,fun z=>Bq w z,?_,?_⟩
 .intro O J A;exact⟨J,V.tr A.cN,sbgn [] A⟩
 rintro w1 V;dsimp only at V ⊢;exact rtn V fun GT we re=>rfl
theorem Fb(hC:Old C w)(U:Old S w)(hM:kU w C S v M)(hlen:gD 0 M)(hR:M.length<=1000):
  eC PG Fn.fN #[.agg #[v,iV 0],iV 0] w (eI w fun v' I=>∃vr vp vf,v'= .agg #[vr,iV 0,vp,vf]/\cT I (Nw S w I) vr (dJ M 0).1/\dT I (Nf w I) vp (dJ M 0).2.1/\dT I (Nf w I) vf (dJ M 0).2.2):=by
 refine(wI hC U hM hlen hR).mono fun v1 w1 Y=>?_;obtain⟨_,e,hb,rfl⟩:=Y;obtain⟨e1,e2,e3⟩:=CS M;rw[e1,e2,e3];exact⟨_,e,hb,_,_,_,rfl,cT.nil,dT.nil,dT.nil⟩
theorem zY{n h:Nat}(hC:Old C w)(U:Old S w)(hM:kU w C S v M)(hlen:gD n M)(hR:M.length<=1000)(Z:n<=1000)(hB:CI M n h)(hh:3*h<=90000):
  eC PG Fn.fN #[.agg #[v,iV n],iV n] w (eI w fun v' I=>∃vr vp vf,v'= .agg #[vr,iV n,vp,vf]/\cT I (Nw S w I) vr (dJ M n).1/\dT I (Nf w I) vp (dJ M n).2.1/\dT I (Nf w I) vf (dJ M n).2.2):=by
 rcases bN n with h0|h0
 .subst h0;exact Fb hC U hM hlen hR
 .exact uv hC U hM hlen h0 Z hR lr hB hh
theorem Fe(hC:Old C w)(U:Old S w)(hM:kU w C S v M)(hlen:gD 0 M)(hR:M.length<=1000):
  eC PG Fn.gF #[.agg #[v,iV 0]] w (eI w fun v' I=>cT I (Nf w I) v' (kO M 0)):=by
 have V:=bR w;obtain⟨am,cm,rfl,Sd,Rc⟩:=kU.shape hM;unfold maxLen at Rc;refine jM bv ?_
 refine cD (cM (If:=fun _ J v I=>v= .agg #[nls,iV 0,nls,nls]) (fun O J r=>by
  obtain⟨rv,m1,m2,m3⟩:=hM
  exact wI (C:=C) (S:=S) (oS hC r) (oS U r) ⟨rv,m1.cK fun g F=>(V.tr r.cN).block g (hC g F),m2,fun i u x Y X=>cP.cK (m3 i u x Y X) fun g F=>(V.tr r.cN).block g (U g F)⟩ hlen hR) ?_)
 rintro O Ph v1 Pa r R Om rfl;replace V:=V.tr Om;generalize (Ph.heap.size,Pa.heap.size)::[]=OK at*
 refine⟨0,0,rfl,rfl,lr,be,be,World×Iv,fun z=>⟨[(1,pP 0 0),(3,pP 1 0),(4,.o (.s 2 0 0 0)),(20,sV none 0 0),(21,iZ 0),(22,iZ 0)],[(2,.arr T.bool []),(1,.box T.dN [.v nls,.v (iV 0),.v nls,.v nls]),(0,.box T.dY [.v (.slice am M.length cm),.v (iV 0)])],3,z.2,z.1⟩,fun z=>0,fun z=>Bq w z.1,?_,?_⟩
 .intro O J A;exact⟨(J,_),V.tr A.cN,sbgn [] A⟩
 rintro⟨w1,iv⟩ V;dsimp only at V ⊢;refine⟨World×Iv,fun z=>⟨[(32,iZ 0),(7,sV none 0 0),(1,pP 0 0),(3,pP 1 0),(4,.o (.s 2 0 0 0)),(31,iZ 0)],[(2,.arr T.bool []),(1,.box T.dN [.v nls,.v (iV 0),.v nls,.v nls]),(0,.box T.dY [.v (.slice am M.length cm),.v (iV 0)])],3,z.2,z.1⟩,fun z=>0,fun z=>Bq w z.1,?_,?_⟩
 .intro O J A;exact⟨(J,_),V.tr A.cN,sbgn [] A⟩
 rintro⟨w1,iv⟩ V;dsimp only at V ⊢;intro GT we re;rw[CT];exact⟨_,rfl,V.tr re.cN,cT.nil⟩
theorem Ff{n h:Nat}(hC:Old C w)(U:Old S w)(hM:kU w C S v M)(hlen:gD n M)(hR:M.length<=1000)(Z:n<=1000)(hB:CI M n h)(hAb:Ht (dJ M n).1 h)(hh:3*h<=90000):
  eC PG Fn.gF #[.agg #[v,iV n]] w (eI w fun v' I=>cT I (Nf w I) v' (kO M n)):=by
 rcases bN n with h0|h0
 .subst h0;exact Fe hC U hM hlen hR
 .exact Hh hC U hM hlen h0 Z hR hB hAb hh
end Go.Ex
namespace Go.Ex
variable{M:List (List Rat)}{l x In:List Rat}{F':Nat}{FS:Rat}
theorem si{a b:Rat}(ha:a≠0)(hb:b≠0):a*b≠0:=fun e=>by
 rcases Rat.mul_eq_zero.1 e with h|h
 .exact ha h
 .exact hb h
def Den(F':Nat)(FS:Rat)(l:List Rat):Prop:=FS≠0/\Ib F' FS/\∀t,Ib F' (FS*l.getD t 0)
def Eu(F':Nat)(FS:Rat)(M:List (List Rat)):Prop:=FS≠0/\Ib F' FS/\∀k t,Ib F' (FS*dB M k t)
theorem Den.rl(h:Den F' FS l):∀q∈l,rl q<=ln F':=fun q hq=>by
 obtain⟨j,hj⟩:=aT hq;have:=xP h.1 h.2.1 (h.2.2 j)
 rwa [List.getD,hj]at this
theorem Eu.rl(h:Eu F' FS M):∀r∈M,∀q∈r,rl q<=ln F':=fun r hr q hq=>by
 obtain⟨k,E⟩:=aT hr;obtain⟨j,hj⟩:=aT hq;have:=xP h.1 h.2.1 (h.2.2 k j)
 rwa [dB,show M.getD k []=r by rw[List.getD,E];rfl,List.getD,hj]at this
theorem iw{t:Nat}(h:l.length<=t):l.getD t 0=0:=by rw[List.getD,List.getElem?_eq_none h];rfl
theorem Kk{n k t:Nat}(hM:gD n M)(h:n<=t):dB M k t=0:=by
 rw[dB];rcases aR k M.length with E|E
 .exact iw (by rw[hM.getD E];exact h)
 .rw[show M.getD k []=[] by rw[List.getD,List.getElem?_eq_none E];rfl];rfl
theorem Iw{k t:Nat}(h:M.length<=k):dB M k t=0:=by
 rw[dB,show M.getD k []=[] by rw[List.getD,List.getElem?_eq_none h];rfl];rfl
section
variable{M:List (List Rat)}{n B:Nat}{b:List Rat}
theorem GO(hM:gD n M)(hW:Bj M n B)(hB:1<=B){c:Nat}(hc:c<=n):∃FS:Rat,FS≠0/\Ib (fB B M.length) FS/\∀i t,i<(cL M c).2.length->t<n->Ib (fB B M.length) (FS*dB (cL M c).1 i t):=by
 obtain⟨σ,EQ,h⟩:=ow hM hW c hc;have hle:=h.red.2.1;rw[h.len]at hle;have hm:=qL hB hle;exact⟨_,h.yM.nz,h.yM.den.mono hm,fun i t D ht=>(h.yM.Na D ht).mono hm⟩
theorem Kl(hM:gD n M)(hW:Bj M n B)(hB:1<=B):∃FS,Eu (fB B M.length) FS (cS M n):=by
 obtain⟨FS,h0,hD,hE⟩:=GO hM hW hB (aN n);obtain⟨r1,r2,A,r4,r5⟩:=dZ hM n (aN _);have Qw:=gg M n;refine⟨FS,h0,hD,fun k t=>?_⟩;rcases aR k (cS M n).length with E|E
 .rcases aR t n with ht|ht
  .have hf:=ke.1 (ov (by rw[<-ki];exact E));rw[dB,yN M n E];generalize (il (cL M n).2 n).getD k 0=c at hf;by_cases hp:t∈(cL M n).2
   .obtain⟨j,hj,rfl⟩:=rQ hp;rw[nJ (D':=ff (cL M n).1 (cL M n).2 n c) (f:=fun i=> -(dB (cL M n).1 i c)) (fun i=>gY _ _ n c i) (jc _ _ n c) Qw.2.1 r4 _ (aN _) hj,show FS* -(dB (cL M n).1 j c)= -(FS*dB (cL M n).1 j c) by grind];exact(hE j c hj hf.1).neg
   .rw[ou hp hf.1];split
    .rw[Rat.mul_one];exact hD
    .rw[bD];exact Ib.zero _
  .rw[Kk (nP M n) ht,bD];exact Ib.zero _
 .rw[Iw E,bD];exact Ib.zero _
theorem yQ(hM:gD n M)(hW:Bj (df M b) (n+1) B)(hB:1<=B)(h:fu M b n=some x):∃FS,Den (fB B M.length) FS x:=by
 obtain⟨FS,h0,hD,hE⟩:=GO (iL (b:=b) hM) hW hB (Nat.le_succ n);rw[eN]at hD hE;obtain⟨r1,r2,A,r4,r5⟩:=dZ (iL (b:=b) hM) n (Nat.le_succ _);have Qw:=gg (df M b) n;unfold fu at h;dsimp only at h;split at h
 .injection h with h;subst h;refine⟨FS,h0,hD,fun t=>?_⟩;by_cases hp:t∈(cL (df M b) n).2
  .obtain⟨j,hj,rfl⟩:=rQ hp;rw[nJ (D':=gT (cL (df M b) n).1 (cL (df M b) n).2 n) (f:=fun i=>dB (cL (df M b) n).1 i n) (fun i=>gZ _ _ n i) (jd _ _ n) Qw.2.1 r4 _ (aN _) hj];exact hE j n hj be
  .rw[s5 hp,bD];exact Ib.zero _
 .cases h
end
def lS(In:List Rat):Nat->Rat
 |0=>1
 |t+1=>lS In t*((In.getD t 0).den:Rat)
theorem DX(In:List Rat):∀k,lS In k≠0
 |0=>by show(1:Rat)≠0;decide
 |k+1=>si (DX In k) (by have:=(In.getD k 0).den_nz;exact_mod_cast this)
theorem yR{In:List Rat}{B:Nat}(h:∀t,(In.getD t 0).den<=B):∀k,Ib (B^k) (lS In k)
 |0=>Ib.one (aN _)
 |k+1=>by
  rw[Nat.pow_succ];exact(yR h k).mul ⟨((In.getD k 0).den:Int),rfl,by rw[Int.natAbs_natCast];exact h k⟩
theorem GP(q:Rat):(q.den:Rat)*q=(q.num:Rat):=by
 have h:=Rat.num_divInt_den q;have h0:((q.den:Int):Rat)≠0:=by have:=q.den_nz;exact_mod_cast this
 rw[Rat.divInt_eq_div]at h;have Y:(q.num:Rat) / ((q.den:Int):Rat)*((q.den:Int):Rat)=(q.num:Rat):=Rat.div_mul_cancel h0;rw[h,bs]at Y;exact Y
theorem Au{In:List Rat}{B:Nat}(h:∀t,(In.getD t 0).den<=B)(Z:∀t,(In.getD t 0).num.natAbs<=B)(hB:1<=B):∀k t,t<k->Ib (B^k) (lS In k*In.getD t 0)
 |0,t,ht=>by omega
 |k+1,t,ht=>by
  rw[lS,Nat.pow_succ];rcases aR t k with Y|Y
  .rw[show ∀a b c:Rat,a*b*c=(a*c)*b from fun a b c=>by grind];exact(Au h Z hB k t Y).mul ⟨((In.getD k 0).den:Int),rfl,by rw[Int.natAbs_natCast];exact h k⟩
  .rw[show t=k by omega,Rat.mul_assoc,GP];exact(yR h k).mul (Ib.int (Z k))
theorem nQ{l:Nat}:1<=wt l:=xm l
theorem GQ{q:Rat}{l:Nat}(h:rl q<=l):q.num.natAbs<wt l/\q.den<wt l:=⟨gC.1 (bB (iA q) h),gC.1 (bB (ML q) h)⟩
theorem Ix(l k:Nat):wt l^k=wt (l*k):=by rw[uL,uL,<-Nat.pow_mul,bl]
theorem Iy{n:Nat}(hl:In.length<=n)(h:∀q∈In,rl q<=3):Den (wt (3*n)) (lS In n) In:=by
 have N:∀t,rl (In.getD t 0)<=3:=fun t=>by
  rw[List.getD]
  cases ht:In[t]? with
  |none=>show rl 0<=3;decide
  |some q=>exact h q (aG ht)
 have Y:∀t,(In.getD t 0).den<=wt 3:=fun t=>Nat.le_of_lt (GQ (N t)).2;have X:∀t,(In.getD t 0).num.natAbs<=wt 3:=fun t=>Nat.le_of_lt (GQ (N t)).1;refine⟨DX In n,by rw[<-Ix];exact yR Y n,fun t=>?_⟩;rcases aR t n with ht|ht
 .rw[<-Ix];exact Au Y X nQ n t ht
 .rw[iw be,bD];exact Ib.zero _
end Go.Ex
