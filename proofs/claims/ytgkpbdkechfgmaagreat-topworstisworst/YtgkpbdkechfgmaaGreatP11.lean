/- Texts X164 to L50: lemmas, each with its conditions. -/
import Derived.Test.YtgkpbdkechfgmaaGreatP10
namespace Go.Ex
open Go Go.Sx Go.Proofs
end Go.Ex
namespace Go.Sx
open Go Go.Ex Go.Proofs
variable{vs:List Value}{O:Nat->Sx.cd}
theorem Sub.KV{B nx:Nat}{l:Env}{H:Hp}{iv:Iv}{w J:World}{t:uY}(id:Nat){bt:Nat}(LK:cO H id=some (.box bt (vs.map At.v)))(r:Rel H nx iv B w O J)
  (h:Rel ((id,.arr bt vs)::H) nx iv B w O J->Sx.Sub B l nx O J t):Sx.Sub B l nx O J t:=by
 have Ql:=r.nn id _ LK (by intros;simp) (by simp);have La:=r.box id bt _ LK;have OE:(vs.map At.v).map (At.den O)=vs:=by
  rw[List.map_map];exact List.map_id _
 rw[OE]at La
 exact h (r.store (b':=.arr bt vs) (H':=(id,.arr bt vs)::H) (Y:=J) LK (by simp) Ql (fun j=>by
  rw[cL];by_cases hj:id=j
  ·subst hj;simp
  ·rw[aF hj,aF (fun h=>hj h.symm)]) rfl rfl rfl rfl (fun _ _=>rfl) ⟨Ql,La⟩ trivial)
end Go.Sx
namespace Go.Ex
open Go Go.Sx Go.Proofs
variable{after:Array Edge}{G:List (List Ld)}{fs:List Int}{S:Nat->Prop}{guard:Option (Nat×Bool)}{dst:Option Tmp}{G9:SV->Hp->Nat->Iv->World->Prop}{u:Value}
theorem Cl{P:Program}{B nx:Nat}{l:Env}{H:Hp}{iv:Iv}{w:World}{t ty len e sz:Nat}{x i:Operand}{pos:String}{vx:SV}{G:Array Value}{k:IntKind}{m:Int}
  (hu:P.underlying t=some (.array len e)) (hs:∀w,(sizeOf e).run P w= .ok sz w) (hp:∀w:World,(part e G (m.toNat*sz)).run P w= .ok u w) (F:ev l x=some vx) (Pc:∀O,vx.den O= .agg G) (N:ev l i=some (.o (.v (.int k m)))) (hm:0<=m/\m<len)
  (hK:∀O J,Rel H nx iv B w O J->G9 (.o (.v u)) H nx iv J):tv P B ⟨dst,.index t x i,ty,pos,after,guard⟩ l H nx iv w G9:=by
 refine⟨fun O J ev' r MV=>⟨u,J,iv,.inl ?_,r.here,hK O J r⟩⟩;have e1:ev' x= .agg G:=by rw[MV x _ F,Pc]
 have e2:ev' i= .int k m:=MV i _ N;simp[execOp,e1,e2,Instr.index,asIntOf,run_underlying hu,hm.1,hm.2,hs,hp]
def zc(z:Nat->Int):List Value:=(List.range 80).map fun j=>.int .i64 (z j)
theorem sT(z:Nat->Int):(zc z).length=80:=by rw[zc,aK,List.length_range]
theorem Dh(z:Nat->Int){j:Nat}(h:j<80):(zc z)[j]? =some (.int .i64 (z j)):=by rw[zc,aM,b9 h];rfl
theorem Cm(z:Nat->Int){j:Nat}(v:Int)(h:j<80):(zc z).take j++[.int .i64 v]++(zc z).drop (j+1)=zc (ou z j v):=by
 rw[gw (by rw[sT];exact h)];have:=congrArg (List.map (Value.int .i64)) (Fi z v h);rw[List.map_set,List.map_map,List.map_map]at this;exact this
theorem JP{z z2:Nat->Int}(h:∀j,z j=z2 j):zc z=zc z2:=by rw[show z=z2 from funext h]
theorem Eg(z:Nat->Int){n:Nat}(A:n<20)(w:World):(part T.vu (zc z).toArray ((n:Int).toNat*4)).run PG w= .ok (.agg #[.int .i64 (z (4*n)),.int .i64 (z (4*n+1)),.int .i64 (z (4*n+2)),.int .i64 (z (4*n+3))]) w:=by
 have V:=(hτ T.vu _ rfl).isAgg w;have I:=(hτ T.vu _ rfl).sizeOf w;simp only[part,Sem.run_bind,V,Result.andThen,if_true]
 simp only[Sem.run_bind,I,Result.andThen,aG]
 have K:(zc z).extract (n*4) (n*4+4)=[.int .i64 (z (4*n)),.int .i64 (z (4*n+1)),.int .i64 (z (4*n+2)),.int .i64 (z (4*n+3))]:=by
  refine bJ fun i=>?_;rw[List.extract_eq_take_drop,List.getElem?_take];split<;>rename_i N
  ·rw[List.getElem?_drop,Dh z (by omega),bO];rcases(show i=0\/i=1\/i=2\/i=3 by omega)with rfl|rfl|rfl|rfl<;>rfl
  ·rw[List.getElem?_eq_none (by simp;omega)]
 rw[List.extract_toArray,K];rfl
theorem Hz(p0 p1 p2 p3 q0 q1 q2 q3:Int)(w:World):(Op.equal T.vu (.agg #[.int .i64 p0,.int .i64 p1,.int .i64 p2,.int .i64 p3]) (.agg #[.int .i64 q0,.int .i64 q1,.int .i64 q2,.int .i64 q3])).run PG w= .ok (decide (p0=q0/\p1=q1/\p2=q2/\p3=q3)) w:=by
 have h:=run_underlying Tryz.underlying141;simp only[Op.equal,Op.maxDepth]
 unfold Op.equalIn;have a0:=eD (G:= #[Value.int .i64 p0,Value.int .i64 p1,Value.int .i64 p2,Value.int .i64 p3]) (j:=0) rfl;have a1:=eD (G:= #[Value.int .i64 p0,Value.int .i64 p1,Value.int .i64 p2,Value.int .i64 p3]) (j:=1) rfl;have a2:=eD (G:= #[Value.int .i64 p0,Value.int .i64 p1,Value.int .i64 p2,Value.int .i64 p3]) (j:=2) rfl;have a3:=eD (G:= #[Value.int .i64 p0,Value.int .i64 p1,Value.int .i64 p2,Value.int .i64 p3]) (j:=3) rfl;have b0:=eD (G:= #[Value.int .i64 q0,Value.int .i64 q1,Value.int .i64 q2,Value.int .i64 q3]) (j:=0) rfl;have b1:=eD (G:= #[Value.int .i64 q0,Value.int .i64 q1,Value.int .i64 q2,Value.int .i64 q3]) (j:=1) rfl;have b2:=eD (G:= #[Value.int .i64 q0,Value.int .i64 q1,Value.int .i64 q2,Value.int .i64 q3]) (j:=2) rfl;have b3:=eD (G:= #[Value.int .i64 q0,Value.int .i64 q1,Value.int .i64 q2,Value.int .i64 q3]) (j:=3) rfl;simp[h,a0,a1,a2,a3,b0,b1,b2,b3,eq_int 9998];by_cases h0:p0=q0
 ·by_cases V:p1=q1
  ·by_cases I:p2=q2
   ·by_cases K:p3=q3<;>simp[h0,V,I,K]
   ·simp[h0,V,I]
  ·simp[h0,V]
 ·simp[h0]
abbrev BX(x:Ld):Value:=.agg #[.int .i64 x.1,.int .i64 x.2.1,.int .i64 x.2.2.1,.int .i64 x.2.2.2]
theorem Eh(x y:Ld):(x.1=y.1/\x.2.1=y.2.1/\x.2.2.1=y.2.2.1/\x.2.2.2=y.2.2.2)↔x=y:=by
 obtain⟨a,b,c,d⟩:=x;obtain⟨a2,b2,c2,d2⟩:=y;simp
theorem Gm(x y:Ld)(w:World)(o1 o2:Operand):(do eqGuard .neq T.vu o1 o2 (BX x) (BX y);binOp .neq T.vu (BX x) (BX y)).run PG w= .ok (.bool (!decide (x=y))) w:=by
 have h:=Hz x.1 x.2.1 x.2.2.1 x.2.2.2 y.1 y.2.1 y.2.2.1 y.2.2.2 w;rw[show decide (x.1=y.1/\x.2.1=y.2.1/\x.2.2.1=y.2.2.1/\x.2.2.2=y.2.2.2)=decide (x=y)from decide_eq_decide.2 (Eh x y)]at h;simp[eqGuard,binOp,h]
theorem Gn:PG.underlying 152=some (.array 20 T.vu):=Tryz.underlying152
abbrev gB:=dZ (dQ)
theorem Gp(xs:List Value)(O:Nat->Sx.cd):SV.den O (.a (xs.map At.v))= .agg xs.toArray:=by
 rw[SV.den,List.map_map];congr 2;exact List.map_id _
theorem mw.one{w:World}{G:List Value}{x:Ld}(h:mw w S G x):∀u∈G,u.oneCell'=true:=fun u hu=>by
 have h:G=[.int .i64 x.1,.int .i64 x.2.1,.int .i64 x.2.2.1,.int .i64 x.2.2.2]:=h;subst h;simp at hu;rcases hu with rfl|rfl|rfl|rfl<;>rfl
theorem zh(n:Int)(w:World):eF PG F'.kC #[.int .i64 n,.int .i64 100] w (eM w fun v' _=>∃d,v'= .bool d/\(d=true↔ -100<=n/\n<=100)):=by
 have L:=bR w;refine ki (by simp) ?_;refine⟨-100,by decide,?_⟩;refine ct.mk ?_ ?_<;>intro V
 ·intro I' we re;have V:=aL V;exact⟨_,rfl,L.tr re.cG,_,rfl,by rw[decide_eq_true_iff];exact⟨fun h=>⟨V,h⟩,fun h=>h.2⟩⟩
 ·intro I' we re;have V:=aI V;exact⟨_,rfl,L.tr re.cG,_,rfl,(fun h=>by cases h),fun h=>absurd h.1 V⟩
set_option maxHeartbeats 2000000 in
theorem ya{w:World}{v:Value}{e0:Int}(X:Old S w)(hC:gB w S v G)(hF:me w S u fs)(NY:e0=jg G fs):
  eF PG F'.n9 #[v,u] w (eM w fun v' Y=>(e0≠0/\v'= .tuple #[.slice none 0 0,.int .i64 e0])\/(e0=0/\∃vr,v'= .tuple #[vr,.int .i64 0]/\dQ Y (Nf w Y) vr (e9 (e7 G fs G.length) 20))):=by
 have L:=bR w;obtain⟨ac,cc,rfl,-,Ph⟩:=dZ.shape hC;obtain⟨af,cf,rfl,-,hmf⟩:=hF.shape;unfold maxLen at Ph hmf;refine qm (by simp) ?_;refine ct.mk ?_ ?_<;>intro V
 ·have V:=aL V;have Mc:jg G fs=8:=by rw[jg,if_pos (by omega)]
  exact rtn L fun I' we re=>.inl ⟨by rw[NY,Mc];decide,by rw[NY,Mc];rfl⟩
 have V:=aI V;have h16:¬16<G.length:=by omega
 refine ct.mk ?_ ?_<;>intro I
 ·have I:fs.length≠G.length:=by intro h;rw[h]at I;simp at I
  have Mc:jg G fs=11:=by rw[jg,aF h16,if_pos I]
  exact rtn L fun I' we re=>.inl ⟨by rw[NY,Mc];decide,by rw[NY,Mc];rfl⟩
 have I:=(show (fs.length:Int)=(G.length:Int)from(by simpa using I))
 have hlen:fs.length=G.length:=by omega
 have NF:¬fs.length≠G.length:=fun h=>h hlen
 refine⟨Nat×World×Iv,fun z=>⟨[(0,sV ac G.length cc),(1,sV af fs.length cf),(28,sV af fs.length cf),(29,iZ fs.length),(30,iN z.1)],[],0,z.2.2,z.2.1⟩,fun z=>fs.length-z.1,
  fun z=>z.1<=fs.length/\dO w.heap.size w z.2.1/\cS (fun _=>CF) [] fs=cS (fun _=>CF) (fs.take z.1) (fs.drop z.1),?_,?_⟩
 ·intro O J D;exact⟨(0,J,_),⟨aP _,L.tr D.cG,rfl⟩,Sub.gn [] D⟩
 rintro⟨i,w1,iv⟩ ⟨N,L,hE⟩;dsimp only at N L hE ⊢;refine ct.mk ?_ ?_<;>intro Kp
 ·have Kp:i<fs.length:=by simpa using Kp
  obtain⟨x,F⟩:∃x,fs[i]? =some x:=⟨_,aA Kp⟩
  obtain⟨adx,Ly,hSx,Lw⟩:=me.at hF F;refine⟨adx,Ly,by omega,.int .i64 x,rd1 Lw L (X _ hSx),?_⟩;refine bp (cE L (fun _ J v Y=>∃d,v= .bool d/\(d=true↔ -100<=x/\x<=100)) (fun O J r=>zh x J) ?_);rintro O M5 v1 MS LC r Z L h_ ⟨d1,rfl,Kw⟩
  cases d1
  ·have Kw:¬(-100<=x/\x<=100):=fun h=>by have:=Kw.2 h;cases this
   have Qn:cS (fun _=>CF) [] fs≠0:=by rw[hE,cD F (show CF x=2 by rw[CF,aF Kw]) (by decide)];decide
   have Mc:jg G fs=2:=by rw[jg,aF h16,aF NF,if_pos Qn]
   exact rtn L fun I' we re=>.inl ⟨by rw[NY,Mc];decide,by rw[NY,Mc];rfl⟩
  have Kw:=Kw.1 rfl;rw[di F (show CF x=0 by rw[CF,if_pos Kw])]at hE;refine⟨((i+1:Nat):Int),wo,?_⟩;intro In w6 D;exact⟨(i+1,w6,_),⟨Kp,L.tr D.cG,hE⟩,Sub.gn [] D,by dsimp only;omega⟩
 have Kp:i=fs.length:=aS N (by simpa using Kp);rw[eQ (by omega)]at hE;have hfac:∀(k:Nat) x,fs[k]? =some x-> -100<=x/\x<=100:=fun k x W=>by
  have h:=eV hE k x W;unfold CF at h;split at h<;>rename_i I
  ·exact I
  ·cases h
 have Qk:¬cS (fun _=>CF) [] fs≠0:=fun h=>h hE
 refine⟨Nat×World×Iv,fun z=>⟨[(0,sV ac G.length cc),(1,sV af fs.length cf),(38,sV ac G.length cc),(39,iZ G.length),(40,iN z.1)],[],0,z.2.2,z.2.1⟩,fun z=>G.length-z.1,
  fun z=>z.1<=G.length/\dO w.heap.size w z.2.1/\cS (fun _=>gp 20) [] G=cS (fun _=>gp 20) (G.take z.1) (G.drop z.1),?_,?_⟩
 ·intro O J D;exact⟨(0,J,_),⟨aP _,L.tr D.cG,rfl⟩,Sub.gn [] D⟩
 rintro⟨i,w1,iv⟩ ⟨N,L,hE⟩;dsimp only at N L hE ⊢;refine ct.mk ?_ ?_<;>intro Kp
 ·have Kp:i<G.length:=by simpa using Kp
  obtain⟨x,F⟩:∃x,G[i]? =some x:=⟨_,aA Kp⟩
  obtain⟨adm,um,Nk,Lj,km1,km2⟩:=dZ.load hC F;obtain⟨al,cl,rfl,-,ND⟩:=Lj.shape;refine⟨adm,Nk,by omega,.slice al x.length cl,rd1 km2 L (X _ km1),?_⟩;refine bp (cE L (fun _ J v Y=>v= .int .i64 (gp 20 x)) (fun O J r=>lD (oS X r) (dQ.br Lj (kS L r X))) ?_);rintro O M5 v1 MS LC r Z L h_ rfl;obtain⟨e,Z⟩:∃e,gp 20 x=e:=⟨_,rfl⟩
  rw[Z];refine ct.mk ?_ ?_<;>intro hd
  ·have hd:e≠0:=by simpa using hd
   have Qo:cS (fun _=>gp 20) [] G=e:=by rw[hE];exact cD F Z hd
   have Mc:jg G fs=e:=by rw[jg,aF h16,aF NF,aF Qk,if_pos (by rw[Qo];exact hd),Qo]
   exact rtn L fun I' we re=>.inl ⟨by rw[NY,Mc];exact hd,by rw[NY,Mc];rfl⟩
  have hd:e=0:=by simpa using hd
  subst hd;rw[di (e:=fun _=>gp 20) F Z]at hE;refine⟨((i+1:Nat):Int),wo,?_⟩;intro In w6 D;exact⟨(i+1,w6,_),⟨Kp,L.tr D.cG,hE⟩,Sub.gn [] D,by dsimp only;omega⟩
 have Kp:i=G.length:=aS N (by simpa using Kp);rw[eQ (by omega)]at hE;have hcas:∀(k:Nat) l,G[k]? =some l->gP 20 l:=fun k l W=>uK (eV hE k l W);have Mt:¬cS (fun _=>gp 20) [] G≠0:=fun h=>h hE
 refine⟨Nat×World,fun z=>⟨[(0,sV ac G.length cc),(1,sV af fs.length cf),(11,pP 0 0),(50,sV ac G.length cc),(51,iZ G.length),(52,iN z.1)],[(0,.arr 152 (zc (zf (e7 G fs z.1))))],1,iv,z.2⟩,fun z=>G.length-z.1,
  fun z=>z.1<=G.length/\dO w.heap.size w z.2/\Je (e7 G fs z.1) (20000000000*z.1),?_,?_⟩
 ·intro O J D;exact⟨(0,J),⟨aP _,L.tr D.cG,fun n=>by simp[e7]⟩,Sub.KV 0 (vs:=zc fun _=>0) rfl D fun r4=>Sub.gn [] r4 ⟨by dsimp only;rw[show zf (e7 G fs 0)=fun _=>0 from funext fun j=>by unfold zf e7;simp];rfl,trivial⟩⟩
 rintro⟨c,w1⟩ ⟨N,L,hB⟩;dsimp only at N L hB ⊢;refine ct.mk ?_ ?_<;>intro Kp
 ·have Kp:c<G.length:=by simpa using Kp
  obtain⟨l,hl⟩:∃x,G[c]? =some x:=⟨_,aA Kp⟩
  obtain⟨fa,hfa⟩:∃x,fs[c]? =some x:=⟨_,aA (by omega)⟩
  have Lb:=hfac c fa hfa;have Kt:=hcas c l hl;have hl200:=Kt.len;obtain⟨adf,haf,hSf,SC⟩:=me.at hF hfa;have MA:e7 G fs (c+1)=pc (e7 G fs c) fa l l.length:=by rw[e7,show G.getD c []=l by rw[List.getD,hl];rfl,show fs.getD c 0=fa by rw[List.getD,hfa];rfl]
  obtain⟨adm,um,Nk,Lj,km1,km2⟩:=dZ.load hC hl;obtain⟨al,cl,rfl,-,ND⟩:=Lj.shape
  refine⟨adm,Nk,by omega,.slice al l.length cl,rd1 km2 L (X _ km1),Nat×World,fun z=>⟨[(0,sV ac G.length cc),(1,sV af fs.length cf),(11,pP 0 0),(12,iN c),(50,sV ac G.length cc),(51,iZ G.length),(52,iN c),(57,sV al l.length cl),(58,iZ l.length),(59,iN z.1)],[(0,.arr 152 (zc (zf (pc (e7 G fs c) fa l z.1))))],1,iv,z.2⟩,fun z=>l.length-z.1,
   fun z=>z.1<=l.length/\dO w.heap.size w z.2/\Je (pc (e7 G fs c) fa l z.1) (20000000000*c+100000000*z.1),?_,?_⟩
  ·intro O J D;exact⟨(0,J),⟨aP _,L.tr D.cG,by simpa [pc]using hB⟩,Sub.gn [] D⟩
  rintro⟨k,w3⟩ ⟨W,L,hB⟩;dsimp only at W L hB ⊢;refine ct.mk ?_ ?_<;>intro Ks
  ·have Ks:k<l.length:=by simpa using Ks
   obtain⟨x,F⟩:∃x,l[k]? =some x:=⟨_,aA Ks⟩
   obtain⟨hn0,hxb⟩:=Kt.ld x (aD F);obtain⟨n,A⟩:=Int.eq_ofNat_of_zero_le hn0.1;have Pp:n<20:=by omega
   obtain⟨adx,csx,Ly,hP,-,Lw⟩:=Lj.load (by decide) F;have hP:csx=[.int .i64 x.1,.int .i64 x.2.1,.int .i64 x.2.2.1,.int .i64 x.2.2.2]:=hP;subst hP;rw[A]at Lw;have hnk:pc (e7 G fs c) fa l (k+1)=r9 (pc (e7 G fs c) fa l k) fa x:=by rw[pc,show l.getD k (0,0,0,0)=x by rw[List.getD,F];rfl]
   have hB2:=hB.add (x:=x) Lb hxb;obtain⟨s,hs⟩:∃s,pc (e7 G fs c) fa l k=s:=⟨_,rfl⟩
   rw[hs]at hB hB2 hnk ⊢;have hbn:=hB n;obtain⟨z0,z1,z2,z3⟩:=Ag s n;obtain⟨⟨q1,q2⟩,⟨q3,q4⟩,q5,q6⟩:=hxb;have m1:=ra Lb.1 Lb.2 q1 q2;have m2:=ra Lb.1 Lb.2 q3 q4;have m3:=ra Lb.1 Lb.2 q5 q6;refine⟨adx,Ly,by omega,[.int .i64 (n:Int),.int .i64 x.2.1,.int .i64 x.2.2.1,.int .i64 x.2.2.2],rfl,rdO Lw L X,by omega,?_⟩;refine cC hτ eG [.x 0,.x 1,.x 2,.x 3,.x 4,.x 5,.x 6,.x 7,.x 8,.x 9,.x 10,.x 11,.x 12,.x 13,.x 14] (by kernel_rfl) (by kernel_rfl) ?_;refine⟨.int .i64 (s n).1,by rw[show ∀m,0+(n:Int).toNat*4+m=4*n+m from fun m=>by omega,Dh _ (by omega)];rw[z1],adf,haf,by omega,.int .i64 fa,rd1 SC L (X _ hSf),fa*x.2.1,wo,(s n).1+fa*x.2.1,wo,by rw[sT];omega,zc (ou (zf s) (4*n+1) ((s n).1+fa*x.2.1)),?_,?_⟩
   ·rw[show ∀m,0+(n:Int).toNat*4+m=4*n+m from fun m=>by omega];exact Cm _ _ (by omega)
   refine cC hτ eG [.x 0,.x 1,.x 2,.x 3,.x 4,.x 5,.x 6,.x 7,.x 8,.x 9,.x 10,.x 11,.x 12,.x 13,.x 14] (by kernel_rfl) (by kernel_rfl) ?_;refine⟨.int .i64 (s n).2.1,by rw[show ∀m,0+(n:Int).toNat*4+m=4*n+m from fun m=>by omega,Dh _ (by omega)];simp[ou,z2],adf,haf,by omega,.int .i64 fa,rd1 SC L (X _ hSf),fa*x.2.2.1,wo,(s n).2.1+fa*x.2.2.1,wo,by rw[sT];omega,zc (ou ((ou (zf s) (4*n+1) ((s n).1+fa*x.2.1))) (4*n+2) ((s n).2.1+fa*x.2.2.1)),?_,?_⟩
   ·rw[show ∀m,0+(n:Int).toNat*4+m=4*n+m from fun m=>by omega];exact Cm _ _ (by omega)
   refine cC hτ eG [.x 0,.x 1,.x 2,.x 3,.x 4,.x 5,.x 6,.x 7,.x 8,.x 9,.x 10,.x 11,.x 12,.x 13,.x 14] (by kernel_rfl) (by kernel_rfl) ?_;refine⟨.int .i64 (s n).2.2,by rw[show ∀m,0+(n:Int).toNat*4+m=4*n+m from fun m=>by omega,Dh _ (by omega)];simp[ou,z3],adf,haf,by omega,.int .i64 fa,rd1 SC L (X _ hSf),fa*x.2.2.2,wo,(s n).2.2+fa*x.2.2.2,wo,by rw[sT];omega,zc (ou ((ou ((ou (zf s) (4*n+1) ((s n).1+fa*x.2.1))) (4*n+2) ((s n).2.1+fa*x.2.2.1))) (4*n+3) ((s n).2.2+fa*x.2.2.2)),?_,?_⟩
   ·rw[show ∀m,0+(n:Int).toNat*4+m=4*n+m from fun m=>by omega];exact Cm _ _ (by omega)
   rw[JP (Ir s fa x A)];refine⟨((k+1:Nat):Int),wo,?_⟩;intro In w6 D;exact⟨(k+1,w6),⟨Ks,L.tr D.cG,by dsimp only;rw[hnk];exact fun n=>by have:=hB2 n;omega⟩,Sub.gn [] D ⟨by dsimp only;rw[hnk];rfl,trivial⟩,by dsimp only;omega⟩
  have Ks:k=l.length:=aS W (by simpa using Ks);subst Ks;rw[<-MA]at hB ⊢;refine⟨((c+1:Nat):Int),wo,?_⟩;intro In w6 D;exact⟨(c+1,w6),⟨Kp,L.tr D.cG,fun n=>by have:=hB n;dsimp only;omega⟩,Sub.gn [] D,by dsimp only;omega⟩
 have Kp:c=G.length:=aS N (by simpa using Kp);subst Kp;obtain⟨s,hs⟩:∃s,e7 G fs G.length=s:=⟨_,rfl⟩
 rw[hs]at hB ⊢
 refine⟨zc (zf s),by rw[List.drop_zero,List.take_of_length_le (by rw[sT];exact aE _)],sT _,Nat×List (List Value)×World×Iv,fun z=>⟨[(17,.o (.w 1 z.2.1.length)),(110,.a ((zc (zf s)).map At.v)),(111,iN z.1)],[(1,.vec T.vu 4 z.2.1.flatten)],2,z.2.2.2,z.2.2.1⟩,fun z=>20-z.1,
  fun z=>z.1<=20/\dO w.heap.size w z.2.2.1/\jX 4 mw z.2.2.1 S z.2.1 (e9 s z.1)/\cS (fun _=>zD s) [] (List.range 20)=cS (fun _=>zD s) ((List.range 20).take z.1) ((List.range 20).drop z.1),?_,?_⟩
 ·intro O J r;exact⟨(0,[],J,_),⟨aP _,L.tr r.cG,jX.nil,rfl⟩,Sub.nil 17 T.vu 4 rfl (by simp[lj,SV.sc,At.sc,ij]) r fun If r1=>Sub.gn [] r1⟩
 rintro⟨n,U,w4,iv⟩ ⟨N,L,hG,hE⟩;dsimp only at N L hG hE ⊢;have LN:=gj hG.wid;have Lo:U.length<=n:=by rw[hG.len];exact pe s n
 refine ct.mk ?_ ?_<;>intro Kp
 ·have Kp:n<20:=by have:=aL Kp;omega
  have hr:(List.range 20)[n]? =some n:=b9 Kp;obtain⟨z0,z1,z2,z3⟩:=Ag s n;obtain⟨a0,ha0⟩:∃a,(s n).1=a:=⟨_,rfl⟩
  obtain⟨a1,ha1⟩:∃a,(s n).2.1=a:=⟨_,rfl⟩
  obtain⟨a2,M9⟩:∃a,(s n).2.2=a:=⟨_,rfl⟩
  have Pr:s n=(a0,a1,a2):=by rw[<-ha0,<-ha1,<-M9]
  have hpt:=Eg (zf s) Kp;rw[z0,z1,z2,z3,ha0,ha1,M9]at hpt;refine Cl (sz:=4) Gn (fun w=>(hτ T.vu _ rfl).sizeOf w) hpt rfl (Gp (zc (zf s))) rfl ⟨by omega,by omega⟩ (fun O w4 r=>?_);replace L:=L.tr r.cG;refine bp (cE L (fun _ J v Y=>∃d,v= .bool d/\(d=true↔j2 a0)) (fun O J r=>gk _ J) ?_);rintro O _ _ _ LC r Z L h_ ⟨d0,rfl,Ky⟩
  cases d0
  ·have Ky:¬j2 a0:=fun h=>by have:=Ky.2 h;cases this
   have Li:cS (fun _=>zD s) [] (List.range 20)=8:=by rw[hE];exact cD hr (show zD s n=8 by rw[zD,Pr,aF (fun h=>Ky h.1)]) (by decide)
   have Mc:jg G fs=8:=by rw[jg,aF h16,aF NF,aF Qk,aF Mt,hs,Li]
   exact rtn L fun I' we re=>.inl ⟨by rw[NY,Mc];decide,by rw[NY,Mc];rfl⟩
  replace Ky:=Ky.1 rfl;refine bp (cE L (fun _ J v Y=>∃d,v= .bool d/\(d=true↔j2 a1)) (fun O J r=>gk _ J) ?_);rintro O _ _ _ Kx r Z L h_ ⟨d1,rfl,Kw⟩
  cases d1
  ·have Kw:¬j2 a1:=fun h=>by have:=Kw.2 h;cases this
   have Li:cS (fun _=>zD s) [] (List.range 20)=8:=by rw[hE];exact cD hr (show zD s n=8 by rw[zD,Pr,aF (fun h=>Kw h.2.1)]) (by decide)
   have Mc:jg G fs=8:=by rw[jg,aF h16,aF NF,aF Qk,aF Mt,hs,Li]
   exact rtn L fun I' we re=>.inl ⟨by rw[NY,Mc];decide,by rw[NY,Mc];rfl⟩
  replace Kw:=Kw.1 rfl;refine bp (cE L (fun _ J v Y=>∃d,v= .bool d/\(d=true↔j2 a2)) (fun O J r=>gk _ J) ?_);rintro O _ _ _ LV r Z L h_ ⟨d2,rfl,LQ⟩
  cases d2
  ·have LQ:¬j2 a2:=fun h=>by have:=LQ.2 h;cases this
   have Li:cS (fun _=>zD s) [] (List.range 20)=8:=by rw[hE];exact cD hr (show zD s n=8 by rw[zD,Pr,aF (fun h=>LQ h.2.2)]) (by decide)
   have Mc:jg G fs=8:=by rw[jg,aF h16,aF NF,aF Qk,aF Mt,hs,Li]
   exact rtn L fun I' we re=>.inl ⟨by rw[NY,Mc];decide,by rw[NY,Mc];rfl⟩
  replace LQ:=LQ.1 rfl;rw[di hr (show zD s n=0 by rw[zD,Pr,if_pos ⟨Ky,Kw,LQ⟩])]at hE;refine⟨!decide (((0:Int),a0,a1,a2)=(0,0,0,0)),fun O w o1 o2=>Gm (0,a0,a1,a2) (0,0,0,0) w o1 o2,?_⟩;refine ct.mk ?_ ?_<;>intro hd
  ·have hd:¬(s n=(0,0,0)):=by
    intro h;rw[Pr]at h;injection h with V I;injection I with I K;subst V I K;simp at hd
   have MA:e9 s (n+1)=e9 s n++[((n:Int),a0,a1,a2)]:=by rw[e9,aF hd,Pr]
   have hG2:=hG.push (G:=[.int .i64 (n:Int),.int .i64 a0,.int .i64 a1,.int .i64 a2]) (q:=((n:Int),a0,a1,a2)) rfl rfl;rw[<-MA]at hG2;have OF:U.flatten++([.int .i64 (n:Int),.int .i64 a0,.int .i64 a1,.int .i64 a2]:List Value)=(U++([[.int .i64 (n:Int),.int .i64 a0,.int .i64 a1,.int .i64 a2]]:List (List Value))).flatten:=by simp
   refine .inl ?_;refine⟨by omega,by omega,by unfold maxLen;omega,((n+1:Nat):Int),wo,?_⟩;intro In w6 D;exact⟨(n+1,U++([[.int .i64 (n:Int),.int .i64 a0,.int .i64 a1,.int .i64 a2]]:List (List Value)),w6,_),⟨Kp,L.tr D.cG,jX.map (P:=mw) (P':=mw) (Y:=w6) (S':=S) hG2 fun _ _ h=>h,hE⟩,Sub.gn [(1,4)] D ⟨by dsimp only;rw[<-OF];rfl,trivial⟩ ⟨by dsimp only;rw[List.length_append,List.length_singleton];rfl,rfl,rfl,trivial⟩,by dsimp only;omega⟩
  have hd:s n=(0,0,0):=by
   rw[Pr];have h:((0:Int),a0,a1,a2)=(0,0,0,0):=by simpa using hd
   injection h with _ h
  have MA:e9 s (n+1)=e9 s n:=by rw[e9,if_pos hd]
  rw[<-MA]at hG;refine⟨((n+1:Nat):Int),wo,?_⟩;intro In w6 D;exact⟨(n+1,U,w6,_),⟨Kp,L.tr D.cG,jX.map (P:=mw) (P':=mw) (Y:=w6) (S':=S) hG fun _ _ h=>h,hE⟩,Sub.gn [] D,by dsimp only;omega⟩
 have Kp:n=20:=by have:=aI Kp;omega
 subst Kp;rw[eQ (by simp)]at hE;have Mc:jg G fs=0:=by rw[jg,aF h16,aF NF,aF Qk,aF Mt,hs,hE]
 intro I' we re;have h5:=re.lB (id:=1) (sz:=4) (m:=U.length) rfl LN (by unfold maxLen;omega) (by decide) (hG.one fun G q h=>mw.one h);exact⟨_,rfl,L.tr re.cG,.inr ⟨by rw[NY,Mc],_,rfl,jX.list (hG.map fun G q h=>h) (h5.bw fun g R=>.inr R)⟩⟩
end Go.Ex
namespace Go.Ex
open Go Go.Sx Go.Proofs
variable{G:List (List Ld)}{S:Nat->Prop}
theorem Ei(x:Ld)(w:World):eF PG F'.qf #[BX x] w (eM w fun v' _=>∃d,v'= .bool d/\(d=true↔Af x.2)):=by
 have L:=bR w;obtain⟨x0,x1,x2,x3⟩:=x;refine tY (by simp) ?_;refine bp (cE L (fun _ J v Y=>∃d,v= .bool d/\(d=true↔ -1000000<=x1/\x1<=1000000)) (fun O J r=>kM _ _ _ J) ?_);rintro O _ _ _ LC r Z L h_ ⟨d0,rfl,Ky⟩
 cases d0
 ·have Ky:¬j2 x1:=fun h=>by have:=Ky.2 h;cases this
  exact rtn L fun I' we re=>⟨_,rfl,(fun h=>by cases h),fun h=>absurd h.1 Ky⟩
 replace Ky:j2 x1:=Ky.1 rfl;refine bp (cE L (fun _ J v Y=>∃d,v= .bool d/\(d=true↔ -1000000<=x2/\x2<=1000000)) (fun O J r=>kM _ _ _ J) ?_);rintro O _ _ _ Kx r Z L h_ ⟨d1,rfl,Kw⟩
 cases d1
 ·have Kw:¬j2 x2:=fun h=>by have:=Kw.2 h;cases this
  exact rtn L fun I' we re=>⟨_,rfl,(fun h=>by cases h),fun h=>absurd h.2.1 Kw⟩
 replace Kw:j2 x2:=Kw.1 rfl;refine bp (cE L (fun _ J v Y=>∃d,v= .bool d/\(d=true↔ -1000000<=x3/\x3<=1000000)) (fun O J r=>kM _ _ _ J) ?_);rintro O _ _ _ LV r Z L h_ ⟨d2,rfl,LQ⟩
 cases d2
 ·have LQ:¬j2 x3:=fun h=>by have:=LQ.2 h;cases this
  exact rtn L fun I' we re=>⟨_,rfl,(fun h=>by cases h),fun h=>absurd h.2.2 LQ⟩
 replace LQ:j2 x3:=LQ.1 rfl;exact rtn L fun I' we re=>⟨_,rfl,fun _=>⟨Ky,Kw,LQ⟩,fun _=>rfl⟩
theorem gB.br{w Y:World}{v:Value}(h:gB w S v G)(W:∀g,S g->Y.heap[g]? =w.heap[g]?):gB Y S v G:=by
 obtain⟨rv,V,I,K⟩:=h;exact⟨rv,V.br W,I,fun i u x k1 k2=>dQ.br (K i u x k1 k2) W⟩
theorem dQ.KW{w:World}:dQ w S (.slice none 0 0) []:=⟨[],⟨aP _,rfl,by simp,none,0,rfl,aE _,fun j u h=>by cases h⟩,rfl,by simp,fun j G x h=>by cases h⟩
section
variable{S S':Nat->Prop}{H:Hp}{nx:Nat}{iv E:Iv}{B:Nat}{w J Y:World}{O:Nat->Sx.cd}{v:Value}{l:List Ld}
theorem dQ.rel(h:dQ w (Cv S B iv) v l)(r:Rel H nx iv B w O J)(X:∀g,S g->g<B):dQ J (Cv S B iv) v l:=dQ.br h fun _ R=>Rel.same r X R
theorem dQ.df(h:dQ Y (Nf J Y) v l)(hB:B<=J.heap.size)(hm:(J.heap.size,Y.heap.size)∈iv):dQ Y (Cv S B iv) v l:=dQ.bw h fun _ R=>R.df hB hm
end
end Go.Ex
namespace Go.Ex
variable{d:Int}{M:List (List Rat)}{l x0 J8:List Rat}{G9 c n:Nat}{x y:Nat->Rat}{Fn:Rat}{f:eS}
theorem uC{a b:Rat}(ha:a≠0)(hb:b≠0):a*b≠0:=fun e=>by
 rcases Rat.mul_eq_zero.1 e with h|h
 ·exact ha h
 ·exact hb h
def Den(G9:Nat)(Fn:Rat)(l:List Rat):Prop:=Fn≠0/\Ib G9 Fn/\∀t,Ib G9 (Fn*l.getD t 0)
def CN(G9:Nat)(Fn:Rat)(M:List (List Rat)):Prop:=Fn≠0/\Ib G9 Fn/\∀k t,Ib G9 (Fn*cT M k t)
theorem Den.rl(h:Den G9 Fn l):∀q∈l,rl q<=ln G9:=fun q hq=>by
 obtain⟨j,hj⟩:=aQ hq;have:=uB h.1 h.2.1 (h.2.2 j)
 rwa [List.getD,hj]at this
theorem CN.rl(h:CN G9 Fn M):∀r∈M,∀q∈r,rl q<=ln G9:=fun r hr q hq=>by
 obtain⟨k,W⟩:=aQ hr;obtain⟨j,hj⟩:=aQ hq;have:=uB h.1 h.2.1 (h.2.2 k j)
 rwa [cT,show M.getD k []=r by rw[List.getD,W];rfl,List.getD,hj]at this
theorem gV{t:Nat}(h:l.length<=t):l.getD t 0=0:=by rw[List.getD,List.getElem?_eq_none h];rfl
theorem H7{k t:Nat}(hM:gH n M)(h:n<=t):cT M k t=0:=by
 rw[cT];rcases aO k M.length with W|W
 ·exact gV (by rw[hM.getD W];exact h)
 ·rw[show M.getD k []=[] by rw[List.getD,List.getElem?_eq_none W];rfl];rfl
theorem Ft{k t:Nat}(h:M.length<=k):cT M k t=0:=by
 rw[cT,show M.getD k []=[] by rw[List.getD,List.getElem?_eq_none h];rfl];rfl
section
variable{M:List (List Rat)}{n B:Nat}{b:List Rat}
theorem DP(hM:gH n M)(hW:zz M n B)(hB:1<=B)(hc:c<=n):∃Fn:Rat,Fn≠0/\Ib (fB B M.length) Fn/\∀i t,i<(cB M c).2.length->t<n->Ib (fB B M.length) (Fn*cT (cB M c).1 i t):=by
 obtain⟨σ,F8,h⟩:=nT hM hW c hc;have hle:=h.red.2.1;rw[h.len]at hle;have hm:=o0 hB hle;exact⟨_,h.vG.nz,h.vG.den.mono hm,fun i t N ht=>(h.vG.KG N ht).mono hm⟩
theorem H8(hM:gH n M)(hW:zz M n B)(hB:1<=B):∃Fn,CN (fB B M.length) Fn (cH M n):=by
 obtain⟨Fn,h0,hD,hE⟩:=DP hM hW hB (aE n);obtain⟨r1,r2,D,r4,r5⟩:=dW hM n (aE _);have NW:=gb M n;refine⟨Fn,h0,hD,fun k t=>?_⟩;rcases aO k (cH M n).length with W|W
 ·rcases aO t n with ht|ht
  ·have hf:=jw.1 (nR (by rw[<-lO];exact W));rw[cT,vH M n W];generalize (gl (cB M n).2 n).getD k 0=c at hf;by_cases hp:t∈(cB M n).2
   ·obtain⟨j,hj,rfl⟩:=pY hp;rw[mG (D':=fC (cB M n).1 (cB M n).2 n c) (f:=fun i=> -(cT (cB M n).1 i c)) (fun i=>fm _ _ n c i) (jG _ _ n c) NW.2.1 r4 _ (aE _) hj,show Fn* -(cT (cB M n).1 j c)= -(Fn*cT (cB M n).1 j c) by grind];exact(hE j c hj hf.1).neg
   ·rw[nQ hp hf.1];split
    ·rw[Rat.mul_one];exact hD
    ·rw[ai];exact Ib.zero _
  ·rw[H7 (mK M n) ht,ai];exact Ib.zero _
 ·rw[Ft W,ai];exact Ib.zero _
theorem vK{x:List Rat}(hM:gH n M)(hW:zz (dF M b) (n+1) B)(hB:1<=B)(h:ff M b n=some x):∃Fn,Den (fB B M.length) Fn x:=by
 obtain⟨Fn,h0,hD,hE⟩:=DP (iJ (b:=b) hM) hW hB (Nat.le_succ n);rw[eH]at hD hE;obtain⟨r1,r2,D,r4,r5⟩:=dW (iJ (b:=b) hM) n (Nat.le_succ _);have NW:=gb (dF M b) n;unfold ff at h;dsimp only at h;split at h
 ·injection h with h;subst h;refine⟨Fn,h0,hD,fun t=>?_⟩;by_cases hp:t∈(cB (dF M b) n).2
  ·obtain⟨j,hj,rfl⟩:=pY hp;rw[mG (D':=fh (cB (dF M b) n).1 (cB (dF M b) n).2 n) (f:=fun i=>cT (cB (dF M b) n).1 i n) (fun i=>fo _ _ n i) (jH _ _ n) NW.2.1 r4 _ (aE _) hj];exact hE j n hj (by omega)
  ·rw[qS hp,ai];exact Ib.zero _
 ·cases h
end
def kZ(J8:List Rat):Nat->Rat
 |0=>1
 |t+1=>kZ J8 t*((J8.getD t 0).den:Rat)
theorem Al(J8:List Rat):∀k,kZ J8 k≠0
 |0=>by show(1:Rat)≠0;decide
 |k+1=>uC (Al J8 k) (by have:=(J8.getD k 0).den_nz;exact_mod_cast this)
theorem vL{J8:List Rat}{B:Nat}(h:∀t,(J8.getD t 0).den<=B):∀k,Ib (B^k) (kZ J8 k)
 |0=>Ib.one (aE _)
 |k+1=>by
  rw[Nat.pow_succ];exact(vL h k).mul ⟨((J8.getD k 0).den:Int),rfl,by rw[Int.natAbs_natCast];exact h k⟩
theorem DQ(q:Rat):(q.den:Rat)*q=(q.num:Rat):=by
 have h:=Rat.num_divInt_den q;have h0:((q.den:Int):Rat)≠0:=by have:=q.den_nz;exact_mod_cast this
 rw[Rat.divInt_eq_div]at h;have V:(q.num:Rat) / ((q.den:Int):Rat)*((q.den:Int):Rat)=(q.num:Rat):=Rat.div_mul_cancel h0;rw[h,bg]at V;exact V
theorem yI{J8:List Rat}{B:Nat}(h:∀t,(J8.getD t 0).den<=B)(A:∀t,(J8.getD t 0).num.natAbs<=B)(hB:1<=B):∀k t,t<k->Ib (B^k) (kZ J8 k*J8.getD t 0)
 |0,t,ht=>by omega
 |k+1,t,ht=>by
  rw[kZ,Nat.pow_succ];rcases aO t k with V|V
  ·rw[show ∀a b c:Rat,a*b*c=(a*c)*b from fun a b c=>by grind];exact(yI h A hB k t V).mul ⟨((J8.getD k 0).den:Int),rfl,by rw[Int.natAbs_natCast];exact h k⟩
  ·rw[show t=k by omega,Rat.mul_assoc,DQ];exact(vL h k).mul (Ib.int (A k))
theorem nU{l:Nat}:1<=wt l:=ua l
theorem DR{q:Rat}{l:Nat}(h:rl q<=l):q.num.natAbs<wt l/\q.den<wt l:=⟨fc.1 (a9 (gJ q) h),fc.1 (a9 (Iw q) h)⟩
theorem Fu(l k:Nat):wt l^k=wt (l*k):=by rw[rY,rY,<-Nat.pow_mul,bb]
theorem Fv(hl:J8.length<=n)(h:∀q∈J8,rl q<=3):Den (wt (3*n)) (kZ J8 n) J8:=by
 have K:∀t,rl (J8.getD t 0)<=3:=fun t=>by
  rw[List.getD]
  cases ht:J8[t]? with
  |none=>show rl 0<=3;decide
  |some q=>exact h q (aD ht)
 have V:∀t,(J8.getD t 0).den<=wt 3:=fun t=>Nat.le_of_lt (DR (K t)).2;have I:∀t,(J8.getD t 0).num.natAbs<=wt 3:=fun t=>Nat.le_of_lt (DR (K t)).1;refine⟨Al J8 n,by rw[<-Fu];exact vL V n,fun t=>?_⟩;rcases aO t n with ht|ht
 ·rw[<-Fu];exact yI V I nU n t ht
 ·rw[gV (by omega),ai];exact Ib.zero _
theorem getD_some{α:Type}{l:List α}{i:Nat}{x d:α}(h:l[i]? =some x):l.getD i d=x:=by rw[List.getD,h];rfl
structure zE(M:List (List Rat))(n:Nat)(J8:Nat->Rat):Prop where
 len:gH n M
 pos:∀t,t<n->0<=J8 t
 Jg:∀x:Nat->Rat,(∀j,j<M.length->mulR M n x j=0)->cM (fun t=>J8 t*(x t*x t)) n=0->∀t,t<n->x t=0
theorem vM(M:List (List Rat))(n:Nat)(x y:Nat->Rat)(j:Nat):mulR M n (fun t=>x t+y t) j=mulR M n x j+mulR M n y j:=by
 unfold mulR;rw[<-fN];exact bq fun t _=>by grind
theorem vN(M:List (List Rat))(n:Nat)(x:Nat->Rat)(c:Rat)(j:Nat):mulR M n (fun t=>c*x t) j=c*mulR M n x j:=by
 unfold mulR;rw[<-da];exact bq fun t _=>by grind
theorem Am(M:List (List Rat))(n:Nat)(S:Mx)(c:Nat->Rat)(j s:Nat):mulR M n (fun t=>cM (fun k=>c k*S k t) s) j=cM (fun k=>c k*mulR M n (S k) j) s:=by
 induction s with
 |zero=>exact(bq (g:=fun _=>0) fun t _=>ai _).trans (dD n)
 |succ s ih=>
  show mulR M n (fun t=>cM (fun k=>c k*S k t) s+c s*S s t) j=cM (fun k=>c k*mulR M n (S k) j) s+c s*mulR M n (S s) j;rw[vM,vN,ih]
theorem mL(h:∀t,t<n->x t=y t)(j:Nat):mulR M n x j=mulR M n y j:=bq fun t ht=>by rw[h t ht]
def qZ(J8 x y:Nat->Rat)(n:Nat):Rat:=cM (fun t=>J8 t*(x t*y t)) n
theorem q8(J8 x y:Nat->Rat)(n:Nat):qZ J8 x y n=qZ J8 y x n:=bq fun t _=>by grind
theorem DS(J8 x y z:Nat->Rat)(n:Nat):qZ J8 x (fun t=>y t+z t) n=qZ J8 x y n+qZ J8 x z n:=by
 unfold qZ;rw[<-fN];exact bq fun t _=>by grind
theorem q9(J8 x:Nat->Rat)(S:Mx)(c:Nat->Rat)(n s:Nat):qZ J8 x (fun t=>cM (fun k=>c k*S k t) s) n=cM (fun k=>c k*qZ J8 x (S k) n) s:=by
 unfold qZ;rw[bq (g:=fun t=>cM (fun k=>c k*(J8 t*(x t*S k t))) s) fun t _=>by rw[<-da,<-da];exact bq fun k _=>by grind,nS];exact bq fun k _=>by rw[da]
theorem rb{J8 x' y':Nat->Rat}(V:∀t,t<n->x t=x' t)(I:∀t,t<n->y t=y' t):qZ J8 x y n=qZ J8 x' y' n:=bq fun t ht=>by rw[V t ht,I t ht]
section
variable{M:List (List Rat)}{n:Nat}{J8:Nat->Rat}{b:List Rat}
def DT(M:List (List Rat))(n:Nat)(J8:Nat->Rat)(i j:Nat):Rat:=qZ J8 (cT (cH M n) i) (cT (cH M n) j) n
theorem zE.Fw(h:zE M n J8){c:Nat->Rat}(hc:∀i,i<(cH M n).length->cM (fun j=>DT M n J8 i j*c j) (cH M n).length=0):∀i,i<(cH M n).length->c i=0:=by
 obtain⟨y,hy⟩:∃y:Nat->Rat,y=fun t=>cM (fun k=>c k*cT (cH M n) k t) (cH M n).length:=⟨_,rfl⟩
 have QJ:∀j,j<M.length->mulR M n y j=0:=fun j hj=>by
  rw[hy,Am,bq (g:=fun _=>0) fun k W=>by rw[vI h.len W j hj,ai],dD]
 have L:∀i,i<(cH M n).length->qZ J8 (cT (cH M n) i) y n=0:=fun i N=>by
  rw[hy,q9,<-hc i N];exact bq fun k _=>bg _ _
 have h0:qZ J8 y y n=0:=by
  have:qZ J8 y y n=cM (fun k=>c k*qZ J8 y (cT (cH M n) k) n) (cH M n).length:=by
   rw[<-q9,<-hy]
  rw[this,bq (g:=fun _=>0) fun k W=>by rw[q8,L k W,ai],dD]
 exact H6 (M:=M) fun t ht=>by
  have:=h.Jg y QJ h0 t ht;rw[hy]at this;exact this
theorem zE.only(h:zE M n J8)(F:∀j,j<M.length->mulR M n x j=0)(hs:∀k,k<(cH M n).length->qZ J8 (cT (cH M n) k) x n=0):∀t,t<n->x t=0:=by
 obtain⟨c,hc⟩:=DO h.len F;have h0:qZ J8 x x n=0:=by
  rw[rb (x':=x) (fun _ _=>rfl) hc,q9,bq (g:=fun _=>0) fun k W=>by rw[q8,hs k W,ai],dD]
 exact h.Jg x F h0
def rf(k:Nat):List Rat:=List.replicate k 0
theorem nV(b:List Rat)(k j:Nat):(b++rf k).getD j 0=b.getD j 0:=by
 unfold rf;rcases aO j b.length with h|h
 ·rw[List.getD,aJ h,<-List.getD]
 ·rw[gV h,List.getD,aN h,List.getElem?_replicate];split<;>rfl
structure gz(M:List (List Rat))(n:Nat)(J8:Nat->Rat)(b x:List Rat):Prop where
 len:x.length=n
 eq:∀j,j<M.length->mulR M n (fun t=>x.getD t 0) j=b.getD j 0
 st:∀k,k<(cH M n).length->qZ J8 (cT (cH M n) k) (fun t=>x.getD t 0) n=0
theorem zE.one(h:zE M n J8){x y:List Rat}(F:gz M n J8 b x)(hy:gz M n J8 b y):x=y:=by
 refine jJ 0 (by rw[F.len,hy.len]) fun t ht=>?_;rw[F.len]at ht
 have:=h.only (x:=fun t=>x.getD t 0-y.getD t 0) (fun j hj=>by rw[Fp,F.eq j hj,hy.eq j hj];grind) (fun k W=>by
  rw[show (fun t=>x.getD t 0-y.getD t 0)=fun t=>x.getD t 0+(-1)*y.getD t 0 from funext fun t=>by grind,DS,F.st k W];have I:=hy.st k W;unfold qZ at I ⊢;rw[bq (f:=fun t=>J8 t*(cT (cH M n) k t*(-1*y.getD t 0))) (g:=fun t=>(-1)*(J8 t*(cT (cH M n) k t*y.getD t 0))) fun t _=>by grind,da,I]
  grind) t ht
 grind
end
theorem nW{a b:List Rat}{t:Nat}(ht:t<a.length):(fe a b).getD t 0=a.getD t 0*b.getD t 0:=by
 have h:=aA ht;rw[getD_some h];exact getD_some (by rw[fe,List.getElem?_mapIdx,h];rfl)
section
variable{M:List (List Rat)}{n:Nat}{fl b:List Rat}
theorem rh(M:List (List Rat))(n:Nat)(fl:List Rat){i j:Nat}(N:i<(cH M n).length)(hj:j<(cH M n).length):cT (dY (cH M n) fl) i j=DT M n (fun t=>fl.getD t 0) i j:=by
 have hr:=aA N;have hs:=aA hj;have hl:((cH M n)[i]).length=n:=mK M n _ (aV N);have V:(dY (cH M n) fl)[i]? =some ((cH M n).map fun r=>eL (fe (cH M n)[i] fl) r (cH M n)[i].length):=by rw[dY,aM,hr];rfl
 have I:((cH M n).map fun r=>eL (fe (cH M n)[i] fl) r (cH M n)[i].length)[j]? =some (eL (fe (cH M n)[i] fl) (cH M n)[j] (cH M n)[i].length):=by rw[aM,hs];rfl
 rw[cT,getD_some V,getD_some I,p9,hl];refine bq fun t ht=>?_;rw[nW (by omega),cT,cT,getD_some hr,getD_some hs];grind
theorem mM(st:List (List Rat))(fl:List Rat):gH st.length (dY st fl):=fun r hr=>by
 obtain⟨s,hs,rfl⟩:=aT.1 hr;rw[aK]
theorem An(M:List (List Rat))(n:Nat)(fl x:List Rat){i:Nat}(N:i<(cH M n).length):(fW (cH M n) fl x).getD i 0= -(qZ (fun t=>fl.getD t 0) (cT (cH M n) i) (fun t=>x.getD t 0) n):=by
 have hr:=aA N;have hl:((cH M n)[i]).length=n:=mK M n _ (aV N);have V:(fW (cH M n) fl x)[i]? =some (-(eL (fe (cH M n)[i] fl) x (cH M n)[i].length)):=by rw[fW,aM,hr];rfl
 rw[getD_some V,p9,hl];congr 1;refine bq fun t ht=>?_;rw[nW (by omega),cT,getD_some hr];grind
theorem o7(st:List (List Rat))(c x:List Rat):∀i,(j6 st c x i).length=x.length
 |0=>rfl
 |i+1=>by rw[j6,List.length_mapIdx,o7 st c x i]
theorem vO(st:List (List Rat))(c x:List Rat){t:Nat}(ht:t<x.length):∀i,(j6 st c x i).getD t 0=x.getD t 0+cM (fun k=>c.getD k 0*cT st k t) i
 |0=>(bW _).symm
 |i+1=>by
  have hl:t<(j6 st c x i).length:=by rw[o7];exact ht
  have ih:=vO st c x ht i;rw[getD_some (aA hl)]at ih;rw[getD_some (show (j6 st c x (i+1))[t]? =some ((j6 st c x i)[t]+c.getD i 0*(st.getD i []).getD t 0) by rw[j6,List.getElem?_mapIdx,aA hl];rfl),ih,cM,Rat.add_assoc];rfl
theorem zE.force(h:zE M n fun t=>fl.getD t 0)(h0:ff M b n=some x0):∃c,ff (dY (cH M n) fl) (fW (cH M n) fl x0) (cH M n).length=some c/\c.length=(cH M n).length/\
  gz M n (fun t=>fl.getD t 0) b (j6 (cH M n) c x0 (cH M n).length):=by
 obtain⟨QK,Pk⟩:=jy h.len h0;have hG:=mM (cH M n) fl;have hGl:(dY (cH M n) fl).length=(cH M n).length:=aK _;have hc:∃c,ff (dY (cH M n) fl) (fW (cH M n) fl x0) (cH M n).length=some c:=by
  cases e:ff (dY (cH M n) fl) (fW (cH M n) fl x0) (cH M n).length with
  |some c=>exact⟨c,rfl⟩
  |none=>
   obtain⟨y,y1,y2⟩:=pg hG e;rw[hGl]at y1 y2;have hy:=h.Fw (c:=y) fun i N=>Eq.trans (bq fun j hj=>by rw[rh M n fl hj N,bg];unfold DT;rw[q8]) (y1 i N);exact absurd (by rw[bq (g:=fun _=>0) fun j hj=>by rw[hy j hj,bD],dD]) y2
 obtain⟨c,hc⟩:=hc;obtain⟨c1,c2⟩:=jy hG hc;refine⟨c,hc,c1,by rw[o7];exact QK,fun j hj=>?_,fun k W=>?_⟩
 ·rw[mL (y:=fun t=>x0.getD t 0+cM (fun k=>c.getD k 0*cT (cH M n) k t) (cH M n).length) fun t ht=>vO _ c x0 (by omega) _,vM,Am,Pk j hj,bq (g:=fun _=>0) fun k W=>by rw[vI h.len W j hj,ai],dD,bW]
 ·rw[rb (x':=cT (cH M n) k) (y':=fun t=>x0.getD t 0+cM (fun k=>c.getD k 0*cT (cH M n) k t) (cH M n).length) (fun _ _=>rfl) fun t ht=>vO _ c x0 (by omega) _,DS,q9];have I:=c2 k (by omega);rw[An M n fl x0 W]at I;unfold mulR at I;rw[bq (g:=fun t=>c.getD t 0*qZ (fun t=>fl.getD t 0) (cT (cH M n) k) (cT (cH M n) t) n) fun t ht=>by rw[rh M n fl W ht,bg];rfl]at I;rw[I];grind
end
def ez(M:List (List Int))(r c:Nat):Int:=(M.getD r []).getD c 0
theorem getD_set_ne{α:Type}{l:List α}{i j:Nat}{x d:α}(h:i≠j):(l.set i x).getD j d=l.getD j d:=by rw[List.getD,aY h,<-List.getD]
theorem k6{α:Type}{l:List α}{i:Nat}{x d:α}(h:i<l.length):(l.set i x).getD i d=x:=by rw[List.getD,aR h];rfl
theorem hJ{M:List (List Int)}{r r' c':Nat}(h:r'≠r\/c'≠c):ez (putAt M r c d) r' c'=ez M r' c':=by
 unfold ez putAt;by_cases V:r'=r
 ·subst V;have I:c≠c':=h.elim (fun h=>absurd rfl h) fun h=>h.symm;rcases aO r' M.length with K|K
  ·rw[k6 K,getD_set_ne I]
  ·rw[List.set_eq_of_length_le K]
 ·rw[getD_set_ne (Ne.symm V)]
theorem Ao{M:List (List Int)}{r:Nat}(hr:r<M.length)(hc:c<(M.getD r []).length):ez (putAt M r c d) r c=d:=by
 unfold ez putAt;rw[k6 hr,k6 hc]
theorem gI(M:List (List Int))(r c:Nat)(d:Int):vA M r c d=putAt M r c (ez M r c+d):=rfl
theorem DU{i:Nat}{b:Int×Int×Rat}(hb:f.bars[i]? =some b):f.bars.getD i (0,0,0)=b:=by rw[List.getD,hb];rfl
theorem rk{f:eS}{M:List (List Int)}{i c r:Nat}(h:c≠i):∀k,ez (ee f M i k) r c=ez M r c
 |0=>rfl
 |k+1=>by
  rw[ee];rw[gI,hJ (.inr h),gI,hJ (.inr h)];exact rk h k
theorem k7(f:eS){r c:Nat}:∀i,i<=c->ez (du f i) r c=0
 |0,_=>by
  unfold ez du;rcases aO r (3*f.nodes.length)with h|h
  ·rw[show (List.replicate (3*f.nodes.length) (List.replicate f.cols (0:Int))).getD r []=List.replicate f.cols 0 by rw[List.getD,List.getElem?_replicate,if_pos h];rfl,List.getD,List.getElem?_replicate];split<;>rfl
  ·rw[show (List.replicate (3*f.nodes.length) (List.replicate f.cols (0:Int))).getD r []=[] by rw[List.getD,List.getElem?_replicate,aF (by omega)];rfl];rfl
 |i+1,h=>by rw[du,rk (by omega)];exact k7 f i (by omega)
theorem toNat_add{a:Int}{k ka:Nat}(h:a=ka):(3*a+(k:Int)).toNat=3*ka+k:=by omega
theorem yJ{f:eS}{M:List (List Int)}{i r ka kb:Nat}{b:Int×Int×Rat}(hb:f.bars[i]? =some b)(ea:b.1=ka)(eb:b.2.1=kb):∀k,k<=3->k<=r % 3->ez (ee f M i k) r i=ez M r i
 |0,_,_=>rfl
 |k+1,K,h=>by
  rw[ee];rw[DU hb,toNat_add ea,toNat_add eb,gI,hJ (.inl (by omega)),gI,hJ (.inl (by omega))];exact yJ hb ea eb k (by omega) (by omega)
theorem vP{i r ka kb k:Nat}{b:Int×Int×Rat}(hb:f.bars[i]? =some b)(ea:b.1=ka)(eb:b.2.1=kb)(W:k<=3)(h:k<=r % 3):ez (ee f (du f i) i k) r i=0:=by
 rw[yJ hb ea eb k W h];exact k7 f i (aE _)
theorem vQ{f:eS}{r c:Nat}(h:c<f.bars.length):∀k,ez (eN f k) r c=ez (du f f.bars.length) r c
 |0=>rfl
 |k+1=>by
  rw[eN];rw[hJ (.inr (by omega))];exact vQ h k
theorem ss{f:eS}{r i:Nat}:∀k,k<=i->ez (eN f k) r (f.bars.length+i)=0
 |0,_=>k7 f _ (by omega)
 |k+1,h=>by
  rw[eN];rw[hJ (.inr (by omega))];exact ss k (by omega)
def fX(s:Int×Int×Rat):Nat:=(3*s.1+s.2.1).toNat
theorem yK{f:eS}(L:∀k,∀l∈eN f k,l.length=f.cols)(hlen:∀k,(eN f k).length=3*f.nodes.length)(Kr:∀s∈f.cJ,fX s<3*f.nodes.length){r i:Nat}{s:Int×Int×Rat}(hs:f.cJ[i]? =some s):
  ∀k,i<k->ez (eN f k) r (f.bars.length+i)=if r=fX s then 1 else 0
 |0,h=>by omega
 |k+1,h=>by
  rw[eN];rcases aO i k with V|V
  ·rw[hJ (.inr (by omega))];exact yK L hlen Kr hs k V
  ·have:i=k:=by omega
   subst this;have R:f.cJ.getD i (0,0,0)=s:=by rw[List.getD,hs];rfl
   have hsr:=Kr s (aD hs);have N:=(aC.1 hs).1;rw[R];by_cases I:r=fX s
   ·rw[if_pos I,I];have hm:fX s<(eN f i).length:=by rw[hlen];exact hsr
    exact Ao hm (by
     show f.bars.length+i<((eN f i).getD (fX s) []).length;rw[List.getD,aA hm];show f.bars.length+i<((eN f i)[fX s]).length;rw[L i _ (aV hm),eS.cols]
     omega)
   ·rw[aF I];exact(hJ (r:=fX s) (.inl I)).trans (ss i (aE _))
end Go.Ex
namespace Go.Ex
open Go Go.Sx Go.Proofs
variable{O:Nat->Sx.cd}
theorem Cv.new{w Y:World}{g:Nat}(R:Cf w [(w.heap.size,Y.heap.size)] g):Nf w Y g:=by
 rcases R with R|⟨V,lo,N,I,K,h4⟩
 ·exact R.elim
 ·simp at I;obtain⟨rfl,rfl⟩:=I;exact .inr ⟨K,h4⟩
structure aAK(w:World)(B:Nat)(iv:Iv)(v:Value)(M:List (List Rat)):Prop where
 row:∃rv,w.ownsRow 0 T.jC 1 v M.length rv/\rv.length=M.length/\(∀u∈rv,u.oneCell'=true)/\∀(i:Nat) u x,rv[i]? =some u->M[i]? =some x->cF w (Bs FF B iv v) u x
 new:∀g,v.ownBlock=some g->Cv FF B iv g
section
variable{H:Hp}{nx:Nat}{iv E:Iv}{B:Nat}{w J Y:World}{O:Nat->Sx.cd}{v:Value}{M:List (List Rat)}
end
theorem At.Jp{id n:Nat}:((At.w id n).den O).oneCell'=true:=by
 cases h:(O id).nil<;>simp[At.den,h,Value.oneCell']
end Go.Ex
namespace Go.Ex
variable{s:Int×Int×Rat}{M:List (List Int)}{fl x:List Rat}{r:Nat}{u y z:Nat->Rat}{f:eS}
theorem H9{c:Nat}:cT (M.map dh) r c=((ez M r c:Int):Rat):=by
 have key:∀l:List Int,(dh l).getD c 0=((l.getD c 0:Int):Rat):=fun l=>by
  rw[dh,List.getD,List.getD,aM]
  cases l[c]? <;>rfl
 unfold cT ez;rw[<-key];congr 1;rw[List.getD,List.getD,aM]
 cases M[r]? <;>rfl
theorem CO(f:eS)(r c:Nat):cT (cK f) r c=((ez (iK f) r c:Int):Rat):=H9
def Ix(n:Nat)(M:List (List Int)):Prop:=∀l∈M,l.length=n
theorem Ix.put{n c:Nat}{d:Int}(h:Ix n M):Ix n (putAt M r c d):=fun l hl=>by
 unfold putAt at hl;rcases aO r M.length with hr|hr
 ·rcases bB hl with hl|rfl
  ·exact h l hl
  ·rw[bH,List.getD,aA hr];exact h _ (aV hr)
 ·rw[List.set_eq_of_length_le hr]at hl;exact h l hl
theorem yL{f:eS}{M:List (List Int)}{n i:Nat}(h:Ix n M):∀k,Ix n (ee f M i k)
 |0=>h
 |k+1=>by rw[ee];rw[gI,gI];exact((yL h k).put).put
theorem vR(f:eS):∀i,Ix f.cols (du f i)
 |0=>fun l hl=>by rw[du]at hl;rw[bN hl,aa]
 |i+1=>by rw[du];exact yL (vR f i) 3
theorem mO(f:eS):∀i,Ix f.cols (eN f i)
 |0=>vR f _
 |i+1=>by rw[eN];exact(mO f i).put
theorem mP(M:List (List Int))(r c:Nat)(d:Int):(putAt M r c d).length=M.length:=bH ..
theorem qa(f:eS)(M:List (List Int))(i:Nat):∀k,(ee f M i k).length=M.length
 |0=>rfl
 |k+1=>by rw[ee];rw[gI,gI,mP,mP];exact qa f M i k
theorem pD(f:eS):∀i,(du f i).length=3*f.nodes.length
 |0=>aa ..
 |i+1=>by rw[du,qa];exact pD f i
theorem ky(f:eS):∀i,(eN f i).length=3*f.nodes.length
 |0=>pD f _
 |i+1=>by rw[eN,mP];exact ky f i
theorem fH(f:eS):gH f.cols (cK f):=fun r hr=>by
 obtain⟨l,hl,rfl⟩:=aT.1 hr;rw[dh,aK];exact mO f _ l hl
theorem fE(f:eS):(cK f).length=3*f.nodes.length:=by rw[cK,aK];exact ky f _
structure Bf(f:eS):Prop where
 co:∀p∈f.nodes,(-1000000<=p.1/\p.1<=1000000)/\(-1000000<=p.2.1/\p.2.1<=1000000)/\(-1000000<=p.2.2/\p.2.2<=1000000)
 JZ:∀b∈f.bars,∃ka kb:Nat,b.1=ka/\b.2.1=kb/\ka<f.nodes.length/\kb<f.nodes.length/\ka≠kb/\0<b.2.2
 sup:∀s∈f.cJ,fX s<3*f.nodes.length/\0<=s.2.2
 one:∀(i j:Nat) s t,f.cJ[i]? =some s->f.cJ[j]? =some t->fX s=fX t->i=j
 n:f.nodes.length<=20
 b:f.bars.length<=60
 s:f.cJ.length<=60
theorem DV{α:Type}{l:List α}{x:α}(h:x∈l):∃i:Nat,l[i]? =some x:=by
 obtain⟨i,N,rfl⟩:=List.mem_iff_getElem.1 h;exact⟨i,aA N⟩
theorem Iy(h:eB f=0):Bf f:=by
 have Kt:=uD h;obtain⟨⟨V,I,K⟩,h4,h5,h6⟩:=yM h;have RC:∀(k:Nat) s,f.cJ[k]? =some s->gq f.nodes.length s.1/\(0<=s.2.1/\s.2.1<=2)/\gW s∉(f.cJ.take k).map gW/\0<=s.2.2:=fun k s hs=>o8.1 (eV h6 k s hs);have Kr:∀(k:Nat) s,f.cJ[k]? =some s->(fX s:Int)=3*s.1+s.2.1/\fX s<3*f.nodes.length:=fun k s hs=>by
  obtain⟨⟨a1,a2⟩,⟨a3,a4⟩,-,-⟩:=RC k s hs;unfold fX;omega
 have lt:∀(i j:Nat) s t,i<j->f.cJ[i]? =some s->f.cJ[j]? =some t->fX s≠fX t:=fun i j s t Lt hs ht e=>by
  obtain⟨⟨a1,a2⟩,⟨a3,a4⟩,-,-⟩:=RC i s hs;obtain⟨⟨b1,b2⟩,⟨b3,b4⟩,b5,-⟩:=RC j t ht;have e1:=(Kr i s hs).1;have e2:=(Kr j t ht).1;refine b5 (aT.2 ⟨s,aD (i:=i) (by rw[bM Lt];exact hs),?_⟩);exact Prod.ext (by show s.1=t.1;omega) (by show s.2.1=t.2.1;omega)
 refine⟨Kt.co,fun b hb=>?_,fun s hs=>?_,fun i j s t hs ht e=>?_,V,I,K⟩
 ·obtain⟨k,W⟩:=DV hb;obtain⟨⟨⟨a1,a2⟩,a3,a4⟩,a5,-,a6⟩:=o9.1 (eV h5 k b W);exact⟨b.1.toNat,b.2.1.toNat,by omega,by omega,by omega,by omega,by omega,a6⟩
 ·obtain⟨k,W⟩:=DV hs;exact⟨(Kr k s W).2,(RC k s W).2.2.2⟩
 ·rcases Nat.lt_trichotomy i j with h7|h7|h7
  ·exact absurd e (lt i j s t h7 hs ht)
  ·exact h7
  ·exact absurd e.symm (lt j i t s h7 ht hs)
theorem Ap(M:List (List Int))(r c r' c':Nat)(d:Int):ez (putAt M r c d) r' c'=d\/ez (putAt M r c d) r' c'=ez M r' c':=by
 by_cases h:r'=r/\c'=c
 ·obtain⟨rfl,rfl⟩:=h;rcases aO r' M.length with V|V
  ·rcases aO c' (M.getD r' []).length with I|I
   ·exact .inl (Ao V I)
   ·refine .inr ?_;unfold ez putAt;rw[k6 V,List.set_eq_of_length_le I]
  ·refine .inr ?_;unfold ez putAt;rw[List.set_eq_of_length_le V]
 ·exact .inr (hJ (by
   by_cases V:r'=r
   ·exact .inr fun I=>h ⟨V,I⟩
   ·exact .inl V))
theorem Aq{k:Nat}(W:k<f.nodes.length):f.node (k:Int)∈f.nodes:=by
 rw[eS.node,aG,List.getD,aA W];exact aV W
section
variable{f:eS}(h:Bf f)
include h
theorem Bf.Km{b:Int×Int×Rat}(hb:b∈f.bars)(k:Nat): -2000000<=(uz f b).getD k 0/\(uz f b).getD k 0<=2000000:=by
 obtain⟨ka,kb,ea,eb,hka,Ks,-,-⟩:=h.JZ b hb;obtain⟨⟨a1,a2⟩,⟨a3,a4⟩,a5,a6⟩:=h.co _ (Aq hka);obtain⟨⟨b1,b2⟩,⟨b3,b4⟩,b5,b6⟩:=h.co _ (Aq Ks);rw[uz,ea,eb]
 match k with
 |0=>simp[List.getD];omega
 |1=>simp[List.getD];omega
 |2=>simp[List.getD];omega
 |k+3=>simp[List.getD]
theorem Bf.Ar{i:Nat}{b:Int×Int×Rat}(hb:f.bars[i]? =some b)(r:Nat):∀k,k<=3-> -2000000<=ez (ee f (du f i) i k) r i/\ez (ee f (du f i) i k) r i<=2000000
 |0,_=>by
  have:=k7 f (r:=r) i (aE i);rw[ee,this];omega
 |k+1,W=>by
  obtain⟨ka,kb,ea,eb,-,-,Kq,-⟩:=h.JZ b (aD hb);have ih:=Bf.Ar hb r k (by omega);have hd:=h.Km (aD hb) k;have z1:=vP (r:=3*ka+k) hb ea eb (show k<=3 by omega) (by omega);have z2:=vP (r:=3*kb+k) hb ea eb (show k<=3 by omega) (by omega);rw[ee];rw[DU hb,toNat_add ea,toNat_add eb,gI,gI,z1,hJ (r':=3*kb+k) (.inl (by omega)),z2];rcases Ap (putAt (ee f (du f i) i k) (3*ka+k) i (0+(uz f b).getD k 0)) (3*kb+k) i r i (0+ -(uz f b).getD k 0)with e|e
  ·rw[e];omega
  ·rw[e];rcases Ap (ee f (du f i) i k) (3*ka+k) i r i (0+(uz f b).getD k 0)with e|e
   ·rw[e];omega
   ·rw[e];exact ih
theorem Bf.DW{i r:Nat}(N:i<f.bars.length):∀j,i<j->j<=f.bars.length-> -2000000<=ez (du f j) r i/\ez (du f j) r i<=2000000
 |0,V,_=>by omega
 |j+1,V,I=>by
  rw[du];rcases aO i j with K|K
  ·rw[rk (by omega)];exact Bf.DW N j K (by omega)
  ·rw[show j=i by omega];exact h.Ar (aA N) r 3 (aE _)
theorem Bf.CP{i:Nat}(hs:f.cJ[i]? =some s):ez (iK f) r (f.bars.length+i)=if r=fX s then 1 else 0:=
 yK (mO f) (ky f) (fun s hs=>(h.sup s hs).1) hs _ (aC.1 hs).1
theorem Bf.Iz(r c:Nat): -2000000<=ez (iK f) r c/\ez (iK f) r c<=2000000:=by
 rcases aO c f.bars.length with hc|hc
 ·rw[iK,vQ hc];exact h.DW hc _ hc (aE _)
 ·rcases aO c f.cols with V|V
  ·obtain⟨i,rfl⟩:∃i,c=f.bars.length+i:=⟨c-f.bars.length,by omega⟩
   rw[eS.cols]at V;rw[h.CP (aA (show i<f.cJ.length by omega))];split<;>omega
  ·have:ez (iK f) r c=0:=by
    unfold ez;rw[List.getD,List.getElem?_eq_none]
    ·rfl
    ·rcases aO r (iK f).length with I|I
     ·rw[List.getD,aA I];show((iK f)[r]).length<=c;rw[mO f _ _ (aV I)];exact V
     ·rw[List.getD,List.getElem?_eq_none I];exact aP _
   rw[this];omega
theorem Bf.zF(r c:Nat):Ib 2000000 (cT (cK f) r c):=by
 rw[CO];have:=h.Iz r c;exact Ib.int (by omega)
theorem Bf.uE:zz (cK f) f.cols 2000000:=fun j _=>⟨1,by decide,Ib.one (by decide),fun t _=>by rw[bm];exact h.zF j t⟩
theorem Bf.only{x:Nat->Rat}(F:∀j,j<(cK f).length->mulR (cK f) f.cols x j=0)(h0:∀t,t<f.bars.length->x t=0):∀t,t<f.cols->x t=0:=fun t ht=>by
 rcases aO t f.bars.length with V|V
 ·exact h0 t V
 ·obtain⟨i,rfl⟩:∃i,t=f.bars.length+i:=⟨t-f.bars.length,by omega⟩
  have N:i<f.cJ.length:=by unfold eS.cols at ht;omega
  have hs:=aA N;have hr:=h.sup _ (aV N);have I:=F (fX f.cJ[i]) (by rw[fE];exact hr.1);unfold mulR at I;rw[fD ht fun k W Kq=>?_,CO,h.CP hs,if_pos rfl]at I
  ·have e:((1:Int):Rat)*x (f.bars.length+i)=x (f.bars.length+i):=bm _
   rwa [e]at I
  ·rcases aO k f.bars.length with K|K
   ·rw[h0 k K,ai]
   ·obtain⟨i',rfl⟩:∃i,k=f.bars.length+i:=⟨k-f.bars.length,by omega⟩
    have Oe:i'<f.cJ.length:=by unfold eS.cols at W;omega
    have PS:=aA Oe;rw[CO,h.CP PS,aF fun e=>Kq (by rw[h.one i i' _ _ hs PS e])];exact bD _
theorem Bf.Fx{t:Nat}(ht:t<f.bars.length):0<(cX f).getD t 0:=by
 obtain⟨_,_,_,_,_,_,_,V⟩:=h.JZ _ (aV ht);rw[cX,List.getD,aJ (by rw[aK];exact ht),aM,aA ht];exact V
theorem Bf.As(t:Nat):0<=(cX f).getD t 0:=by
 rw[List.getD]
 cases ht:(cX f)[t]? with
 |none=>exact Rat.le_refl
 |some q=>
  show 0<=q;have hm:=aD ht;rcases bG.1 hm with hm|hm
  ·obtain⟨b,hb,rfl⟩:=aT.1 hm;obtain⟨_,_,_,_,_,_,_,V⟩:=h.JZ b hb;exact Rat.le_of_lt V
  ·obtain⟨s,hs,rfl⟩:=aT.1 hm;exact(h.sup s hs).2
theorem Bf.Au:zE (cK f) f.cols fun t=>(cX f).getD t 0:=by
 refine⟨fH f,fun t _=>h.As t,fun x F h0=>h.only F fun t ht=>?_⟩;have V:=sn (f:=fun t=>(cX f).getD t 0*(x t*x t)) (n:=f.cols) (fun k _=>Rat.mul_nonneg (h.As k) (sq_nonneg _)) (by rw[h0];exact Rat.le_refl) t (by unfold eS.cols;omega);have I:=h.Fx ht;rcases Rat.mul_eq_zero.1 V with K|K
 ·rw[K]at I;exact absurd I (Rat.lt_irrefl)
 ·rcases Rat.mul_eq_zero.1 K with h4|h4<;>exact h4
end
theorem ph(f:Nat->Rat)(a:Nat):∀b,cM f (a+b)=cM f a+cM (fun k=>f (a+k)) b
 |0=>(bW _).symm
 |b+1=>by rw[show a+(b+1)=a+b+1 by omega,cM,cM,ph f a b,Rat.add_assoc]
theorem EY{M:List (List Rat)}{n k:Nat}(W:k<n):(kx M n).getD k []=M.map fun r=>r.getD k 0:=by
 unfold kx;exact getD_some (by rw[aM,b9 W];rfl)
theorem Av{M:List (List Rat)}{n k i:Nat}(W:k<n):cT (kx M n) k i=cT M i k:=by
 rw[cT,cT,EY W];rcases aO i M.length with h|h
 ·have hr:=aA h;rw[getD_some (show (M.map fun r=>r.getD k 0)[i]? =some (M[i].getD k 0) by rw[aM,hr];rfl),getD_some hr]
 ·rw[gV (by rw[aK];exact h),show M.getD i []=[] by rw[List.getD,List.getElem?_eq_none h];rfl];rfl
theorem yN(M:List (List Rat))(n:Nat):gH M.length (kx M n):=fun r hr=>by
 obtain⟨k,_,rfl⟩:=aT.1 hr;exact aK ..
theorem qb(M:List (List Rat))(n:Nat):(kx M n).length=n:=by simp[kx]
section
variable{M:List (List Rat)}{n:Nat}
theorem EZ{k:Nat}(W:k<n):mulR (kx M n) M.length y k=cM (fun i=>cT M i k*y i) M.length:=bq fun i _=>by rw[Av W]
def iz(M:List (List Rat))(n:Nat)(fl:List Rat):List (List Rat):=(M.map fun r=>List.replicate M.length 0++r)++(List.range n).map fun j=>(M.map fun r=>r.getD j 0)++(List.replicate n 0).set j (fl.getD j 0)
theorem gf(fl:List Rat):(iz M n fl).length=M.length+n:=by unfold iz;rw[List.length_append,aK,aK,List.length_range]
theorem oa(hM:gH n M)(fl:List Rat):gH (M.length+n) (iz M n fl):=fun r hr=>by
 rcases bG.1 hr with hr|hr
 ·obtain⟨x,F,rfl⟩:=aT.1 hr;rw[List.length_append,aa,hM x F]
 ·obtain⟨x,F,rfl⟩:=aT.1 hr;rw[List.length_append,aK,bH,aa]
theorem zG{i t:Nat}(N:i<M.length):(t<M.length->cT (iz M n fl) i t=0)/\cT (iz M n fl) i (M.length+t)=cT M i t:=by
 have hr:=aA N;have h:(iz M n fl)[i]? =some (List.replicate M.length 0++M[i]):=by
  unfold iz;rw[aJ (by rw[aK];exact N),aM,hr];rfl
 refine⟨fun ht=>?_,?_⟩
 ·rw[cT,getD_some h];exact getD_some (by rw[aJ (by rw[aa];exact ht),List.getElem?_replicate,if_pos ht])
 ·rw[cT,cT,getD_some h,getD_some hr,List.getD,List.getD,aN (by rw[aa];exact Nat.le_add_right _ _),aa,Nat.add_sub_cancel_left]
theorem vS{j t:Nat}(hj:j<n):(t<M.length->cT (iz M n fl) (M.length+j) t=cT M t j)/\(t<n->cT (iz M n fl) (M.length+j) (M.length+t)=if t=j then fl.getD j 0 else 0):=by
 have h:(iz M n fl)[M.length+j]? =some ((M.map fun r=>r.getD j 0)++(List.replicate n 0).set j (fl.getD j 0)):=by
  unfold iz;rw[aN (by rw[aK];exact Nat.le_add_right _ _),aK,Nat.add_sub_cancel_left,aM,b9 hj];rfl
 refine⟨fun ht=>?_,fun ht=>?_⟩
 ·have hr:=aA ht;rw[cT,cT,getD_some h,getD_some hr];exact getD_some (by rw[aJ (by rw[aK];exact ht),aM,hr];rfl)
 ·rw[cT,getD_some h];by_cases e:t=j
  ·subst e;rw[if_pos rfl];exact getD_some (by rw[aN (by rw[aK];exact Nat.le_add_right _ _),aK,Nat.add_sub_cancel_left,aR (by rw[aa];exact ht)])
  ·rw[aF e];exact getD_some (by rw[aN (by rw[aK];exact Nat.le_add_right _ _),aK,Nat.add_sub_cancel_left,aY (Ne.symm e),List.getElem?_replicate,if_pos ht])
theorem yO{i:Nat}(N:i<M.length):mulR (iz M n fl) (M.length+n) z i=mulR M n (fun t=>z (M.length+t)) i:=by
 unfold mulR;rw[ph,bq (g:=fun _=>0) fun t ht=>by rw[(zG N).1 ht,bD],dD,Rat.zero_add];exact bq fun t _=>by rw[(zG N).2]
theorem yP{j:Nat}(hj:j<n):mulR (iz M n fl) (M.length+n) z (M.length+j)=cM (fun i=>cT M i j*z i) M.length+fl.getD j 0*z (M.length+j):=by
 unfold mulR;rw[ph,bq fun t ht=>by rw[(vS hj).1 ht]];congr 1;rw[fD hj fun t ht Kq=>by rw[(vS hj).2 ht,aF Kq,bD],(vS hj).2 hj,if_pos rfl]
theorem E1(h:∀j,j<M.length->mulR M n y j=0):cM (fun t=>y t*cM (fun i=>cT M i t*u i) M.length) n=0:=by
 rw[bq (g:=fun t=>cM (fun i=>y t*(cT M i t*u i)) M.length) fun t _=>by rw[da],nS,bq (g:=fun _=>0) fun i N=>?_,dD];have V:=h i N;unfold mulR at V;rw[bq (g:=fun t=>cT M i t*y t*u i) fun t _=>by grind,oY,V,bD]
end
section
variable{M:List (List Rat)}{n:Nat}{fl b:List Rat}
theorem gz.KH(hM:gH n M)(h:gz M n (fun t=>fl.getD t 0) b x):∃u,ff (kx M n) (cz (fe x fl) (-1)) M.length=some u:=by
 cases e:ff (kx M n) (cz (fe x fl) (-1)) M.length with
 |some u=>exact⟨u,rfl⟩
 |none=>
  obtain⟨y,y1,y2⟩:=pg (yN M n) e;rw[qb]at y1 y2;refine absurd ?_ y2;have QJ:∀j,j<M.length->mulR M n y j=0:=fun j hj=>Eq.trans (bq fun t ht=>by rw[Av ht,bg]) (y1 j hj);obtain⟨c,hc⟩:=DO hM QJ;have hb:∀t,t<n->(cz (fe x fl) (-1)).getD t 0= -(fl.getD t 0*x.getD t 0):=fun t ht=>by
   have V:=nW (a:=x) (b:=fl) (t:=t) (by rw[h.len];exact ht);have hl:t<(fe x fl).length:=by rw[fe,List.length_mapIdx,h.len];exact ht
   rw[getD_some (aA hl)]at V;rw[getD_some (show (cz (fe x fl) (-1))[t]? =some ((fe x fl)[t]* -1) by rw[cz,aM,aA hl];rfl),V];grind
  have e1:cM (fun t=>y t*(cz (fe x fl) (-1)).getD t 0) n= -(qZ (fun t=>fl.getD t 0) (fun t=>x.getD t 0) y n):=by
   unfold qZ;rw[<-lL];exact bq fun t ht=>by rw[hb t ht];grind
  rw[e1,rb (x':=fun t=>x.getD t 0) (fun _ _=>rfl) hc,q9,bq (g:=fun _=>0) fun k W=>by rw[q8,h.st k W,ai],dD];rfl
theorem CQ(x fl:List Rat){n t:Nat}(F:x.length=n)(ht:t<n):(cz (fe x fl) (-1)).getD t 0= -(fl.getD t 0*x.getD t 0):=by
 have V:=nW (a:=x) (b:=fl) (t:=t) (by rw[F];exact ht);have hl:t<(fe x fl).length:=by rw[fe,List.length_mapIdx,F];exact ht
 rw[getD_some (aA hl)]at V;rw[getD_some (show (cz (fe x fl) (-1))[t]? =some ((fe x fl)[t]* -1) by rw[cz,aM,aA hl];rfl),V];grind
theorem Fy(hM:gH n M){u:List Rat}(hb:b.length=M.length)(h:gz M n (fun t=>fl.getD t 0) b x)(hu:ff (kx M n) (cz (fe x fl) (-1)) M.length=some u):
  (u++x).length=M.length+n/\∀j,j<(iz M n fl).length->mulR (iz M n fl) (M.length+n) (fun t=>(u++x).getD t 0) j=(b++rf n).getD j 0:=by
 obtain⟨u1,u2⟩:=jy (yN M n) hu;rw[qb]at u2;have ha:∀t,t<M.length->(u++x).getD t 0=u.getD t 0:=fun t ht=>by rw[List.getD,aJ (by omega),<-List.getD]
 have hc:∀t,(u++x).getD (M.length+t) 0=x.getD t 0:=fun t=>by rw[List.getD,aN (by omega),u1,Nat.add_sub_cancel_left,<-List.getD]
 refine⟨by rw[List.length_append,u1,h.len],fun j hj=>?_⟩;rw[gf]at hj;rw[nV];rcases aO j M.length with V|V
 ·rw[yO V,mL (y:=fun t=>x.getD t 0) fun t _=>hc t];exact h.eq j V
 ·obtain⟨k,rfl⟩:∃k,j=M.length+k:=⟨j-M.length,by omega⟩
  have W:k<n:=by omega
  rw[yP W,hc,gV (l:=b) (by omega),bq (g:=fun i=>cT M i k*u.getD i 0) fun i N=>by rw[ha i N]];have I:=u2 k W;rw[EZ W,CQ x fl h.len W]at I;rw[I];grind
theorem Fz(hM:gH n M){z:List Rat}(hb:b.length=M.length)(hz:ff (iz M n fl) (b++rf n) (M.length+n)=some z):gz M n (fun t=>fl.getD t 0) b (z.drop M.length):=by
 obtain⟨z1,z2⟩:=jy (oa hM fl) hz;have hd:∀t,(z.drop M.length).getD t 0=z.getD (M.length+t) 0:=fun t=>by rw[List.getD,List.getD,List.getElem?_drop]
 refine⟨by rw[List.length_drop,z1];omega,fun j hj=>?_,fun k W=>?_⟩
 ·have V:=z2 j (by rw[gf];omega);rw[yO hj,nV]at V;rw[<-V];exact mL (fun t _=>hd t) j
 ·have h0:=E1 (u:=fun i=>z.getD i 0) (vI hM W);unfold qZ;have e:cM (fun t=>fl.getD t 0*(cT (cH M n) k t*(z.drop M.length).getD t 0)) n= -cM (fun t=>cT (cH M n) k t*cM (fun i=>cT M i t*z.getD i 0) M.length) n:=by
   rw[<-lL];refine bq fun t ht=>?_;have V:=z2 (M.length+t) (by rw[gf];omega);rw[yP ht,nV,gV (l:=b) (by omega)]at V;rw[hd];grind
  rw[e,h0];rfl
end
end Go.Ex
namespace Go.Ex
open Go Go.Sx Go.Proofs
section
variable{S S':Nat->Prop}{H:Hp}{nx:Nat}{iv E:Iv}{B:Nat}{w J Y:World}{O:Nat->Sx.cd}{v:Value}{M:List (List Int)}
end
end Go.Ex
namespace Go.Ex
open Go
section
theorem CR:∀(F' m:Nat) (g:Nat->Nat),(∀i,i<m->g i<F')->(∀i j,i<m->j<m->g i=g j->i=j)->m<=F'
 |0,m,g,V,_=>by
  rcases bF m with h|h
  ·omega
  ·exact absurd (V 0 h) (Nat.not_lt_zero _)
 |F'+1,m,g,V,I=>by
  by_cases h:∃i,i<m/\g i=F'
  ·obtain⟨i0,N,e⟩:=h
   have:=CR F' (m-1) (fun i=>if i<i0 then g i else g (i+1)) (fun i Oe=>by
    show(if i<i0 then g i else g (i+1))<F';split
    ·rename_i LG;have:=V i (by omega);have:g i≠F':=fun e2=>by have:=I i i0 (by omega) N (by rw[e2,e]);omega
     omega
    ·have:=V (i+1) (by omega);have:g (i+1)≠F':=fun e2=>by have:=I (i+1) i0 (by omega) N (by rw[e2,e]);omega
     omega) (fun i j Oe hj' e2=>by
    have e3:(if i<i0 then g i else g (i+1))=(if j<i0 then g j else g (j+1)):=e2;split at e3<;>split at e3
    ·exact I _ _ (by omega) (by omega) e3
    ·have:=I _ _ (by omega) (by omega) e3;omega
    ·have:=I _ _ (by omega) (by omega) e3;omega
    ·have:=I _ _ (by omega) (by omega) e3;omega)
   omega
  ·exact Nat.le_succ_of_le (CR F' m g (fun i N=>by
    have:=V i N;have:g i≠F':=fun e=>h ⟨i,N,e⟩
    omega) I)
structure FrS(f:eS):Prop extends Bf f where
 n4:f.nodes.length<=4
 b6:f.bars.length<=6
variable{f:eS}
theorem FrS.Kn(h:FrS f):f.cJ.length<=12:=by
 have:=CR (3*f.nodes.length) f.cJ.length (fun i=>fX (f.cJ.getD i (0,0,0))) (fun i N=>by
  have e:f.cJ.getD i (0,0,0)=f.cJ[i]:=getD_some (aA N);show fX (f.cJ.getD i (0,0,0))<_;rw[e]
  exact(h.sup _ (aV N)).1) (fun i j N hj e=>by
  have e1:f.cJ.getD i (0,0,0)=f.cJ[i]:=getD_some (aA N);have e2:f.cJ.getD j (0,0,0)=f.cJ[j]:=getD_some (aA hj);have e:fX (f.cJ.getD i (0,0,0))=fX (f.cJ.getD j (0,0,0)):=e;rw[e1,e2]at e
  exact h.one i j _ _ (aA N) (aA hj) e)
 have:=h.n4;omega
theorem FrS.IU(h:FrS f):f.cols<=18:=by
 have V:=h.Kn;have I:=h.b6;unfold eS.cols;omega
theorem FrS.JA(h:FrS f):(cK f).length<=12:=by
 rw[fE];have:=h.n4;omega
theorem Jh:18*2000000<=wt 1:=by decide
theorem FrS.size(h:FrS f):ln (fB 2000000 (cK f).length)<=13:=by
 have:=h.JA;have I:=IT (B:=2000000) (Do:=18) (l:=1) (n:=(cK f).length) (by omega) Jh;omega
end
end Go.Ex
namespace Go.Ex
open Go Go.Sx Go.Proofs
variable{M:List (List Rat)}{s:List Int}{l:List Ld}{S:Nat->Prop}{f:eS}
theorem wx{n B h:Nat}(hM:gH n M)(hW:zz M n B)(hB:1<=B)(hh:ln (fB B M.length)+1<=h):BJ M n h:=
 ⟨fun i N r hr q hq=>by have:=Fl hM hW hB N r hr q hq;omega,fun i N k W q hq=>by have:=Fm hM hW hB N W q hq;omega⟩
theorem Cp{n B h:Nat}(hM:gH n M)(hW:zz M n B)(hB:1<=B)(hh:ln (fB B M.length)+1<=h):Ht (dI M n).1 h:=fun r hr q hq=>by
 rw[(pf hM hW).2]at hr;have:=CJ hM hW hB (aE n) r (List.mem_of_mem_take hr) q hq;omega
section
variable{S:Nat->Prop}{w:World}{v u:Value}{M:List (List Rat)}{b:List Rat}{n h0:Nat}
end
theorem xf{w:World}{vn vb vs vl:Value}(X:Old S w)(hf:dN w S vn vb vs f)(hl:dQ w S vl l):eF PG F'.lQ #[.agg #[vn,vb,vs],vl] w (eM w fun v' _=>v'= .int .i64 (gp f.nodes.length l)):=by
 have L:=bR w;obtain⟨an,cn,ab,cb,aq,cq,rfl,rfl,rfl,Nd,OK,PW⟩:=hf.shape;obtain⟨al,cl,rfl,Lo,ND⟩:=hl.shape;unfold maxLen at ND;refine ov (by simp) ?_;refine ct.mk ?_ ?_<;>intro V
 ·have V:=aL V;exact rtn L fun I' we re=>by show Value.int .i64 _=_;rw[gp,if_pos (by omega)]
 have V:=aI V
 refine⟨Nat×World×Iv,fun z=>⟨[(1,sV al l.length cl),(2,pP 0 0),(5,iN z.1)],[(0,.box T.Frame [.v (.slice an f.nodes.length cn),.v (.slice ab f.bars.length cb),.v (.slice aq f.cJ.length cq)])],1,z.2.2,z.2.1⟩,fun z=>l.length-z.1,
  fun z=>z.1<=l.length/\dO w.heap.size w z.2.1/\gp f.nodes.length l=cS (fun _=>iX f.nodes.length) (l.take z.1) (l.drop z.1),?_,?_⟩
 ·intro O J D;exact⟨(0,J,[]),⟨aP _,L.tr D.cG,by rw[gp,aF (by omega)];rfl⟩,Sub.gn [] D⟩
 clear L;rintro⟨i,w1,iv⟩ ⟨N,L,hE⟩;dsimp only at N L hE ⊢;refine ct.mk ?_ ?_<;>intro Kp
 ·have Kp:i<l.length:=by simpa using Kp
  obtain⟨x,F⟩:∃x,l[i]? =some x:=⟨_,aA Kp⟩
  obtain⟨adx,G,Ly,hP,-,Lw⟩:=hl.load (by decide) F;have hP:G=[.int .i64 x.1,.int .i64 x.2.1,.int .i64 x.2.2.1,.int .i64 x.2.2.2]:=hP;subst hP;refine cC hτ eG [.x 0,.x 1,.x 2,.x 3,.x 4,.x 5,.x 6,.x 7] (by kernel_rfl) (by kernel_rfl) ?_;refine⟨adx,Ly,by omega,.int .i64 x.1,fun O J r=>?_,?_⟩
  ·obtain⟨k1,k2⟩:=Lw 0 _ rfl;rw[cA (w:=w) (Y:=J) (by simp only[dP];exact(L.tr r.cG).block _ (X _ k1))];simp only[aG,kK]at k2 ⊢;exact k2
  refine cE L (fun _ J v Y=>∃d,v= .bool d/\(d=true↔gq f.nodes.length x.1)) (fun O J r=>oe _ _ _ _ _ _ _ _ _ _ J) ?_;rintro O _ _ _ LC r Z L h_ ⟨d,rfl,hd⟩;clear r
  cases d
  ·have hc:iX f.nodes.length x=6:=by
    unfold iX;rw[aF fun h=>by have:=hd.2 h;cases this]
   exact rtn L fun I' we re=>by show Value.int .i64 _=_;rw[hE,cD F hc (by decide)]
  have hd:=hd.1 rfl;refine⟨adx,Ly,by omega,[.int .i64 x.1,.int .i64 x.2.1,.int .i64 x.2.2.1,.int .i64 x.2.2.2],rfl,rdO Lw L X,?_⟩;refine bp (cE L (fun _ J v Y=>∃d,v= .bool d/\(d=true↔Af x.2)) (fun O J r=>Ei x J) ?_);rintro O _ _ _ Kx r Z L h_ ⟨d2,rfl,LZ⟩;clear r
  cases d2
  ·have hc:iX f.nodes.length x=2:=by
    unfold iX;rw[if_pos hd,aF fun h=>by have:=LZ.2 h;cases this]
   exact rtn L fun I' we re=>by show Value.int .i64 _=_;rw[hE,cD F hc (by decide)]
  have LZ:=LZ.1 rfl;have hc:iX f.nodes.length x=0:=by
   unfold iX;rw[if_pos hd];exact if_pos LZ
  rw[di F hc]at hE;refine⟨((i+1:Nat):Int),wo,?_⟩;intro In w6 D;exact⟨(i+1,w6,_),⟨Kp,L.tr D.cG,hE⟩,Sub.gn [] D,by dsimp only;omega⟩
 have Kp:i=l.length:=aS N (by simpa using Kp);rw[eQ (by omega)]at hE;exact rtn L fun I' we re=>by show Value.int .i64 _=_;rw[hE]
theorem zj{w:World}{vn vb vs vl:Value}(X:Old S w)(hf:dN w S vn vb vs f)(hl:dQ w S vl l):eF PG F'.mm #[.agg #[vn,vb,vs],vl] w (eM w fun v' _=>v'= .int .i64 (gZ f l)):=by
 have L:=bR w;obtain⟨an,cn,ab,cb,aq,cq,rfl,rfl,rfl,Nd,OK,PW⟩:=hf.shape;obtain⟨al,cl,rfl,Lo,ND⟩:=hl.shape;obtain⟨e0,EE⟩:∃e,eB f=e:=⟨_,rfl⟩
 refine po (by simp) ?_;refine bp (cE L (fun _ J v Y=>v= .int .i64 e0) (fun O J r=>(Gk (oS X r) (hf.br (kS L r X))).mono fun _ _ ⟨v2,e1,e2,e3⟩=>⟨v2,e1,e2,by rw[e3,EE]⟩) ?_);rintro O _ _ _ LC r Z L h_ rfl;clear r;refine ct.mk ?_ ?_<;>intro Z
 ·have Z:e0≠0:=by simpa using Z
  exact rtn L fun I' we re=>by show Value.int .i64 _=_;rw[gZ,if_pos (by rw[EE];exact Z),EE]
 have Z:e0=0:=by simpa using Z
 refine bp (cE L (fun _ J v Y=>v= .int .i64 (gp f.nodes.length l)) (fun O J r=>xf (oS X r) (hf.br (kS L r X)) (hl.br (kS L r X))) ?_);rintro O _ _ _ Kx r Z L h_ rfl;clear r Z;exact rtn L fun I' we re=>by show Value.int .i64 _=_;rw[gZ,aF (by rw[EE,Z];decide)]
theorem JQ(h:eB f≠0\/f.nodes.length<=4/\f.bars.length<=6)(h0:eB f=0):FrS f:=⟨Iy h0,(h.resolve_left fun e=>e h0).1,(h.resolve_left fun e=>e h0).2⟩
theorem Gr{t:Int}(h:Hv s t)(ht:0<=t)(j:Nat): -t<=s.getD j 0/\s.getD j 0<=t:=by
 rcases aO j s.length with hj|hj
 ·rw[getD_some (aA hj)];exact h _ (aV hj)
 ·rw[List.getD,List.getElem?_eq_none hj];show -t<=0/\0<=t;omega
theorem yc{s:List Int}{x:Ld}{t:Int}(h:Hv s t)(ht:0<=t)(F:(-1000000<=x.2.1/\x.2.1<=1000000)/\(-1000000<=x.2.2.1/\x.2.2.1<=1000000)/\(-1000000<=x.2.2.2/\x.2.2.2<=1000000)):∀k,k<=3->Hv (fY s x k) (t+1000000*(k:Int))
 |0,_=>by rw[fY];simpa using h
 |k+1,W=>by
  have ih:=yc h ht F k (by omega);have hd: -1000000<=(IW x).getD k 0/\(IW x).getD k 0<=1000000:=by
   rcases(show k=0\/k=1\/k=2 by omega)with rfl|rfl|rfl
   ·exact F.1
   ·exact F.2.1
   ·exact F.2.2
  have R:=Gr ih (by omega) (3*x.1+k).toNat;rw[fY,Ae];exact ih.set (by omega) (by omega)
theorem yd{n:Nat}{l:List Ld}(Kt:gP n l):∀i,i<=l.length->Hv (dw n l i) (3000000*(i:Int))
 |0,_=>fun z hz=>by rw[bN hz];decide
 |i+1,N=>by
  have ih:=yd Kt i (by omega);have hm:l.getD i (0,0,0,0)∈l:=by rw[getD_some (aA (show i<l.length by omega))];exact aV _
  have:=yc ih (by omega) (Kt.ld _ hm).2 3 (aE _);rw[dw];intro z hz;have:=this z hz;omega
end Go.Ex
namespace Go.Ex
variable{M:List (List Rat)}{l:Nat}{g:Nat->Rat}{Fn p q:Rat}
structure uF(f:eS):Prop extends FrS f where
 fx:∀q∈cX f,rl q<=3
def Bl(b:List Rat):Prop:=∀t,Ib 1000000000 (b.getD t 0)
theorem Ib.w{B:Nat}(h:Ib B q)(k:B<=wt l):Ib (wt l) q:=h.mono k
theorem ry(a b:Nat)(h:a+b<=l):wt a*wt b<=wt l:=by rw[<-zC];exact yA h
theorem Ib.xT{a b:Nat}(h:Ib (wt a) p)(k:Ib (wt b) q)(hl:a+b<=l):Ib (wt l) (p*q):=(h.mul k).mono (ry a b hl)
theorem Ib.up{a:Nat}(h:Ib (wt a) p)(hl:a<=l):Ib (wt l) p:=h.mono (yA hl)
theorem Ib.Ji{a n:Nat}(A:n<=18)(h:∀k,k<n->Ib (wt a) (g k))(hl:a+1<=l):Ib (wt l) (cM g n):=
 (Ib.sum n h).mono (a9 (Nat.mul_le_mul_right _ (a9 A (by decide:18<=wt 1))) (ry 1 a (by omega)))
theorem Den.mono{G9 C9:Nat}{l:List Rat}(h:Den G9 Fn l)(k:G9<=C9):Den C9 Fn l:=⟨h.1,h.2.1.mono k,fun t=>(h.2.2 t).mono k⟩
theorem CN.mono{G9 C9:Nat}(h:CN G9 Fn M)(k:G9<=C9):CN C9 Fn M:=⟨h.1,h.2.1.mono k,fun i t=>(h.2.2 i t).mono k⟩
theorem DZ{k n Do m:Nat}(A:n<=Do)(hR:Do<=4294967295)(hl:k+1<=l)(hm:l*Do+1<=m):ln (fB (wt k) n)<=m/\fB (wt k) n<=wt m:=by
 have V:=IT (B:=wt k) (l:=l) A (a9 (Nat.mul_le_mul_right _ (a9 hR (by decide:4294967295<=wt 1))) (ry 1 k (by omega)));have I:l*n+1<=m:=a9 (Nat.succ_le_succ (bZ _ A)) hm;exact⟨a9 V I,Nat.le_of_lt (fc.1 (a9 V I))⟩
section
variable{f:eS}{b x x0 c u:List Rat}
theorem FrS.D2(h:FrS f)(hb:Bl b):zz (dF (cK f) b) (f.cols+1) (wt 1):=fun j hj=>by
 rw[eH]at hj;have L:=fun t=>jr (b:=b) (t:=t) (fH f) hj;refine⟨1,by decide,Ib.one nU,fun t ht=>?_⟩;rw[bm];rcases aO t f.cols with V|V
 ·rw[(L t).1 V];exact(h.zF j t).w (by decide)
 ·rw[show t=f.cols by omega,(L 0).2];exact(hb j).w (by decide)
theorem FrS.GA(h:FrS f):ln (fB (wt 1) (dF (cK f) b).length)<=25:=by
 rw[eH];exact(DZ (l:=2) h.JA (by decide) (by decide) (by decide)).1
theorem FrS.Jj(h:FrS f)(hb:Bl b)(h0:ff (cK f) b f.cols=some x0):∃Fn,Den (wt 25) Fn x0:=by
 obtain⟨Fn,hD⟩:=vK (fH f) (h.D2 hb) nU h0;exact⟨Fn,hD.mono (DZ (l:=2) h.JA (by decide) (by decide) (by decide)).2⟩
theorem FrS.Kf(h:FrS f):∃Fn,CN (wt 13) Fn (cH (cK f) f.cols):=by
 obtain⟨Fn,hD⟩:=H8 (fH f) h.uE (by decide);exact⟨Fn,hD.mono (Nat.le_of_lt (fc.1 h.size))⟩
theorem FrS.IV(h:FrS f):(cH (cK f) f.cols).length<=18:=by
 have V:=CM (fH f);have I:=h.IU;omega
theorem vV(f:eS):(cX f).length=f.cols:=by simp[cX,eS.cols]
theorem uF.KI(h:uF f):Den (wt 54) (kZ (cX f) 18) (cX f):=Fv (by rw[vV];exact h.IU) h.fx
theorem uF.GB(h:uF f)(F:∃Fn,Den (wt 25) Fn x0):zz (dF (dY (cH (cK f) f.cols) (cX f)) (fW (cH (cK f) f.cols) (cX f) x0)) ((cH (cK f) f.cols).length+1) (wt 106):=fun i N=>by
 rw[eH,dY,aK]at N;obtain⟨D0,a1,a2,a3⟩:=F;obtain⟨D1,b1,b2,b3⟩:=h.Kf;obtain⟨c1,c2,c3⟩:=h.KI;have A:=h.IU;have L:=fun t=>jr (b:=fW (cH (cK f) f.cols) (cX f) x0) (t:=t) (mM (cH (cK f) f.cols) (cX f)) (j:=i) (by rw[dY,aK];exact N);refine⟨kZ (cX f) 18*(D1*D1)*D0,uC (uC c1 (uC b1 b1)) a1,(((c2.xT (b2.xT b2 (aE _)) (aE _)).xT a2 (by decide))),fun t ht=>?_⟩;rcases aO t (cH (cK f) f.cols).length with V|V
 ·rw[(L t).1 V,rh _ _ _ N V];unfold DT qZ;rw[<-da];refine Ib.Ji A (fun k _=>?_) (aE _);rw[show kZ (cX f) 18*(D1*D1)*D0*((cX f).getD k 0*(cT (cH (cK f) f.cols) i k*cT (cH (cK f) f.cols) t k))=(kZ (cX f) 18*(cX f).getD k 0)*((D1*cT (cH (cK f) f.cols) i k)*(D1*cT (cH (cK f) f.cols) t k))*D0 by grind];exact((c3 k).xT ((b3 i k).xT (b3 t k) (aE _)) (aE _)).xT a2 (by decide)
 ·rw[show t=(cH (cK f) f.cols).length by omega,(L 0).2,An _ _ _ _ N];unfold qZ;rw[show kZ (cX f) 18*(D1*D1)*D0* -(cM (fun t=>(cX f).getD t 0*(cT (cH (cK f) f.cols) i t*x0.getD t 0)) f.cols)= -(kZ (cX f) 18*(D1*D1)*D0*cM (fun t=>(cX f).getD t 0*(cT (cH (cK f) f.cols) i t*x0.getD t 0)) f.cols) by grind,<-da];refine(Ib.Ji A (fun k _=>?_) (aE _)).neg;rw[show kZ (cX f) 18*(D1*D1)*D0*((cX f).getD k 0*(cT (cH (cK f) f.cols) i k*x0.getD k 0))=(kZ (cX f) 18*(cX f).getD k 0)*((D1*cT (cH (cK f) f.cols) i k)*D1)*(D0*x0.getD k 0) by grind];exact((c3 k).xT ((b3 i k).xT b2 (aE _)) (aE _)).xT (a3 k) (by decide)
theorem uF.D3(h:uF f){b:List Rat}:ln (fB (wt 106) (dF (dY (cH (cK f) f.cols) (cX f)) b).length)<=1927:=by
 rw[eH,dY,aK];exact(DZ (l:=107) h.IV (by decide) (by decide) (by decide)).1
theorem uF.JC(h:uF f)(F:∃Fn,Den (wt 25) Fn x0)(hc:ff (dY (cH (cK f) f.cols) (cX f)) (fW (cH (cK f) f.cols) (cX f) x0) (cH (cK f) f.cols).length=some c):∀q∈c,rl q<=1927:=fun q hq=>by
 obtain⟨Fn,hD⟩:=vK (mM _ _) (h.GB F) nU hc;have V:=hD.rl q hq;have I:=h.D3 (b:=[]);rw[eH]at I;omega
theorem GC(h:rl q<=3):Ib (wt 3) (q.den:Rat):=⟨(q.den:Int),rfl,by have:=(DR h).2;omega⟩
theorem JD(h:rl q<=3):Ib (wt 3) ((q.den:Rat)*q):=by rw[DQ];exact⟨q.num,rfl,Nat.le_of_lt (DR h).1⟩
theorem Hb(q:Rat):(q.den:Rat)≠0:=fun e=>by
 have:((q.den:Int):Rat)=((0:Int):Rat):=e;exact q.den_nz (by have:=Rat.intCast_inj.1 this;omega)
theorem uF.Kg(h:uF f){t:Nat}(ht:t<f.cols):rl ((cX f).getD t 0)<=3:=by
 have hl:t<(cX f).length:=by rw[vV];exact ht
 rw[getD_some (aA hl)];exact h.fx _ (aV hl)
theorem uF.Hc(h:uF f)(hb:Bl b)(MZ:b.length=(cK f).length):zz (dF (iz (cK f) f.cols (cX f)) (b++rf f.cols)) ((cK f).length+f.cols+1) (wt 4):=fun j hj=>by
 rw[eH,gf]at hj;have L:=fun t=>jr (b:=b++rf f.cols) (t:=t) (oa (fH f) (cX f)) (j:=j) (by rw[gf];exact hj);rcases aO j (cK f).length with I|I
 ·refine⟨1,by decide,Ib.one nU,fun t ht=>?_⟩;rw[bm];rcases aO t ((cK f).length+f.cols)with V|V
  ·rw[(L t).1 V];rcases aO t (cK f).length with K|K
   ·rw[(zG I).1 K];exact Ib.zero _
   ·obtain⟨s,rfl⟩:∃s,t=(cK f).length+s:=⟨t-(cK f).length,by omega⟩
    rw[(zG (t:=s) I).2];exact((h.zF j s).w (by decide:2000000<=wt 1)).up (by decide)
  ·rw[show t=(cK f).length+f.cols by omega,(L 0).2,nV];exact((hb j).w (by decide:1000000000<=wt 1)).up (by decide)
 ·obtain⟨k,rfl⟩:∃k,j=(cK f).length+k:=⟨j-(cK f).length,by omega⟩
  have W:k<f.cols:=by omega
  have hq:=h.Kg W;refine⟨(((cX f).getD k 0).den:Rat),Hb _,(GC hq).up (by decide),fun t ht=>?_⟩;rcases aO t ((cK f).length+f.cols)with V|V
  ·rw[(L t).1 V];rcases aO t (cK f).length with K|K
   ·rw[(vS (t:=t) W).1 K];exact(GC hq).xT ((h.zF t k).w (by decide:2000000<=wt 1)) (by decide)
   ·obtain⟨s,rfl⟩:∃s,t=(cK f).length+s:=⟨t-(cK f).length,by omega⟩
    rw[(vS (t:=s) W).2 (by omega)];split
    ·exact(JD hq).up (by decide)
    ·rw[ai];exact Ib.zero _
  ·rw[show t=(cK f).length+f.cols by omega,(L 0).2,nV,gV (l:=b) (by omega),ai];exact Ib.zero _
theorem uF.JE(h:uF f)(hb:Bl b)(MZ:b.length=(cK f).length)(F:gz (cK f) f.cols (fun t=>(cX f).getD t 0) b x):∃Fn,Den (wt 151) Fn x:=by
 obtain⟨u,hu⟩:=F.KH (fH f);obtain⟨s1,s2⟩:=Fy (fH f) MZ F hu;obtain⟨z,hz⟩:=lN (oa (fH f) (cX f)) s2;have V:=Fz (fH f) MZ hz;have I:=h.Au.one F V;obtain⟨Fn,d1,d2,d3⟩:=vK (oa (fH f) (cX f)) (h.Hc hb MZ) nU hz;have K:fB (wt 4) (iz (cK f) f.cols (cX f)).length<=wt 151:=by
  rw[gf];have V:=h.IU;have I:=h.JA;exact(DZ (l:=5) (Do:=30) (by omega) (by decide) (by decide) (by decide)).2
 refine⟨Fn,d1,d2.mono K,fun t=>?_⟩;rw[I,List.getD,List.getElem?_drop,<-List.getD];exact(d3 _).mono K
theorem uF.GD(h:uF f)(hb:Bl b)(MZ:b.length=(cK f).length)(F:gz (cK f) f.cols (fun t=>(cX f).getD t 0) b x):∀q∈x,rl q<=152:=fun q hq=>by
 obtain⟨Fn,hD⟩:=h.JE hb MZ F;have:=hD.rl q hq;have I:ln (wt 151)<=152:=fc.2 (FQ (by decide));omega
end
end Go.Ex
