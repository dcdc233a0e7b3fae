/- Texts X255 to X261: lemmas, each with its conditions. -/
import Derived.Test.YtbffinhkognefaaGreatDoorP16
namespace Go.Ex
open Go Go.Sx Go.Proofs
variable{ops:Array Oper}{H:Hp}{iv:Iv}{Fd:KT}{ca:List (List (List Value))}{Z:List (List Value)}{l:List Nat}{q qs:List Rat}{tp:List Value}{B g i n nx:Nat}{p:Nat->Bool}{S:Nat->Prop}{O:Nat->Sx.eH}{P:Program}{Q:Sx.Ex->KT}{x:Tx}{w:World}{τ:mo}
theorem Bg:∀{Z:List (List Value)} {k:Nat},(∀cs∈Z,cs.length=4)->k<Z.length->Z.flatten.take (k*4)++Z.flatten.drop ((k+1)*4)=(Z.eraseIdx k).flatten
 |[],k,_,h=>by simp at h
 |c::r,0,h,_=>by
  have hc:=h c aF;rw[List.flatten_cons,show(0+1)*4=c.length by omega];simp
 |c::r,k+1,h,R=>by
  have hc:=h c aF;rw[List.flatten_cons,show(k+1)*4=c.length+k*4 by omega,List.take_length_add_append,show(k+1+1)*4=c.length+(k+1)*4 by omega,List.drop_length_add_append,bJ,Bg (fun cs hc=>h cs (aD _ hc)) (by simpa using R),List.eraseIdx_cons_succ,List.flatten_cons]
theorem getElem?_erase{α:Type}{l:List α}{k j:Nat}:(l.eraseIdx k)[j]? =l[eP k j]? :=by
 unfold eP;rw[List.getElem?_eraseIdx];split<;>rfl
theorem Fr.erase(h:Fr w S Z qs)(k:Nat):Fr w S (Z.eraseIdx k) (qs.eraseIdx k):=
 ⟨by rw[List.length_eraseIdx,List.length_eraseIdx,h.1],fun j cs q Y I=>by
  rw[getElem?_erase]at Y I
  exact h.2 _ cs q Y I⟩
theorem IE{k:Nat}:(ints l).take (k*1)++(ints l).drop ((k+1)*1)=ints (l.eraseIdx k):=by
 unfold ints;rw[av,av,<-List.map_take,<-List.map_drop,<-bw,<-List.eraseIdx_eq_take_drop_succ]
theorem tA:∀u∈ints l,u.oneCell'=true:=fun u hu=>by
 obtain⟨n,-,rfl⟩:=bE.1 hu;rfl
section
variable{S:Nat->Prop}{H:Hp}{nx:Nat}{iv:Iv}{B:Nat}{w J F:World}{O:Nat->Sx.eH}{x:Tx}{t:Tb}{hd rvx:List Value}{v v0:Value}
structure Shr(w J F:World)(S:Nat->Prop)(B:Nat)(iv:Iv)(hd rvx:List Value)(x x':Tx)(t':Tb):Prop where
 jK:uC F S B ((J.heap.size,F.heap.size)::iv) hd rvx x' t'
 HY:∀g,Lv S B iv x g->F.heap[g]? =w.heap[g]? /\Lv S B ((J.heap.size,F.heap.size)::iv) x' g
 kept:Kept J F (Bv x.dB)
 D8:∀g,Bv x'.dB g->Bv x.dB g
theorem dJ.shr(hT:dJ w S B iv x t)(r:Rel H nx iv B w O J)(W:∀g,S g->g<B){x':Tx}{t':Tb}(h0:∀g,v0.ownBlock=some g->Bv x.dB g)(E:∀g,Bv x'.dB g->v.ownBlock=some g\/Bv x.dB g)(h6:J.grownBy F v0.ownBlock)(h7:v.ownBlock=v0.ownBlock)
  (hJ:∀S':Nat->Prop,(∀g,g<J.heap.size->v0.ownBlock≠some g->F.heap[g]? =J.heap[g]?)->(∀g,v.ownBlock=some g->v0.ownBlock=some g\/J.heap.size<=g)->(∀g,Lv S B iv x g->g<J.heap.size)->(∀g,Lv S B iv x g->S' g)->(∀g,Bv x'.dB g->¬S' g)->oz F S' hd rvx x' t'):
  Shr w J F S B iv hd rvx x x' t':=by
 have hold:=Lv.old (x:=x) r W;have Pp:∀g,g<J.heap.size->v0.ownBlock≠some g->F.heap[g]? =J.heap[g]? :=fun g V Po=>h6.block g V (Ne.symm Po);have Pz:∀g,Bv x'.dB g->Bv x.dB g:=fun g V=>(E g V).elim (fun h=>h0 g (h7▸h)) id;have TF:∀p,p∈iv->p∈(J.heap.size,F.heap.size)::iv:=fun p hp=>aD _ hp;have hL:∀g,Lv S B iv x g->Lv S B ((J.heap.size,F.heap.size)::iv) x' g:=fun g V=>⟨V.1.mono TF,fun A=>V.2 (Pz g A)⟩
 exact⟨⟨hJ (Lv S B ((J.heap.size,F.heap.size)::iv) x') Pp (fun g V=>.inl (h7▸V)) hold hL fun g A hl=>hl.2 A,fun g V=>(hT.kz g (Pz g V)).mono TF⟩,fun g V=>⟨(Pp g (hold g V) fun e=>V.2 (h0 g e)).trans (Lv.same r W g V),hL g V⟩,Kept.one h6 fun g e=>h0 g e,Pz⟩
theorem dJ.aB5(hT:dJ w S B iv x t)(r:Rel H nx iv B w O J)(W:∀g,S g->g<B)(h5:F.ownsRow 0 T.int 1 v l.length (ints l))(h6:J.grownBy F x.vf.ownBlock)(h7:v.ownBlock=x.vf.ownBlock):
  Shr w J F S B iv x.hd x.rv x {x with vf:=v} {t with fs:=l}:=
 hT.shr (v0:=x.vf) r W (fun g e=>Bv.dB.2 (.inr (.inr (.inl e)))) (fun g h=>by rw[Bv.dB]at h ⊢;simp only at h;rcases h with h|h|h|h|h|h|h<;>simp[h]) h6 h7 fun S' k1 k2 k3 k4 k5=>(hT.rel r W).jK.toJ.aAv k1 h5 k2 k3 k4 k5
theorem dJ.aB6(hT:dJ w S B iv x t)(r:Rel H nx iv B w O J)(W:∀g,S g->g<B)(h5:∀S':Nat->Prop,(∀g,Lv S B iv x g->S' g)->gw F S' v q.length q)(h6:J.grownBy F x.vc.ownBlock)(h7:v.ownBlock=x.vc.ownBlock):
  Shr w J F S B iv x.hd x.rv x {x with vc:=v} {t with c:=q}:=
 hT.shr (v0:=x.vc) r W (fun g e=>Bv.dB.2 (.inr (.inr (.inr (.inr (.inr (.inl e))))))) (fun g h=>by rw[Bv.dB]at h ⊢;simp only at h;rcases h with h|h|h|h|h|h|h<;>simp[h]) h6 h7 fun S' k1 k2 k3 k4 k5=>(hT.rel r W).jK.toJ.aAw k1 (h5 S' k4) k2 k3 k4 k5
theorem dJ.aB7(hT:dJ w S B iv x t)(r:Rel H nx iv B w O J)(W:∀g,S g->g<B)(hv:x.rv[i]? =some v0)(h5:∀S':Nat->Prop,(∀g,Lv S B iv x g->S' g)->gw F S' v q.length q)(h6:J.grownBy F v0.ownBlock)(h7:v.ownBlock=v0.ownBlock):
  Shr w J F S B iv x.hd x.rv x {x with rv:=x.rv.set i v} {t with a:=t.a.set i q}:=
 hT.shr (v0:=v0) r W (fun g e=>Bv.dB.2 (.inr (.inr (.inr (.inr (.inr (.inr ⟨v0,aG hv,e⟩))))))) (fun g h=>by
  rw[Bv.dB]at h ⊢;simp only at h;rcases h with h|h|h|h|h|h|h
  any_goals simp[h]
  rcases Bv.set h with h|h<;>simp[h]) h6 h7 fun S' k1 k2 k3 k4 k5=>(hT.rel r W).jK.toJ.aAx hv k1 (h5 S' k4) k2 k3 k4 k5
theorem dJ.Mn(hT:dJ w S B iv x t)(r:Rel H nx iv B w O J)(W:∀g,S g->g<B){k c:Nat}(hv:x.vf= .slice (some ⟨g,0,none⟩) n c)(U:t.fs.length=n)(R:k<n)(UM:n<=1000000):
  eL PG FS.gI #[.slice (some ⟨g,0,none⟩) n c,.int .i64 k,iV ((k+1:Nat):Int)] J (fun e F=>e= .returned (.slice (some ⟨g,0,none⟩) (n-1) c)/\Shr w J F S B iv x.hd x.rv x {x with vf:=.slice (some ⟨g,0,none⟩) (n-1) c} {t with fs:=t.fs.eraseIdx k}):=by
 obtain⟨tp,cb,cc,ca,hC⟩:=(hT.rel r W).jK;have ho:=hC.ows.own ⟨x.vf,T.int,1,t.fs.length,ints t.fs⟩ (by simp[iL]);have ho:J.ownsRow 0 T.int 1 x.vf t.fs.length (ints t.fs):=ho;rw[hv,U]at ho;refine(Kg ho R UM tA).mono fun e F L=>?_;obtain⟨rfl,Y,I⟩:=L;refine⟨rfl,hT.aB5 r W (l:=t.fs.eraseIdx k) ?_ (by rw[hv];exact Y) (by rw[hv];rfl)⟩;rw[IE]at I;rw[List.length_eraseIdx,aM be,U];exact I
theorem fw.Jg{w:World}{S:Nat->Prop}{cb cc:List (List Value)}{k c:Nat}{v:Value}(hC:fw w S x t tp cb cc ca)(hm:gK v Z∈iL x t tp cb cc ca)(hF:Fr w S Z qs)(hv:v= .slice (some ⟨g,0,none⟩) n c)(U:qs.length=n)(R:k<n)(UM:n<=1000000):
  eL PG FS.dq #[.slice (some ⟨g,0,none⟩) n c,.int .i64 k,iV ((k+1:Nat):Int)] w (fun e F=>e= .returned (.slice (some ⟨g,0,none⟩) (n-1) c)/\w.grownBy F (some g)/\∀S':Nat->Prop,(∀g,S g->S' g/\F.heap[g]? =w.heap[g]?)->gw F S' (.slice (some ⟨g,0,none⟩) (n-1) c) (qs.eraseIdx k).length (qs.eraseIdx k)):=by
 have ho:w.ownsRow 0 T.dO 4 v Z.length Z.flatten:=hC.ows.own _ hm;have Qg:=hF.1;rw[hv,Qg,U]at ho;refine(Kh ho R UM hF.one).mono fun e F L=>?_;obtain⟨rfl,Y,I⟩:=L;refine⟨rfl,Y,fun S' hs=>⟨Z.eraseIdx k,?_,by rw[List.length_eraseIdx,List.length_eraseIdx,Qg],((hF.erase k).cX fun g V=>(hs g V).2).cV fun g V=>(hs g V).1⟩⟩;rw[Bg hF.oy be]at I;rw[List.length_eraseIdx,aM be,U];exact I
theorem dJ.Mo(hT:dJ w S B iv x t)(r:Rel H nx iv B w O J)(W:∀g,S g->g<B){k c:Nat}(N:i<t.a.length)(hv:x.rv[i]? =some (.slice (some ⟨g,0,none⟩) n c))(U:(t.a.getD i []).length=n)(R:k<n)(UM:n<=1000000):
  eL PG FS.dq #[.slice (some ⟨g,0,none⟩) n c,.int .i64 k,iV ((k+1:Nat):Int)] J (fun e F=>e= .returned (.slice (some ⟨g,0,none⟩) (n-1) c)/\Shr w J F S B iv x.hd x.rv x {x with rv:=x.rv.set i (.slice (some ⟨g,0,none⟩) (n-1) c)} {t with a:=t.a.set i ((t.a.getD i []).eraseIdx k)}):=by
 obtain⟨tp,cb,cc,ca,hC⟩:=(hT.rel r W).jK;obtain⟨v',Z,Y,I,h3,h4⟩:=hC.row N;rw[Y]at hv;injection hv with hv;have hI:=hC.rowAt Y I;have VT:∀g',v'.ownBlock=some g'->Bv x.dB g':=fun g' V=>by rw[<-hC.dB];exact kK.bk (aG hI) V
 refine(hC.Jg (aG hI) h3 hv U R UM).mono fun e F L=>?_;obtain⟨rfl,k1,k2⟩:=L;have k1':J.grownBy F v'.ownBlock:=by rw[hv];exact k1
 exact⟨rfl,hT.aB7 r W Y (fun S' hs=>k2 S' fun g' V=>⟨hs g' V,k1'.block g' (Lv.old r W g' V) fun e=>V.2 (VT g' e.symm)⟩) k1' (by rw[hv];rfl)⟩
theorem dJ.Mp(hT:dJ w S B iv x t)(r:Rel H nx iv B w O J)(W:∀g,S g->g<B){k c:Nat}(hv:x.vc= .slice (some ⟨g,0,none⟩) n c)(U:t.c.length=n)(R:k<n)(UM:n<=1000000):
  eL PG FS.dq #[.slice (some ⟨g,0,none⟩) n c,.int .i64 k,iV ((k+1:Nat):Int)] J (fun e F=>e= .returned (.slice (some ⟨g,0,none⟩) (n-1) c)/\Shr w J F S B iv x.hd x.rv x {x with vc:=.slice (some ⟨g,0,none⟩) (n-1) c} {t with c:=t.c.eraseIdx k}):=by
 obtain⟨tp,cb,cc,ca,hC⟩:=(hT.rel r W).jK;have hm:gK x.vc cc∈iL x t tp cb cc ca:=by simp[iL]
 have VT:∀g',x.vc.ownBlock=some g'->Bv x.dB g':=fun g' V=>by rw[<-hC.dB];exact kK.bk hm V
 refine(hC.Jg hm hC.fc hv U R UM).mono fun e F L=>?_;obtain⟨rfl,k1,k2⟩:=L;have k1':J.grownBy F x.vc.ownBlock:=by rw[hv];exact k1
 exact⟨rfl,hT.aB6 r W (fun S' hs=>k2 S' fun g' V=>⟨hs g' V,k1'.block g' (Lv.old r W g' V) fun e=>V.2 (VT g' e.symm)⟩) k1' (by rw[hv];rfl)⟩
theorem dJ.Mq(hT:dJ w S B iv x t)(r:Rel H nx iv B w O J)(W:∀g,S g->g<B)(U:t.fs.length<=n)(hm:n<=maxLen):eD J (fun g=>Bv x.dB g) x.vf t.fs:=by
 obtain⟨tp,cb,cc,ca,hC⟩:=(hT.rel r W).jK;have ho:J.ownsRow 0 T.int 1 x.vf t.fs.length (ints t.fs):=hC.ows.own ⟨x.vf,T.int,1,t.fs.length,ints t.fs⟩ (by simp[iL]);rcases ho.2 with⟨e,h0⟩|⟨g,cap,cur,e,A,hc,SR,RO,QK,R7⟩
 .exact⟨be,by rw[aO,av],tA,none,0,by rw[e,h0],be,fun j u hu=>by
   have:=eU hu;rw[aO]at this
   omega⟩
 .exact⟨be,by rw[aO,av],tA,some ⟨g,0,none⟩,cap,e,SR,fun j u hu=>⟨_,rfl,Bv.dB.2 (.inr (.inr (.inl (by rw[e];rfl)))),ho.cells (g:=g) (by rw[e];rfl) j u hu⟩⟩
theorem dJ.aAM(hT:dJ w S B iv x t)(r:Rel H nx iv B w O J)(W:∀g,S g->g<B)(U:t.bs.length<=n)(hm:n<=maxLen):eD J (fun g=>Bv x.dB g) x.vb t.bs:=by
 obtain⟨tp,cb,cc,ca,hC⟩:=(hT.rel r W).jK;have ho:J.ownsRow 0 T.int 1 x.vb t.bs.length (ints t.bs):=hC.ows.own ⟨x.vb,T.int,1,t.bs.length,ints t.bs⟩ (by simp[iL]);rcases ho.2 with⟨e,h0⟩|⟨g,cap,cur,e,A,hc,SR,RO,QK,R7⟩
 .exact⟨be,by rw[aO,av],tA,none,0,by rw[e,h0],be,fun j u hu=>by
   have:=eU hu;rw[aO]at this
   omega⟩
 .exact⟨be,by rw[aO,av],tA,some ⟨g,0,none⟩,cap,e,SR,fun j u hu=>⟨_,rfl,Bv.dB.2 (.inr (.inl (by rw[e];rfl))),ho.cells (g:=g) (by rw[e];rfl) j u hu⟩⟩
end
section
variable{S:Nat->Prop}{H:Hp}{nx:Nat}{iv:Iv}{B:Nat}{w J F:World}{O:Nat->Sx.eH}{x:Tx}{t:Tb}{hd rvx:List Value}
theorem uC.OO(hT:uC w S B iv hd rvx x t)(W:∀g,S g->g<B){k:Nat}{u:Value}(hu:hd[k]? =some u):K9 w iv B fun J=>J.cell? (Addr.add ⟨x.g,0,none⟩ k)=some u:=fun r=>by
 obtain⟨tp,cb,cc,ca,hC⟩:=hT.jK;have YA:(hd++tp)[k]? =some u:=by
  rw[aN (eU hu)];exact hu
 obtain⟨g,c,e,Y⟩:=(hC.cX (hT.same r W)).ows.ld aF YA;injection e with e;injection e with e;injection e with e;rw[dF,aS,e];exact Y
end
theorem tB{l:Env}(E8:Env->KT)(Y:∀K0:KT,(∀l' H nx iv w,E8 l l' H nx iv w->K0 l' H nx iv w)->yG P τ B ops.toList ops.toList l H nx iv w K0)(I:∀l' H nx iv w,E8 l l' H nx iv w->Fd l' H nx iv w):
  yG P τ B ops.toList ops.toList l H nx iv w Fd:=Y Fd I
theorem vO{l:Env}(E8:Env->KT)(Y:∀K0:KT,(∀l' H nx iv w,E8 l l' H nx iv w->K0 l' H nx iv w)->mO P B ops l H nx iv w K0)(I:∀l' H nx iv w,E8 l l' H nx iv w->Fd l' H nx iv w):
  mO P B ops l H nx iv w Fd:=Y Fd I
theorem Bh{c:Code}{l:Env}(E8:Env->KT)(Y:∀K0:Sx.Ex->KT,(∀l' H nx iv w,E8 l l' H nx iv w->K0 .normal l' H nx iv w)->kE P τ B c l H nx iv w K0)(I:∀l' H nx iv w,E8 l l' H nx iv w->Q .normal l' H nx iv w):
  kE P τ B c l H nx iv w Q:=Y Q I
theorem lZ{c1 c2:Code}{l:Env}(E8:Env->KT)(Y:∀K0:Sx.Ex->KT,(∀l' H nx iv w,E8 l l' H nx iv w->K0 .normal l' H nx iv w)->kE P τ B c1 l H nx iv w K0)(I:∀l' H nx iv w,E8 l l' H nx iv w->kE P τ B c2 l' H nx iv w Q):
  kE P τ B (.seq c1 c2) l H nx iv w Q:=Y _ fun l' H nx iv w hI=>I l' H nx iv w hI
theorem dJ.aB8{J:World}{t:Tb}(hT:dJ w S B iv x t)(r:Rel H nx iv B w O J)(W:∀g,S g->g<B){q c:Nat}(N:i<t.a.length)(hv:x.rv[i]? =some (.slice (some ⟨g,0,none⟩) q c))(U:(t.a.getD i []).length=q):
  eL PG FS.eX #[.slice (some ⟨g,0,none⟩) q c,.func (.func FS.fk) #[] #[]] J (eY J fun v' _=>v'=iV (rT (mU (fun j=>decide ((t.a.getD i []).getD j 0≠0)) (t.a.getD i []).length))):=by
 obtain⟨tp,cb,cc,ca,hC⟩:=(hT.rel r W).jK;obtain⟨v',Z,Y,I,h3,h4⟩:=hC.row N;rw[Y]at hv;injection hv with hv;have hI:=hC.rowAt Y I;have hm:=aG hI;have hR:=(fw.Jb hC hm h3).cV (C':=fun g=>Lv S B iv x g\/Bv x.dB g) (S':=fun g=>Lv S B iv x g\/Bv x.dB g) (fun g V=>.inr (by rw[<-hC.dB];exact kK.bk hm V)) fun g V=>.inl V;rw[hv]at hR;exact Kf (fun g V=>V.elim (fun V=>Lv.old r W g V) fun V=>hT.low r V) hR
def Tb.pA(t:Tb)(k i:Nat):Tb:={t with fs:=t.fs.eraseIdx k,a:=t.a.mapIdx fun j r=>if j<i then r.eraseIdx k else r}
theorem Tb.Db{t:Tb}{k:Nat}:t.pA k 0={t with fs:=t.fs.eraseIdx k}:=by
 refine Tb.ext rfl rfl ?_ rfl rfl rfl;show List.mapIdx _ _=_;apply bA;intro j;rw[List.getElem?_mapIdx]
 cases t.a[j]? with
 |none=>rfl
 |some r=>rw[bU,aI (Nat.not_lt_zero j)]
theorem Tb.Es{t:Tb}{k:Nat}(N:i<t.a.length):(t.pA k i).a.getD i []=t.a.getD i []:=by
 unfold Tb.pA;rw[iI [] [] N,aI (Nat.lt_irrefl i)]
theorem Tb.Gp{t:Tb}{k:Nat}:(t.pA k i).a.length=t.a.length:=List.length_mapIdx
theorem Tb.Dd{t:Tb}{k:Nat}(N:i<t.a.length):{t.pA k i with a:=(t.pA k i).a.set i (((t.pA k i).a.getD i []).eraseIdx k)}=t.pA k (i+1):=by
 rw[Tb.Es N];refine Tb.ext rfl rfl ?_ rfl rfl rfl;show List.set (List.mapIdx _ _) _ _=List.mapIdx _ _;apply bA;intro j;rw[List.getElem?_set,List.length_mapIdx,List.getElem?_mapIdx,List.getElem?_mapIdx];by_cases e:i=j
 .subst e;rw[aM rfl,aM N,aE N,bU,aM (cG i),List.getD,aE N];rfl
 .rw[aI e];congr 1
  funext r
  by_cases h:j<i
  .rw[aM h,aM be]
  .rw[aI h,aI be]
theorem Tb.Gq{t:Tb}{k:Nat}:{t.pA k t.a.length with c:=t.c.eraseIdx k}=t.del k:=by
 refine Tb.ext rfl rfl ?_ rfl rfl rfl;show List.mapIdx _ _=List.map _ _;apply bA;intro j;rw[List.getElem?_mapIdx,aU]
 cases h:t.a[j]? with
 |none=>rfl
 |some r=>rw[bU,bU,aM (eU h)]
theorem Ki{t t1:Tb}{m q vv k h:Nat}(Ti:Old S w)(Qx:fQ w S x t)(hW:t.Wf m q)(UR:0<m)(SB:0<q)(hm:m<=1000)(hq:q<=1000)(hH:t.xW h)(I:2<=h)(hh:h<=100000000)
  (Y:(mU (fun i=>decide (t.bs.getD i 0=vv)) t.bs.length=none/\t1=t)\/∃r s,mU (fun i=>decide (t.bs.getD i 0=vv)) t.bs.length=some r/\r<m/\mU (fun j=>decide ((t.a.getD r []).getD j 0≠0)) (t.a.getD r []).length=some s/\s<q/\dU t.a r s≠0/\t1=t.gZ r s)
  (hW1:t1.Wf m q) (WV:mU (fun i=>decide (t1.fs.getD i 0=vv)) t1.fs.length=some k) (Yl:k<q):
  eL PG FS.mf #[.pointer (some ⟨x.g,0,none⟩),iV vv] w (fun e F=>e= .returned (.tuple #[])/\∃x',x'.g=x.g/\Kept w F (Bv x.dB)/\fQ F (fun g=>Nw S w F g/\¬Bv x'.dB g) x' (t1.del k)/\∀g,Bv x'.dB g->Bv x.dB g\/w.heap.size<=g):=by
 have W:=Ti;obtain⟨gb,cb,gf,cf,ga,ca,gB,cB,gc,cc,hA⟩:=Qx.OP hW UR SB;have hT:=dJ.arg Qx;have R:Kept w w (Bv x.dB):=Kept.refl;have UQ:=hW.bs;have Tl:=hW.al;have hal1:=hW1.al;have hfl1:=hW1.fs;have hcl1:=hW1.c;have Xa:∀i,i<m->∃g c,x.rv[i]? =some (.slice (some ⟨g,0,none⟩) q c):=hA.row;refine qX ce ?_;refine tB (fun l0 l H nx iv w1=>∃a13 a12 a11 a10 a9 a8:SV,l=(4,.o (.v (iV (rT (mU (fun i=>decide (t.bs.getD i 0=vv)) t.bs.length)))))::(13,a13)::(12,a12)::(11,a11)::(10,a10)::(9,a9)::(8,a8)::l0/\H=[]/\nx=0/\Kept w w1 (Bv x.dB)/\dJ w1 S w.heap.size iv x t) ?_ ?_
 .intro K0 Rg;refine⟨_,fun O J r=>hT.f0 W hA.b r,?_⟩;refine cW (cU (GT:=fun _ J v F=>v=iV (rT (mU (fun i=>decide (t.bs.getD i 0=vv)) t.bs.length))) (fun O J r=>(hA.b▸Be (S:=fun g=>Bv x.dB g) (fun g V=>hT.low r V) (hT.aAM r W (n:=m) be mx) be)) ?_);rintro O QP v1 QL r L A rfl;replace hT:=hT.cS (K:=(QP.heap.size,QL.heap.size)::[]) r W L fun x E=>aD _ E;replace R:=Kept.cj A R lr;clear r L A;generalize (QP.heap.size,QL.heap.size)::[]=Pv at*
  conv=>whnf
  exact Rg _ _ _ _ _ ⟨_,_,_,_,_,_,rfl,rfl,rfl,R,hT⟩
 clear hT R;rintro l H nx iv w1 ⟨a13,a12,a11,a10,a9,a8,rfl,rfl,rfl,R,hT⟩;rcases Y with⟨Y,TN⟩|⟨u,s,Y,hu,h3,hs,Po,TN⟩
 .replace hT:=hT.cast TN.symm;rw[Y];refine Bh (fun l0 l H nx iv w1=>∃a14:SV,l=(15,.o (.v (.bool false)))::(14,a14)::l0/\H=[]/\nx=0/\Kept w w1 (Bv x.dB)/\dJ w1 S w.heap.size iv x t1) ?_ ?_
  .intro K0 Rg;conv=>whnf
   exact Rg _ _ _ _ _ ⟨_,rfl,rfl,rfl,R,hT⟩
  clear hT R;rintro l H nx iv w1 ⟨a14,rfl,rfl,rfl,R,hT⟩;refine lZ (fun l0 l H nx iv w1=>∃a33 a32 a31 a30 a29 a28:SV,l=(6,.o (.v (iV ((k:Int)))))::(33,a33)::(32,a32)::(31,a31)::(30,a30)::(29,a29)::(28,a28)::l0/\H=[]/\nx=0/\Kept w w1 (Bv x.dB)/\dJ w1 S w.heap.size iv x t1) ?_ ?_
  .intro K0 Rg;refine⟨_,fun O J r=>hT.f1 W hA.f r,?_⟩;refine cW (cU (GT:=fun _ J v F=>v=iV (rT (mU (fun i=>decide (t1.fs.getD i 0=vv)) t1.fs.length))) (fun O J r=>(hA.f▸Be (S:=fun g=>Bv x.dB g) (fun g V=>hT.low r V) (hT.Mq r W (n:=q) be mx) be)) ?_);rintro O QP v1 QL r L A rfl;replace hT:=hT.cS (K:=(QP.heap.size,QL.heap.size)::iv) r W L fun x E=>aD _ E;replace R:=Kept.cj A R lr;clear r L A;generalize (QP.heap.size,QL.heap.size)::iv=Pv at*
   rw[WV,kY];conv=>whnf
   exact Rg _ _ _ _ _ ⟨_,_,_,_,_,_,rfl,rfl,rfl,R,hT⟩
  clear hT R;rintro l H nx iv w1 ⟨a33,a32,a31,a30,a29,a28,rfl,rfl,rfl,R,hT⟩;refine lZ (fun l0 l H nx iv w1=>∃a44 a43 a42 a41 a40 a39 a38 a37 a36 a35 a34:SV,l=(44,a44)::(43,a43)::(42,a42)::(41,a41)::(40,a40)::(39,a39)::(38,a38)::(37,a37)::(36,a36)::(35,a35)::(34,a34)::l0/\H=[]/\nx=0/\Kept w w1 (Bv x.dB)/\dJ w1 S w.heap.size iv {x with vf:=.slice (some ⟨gf,0,none⟩) (q-1) cf} (t1.pA k 0)/\∀g,Bv (Tx.dB {x with vf:=.slice (some ⟨gf,0,none⟩) (q-1) cf}) g->Bv x.dB g) ?_ ?_
  .intro K0 Rg;refine⟨_,fun O J r=>hT.f1 W hA.f r,((k+1:Nat):Int),wo,?_⟩;refine⟨fun O J r=>?_⟩;refine(hT.Mn r W (k:=k) hA.f hfl1 Yl be).mono fun e w8 L=>?_;obtain⟨rfl,SM⟩:=L;refine⟨_,_,(J.heap.size,w8.heap.size)::iv,rfl,r.gJ (hT.not r) SM.kept,?_⟩;have hP:=SM.jK;have Pz:=SM.D8;replace R:=(Kept.cj r.cj R lr).trans SM.kept;clear SM r hT;generalize (J.heap.size,w8.heap.size)::iv=ivd at*
   conv=>whnf
   intro I8 w3 r3;have hs:=hP.Er r3 W (k:=1) bv (v:=.slice (some ⟨gf,0,none⟩) (q-1) cf) (ad:=Addr.add ⟨x.g,0,none⟩ 1) (by rw[dF,aS]);refine⟨hs.spot,hs.cells,hs.own,fun w4 QG=>?_⟩;obtain⟨SK,Q3,-⟩:=hs.next w4 QG
   have hT:=SK.toO rfl rfl;replace R:=Kept.gz (Kept.cj r3.cj R lr) Q3 fun g V A=>Pz g A;clear hs SK Q3 QG r3 hP;conv=>whnf
   exact Rg _ _ _ _ _ ⟨_,_,_,_,_,_,_,_,_,_,_,rfl,rfl,rfl,R,hT.cast Tb.Db.symm,Pz⟩
  clear hT R;rintro l H nx ivd w1 ⟨a44,a43,a42,a41,a40,a39,a38,a37,a36,a35,a34,rfl,rfl,rfl,R,hT,Sl⟩;refine⟨_,fun O J r=>hT.f2 W (show Tx.va {x with vf:=.slice (some ⟨gf,0,none⟩) (q-1) cf}=_ from hA.a) r,Nat×Tx×World×Iv,fun z=>⟨[(0,.o (.v (.pointer (some ⟨x.g,0,none⟩)))),(6,.o (.v (iV (k:Int)))),(49,.o (.v (iV (m:Int)))),(50,.o (.v (iV (z.1:Int))))],[],0,z.2.2.2,z.2.2.1⟩,fun z=>m-z.1,fun z=>z.1<=m/\Kept w z.2.2.1 (Bv x.dB)/\dJ z.2.2.1 S w.heap.size z.2.2.2 z.2.1 (t1.pA k z.1)/\z.2.1.g=x.g/\z.2.1.va= .slice (some ⟨ga,0,none⟩) m ca/\z.2.1.vc= .slice (some ⟨gc,0,none⟩) q cc/\(∀j,z.1<=j->z.2.1.rv[j]? =x.rv[j]?)/\∀g,Bv z.2.1.dB g->Bv x.dB g,?_,?_⟩
  .intro O J r;exact⟨(0,_,J,_),⟨ae _,Kept.cj r.cj R lr,hT.rel r W,rfl,hA.a,hA.c,fun j _=>rfl,Sl⟩,sbgn [] r⟩
  clear hT R Sl;rintro⟨i,y,w1,iv⟩ ⟨N,R,hT,RY,R6,WG,XZ,Sl⟩;dsimp only at N R hT RY R6 WG XZ Sl ⊢;apply bS<;>intro Pk
  .have Pk:=dL Pk;obtain⟨gi,ci,TP⟩:=Xa i Pk;have Re:=(XZ i (aq i)).trans TP;have XB:i<(t1.pA k i).a.length:=by rw[Tb.Gp];omega
   have YH:((t1.pA k i).a.getD i []).length=q:=by rw[Tb.Es be];exact hW1.row Pk
   obtain⟨y2,RR⟩:∃y2:Tx,y2={y with rv:=y.rv.set i (.slice (some ⟨gi,0,none⟩) (q-1) ci)}:=⟨_,rfl⟩
   refine vO (fun l0 l H nx iv w1=>∃b69 b68 b64 b63 b61 b56 b67 b66 b65 b62 b60 b59 b58 b57 b55 b54 b53:SV,l=(69,b69)::(68,b68)::(64,b64)::(63,b63)::(61,b61)::(56,b56)::(67,b67)::(66,b66)::(65,b65)::(62,b62)::(60,b60)::(59,b59)::(58,b58)::(57,b57)::(55,b55)::(54,b54)::(53,b53)::l0/\H=[]/\nx=0/\Kept w w1 (Bv x.dB)/\dJ w1 S w.heap.size iv y2 (t1.pA k (i+1))/\∀g,Bv y2.dB g->Bv x.dB g) ?_ ?_
   .intro K0 Rg;refine yg hτ uw (.x 0 (.x 1 (.x 2 (.x 4 (.x 5 (.x 6 (.x 7 (.x 9 (.x 12 (.x 13 (.x 14 (.ld 3 196608 (.ld 8 232448 (.x 10 (.ld 11 229376 (.x 15 (.x 16 (.x 17 .nil)))))))))))))))))) d9 d9 ?_;refine⟨((k+1:Nat):Int),wo,.slice (some ⟨ga,0,none⟩) m ca,fun O J r=>by have h:=hT.f2 W R6 r;rw[RY]at h;exact h,.slice (some ⟨ga,0,none⟩) m ca,fun O J r=>by have h:=hT.f2 W R6 r;rw[RY]at h;exact h,_,rfl,be,_,fun O J r=>hT.cA W Re R6 r,?_⟩;refine⟨fun O J r=>?_⟩;refine(hT.Mo r W (k:=k) XB Re YH Yl be).mono fun e w8 L=>?_;obtain⟨rfl,SM⟩:=L;refine⟨_,_,(J.heap.size,w8.heap.size)::iv,rfl,r.gJ (hT.not r) SM.kept,?_⟩;have hP:=SM.jK;rw[<-RR]at hP;have Pz:=SM.D8;rw[<-RR]at Pz;replace R:=Kept.gz (Kept.cj r.cj R lr) SM.kept fun g V A=>Sl g A;clear SM r;generalize (J.heap.size,w8.heap.size)::iv=iv2 at*
    have RF:y2.g=x.g:=by rw[RR];exact RY
    have Qm:y2.va= .slice (some ⟨ga,0,none⟩) m ca:=by rw[RR];exact R6
    refine⟨.slice (some ⟨ga,0,none⟩) m ca,fun O J r=>by have h:=hP.OO W (k:=2) (show y.hd[2]? =some (.slice (some ⟨ga,0,none⟩) m ca)from congrArg some R6) r;rw[RF]at h;exact h,rfl,_,rfl,be,?_⟩;intro I8 w3 r3;have hs:=hP.Mm r3 W (i:=i) (v:=.slice (some ⟨gi,0,none⟩) (q-1) ci) (eU Re) Qm (ad:=Addr.add ⟨ga,0,none⟩ (((i:Nat):Int).toNat*1)) (by rw[aK,dF,aS]);refine⟨hs.spot,hs.cells,hs.own,fun w4 QG=>?_⟩;obtain⟨SK,Q3,-⟩:=hs.next w4 QG
    have Xs:=(SK.toO (by rw[RR];rfl) (by rw[RR])).cast (Tb.Dd be);replace R:=Kept.gz (Kept.cj r3.cj R lr) Q3 fun g V A=>Sl g (Pz g A);have Qa:∀g,Bv y2.dB g->Bv x.dB g:=fun g A=>Sl g (Pz g A);clear hs SK Q3 QG r3 hP;exact Rg _ _ _ _ _ ⟨_,_,_,_,_,_,_,_,_,_,_,_,_,_,_,_,_,rfl,rfl,rfl,R,Xs,Qa⟩
   clear hT R;rintro l H nx iv2 F ⟨b69,b68,b64,b63,b61,b56,b67,b66,b65,b62,b60,b59,b58,b57,b55,b54,b53,rfl,rfl,rfl,R,hT,Qa⟩;refine inc i ?_;intro I8 w3 r3;exact⟨(i+1,y2,w3,_),⟨Pk,Kept.cj r3.cj R lr,hT.rel r3 W,by rw[RR];exact RY,by rw[RR];exact R6,by rw[RR];exact WG,fun j hj=>by rw[RR];exact(aZ be).trans (XZ j be),Qa⟩,sbgn [] r3,dec Pk⟩
  have Pk:=dE N Pk;have hD:{t1.pA k i with c:=t1.c.eraseIdx k}=t1.del k:=by rw[Pk,<-hal1];exact Tb.Gq
  refine tB (fun l0 l H nx iv w1=>∃(b81 b80 b79 b78 b77 b76 b75 b74 b73 b72 b71:SV) (y2:Tx),l=(81,b81)::(80,b80)::(79,b79)::(78,b78)::(77,b77)::(76,b76)::(75,b75)::(74,b74)::(73,b73)::(72,b72)::(71,b71)::l0/\H=[]/\nx=0/\y2.g=x.g/\Kept w w1 (Bv x.dB)/\dJ w1 S w.heap.size iv y2 (t1.del k)/\∀g,Bv y2.dB g->Bv x.dB g) ?_ ?_
  .intro K0 Rg;refine⟨_,fun O J r=>by have h:=hT.f4 W WG r;rw[RY]at h;exact h,((k+1:Nat):Int),wo,?_⟩;refine⟨fun O J r=>?_⟩;refine(hT.Mp r W (k:=k) WG hcl1 Yl be).mono fun e w8 L=>?_;obtain⟨rfl,SM⟩:=L;refine⟨_,_,(J.heap.size,w8.heap.size)::iv,rfl,r.gJ (hT.not r) SM.kept,?_⟩;have hP:=SM.jK;have Pz:=SM.D8;replace R:=Kept.gz (Kept.cj r.cj R lr) SM.kept fun g V A=>Sl g A;clear SM r hT;generalize (J.heap.size,w8.heap.size)::iv=iv2 at*
   conv=>whnf
   intro I8 w3 r3;have hs:=hP.Er r3 W (k:=4) bv (v:=.slice (some ⟨gc,0,none⟩) (q-1) cc) (ad:=Addr.add ⟨x.g,0,none⟩ 4) (by rw[dF,aS];exact congrArg (fun g=>(⟨g,4,none⟩:Addr)) RY.symm);refine⟨hs.spot,hs.cells,hs.own,fun w4 QG=>?_⟩;obtain⟨SK,Q3,-⟩:=hs.next w4 QG
   have hT:=SK.toO rfl rfl;replace R:=Kept.gz (Kept.cj r3.cj R lr) Q3 fun g V A=>Sl g (Pz g A);clear hs SK Q3 QG r3 hP;exact Rg _ _ _ _ _ ⟨_,_,_,_,_,_,_,_,_,_,_,{y with vc:=.slice (some ⟨gc,0,none⟩) (q-1) cc},rfl,rfl,rfl,RY,R,hT.cast hD,fun g A=>Sl g (Pz g A)⟩
  clear hT R;rintro l H nx iv2 F ⟨b81,b80,b79,b78,b77,b76,b75,b74,b73,b72,b71,y2,rfl,rfl,rfl,RF,R,hT,Qa⟩;intro O J r;exact⟨rfl,y2,RF,Kept.cj r.cj R lr,hT.aAL Qx (fun g A=>.inl (Qa g A)) r W,fun g A=>.inl (Qa g A)⟩
 rw[Y];obtain⟨gu,cu,hru⟩:=Xa u hu;have QO:=hW.row hu;refine Bh (fun l0 l H nx iv w1=>∃a27 a26 a25 a24 a5 a23 a22 a21 a20 a19 a18 a17 a16 a15 a14:SV,l=(27,a27)::(26,a26)::(25,a25)::(24,a24)::(5,a5)::(23,a23)::(22,a22)::(21,a21)::(20,a20)::(19,a19)::(18,a18)::(17,a17)::(16,a16)::(15,a15)::(14,a14)::l0/\H=[]/\nx=0/\Kept w w1 (Bv x.dB)/\dJ w1 S w.heap.size iv x t1) ?_ ?_
 .intro K0 Rg;conv=>whnf
  refine⟨_,fun O J r=>hT.f2 W hA.a r,_,rfl,⟨by rw[kY];omega,by rw[kY];omega⟩,_,fun O J r=>hT.cA W hru hA.a r,?_⟩;refine cW (cU (GT:=fun _ J v F=>v=iV (rT (mU (fun j=>decide ((t.a.getD u []).getD j 0≠0)) (t.a.getD u []).length))) (fun O J r=>(hT.aB8 r W be hru QO)) ?_);rintro O QP v1 QL r L A rfl;replace hT:=hT.cS (K:=(QP.heap.size,QL.heap.size)::iv) r W L fun x E=>aD _ E;replace R:=Kept.cj A R lr;clear r L A;generalize (QP.heap.size,QL.heap.size)::iv=Pv at*
  rw[h3];refine⟨fun O J r=>?_⟩;refine(Eo (u:=u) (s:=s) (Lv.old r W) (hT.rel r W).jK hW hu hs Po be be hH I hh).mono fun e w8 L=>?_;obtain⟨rfl,RD,Qr⟩:=L;refine⟨.tuple #[],_,(J.heap.size,w8.heap.size)::Pv,rfl,r.gJ (hT.not r) RD,?_⟩;replace Qr:=hT.ep r Qr;replace R:=(Kept.cj r.cj R lr).trans RD;clear hT RD;have hT:=Qr;clear Qr r;generalize (J.heap.size,w8.heap.size)::Pv=iv2 at*
  replace hT:=hT.cast TN.symm;conv=>whnf
  exact Rg _ _ _ _ _ ⟨_,_,_,_,_,_,_,_,_,_,_,_,_,_,_,rfl,rfl,rfl,R,hT⟩
 clear hT R;rintro l H nx iv w1 ⟨a27,a26,a25,a24,a5,a23,a22,a21,a20,a19,a18,a17,a16,a15,a14,rfl,rfl,rfl,R,hT⟩;refine lZ (fun l0 l H nx iv w1=>∃a33 a32 a31 a30 a29 a28:SV,l=(6,.o (.v (iV ((k:Int)))))::(33,a33)::(32,a32)::(31,a31)::(30,a30)::(29,a29)::(28,a28)::l0/\H=[]/\nx=0/\Kept w w1 (Bv x.dB)/\dJ w1 S w.heap.size iv x t1) ?_ ?_
 .intro K0 Rg;refine⟨_,fun O J r=>hT.f1 W hA.f r,?_⟩;refine cW (cU (GT:=fun _ J v F=>v=iV (rT (mU (fun i=>decide (t1.fs.getD i 0=vv)) t1.fs.length))) (fun O J r=>(hA.f▸Be (S:=fun g=>Bv x.dB g) (fun g V=>hT.low r V) (hT.Mq r W (n:=q) be mx) be)) ?_);rintro O QP v1 QL r L A rfl;replace hT:=hT.cS (K:=(QP.heap.size,QL.heap.size)::iv) r W L fun x E=>aD _ E;replace R:=Kept.cj A R lr;clear r L A;generalize (QP.heap.size,QL.heap.size)::iv=Pv at*
  rw[WV,kY];conv=>whnf
  exact Rg _ _ _ _ _ ⟨_,_,_,_,_,_,rfl,rfl,rfl,R,hT⟩
 clear hT R;rintro l H nx iv w1 ⟨a33,a32,a31,a30,a29,a28,rfl,rfl,rfl,R,hT⟩;refine lZ (fun l0 l H nx iv w1=>∃a44 a43 a42 a41 a40 a39 a38 a37 a36 a35 a34:SV,l=(44,a44)::(43,a43)::(42,a42)::(41,a41)::(40,a40)::(39,a39)::(38,a38)::(37,a37)::(36,a36)::(35,a35)::(34,a34)::l0/\H=[]/\nx=0/\Kept w w1 (Bv x.dB)/\dJ w1 S w.heap.size iv {x with vf:=.slice (some ⟨gf,0,none⟩) (q-1) cf} (t1.pA k 0)/\∀g,Bv (Tx.dB {x with vf:=.slice (some ⟨gf,0,none⟩) (q-1) cf}) g->Bv x.dB g) ?_ ?_
 .intro K0 Rg;refine⟨_,fun O J r=>hT.f1 W hA.f r,((k+1:Nat):Int),wo,?_⟩;refine⟨fun O J r=>?_⟩;refine(hT.Mn r W (k:=k) hA.f hfl1 Yl be).mono fun e w8 L=>?_;obtain⟨rfl,SM⟩:=L;refine⟨_,_,(J.heap.size,w8.heap.size)::iv,rfl,r.gJ (hT.not r) SM.kept,?_⟩;have hP:=SM.jK;have Pz:=SM.D8;replace R:=(Kept.cj r.cj R lr).trans SM.kept;clear SM r hT;generalize (J.heap.size,w8.heap.size)::iv=ivd at*
  conv=>whnf
  intro I8 w3 r3;have hs:=hP.Er r3 W (k:=1) bv (v:=.slice (some ⟨gf,0,none⟩) (q-1) cf) (ad:=Addr.add ⟨x.g,0,none⟩ 1) (by rw[dF,aS]);refine⟨hs.spot,hs.cells,hs.own,fun w4 QG=>?_⟩;obtain⟨SK,Q3,-⟩:=hs.next w4 QG
  have hT:=SK.toO rfl rfl;replace R:=Kept.gz (Kept.cj r3.cj R lr) Q3 fun g V A=>Pz g A;clear hs SK Q3 QG r3 hP;conv=>whnf
  exact Rg _ _ _ _ _ ⟨_,_,_,_,_,_,_,_,_,_,_,rfl,rfl,rfl,R,hT.cast Tb.Db.symm,Pz⟩
 clear hT R;rintro l H nx ivd w1 ⟨a44,a43,a42,a41,a40,a39,a38,a37,a36,a35,a34,rfl,rfl,rfl,R,hT,Sl⟩;refine⟨_,fun O J r=>hT.f2 W (show Tx.va {x with vf:=.slice (some ⟨gf,0,none⟩) (q-1) cf}=_ from hA.a) r,Nat×Tx×World×Iv,fun z=>⟨[(0,.o (.v (.pointer (some ⟨x.g,0,none⟩)))),(6,.o (.v (iV (k:Int)))),(49,.o (.v (iV (m:Int)))),(50,.o (.v (iV (z.1:Int))))],[],0,z.2.2.2,z.2.2.1⟩,fun z=>m-z.1,fun z=>z.1<=m/\Kept w z.2.2.1 (Bv x.dB)/\dJ z.2.2.1 S w.heap.size z.2.2.2 z.2.1 (t1.pA k z.1)/\z.2.1.g=x.g/\z.2.1.va= .slice (some ⟨ga,0,none⟩) m ca/\z.2.1.vc= .slice (some ⟨gc,0,none⟩) q cc/\(∀j,z.1<=j->z.2.1.rv[j]? =x.rv[j]?)/\∀g,Bv z.2.1.dB g->Bv x.dB g,?_,?_⟩
 .intro O J r;exact⟨(0,_,J,_),⟨ae _,Kept.cj r.cj R lr,hT.rel r W,rfl,hA.a,hA.c,fun j _=>rfl,Sl⟩,sbgn [] r⟩
 clear hT R Sl;rintro⟨i,y,w1,iv⟩ ⟨N,R,hT,RY,R6,WG,XZ,Sl⟩;dsimp only at N R hT RY R6 WG XZ Sl ⊢;apply bS<;>intro Pk
 .have Pk:=dL Pk;obtain⟨gi,ci,TP⟩:=Xa i Pk;have Re:=(XZ i (aq i)).trans TP;have XB:i<(t1.pA k i).a.length:=by rw[Tb.Gp];omega
  have YH:((t1.pA k i).a.getD i []).length=q:=by rw[Tb.Es be];exact hW1.row Pk
  obtain⟨y2,RR⟩:∃y2:Tx,y2={y with rv:=y.rv.set i (.slice (some ⟨gi,0,none⟩) (q-1) ci)}:=⟨_,rfl⟩
  refine vO (fun l0 l H nx iv w1=>∃b69 b68 b64 b63 b61 b56 b67 b66 b65 b62 b60 b59 b58 b57 b55 b54 b53:SV,l=(69,b69)::(68,b68)::(64,b64)::(63,b63)::(61,b61)::(56,b56)::(67,b67)::(66,b66)::(65,b65)::(62,b62)::(60,b60)::(59,b59)::(58,b58)::(57,b57)::(55,b55)::(54,b54)::(53,b53)::l0/\H=[]/\nx=0/\Kept w w1 (Bv x.dB)/\dJ w1 S w.heap.size iv y2 (t1.pA k (i+1))/\∀g,Bv y2.dB g->Bv x.dB g) ?_ ?_
  .intro K0 Rg;refine yg hτ uw (.x 0 (.x 1 (.x 2 (.x 4 (.x 5 (.x 6 (.x 7 (.x 9 (.x 12 (.x 13 (.x 14 (.ld 3 196608 (.ld 8 232448 (.x 10 (.ld 11 229376 (.x 15 (.x 16 (.x 17 .nil)))))))))))))))))) d9 d9 ?_;refine⟨((k+1:Nat):Int),wo,.slice (some ⟨ga,0,none⟩) m ca,fun O J r=>by have h:=hT.f2 W R6 r;rw[RY]at h;exact h,.slice (some ⟨ga,0,none⟩) m ca,fun O J r=>by have h:=hT.f2 W R6 r;rw[RY]at h;exact h,_,rfl,be,_,fun O J r=>hT.cA W Re R6 r,?_⟩;refine⟨fun O J r=>?_⟩;refine(hT.Mo r W (k:=k) XB Re YH Yl be).mono fun e w8 L=>?_;obtain⟨rfl,SM⟩:=L;refine⟨_,_,(J.heap.size,w8.heap.size)::iv,rfl,r.gJ (hT.not r) SM.kept,?_⟩;have hP:=SM.jK;rw[<-RR]at hP;have Pz:=SM.D8;rw[<-RR]at Pz;replace R:=Kept.gz (Kept.cj r.cj R lr) SM.kept fun g V A=>Sl g A;clear SM r;generalize (J.heap.size,w8.heap.size)::iv=iv2 at*
   have RF:y2.g=x.g:=by rw[RR];exact RY
   have Qm:y2.va= .slice (some ⟨ga,0,none⟩) m ca:=by rw[RR];exact R6
   refine⟨.slice (some ⟨ga,0,none⟩) m ca,fun O J r=>by have h:=hP.OO W (k:=2) (show y.hd[2]? =some (.slice (some ⟨ga,0,none⟩) m ca)from congrArg some R6) r;rw[RF]at h;exact h,rfl,_,rfl,be,?_⟩;intro I8 w3 r3;have hs:=hP.Mm r3 W (i:=i) (v:=.slice (some ⟨gi,0,none⟩) (q-1) ci) (eU Re) Qm (ad:=Addr.add ⟨ga,0,none⟩ (((i:Nat):Int).toNat*1)) (by rw[aK,dF,aS]);refine⟨hs.spot,hs.cells,hs.own,fun w4 QG=>?_⟩;obtain⟨SK,Q3,-⟩:=hs.next w4 QG
   have Xs:=(SK.toO (by rw[RR];rfl) (by rw[RR])).cast (Tb.Dd be);replace R:=Kept.gz (Kept.cj r3.cj R lr) Q3 fun g V A=>Sl g (Pz g A);have Qa:∀g,Bv y2.dB g->Bv x.dB g:=fun g A=>Sl g (Pz g A);clear hs SK Q3 QG r3 hP;exact Rg _ _ _ _ _ ⟨_,_,_,_,_,_,_,_,_,_,_,_,_,_,_,_,_,rfl,rfl,rfl,R,Xs,Qa⟩
  clear hT R;rintro l H nx iv2 F ⟨b69,b68,b64,b63,b61,b56,b67,b66,b65,b62,b60,b59,b58,b57,b55,b54,b53,rfl,rfl,rfl,R,hT,Qa⟩;refine inc i ?_;intro I8 w3 r3;exact⟨(i+1,y2,w3,_),⟨Pk,Kept.cj r3.cj R lr,hT.rel r3 W,by rw[RR];exact RY,by rw[RR];exact R6,by rw[RR];exact WG,fun j hj=>by rw[RR];exact(aZ be).trans (XZ j be),Qa⟩,sbgn [] r3,dec Pk⟩
 have Pk:=dE N Pk;have hD:{t1.pA k i with c:=t1.c.eraseIdx k}=t1.del k:=by rw[Pk,<-hal1];exact Tb.Gq
 refine tB (fun l0 l H nx iv w1=>∃(b81 b80 b79 b78 b77 b76 b75 b74 b73 b72 b71:SV) (y2:Tx),l=(81,b81)::(80,b80)::(79,b79)::(78,b78)::(77,b77)::(76,b76)::(75,b75)::(74,b74)::(73,b73)::(72,b72)::(71,b71)::l0/\H=[]/\nx=0/\y2.g=x.g/\Kept w w1 (Bv x.dB)/\dJ w1 S w.heap.size iv y2 (t1.del k)/\∀g,Bv y2.dB g->Bv x.dB g) ?_ ?_
 .intro K0 Rg;refine⟨_,fun O J r=>by have h:=hT.f4 W WG r;rw[RY]at h;exact h,((k+1:Nat):Int),wo,?_⟩;refine⟨fun O J r=>?_⟩;refine(hT.Mp r W (k:=k) WG hcl1 Yl be).mono fun e w8 L=>?_;obtain⟨rfl,SM⟩:=L;refine⟨_,_,(J.heap.size,w8.heap.size)::iv,rfl,r.gJ (hT.not r) SM.kept,?_⟩;have hP:=SM.jK;have Pz:=SM.D8;replace R:=Kept.gz (Kept.cj r.cj R lr) SM.kept fun g V A=>Sl g A;clear SM r hT;generalize (J.heap.size,w8.heap.size)::iv=iv2 at*
  conv=>whnf
  intro I8 w3 r3;have hs:=hP.Er r3 W (k:=4) bv (v:=.slice (some ⟨gc,0,none⟩) (q-1) cc) (ad:=Addr.add ⟨x.g,0,none⟩ 4) (by rw[dF,aS];exact congrArg (fun g=>(⟨g,4,none⟩:Addr)) RY.symm);refine⟨hs.spot,hs.cells,hs.own,fun w4 QG=>?_⟩;obtain⟨SK,Q3,-⟩:=hs.next w4 QG
  have hT:=SK.toO rfl rfl;replace R:=Kept.gz (Kept.cj r3.cj R lr) Q3 fun g V A=>Sl g (Pz g A);clear hs SK Q3 QG r3 hP;exact Rg _ _ _ _ _ ⟨_,_,_,_,_,_,_,_,_,_,_,{y with vc:=.slice (some ⟨gc,0,none⟩) (q-1) cc},rfl,rfl,rfl,RY,R,hT.cast hD,fun g A=>Sl g (Pz g A)⟩
 clear hT R;rintro l H nx iv2 F ⟨b81,b80,b79,b78,b77,b76,b75,b74,b73,b72,b71,y2,rfl,rfl,rfl,RF,R,hT,Qa⟩;intro O J r;exact⟨rfl,y2,RF,Kept.cj r.cj R lr,hT.aAL Qx (fun g A=>.inl (Qa g A)) r W,fun g A=>.inl (Qa g A)⟩
theorem Gr(N:i<n)(h:p i=true)(hu:∀j,j<n->p j=true->j=i):mU p n=some i:=
 xp N h fun j hj=>by
  cases e:p j with
  |false=>rfl
  |true=>have:=hu j be e;omega
theorem OS(h:∃i,i<n/\p i=true):∃i,mU p n=some i/\i<n/\p i=true:=by
 unfold mU
 cases e:(List.range n).find? p with
 |none=>
  obtain⟨i,N,hp⟩:=h;rw[List.find?_eq_none]at e;exact absurd hp (e i (List.mem_range.2 N))
 |some i=>exact⟨i,rfl,List.mem_range.1 (List.mem_of_find?_eq_some e),List.find?_some e⟩
section
variable{t:Tb}{D:Dc}{m n B:Nat}{Fn:Nat->Nat->Rat}{b:Nat->Rat}{F8:Mx}
theorem Kj(h:fq D m n Fn b)(hf:D.uq)(hr:Rp t D)(ht:¬D.top<0)(hz:D.Sz B F8):∃t1 D1 k,
  ((mU (fun i=>decide (t.bs.getD i 0=n+m)) t.bs.length=none/\t1=t)\/∃r s,mU (fun i=>decide (t.bs.getD i 0=n+m)) t.bs.length=some r/\r<m/\mU (fun j=>decide ((t.a.getD r []).getD j 0≠0)) (t.a.getD r []).length=some s/\s<n+1/\dU t.a r s≠0/\t1=t.gZ r s)/\
  Rp t1 D1/\fq D1 m n Fn b/\D1.uq/\D1.Sz B F8/\mU (fun i=>decide (t1.fs.getD i 0=n+m)) t1.fs.length=some k/\k<n+1/\D1.eV k=n+m:=by
 have hm:=h.em;have hq:=h.eq;have key:∀{t1:Tb} {D1:Dc} {k:Nat},Rp t1 D1->fq D1 m n Fn b->k<D1.q->D1.eV k=n+m->mU (fun i=>decide (t1.fs.getD i 0=n+m)) t1.fs.length=some k/\k<n+1:=fun{t1 D1 k} RP Y R hv=>by
  refine⟨Gr (by rw[RP.Nv];exact R) (by rw[RP.eV k R];exact bg hv) fun j hj e=>?_,by rw[<-Y.eq];exact R⟩;rw[RP.Nv]at hj;have e:=aJ e;rw[RP.eV j hj]at e;exact Y.ok.fi j k hj R (e.trans hv.symm)
 rcases h.aAl hf ht with⟨r,RP,hv,A⟩|⟨k,R,hv⟩
 .have hrb:t.bs.getD r 0=n+m:=by rw[hr.fF r RP];exact hv
  have Y:mU (fun i=>decide (t.bs.getD i 0=n+m)) t.bs.length=some r:=Gr (by rw[hr.KR];exact RP) (bg hrb) fun j hj e=>by
   rw[hr.KR]at hj;have e:=aJ e;rw[hr.fF j hj]at e;exact h.ok.bi j r hj RP (e.trans hv.symm)
  have Pm:=hr.MI RP
  obtain⟨s,XS,TO,hs3⟩:=OS (p:=fun j=>decide ((t.a.getD r []).getD j 0≠0)) (n:=(t.a.getD r []).length) (by
   obtain⟨j,hj,Po⟩:=h.ME RP hv A;refine⟨j,by rw[Pm];exact hj,bg ?_⟩;rw[show (t.a.getD r []).getD j 0=D.a r j from hr.ea r j RP hj]
   exact Po)
  rw[Pm]at TO;have Po:(t.a.getD r []).getD s 0≠0:=aJ hs3;have VA:D.a r s≠0:=by rw[<-hr.ea r s RP TO];exact Po
  obtain⟨k1,k2,k3⟩:=h.out hf RP hv A TO VA;obtain⟨k4,k5⟩:=key (hr.gZ RP TO) k1 TO k3;exact⟨t.gZ r s,D.gZ r s,s,.inr ⟨r,s,Y,be,XS,be,Po,rfl⟩,hr.gZ RP TO,k1,k2,hz.gZ h.ok RP TO VA,k4,k5,k3⟩
 .obtain⟨k4,k5⟩:=key hr h R hv;refine⟨t,D,k,.inl ⟨xq fun i N=>bI fun e=>?_,rfl⟩,hr,h,hf,hz,k4,k5,hv⟩;rw[hr.KR]at N;rw[hr.fF i N]at e;exact h.ok.bf i k N R (e.trans hv.symm)
end
end Go.Ex
namespace Go.Sx
open Go Go.Ex Go.Proofs
variable{O:Nat->Sx.eH}
theorem Rel.less{H:Hp}{nx:Nat}{iv K:Iv}{B:Nat}{w J:World}(r:Rel H nx K B w O J)(hm:∀p,p∈iv->p∈K):Rel H nx iv B w O J:=
 {r with oc:=(fun lo N h=>r.oc lo N (hm _ h)),jU:=(fun lo N h=>r.jU lo N (hm _ h))}
end Go.Sx
namespace Go.Ex
open Go Go.Sx Go.Proofs
section
variable{q:List Rat}{Do S:Nat->Prop}{v:Value}{w:World}
theorem kK.aB9{S':Nat->Prop}{E8:List Ow}{it it':Ow}{k:Nat}(h:kK w S E8)(R:E8[k]? =some it)(ho:w.ownsRow 0 it'.e it'.sz it'.v it'.n it'.xs)
  (A:∀g,it'.v.ownBlock=some g->¬Bv (E8.map Ow.v) g) (off:∀g,Bv ((E8.set k it').map Ow.v) g->¬S' g):kK w S' (E8.set k it'):=by
 refine⟨fun it2 Qv=>?_,fun i j a b g N hj ha Q2=>?_,off⟩
 .obtain⟨i,N⟩:=az Qv;rw[List.getElem?_set]at N;split at N
  .split at N
   .injection N with N;subst N;exact ho
   .cases N
  .exact h.own it2 (aG N)
 .have key:∀(i:Nat) (a:Ow),(E8.set k it')[i]? =some a->(i=k/\a=it')\/(i≠k/\E8[i]? =some a):=fun i a N=>by
   rw[List.getElem?_set]at N;split at N
   .rename_i e;split at N
    .injection N with N;exact .inl ⟨e.symm,N.symm⟩
    .cases N
   .rename_i e;exact .inr ⟨Ne.symm e,N⟩
  have low:∀(i:Nat) (a:Ow) (g:Nat),E8[i]? =some a->a.v.ownBlock=some g->Bv (E8.map Ow.v) g:=fun i a g N V=>kK.bk (aG N) V;rcases key i a N with⟨rfl,rfl⟩|⟨Y,I⟩<;>rcases key j b hj with⟨rfl,rfl⟩|⟨h3,h4⟩
  .rfl
  .exact absurd (low j b g h4 Q2) (A g ha)
  .exact absurd (low i a g I ha) (A g Q2)
  .exact h.apart i j a b g I h4 ha Q2
section
variable{w F:World}{S S':Nat->Prop}{hd rvx:List Value}{x:Tx}{t:Tb}
theorem oz.aBE(h:oz w S hd rvx x t)(ho:gw w S' v q.length q)(A:∀g,v.ownBlock=some g->¬Bv x.dB g)
  (hs:∀g,S g->S' g) (U:∀g,Bv (Tx.dB {x with vc:=v}) g->¬S' g):oz w S' hd rvx {x with vc:=v} {t with c:=q}:=by
 obtain⟨tp,cb,cc,ca,h⟩:=h;obtain⟨Z,TJ,RB,VJ⟩:=ho;have I:kK w FF (oH hd rvx {x with vc:=v} {t with c:=q} tp cb Z ca):=h.ows.aB9 (k:=5) (it':=gK v Z) rfl (by show w.ownsRow 0 T.dO 4 v Z.length _;rw[RB];exact TJ) (fun g V=>by rw[h.dB];exact A g V) fun _ _ h=>h;refine⟨tp,cb,Z,ca,I.HY fun g V=>U g ?_,h.ft.cV hs,h.fb.cV hs,VJ,h.fl,fun i Z q Y I=>(h.fa i Z q Y I).cV hs,h.rl,h.rx,h.h5⟩;have e:(oH hd rvx {x with vc:=v} {t with c:=q} tp cb Z ca).map Ow.v=Tx.dB {x with vc:=v}:=by
  show _::_::_::_::_::_::(List.zipWith gK x.rv ca).map Ow.v=_;rw[j4 (by rw[h.rl,h.fl])];rfl
 rw[<-e];exact V
end
theorem dJ.aBF{iv K:Iv}{B FS:Nat}{x:Tx}{t:Tb}(hT:dJ w S B iv x t)(hN:∀g,Lv S B iv x g\/Bv x.dB g->g<FS)(hX:gw w Do v q.length q)(hv:∀g,v.ownBlock=some g->FS<=g/\Cv FF B K g)(hL:∀g,Do g->FS<=g/\v.ownBlock≠some g/\Cv FF B K g)(hm:∀p,p∈iv->p∈K):
  uC w S B K x.hd x.rv {x with vc:=v} {t with c:=q}/\(∀g,Lv S B iv x g->Lv S B K {x with vc:=v} g)/\∀g,Bv (Tx.dB {x with vc:=v}) g->Bv x.dB g\/FS<=g:=by
 have E:∀g,Bv (Tx.dB {x with vc:=v}) g->v.ownBlock=some g\/Bv x.dB g:=fun g h=>by
  rw[Bv.dB]at h ⊢;simp only at h;rcases h with h|h|h|h|h|h|h<;>simp[h]
 have hLL:∀g,Lv S B iv x g->Lv S B K {x with vc:=v} g:=fun g V=>⟨V.1.mono hm,fun A=>by
  rcases E g A with h|h
  .have:=(hv g h).1;have:=hN g (.inl V);omega
  .exact V.2 h⟩
 have hR:gw w (Lv S B K {x with vc:=v}) v q.length q:=hX.cV fun g V=>by
  obtain⟨Y,I,h3⟩:=hL g V;refine⟨qj h3,fun A=>?_⟩;rcases E g A with h|h
  .exact I h
  .have:=hN g (.inr h);omega
 refine⟨⟨hT.jK.toJ.aBE hR (fun g V A=>by have:=(hv g V).1;have:=hN g (.inr A);omega) hLL fun g A hl=>hl.2 A,fun g V=>?_⟩,hLL,fun g V=>(E g V).elim (fun h=>.inr (hv g h).1) .inl⟩;rcases E g V with h|h
 .exact qj (hv g h).2
 .exact(hT.kz g h).mono hm
structure Way(w w0 w1:World)(x x0 y:Tx):Prop where
 k:Kept w w1 (Bv x.dB)
 a:∀g,Bv y.dB g->Bv x.dB g\/w.heap.size<=g
 k0:Kept w0 w1 (Bv x0.dB)
 a0:∀g,Bv y.dB g->Bv x0.dB g\/w0.heap.size<=g
section
variable{w w0 w1 F:World}{x x0 y y2:Tx}
end
end
variable{Fn:List (List Rat)}{Z:List (List Value)}{zs:List Rat}{i:Nat}{S X:Nat->Prop}{d:Nat->Rat}{k2 k6:Option Addr}{q:Rat}{x:Tx}
section
variable{S EQ:Nat->Prop}{H:Hp}{nx:Nat}{iv iv2:Iv}{B:Nat}{w J F:World}{O:Nat->Sx.eH}{y y2:Tx}{v:Value}{c:List Rat}
theorem eF.pg(h:eF w (Lv EQ B iv y) (Lv EQ B iv y) v c)(r:Rel H nx iv B w O J)(hU:∀g,EQ g->g<B)(R:Kept J F (Bv y.dB))(D8:∀g,Bv y2.dB g->Bv y.dB g\/J.heap.size<=g)(hm:∀p,p∈iv->p∈iv2):eF F (Lv EQ B iv2 y2) (Lv EQ B iv2 y2) v c:=by
 have hold:∀g,Lv EQ B iv y g->g<J.heap.size:=fun g V=>rlo r hU g V.1;have Pp:∀g,Lv EQ B iv y g->F.heap[g]? =w.heap[g]? :=fun g V=>(R.block g (hold g V) V.2).trans (rls r hU V.1);have hL:∀g,Lv EQ B iv y g->Lv EQ B iv2 y2 g:=fun g V=>⟨V.1.mono hm,fun A=>(D8 g A).elim V.2 fun h=>by have:=hold g V;omega⟩
 exact(h.cX fun g V=>Pp g (V.elim id id)).cV hL hL
theorem dJ.aBa{S EQ:Nat->Prop}{iv K:Iv}{B FS:Nat}{w:World}{t:Tb}{v:Value}(hT:dJ w S B iv x t)(YI:∀g,S g->EQ g)(hUx:∀g,Bv x.dB g->EQ g)(hN:∀g,Lv S B iv x g\/Bv x.dB g->g<FS)(hv:∀g,v.ownBlock=some g->FS<=g)(hm:∀p,p∈iv->p∈K):
  eF w (Lv EQ B K {x with vc:=v}) (Lv EQ B K {x with vc:=v}) x.vc t.c:=by
 obtain⟨tp,cb,cc,ca,hC⟩:=hT.jK;have Um:(iL x t tp cb cc ca)[5]? =some (gK x.vc cc):=rfl;have E:∀g,Bv (Tx.dB {x with vc:=v}) g->v.ownBlock=some g\/x.g=g\/x.vb.ownBlock=some g\/x.vf.ownBlock=some g\/x.va.ownBlock=some g\/x.vB.ownBlock=some g\/Bv x.rv g:=fun g h=>by
  rw[Bv.dB]at h;simp only at h;rcases h with h|h|h|h|h|h|h<;>simp[h]
 have Sr:∀g (k:Nat) it,k≠5->(iL x t tp cb cc ca)[k]? =some it->x.vc.ownBlock=some g->it.v.ownBlock=some g->False:=fun g k it R N Y I=>R (hC.ows.apart k 5 it _ g N Um I Y);refine(fw.Jb hC (aG Um) hC.fc).cV (fun g V=>?_) fun g V=>?_
 .have VO:Bv x.dB g:=Bv.dB.2 (.inr (.inr (.inr (.inr (.inr (.inl V))))));refine⟨.inl (hUx g VO),fun A=>?_⟩;have QZ:=hN g (.inr VO);rcases E g A with h|h|h|h|h|h|⟨u,hu,h⟩
  .have:=hv g h;omega
  .exact Sr g 0 _ be rfl V (by rw[<-h];rfl)
  .exact Sr g 1 _ be rfl V h
  .exact Sr g 2 _ be rfl V h
  .exact Sr g 3 _ be rfl V h
  .exact Sr g 4 _ be rfl V h
  .obtain⟨i,N⟩:=az hu;have XB:=eU N;have hci:ca[i]? =some (ca[i]'(by rw[hC.fl,<-hC.rl];exact XB)):=aE _;exact Sr g (i+6) _ be (hC.rowAt N hci) V h
 .have QZ:=hN g (.inl V);refine⟨(show Cv EQ B iv g from V.1.elim (fun h=>.inl (YI g h)) .inr).mono hm,fun A=>?_⟩;rcases E g A with h|h
  .have:=hv g h;omega
  .refine V.2 (Bv.dB.2 ?_);rcases h with h|h|h|h|h|h<;>simp[h]
theorem Gs(L:Ext J F):Kept J F X:=⟨L.os,L.tape,L.output,L.size,fun k R _=>L.block k R⟩
theorem dJ.aBb{S EQ:Nat->Prop}{iv iv2:Iv}{B FS e1 s2 e2 n:Nat}{wd J F:World}{t:Tb}{v1 v':Value}{k1 k5:Bool}{k3 k4 k7 k8:Nat}
  (hT:dJ wd S B iv x t) (r:Rel H nx iv2 B wd O J) (W:∀g,S g->g<B) (YI:∀g,S g->EQ g) (hUx:∀g,Bv x.dB g->EQ g) (hN:∀g,Lv S B iv x g\/Bv x.dB g->g<FS) (hBN:B<=FS) (hNw:FS<=wd.heap.size)
  (hF:Fr wd (fun g=>FS<=g/\g<e1/\v1.ownBlock≠some g) Z zs) (hl:Z.length=n) (Tc:∀g,v1.ownBlock=some g->FS<=g/\g<e1) (hO:cz wd (fun g=>s2<=g/\g<e2) (.agg #[.bool k1,.slice k2 k3 k4,.bool k5,.slice k6 k7 k8]) q) (h12:FS<=s2) (L:e1<=s2)
  (q1:(FS,e1)∈iv2) (q2:(s2,e2)∈iv2) (q3:∀p,p∈iv->p∈iv2)
  (h5:F.ownsRow 0 T.dO 4 v' (n+1) (Z.flatten++(rC k1 k2 k3 k4 k5 k6 k7 k8))) (h6:J.grownBy F v1.ownBlock) (h7:v'.ownBlock=v1.ownBlock\/v'.ownBlock=some J.heap.size):
  uC F S B (en v'++iv2) x.hd x.rv {x with vc:=v'} {t with c:=zs++[q]}/\Bel FS J F/\(∀g,Bv (Tx.dB {x with vc:=v'}) g->Bv x.dB g\/FS<=g)/\eF F (Lv EQ B (en v'++iv2) {x with vc:=v'}) (Lv EQ B (en v'++iv2) {x with vc:=v'}) x.vc t.c:=by
 have m1:∀p,p∈iv2->p∈en v'++iv2:=fun p hp=>List.mem_append_right _ hp;have z1:=(r.oc _ _ q1)
 have z2:=(r.oc _ _ q2)
 have QK:=r.size;have A:=r.cZ;have r1:=r.less q3;have Pq:∀g,Lv S B iv x g\/Bv x.dB g->F.heap[g]? =J.heap[g]? :=fun g V=>by
  have:=hN g V;refine h6.block g be fun e=>?_;have:=(Tc g e.symm).1;omega
 have Xs:dJ F S B iv x t:=(hT.rel r1 W).cX Pq;have Sh:∀g,v'.ownBlock=some g->FS<=g/\Cv FF B (en v'++iv2) g:=fun g V=>by
  have Y:FS<=g:=by
   rcases h7 with h7|h7
   .rw[h7]at V;exact(Tc g V).1
   .rw[h7]at V;injection V with V;omega
  exact⟨Y,.inr ⟨be,g,g+1,List.mem_append_left _ (kX.2 ⟨V,rfl⟩),lr,cG _⟩⟩
 have Zk:∀g,v'.ownBlock=some g->v1.ownBlock=some g\/J.heap.size<=g:=fun g V=>by
  rcases h7 with h7|h7
  .exact .inl (h7▸V)
  .rw[h7]at V;injection V with V;exact .inr be
 have Xb:Fr F (fun g=>FS<=g/\v'.ownBlock≠some g/\Cv FF B (en v'++iv2) g) Z zs:=by
  refine(hF.cX (F:=F) fun g V=>?_).cV fun g V=>?_
  .exact(h6.block g be fun e=>V.2.2 e.symm).trans (rls r (iw _) (.inr ⟨be,_,_,q1,V.1,V.2.1⟩))
  .exact⟨V.1,fun e=>(Zk g e).elim V.2.2 fun h=>be,.inr ⟨be,_,_,m1 _ q1,V.1,V.2.1⟩⟩
 have TK:cz F (fun g=>FS<=g/\v'.ownBlock≠some g/\Cv FF B (en v'++iv2) g) (.agg #[.bool k1,.slice k2 k3 k4,.bool k5,.slice k6 k7 k8]) q:=by
  refine(hO.cX (F:=F) fun g V=>?_).cV fun g V=>?_
  .exact(h6.block g be fun e=>by have:=(Tc g e.symm).2;omega).trans (rls r (iw _) (.inr ⟨be,_,_,q2,V.1,V.2⟩))
  .exact⟨be,fun e=>(Zk g e).elim (fun h=>by have:=(Tc g h).2;omega) fun h=>be,.inr ⟨be,_,_,m1 _ q2,V.1,V.2⟩⟩
 have Su:(zs++[q]).length=n+1:=by rw[aV,<-hF.1,hl];rfl
 have hX:gw F (fun g=>FS<=g/\v'.ownBlock≠some g/\Cv FF B (en v'++iv2) g) v' (zs++[q]).length (zs++[q]):=by
  rw[Su];refine⟨Z++[rC k1 k2 k3 k4 k5 k6 k7 k8],?_,by rw[aV,hl];rfl,Xb.push TK.four⟩;rw[List.flatten_append];exact h5
 obtain⟨k1,-,k3⟩:=Xs.aBF hN hX Sh (fun g V=>V) fun p hp=>m1 p (q3 p hp);refine⟨k1,⟨h6.os,h6.tape,h6.output,h6.size,fun g V=>h6.block g be fun e=>by have:=(Tc g e.symm).1;omega⟩,k3,Xs.aBa YI hUx hN (fun g V=>(Sh g V).1) fun p hp=>m1 p (q3 p hp)⟩
theorem dJ.aBG{t:Tb}(hT:dJ w S B iv y t)(W:∀g,S g->g<B)(N:i<t.a.length):∃v Z,y.rv[i]? =some v/\Z.length=(t.a.getD i []).length/\Fr w (Lv S B iv y) Z (t.a.getD i [])/\(∀g,v.ownBlock=some g->Bv y.dB g)/\
  ∀{H:Hp} {nx:Nat} {O:Nat->Sx.eH} {J:World},Rel H nx iv B w O J->J.ownsRow 0 T.dO 4 v Z.length Z.flatten/\∀g,v.ownBlock=some g->∀id b,dV H id=some b->(O id).nil=false->(O id).g≠g:=by
 obtain⟨tp,cb,cc,ca,hC⟩:=hT.jK;obtain⟨v,Z,Y,I,h3,h4⟩:=hC.row N;have hm:=aG (hC.rowAt Y I);have A:∀g,v.ownBlock=some g->Bv y.dB g:=fun g V=>by rw[<-hC.dB];exact kK.bk hm V
 exact⟨v,Z,Y,h3.1,h3,A,fun{H nx O J} r=>⟨(hC.cX (hT.same r W)).ows.own (gK v Z) hm,fun g V=>hT.not r g (A g V)⟩⟩
theorem dJ.aAN{t:Tb}{v0 v':Value}{k1 k5:Bool}{k3 k4 k7 k8:Nat}(hT:dJ w S B iv y t)(r:Rel H nx iv B w O J)(W:∀g,S g->g<B)(hv:y.rv[i]? =some v0)
  (hF:Fr w (Lv S B iv y) Z (t.a.getD i [])) (A:∀g,v0.ownBlock=some g->Bv y.dB g) (hO:cz w (Lv S B iv y) (.agg #[.bool k1,.slice k2 k3 k4,.bool k5,.slice k6 k7 k8]) q)
  (h5:F.ownsRow 0 T.dO 4 v' (Z.length+1) (Z.flatten++(rC k1 k2 k3 k4 k5 k6 k7 k8))) (h6:J.grownBy F v0.ownBlock) (h7:v'.ownBlock=v0.ownBlock\/v'.ownBlock=some J.heap.size):
  Ml w J F S B iv v' y.hd y.rv y {y with rv:=y.rv.set i v'} {t with a:=t.a.set i (t.a.getD i []++[q])}:=by
 have R:∀g,Lv S B iv y g->F.heap[g]? =w.heap[g]? :=fun g V=>(h6.block g (Lv.old r W g V) fun e=>V.2 (A g e.symm)).trans (Lv.same r W g V);refine hT.aAz r W hv (fun S' hS'=>⟨Z++[rC k1 k2 k3 k4 k5 k6 k7 k8],?_,?_,((hF.push hO.four).cX R).cV hS'⟩) h6 h7
 .rw[List.flatten_append,aV,<-hF.1];exact h5
 .rw[aV,aV,<-hF.1];rfl
theorem dJ.aBH{t t':Tb}(h:dJ w S B iv y t)(r:Rel H nx iv B w O J)(I:fQ F (fun g=>Nw (Lv S B iv y) J F g/\¬Bv y2.dB g) y2 t')(D8:∀g,Bv y2.dB g->Bv y.dB g\/J.heap.size<=g):dJ F S B ((J.heap.size,F.heap.size)::iv) y2 t':=by
 have hm:∀p,p∈iv->p∈(J.heap.size,F.heap.size)::iv:=fun p hp=>aD _ hp;refine⟨I.cV (fun g V=>⟨?_,V.2⟩) fun g A V=>V.2 A,fun g V=>?_⟩
 .rcases V.1 with Y|Y
  .exact Y.1.mono hm
  .exact .inr ⟨by have:=r.cZ;omega,_,_,aF,Y.1,Y.2⟩
 .rcases D8 g V with Y|Y
  .exact(h.kz g Y).mono hm
  .exact .inr ⟨by have:=r.cZ;omega,_,_,aF,Y,I.low V⟩
theorem dJ.OT{w0:World}{t:Tb}(h:dJ w S w0.heap.size iv y t)(r:Rel H nx iv w0.heap.size w O J)(W:Old S w0):fQ J (fun g=>Nw S w0 J g/\¬Bv y.dB g) y t:=
 (h.rel r W).jK.cV (fun _ V=>⟨V.nw r,V.2⟩) fun g A U=>U.2 A
theorem dJ.more{t:Tb}(h:dJ w S B iv y t)(YI:∀g,S g->EQ g):dJ w EQ B iv y t:=
 ⟨h.jK.cV (fun g V=>⟨V.1.elim (fun h=>.inl (YI g h)) .inr,V.2⟩) fun g A V=>V.2 A,h.kz⟩
end
def Tb.xB(t:Tb)(i:Nat):Tb:={t with a:=t.a.mapIdx fun j r=>if j<i then r++[-1]else r}
theorem Tb.Kk{t:Tb}:t.xB 0=t:=by
 refine Tb.ext rfl rfl ?_ rfl rfl rfl;show List.mapIdx _ _=_;apply bA;intro j;rw[List.getElem?_mapIdx]
 cases t.a[j]? with
 |none=>rfl
 |some r=>rw[bU,aI (Nat.not_lt_zero j)]
theorem Tb.Jh{t:Tb}(N:i<t.a.length):(t.xB i).a.getD i []=t.a.getD i []:=by
 unfold Tb.xB;rw[iI [] [] N,aI (Nat.lt_irrefl i)]
theorem Tb.Gt{t:Tb}:(t.xB i).a.length=t.a.length:=List.length_mapIdx
theorem Tb.Kl{t:Tb}(N:i<t.a.length):{t.xB i with a:=(t.xB i).a.set i ((t.xB i).a.getD i []++[-1])}=t.xB (i+1):=by
 rw[Tb.Jh N];refine Tb.ext rfl rfl ?_ rfl rfl rfl;show List.set (List.mapIdx _ _) _ _=List.mapIdx _ _;apply bA;intro j;rw[List.getElem?_set,List.length_mapIdx,List.getElem?_mapIdx,List.getElem?_mapIdx];by_cases e:i=j
 .subst e;rw[aM rfl,aM N,aE N,bU,aM (cG i),List.getD,aE N];rfl
 .rw[aI e];congr 1
  funext r
  by_cases h:j<i
  .rw[aM h,aM be]
  .rw[aI h,aI be]
theorem Tb.Mr{t:Tb}:t.xB t.a.length={t with a:=t.a.map fun r=>r++[-1]}:=by
 refine Tb.ext rfl rfl ?_ rfl rfl rfl;show List.mapIdx _ _=List.map _ _;apply bA;intro j;rw[List.getElem?_mapIdx,aU]
 cases h:t.a[j]? with
 |none=>rfl
 |some r=>rw[bU,bU,aM (eU h)]
theorem rG{α:Type}{l:List α}{k:Nat}{q:α}(h:q∈l.eraseIdx k):q∈l:=(List.eraseIdx_sublist l k).subset h
theorem Tb.xW.del{t:Tb}{h:Nat}(H:t.xW h)(k:Nat):(t.del k).xW h:=
 ⟨fun x E q hq=>by
  obtain⟨y,hy,rfl⟩:=bE.1 E
  exact H.a y hy q (rG hq),H.b,fun q hq=>H.c q (rG hq),H.top⟩
theorem Tb.Wf.del{t:Tb}{m q k:Nat}(H:t.Wf m (q+1))(R:k<q+1):(t.del k).Wf m q:=
 ⟨H.bs,by show(List.eraseIdx _ _).length=_;rw[List.length_eraseIdx_of_lt (by rw[H.fs];exact R),H.fs];rfl,by show(List.map _ _).length=_;rw[aO];exact H.al,fun x E=>by
  obtain⟨y,hy,rfl⟩:=bE.1 E
  rw[List.length_eraseIdx_of_lt (by rw[H.aw y hy];exact R),H.aw y hy];rfl,H.b,by show(List.eraseIdx _ _).length=_;rw[List.length_eraseIdx_of_lt (by rw[H.c];exact R),H.c];rfl⟩
section
variable{t:Tb}{h m q n s k:Nat}
theorem tC{l:List Rat}{off:Nat}{idx:Nat->Nat}{val:Nat->Rat}(hl:∀q∈l,rl q+1<=h)(hv:∀i,rl (val i)+1<=h):∀k,∀q∈fK l n off idx val k,rl q+1<=h
 |0=>hl
 |k+1=>fun q hq=>by
  rw[fK]at hq;split at hq
  .rcases bQ hq with Y|Y
   .exact tC hl hv k q Y
   .rw[Y];exact hv k
  .exact tC hl hv k q hq
theorem tc(I:2<=h):∀q∈dx n,rl q+1<=h:=fun q hq=>by rw[aY hq];exact aR bv I
theorem Tb.xW.jv(H:t.xW h)(I:2<=h):∀q∈t.jv n,rl q+1<=h:=tC (tc I) (fun i=>H.Pg I i) _
theorem Tb.xW.j0(H:t.xW h)(I:2<=h):∀q∈t.j0 n k,rl q+1<=h:=tC (tc I) (fun i=>by rw[kj];exact H.cat I i) _
theorem Tb.xW.pJ(H:t.xW h)(I:2<=h):∀q∈t.pJ n s,rl q+1<=h:=tC (fun q hq=>by
 split at hq
 .rcases bQ hq with Y|Y
  .exact tc I q Y
  .rw[Y];exact aR bv I
 .exact tc I q hq) (fun i=>by rw[kj];exact H.dU I i s) _
theorem Km:(t.jv n).length=n:=(jC _ _ _ _ _ _).trans aj
theorem IF:(t.j0 n k).length=k:=(jC _ _ _ _ _ _).trans aj
theorem Kn:(t.pJ n s).length=n:=(jC _ _ _ _ _ _).trans (by split<;>simp[dx])
end
theorem IG{w:World}{b c:List Rat}{Fd Bz:Nat}(Ti:Old S w)(Qx:fQ w S x (Tb.begin Fn b c))(hA:iq c.length Fn)(A:b.length=Fn.length)(hm:Fn.length<=900)(U:c.length<=900)
  (hW:LS Fn.length c.length Bz (dU Fn) (fun i=>b.getD i 0) (fun j=>c.getD j 0) d) (hK:ln (fB Bz (Fn.length+1))<=Fd) (Y:1<=Fd) (hh:Fd<=90000):
  eL PG FS.j2 #[.pointer (some ⟨x.g,0,none⟩),iV c.length] w (fun e F=>∃v x' t',e= .returned v/\x'.g=x.g/\Kept w F (Bv x.dB)/\fQ F (fun g=>Nw (fun g=>S g\/Bv x.dB g) w F g/\¬Bv x'.dB g) x' t'/\(∀g,Bv x'.dB g->Bv x.dB g\/w.heap.size<=g)/\
   ((v=nls/\∃D,Rp t' D/\jZ D Fn.length c.length (dU Fn) (fun i=>b.getD i 0) (fun j=>c.getD j 0)/\D.uq/\∃F8,D.Sz Bz F8)\/
    (∃a q y,v= .slice (some a) Fn.length q/\eF F (Nw S w F) (Nw S w F) v y/\y.length=Fn.length/\(∀q∈y,rl q+1<=Fd+1)/\wJ Fn.length c.length (dU Fn) (fun i=>b.getD i 0) fun i=>y.getD i 0))):=by
 have W:=Ti;obtain⟨t0,ht0⟩:∃t0,t0=Tb.begin Fn b c:=⟨_,rfl⟩
 rw[<-ht0]at Qx;have Xa:=Rp.start hA A;rw[<-ht0]at Xa;have hWf:t0.Wf Fn.length c.length:=Xa.wf;have TE:=tW Fn.length c.length (dU Fn) (fun i=>b.getD i 0) fun j=>c.getD j 0;have hz0:=hW.szD;have hH:=Xa.HX (hz0.all TE hK);obtain⟨m,Vg⟩:∃m,m=Fn.length:=⟨_,rfl⟩
 obtain⟨n,Po⟩:∃n,n=c.length:=⟨_,rfl⟩
 rw[<-Vg,<-Po]at hWf;rw[<-Vg]at hm;rw[<-Po]at U;have hbt:t0.b=b:=by rw[ht0];rfl
 have Pw:=hWf.b;obtain⟨aB,cB,Vf,hcB,-,haB⟩:=Qx.hdB hWf;have hT:=dJ.arg Qx;have YI:∀g,S g->(fun g=>S g\/Bv x.dB g) g:=fun g V=>.inl V;have hUx:∀g,Bv x.dB g->(fun g=>S g\/Bv x.dB g) g:=fun g V=>.inr V;have hU:∀g,(fun g=>S g\/Bv x.dB g) g->g<w.heap.size:=fun g V=>V.elim (W g) fun h=>Qx.low h;generalize (fun g=>S g\/Bv x.dB g)=EQ at*
 have R:Kept w w (Bv x.dB):=Kept.refl;rw[<-Po,<-Vg];refine pV ce ?_;refine⟨_,fun O J r=>hT.f3 W Vf r,_,fun O J r=>hT.f3 W Vf r,Nat×World×Iv,fun z=>⟨[(0,.o (.v (.pointer (some ⟨x.g,0,none⟩)))),(1,.o (.v (iV (n:Int)))),(5,.o (.v (iV (m:Int)))),(6,iN (Aj b z.1)),(19,.o (.v (iV (m:Int)))),(20,.o (.v (iV (z.1:Int))))],[],0,z.2.2,z.2.1⟩,fun z=>m-z.1,fun z=>z.1<=m/\Kept w z.2.1 (Bv x.dB)/\dJ z.2.1 S w.heap.size z.2.2 x t0,?_,?_⟩
 .intro O J r;exact⟨(0,J,_),⟨ae _,Kept.cj r.cj R lr,hT.rel r W⟩,sbgn [] r⟩
 clear hT R;rintro⟨i,w1,iv⟩ ⟨N,R,hT⟩;dsimp only at N R hT ⊢;obtain⟨lo,Tv⟩:∃lo,lo=Aj b i:=⟨_,rfl⟩
 rw[<-Tv];apply bS<;>intro Pk
 .have Pk:=dL Pk;obtain⟨gB,rfl⟩:=haB be;have Qj:lo<m:=by
   rcases bH i with h|h
   .rw[Tv,h];show 0<m;omega
   .have:=(tZ b i).1 h;omega
  have l1:=hH.Pg be i;have l2:=hH.Pg be lo;obtain⟨p1,p2,p3,p4,p5,p6,p7,p8,Uj,hF⟩:=hT.eB W (j:=i) be Vf;obtain⟨q1,q2,q3,q4,q5,q6,q7,q8,hEq,hG⟩:=hT.eB W (j:=lo) be Vf;refine dP (idO 16) ?_;refine⟨_,fun O J r=>hT.f3 W Vf r,_,rfl,be,rC p1 p2 p3 p4 p5 p6 p7 p8,rfl,fun O J r j x E=>Uj r j x E,_,fun O J r=>hT.f3 W Vf r,_,rfl,be,rC q1 q2 q3 q4 q5 q6 q7 q8,rfl,fun O J r j x E=>hEq r j x E,?_⟩;refine cU (GT:=fun _ J v F=>v=iV (rs (t0.b.getD i 0-t0.b.getD lo 0))) (fun O J r=>vM (Lv.old r W) (hF.iC r W) (hG.iC r W) be be) ?_;rintro O QP v1 QL r L A rfl;clear hF;clear hG;replace hT:=hT.cS (K:=(QP.heap.size,QL.heap.size)::iv) r W L fun x E=>aD _ E;replace R:=Kept.cj A R lr;clear r L A;generalize (QP.heap.size,QL.heap.size)::iv=Pv at*
  apply bS<;>intro hc
  .have SX:b.getD i 0<b.getD lo 0:=by rw[<-hbt];exact iS.1 (aJ hc)
   have e:Aj b (i+1)=i:=by rw[Aj,<-Tv,aM SX]
   refine inc i ?_;intro I8 w3 r3;exact⟨(i+1,w3,_),⟨Pk,Kept.cj r3.cj R lr,hT.rel r3 W⟩,sbgn [] r3 (hE:=⟨rfl,rfl,rfl,by dsimp only;rw[e];rfl,rfl,rfl,trivial⟩),dec Pk⟩
  have SX:¬b.getD i 0<b.getD lo 0:=fun h=>by rw[<-hbt]at h;exact absurd (iS.2 h) (aL hc)
  have e:Aj b (i+1)=lo:=by rw[Aj,<-Tv,aI SX]
  refine inc i ?_;intro I8 w3 r3;exact⟨(i+1,w3,_),⟨Pk,Kept.cj r3.cj R lr,hT.rel r3 W⟩,sbgn [] r3 (hE:=⟨rfl,rfl,rfl,by dsimp only;rw[e];rfl,rfl,rfl,trivial⟩),dec Pk⟩
 have Pk:=dE N Pk;have Pq:=tZ b m;rw[<-Pk,<-Tv]at Pq;have Xh:∀k,k<m->b.getD lo 0<=b.getD k 0:=fun k R=>Pq.2 k be;rcases bH m with UR|UR
 .have hm0':(m:Int)=0:=by omega
  rw[hm0'];conv=>whnf
  intro GE we re;refine⟨_,x,t0,rfl,rfl,Kept.cj re.cj R lr,(hT.more YI).OT re hU,fun g A=>.inl A,.inl ⟨rfl,_,Xa,(by rw[Vg,Po];exact jZ.start),uv fun i N=>?_,_,hz0⟩⟩;omega
 have Tz:((m:Int)==0)=false:=by rw[beq_eq_false_iff_ne];omega
 obtain⟨gB,rfl⟩:=haB be;have Qj:lo<m:=by have:=Pq.1 be;omega
 obtain⟨q1,q2,q3,q4,q5,q6,q7,q8,hEq,hG⟩:=hT.eB W (j:=lo) be Vf;conv=>whnf
 rw[Tz];conv=>whnf
 refine⟨_,fun O J r=>hT.f3 W Vf r,_,rfl,be,rC q1 q2 q3 q4 q5 q6 q7 q8,rfl,fun O J r j x E=>hEq r j x E,?_⟩;refine cW (cU (GT:=fun _ J v F=>v=iV (rs (t0.b.getD lo 0))) (fun O J r=>jE (Lv.old r W) (hG.iC r W)) ?_);rintro O QP v1 QL r L A rfl;clear hG;replace hT:=hT.cS (K:=(QP.heap.size,QL.heap.size)::iv) r W L fun x E=>aD _ E;replace R:=Kept.cj A R lr;clear r L A;generalize (QP.heap.size,QL.heap.size)::iv=Pv at*
 apply bS<;>intro hc
 .have SX:¬b.getD lo 0<0:=fun h=>by
   have h4:rs (t0.b.getD lo 0-0)<0:=iS.2 (by rw[hbt];exact h);rw[show t0.b.getD lo 0-0=t0.b.getD lo 0 by grind]at h4;have h5:=aJ hc;omega
  intro GE we re;refine⟨_,x,t0,rfl,rfl,Kept.cj re.cj R lr,(hT.more YI).OT re hU,fun g A=>.inl A,.inl ⟨rfl,_,Xa,(by rw[Vg,Po];exact jZ.start),uv fun i N=>?_,_,hz0⟩⟩;exact Rat.le_trans (Rat.not_lt.1 SX) (Pq.2 i be)
 have SX:b.getD lo 0<0:=by
  have h5:¬rs (t0.b.getD lo 0)≥0:=aL hc;have h4:rs (t0.b.getD lo 0-0)<0:=by rw[show t0.b.getD lo 0-0=t0.b.getD lo 0 by grind];omega
  rw[<-hbt];exact iS.1 h4
 obtain⟨ac,cc,Yi,Vd,-,-⟩:=Qx.hdc hWf;clear Pk Pq N;refine Bh (fun l0 l H nx iv w1=>l=l0/\H=[]/\nx=0/\Kept w w1 (Bv x.dB)/\dJ w1 S w.heap.size iv x t0) ?_ ?_
 .intro K0 Rg;conv=>whnf
  exact Rg _ _ _ _ _ ⟨rfl,rfl,rfl,R,hT⟩
 clear hT R;rintro l H nx Pv w1 ⟨rfl,rfl,rfl,R,hT⟩;refine lZ (fun l0 l H nx iv w1=>∃(b57 b56 b55 b54:SV),l=(8,sV ac n cc)::(57,b57)::(56,b56)::(55,b55)::(54,b54)::l0/\H=[]/\nx=0/\Kept w w1 (Bv x.dB)/\dJ w1 S w.heap.size iv x t0) ?_ ?_
 .intro K0 Rg;refine⟨_,fun O J r=>hT.f4 W Yi r,?_⟩;conv=>whnf
  exact Rg _ _ _ _ _ ⟨_,_,_,_,rfl,rfl,rfl,R,hT⟩
 clear hT R;rintro l H nx Pv w1 ⟨b57,b56,b55,b54,rfl,rfl,rfl,R,hT⟩;refine lZ (fun l0 l H nx iv w1=>∃(b65 b64 b63 b62 b61 b60 b59 b58:SV) (bx:ja) (y:Tx),l=(65,b65)::(64,b64)::(63,b63)::(62,b62)::(61,b61)::(60,b60)::(59,b59)::(58,b58)::l0/\H=[(0,bx)]/\nx=1/\Kept w w1 (Bv x.dB)/\dJ w1 S w.heap.size iv y {t0 with c:=dx n++[-1]}/\eF w1 (Lv EQ w.heap.size iv y) (Lv EQ w.heap.size iv y) x.vc c/\(∀g,Bv y.dB g->Bv x.dB g\/w.heap.size<=g)/\y.g=x.g/\y.vf=x.vf/\y.va=x.va/\y.rv=x.rv) ?_ ?_
 .intro K0 Rg;refine cW (cU (GT:=fun _ J v F=>eu F FF J.heap.size [(J.heap.size,F.heap.size)] v n (List.replicate n 0)) (fun O J r=>jh n J be) ?_);rintro O wa v1 wb r L Pw hX;have hN:∀g,Lv S w.heap.size Pv x g\/Bv x.dB g->g<wa.heap.size:=fun g V=>V.elim (fun h=>Lv.old r W g h) fun h=>hT.low r h;have hBN:w.heap.size<=wa.heap.size:=r.cZ;replace hT:=hT.cS (K:=Pv) r W L fun p hp=>hp;replace R:=Kept.cj Pw R lr;have sz1:=L.size;clear r L Pw;refine cW (cU (GT:=fun _ J v F=>cz F (Nf J F) v ((-1:Int):Rat)) (fun O J r=>iX (-1) J bv bv) ?_);rintro O wc v2 wd r L Pw hO;replace hT:=hT.cS (K:=Pv) (r.less fun p hp=>aD _ hp) W L fun p hp=>hp;replace hX:=hX.later hBN ce r L;replace R:=Kept.cj Pw R lr;have sz2:=r.size;have sz3:=L.size;clear r L Pw;obtain⟨k1,k2,k3,k4,k5,k6,k7,k8,rfl⟩:=hO.shape;rw[show ((-1:Int):Rat)= -1 by decide]at hO;obtain⟨iv2,YJ⟩:∃iv2,iv2=(wc.heap.size,wd.heap.size)::(wa.heap.size,wb.heap.size)::Pv:=⟨_,rfl⟩
  have q1:(wa.heap.size,wb.heap.size)∈iv2:=by rw[YJ];simp
  have q2:(wc.heap.size,wd.heap.size)∈iv2:=by rw[YJ];simp
  have q3:∀p,p∈Pv->p∈iv2:=fun p hp=>by rw[YJ];simp[hp]
  rw[<-YJ];clear YJ;obtain⟨Z,TJ,RB,VJ⟩:=hX.row;have hvn:∀g,v1.ownBlock=some g->wa.heap.size<=g/\g<wb.heap.size:=fun g V=>ek (hX.new g V);have hvc2:∀g,v1.ownBlock=some g->Cf w iv2 g:=fun g V=>.inr ⟨by have:=hvn g V;omega,_,_,q1,(hvn g V).1,(hvn g V).2⟩;clear hX;have Xb:Fr wd (fun g=>wa.heap.size<=g/\g<wb.heap.size/\v1.ownBlock≠some g) Z (List.replicate n 0):=VJ.cV fun g V=>⟨(ek V.1).1,(ek V.1).2,V.2⟩
  have TK:cz wd (fun g=>wc.heap.size<=g/\g<wd.heap.size) _ (-1):=hO.cV fun g V=>V.elim (fun h=>h.elim) id;conv=>whnf
  refine .inr (iP hτ (ae _) (xs:=Z.flatten) (news:=rC k1 k2 k3 k4 k5 k6 k7 k8) (m:=n) (k:=1) d8 d8 bv d8 d8 (fun O J r=>⟨ownsRow.cX TJ fun g V=>rls r (iw _) (hvc2 g V),fun g V=>Rel.not r (iw _) (hvc2 g V)⟩) rfl (by simp;exact⟨rfl,rfl,rfl,rfl⟩) mx be
   (fun O J r=>?_) (fun v' F=>en v'++iv2) (fun O J v' F r QK S0=>ta r (fun g V=>Rel.not r (iw _) (hvc2 g V)) QK S0) (fun O J v' F r h5 h6 h7=>?_))
  .exact(fe.Kd (r.kJ (id:=0) (sz:=4) (n:=1) rfl rfl bv (by simp;exact⟨rfl,rfl,rfl,rfl⟩)) bv).imp id fun⟨ad,c,e1,e2⟩=>⟨ad,c,e1,fun j u hu=>(e2 j u hu).2⟩
  obtain⟨hP,hbel,Pz,hR⟩:=hT.aBb r W YI hUx hN hBN be Xb RB hvn TK be be q1 q2 q3 h5 h6 h7;obtain⟨a2,c2,rfl,-⟩:=ef h5;replace R:=Kept.cj hbel (Kept.cj r.cj R lr) hBN;replace Pz:∀g,Bv (Tx.dB {x with vc:=.slice a2 (n+1) c2}) g->Bv x.dB g\/w.heap.size<=g:=fun g V=>(Pz g V).imp id fun h=>aR hBN h;rw[show t0.c=c by rw[ht0];rfl]at hR;clear hT h5 h6 h7 r hbel TJ VJ Xb TK hO;generalize en (.slice a2 (n+1) c2)++iv2=Pu at*
  conv=>whnf
  intro I8 w3 r3;have hs:=hP.Er r3 W (k:=4) bv (v:=.slice a2 (n+1) c2) (ad:=Addr.add ⟨x.g,0,none⟩ 4) (by rw[dF,aS]);refine⟨hs.spot,hs.cells,hs.own,fun w4 QG=>?_⟩;obtain⟨SK,Q3,-⟩:=hs.next w4 QG
  have hT:=SK.toO rfl rfl;replace hR:=hR.pg r3 hU Q3 (fun g V=>.inl V) fun p hp=>hp;replace R:=Kept.gz (Kept.cj r3.cj R lr) Q3 fun g V A=>(Pz g A).elim id fun h=>by omega
  clear hs SK Q3 QG r3 hP;conv=>whnf
  exact Rg _ _ _ _ _ ⟨_,_,_,_,_,_,_,_,_,{x with vc:=.slice a2 (n+1) c2},rfl,rfl,rfl,R,hT,hR,Pz,rfl,rfl,rfl,rfl⟩
 clear hT R;rintro l H nx iv w1 ⟨b65,b64,b63,b62,b61,b60,b59,b58,bx,y,rfl,rfl,rfl,R,hT,hR,Pz,RY,hyf,R6,XZ⟩;obtain⟨fs,Yt⟩:∃fs,fs=t0.fs:=⟨_,rfl⟩
 have Qp:fs.length=n:=by rw[Yt];exact hWf.fs
 refine lZ (fun l0 l H nx iv w1=>∃(b77 b76 b75 b74 b73 b72 b71 b70 b69 b68 b67 b66:SV) (bx2:ja) (y2:Tx),l=(77,b77)::(76,b76)::(75,b75)::(74,b74)::(73,b73)::(72,b72)::(71,b71)::(70,b70)::(69,b69)::(68,b68)::(67,b67)::(66,b66)::l0/\H=[(1,bx2),(0,bx)]/\nx=2/\Kept w w1 (Bv x.dB)/\dJ w1 S w.heap.size iv y2 ⟨t0.bs,fs++[n+m],t0.a,t0.b,dx n++[-1],t0.top⟩/\eF w1 (Lv EQ w.heap.size iv y2) (Lv EQ w.heap.size iv y2) x.vc c/\(∀g,Bv y2.dB g->Bv x.dB g\/w.heap.size<=g)/\y2.g=x.g/\y2.va=x.va/\y2.rv=x.rv) ?_ ?_
 .intro K0 Rg;refine⟨y.vf,fun O J r=>by have h:=hT.f1 W rfl r;rw[RY]at h;exact h,((n+m:Nat):Int),wo,?_⟩;rw[Yt]at Qp;conv=>whnf
  refine .inr (iP hτ (ae _) (xs:=ints t0.fs) (news:=[iV ((n+m:Nat):Int)]) (m:=t0.fs.length) (k:=1) d8 d8 bv d8 d8 (fun O J r=>hT.OQ r W) rfl (by simp;rfl) mx be
   (fun O J r=>?_) (fun v' F=>en v'++iv) (fun O J v' F r QK S0=>ta r (hT.OQ r W).2 QK S0) (fun O J v' F r h5 h6 h7=>?_))
  .exact(fe.Kd (r.kJ (id:=1) (sz:=1) (n:=1) rfl rfl bv (by simp;rfl)) bv).imp id fun⟨ad,c,e1,e2⟩=>⟨ad,c,e1,fun j u hu=>(e2 j u hu).2⟩
  obtain⟨a2,c2,rfl,-⟩:=ef h5;rw[xo]at h5;have hG:=hT.PK r W (l:=t0.fs++[n+m]) (by rw[aV];exact h5) h6 h7;replace R:=Kept.gz (Kept.cj r.cj R lr) hG.kept fun g V A=>(Pz g A).elim id fun h=>by omega
  replace hR:=hR.pg r hU hG.kept hG.D8 (iv2:=en (.slice a2 (t0.fs.length+1) c2)++iv) fun p hp=>List.mem_append_right _ hp;replace Pz:∀g,Bv (Tx.dB {y with vf:=.slice a2 (t0.fs.length+1) c2}) g->Bv x.dB g\/w.heap.size<=g:=fun g V=>(hG.D8 g V).elim (Pz g) fun h=>.inr (aR r.cZ h);have hP:=hG.jK;clear hG h5 h6 h7 r hT;generalize en (.slice a2 (t0.fs.length+1) c2)++iv=Pu at*
  conv=>whnf
  intro I8 w3 r3;have hs:=hP.Er r3 W (k:=1) bv (v:=.slice a2 (t0.fs.length+1) c2) (ad:=Addr.add ⟨x.g,0,none⟩ 1) (by rw[dF,aS,RY]);refine⟨hs.spot,hs.cells,hs.own,fun w4 QG=>?_⟩;obtain⟨SK,Q3,-⟩:=hs.next w4 QG
  have hT:=SK.toO rfl rfl;replace hR:=hR.pg r3 hU Q3 (fun g V=>.inl V) fun p hp=>hp;replace R:=Kept.gz (Kept.cj r3.cj R lr) Q3 fun g V A=>(Pz g A).elim id fun h=>by omega
  clear hs SK Q3 QG r3 hP;conv=>whnf
  exact Rg _ _ _ _ _ ⟨_,_,_,_,_,_,_,_,_,_,_,_,_,{y with vf:=.slice a2 (t0.fs.length+1) c2},rfl,rfl,rfl,R,hT.cast (by rw[Yt]),hR,Pz,RY,R6,XZ⟩
 clear hT R hR Pz RY hyf R6 XZ;rintro l H nx iv w1 ⟨b77,b76,b75,b74,b73,b72,b71,b70,b69,b68,b67,b66,bx2,y2,rfl,rfl,rfl,R,hT,hR,Pz,Vh,ZL,hyr2⟩;obtain⟨aa,ca,hxa,Qi,-,haa⟩:=Qx.hda hWf;obtain⟨ga,rfl⟩:=haa be;rw[hxa]at ZL;obtain⟨t1,Zp⟩:∃t1:Tb,t1=⟨t0.bs,fs++[n+m],t0.a,t0.b,dx n++[-1],t0.top⟩:=⟨_,rfl⟩
 rw[<-Zp]at hT;have Tl:t1.a.length=m:=by rw[Zp];exact hWf.al
 have haw:∀i,i<m->(t1.a.getD i []).length=n:=fun i N=>by rw[Zp];exact hWf.row N
 refine lZ (fun _ l H nx iv w1=>∃(b84 b82 b83:SV) (y:Tx),l=(84,b84)::[(0,.o (.v (.pointer (some ⟨y.g,0,none⟩)))),(1,.o (.v (iV (n:Int)))),(5,.o (.v (iV (m:Int)))),(6,.o (.v (iV (lo:Int)))),(8,sV ac n cc),(82,b82),(83,b83)]/\H=[]/\nx=2/\Kept w w1 (Bv x.dB)/\dJ w1 S w.heap.size iv y (t1.xB m)/\eF w1 (Lv EQ w.heap.size iv y) (Lv EQ w.heap.size iv y) x.vc c/\(∀g,Bv (Tx.dB y) g->Bv x.dB g\/w.heap.size<=g)/\Tx.g y=x.g/\Tx.va y= .slice (some ⟨ga,0,none⟩) m ca) ?_ ?_
 .intro K0 Rg;refine⟨.slice (some ⟨ga,0,none⟩) m ca,fun O J r=>by have h:=hT.f2 W ZL r;rw[Vh]at h;exact h,Nat×Tx×World×Iv,fun z=>⟨[(0,.o (.v (.pointer (some ⟨x.g,0,none⟩)))),(1,.o (.v (iV (n:Int)))),(5,.o (.v (iV (m:Int)))),(6,.o (.v (iV (lo:Int)))),(8,sV ac n cc),(82,.o (.v (iV (m:Int)))),(83,.o (.v (iV (z.1:Int))))],[],2,z.2.2.2,z.2.2.1⟩,fun z=>m-z.1,fun z=>z.1<=m/\Kept w z.2.2.1 (Bv x.dB)/\dJ z.2.2.1 S w.heap.size z.2.2.2 z.2.1 (t1.xB z.1)/\eF z.2.2.1 (Lv EQ w.heap.size z.2.2.2 z.2.1) (Lv EQ w.heap.size z.2.2.2 z.2.1) x.vc c/\(∀g,Bv (Tx.dB z.2.1) g->Bv x.dB g\/w.heap.size<=g)/\Tx.g z.2.1=x.g/\Tx.va z.2.1= .slice (some ⟨ga,0,none⟩) m ca,?_,?_⟩
  .intro O J r;exact⟨(0,y2,J,_),⟨ae _,Kept.cj r.cj R lr,(hT.rel r W).cast Tb.Kk.symm,hR.pg r hU Kept.refl (fun g V=>.inl V) (fun p hp=>hp),Pz,Vh,ZL⟩,sbgn [] r⟩
  clear hT R hR Pz Vh ZL hyr2;rintro⟨i,y,w1,iv⟩ ⟨N,R,hT,hR,Pz,RY,R6⟩;dsimp only at N R hT hR Pz RY R6 ⊢;apply bS<;>intro Pk
  .have Pk:=dL Pk;obtain⟨v0,-,hv0,-⟩:=hT.aBG W (i:=i) (by rw[Tb.Gt];omega);refine vO (fun l0 l H nx iv w1=>∃(b101 b100 b99 b98 b97 b96 b94 b89 b95 b93 b92 b91 b90 b88 b87 b86:SV) (bx:ja) (y:Tx),l=(101,b101)::(100,b100)::(99,b99)::(98,b98)::(97,b97)::(96,b96)::(94,b94)::(89,b89)::(95,b95)::(93,b93)::(92,b92)::(91,b91)::(90,b90)::(88,b88)::(87,b87)::(86,b86)::l0/\H=[(2,bx)]/\nx=3/\Kept w w1 (Bv x.dB)/\dJ w1 S w.heap.size iv y (t1.xB (i+1))/\eF w1 (Lv EQ w.heap.size iv y) (Lv EQ w.heap.size iv y) x.vc c/\(∀g,Bv (Tx.dB y) g->Bv x.dB g\/w.heap.size<=g)/\Tx.g y=x.g/\Tx.va y= .slice (some ⟨ga,0,none⟩) m ca) ?_ ?_
   .intro K0 Rg;refine oa hτ uw (.x 0 (.x 1 (.x 2 (.x 4 (.x 5 (.x 6 (.x 7 (.x 9 (.ld 3 98304 (.ld 8 117760 (.x 10 (.ld 11 114688 (.x 12 (.x 13 (.x 14 (.x 15 (.x 16 .nil))))))))))))))))) d9 d9 ?_;refine⟨.slice (some ⟨ga,0,none⟩) m ca,fun O J r=>by have h:=hT.f2 W R6 r;rw[RY]at h;exact h,.slice (some ⟨ga,0,none⟩) m ca,fun O J r=>by have h:=hT.f2 W R6 r;rw[RY]at h;exact h,_,rfl,be,_,fun O J r=>hT.cA W hv0 R6 r,?_⟩;refine cU (GT:=fun _ J v F=>cz F (Nf J F) v ((-1:Int):Rat)) (fun O J r=>iX (-1) J bv bv) ?_;rintro O wc v2 wd r L Pw hO;replace hO:=hO.vL hT r;replace hR:=hR.pg (iv2:=(wc.heap.size,wd.heap.size)::iv) r hU (Gs L) (fun g V=>.inl V) fun p hp=>aD _ hp;replace hT:=hT.cS (K:=(wc.heap.size,wd.heap.size)::iv) r W L fun p hp=>aD _ hp;replace R:=Kept.cj Pw R lr;clear r L Pw;generalize (wc.heap.size,wd.heap.size)::iv=iv2 at*
    obtain⟨k1,k2,k3,k4,k5,k6,k7,k8,rfl⟩:=hO.shape;rw[show ((-1:Int):Rat)= -1 by decide]at hO;refine⟨_,fun O J r=>hT.cA W hv0 R6 r,rfl,.slice (some ⟨ga,0,none⟩) m ca,fun O J r=>by have h:=hT.f2 W R6 r;rw[RY]at h;exact h,rfl,.slice (some ⟨ga,0,none⟩) m ca,fun O J r=>by have h:=hT.f2 W R6 r;rw[RY]at h;exact h,rfl,_,fun O J r=>hT.cA W hv0 R6 r,rfl,.slice (some ⟨ga,0,none⟩) m ca,fun O J r=>by have h:=hT.f2 W R6 r;rw[RY]at h;exact h,rfl,.slice (some ⟨ga,0,none⟩) m ca,fun O J r=>by have h:=hT.f2 W R6 r;rw[RY]at h;exact h,rfl,?_⟩;obtain⟨v1,Z,Tc,Qg,hFr,VT,R8⟩:=hT.aBG W (i:=i) (by rw[Tb.Gt];omega);rw[hv0]at Tc;injection Tc with Tc;subst Tc;have QO:((t1.xB i).a.getD i []).length=n:=by rw[Tb.Jh be];exact haw i Pk
    rw[QO]at Qg;conv=>whnf
    refine .inr (iP hτ (ae _) (xs:=Z.flatten) (news:=rC k1 k2 k3 k4 k5 k6 k7 k8) (m:=Z.length) (k:=1) d8 d8 bv d8 d8 (fun O J r=>R8 r) rfl (by simp;exact⟨rfl,rfl,rfl,rfl⟩) mx be
     (fun O J r=>?_) (fun v' F=>en v'++iv2) (fun O J v' F r QK S0=>ta r (R8 r).2 QK S0) (fun O J v' F r h5 h6 h7=>?_))
    .exact(fe.Kd (r.kJ (id:=2) (sz:=4) (n:=1) rfl rfl bv (by simp;exact⟨rfl,rfl,rfl,rfl⟩)) bv).imp id fun⟨ad,c,e1,e2⟩=>⟨ad,c,e1,fun j u hu=>(e2 j u hu).2⟩
    obtain⟨a2,c2,rfl,-⟩:=ef h5;have hG:=hT.aAN r W hv0 hFr VT hO h5 h6 h7;replace R:=Kept.gz (Kept.cj r.cj R lr) hG.kept fun g V A=>(Pz g A).elim id fun h=>by omega
    replace hR:=hR.pg r hU hG.kept hG.D8 (iv2:=en (.slice a2 (Z.length+1) c2)++iv2) fun p hp=>List.mem_append_right _ hp;obtain⟨y2,RR⟩:∃y2:Tx,y2={y with rv:=y.rv.set i (.slice a2 (Z.length+1) c2)}:=⟨_,rfl⟩
    have hP:=hG.jK;have Uo:=hG.D8;rw[<-RR]at hP Uo hR;replace Pz:∀g,Bv y2.dB g->Bv x.dB g\/w.heap.size<=g:=fun g V=>(Uo g V).elim (Pz g) fun h=>.inr (aR r.cZ h);clear hG h5 h6 h7 r hT R8 hO hFr VT Uo;generalize en (.slice a2 (Z.length+1) c2)++iv2=Pu at*
    have RF:y2.g=x.g:=by rw[RR];exact RY
    have Qm:y2.va= .slice (some ⟨ga,0,none⟩) m ca:=by rw[RR];exact R6
    refine⟨.slice (some ⟨ga,0,none⟩) m ca,fun O J r=>by have h:=hP.OO W (k:=2) (show y.hd[2]? =some (.slice (some ⟨ga,0,none⟩) m ca)from congrArg some R6) r;rw[RF]at h;exact h,rfl,_,rfl,be,?_⟩;intro I8 w3 r3;have hs:=hP.Mm r3 W (i:=i) (v:=.slice a2 (Z.length+1) c2) (eU hv0) Qm (ad:=Addr.add ⟨ga,0,none⟩ (((i:Nat):Int).toNat*1)) (by rw[aK,dF,aS]);refine⟨hs.spot,hs.cells,hs.own,fun w4 QG=>?_⟩;obtain⟨SK,Q3,-⟩:=hs.next w4 QG
    have hT:=(SK.toO (by rw[RR];rfl) (by rw[RR])).cast (Tb.Kl be);replace hR:=hR.pg r3 hU Q3 (fun g V=>.inl V) fun p hp=>hp;replace R:=Kept.gz (Kept.cj r3.cj R lr) Q3 fun g V A=>(Pz g A).elim id fun h=>by omega
    clear hs SK Q3 QG r3 hP;exact Rg _ _ _ _ _ ⟨_,_,_,_,_,_,_,_,_,_,_,_,_,_,_,_,_,y2,rfl,rfl,rfl,R,hT,hR,Pz,RF,Qm⟩
   clear hT R hR Pz RY R6;rintro l H nx iv2 F ⟨b101,b100,b99,b98,b97,b96,b94,b89,b95,b93,b92,b91,b90,b88,b87,b86,bx3,y2,rfl,rfl,rfl,R,hT,hR,Pz,RY,R6⟩;refine inc i ?_;intro I8 w3 r3;exact⟨(i+1,y2,w3,_),⟨Pk,Kept.cj r3.cj R lr,hT.rel r3 W,hR.pg r3 hU Kept.refl (fun g V=>.inl V) (fun p hp=>hp),Pz,RY,R6⟩,sbgn [] r3,dec Pk⟩
  have Pk:=dE N Pk;rw[Pk]at hT;conv=>whnf
  rw[<-RY];exact Rg _ _ _ _ _ ⟨_,_,_,y,rfl,rfl,rfl,R,hT,hR,Pz,RY,R6⟩
 rintro l H nx iv w1 ⟨b84,b82,b83,y,rfl,rfl,rfl,R,hT,hR,Pz,RY,R6⟩;replace hT:=hT.cast (show t1.xB m=Tb.Hm Fn b c by rw[<-Tl,Tb.Mr,Zp,Yt,ht0,Po,Vg];rfl);have hRa:=Rp.Hm (c:=c) hA A;rw[<-Vg,<-Po]at hRa;have hza:=hW.szA;rw[<-Vg,<-Po]at hza;have hWa:=hRa.wf;have hka:=tX m n (dU Fn) fun i=>b.getD i 0;have hHa:=hRa.HX (hza.all hka (Fd:=Fd) (by show ln (fB Bz (m+1))<=Fd;rw[Vg];exact hK));have hnq:n<(eI m n (dU Fn) fun i=>b.getD i 0).q:=cG n;have hpv:(eI m n (dU Fn) fun i=>b.getD i 0).a lo n≠0:=by
  show(if n<n then dU Fn lo n else -1)≠0;rw[aI (Nat.lt_irrefl n)];decide
 have hpt:dU (Tb.Hm Fn b c).a lo n≠0:=by rw[show dU (Tb.Hm Fn b c).a lo n=_ from hRa.ea lo n Qj hnq];exact hpv
 have hS1:=(fq.start (m:=m) (n:=n) (Fn:=dU Fn) (b:=fun i=>b.getD i 0)).gZ (r:=lo) (s:=n) Qj hnq hpv;have hf1:=Af (Fn:=dU Fn) (n:=n) (b:=fun i=>b.getD i 0) Qj Xh (Rat.le_of_lt SX);have Vi:=hRa.gZ (r:=lo) (s:=n) Qj hnq;have Uz:=hza.gZ hka (r:=lo) (s:=n) Qj hnq hpv;clear Tl haw Zp Yt Qp;refine lZ (fun l0 l H nx iv w1=>∃(b106 b105 b104 b103:SV),l=(106,b106)::(105,b105)::(104,b104)::(103,b103)::l0/\H=[]/\nx=2/\Kept w w1 (Bv x.dB)/\dJ w1 S w.heap.size iv y ((Tb.Hm Fn b c).gZ lo n)/\eF w1 (Lv EQ w.heap.size iv y) (Lv EQ w.heap.size iv y) x.vc c) ?_ ?_
 .intro K0 Rg;conv=>whnf
  refine⟨fun O J r=>?_⟩;refine(Eo (u:=lo) (s:=n) (Lv.old r W) (hT.rel r W).jK hWa Qj (cG n) hpt (by show m<=1000;omega) (by show n+1<=1000;omega) hHa be be).mono fun e w8 L=>?_;obtain⟨rfl,RD,Qr⟩:=L;refine⟨.tuple #[],_,(J.heap.size,w8.heap.size)::iv,rfl,r.gJ (hT.not r) RD,?_⟩;replace hR:=hR.pg (iv2:=(J.heap.size,w8.heap.size)::iv) r hU RD (fun g V=>.inl V) fun p hp=>aD _ hp;replace Qr:=hT.ep r Qr;replace R:=Kept.gz (Kept.cj r.cj R lr) RD fun g V A=>(Pz g A).elim id fun h=>by omega
  clear hT RD;have hT:=Qr;clear Qr r;generalize (J.heap.size,w8.heap.size)::iv=QD at*
  conv=>whnf
  exact Rg _ _ _ _ _ ⟨_,_,_,_,rfl,rfl,rfl,R,hT,hR⟩
 clear hT R hR;rintro l H nx iv w1 ⟨b106,b105,b104,b103,rfl,rfl,rfl,R,hT,hR⟩;refine lZ (fun l0 l H nx iv w1=>∃(b108 b107:SV) (t2:Tb) (D:Dc) (k:Nat) (j:Option Nat),l=(108,b108)::(107,b107)::l0/\H=[]/\nx=2/\Kept w w1 (Bv x.dB)/\dJ w1 S w.heap.size iv y t2/\eF w1 (Lv EQ w.heap.size iv y) (Lv EQ w.heap.size iv y) x.vc c/\Hw ((eI m n (dU Fn) fun i=>b.getD i 0).gZ lo n) Bz (fun i t=>dA m d i*(eI m n (dU Fn) fun i=>b.getD i 0).ext i t) k D t2/\K1 t2 j) ?_ ?_
 .intro K0 Rg;conv=>whnf
  refine⟨fun O J r=>?_⟩;refine(Jd (Lv.old r W) (hT.rel r W).jK hS1.ok hf1 Vi Uz (by show m<=1000;omega) (by show n+1<=1000;omega) (by show ln (fB Bz (m+1))<=Fd;rw[Vg];exact hK) Y be).mono fun e w8 L=>?_;obtain⟨t2,D,k,j,rfl,RD,Qr,hC,hD⟩:=L;refine⟨iV (rT j),_,(J.heap.size,w8.heap.size)::iv,rfl,r.gJ (hT.not r) RD,?_⟩;replace hR:=hR.pg (iv2:=(J.heap.size,w8.heap.size)::iv) r hU RD (fun g V=>.inl V) fun p hp=>aD _ hp;replace Qr:=hT.ep r Qr;replace R:=Kept.gz (Kept.cj r.cj R lr) RD fun g V A=>(Pz g A).elim id fun h=>by omega
  clear hT RD;have hT:=Qr;clear Qr r;generalize (J.heap.size,w8.heap.size)::iv=QD at*
  conv=>whnf
  exact Rg _ _ _ _ _ ⟨_,_,t2,D,k,j,rfl,rfl,rfl,R,hT,hR,hC,hD⟩
 clear hT R hR;rintro l H nx iv w1 ⟨b108,b107,t2,D,k,j,rfl,rfl,rfl,R,hT,hR,hC,hD⟩;have hCf:=hC.facts;obtain⟨f1,f2,f3,f4,f5,-⟩:=hCf;have hSD:fq D m n (dU Fn) fun i=>b.getD i 0:=⟨f1,f3.trans hS1.em,f4.trans hS1.eq,fun x z=>(f5 x z).trans (hS1.GI x z)⟩
 have TH:∀j,j<D.q->¬0<D.c j:=by
  have h3:=K1.end_ hC.rp hD
  cases j with
  |none=>exact h3
  |some s=>exact(hSD.bounded f2 h3.1 h3.2.1 h3.2.2).elim
 have hW2:t2.Wf m (n+1):=by
  have:=hC.rp.wf;rw[hSD.em,hSD.eq]at this;exact this
 have WY:=hC.rp.HX (hC.sz.all f1 (Fd:=Fd) (by rw[hSD.em,Vg];exact hK));have Ro:=hC.sz;have S6:=hC.rp;have WW:=S6.et;clear hD f3 f4 f5 hC;obtain⟨t1,t2',t3,t4,t5,t6,t7,t8,ZJ,hY⟩:=hT.ldT W;conv=>whnf
 refine⟨rC t1 t2' t3 t4 t5 t6 t7 t8,rfl,fun O J r k u hu=>ZJ r k u hu,?_⟩;refine cW (cU (GT:=fun _ J v F=>v=iV (rs t2.top)) (fun O J r=>jE (Lv.old r W) (hY.iC r W)) ?_);rintro O wa v1 wb r L Pw rfl;replace hR:=hR.pg (iv2:=(wa.heap.size,wb.heap.size)::iv) r hU (Gs L) (fun g V=>.inl V) fun p hp=>aD _ hp;replace hT:=hT.cS (K:=(wa.heap.size,wb.heap.size)::iv) r W L fun p hp=>aD _ hp;replace R:=Kept.cj Pw R lr;clear r L Pw ZJ hY;generalize (wa.heap.size,wb.heap.size)::iv=QH at*
 apply bS<;>intro Yk
 .have ht0':D.top<0:=by rw[<-WW];exact j5.1 (aJ Yk)
  refine cW (cU (GT:=fun _ J v F=>eF F (Nw (Lv S w.heap.size QH y) J F) (Nw (Lv S w.heap.size QH y) J F) v (t2.j0 n m)) (fun O J r=>Gi (Lv.old r W) (hT.rel r W).jK hW2 be be be) ?_);rintro O wa v1 wb r L Pw Ss;have QQ:(t2.j0 n m).length=m:=(jC _ _ _ _ _ _).trans aj;have YK:∀g,Nw (Lv S w.heap.size QH y) wa wb g->Cv S w.heap.size ((wa.heap.size,wb.heap.size)::QH) g:=fun g V=>V.elim (fun h=>h.1.mono fun p hp=>aD _ hp) fun h=>.inr ⟨by have:=r.cZ;omega,_,_,aF,h.1,h.2⟩;replace Ss:=Ss.cV YK YK;replace hT:=hT.cS (K:=(wa.heap.size,wb.heap.size)::QH) r W L fun p hp=>aD _ hp;replace R:=Kept.cj Pw R lr;clear r L Pw YK;generalize (wa.heap.size,wb.heap.size)::QH=Qe at*
  obtain⟨ap,cp,rfl,-⟩:=Ss.shape;obtain⟨ad,fcs,rfl,-,-⟩:=Ss.load (j:=0) (aE (by rw[QQ];exact UR));conv=>whnf
  intro GE we re;obtain⟨n1,n2,n3⟩:=hSD.none TH;have hpr:∀i,i<m->(t2.j0 n m).getD i 0= -(D.mY (n+i)):=fun i N=>S6.DN f1 N;refine⟨_,y,t2,rfl,RY,Kept.cj re.cj R lr,(hT.more YI).OT re hU,Pz,.inr ⟨ad,cp,t2.j0 n m,?_,?_,?_,WY.j0 be,?_⟩⟩
  .rw[QQ,Vg];rfl
  .exact(Ss.cX fun g V=>rls re W (V.elim id id)).cV (fun g V=>Cv.nw V re) fun g V=>Cv.nw V re
  .rw[QQ,Vg]
  .refine⟨fun i N=>by dsimp only;rw[hpr i N];exact n1 i,?_,fun j hj=>?_⟩
   .rw[cY (g:=fun i=> -(D.mY (n+i))*b.getD i 0) fun i N=>by dsimp only;rw[hpr i N],n2];exact ht0'
   .rw[cY (g:=fun i=> -(D.mY (n+i))*dU Fn i j) fun i N=>by dsimp only;rw[hpr i N]];exact n3 j hj
 have ht0':¬D.top<0:=fun h=>by rw[<-WW]at h;exact aL Yk (j5.2 h)
 obtain⟨t3',D1,kk,ph1,ph2,ph3,ph4,ph5,ph6,ph7,ph8⟩:=Kj hSD f2 S6 ht0' Ro;have hW3:t3'.Wf m (n+1):=by
  have:=ph2.wf;rw[ph3.em,ph3.eq]at this;exact this
 have hH3:=(ph2.HX (ph5.all ph3.ok (Fd:=Fd) (by rw[ph3.em,Vg];exact hK))).del kk;have hW4:=hW3.del ph7;have Qg:∀q∈c,rl q+1<=Fd+1:=fun q hq=>by
  obtain⟨i,N,rfl⟩:=sH (d:=0) hq;have:rl (c.getD i 0)<=Fd:=(hz0.all TE hK).2.2.1 i N;omega
 conv=>whnf
 refine⟨((n+m:Nat):Int),wo,?_⟩;refine⟨fun O J r=>?_⟩;refine(Ki (vv:=n+m) (h:=Fd+1) (k:=kk) (t1:=t3') (Lv.old r W) (hT.rel r W).jK hW2 UR (Nat.succ_pos n) be be WY be be ph1 hW3 ph6 ph7).mono fun e w8 L=>?_;obtain⟨rfl,y2,Vh,RD,Qr,TW⟩:=L;refine⟨.tuple #[],_,(J.heap.size,w8.heap.size)::QH,rfl,r.gJ (hT.not r) RD,?_⟩;replace hR:=hR.pg (y2:=y2) (iv2:=(J.heap.size,w8.heap.size)::QH) r hU RD TW fun p hp=>aD _ hp;replace Qr:=hT.aBH r Qr TW;replace R:=Kept.gz (Kept.cj r.cj R lr) RD fun g V A=>(Pz g A).elim id fun h=>by omega
 have Uo:∀g,Bv y2.dB g->Bv x.dB g\/w.heap.size<=g:=fun g V=>(TW g V).elim (Pz g) fun h=>.inr (aR r.cZ h);have hyg8:=Vh;replace Vh:=Vh.trans RY;clear hT RD TW r;have hT:=Qr;clear Qr;generalize (J.heap.size,w8.heap.size)::QH=Qe at*
 rw[<-hyg8];conv=>whnf
 rw[Yi]at hR;replace hT:=hT.more YI;refine⟨fun O J r=>?_⟩;refine(Ke (n:=n) (h:=Fd+1) (Lv.old r hU) (hT.rel r hU).jK hW4 (hR.pg r hU Kept.refl (fun g V=>.inl V) fun p hp=>hp) Po.symm be be be hH3 Qg be be).mono fun e w8 L=>?_;obtain⟨rfl,y3,hyg3,RD,Qr,TW⟩:=L;refine⟨.tuple #[],_,(J.heap.size,w8.heap.size)::Qe,rfl,r.gJ (hT.not r) RD,?_⟩;replace Qr:=hT.aBH r Qr TW;replace R:=Kept.gz (Kept.cj r.cj R lr) RD fun g V A=>(Uo g A).elim id fun h=>by omega
 have hwas3:∀g,Bv y3.dB g->Bv x.dB g\/w.heap.size<=g:=fun g V=>(TW g V).elim (Uo g) fun h=>.inr (aR r.cZ h);replace hyg3:=hyg3.trans Vh;clear hT RD TW r;have hT:=Qr;clear Qr;generalize (J.heap.size,w8.heap.size)::Qe=RS at*
 conv=>whnf
 intro GE we re;have Yl:kk<D1.q:=by rw[ph3.eq];exact ph7
 have hcut:=ph3.cut (c:=fun j=>c.getD j 0) Yl ph8;have SD:=hW.aAk (D:=D1) (by rw[<-Vg,<-Po];exact ph3) (by rw[<-Vg,<-Po];exact ph5) Yl (by rw[<-Vg,<-Po];exact ph8);refine⟨_,y3,_,rfl,hyg3,Kept.cj re.cj R lr,hT.OT re hU,hwas3,.inl ⟨rfl,(D1.cut kk n fun j=>c.getD j 0),ph2.cut Yl,?_,fun i N=>ph4 i N,fun i t=>d i*(iE Fn.length c.length (dU Fn) (fun i=>b.getD i 0) fun j=>c.getD j 0).ext i t,?_⟩⟩
 .exact hcut
 .rw[<-Po]at SD ⊢;exact SD
end Go.Ex
namespace Go.Ex
inductive Cert (m n:Nat) (Fn:Nat->Nat->Rat) (b c:Nat->Rat):Nat->Rat->Prop
 |CS (x y:Nat->Rat) (v:Rat) (E:om m n Fn b x) (hy:∀i,i<m->0<=y i) (hc:∀j,j<n->c j<=cw (fun i=>y i*Fn i j) m) (e1:cw (fun j=>c j*x j) n=v) (e2:cw (fun i=>y i*b i) m=v):Cert m n Fn b c 0 v
 |none (y:Nat->Rat) (h:wJ m n Fn b y):Cert m n Fn b c 1 0
 |MD (x z:Nat->Rat) (E:om m n Fn b x) (hz:KV m n Fn c z):Cert m n Fn b c 2 0
section
variable{m n k l:Nat}{Fn:Nat->Nat->Rat}{b c:Nat->Rat}{v w:Rat}
end
end Go.Ex
namespace Go.Ex
open Go Go.Sx Go.Proofs
variable{qs:List Rat}
section
variable{Fn:List (List Rat)}{b c X C9 F9:List Rat}{n k:Nat}{q:Rat}
theorem ph(n v:Nat):(dg n).getD v 0=0:=jO n v
theorem Mt{i j:Nat}:(nt Fn j).getD i 0=dU Fn i j:=by
 unfold nt dU;rw[List.getD,List.getD,List.getD,aU]
 cases Fn[i]? <;>rfl
theorem td:nL X (dg k)↔∀i,i<X.length->0<=X.getD i 0:=by
 unfold nL;constructor<;>intro h i N<;>have:=h i N
 .rw[ph]at this;exact this
 .rw[ph];exact this
theorem jz(hA:iq n Fn):iT Fn n X b↔X.length=n/\om Fn.length n (dU Fn) (fun i=>b.getD i 0) fun j=>X.getD j 0:=by
 have key:∀(i:Nat) r,Fn[i]? =some r->dY r X r.length=cw (fun j=>dU Fn i j*X.getD j 0) n:=fun i r hr=>by
  rw[gY,hA r (aG hr)];refine cY fun j _=>?_;unfold dU;rw[List.getD,List.getD,List.getD,List.getD,hr];rfl
 constructor
 .rintro⟨Y,I,h3⟩;refine⟨Y,fun j hj=>td.1 I j be,fun i N=>?_⟩;have h4:=aE N;have:=h3 i _ h4;rw[key i _ h4]at this;exact this
 .rintro⟨Y,I,h3⟩;refine⟨Y,td.2 fun j hj=>I j be,fun i r hr=>?_⟩;rw[key i r hr];exact h3 i (aH.1 hr).1
theorem Bj:qk Fn C9 c↔C9.length=Fn.length/\(∀i,i<Fn.length->0<=C9.getD i 0)/\∀j,j<c.length->c.getD j 0<=cw (fun i=>C9.getD i 0*dU Fn i j) Fn.length:=by
 have hl:(da C9 Fn c.length Fn.length).length=c.length:=by unfold da;simp
 have key:∀j,j<c.length->(da C9 Fn c.length Fn.length).getD j 0=cw (fun i=>C9.getD i 0*dU Fn i j) Fn.length:=fun j hj=>by
  unfold da;rw[List.getD,aU,cO hj];show dY C9 (nt Fn j) Fn.length=_;rw[gY];exact cY fun i _=>by rw[Mt]
 unfold qk;constructor
 .rintro⟨Y,I,h3⟩;refine⟨Y,fun i N=>td.1 I i be,fun j hj=>?_⟩;have:=h3 j be;rw[key j hj]at this;exact this
 .rintro⟨Y,I,h3⟩;refine⟨Y,td.2 fun i N=>I i be,fun j hj=>?_⟩;rw[hl]at hj;rw[key j hj];exact h3 j hj
theorem Bk:qk Fn C9 (dg n)↔C9.length=Fn.length/\(∀i,i<Fn.length->0<=C9.getD i 0)/\∀j,j<n->0<=cw (fun i=>C9.getD i 0*dU Fn i j) Fn.length:=by
 rw[Bj,show(dg n).length=n from aj];refine and_congr_right fun _=>and_congr_right fun _=>?_;constructor<;>intro h j hj<;>have:=h j hj
 .rw[ph]at this;exact this
 .rw[ph];exact this
theorem iF.cert{z:Int}(hA:iq c.length Fn)(A:b.length=Fn.length)(h:iF Fn b c z X C9 F9 q):∃k:Nat,z=(k:Int)/\k<=2/\Cert Fn.length c.length (dU Fn) (fun i=>b.getD i 0) (fun j=>c.getD j 0) k q:=by
 rcases h with⟨rfl,-,Y,I,h3,h4⟩|⟨rfl,-,-,rfl,I,h4⟩|⟨rfl,-,rfl,Y,I,h3⟩
 .obtain⟨k1,k2⟩:=(jz hA).1 Y;obtain⟨k3,k4,k5⟩:=Bj.1 I;rw[gY]at h3 h4;rw[k3]at h4;exact⟨0,rfl,be,.CS _ _ q k2 k4 k5 h3 h4⟩
 .obtain⟨k3,k4,k5⟩:=Bk.1 I;rw[gY,k3]at h4;exact⟨1,rfl,be,.none _ ⟨k4,h4,k5⟩⟩
 .obtain⟨k1,k2⟩:=(jz hA).1 Y;obtain⟨k3,k4⟩:=(jz hA).1 I;rw[gY]at h3;refine⟨2,rfl,be,.MD _ _ k2 ⟨⟨k4.1,fun i N=>?_⟩,h3⟩⟩;have:=k4.2 i N;rw[show (fun i=>(dg b.length).getD i 0) i=0 from ph _ _]at this;exact this
theorem IH(hA:iq c.length Fn)(hX:X.length=c.length)(hY:C9.length=Fn.length)(hp:om Fn.length c.length (dU Fn) (fun i=>b.getD i 0) fun j=>X.getD j 0)(hy:∀i,i<Fn.length->0<=C9.getD i 0)(hc:∀j,j<c.length->c.getD j 0<=cw (fun i=>C9.getD i 0*dU Fn i j) Fn.length)
  (e1:cw (fun j=>c.getD j 0*X.getD j 0) c.length=q) (e2:cw (fun i=>C9.getD i 0*b.getD i 0) Fn.length=q):iF Fn b c 0 X C9 [] q:=
 .inl ⟨rfl,rfl,(jz hA).2 ⟨hX,hp⟩,Bj.2 ⟨hY,hy,hc⟩,by rw[gY];exact e1,by rw[gY,hY];exact e2⟩
theorem II(hY:C9.length=Fn.length)(h:wJ Fn.length c.length (dU Fn) (fun i=>b.getD i 0) fun i=>C9.getD i 0):iF Fn b c 1 [] C9 [] 0:=
 .inr (.inl ⟨rfl,rfl,rfl,rfl,Bk.2 ⟨hY,h.1,h.2.2⟩,by rw[gY,hY];exact h.2.1⟩)
theorem Ko(hA:iq c.length Fn)(hX:X.length=c.length)(hR:F9.length=c.length)(hp:om Fn.length c.length (dU Fn) (fun i=>b.getD i 0) fun j=>X.getD j 0)(hr:KV Fn.length c.length (dU Fn) (fun j=>c.getD j 0) fun j=>F9.getD j 0):iF Fn b c 2 X [] F9 0:=
 .inr (.inr ⟨rfl,rfl,rfl,(jz hA).2 ⟨hX,hp⟩,(jz hA).2 ⟨hR,hr.1.1,fun i N=>by
  have:=hr.1.2 i N;rw[show (fun i=>(dg b.length).getD i 0) i=0 from ph _ _]
  exact this⟩,by rw[gY];exact hr.2⟩)
end
section
variable{S:Nat->Prop}{H:Hp}{nx:Nat}{iv:Iv}{B:Nat}{w J F:World}{O:Nat->Sx.eH}{x y:Tx}{t t':Tb}
theorem dJ.aAO(h:dJ F FF J.heap.size [(J.heap.size,F.heap.size)] x t)(E:∀g,Bv x.dB g->J.heap.size<=g)(hB:B<=J.heap.size)(hm:(J.heap.size,F.heap.size)∈iv):dJ F FF B iv x t:=
 ⟨h.jK.cV (fun g V=>⟨by have:=ek V.1;exact .inr ⟨be,_,_,hm,this.1,this.2⟩,V.2⟩) fun g A V=>V.2 A,fun g V=>.inr ⟨by have:=E g V;omega,_,_,hm,E g V,h.jK.low V⟩⟩
theorem dJ.aBc(h:dJ w FF B iv x t)(r:Rel H nx iv B w O J)(E:∀g,Bv x.dB g->B<=g)(I:fQ F (fun g=>Nw (fun g=>Lv FF B iv x g\/Bv x.dB g) J F g/\¬Bv y.dB g) y t')(D8:∀g,Bv y.dB g->Bv x.dB g\/J.heap.size<=g):
  dJ F FF B ((J.heap.size,F.heap.size)::iv) y t':=by
 have hm:∀p,p∈iv->p∈(J.heap.size,F.heap.size)::iv:=fun p hp=>aD _ hp;have A:∀g,Bv x.dB g->Cv FF B iv g:=fun g V=>(h.kz g V).elim (fun h=>by have:=E g V;omega) .inr;refine⟨I.cV (fun g V=>⟨?_,V.2⟩) fun g A V=>V.2 A,fun g V=>?_⟩
 .rcases V.1 with Y|Y
  .exact Y.elim (fun Y=>Y.1.mono hm) fun Y=>(A g Y).mono hm
  .exact .inr ⟨by have:=r.cZ;omega,_,_,aF,Y.1,Y.2⟩
 .rcases D8 g V with Y|Y
  .exact(h.kz g Y).mono hm
  .exact .inr ⟨by have:=r.cZ;omega,_,_,aF,Y,I.low V⟩
theorem eF.Mu{v:Value}(h:eF F (Nw (Lv FF B iv x) J F) (Nw (Lv FF B iv x) J F) v qs)(hB:B<=J.heap.size):eF F (Cv FF B ((J.heap.size,F.heap.size)::iv)) (Cv FF B ((J.heap.size,F.heap.size)::iv)) v qs:=by
 have YK:∀g,Nw (Lv FF B iv x) J F g->Cv FF B ((J.heap.size,F.heap.size)::iv) g:=fun g V=>V.elim (fun h=>h.1.mono fun p hp=>aD _ hp) fun h=>.inr ⟨be,_,_,aF,h.1,h.2⟩;exact h.cV YK YK
end
end Go.Ex
