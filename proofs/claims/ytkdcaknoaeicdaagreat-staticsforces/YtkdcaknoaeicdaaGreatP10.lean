/- Texts X133 to X134: lemmas, each with its conditions. -/
import Derived.Test.YtkdcaknoaeicdaaGreatP9
namespace Go.Ex
open Go Go.Sx Go.Proofs
variable{css:List (List Value)}{qs ri:List Rat}{rv:List Value}{c i:Nat}{a:Option Addr}{row:Option Nat}{q:Rat}{v:Value}
def Ob(rv:List Value)(g:Nat):Prop:=∃v∈rv,v.ownBlock=some g
def Lr(S:Nat->Prop)(B:Nat)(iv:Iv)(rv:List Value)(g:Nat):Prop:=Cv S B iv g∧¬Ob rv g
structure lk(w:World)(S:Nat->Prop)(B:Nat)(iv:Iv)(rv:List Value)(n:Nat)(M:List (List Rat)):Prop where
 len:rv.length=M.length
 row:∀(i:Nat) v qs,rv[i]? =some v->M[i]? =some qs->iV w (Lr S B iv rv) v n qs
 GJ:∀(i j:Nat) a b g,rv[i]? =some a->rv[j]? =some b->a.ownBlock=some g->b.ownBlock=some g->i=j
 new:∀g,Ob rv g->Cv FF B iv g
theorem Ob.append{g:Nat}:Ob (rv++[v]) g↔Ob rv g∨v.ownBlock=some g:=by
 unfold Ob;simp[or_and_right,exists_or]
section
variable{S S':Nat->Prop}{H:Hp}{nx n:Nat}{iv iv':Iv}{B:Nat}{w w' w2:World}{O:Nat->Sx.dg}{rv:List Value}{M:List (List Rat)}
theorem lk.nil:lk w S B iv [] n []:=⟨rfl,fun i v qs h=>(by cases h),fun i j a b g h=>(by cases h),fun g ⟨v,hv,_⟩=>by cases hv⟩
theorem lk.cH(h:lk w S B iv rv n M)(hk:∀g,Cv S B iv g->w2.heap[g]? =w.heap[g]?):lk w2 S B iv rv n M:=
 ⟨h.len,fun i v qs h1 h2=>(h.row i v qs h1 h2).cH fun g hg=>hg.elim (fun hg=>hk g hg.1) fun hg=>hk g (ui (h.new g ⟨v,aC h1,hg⟩)),h.GJ,h.new⟩
theorem lk.rel(h:lk w S B iv rv n M)(r:Rel H nx iv B w O w')(hS:∀g,S g->g<B):lk w' S B iv rv n M:=h.cH fun _ hg=>Rel.same r hS hg
theorem lk.mono(h:lk w S B iv rv n M)(hm:∀p,p∈iv->p∈iv'):lk w S B iv' rv n M:=
 ⟨h.len,fun i v qs h1 h2=>(h.row i v qs h1 h2).cI fun _ hg=>⟨hg.1.mono hm,hg.2⟩,h.GJ,fun g hg=>(h.new g hg).mono hm⟩
theorem lk.cF(h:lk w S B iv rv n M)(r:Rel H nx iv B w O w')(hS:∀g,S g->g<B)(he:Ext w' w2)(hm:∀p,p∈iv->p∈iv'):lk w2 S B iv' rv n M:=
 ((h.rel r hS).cH fun g hg=>he.block g (Rel.old r hS g hg)).mono hm
theorem lk.low(h:lk w S B iv rv n M){g:Nat}(hg:Ob rv g):B<=g:=(h.new g hg).elim (fun h=>h.elim) fun h=>h.1
theorem lk.lt(h:lk w S B iv rv n M)(r:Rel H nx iv B w O w'){g:Nat}(hg:Ob rv g):g<w'.heap.size:=Rel.old r (gV B) g (h.new g hg)
theorem Lr.grown(r:Rel H nx iv B w O w')(hS:∀g,S g->g<B)(hg:w'.grownBy w2 row)(OG:∀g,row=some g->Ob rv g):∀g,Lr S B iv rv g->w2.heap[g]? =w.heap[g]? :=fun g h=>by
 rw[hg.block g (Rel.old r hS g h.1) fun e=>h.2 (OG g e.symm),Rel.same r hS h.1]
theorem lk.cP(h:lk w S B iv rv n M)(r:Rel H nx iv B w O w')(hg:w'.grownBy w2 row)(OG:∀g,row=some g->Ob rv g):dm B w' w2:=
 dm.grown hg (fun g e=>h.low (OG g e)) r.cD
theorem lk.setRow(h:lk w' S B iv rv n M)(Od:∀g,Cv S B iv g->g<w'.heap.size){vi:Value}(Te:rv[i]? =some vi)(PW:w'.grownBy w2 vi.ownBlock)(hB:B<=w'.heap.size)
  (hq:iV w2 (Nw (Lr S B iv rv) w' w2) vi n qs):lk w2 S B ((w'.heap.size,w2.heap.size)::iv) rv n (M.set i qs):=by
 have hnw:∀g,Nw (Lr S B iv rv) w' w2 g->Lr S B ((w'.heap.size,w2.heap.size)::iv) rv g:=fun g hg=>by
  rcases hg with hg|hg
  ·exact⟨hg.1.mono fun p hp=>List.mem_cons_of_mem _ hp,hg.2⟩
  ·exact⟨.inr ⟨by omega,_,_,aG,hg.1,hg.2⟩,fun hm=>by have:=Od g (ui (h.new g hm));omega⟩
 refine⟨by rw[bE];exact h.len,fun k v ps h1 h2=>?_,h.GJ,fun g hg=>(h.new g hg).mono fun p hp=>List.mem_cons_of_mem _ hp⟩;by_cases hk:i=k
 ·subst hk;rw[Te]at h1;injection h1 with h1;subst h1;rw[aV (by rw[<-h.len];exact(aD.1 Te).1)]at h2;injection h2 with h2;subst h2;exact hq.cI hnw
 ·rw[aY hk]at h2;refine((h.row k v ps h1 h2).cH fun g hg=>?_).cI fun g hg=>⟨hg.1.mono fun p hp=>List.mem_cons_of_mem _ hp,hg.2⟩
  rcases hg with hg|hg
  ·exact PW.block g (Od g hg.1) fun e=>hg.2 ⟨vi,aC Te,e.symm⟩
  ·exact PW.block g (Od g (ui (h.new g ⟨v,aC h1,hg⟩))) fun e=>hk (h.GJ i k vi v g Te h1 e.symm hg)
theorem lk.DV(hM:lk w S B iv rv n M)(r:Rel H nx iv B w O w')(hS:∀g,S g->g<B){i j h:Nat}{vi vj vby:Value}{ri rj:List Rat}{p:Rat}(Pm:i≠j)(Te:rv[i]? =some vi)(S3:rv[j]? =some vj)(hri:M[i]? =some ri)(hrj:M[j]? =some rj)
  (PQ:eM w (Lr S B iv rv) vby p) (hq:∀q∈ri,rl q+1<=h) (hqj:∀q∈rj,rl q+1<=h) (hb:rl p+1<=h) (hh:3*h<=90000):
  di PG N.oR #[vi,vj,vby] w' (fun e w2=>e= .returned (.tuple #[])∧w'.grownBy w2 vi.ownBlock∧(∀g,vi.ownBlock=some g->Ob rv g)∧lk w2 S B ((w'.heap.size,w2.heap.size)::iv) rv n (M.set i (mP ri rj p))):=by
 have Uy:=hM.rel r hS;have h1:=Uy.row i vi ri Te hri;have h2:=Uy.row j vj rj S3 hrj;have TS:∀g,vi.ownBlock=some g->Ob rv g:=fun g hg=>⟨_,aC Te,hg⟩
 have hmj:∀g,vj.ownBlock=some g->Ob rv g:=fun g hg=>⟨_,aC S3,hg⟩
 refine(M0 (C:=fun g=>vj.ownBlock=some g) (S:=Lr S B iv rv) (fun x hx=>hM.lt r (hmj x hx)) (fun g hg=>Rel.old r hS g hg.1) h1 (eM.cH PQ fun g hg=>Rel.same r hS hg.1) h2.read h2.len (fun g hg hx=>hx.2 (TS g hg)) (fun g hg hx=>Pm (hM.GJ i j _ _ g Te S3 hg hx)) hq hqj hb hh).mono fun e w8 he=>?_;obtain⟨rfl,PW,OG⟩:=he;exact⟨rfl,PW,TS,Uy.setRow (fun g hg=>Rel.old r hS g hg) Te PW r.cD OG⟩
theorem lk.form(hM:lk w S B iv rv n M)(hv:rv[i]? =some v):∃a c,v= .slice a n c:=by
 obtain⟨qs,hq⟩:∃qs,M[i]? =some qs:=⟨_,aB (by rw[<-hM.len];exact(aD.1 hv).1)⟩
 obtain⟨a,c,h,_⟩:=(hM.row i v qs hv hq).form;exact⟨a,c,h⟩
theorem lk.load(hM:lk w S B iv rv n M){k:Nat}(hv:rv[i]? =some (.slice a n c))(hq:M[i]? =some qs)(hk:qs[k]? =some q):
  ∃ad cs,a=some ad∧iK w (Lr S B iv rv) cs q∧∀j u,cs[j]? =some u->Cv FF B iv ad.block∧w.cell? ((ad.add (k*4)).add j)=some u:=by
 obtain⟨ad,cs,h1,h2,h3⟩:=gL.load (hM.row i _ qs hv hq).read hk;refine⟨ad,cs,h1,h2,fun j u hu=>⟨?_,(h3 j u hu).2⟩⟩;have:=(h3 j u hu).1;exact hM.new _ ⟨_,aC hv,this⟩
theorem lk.store(hM:lk w S B iv rv n M)(r:Rel H nx iv B w O w')(hS:∀g,S g->g<B){k:Nat}{a1 a2:Option Addr}{n1 c1 n2 c2:Nat}{b b2:Bool}(Te:rv[i]? =some (.slice a n c))(hri:M[i]? =some ri)(hk:k<n)
  (hf:cU w (Lr S B iv rv) (.agg #[.bool b,.slice a1 n1 c1,.bool b2,.slice a2 n2 c2]) q):
  ∃g,a=some ⟨g,0,none⟩∧((⟨g,0,none⟩:Addr).add ((k:Int).toNat*4)).spot=none∧
   (∀j,j<4->(w'.cell? (((⟨g,0,none⟩:Addr).add ((k:Int).toNat*4)).add j)).isSome=true∧w'.frozen? (((⟨g,0,none⟩:Addr).add ((k:Int).toNat*4)).add j)=false)∧
   (∀id b,dC H id=some b->(O id).nil=false->(O id).g≠((⟨g,0,none⟩:Addr).add ((k:Int).toNat*4)).block)∧
   ∀w2,w2=setCells w' ((⟨g,0,none⟩:Addr).add ((k:Int).toNat*4)) [.bool b,.slice a1 n1 c1,.bool b2,.slice a2 n2 c2]->lk w2 S B iv rv n (M.set i (ri.set k q))∧dm B w' w2∧Rel H nx iv B w2 O w2∧∀g,Lr S B iv rv g->w2.heap[g]? =w.heap[g]? :=by
 have Uy:=hM.rel r hS;have TS:∀g,(Value.slice a n c).ownBlock=some g->Ob rv g:=fun g hg=>⟨_,aC Te,hg⟩
 obtain⟨g,rfl,h1,h2,h3,h4⟩:=(Uy.row i _ ri Te hri).store hk (hf.cH fun g hg=>Rel.same r hS hg.1) (fun g hg hx=>hx.2 (TS g hg)) (fun x hx=>Rel.old r hS x hx.1);refine⟨g,rfl,h1,h3,fun id b hb hn=>by rw[h2];exact Rel.not r (gV B) (hM.new g (TS g rfl)) id b hb hn,fun w2 PE=>?_⟩;obtain⟨k1,k2,k3⟩:=h4 w2 PE;have hs:=Uy.setRow (fun g hg=>Rel.old r hS g hg) Te k2 r.cD (k1.cI fun g hg=>.inl hg);refine⟨?_,hM.cP r k2 TS,r.yd (fun id b hb hn=>Rel.not r (gV B) (hM.new g (TS g rfl)) id b hb hn) k2,Lr.grown r hS k2 TS⟩;refine⟨hs.len,fun j v qs h5 h6=>(hs.row j v qs h5 h6).cI fun x hx=>⟨?_,hx.2⟩,hs.GJ,fun x hx=>hM.new x hx⟩;rcases hx.1 with hx|⟨m1,lo,hi,m2,m3,m4⟩
 ·exact .inl hx
 ·rcases List.mem_cons.1 m2 with e|m2
  ·injection e with e1 e2;subst e1 e2;omega
  ·exact .inr ⟨m1,lo,hi,m2,m3,m4⟩
theorem lk.push(hM:lk w S B iv rv n M){gx:Nat}(SB:∀g,Cv S B iv g->g≠gx)(hBx:B<=gx)(OG:iV w S (.slice (some ⟨gx,0,none⟩) n c) n qs)(hS:∀g,S g->g<B):
  lk w S B ((gx,gx+1)::iv) (rv++[.slice (some ⟨gx,0,none⟩) n c]) n (M++[qs]):=by
 have RF:∀g,Ob rv g->g≠gx:=fun g hg=>SB g (ui (hM.new g hg))
 have hlr:∀g,Lr S B iv rv g->Lr S B ((gx,gx+1)::iv) (rv++[.slice (some ⟨gx,0,none⟩) n c]) g:=fun g hg=>⟨hg.1.mono fun p hp=>List.mem_cons_of_mem _ hp,fun h=>by
  rcases Ob.append.1 h with h|h
  ·exact hg.2 h
  ·injection h with h;exact SB g hg.1 h.symm⟩
 refine⟨by simp[hM.len],fun i v ps h1 h2=>?_,fun i j a b g h1 h2 h3 h4=>?_,fun g hg=>?_⟩
 ·rcases aO i rv.length with hi|hi
  ·rw[aK hi]at h1;rw[aK (by rw[<-hM.len];exact hi)]at h2;exact(hM.row i v ps h1 h2).cI hlr
  ·have RW:i=rv.length:=by have:=(aD.1 h1).1;simp at this;omega
   rw[RW,aN (aF _),bH]at h1;rw[RW,hM.len,aN (aF _),bH]at h2;simp at h1 h2;subst h1 h2;refine OG.cI fun g hg=>⟨.inl hg,fun h=>?_⟩
   have:=hS g hg;rcases Ob.append.1 h with h|h
   ·have:=hM.low h;omega
   ·injection h with h;have h:gx=g:=h;omega
 ·have key:∀(k:Nat) v,(rv++[Value.slice (some ⟨gx,0,none⟩) n c])[k]? =some v->(k<rv.length∧rv[k]? =some v)∨(k=rv.length∧v= .slice (some ⟨gx,0,none⟩) n c):=fun k v hk=>by
   rcases aO k rv.length with hi|hi
   ·rw[aK hi]at hk;exact .inl ⟨hi,hk⟩
   ·have RW:k=rv.length:=by have:=(aD.1 hk).1;simp at this;omega
    rw[RW,aN (aF _),bH]at hk;simp at hk;exact .inr ⟨RW,hk.symm⟩
  rcases key i a h1 with⟨_,k1⟩|⟨e1,rfl⟩<;>rcases key j b h2 with⟨_,k2⟩|⟨e2,rfl⟩
  ·exact hM.GJ i j a b g k1 k2 h3 h4
  ·injection h4 with h4;exact absurd h4.symm (RF g ⟨a,aC k1,h3⟩)
  ·injection h3 with h3;exact absurd h3.symm (RF g ⟨b,aC k2,h4⟩)
  ·rw[e1,e2]
 ·rcases Ob.append.1 hg with h|h
  ·exact(hM.new g h).mono fun p hp=>List.mem_cons_of_mem _ hp
  ·injection h with h;have h:gx=g:=h;subst h;exact .inr ⟨hBx,_,_,aG,aF _,bZ _⟩
theorem lk.drop(hM:lk w S B iv (rv++[v]) n (M++[qs])):lk w S B iv rv n M:=by
 have hl:rv.length=M.length:=by have:=hM.len;simpa using this
 have RF:∀g,Ob rv g->Ob (rv++[v]) g:=fun g hg=>Ob.append.2 (.inl hg);refine⟨hl,fun i u ps h1 h2=>?_,fun i j a b g h1 h2=>hM.GJ i j a b g ?_ ?_,fun g hg=>hM.new g (RF g hg)⟩
 ·have hi:=(aD.1 h1).1;exact(hM.row i u ps (by rw[aK hi];exact h1) (by rw[aK (by rw[<-hl];exact hi)];exact h2)).cI fun g hg=>⟨hg.1,fun h=>hg.2 (RF g h)⟩
 ·rw[aK (aD.1 h1).1];exact h1
 ·rw[aK (aD.1 h2).1];exact h2
theorem aA1{id m:Nat}(r:Rel H nx iv B w O w')(h:dC H id=some (.vec T.Rat 4 css.flatten))(hl:css.length=m)(h0:0<m)(hm:m<=maxLen)(hF:Fc w' S css qs):
  (O id).nil=false∧B<=(O id).g∧(∀g,Out B iv g->g≠(O id).g)∧iV w' S (.slice (some ⟨(O id).g,0,none⟩) m (O id).cap) m qs:=by
 have OY:=eN hF.vq;rcases r.vec id _ _ _ h with⟨_,h2⟩|⟨h1,spare,h2,h3,h4⟩
 ·rw[h2]at OY;rw[hl]at OY;simp at OY;omega
 ·refine⟨h1,(r.low id _ h h1).1,fun g hg e=>?_,css,⟨by rw[OY,hl],.inr ⟨(O id).g,(O id).cap,_,rfl,aP _,h2,?_,h4,by simpa using h3,by rw[show m*4=css.flatten.length by rw[OY,hl]];simp⟩⟩,hl,hF⟩
  ·exact Rel.not r (fun _ h=>h) hg id _ h h1 e.symm
  ·rw[List.length_append,OY,hl]at h3;omega
end
end Go.Ex
namespace Go.Sx
open Go Go.Ex Go.Proofs
variable{O:Nat->Sx.dg}
theorem Sub.BK{B nx:Nat}{l:Env}{H:Hp}{iv:Iv}{w w':World}{t:ye}(id p e sz:Nat){bt:Nat}{cs:List At}(Om:dC H id=some (.box bt cs))(hp:cs[p]? =some (.v (.slice none 0 0)))(Rx:jX nx l)(r:Rel H nx iv B w O w')
  (h:∀ρ1,Rel ((id,.box bt (cs.set p (.w nx 0)))::(nx,.vec e sz [])::H) (nx+1) iv B w ρ1 w'->Sx.Sub B l (nx+1) ρ1 w' t):Sx.Sub B l nx O w' t:=by
 have r1:=r.push (.vec e sz []) ⟨0,0,true⟩ (w2:=w') rfl rfl rfl (aF _) (fun _ _=>rfl) (fun h=>by cases h) (.inl ⟨rfl,rfl⟩) trivial;have OH:id≠nx:=Nat.ne_of_lt (r.keys id _ Om);have VU:dC ((nx,.vec e sz [])::H) id=some (.box bt cs):=by rw[c9,aL (fun h=>OH h.symm)];exact Om
 have hnn:=r1.nn id _ VU (by intros;simp) (by simp);have OS:=r1.box id bt cs VU;have Qf:(cs.set p (.w nx 0)).map (At.den (Sx.gO O nx ⟨0,0,true⟩))=cs.map (At.den (Sx.gO O nx ⟨0,0,true⟩)):=by
  refine bM fun j=>?_;rw[aM,aM];by_cases hj:p=j
  ·subst hj;rw[aV (aD.1 hp).1,hp];simp[At.den,eL]
  ·rw[aY hj]
 have r2:=r1.store (b':=.box bt (cs.set p (.w nx 0))) (H':=(id,.box bt (cs.set p (.w nx 0)))::(nx,.vec e sz [])::H) (w2:=w') VU (by simp) hnn (fun j=>by
  rw[c9];by_cases hj:id=j
  ·subst hj;rw[if_pos rfl]
  ·rw[aL hj,aL (fun h=>hj h.symm)]) rfl rfl rfl rfl (fun _ _=>rfl) ⟨hnn,by rw[Qf];exact OS⟩ (fun x hx=>by
   rcases bJ hx with hx|rfl
   ·exact r1.Lt id bt cs VU x hx
   ·exact bZ nx)
 obtain⟨ρ',h1,h2⟩:=h _ r2;refine⟨ρ',h1,fun x v hv=>?_⟩;obtain⟨h3,v0,h4,h5⟩:=h2 x v hv;refine⟨h3,v0,h4,?_⟩;rw[<-h5];exact SV.j4 (fun id Om=>gC id Om) (Rx.get _ _ h4)
end Go.Sx
namespace Go.Ex
open Go Go.Sx Go.Proofs
end Go.Ex
namespace Go.Ex
open Go Go.Sx Go.Proofs
variable{a:Act}{K next:Act->World->Prop}{la lx:Array Bool}{I:Array Bool->World->Prop}{Q:Exit->Act->World->Prop}{E M:List (List Rat)}{at_:List (Option Nat)}{fr:List Nat}{r row u y:List Rat}{rv:List Value}{b cols i j:Nat}{C S S0:Nat->Prop}{oi:Oper}{X:Sem Next}{v:Value}{w:World}{Y:World->Prop}{s:xU}
inductive Tq where
 |nil
 |x (i:Nat) (t:Tq)
 |two (i:Nat) (t:Tq) (j:Nat) (u:Tq)
 |three (i:Nat) (t:Tq) (j:Nat) (u:Tq) (k:Nat) (v:Tq)
section
variable{P:Program}{τ:nH}{ops:Array Oper}{B n nx:Nat}{l:Env}{H:Hp}{iv:Iv}{w w':World}{O:Nat->Sx.dg}{a:Act}
end
section
variable{P:Program}{ops:Array Oper}{Q:Exit->Act->World->Prop}{md:Region.Mode}
theorem Jc{oj:Oper}(hj:ops[j]? =some oj)(Qv:oi.apart ops oj=true)
  (hsi:∀cs b,oi.op≠ .select cs b) (hsj:∀cs b,oj.op≠ .select cs b)
  (hQ:∀c a w,Q (.panic c) (a.put oi.dst v) w->Q (.panic c) a w)
  (hy:Region.wanted oi (yielded ops a.tmps)=true∧execOp a.eval oi=X) (h:wpOp P ops Q j K (a.put oi.dst v) w):
  wpOp P ops Q j (fun a' w'=>(Region.wanted oi (yielded ops a'.tmps)=true∧execOp a'.eval oi=X)∧K (a'.put oi.dst v) w') a w:=by
 obtain⟨h1,h2,h3⟩:=Oper.apart_spec Qv;have cH:∀(a:Act),(Region.wanted oi (yielded ops a.tmps)=true∧execOp a.eval oi=X)->∀u,(Region.wanted oi (yielded ops (a.put oj.dst u).tmps)=true∧execOp (a.put oj.dst u).eval oi=X):=fun a hy u=>
  ⟨(wanted_put oi a oj.dst u h3).trans hy.1,(execOp_put oi hsi a oj.dst u h3).trans hy.2⟩
 have keepD:∀d:Deferred,(Region.wanted oi (yielded ops ({a with defers:=d::a.defers}:Act).tmps)=true∧execOp ({a with defers:=d::a.defers}:Act).eval oi=X):=fun d=>hy;unfold wpOp at*
 simp only[hj]at*
 rw[wanted_put oj a oi.dst v h1]at h;split
 ·rename_i hw;simp only[hw,if_true]at h;rcases h with h|⟨SX,UI⟩
  case inr=>exact .inr ⟨by unfold Oper.asks at *;rw[execOp_put oj hsj a oi.dst v h1]at SX;exact SX,UI⟩
  refine .inl ?_;unfold Oper.wp at*
  rw[execOp_put oj hsj a oi.dst v h1]at h;generalize (execOp a.eval oj).run P w=r at*
  cases r with
  |ok n w'=>
   cases n<;>simp only[Oper.upon]at h ⊢
   case value u=>exact⟨cH a hy u,by rw[<-Act.put_comm a v u h2];exact h⟩
   case skip=>exact⟨cH a hy _,by rw[<-Act.put_comm a v undef h2];exact h⟩
   case defer d=>
    refine⟨cH ({a with defers:=d::a.defers}:Act) (keepD d) undef,?_⟩;rw[<-Act.put_comm _ v undef h2,<-Act.put_defers];exact h
   case enter f args=>
    refine Calls.mono h fun e w'' he=>?_
    cases e with
    |returned u=>exact⟨cH a hy u,by rw[<-Act.put_comm a v u h2];exact he⟩
    |panicked c=>exact hQ _ _ _ he
    |outgrown=>exact he
   case row row args=>exact Rows.mono h fun u w'' he=>⟨cH a hy u,by rw[<-Act.put_comm a v u h2];exact he⟩
  |halt x w'=>
   cases x<;>simp only[Oper.upon]at h ⊢
   case panic u=>exact hQ _ _ _ h
 ·rename_i hw;simp only[hw]at h;exact⟨cH a hy _,by rw[<-Act.put_comm a v undef h2];exact h⟩
def q9(P:Program)(md:Region.Mode)(ops:Array Oper)(Q:Exit->Act->World->Prop)(I:Array Bool->World->Prop):Nat->Array Bool->Act->World->Prop
 |0,lx,a,w=>I lx w∧Region.ready md ops lx=[]∧Q .normal a w
 |fuel+1,lx,a,w=>I lx w∧(Region.ready md ops lx=[]->Q .normal a w)∧∀i∈Region.ready md ops lx,wpOp P ops Q i (fun a' w'=>q9 P md ops Q I fuel (lx.setIfInBounds i true) a' w') a w
theorem Ap{I:Array Bool->World->Prop}:∀(fuel:Nat) (lx:Array Bool) (a:Act) (w:World),q9 P md ops Q I fuel lx a w->wpAny P md ops Q fuel lx a w
 |0,_,_,_,h=>h.2
 |fuel+1,_,_,_,h=>⟨h.2.1,fun i hi=>wpOp_mono (fun _ _ h'=>Ap fuel _ _ _ h') (h.2.2 i hi)⟩
theorem k8{I J:Array Bool->World->Prop}(hIJ:∀lx w,I lx w->J lx w):∀(fuel:Nat) (lx:Array Bool) (a:Act) (w:World),q9 P md ops Q I fuel lx a w->q9 P md ops Q J fuel lx a w
 |0,_,_,_,h=>⟨hIJ _ _ h.1,h.2⟩
 |fuel+1,_,_,_,h=>⟨hIJ _ _ h.1,h.2.1,fun i hi=>wpOp_mono (fun _ _ h'=>k8 hIJ fuel _ _ _ h') (h.2.2 i hi)⟩
theorem GG(hI:I lx w)(hr:Region.ready md ops lx=[])(h:Q .normal a w):∀fuel,q9 P md ops Q I fuel lx a w
 |0=>⟨hI,hr,h⟩
 |_+1=>⟨hI,fun _=>h,by rw[hr];simp⟩
def nG(ops:Array Oper)(b:Nat)(lx:Array Bool):Prop:=∀(k:Nat) o,tb b k=true->ops[k]? =some o->sw o.op=false->lx.getD k false=false
theorem j2(hi:ops[i]? =some oi)(hR:sw oi.op=true):nG ops b (lx.setIfInBounds i true)↔nG ops b lx:=by
 have key:∀(k:Nat) o,ops[k]? =some o->sw o.op=false->(lx.setIfInBounds i true).getD k false=lx.getD k false:=fun k o ho hr=>by
  have:i≠k:=fun e=>by subst e;rw[hi]at ho;injection ho with ho;subst ho;rw[hR]at hr;cases hr
  exact getD_set_ne false this
 exact⟨fun h k o h1 h2 h3=>by rw[<-key k o h2 h3];exact h k o h1 h2 h3,fun h k o h1 h2 h3=>by rw[key k o h2 h3];exact h k o h1 h2 h3⟩
theorem uf(hi:ops[i]? =some oi)(hR:sw oi.op=true)(OV:∀(j:Nat) (o:Oper) cs b,ops[j]? =some o->o.op≠ .select cs b)
  (hQ:∀c a w,Q (.panic c) (a.put oi.dst v) w->Q (.panic c) a w) (SU:∀j,tb b j=true->∃oj e,ops[j]? =some oj∧e∈oj.after∧Region.binds md e=true∧(e.on=i∨tb b e.on=true))
  (hY:∀w,Y w->X.run P w= .ok (.value v) w) (hI:∀lx w,I (lx.setIfInBounds i true) w->I lx w):
  ∀(fuel:Nat) (lx:Array Bool) (a:Act) (w:World),(∀j,tb b j=true->lx.getD j false=false)->
   (∀j oj,ops[j]? =some oj->j≠i->lx.getD j true=false->tb b j=false->oi.apart ops oj=true)->
   i∈Region.ready md ops lx->(Region.wanted oi (yielded ops a.tmps)=true∧execOp a.eval oi=X)->
   q9 P md ops Q (fun lx w=>I lx w∧(nG ops b lx->Y w)) fuel (lx.setIfInBounds i true) (a.put oi.dst v) w->q9 P md ops Q I (fuel+1) lx a w:=by
 intro fuel;have run:∀(lx:Array Bool) (a:Act) (w:World),(∀j,tb b j=true->lx.getD j false=false)->(Region.wanted oi (yielded ops a.tmps)=true∧execOp a.eval oi=X)->(I (lx.setIfInBounds i true) w∧(nG ops b (lx.setIfInBounds i true)->Y w))->
   ∀K:Act->World->Prop,K (a.put oi.dst v) w->wpOp P ops Q i K a w:=fun lx a w Pg hy hH K hK=>by
  have hYw:=hH.2 ((j2 hi hR).2 fun k o h1 _ _=>Pg k h1);unfold wpOp;simp only[hi,hy.1,if_true]
  refine .inl ?_;unfold Oper.wp;rw[hy.2,hY w hYw];exact hK
 induction fuel with
 |zero=>
  intro lx a w Pg _ hr hy H;refine⟨hI _ _ H.1.1,fun h=>(by rw[h]at hr;cases hr),fun j hj=>?_⟩;by_cases Oy:j=i
  ·subst Oy;exact run lx a w Pg hy H.1 _ (k8 (fun _ _ h=>h.1) 0 _ _ _ H)
  ·have:=ready_mono hj Oy;rw[H.2.1]at this
   cases this
 |succ fuel ih=>
  intro lx a w Pg RE hr hy H;refine⟨hI _ _ H.1.1,fun h=>(by rw[h]at hr;cases hr),fun j hj=>?_⟩;by_cases Oy:j=i
  ·subst Oy;exact run lx a w Pg hy H.1 _ (k8 (fun _ _ h=>h.1) (fuel+1) _ _ _ H)
  ·have h1:=H.2.2 j (ready_mono hj Oy);obtain⟨UJ,oj,Qu,QO⟩:=mem_ready.1 hj;have Qc:tb b j=false:=by
    cases hb:tb b j with
    |false=>rfl
    |true=>
     exfalso;obtain⟨oj',e,Rv,he,hbi,Tv⟩:=SU j hb;rw[Qu]at Rv;injection Rv with Rv;subst Rv;have h1:=QO e he hbi;rcases Tv with heq|QI
     ·have h0:=(mem_ready.1 hr).1;rw[heq]at h1;rcases aO i lx.size with h'|h'
      ·simp[h']at h0 h1;rw[h0]at h1;cases h1
      ·simp[Array.getElem?_eq_none h']at h1
     ·rw[Pg _ QI]at h1;cases h1
   have h2:=Jc Qu (RE j oj Qu Oy UJ Qc) (fun cs b=>OV i oi cs b hi) (fun cs b=>OV j oj cs b Qu) hQ hy h1;have hbl':∀k,tb b k=true->(lx.setIfInBounds j true).getD k false=false:=fun k hk=>by
    rw[getD_set_ne false (fun e=>(by subst e;rw[Qc]at hk;cases hk))];exact Pg k hk
   have Sq:∀k ok,ops[k]? =some ok->k≠i->(lx.setIfInBounds j true).getD k true=false->tb b k=false->oi.apart ops ok=true:=fun k ok hk hki Tt R9=>by
    refine RE k ok hk hki ?_ R9;by_cases Rz:j=k
    ·subst Rz;exact UJ
    ·rw[getD_set_ne true Rz]at Tt;exact Tt
   refine wpOp_mono (fun a' w' h3=>?_) h2;refine ih (lx.setIfInBounds j true) a' w' hbl' Sq (ready_mono hr (Ne.symm Oy)) h3.1 ?_;rw[Array.setIfInBounds_comm _ _ Oy];exact h3.2
end
structure Gh where
 u:Nat
 d:Nat
 T:Nat
 b:Nat
def Dx(τ:nH)(B:Nat):List Gh->Env->Hp->Nat->Iv->World->Prop->Prop
 |[],_,_,_,_,_,K=>K
 |g::r,l,H,nx,iv,w,K=>match fM l g.u with
  |some su=>B9 τ B g.T su H nx iv w (fun v=>fM l g.d=some v∧Dx τ B r l H nx iv w K)
  |none=>False
inductive Tg where
 |nil
 |x (i:Nat) (t:Tg)
 |two (i:Nat) (t:Tg) (j:Nat) (u:Tg)
 |three (i:Nat) (t:Tg) (j:Nat) (u:Tg) (k:Nat) (v:Tg)
 |ld (i b:Nat) (t:Tg)
 |jl (id:Nat) (t:Tg)
def Ck(j:Nat):List Gh->List Gh
 |[]=>[]
 |g::r=>match tb g.b j with
  |true=>Ck j r
  |false=>g::Ck j r
def stepG(τ:nH)(B:Nat)(rd:Bool)(G:List Gh)(j:Nat)(l:Env)(H:Hp)(nx:Nat)(iv:Iv)(w:World)(K:List Gh->Prop):Prop:=match rd with
 |true=>K G
 |false=>Dx τ B (Ck j G) l H nx iv w (K (Ck j G))
def GH(ops:Array Oper)(m i:Nat)(oi:Oper)(b:Nat):List Oper->Nat->Bool
 |[],_=>true
 |oj::r,j=>(Nat.beq j i||tb m j||tb b j||oi.apart ops oj)&&GH ops m i oi b r (j+1)
def IQ(m i u d:Nat):List Oper->Nat->Bool
 |[],_=>true
 |oj::r,j=>(tb m j||match oj.dst with
   |none=>true
   |some e=> !Nat.beq e u&&(Nat.beq j i|| !Nat.beq e d))&&IQ m i u d r (j+1)
def Ls(o:Oper):Option (Nat×Nat×Nat):=match o with
 |⟨some d,.load T (.tmp u),_,_,_,none⟩=>some (d,T,u)
 |_=>none
def mI(ops:Array Oper):Tg->Array Bool->Bool
 | .nil,lx=>(Region.ready .any ops lx).isEmpty
 | .x i t,lx=>match ops[i]? with
  |none=>false
  |some o=>(Region.ready .any ops lx).contains i&&((Region.ready .any ops lx).all (fun j=>Nat.beq j i)||GL o.op&&o.guard.isNone&&GH ops (iS lx.toList 0) i o (As (iS lx.toList 0) i ops.toList 0 0) ops.toList 0)&&mI ops t (lx.setIfInBounds i true)
 | .two i t j u,lx=>match Region.ready .any ops lx with
  |[a,b]=>Nat.beq a i&&(Nat.beq b j&&(mI ops t (lx.setIfInBounds i true)&&mI ops u (lx.setIfInBounds j true)))
  |_=>false
 | .three i t j u k v,lx=>match Region.ready .any ops lx with
  |[a,b,c]=>Nat.beq a i&&(Nat.beq b j&&(Nat.beq c k&&(mI ops t (lx.setIfInBounds i true)&&(mI ops u (lx.setIfInBounds j true)&&mI ops v (lx.setIfInBounds k true)))))
  |_=>false
 | .ld i b t,lx=>match ops[i]? with
  |none=>false
  |some o=>match Ls o with
   |none=>false
   |some (d,_,u)=>(Region.ready .any ops lx).contains i&&Nat.beq b (As (iS lx.toList 0) i ops.toList 0 0)&&GH ops (iS lx.toList 0) i o b ops.toList 0&&IQ (iS lx.toList 0) i u d ops.toList 0&&mI ops t (lx.setIfInBounds i true)
 | .jl _ t,lx=>mI ops t lx
def BZ(P:Program)(τ:nH)(B:Nat)(all:List Oper):Tg->List Gh->Env->Hp->Nat->Iv->World->KT->Prop
 | .nil,_,l,H,nx,iv,w,K=>K l H nx iv w
 | .x i t,G,l,H,nx,iv,w,K=>nm all i (fun o=>fX (!fC o) P τ B all o l H nx iv w (fun l' H' OL iv' w'=>stepG τ B (sw o.op) G i l' H' OL iv' w' (fun G'=>BZ P τ B all t G' l' H' OL iv' w' K)))
 | .two i t j u,G,l,H,nx,iv,w,K=>nm all i (fun o=>fX (!fC o) P τ B all o l H nx iv w (fun l' H' OL iv' w'=>stepG τ B (sw o.op) G i l' H' OL iv' w' (fun G'=>BZ P τ B all t G' l' H' OL iv' w' K)))∧
   nm all j (fun o=>fX (!fC o) P τ B all o l H nx iv w (fun l' H' OL iv' w'=>stepG τ B (sw o.op) G j l' H' OL iv' w' (fun G'=>BZ P τ B all u G' l' H' OL iv' w' K)))
 | .three i t j u k v,G,l,H,nx,iv,w,K=>nm all i (fun o=>fX (!fC o) P τ B all o l H nx iv w (fun l' H' OL iv' w'=>stepG τ B (sw o.op) G i l' H' OL iv' w' (fun G'=>BZ P τ B all t G' l' H' OL iv' w' K)))∧
   (nm all j (fun o=>fX (!fC o) P τ B all o l H nx iv w (fun l' H' OL iv' w'=>stepG τ B (sw o.op) G j l' H' OL iv' w' (fun G'=>BZ P τ B all u G' l' H' OL iv' w' K)))∧
   nm all k (fun o=>fX (!fC o) P τ B all o l H nx iv w (fun l' H' OL iv' w'=>stepG τ B (sw o.op) G k l' H' OL iv' w' (fun G'=>BZ P τ B all v G' l' H' OL iv' w' K))))
 | .ld i b t,G,l,H,nx,iv,w,K=>nm all i (fun o=>match Ls o with
  |some (d,T,u)=>match fM l u with
   |some su=>B9 τ B T su H nx iv w (fun v=>BZ P τ B all t (⟨u,d,T,b⟩::G) ((d,v)::l) H nx iv w K)
   |none=>False
  |none=>False)
 | .jl id t,G,l,H,nx,iv,w,K=>∃H' b,dC H id=some b∧b≠ .dead∧uo H H'∧Dz id H'=true∧∀O w',Rel H nx iv B w O w'->(O id).nil=false∧∃l',(∀u v,fM l' u=some v->v.sc nx∧∃v',fM l u=some v'∧v'.den O=v.den O)∧BZ P τ B all t G l' H' nx (((O id).g,(O id).g+1)::iv) w' K
section
variable{P:Program}{τ:nH}{ops:Array Oper}{B n nx:Nat}{l:Env}{H:Hp}{iv:Iv}{w w':World}{O:Nat->Sx.dg}{a:Act}
theorem aAb(hτ:fJ P τ){o:Oper}(ho:ops[i]? =some o)(hd:∀d,o.dst=some d->d<n){K:KT}
  (h1:fX (!fC o) P τ B ops.toList o l H nx iv w K) (sat:Sat n l H nx iv B w O a w')
  (hn:∀l' H' OL iv' w2 ρ' x w3,K l' H' OL iv' w2->Sat n l' H' OL iv' B w2 ρ' (a.put o.dst x) w3->(sw o.op=true->w3=w')->next (a.put o.dst x) w3):
  wpOp P ops Q i next a w':=by
 unfold fX at h1;refine mL ho ?_;rcases ix sat h1 with⟨hw,l1,h2,sat1⟩|⟨hw,l1,h2,sat1⟩
 ·refine .inl ⟨hw,?_⟩
  cases hR:sw o.op with
  |true=>
   obtain⟨v,hK,Q8,ON⟩:=(j3 hτ h2 sat1 hR).resolve_right (fun hh=>by have:=hh.1;rw[lK hR]at this;cases this);obtain⟨l2,h3,sat2⟩:=ei sat1 hK hd Q8;exact k9 (ON w' (.inr sat1.rel)) (hn _ _ _ _ _ _ _ _ h3 sat2 fun _=>rfl)
  |false=>
   have nr:∀w3:World,sw o.op=true->w3=w':=fun w3 h=>by rw[hR]at h;cases h
   cases hA:Jg o.op with
   |true=>
    obtain⟨b,v,mk,obj,hK,Oe,hb,hv,TU,Pn,UB⟩:=lJ hτ h2 sat1 hA;have Ol:Rel ((nx,b)::H) (nx+1) iv B w (Sx.gO O nx ⟨w'.heap.size,0,false⟩) (w'.alloc obj):=
     sat1.rel.push b _ rfl rfl rfl (by simp) (fun k hk=>heap_alloc_old _ _ hk) (fun _=>⟨aF _,by simp⟩) (Pn _ _ (heap_alloc_new _ _)) hb
    obtain⟨l2,h3,sat2⟩:=ei (sat1.next Ol (Nat.le_succ _) (fun id Om=>gC id Om)) hK hd hv;rw[TU]at sat2;exact k9 (v:=mk w'.heap.size) (w2:=w'.alloc obj) (UB w') (hn _ _ _ _ _ _ _ _ h3 sat2 (by rw[hR];exact fun h=>by cases h))
   |false=>
    cases hH:pE o with
    |false=>
     rw[mr hH]at h2;refine sB h2 sat1 hR hA hH fun v w2 hK he hs=>?_;obtain⟨l2,h3,sat2⟩:=ei (v:=.o (.v v)) hs hK hd trivial;exact hn _ _ _ _ _ _ _ _ h3 sat2 (by rw[hR];exact fun h=>by cases h)
    |true=>
     refine lL hτ h2 sat1 fun v H' OL iv' w2 ρ' w3 hK sat2 hv=>?_;obtain⟨l2,h3,sat3⟩:=ei sat2 hK hd hv;exact hn _ _ _ _ _ _ _ _ h3 sat3 (by rw[hR];exact fun h=>by cases h)
 ·obtain⟨l2,h4,sat3⟩:=ei sat1 h2 hd trivial;exact .inr ⟨hw,hn _ _ _ _ _ _ _ _ h4 sat3 fun _=>rfl⟩
theorem xQ(hτ:fJ P τ)(sat:Sat n l H nx iv B w O a w'){K:Prop}:∀(G:List Gh),Dx τ B G l H nx iv w K->
  K∧∀g∈G,∃su sv,fM l g.u=some su∧fM l g.d=some sv∧(Instr.loadAt g.T (su.den O)).run P w'= .ok (sv.den O) w'
 |[],h=>⟨h,fun g hg=>by cases hg⟩
 |g::r,h=>by
  unfold Dx at h;split at h
  ·rename_i su hsu;obtain⟨v,⟨h1,h2⟩,hv,ON⟩:=oB hτ sat.rel (sat.sc _ _ hsu) h;obtain⟨h3,h4⟩:=xQ hτ sat r h2;refine⟨h3,fun g' hg=>?_⟩;rcases List.mem_cons.1 hg with rfl|hg
   ·exact⟨su,v,hsu,h1,ON w' sat.rel⟩
   ·exact h4 g' hg
  ·exact h.elim
theorem rD{j:Nat}{g:Gh}:∀{G:List Gh},g∈G->tb g.b j=false->g∈Ck j G
 |g'::r,h,hb=>by
  unfold Ck;rcases List.mem_cons.1 h with rfl|h
  ·rw[hb];exact aG
  ·split
   ·exact rD h hb
   ·exact List.mem_cons_of_mem _ (rD h hb)
abbrev Zh:=Gh×Value×Value
def Yz(P:Program)(z:Zh)(w:World):Prop:=(Instr.loadAt z.1.T z.2.1).run P w= .ok z.2.2 w
structure GOk(ops:Array Oper)(la:Array Bool)(a:Act)(z:Zh):Prop where
 u:a.tmps[z.1.u]? =some z.2.1
 d:a.tmps[z.1.d]? =some z.2.2
 no:∀(j:Nat) oj,ops[j]? =some oj->la.getD j false=false->oj.dst≠some z.1.u∧oj.dst≠some z.1.d
theorem GOk.step{z:Zh}{oj:Oper}{x:Value}(h:GOk ops la a z)(hj:ops[j]? =some oj)(hl:la.getD j false=false):GOk ops (la.setIfInBounds j true) (a.put oj.dst x) z:=by
 obtain⟨h1,h2⟩:=h.no j oj hj hl;refine⟨qe h1 h.u,qe h2 h.d,fun k ok hk hlk=>h.no k ok hk ?_⟩;by_cases Rz:j=k
 ·subst Rz;exact hl
 ·rwa [getD_set_ne false Rz]at hlk
def IZ(P:Program)(ops:Array Oper)(Z:List Zh)(lx:Array Bool)(w:World):Prop:=∀z∈Z,nG ops z.1.b lx->Yz P z w
theorem ug(h:i∈Region.ready .any ops la):la.getD i false=false:=by
 have:=(eH.1 h).1;rw[ai,this];rfl
theorem ot{o:Oper}(ho:ops[i]? =some o)(hl:la[i]? =some false)(h:nG ops b (la.setIfInBounds i true)):nG ops b la∧(sw o.op=false->tb b i=false):=by
 refine⟨fun k ok h1 h2 h3=>?_,fun hR=>?_⟩
 ·by_cases hik:i=k
  ·subst hik;rw[ai,hl];rfl
  ·rw[<-getD_set_ne false hik];exact h k ok h1 h2 h3
 ·cases hb:tb b i with
  |false=>rfl
  |true=>
   have:=h i o hb ho hR;have hi:=(ah.1 hl).1;rw[ai,Array.getElem?_setIfInBounds_self_of_lt hi]at this
   cases this
theorem Cl(hτ:fJ P τ){o:Oper}{G:List Gh}{Z:List Zh}(ho:ops[i]? =some o)(hd:∀d,o.dst=some d->d<n)(hr:i∈Region.ready .any ops la){K:Env->Hp->Nat->Iv->World->List Gh->Prop}
  (h1:fX (!fC o) P τ B ops.toList o l H nx iv w (fun l' H' OL iv' w'=>stepG τ B (sw o.op) G i l' H' OL iv' w' (K l' H' OL iv' w'))) (sat:Sat n l H nx iv B w O a w')
  (hG:∀z∈Z,nG ops z.1.b la->z.1∈G) (hZ:∀z∈Z,GOk ops la a z) (hI:IZ P ops Z la w')
  (hn:∀l' H' OL iv' w2 ρ' x w3 G',K l' H' OL iv' w2 G'->Sat n l' H' OL iv' B w2 ρ' (a.put o.dst x) w3->(∀z∈Z,nG ops z.1.b (la.setIfInBounds i true)->z.1∈G')->(∀z∈Z,GOk ops (la.setIfInBounds i true) (a.put o.dst x) z)->IZ P ops Z (la.setIfInBounds i true) w3->next (a.put o.dst x) w3):
  wpOp P ops Q i next a w':=by
 have hl:=(eH.1 hr).1;refine aAb hτ ho hd h1 sat fun l' H' OL iv' w2 ρ' x w3 hK sat2 hw=>?_;have hZ2:∀z∈Z,GOk ops (la.setIfInBounds i true) (a.put o.dst x) z:=fun z hz=>(hZ z hz).step ho (ug hr)
 cases hR:sw o.op with
 |true=>
  rw[hR]at hK;have hw:=hw hR;subst hw;refine hn _ _ _ _ _ _ _ _ G hK sat2 (fun z hz h=>hG z hz (ot ho hl h).1) hZ2 fun z hz h=>hI z hz (ot ho hl h).1
 |false=>
  rw[hR]at hK;obtain⟨h2,h3⟩:=xQ hτ sat2 _ hK;refine hn _ _ _ _ _ _ _ _ _ h2 sat2 (fun z hz h=>?_) hZ2 fun z hz h=>?_
  ·obtain⟨k1,k2⟩:=ot ho hl h;exact rD (hG z hz k1) (k2 hR)
  ·obtain⟨k1,k2⟩:=ot ho hl h;obtain⟨su,sv,e1,e2,e3⟩:=h3 z.1 (rD (hG z hz k1) (k2 hR));have h4:=sat2.env _ _ e1;have h5:=sat2.env _ _ e2;rw[(hZ2 z hz).u]at h4;rw[(hZ2 z hz).d]at h5;injection h4 with h4;injection h5 with h5;unfold Yz;rw[h4,h5];exact e3
end
section
variable{P:Program}{τ:nH}{ops:Array Oper}{B n nx:Nat}{l:Env}{H:Hp}{iv:Iv}{w w':World}{O:Nat->Sx.dg}{a:Act}
theorem ss{m i b:Nat}{oi:Oper}:∀(l:List Oper) (k:Nat),GH ops m i oi b l k=true->∀(j:Nat) oj,l[j]? =some oj->k+j≠i->tb m (k+j)=false->tb b (k+j)=false->oi.apart ops oj=true
 |[],_,_,j,oj,h,_,_,_=>by cases h
 |o::r,k,h,j,oj,hj,h1,h2,h3=>by
  simp only[GH,a9,Bool.or_eq_true]at h
  cases j with
  |zero=>
   injection hj with hj;subst hj;rcases h.1 with((h4|h4)|h4)|h4
   ·exact absurd (bQ h4) h1
   ·rw[bw]at h2;rw[h2]at h4;cases h4
   ·rw[bw]at h3;rw[h3]at h4;cases h4
   ·exact h4
  |succ j=>
   have e:k+(j+1)=k+1+j:=by omega
   rw[e]at h1 h2 h3;exact ss r (k+1) h.2 j oj (by simpa using hj) h1 h2 h3
theorem Aq{m i u d:Nat}:∀(l:List Oper) (k:Nat),IQ m i u d l k=true->∀(j:Nat) oj,l[j]? =some oj->tb m (k+j)=false->oj.dst≠some u∧(k+j≠i->oj.dst≠some d)
 |[],_,_,j,oj,h,_=>by cases h
 |o::r,k,h,j,oj,hj,h2=>by
  simp only[IQ,a9,Bool.or_eq_true]at h
  cases j with
  |zero=>
   injection hj with hj;subst hj;rcases h.1 with h4|h4
   ·rw[bw]at h2;rw[h2]at h4;cases h4
   ·cases ho:o.dst with
    |none=>exact⟨by simp,by simp⟩
    |some e=>
     rw[ho]at h4;simp only[a9,Bool.not_eq_true',Bool.or_eq_true]at h4;refine⟨fun hh=>?_,fun OH hh=>?_⟩
     ·injection hh with hh;subst hh;have:=h4.1;simp at this
     ·injection hh with hh;subst hh;rcases h4.2 with h5|h5
      ·exact OH (bQ h5)
      ·simp at h5
  |succ j=>
   have e:k+(j+1)=k+1+j:=by omega
   rw[e]at h2 ⊢;exact Aq r (k+1) h.2 j oj (by simpa using hj) h2
theorem Jd{o:Oper}{d T u:Nat}(h:Ls o=some (d,T,u)):o.dst=some d∧o.op= .load T (.tmp u)∧o.guard=none:=by
 unfold Ls at h;split at h
 ·injection h with h;injection h with h1 h2;injection h2 with h2 h3;subst h1 h2 h3;exact⟨rfl,rfl,rfl⟩
 ·cases h
theorem jT(hτ:fJ P τ)(OI:∀(j:Nat) o,ops[j]? =some o->∀d,o.dst=some d->d<n)(OV:∀(j:Nat) (o:Oper) cs b,ops[j]? =some o->o.op≠ .select cs b){K:KT}{Q0:Act->World->Prop}
  (hQ:∀l' H' OL iv' w2 ρ' a' w3,K l' H' OL iv' w2->Sat n l' H' OL iv' B w2 ρ' a' w3->Q0 a' w3):
  ∀(t:Tg) (fuel:Nat) (la:Array Bool) (l:Env) (H:Hp) (nx:Nat) (iv:Iv) (w:World) (O:Nat->Sx.dg) (a:Act) (w':World) (G:List Gh) (Z:List Zh),Lz la<=fuel->la.size=ops.size->mI ops t la=true->BZ P τ B ops.toList t G l H nx iv w K->Sat n l H nx iv B w O a w'->
   (∀z∈Z,nG ops z.1.b la->z.1∈G)->(∀z∈Z,GOk ops la a z)->IZ P ops Z la w'->q9 P .any ops (QN Q0) (IZ P ops Z) fuel la a w'
 | .nil,fuel,la,l,H,nx,iv,w,O,a,w',G,Z,_,_,hc,h,s,hG,hZ,hI=>by
  simp only[mI,List.isEmpty_iff]at hc;exact GG hI hc ⟨rfl,hQ _ _ _ _ _ _ _ _ h s⟩ fuel
 | .x i t,fuel,la,l,H,nx,iv,w,O,a,w',G,Z,hf,hz,hc,h,s,hG,hZ,hI=>by
  unfold mI at hc;obtain⟨o,ho,h1⟩:=gA h;rw[bA]at ho;simp only[ho,a9,Bool.or_eq_true]at hc;obtain⟨⟨c1,c2⟩,c3⟩:=hc;have c1:i∈Region.ready .any ops la:=by simpa using c1
  obtain⟨Pc,-⟩:=eH.1 c1;have Tt:=jU Pc;obtain⟨f,rfl⟩:∃f,fuel=f+1:=⟨fuel-1,by omega⟩
  have Ox:(la.setIfInBounds i true).size=ops.size:=by rw[bO,hz]
  rcases c2 with c2|⟨⟨hP,RG⟩,c4⟩
  ·refine⟨hI,fun h0=>(by rw[h0]at c1;cases c1),fun j hj=>?_⟩;have Oy:j=i:=eI (List.all_eq_true.1 c2 j hj);subst Oy;exact Cl hτ ho (OI j o ho) c1 h1 s hG hZ hI fun _ _ _ _ _ _ _ _ G' hk hs Ur Us Ut=>jT hτ OI OV hQ t f _ _ _ _ _ _ _ _ _ G' Z (by omega) Ox c3 hk hs Ur Us Ut
  ·have hR:sw o.op=true:=by
    unfold GL at hP;split at hP
    ·cases hP
    ·exact hP
   have hm:=yA la;have hb:=nL (ops:=ops) (m:=iS la.toList 0) (i:=i) ops.toList 0 0 (fun n o hn=>by rw[aR];rwa [bA]at hn) (fun j hj=>by rw[tD]at hj;cases hj);generalize As (iS la.toList 0) i ops.toList 0 0=b at*
   have So:o.guard=none:=by simpa using RG
   unfold fX tE at h1;rw[So]at h1;obtain⟨v,hK,Q8,ON⟩:=(j3 hτ h1 s hR).resolve_right (fun hh=>by have:=hh.1;rw[lK hR]at this;cases this);obtain⟨l2,h3,sat2⟩:=ei s hK (OI i o ho) Q8;rw[hR]at h3;have hw:Region.wanted o (yielded ops a.tmps)=true:=by simp[Region.wanted,So]
   refine uf (v:=v.den O) (b:=b) (Y:=fun _=>True) (X:=execOp a.eval o) ho hR OV (fun c a w hq=>absurd hq.1 (by simp)) (fun j hj=>(hb j hj).2.2) (fun w3 _=>ON w3 (.inl hP)) (fun lx w h z hz ha=>h z hz ((j2 ho hR).2 ha))
    f la a w' (fun j hj=>(hm j).symm.trans (hb j hj).1) (fun j oj Qu Oy hl hk=>ss ops.toList 0 c4 j oj (by rw[bA];exact Qu) (by omega) (by
     have hj:=(ah.1 Qu).1
     rw[aR,hm,nJ (by omega) false true];exact hl) (by rw[aR];exact hk)) c1 ⟨hw,rfl⟩ ?_
   refine k8 (fun lx w h=>⟨h,fun _=>trivial⟩) _ _ _ _ ?_;exact jT hτ OI OV hQ t f _ _ _ _ _ _ _ _ _ G Z (by omega) Ox c3 h3 sat2 (fun z hz h=>hG z hz ((j2 ho hR).1 h)) (fun z hz=>(hZ z hz).step ho (ug c1)) (fun z hz h=>hI z hz ((j2 ho hR).1 h))
 | .two i t k u,fuel,la,l,H,nx,iv,w,O,a,w',G,Z,hf,hz,hc,h,s,hG,hZ,hI=>by
  simp only[mI]at hc;split at hc
  ·rename_i x y hr;simp only[a9]at hc;obtain⟨c1,c2,c3,c4⟩:=hc;have hx:=bQ c1;have hy:=bQ c2;subst hx;subst hy;obtain⟨h1,h2⟩:=h;obtain⟨o1,VE,h1⟩:=gA h1;obtain⟨o2,TY,h2⟩:=gA h2;rw[bA]at VE TY;have Ri:x∈Region.ready .any ops la:=by rw[hr];simp
   have Tf:y∈Region.ready .any ops la:=by rw[hr];simp
   have u1:=jU (eH.1 Ri).1;have u2:=jU (eH.1 Tf).1;obtain⟨f,rfl⟩:∃f,fuel=f+1:=⟨fuel-1,by omega⟩
   refine⟨hI,fun h0=>(by rw[hr]at h0;cases h0),fun j hj=>?_⟩;rw[hr,List.mem_cons,bB]at hj;rcases hj with rfl|rfl
   ·exact Cl hτ VE (OI _ o1 VE) Ri h1 s hG hZ hI fun _ _ _ _ _ _ _ _ G' hk hs Ur Us Ut=>jT hτ OI OV hQ t f _ _ _ _ _ _ _ _ _ G' Z (by omega) (by rw[bO,hz]) c3 hk hs Ur Us Ut
   ·exact Cl hτ TY (OI _ o2 TY) Tf h2 s hG hZ hI fun _ _ _ _ _ _ _ _ G' hk hs Ur Us Ut=>jT hτ OI OV hQ u f _ _ _ _ _ _ _ _ _ G' Z (by omega) (by rw[bO,hz]) c4 hk hs Ur Us Ut
  ·cases hc
 | .three i t k u m v,fuel,la,l,H,nx,iv,w,O,a,w',G,Z,hf,hz,hc,h,s,hG,hZ,hI=>by
  simp only[mI]at hc;split at hc
  ·rename_i x y z9 hr;simp only[a9]at hc;obtain⟨c1,c2,c6,c3,c4,c5⟩:=hc;have hx:=bQ c1;have hy:=bQ c2;have hz9:=bQ c6;subst hx;subst hy;subst hz9;obtain⟨h1,h2,h3⟩:=h;obtain⟨o1,VE,h1⟩:=gA h1;obtain⟨o2,TY,h2⟩:=gA h2;obtain⟨o3,ho3,h3⟩:=gA h3;rw[bA]at VE TY ho3;have Ri:x∈Region.ready .any ops la:=by rw[hr];simp
   have Tf:y∈Region.ready .any ops la:=by rw[hr];simp
   have hm3:z9∈Region.ready .any ops la:=by rw[hr];simp
   have u1:=jU (eH.1 Ri).1;have u2:=jU (eH.1 Tf).1;have u3:=jU (eH.1 hm3).1;obtain⟨f,rfl⟩:∃f,fuel=f+1:=⟨fuel-1,by omega⟩
   refine⟨hI,fun h0=>(by rw[hr]at h0;cases h0),fun j hj=>?_⟩;rw[hr,List.mem_cons,List.mem_cons,bB]at hj;rcases hj with rfl|rfl|rfl
   ·exact Cl hτ VE (OI _ o1 VE) Ri h1 s hG hZ hI fun _ _ _ _ _ _ _ _ G' hk hs Ur Us Ut=>jT hτ OI OV hQ t f _ _ _ _ _ _ _ _ _ G' Z (by omega) (by rw[bO,hz]) c3 hk hs Ur Us Ut
   ·exact Cl hτ TY (OI _ o2 TY) Tf h2 s hG hZ hI fun _ _ _ _ _ _ _ _ G' hk hs Ur Us Ut=>jT hτ OI OV hQ u f _ _ _ _ _ _ _ _ _ G' Z (by omega) (by rw[bO,hz]) c4 hk hs Ur Us Ut
   ·exact Cl hτ ho3 (OI _ o3 ho3) hm3 h3 s hG hZ hI fun _ _ _ _ _ _ _ _ G' hk hs Ur Us Ut=>jT hτ OI OV hQ v f _ _ _ _ _ _ _ _ _ G' Z (by omega) (by rw[bO,hz]) c5 hk hs Ur Us Ut
  ·cases hc
 | .ld i b t,fuel,la,l,H,nx,iv,w,O,a,w',G,Z,hf,hz,hc,h,s,hG,hZ,hI=>by
  unfold mI at hc;obtain⟨o,ho,h1⟩:=gA h;rw[bA]at ho;simp only[ho]at hc
  cases Pu:Ls o with
  |none=>rw[Pu]at hc;cases hc
  |some q=>
   obtain⟨d,T,u⟩:=q;rw[Pu]at hc h1;simp only[a9]at hc;obtain⟨⟨⟨⟨c1,c2⟩,c4⟩,c5⟩,c3⟩:=hc;obtain⟨e1,e2,e3⟩:=Jd Pu;have c1:i∈Region.ready .any ops la:=by simpa using c1
   obtain⟨Pc,-⟩:=eH.1 c1;have Tt:=jU Pc;obtain⟨f,rfl⟩:∃f,fuel=f+1:=⟨fuel-1,by omega⟩
   have Ox:(la.setIfInBounds i true).size=ops.size:=by rw[bO,hz]
   have hR:sw o.op=true:=by rw[e2];rfl
   have hm:=yA la;have hb:=nL (ops:=ops) (m:=iS la.toList 0) (i:=i) ops.toList 0 0 (fun n o hn=>by rw[aR];rwa [bA]at hn) (fun j hj=>by rw[tD]at hj;cases hj);rw[<-bQ c2]at hb
   cases hsu:fM l u with
   |none=>simp only[hsu]at h1
   |some su=>
    simp only[hsu]at h1;obtain⟨v,hK,Q8,ON⟩:=oB hτ s.rel (s.sc _ _ hsu) h1;have hau:=s.env _ _ hsu;have Uu:=OI i o ho d e1;have sat2:Sat n ((d,v)::l) H nx iv B w O (a.put o.dst (v.den O)) w':=by rw[e1];exact s.put Uu Q8
    have hw:Region.wanted o (yielded ops a.tmps)=true:=by simp[Region.wanted,e3]
    have Qp:a.eval (.tmp u)=su.den O:=by rw[Act.eval,ai,hau];rfl
    have hui:tb (iS la.toList 0) i=false:=by rw[hm];exact ug c1
    have R9:=Aq ops.toList 0 c5;refine uf (v:=v.den O) (b:=b) (Y:=Yz P (⟨u,d,T,b⟩,su.den O,v.den O)) (X:=execOp a.eval o) ho hR OV (fun c a w hq=>absurd hq.1 (by simp)) (fun j hj=>(hb j hj).2.2) (fun w3 hY=>?_) (fun lx w h z hz ha=>h z hz ((j2 ho hR).2 ha))
     f la a w' (fun j hj=>(hm j).symm.trans (hb j hj).1) (fun j oj Qu Oy hl hk=>ss ops.toList 0 c4 j oj (by rw[bA];exact Qu) (by omega) (by
      have hj:=(ah.1 Qu).1
      rw[aR,hm,nJ (by omega) false true];exact hl) (by rw[aR];exact hk)) c1 ⟨hw,rfl⟩ ?_
    ·unfold Yz at hY;obtain⟨dst,op,ty,pos,after,guard⟩:=o;simp only at e2;subst e2;simp only[execOp,Qp]
     exact mO hY
    ·refine k8 (I:=IZ P ops ((⟨u,d,T,b⟩,su.den O,v.den O)::Z)) (fun lx w h=>⟨fun z hz=>h z (List.mem_cons_of_mem _ hz),h _ aG⟩) _ _ _ _ ?_;refine jT hτ OI OV hQ t f _ _ _ _ _ _ _ _ _ (⟨u,d,T,b⟩::G) ((⟨u,d,T,b⟩,su.den O,v.den O)::Z) (by omega) Ox c3 hK sat2 (fun z hz h=>?_) (fun z hz=>?_) (fun z hz h=>?_)
     ·rcases List.mem_cons.1 hz with rfl|hz
      ·exact aG
      ·exact List.mem_cons_of_mem _ (hG z hz ((j2 ho hR).1 h))
     ·rcases List.mem_cons.1 hz with rfl|hz
      ·have h7:=(R9 i o (by rw[bA];exact ho) (by rw[aR];exact hui)).1;refine⟨qe h7 hau,?_,fun j oj Qu TV=>?_⟩
       ·rw[e1];show(a.tmps.setIfInBounds d _)[d]? =_;rw[Array.getElem?_setIfInBounds_self_of_lt (by rw[s.size];exact Uu)]
       ·have Oy:i≠j:=fun e=>by
         subst e;have hi:=(ah.1 Pc).1;rw[ai,Array.getElem?_setIfInBounds_self_of_lt hi]at TV
         cases TV
        rw[getD_set_ne false Oy]at TV;obtain⟨k1,k2⟩:=R9 j oj (by rw[bA];exact Qu) (by rw[aR,hm];exact TV);exact⟨k1,k2 (by omega)⟩
      ·exact(hZ z hz).step ho (ug c1)
     ·rcases List.mem_cons.1 hz with rfl|hz
      ·exact ON w' s.rel
      ·exact hI z hz ((j2 ho hR).1 h)
 | .jl id t,fuel,la,l,H,nx,iv,w,O,a,w',G,Z,hf,hz,hc,h,s,hG,hZ,hI=>by
  obtain⟨H',b,Om,hd,hs,ho,h⟩:=h;obtain⟨hn,l',hl,h⟩:=h _ _ s.rel;exact jT hτ OI OV hQ t fuel la l' H' nx _ w' O a w' G Z hf hz hc h ⟨s.rel.free Om hd hn hs ho,s.size,s.defers,fun u v hv=>by obtain⟨-,v',h1,h2⟩:=hl u v hv;rw[<-h2];exact s.env u v' h1,fun u v hv=>(hl u v hv).1⟩ hG hZ hI
theorem iq(hτ:fJ P τ)(hm:P.follows .mixedOrders=true){K:KT}(t:Tg)(hs:Region.noSelect ops=true)(hc:mI ops t (Array.replicate ops.size false)=true)
  (h:BZ P τ B ops.toList t [] l H nx iv w K):uj P B ops l H nx iv w K:=by
 refine⟨fun n O a w' OI sat Q hQ id=>?_⟩;refine wp_mono (Q':=Q) (c:=.region id ops true) (wp_region_any (Q:=QN (Q .normal)) hm (Ap (I:=IZ P ops []) _ _ _ _ ?_)) (fun e a w hq=>by obtain⟨rfl,hq⟩:=hq;exact hq);refine jT (Q0:=Q .normal) hτ (fun j o ho d hd=>?_) (Region.noSelect_spec hs) hQ t _ _ _ _ _ _ _ O _ _ [] [] ?_ (by simp) hc h ⟨sat.rel.drew,sat.size,sat.defers,sat.env,sat.sc⟩ (fun z hz=>by cases hz) (fun z hz=>by cases hz) (fun z hz=>by cases hz)
 ·have:=List.all_eq_true.1 OI o (aC (by rw[bA];exact ho));rw[hd]at this;have h5:d+1<=n:=by simpa [Nat.blt]using this
  exact h5
 ·unfold Lz;refine aZ List.countP_le_length ?_;simp
end
theorem Ku{α:Type}(a b:α){c:Nat}(h:i<c):(List.replicate i a++List.replicate (c-i) b).take i++[a]++(List.replicate i a++List.replicate (c-i) b).drop (i+1)=List.replicate (i+1) a++List.replicate (c-(i+1)) b:=by
 rw[List.take_left' (bF ..),List.drop_append,bF,List.drop_of_length_le (by rw[bF];omega),List.nil_append,List.drop_replicate,List.replicate_succ'];congr 2;omega
def ke(w:World)(C S:Nat->Prop)(v:Value)(M:List (List Rat)):Prop:=∃rv,iM w C 1 v rv M.length∧rv.length=M.length∧∀(i:Nat) u x,rv[i]? =some u->M[i]? =some x->cJ w S u x
theorem ke.shape(h:ke w C S v M):∃a c,v= .slice a M.length c∧M.length<=c∧M.length<=maxLen:=by
 obtain⟨rv,⟨h0,_,_,a,c,h1,h2,_⟩,_⟩:=h;exact⟨a,c,h1,h2,h0⟩
theorem ke.load{a:Option Addr}{m c:Nat}{x:List Rat}(h:ke w C S (.slice a m c) M)(hq:M[j]? =some x):
  ∃ad u,a=some ad∧cJ w S u x∧C ad.block∧w.cell? (ad.add (j*1))=some u:=by
 obtain⟨rv,⟨h0,h1,h2,a',c',e,h3,h4⟩,hl,hf⟩:=h;injection e with e1 e2 e3;subst e1;obtain⟨u,hu⟩:∃u,rv[j]? =some u:=⟨_,aB (by rw[hl];exact(aD.1 hq).1)⟩
 obtain⟨ad,k1,k2,k3⟩:=h4 j u hu;exact⟨ad,u,k1,hf j u x hu hq,k2,by rw[aT];exact k3⟩
def Lx:Option Nat->Value
 |none=>.int .i64 (-1)
 |some j=>.int .i64 (j:Int)
structure uQ(M:List (List Rat))(cols h:Nat):Prop where
 rows:∀i,i<=M.length->∀r∈(gR M cols i).1,∀q∈r,rl q+1<=h
 mJ:∀i,i<M.length->∀k,k<=cols->∀q∈fW (gR M cols i).1 (gR M cols i).2.1 (M.getD i []) k,rl q+1<=h
theorem AS{k:Nat}(h:at_[k]? =some (some j)):fW E at_ row (k+1)=mP (fW E at_ row k) (E.getD j []) ((fW E at_ row k).getD k 0):=by
 rw[fW,show at_.getD k none=some j by rw[List.getD,h];rfl]
theorem Gy{k:Nat}(h:at_[k]? =some none):fW E at_ row (k+1)=fW E at_ row k:=by
 rw[fW,show at_.getD k none=none by rw[List.getD,h];rfl]
theorem Kv{α:Type}{l:List α}(a b:α)(h:j<l.length):(l++[a]).set j b=l.set j b++[a]:=by rw[List.set_append,if_pos h]
theorem Gz{x:List Rat}(QE:(E,at_,fr)=gR M cols i)(hx:M.getD i []=x)(hy:fW E at_ x cols=y)(hp:tR y cols=cols):(E,at_,fr)=gR M cols (i+1):=by
 rw[gR,<-QE,hx,kI];simp only[hy,hp,if_true]
theorem HA{p:Nat}{x:List Rat}(QE:(E,at_,fr)=gR M cols i)(hx:M.getD i []=x)(hy:fW E at_ x cols=y)(hp:tR y cols=p)(OH:p≠cols):
  gR M cols (i+1)=(gJ E (y.map (· / y.getD p 0)) p E.length++[y.map (· / y.getD p 0)],at_.set p (some E.length),fr++[i]):=by
 rw[gR,<-QE,hx,kI];simp only[hy,hp,aL OH]
theorem Kw(q:Rat)(y:List Rat):gw y.length (fun _ r=>r / q) y=y.map (· / q):=by
 rw[vw];exact bM fun j=>by rw[List.getElem?_mapIdx,aM]
theorem HB{p:Nat}(h:E[i]? =some r)(h0:r.getD p 0=0):gJ E u p (i+1)=gJ E u p i:=by
 rw[zG h,h0,zF];refine bM fun j=>?_;by_cases hj:i=j
 ·subst hj;rw[aV (by rw[fq];exact(aD.1 h).1),Eg h]
 ·rw[aY hj]
def kp(rv:List Value)(at_:List (Option Nat)):Nat->List Value
 |0=>[]
 |k+1=>match at_.getD k none with
  |some r=>kp rv at_ k++[rv.getD r (.bool false)]
  |none=>kp rv at_ k
theorem mi{k:Nat}(h:s.2.1[k]? =some none):dG s (k+1)=dG s k:=by
 rw[dG,show s.2.1.getD k none=none by rw[List.getD,h];rfl]
theorem mj{k r:Nat}(h:s.2.1[k]? =some (some r)):dG s (k+1)=((dG s k).1++[s.1.getD r []],(dG s k).2.1++[k],(dG s k).2.2++[s.2.2.getD r 0]):=by
 rw[dG,show s.2.1.getD k none=some r by rw[List.getD,h];rfl]
theorem se{k:Nat}(h:at_[k]? =some none):kp rv at_ (k+1)=kp rv at_ k:=by
 rw[kp,show at_.getD k none=none by rw[List.getD,h];rfl]
theorem sf{k r:Nat}(h:at_[k]? =some (some r)):kp rv at_ (k+1)=kp rv at_ k++[rv.getD r (.bool false)]:=by
 rw[kp,show at_.getD k none=some r by rw[List.getD,h];rfl]
theorem uR(s:xU)(rv:List Value):∀k,k<=s.2.1.length->(dG s k).1.length=(dG s k).2.1.length∧(dG s k).2.2.length=(dG s k).2.1.length∧(kp rv s.2.1 k).length=(dG s k).2.1.length∧(dG s k).2.1.length<=k
 |0,_=>⟨rfl,rfl,rfl,aF _⟩
 |k+1,hk=>by
  have ih:=uR s rv k (by omega);obtain⟨o,ho⟩:∃o,s.2.1[k]? =some o:=⟨_,aB (by omega)⟩
  cases o with
  |none=>rw[mi ho,se ho];exact⟨ih.1,ih.2.1,ih.2.2.1,by have:=ih.2.2.2;omega⟩
  |some r=>rw[mj ho,sf ho];simp only[List.length_append,List.length_singleton];omega
theorem AT{E:List (List Rat)}{at_:List (Option Nat)}{fr:List Nat}{rv:List Value}(hl:rv.length=E.length)(Od:∀(k r:Nat),at_[k]? =some (some r)->r<E.length):∀k,k<=at_.length->∀(i:Nat) u x,(kp rv at_ k)[i]? =some u->(dG (E,at_,fr) k).1[i]? =some x->∃r:Nat,rv[r]? =some u∧E[r]? =some x
 |0,_,i,u,x,h,_=>by cases h
 |k+1,hk,i,u,x,h1,h2=>by
  have ih:=AT (fr:=fr) hl Od k (by omega) i u x;obtain⟨o,ho⟩:∃o,at_[k]? =some o:=⟨_,aB (by omega)⟩
  cases o with
  |none=>
   rw[se ho]at h1;rw[mi (s:=(E,at_,fr)) ho]at h2;exact ih h1 h2
  |some r=>
   have hr:=Od k r ho;rw[sf ho]at h1;rw[mj (s:=(E,at_,fr)) ho]at h2;obtain⟨q1,q2,q3,q4⟩:=uR (E,at_,fr) rv k (by dsimp only;omega);dsimp only at q1 q2 q3 q4 h2;rcases aO i (kp rv at_ k).length with hi|hi
   ·rw[aK hi]at h1;rw[aK (by omega)]at h2;exact ih h1 h2
   ·have RW:i=(kp rv at_ k).length:=by have:=(aD.1 h1).1;simp at this;omega
    rw[RW,aN (aF _),bH]at h1;rw[RW,q3,<-q1,aN (aF _),bH]at h2;simp only[List.getElem?_cons_zero,Option.some.injEq]at h1 h2;refine⟨r,?_,?_⟩
    ·rw[<-h1,List.getD,aB (by omega)];rfl
    ·rw[<-h2,List.getD,aB hr];rfl
theorem FN{α:Type}(l:List α)(a b:α):(l++[a]).set l.length b=l++[b]:=by simp
section
variable{S S':Nat->Prop}{H:Hp}{nx:Nat}{iv iv':Iv}{B:Nat}{w w' w2:World}{O:Nat->Sx.dg}{rv:List Value}{v:Value}{q:Rat}
theorem cU.FO(h:cU w (Lr S B iv rv) v q)(r:Rel H nx iv B w O w')(hS:∀g,S g->g<B):cU w' (Lr S B iv rv) v q:=h.cH fun _ hg=>Rel.same r hS hg.1
theorem cU.My(h:cU w (Lr S B iv rv) v q)(r:Rel H nx iv B w O w')(hS:∀g,S g->g<B)(he:Ext w' w2)(hm:∀p,p∈iv->p∈iv'):cU w2 (Lr S B iv' rv) v q:=
 ((h.FO r hS).cH fun g hg=>he.block g (Rel.old r hS g hg.1)).cI fun _ hg=>⟨hg.1.mono hm,hg.2⟩
theorem Lr.old(r:Rel H nx iv B w O w')(hS:∀g,S g->g<B):Old (Lr S B iv rv) w':=fun g hg=>Rel.old r hS g hg.1
theorem cU.aAj{n:Nat}(h:cU w2 (Nf w' w2) v q)(hM:lk w S B iv rv n M)(r:Rel H nx iv B w O w'):cU w2 (Lr S0 B ((w'.heap.size,w2.heap.size)::iv) rv) v q:=
 h.cI fun g hg=>by
  rcases hg with hg|hg
  ·exact hg.elim
  ·exact⟨.inr ⟨by have:=r.cD;omega,_,_,aG,hg.1,hg.2⟩,fun hm=>by have:=hM.lt r hm;omega⟩
end
set_option maxHeartbeats 2000000 in
theorem qt{n h:Nat}(hC:Old C w)(hS:Old S w)(hM:ke w C S v M)(hlen:fg n M)(hn0:0<n)(hn:n<=1000)(hR:M.length<=1000)(PT:cols<=n)(hB:uQ M cols h)(hh:3*h<=90000):
  di PG N.il #[.agg #[v,.int .i64 n],.int .i64 cols] w (dw w fun v' w2=>∃vr vp vf,v'= .agg #[vr,.int .i64 n,vp,vf]∧cQ w2 (Nw S w w2) vr (dX M cols).1∧dH w2 (Nf w w2) vp (dX M cols).2.1∧dH w2 (Nf w w2) vf (dX M cols).2.2):=by
 have hw:=bR w;obtain⟨am,cm,rfl,Rb,RD⟩:=ke.shape hM;unfold maxLen at RD;refine j7 (by simp) ?_
 refine⟨cols,cols,rfl,rfl,aF _,by omega,by omega,Nat×World,fun z=>⟨[(1,iZ cols),(2,pP 0 0),(4,pP 1 0),(5,pP 2 0),(6,.o (.s 3 0 cols cols)),(27,iZ cols),(28,iN z.1)],
   [(3,.arr T.int (List.replicate z.1 (.int .i64 (-1))++List.replicate (cols-z.1) (.int .i64 0))),(2,.box T.dU [.v (.slice none 0 0),.v (.int .i64 n),.v (.slice none 0 0),.v (.slice none 0 0)]),(1,.box T.dU [.v (.slice none 0 0),.v (.int .i64 0),.v (.slice none 0 0),.v (.slice none 0 0)]),(0,.box T.dc [.v (.slice am M.length cm),.v (.int .i64 n)])],4,[],z.2⟩,fun z=>cols-z.1,
  fun z=>z.1<=cols∧dm w.heap.size w z.2,?_,?_⟩
 ·intro O w' r;exact⟨(0,w'),⟨aP _,hw.tr r.cP⟩,Sub.gn [] r ⟨by simp;rfl,rfl,rfl,rfl,trivial⟩⟩
 rintro⟨i,w1⟩ ⟨hi,hw⟩;dsimp only at hi hw ⊢;refine dM.mk ?_ ?_<;>intro OF
 ·have OF:i<cols:=by simpa using OF
  refine⟨by omega,by simp;omega,List.replicate (i+1) (.int .i64 (-1))++List.replicate (cols-(i+1)) (.int .i64 0),?_,?_⟩
  ·rw[aE,aT,aR];exact Ku _ _ OF
  refine⟨((i+1:Nat):Int),wo,?_⟩;intro ρ3 w3 r3;exact⟨(i+1,w3),⟨OF,hw.tr r3.cP⟩,Sub.gn [] r3,by dsimp only;omega⟩
 have OF:i=cols:=aQ hi (by simpa using OF);rw[OF]
 refine⟨Nat×List Value×List (List Rat)×List (Option Nat)×List Nat×World×Iv,fun z=>⟨[(38,iN z.1),(1,iZ cols),(2,pP 0 0),(4,pP 1 0),(5,pP 2 0),(6,.o (.s 3 0 cols cols)),(36,sV am M.length cm),(37,iZ M.length)],[(2,.box T.dU [.w 4 z.2.1.length,.v (.int .i64 n),.v (.slice none 0 0),.w 5 z.2.2.2.2.1.length]),(5,.vec T.int 1 (z.2.2.2.2.1.map fun c:Nat=>.int .i64 (c:Int))),(4,.vec T.fU 1 z.2.1),(0,.box T.dc [.v (.slice am M.length cm),.v (.int .i64 n)]),(1,.box T.dU [.v (.slice none 0 0),.v (.int .i64 0),.v (.slice none 0 0),.v (.slice none 0 0)]),(3,.arr T.int (z.2.2.2.1.map Lx))],6,z.2.2.2.2.2.2,z.2.2.2.2.2.1⟩,fun z=>M.length-z.1,
  fun z=>z.1<=M.length∧(z.2.2.1,z.2.2.2.1,z.2.2.2.2.1)=gR M cols z.1∧dm w.heap.size w z.2.2.2.2.2.1∧lk z.2.2.2.2.2.1 S w.heap.size z.2.2.2.2.2.2 z.2.1 n z.2.2.1,?_,?_⟩
 ·intro O w' r
  exact⟨(0,[],[],List.replicate cols none,[],w',[]),⟨aP _,rfl,hw.tr r.cP,lk.nil⟩,Sub.BK 2 0 T.fU 1 rfl rfl (by simp[jX,SV.sc,At.sc]) r fun ρ1 r1=>Sub.BK 2 3 T.int 1 rfl rfl (by simp[jX,SV.sc,At.sc]) r1 fun ρ2 r2=>
   Sub.gn [] r2 ⟨rfl,rfl,rfl,rfl,rfl,by simp[Lx];rfl,trivial⟩⟩
 rintro⟨i,rv,E,at_,fr,w1,iv⟩ ⟨hi,QE,hw,hE⟩;dsimp only at hi QE hw hE ⊢;have OI:=zH cols hlen i hi;rw[<-QE]at OI;have hatl:at_.length=cols:=OI.at_;have hfrl:fr.length=E.length:=OI.uh;have hEi:E.length<=i:=OI.le;have Ok:rv.length=E.length:=hE.len;have hEb:∀r∈E,∀q∈r,rl q+1<=h:=by have:=hB.rows i hi;rwa [<-QE]at this
 refine dM.mk ?_ ?_<;>intro OF
 ·have OF:i<M.length:=by simpa using OF
  obtain⟨x,hx⟩:∃r,M[i]? =some r:=⟨_,aB OF⟩
  have PO:=hlen x (aC hx);have UD:M.getD i []=x:=by rw[List.getD,hx];rfl
  have Pv:∀k,k<=cols->∀q∈fW E at_ x k,rl q+1<=h:=by have:=hB.mJ i OF;rwa [<-QE,UD]at this
  have hcll:∀k,(fW E at_ x k).length=n:=fun k=>by rw[iA,PO]
  obtain⟨adm,um,Qs,PK,km1,km2⟩:=ke.load hM hx;obtain⟨css,⟨-,g1,g2,a0,c0,rfl,g4,g5⟩,PV,Qt,Ov⟩:=PK;have OY:=eN Qt;refine⟨adm,Qs,by omega,.slice a0 x.length c0,rd1 km2 hw (hC _ km1),?_⟩;refine .inl ?_;refine⟨css.flatten,g1,g2,fun O w' r Ot=>?_,?_⟩
  ·obtain⟨u0,Rl⟩:∃u,css.flatten[0]? =some u:=⟨_,aB (by omega)⟩
   obtain⟨ad,ha,_,_⟩:=g5 0 u0 Rl;refine⟨ad,ha,fun j u hj=>?_⟩;obtain⟨ad2,Oq,q1,q2⟩:=g5 j u hj;rw[ha]at Oq;injection Oq with Oq;subst Oq;rw[cG (w:=w) (w2:=w') (by rw[dE];exact(hw.tr r.cP).block _ (hS _ q1))];exact q2
  refine⟨rfl,by omega,by unfold maxLen;omega,?_⟩;rw[aR x.length,PO]
  refine⟨Nat×Nat×Nat×World×Iv,fun z=>⟨[(9,.o (.v (.slice (some ⟨z.2.1,0,none⟩) n z.2.2.1))),(46,iZ cols),(47,iN z.1),(2,pP 0 0),(4,pP 1 0),(5,pP 2 0),(6,.o (.s 3 0 cols cols)),(8,iN i),(36,sV am M.length cm),(37,iZ M.length),(38,iN i),(1,iZ cols)],[(2,.box T.dU [.w 4 rv.length,.v (.int .i64 n),.v (.slice none 0 0),.w 5 fr.length]),(5,.vec T.int 1 (fr.map fun c:Nat=>.int .i64 (c:Int))),(4,.vec T.fU 1 rv),(0,.box T.dc [.v (.slice am M.length cm),.v (.int .i64 n)]),(1,.box T.dU [.v (.slice none 0 0),.v (.int .i64 0),.v (.slice none 0 0),.v (.slice none 0 0)]),(3,.arr T.int (at_.map Lx))],8,z.2.2.2.2,z.2.2.2.1⟩,fun z=>cols-z.1,
   fun z=>z.1<=cols∧dm w.heap.size w z.2.2.2.1∧lk z.2.2.2.1 S w.heap.size z.2.2.2.2 (rv++[.slice (some ⟨z.2.1,0,none⟩) n z.2.2.1]) n (E++[fW E at_ x z.1]),?_,?_⟩
  ·intro O w' r;have hv:=aA1 (S:=S) (m:=n) (qs:=x) (css:=css) r (id:=7) rfl (by omega) hn0 (by unfold maxLen;omega) ⟨PV,fun j cs q k1 k2=>(Ov j cs q k1 k2).cH fun g hg=>(hw.tr r.cP).block g (hS g hg)⟩
   exact⟨(0,(O 7).g,(O 7).cap,w',((O 7).g,(O 7).g+1)::iv),⟨aP _,hw.tr r.cP,(hE.rel r hS).push (fun g hg e=>Rel.not r hS hg 7 _ rfl hv.1 e.symm) hv.2.1 hv.2.2.2 hS⟩,
    Sub.aA0 r (id:=7) (t:=9) (cs:=css.flatten) rfl hv.1 rfl ⟨rfl,rfl,rfl,rfl,rfl,rfl,trivial⟩ rfl ⟨rfl,rfl,rfl,rfl,rfl,rfl,rfl,rfl,rfl,rfl,rfl,trivial⟩ (by simp[jX,SV.sc,At.sc])⟩
  rintro⟨k,gx,cx,w2,iv⟩ ⟨hk,hw,hE⟩;dsimp only at hk hw hE ⊢;refine dM.mk ?_ ?_<;>intro OK
  ·have OK:k<cols:=by simpa using OK
   obtain⟨o,ho⟩:∃o,at_[k]? =some o:=⟨_,aB (by omega)⟩
   refine⟨by omega,Lx o,by rw[aE,aT,aR,aM,ho];rfl,?_⟩
   cases o with
   |none=>
    refine⟨((k+1:Nat):Int),wo,?_⟩;intro ρ3 w3 r3;exact⟨(k+1,gx,cx,w3,_),⟨OK,hw.tr r3.cP,by dsimp only;rw[Gy ho];exact hE.rel r3 hS⟩,Sub.gn [] r3,by dsimp only;omega⟩
   |some j=>
    have hj:j<E.length:=OI.lt k j ho;have hq:∃q,(fW E at_ x k)[k]? =some q:=⟨_,aB (by rw[hcll];omega)⟩
    obtain⟨q,hq⟩:=hq;have Tx:(fW E at_ x k).getD k 0=q:=by rw[List.getD,hq];rfl
    have UQ:=Pv k hk q (aC hq);have VV:(rv++[.slice (some ⟨gx,0,none⟩) n cx])[rv.length]? =some (.slice (some ⟨gx,0,none⟩) n cx):=by simp
    have Ty:(E++[fW E at_ x k])[rv.length]? =some (fW E at_ x k):=by rw[Ok];simp
    obtain⟨ad,cs,OW,hF,hl⟩:=hE.load VV Ty hq;obtain⟨f0,f1,f2,f3,f4,f5,f6,f7,rfl,hF⟩:=hF;refine⟨ad,OW,by omega,[.bool f0,.slice f1 f2 f3,.bool f4,.slice f5 f6 f7],rfl,fun O w' r t u hu=>?_,?_⟩
    ·obtain⟨k1,k2⟩:=hl t u hu;rw[aE,cG (w:=w2) (w2:=w') (by rw[dE,dE];exact Rel.same r (gV _) k1)];exact k2
    refine cC (cE hw (fun _ w' v w2=>∃d,v= .bool d∧(d=true↔q=0)) (fun O w' r=>mh (Lr.old r hS) ((hF.FO r hS).l (by omega))) ?_);rintro O _ _ Pe OM r he hw h_ ⟨d,rfl,hz⟩;replace hE:=hE.cF r hS he (mC h_);replace hF:=hF.My r hS he (mC h_)
    cases d
    ·have hq0:q≠0:=fun e=>by have:=hz.2 e;cases this
     obtain⟨vj,S3⟩:∃v,rv[j]? =some v:=⟨_,aB (by omega)⟩
     have Su:(rv++[.slice (some ⟨gx,0,none⟩) n cx])[j]? =some vj:=by rw[aK (by omega)];exact S3
     obtain⟨ej,UU⟩:∃v,E[j]? =some v:=⟨_,aB hj⟩
     have UW:(E++[fW E at_ x k])[j]? =some ej:=by rw[aK hj];exact UU
     have hejd:E.getD j []=ej:=by rw[List.getD,UU];rfl
     obtain⟨aj,cj,rfl⟩:=hE.form Su;obtain⟨ad,cs,OW,hF,hl⟩:=hE.load VV Ty hq;obtain⟨f0,f1,f2,f3,f4,f5,f6,f7,rfl,hF⟩:=hF;refine cK hτ dZ [.x 0,.x 1,.x 2,.x 3,.x 4,.x 5,.x 6,.x 7,.x 8,.x 9,.x 10,.x 11] (by kernel_rfl) (by kernel_rfl) ?_;refine⟨by simp,by omega,.slice aj n cj,by simpa using S3,ad,OW,by omega,[.bool f0,.slice f1 f2 f3,.bool f4,.slice f5 f6 f7],rfl,fun O w' r t u hu=>?_,?_⟩
     ·obtain⟨k1,k2⟩:=hl t u hu;rw[aE,cG (w:=Pe) (w2:=w') (by rw[dE,dE];exact Rel.same r (gV _) k1)];exact k2
     refine⟨fun O w' r=>?_⟩;refine(hE.DV r hS (i:=rv.length) (j:=j) (h:=h) (by omega) VV Su Ty UW (hF.l (by omega)) (fun y hy=>Pv k hk y hy) (fun y hy=>hEb ej (aC UU) y hy) UQ hh).mono fun e w8 he=>?_;obtain⟨rfl,PW,TS,OZ⟩:=he;have PE:=(hw.tr r.cP).tr (hE.cP r PW TS);refine⟨.tuple #[],_,(w'.heap.size,w8.heap.size)::OM,rfl,r.FP (fun x hx=>Rel.not r (gV _) (hE.new x (TS x hx))) PW,?_⟩;have OO:(E++[fW E at_ x k]).set rv.length (mP (fW E at_ x k) ej q)=E++[fW E at_ x (k+1)]:=by rw[Ok,FN,AS ho,hejd,Tx]
     rw[OO]at OZ;generalize (w'.heap.size,w8.heap.size)::OM=Qn at*
     refine⟨((k+1:Nat):Int),wo,?_⟩;intro ρ3 w3 r3;exact⟨(k+1,gx,cx,w3,_),⟨OK,PE.tr r3.cP,OZ.rel r3 hS⟩,Sub.gn [] r3,by dsimp only;omega⟩
    ·have hq0:q=0:=hz.1 rfl;refine⟨((k+1:Nat):Int),wo,?_⟩;intro ρ3 w3 r3;exact⟨(k+1,gx,cx,w3,_),⟨OK,hw.tr r3.cP,by dsimp only;rw[AS ho,Tx,hq0,zF];exact hE.rel r3 hS⟩,Sub.gn [] r3,by dsimp only;omega⟩
  have OK:k=cols:=aQ hk (by simpa using OK);rw[OK]at hE;obtain⟨y,hy⟩:∃y,fW E at_ x cols=y:=⟨_,rfl⟩
  have TO:y.length=n:=by rw[<-hy];exact hcll cols
  have UH:∀q∈y,rl q+1<=h:=by rw[<-hy];exact Pv cols (aF _)
  rw[hy]at hE;have VV:(rv++[.slice (some ⟨gx,0,none⟩) n cx])[rv.length]? =some (.slice (some ⟨gx,0,none⟩) n cx):=by simp
  refine⟨Nat×World×Iv,fun z=>⟨[(9,.o (.v (.slice (some ⟨gx,0,none⟩) n cx))),(12,iN z.1),(2,pP 0 0),(4,pP 1 0),(5,pP 2 0),(6,.o (.s 3 0 cols cols)),(8,iN i),(36,sV am M.length cm),(37,iZ M.length),(38,iN i),(1,iZ cols)],[(2,.box T.dU [.w 4 rv.length,.v (.int .i64 n),.v (.slice none 0 0),.w 5 fr.length]),(5,.vec T.int 1 (fr.map fun c:Nat=>.int .i64 (c:Int))),(4,.vec T.fU 1 rv),(0,.box T.dc [.v (.slice am M.length cm),.v (.int .i64 n)]),(1,.box T.dU [.v (.slice none 0 0),.v (.int .i64 0),.v (.slice none 0 0),.v (.slice none 0 0)]),(3,.arr T.int (at_.map Lx))],8,z.2.2,z.2.1⟩,fun z=>cols-z.1,
   fun z=>z.1<=cols∧(∀t,t<z.1->y.getD t 0=0)∧dm w.heap.size w z.2.1∧lk z.2.1 S w.heap.size z.2.2 (rv++[.slice (some ⟨gx,0,none⟩) n cx]) n (E++[y]),?_,?_⟩
  ·intro O w' r3;exact⟨(0,w',_),⟨aP _,fun t ht=>absurd ht (Nat.not_lt_zero t),hw.tr r3.cP,hE.rel r3 hS⟩,Sub.gn [] r3⟩
  rintro⟨pv,w3,iv⟩ ⟨hp,Uz,hw,hE⟩;dsimp only at hp Uz hw hE ⊢;have Ty:(E++[y])[rv.length]? =some y:=by rw[Ok];simp
  refine dM.mk ?_ ?_<;>intro VA
  ·have VA:pv<cols:=by simpa using VA
   obtain⟨q,hq⟩:∃q,y[pv]? =some q:=⟨_,aB (by omega)⟩
   have Tx:y.getD pv 0=q:=by rw[List.getD,hq];rfl
   have UQ:=UH q (aC hq);obtain⟨ad,cs,OW,hF,hl⟩:=hE.load VV Ty hq;obtain⟨f0,f1,f2,f3,f4,f5,f6,f7,rfl,hF⟩:=hF;refine⟨ad,OW,by omega,[.bool f0,.slice f1 f2 f3,.bool f4,.slice f5 f6 f7],rfl,fun O w' r t u hu=>?_,?_⟩
   ·obtain⟨k1,k2⟩:=hl t u hu;rw[aE,cG (w:=w3) (w2:=w') (by rw[dE,dE];exact Rel.same r (gV _) k1)];exact k2
   refine cC (cE hw (fun _ w' v w2=>∃d,v= .bool d∧(d=true↔q=0)) (fun O w' r=>mh (Lr.old r hS) ((hF.FO r hS).l (by omega))) ?_);rintro O _ _ PB OJ r he hw h_ ⟨d,rfl,hz⟩;replace hE:=hE.cF r hS he (mC h_)
   cases d
   ·have hq0:q≠0:=fun e=>by have:=hz.2 e;cases this
    refine dM.mk ?_ ?_<;>intro he
    ·have he:(pv:Int)=cols:=by simpa using he
     omega
    have Tc:tR y cols=pv:=Hj Uz hp fun _=>by rw[Tx];exact hq0
    have SC:=HA QE UD hy Tc (by omega);rw[Tx]at SC;obtain⟨u,hu⟩:∃u,y.map (· / q)=u:=⟨_,rfl⟩
    rw[hu]at SC;have hul:u.length=n:=by rw[<-hu,aJ,TO]
    have hub:∀q∈u,rl q+1<=h:=by
     have:=hB.rows (i+1) OF u (by rw[SC];simp);exact this
    obtain⟨ad,cs,OW,hF,hl⟩:=hE.load VV Ty hq;obtain⟨f0,f1,f2,f3,f4,f5,f6,f7,rfl,hF⟩:=hF;refine⟨ad,OW,by omega,[.bool f0,.slice f1 f2 f3,.bool f4,.slice f5 f6 f7],rfl,fun O w' r t u hu=>?_,?_⟩
    ·obtain⟨k1,k2⟩:=hl t u hu;rw[aE,cG (w:=PB) (w2:=w') (by rw[dE,dE];exact Rel.same r (gV _) k1)];exact k2
    refine⟨Nat×World×Iv,fun z=>⟨[(9,.o (.v (.slice (some ⟨gx,0,none⟩) n cx))),(12,iN pv),(13,pP 8 0),(97,iZ n),(98,iN z.1),(2,pP 0 0),(4,pP 1 0),(5,pP 2 0),(6,.o (.s 3 0 cols cols)),(8,iN i),(36,sV am M.length cm),(37,iZ M.length),(38,iN i),(1,iZ cols)],[(8,.box T.Rat [.v (.bool f0),.v (.slice f1 f2 f3),.v (.bool f4),.v (.slice f5 f6 f7)]),(2,.box T.dU [.w 4 rv.length,.v (.int .i64 n),.v (.slice none 0 0),.w 5 fr.length]),(5,.vec T.int 1 (fr.map fun c:Nat=>.int .i64 (c:Int))),(4,.vec T.fU 1 rv),(0,.box T.dc [.v (.slice am M.length cm),.v (.int .i64 n)]),(1,.box T.dU [.v (.slice none 0 0),.v (.int .i64 0),.v (.slice none 0 0),.v (.slice none 0 0)]),(3,.arr T.int (at_.map Lx))],9,z.2.2,z.2.1⟩,fun z=>n-z.1,
     fun z=>z.1<=n∧dm w.heap.size w z.2.1∧lk z.2.1 S w.heap.size z.2.2 (rv++[.slice (some ⟨gx,0,none⟩) n cx]) n (E++[gw z.1 (fun _ r=>r / q) y])∧cU z.2.1 (Lr S w.heap.size z.2.2 (rv++[.slice (some ⟨gx,0,none⟩) n cx])) (.agg #[.bool f0,.slice f1 f2 f3,.bool f4,.slice f5 f6 f7]) q,?_,?_⟩
    ·intro O w' r3;exact⟨(0,w',_),⟨aP _,hw.tr r3.cP,by dsimp only;rw[sd];exact hE.rel r3 hS,hF.FO r3 hS⟩,Sub.gn [] r3⟩
    rintro⟨k,w4,iv⟩ ⟨hk,hw,hE,hF⟩;dsimp only at hk hw hE hF ⊢;have Ty:(E++[gw k (fun _ r=>r / q) y])[rv.length]? =some (gw k (fun _ r=>r / q) y):=by rw[Ok];simp
    refine dM.mk ?_ ?_<;>intro OK
    ·have OK:k<n:=by simpa using OK
     obtain⟨t,ht⟩:∃q,y[k]? =some q:=⟨_,aB (by omega)⟩
     have Qe:=UH t (aC ht);obtain⟨ad,cs,OW,hG,hl⟩:=hE.load VV Ty (AR ht);obtain⟨g0,g1,g2,g3,g4,g5,g6,g7,rfl,hG⟩:=hG;refine cK hτ dZ [.x 0,.x 1,.x 2,.x 3,.x 4,.x 5,.x 6,.x 7,.x 8,.x 9] (by kernel_rfl) (by kernel_rfl) ?_;refine⟨ad,OW,by omega,[.bool g0,.slice g1 g2 g3,.bool g4,.slice g5 g6 g7],rfl,fun O w' r t u hu=>?_,?_⟩
     ·obtain⟨k1,k2⟩:=hl t u hu;rw[aE,cG (w:=w4) (w2:=w') (by rw[dE,dE];exact Rel.same r (gV _) k1)];exact k2
     refine cM (Φ:=fun _ w' v w2=>cU w2 (Nf w' w2) v (t / q)) (fun O w' r=>Nn (Lr.old r hS) ((hG.FO r hS).l (by omega)) ((hF.FO r hS).l (by omega)) hq0) ?_;rintro O PX v3 PU r he hb RY;replace hw:=hw.tr hb;have hd:=RY.aAj (S0:=S) hE r;replace hE:=hE.cF (iv':=(PX.heap.size,PU.heap.size)::iv) r hS he fun x hx=>List.mem_cons_of_mem _ hx;replace hF:=hF.My (iv':=(PX.heap.size,PU.heap.size)::iv) r hS he fun x hx=>List.mem_cons_of_mem _ hx;generalize (PX.heap.size,PU.heap.size)::iv=OP at*
     obtain⟨A0,A1,A2,A3,A4,A5,A6,A7,rfl⟩:=hd.shape;refine⟨⟨gx,0,none⟩,rfl,by omega,?_⟩;intro O w' r;obtain⟨g,hg,h1,h2,h3,h4⟩:=hE.store r hS VV Ty OK hd;injection hg with hg;injection hg with hg;subst hg;refine⟨h1,h2,h3,fun w5 Qg=>?_⟩;obtain⟨k1,k2,k3,k4⟩:=h4 w5 Qg;have PE:=(hw.tr r.cP).tr k2;have Rc:=hF.cH k4;have OO:(E++[gw k (fun _ r=>r / q) y]).set rv.length ((gw k (fun _ r=>r / q) y).set k (t / q))=E++[gw (k+1) (fun _ r=>r / q) y]:=by rw[Ok,FN,<-o9 ht]
     rw[OO]at k1;refine⟨((k+1:Nat):Int),wo,?_⟩;intro ρ3 w6 r3;exact⟨(k+1,w6,_),⟨OK,PE.tr r3.cP,k1.rel r3 hS,Rc.FO r3 hS⟩,Sub.gn [] r3,by dsimp only;omega⟩
    have OK:k=n:=aQ hk (by simpa using OK);rw[OK,<-TO,Kw,hu,TO]at hE
    refine⟨by simp,Nat×World×Iv,fun z=>⟨[(9,.o (.v (.slice (some ⟨gx,0,none⟩) n cx))),(12,iN pv),(113,.o (.w 4 rv.length)),(114,iZ rv.length),(115,iN z.1),(2,pP 0 0),(4,pP 1 0),(5,pP 2 0),(6,.o (.s 3 0 cols cols)),(8,iN i),(36,sV am M.length cm),(37,iZ M.length),(38,iN i),(1,iZ cols)],[(2,.box T.dU [.w 4 rv.length,.v (.int .i64 n),.v (.slice none 0 0),.w 5 fr.length]),(5,.vec T.int 1 (fr.map fun c:Nat=>.int .i64 (c:Int))),(4,.vec T.fU 1 rv),(0,.box T.dc [.v (.slice am M.length cm),.v (.int .i64 n)]),(1,.box T.dU [.v (.slice none 0 0),.v (.int .i64 0),.v (.slice none 0 0),.v (.slice none 0 0)]),(3,.arr T.int (at_.map Lx))],9,z.2.2,z.2.1⟩,fun z=>rv.length-z.1,
     fun z=>z.1<=rv.length∧dm w.heap.size w z.2.1∧lk z.2.1 S w.heap.size z.2.2 (rv++[.slice (some ⟨gx,0,none⟩) n cx]) n (gJ E u pv z.1++[u]),?_,?_⟩
    ·intro O w' r3;exact⟨(0,w',_),⟨aP _,hw.tr r3.cP,by dsimp only;rw[Gc];exact hE.rel r3 hS⟩,Sub.gn [] r3⟩
    rintro⟨j,w5,iv⟩ ⟨hj,hw,hE⟩;dsimp only at hj hw hE ⊢;refine dM.mk ?_ ?_<;>intro Pf
    ·have Pf:j<rv.length:=by simpa using Pf
     obtain⟨ej,UU⟩:∃v,E[j]? =some v:=⟨_,aB (by omega)⟩
     have SN:ej.length=n:=OI.len ej (aC UU);have heb:=hEb ej (aC UU);obtain⟨vj,S3⟩:∃v,rv[j]? =some v:=⟨_,aB Pf⟩
     have Su:(rv++[.slice (some ⟨gx,0,none⟩) n cx])[j]? =some vj:=by rw[aK Pf];exact S3
     have UW:(gJ E u pv j++[u])[j]? =some ej:=by rw[aK (by rw[fq];omega)];exact Eg UU
     have hur:(gJ E u pv j++[u])[rv.length]? =some u:=by rw[Ok,<-fq E u pv j];simp
     obtain⟨t,ht⟩:∃q,ej[pv]? =some q:=⟨_,aB (by omega)⟩
     have htd:ej.getD pv 0=t:=by rw[List.getD,ht];rfl
     have Qe:=heb t (aC ht);obtain⟨aj,cj,rfl⟩:=hE.form Su;obtain⟨ad,cs,OW,hG,hl⟩:=hE.load Su UW ht;obtain⟨g0,g1,g2,g3,g4,g5,g6,g7,rfl,hG⟩:=hG;refine⟨by simp,by omega,.slice aj n cj,by simpa using S3,ad,OW,by omega,[.bool g0,.slice g1 g2 g3,.bool g4,.slice g5 g6 g7],rfl,fun O w' r t u hu=>?_,?_⟩
     ·obtain⟨k1,k2⟩:=hl t u hu;rw[aE,cG (w:=w5) (w2:=w') (by rw[dE,dE];exact Rel.same r (gV _) k1)];exact k2
     refine cC (cE hw (fun _ w' v w2=>∃d,v= .bool d∧(d=true↔t=0)) (fun O w' r=>mh (Lr.old r hS) ((hG.FO r hS).l (by omega))) ?_);rintro O _ _ Pw OR r he hw h_ ⟨d,rfl,hz⟩;replace hE:=hE.cF r hS he (mC h_)
     cases d
     ·have ht0:t≠0:=fun e=>by have:=hz.2 e;cases this
      obtain⟨ad,cs,OW,hG,hl⟩:=hE.load Su UW ht;obtain⟨g0,g1,g2,g3,g4,g5,g6,g7,rfl,hG⟩:=hG;refine⟨ad,OW,by omega,[.bool g0,.slice g1 g2 g3,.bool g4,.slice g5 g6 g7],rfl,fun O w' r t u hu=>?_,?_⟩
      ·obtain⟨k1,k2⟩:=hl t u hu;rw[aE,cG (w:=Pw) (w2:=w') (by rw[dE,dE];exact Rel.same r (gV _) k1)];exact k2
      refine⟨fun O w' r=>?_⟩;refine(hE.DV r hS (i:=j) (j:=rv.length) (h:=h) (by omega) Su VV UW hur (hG.l (by omega)) heb hub Qe hh).mono fun e w8 he=>?_;obtain⟨rfl,PW,TS,OZ⟩:=he;have PE:=(hw.tr r.cP).tr (hE.cP r PW TS);refine⟨.tuple #[],_,(w'.heap.size,w8.heap.size)::OR,rfl,r.FP (fun x hx=>Rel.not r (gV _) (hE.new x (TS x hx))) PW,?_⟩;have OO:(gJ E u pv j++[u]).set j (mP ej u t)=gJ E u pv (j+1)++[u]:=by rw[Kv _ _ (by rw[fq];omega),zG UU,htd]
      rw[OO]at OZ;generalize (w'.heap.size,w8.heap.size)::OR=Qn at*
      refine⟨((j+1:Nat):Int),wo,?_⟩;intro ρ3 w6 r3;exact⟨(j+1,w6,_),⟨Pf,PE.tr r3.cP,OZ.rel r3 hS⟩,Sub.gn [] r3,by dsimp only;omega⟩
     ·have ht0:t=0:=hz.1 rfl;refine⟨((j+1:Nat):Int),wo,?_⟩;intro ρ3 w6 r3;exact⟨(j+1,w6,_),⟨Pf,hw.tr r3.cP,by dsimp only;rw[HB UU (by rw[htd,ht0])];exact hE.rel r3 hS⟩,Sub.gn [] r3,by dsimp only;omega⟩
    have Pf:j=E.length:=by have:=aQ hj (by simpa using Pf);omega
    rw[Pf]at hE;refine⟨by simp,by omega,by simp;omega,(at_.set pv (some rv.length)).map Lx,?_,?_⟩
    ·rw[aE,aT,aR,List.map_set];exact fu (by simp;omega)
    refine iq hτ dZ (.x 0 (.x 1 (.x 3 (.x 6 (.x 8 (.ld 2 64544 (.ld 7 64512 (.two 4 (.two 5 (.x 11 (.x 12 (.x 9 (.x 10 (.x 13 (.x 14 (.x 15 .nil))))))) 9 (.x 5 (.x 11 (.x 12 (.x 10 (.x 13 (.x 14 (.x 15 .nil)))))))) 9 (.x 4 (.x 5 (.x 11 (.x 12 (.x 10 (.x 13 (.x 14 (.x 15 .nil)))))))))))))))) (by kernel_rfl) (by kernel_rfl) ?_;refine⟨?_,?_⟩
    ·refine⟨rfl,rfl,?_,?_⟩
     ·refine .inl ?_;refine⟨by simp,by omega,by unfold maxLen;omega,rfl,rfl,?_⟩;refine .inl ?_;refine⟨by simp,by omega,by unfold maxLen;omega,((i+1:Nat):Int),wo,?_⟩;intro ρ3 w6 r3;exact⟨(i+1,rv++[.slice (some ⟨gx,0,none⟩) n cx],gJ E u pv E.length++[u],at_.set pv (some E.length),fr++[i],w6,_),⟨OF,SC.symm,hw.tr r3.cP,hE.rel r3 hS⟩,Sub.gn [(4,10),(5,12)] r3 ⟨by dsimp only;rw[List.length_append,List.length_append,List.length_singleton,List.length_singleton];rfl,by dsimp only;rw[List.map_append];rfl,rfl,rfl,rfl,by dsimp only;rw[<-Ok];rfl,trivial⟩,by dsimp only;omega⟩
     ·refine⟨rfl,rfl,?_⟩;refine .inl ?_;refine⟨by simp,by omega,by unfold maxLen;omega,rfl,?_⟩;refine .inl ?_;refine⟨by simp,by omega,by unfold maxLen;omega,((i+1:Nat):Int),wo,?_⟩;intro ρ3 w6 r3;exact⟨(i+1,rv++[.slice (some ⟨gx,0,none⟩) n cx],gJ E u pv E.length++[u],at_.set pv (some E.length),fr++[i],w6,_),⟨OF,SC.symm,hw.tr r3.cP,hE.rel r3 hS⟩,Sub.gn [(4,11),(5,12)] r3 ⟨by dsimp only;rw[List.length_append,List.length_append,List.length_singleton,List.length_singleton];rfl,by dsimp only;rw[List.map_append];rfl,rfl,rfl,rfl,by dsimp only;rw[<-Ok];rfl,trivial⟩,by dsimp only;omega⟩
    ·refine⟨rfl,rfl,rfl,rfl,?_⟩;refine .inl ?_;refine⟨by simp,by omega,by unfold maxLen;omega,rfl,?_⟩;refine .inl ?_;refine⟨by simp,by omega,by unfold maxLen;omega,((i+1:Nat):Int),wo,?_⟩;intro ρ3 w6 r3;exact⟨(i+1,rv++[.slice (some ⟨gx,0,none⟩) n cx],gJ E u pv E.length++[u],at_.set pv (some E.length),fr++[i],w6,_),⟨OF,SC.symm,hw.tr r3.cP,hE.rel r3 hS⟩,Sub.gn [(4,11),(5,12)] r3 ⟨by dsimp only;rw[List.length_append,List.length_append,List.length_singleton,List.length_singleton];rfl,by dsimp only;rw[List.map_append];rfl,rfl,rfl,rfl,by dsimp only;rw[<-Ok];rfl,trivial⟩,by dsimp only;omega⟩
   ·have hq0:q=0:=hz.1 rfl;refine⟨((pv+1:Nat):Int),wo,?_⟩;intro ρ3 w4 r3
    exact⟨(pv+1,w4,_),⟨VA,fun t ht=>by
     by_cases htp:t=pv
     ·rw[htp,Tx,hq0]
     ·exact Uz t (by dsimp only at ht;omega),hw.tr r3.cP,hE.rel r3 hS⟩,Sub.gn [] r3,by dsimp only;omega⟩
  have VA:pv=cols:=aQ hp (by simpa using VA);have Tc:tR y cols=cols:=Hj (k:=cols) (fun t ht=>Uz t (by omega)) (aF _) (fun h=>absurd h (Nat.lt_irrefl _));have hskip:=Gz QE UD hy Tc;refine dM.mk (fun he=>?_) (fun he=>by rw[VA]at he;simp at he);refine⟨((i+1:Nat):Int),wo,?_⟩;intro ρ3 w4 r3;exact⟨(i+1,rv,E,at_,fr,w4,_),⟨OF,hskip,hw.tr r3.cP,hE.drop.rel r3 hS⟩,Sub.gn [] r3,by dsimp only;omega⟩
 have OF:i=M.length:=aQ hi (by simpa using OF);subst OF;have hredS:dX M cols=dG (E,at_,fr) cols:=by rw[dX,<-QE]
 have Od:∀(k r:Nat),at_[k]? =some (some r)->r<E.length:=OI.lt;have RS:∀k,k<=cols->(dG (E,at_,fr) k).1.length=(dG (E,at_,fr) k).2.1.length∧(dG (E,at_,fr) k).2.2.length=(dG (E,at_,fr) k).2.1.length∧(kp rv at_ k).length=(dG (E,at_,fr) k).2.1.length∧(dG (E,at_,fr) k).2.1.length<=k:=fun k hk=>uR (E,at_,fr) rv k (by dsimp only;omega)
 refine⟨Nat×World,fun z=>⟨[(4,pP 1 0),(5,pP 2 0),(17,pP 6 0),(159,.o (.s 3 0 cols cols)),(160,iZ cols),(161,iN z.1)],[(6,.box T.dU [.w 7 (dG (E,at_,fr) z.1).2.1.length,.v (.int .i64 n),.w 8 (dG (E,at_,fr) z.1).2.1.length,.w 9 (dG (E,at_,fr) z.1).2.1.length]),(9,.vec T.int 1 ((dG (E,at_,fr) z.1).2.2.map fun c:Nat=>.int .i64 (c:Int))),(8,.vec T.int 1 ((dG (E,at_,fr) z.1).2.1.map fun c:Nat=>.int .i64 (c:Int))),(7,.vec T.fU 1 (kp rv at_ z.1)),(2,.box T.dU [.w 4 rv.length,.v (.int .i64 n),.v (.slice none 0 0),.w 5 fr.length]),(5,.vec T.int 1 (fr.map fun c:Nat=>.int .i64 (c:Int))),(4,.vec T.fU 1 rv),(1,.box T.dU [.v (.slice none 0 0),.v (.int .i64 0),.v (.slice none 0 0),.v (.slice none 0 0)]),(3,.arr T.int (at_.map Lx))],10,iv,z.2⟩,fun z=>cols-z.1,
  fun z=>z.1<=cols∧dm w.heap.size w z.2∧lk z.2 S w.heap.size iv rv n E,?_,?_⟩
 ·intro O w' r
  exact⟨(0,w'),⟨aP _,hw.tr r.cP,hE.rel r hS⟩,Sub.BK 6 0 T.fU 1 rfl rfl (by simp[jX,SV.sc,At.sc]) r fun ρ1 r1=>Sub.BK 6 2 T.int 1 rfl rfl (by simp[jX,SV.sc,At.sc]) r1 fun ρ2 r2=>Sub.BK 6 3 T.int 1 rfl rfl (by simp[jX,SV.sc,At.sc]) r2 fun ρ3 r3=>
   Sub.gn [] r3⟩
 rintro⟨k,w1⟩ ⟨hk,hw,hE⟩;dsimp only at hk hw hE ⊢;obtain⟨q1,q2,q3,q4⟩:=RS k hk;refine dM.mk ?_ ?_<;>intro OK
 ·have OK:k<cols:=by simpa using OK
  obtain⟨o,ho⟩:∃o,at_[k]? =some o:=⟨_,aB (by omega)⟩
  refine⟨by omega,Lx o,by rw[aE,aT,aR,aM,ho];rfl,?_⟩
  cases o with
  |none=>
   refine⟨((k+1:Nat):Int),wo,?_⟩;have PJ:=mi (s:=(E,at_,fr)) ho;have Q9:=se (rv:=rv) ho;intro ρ3 w3 r3;exact⟨(k+1,w3),⟨OK,hw.tr r3.cP,hE.rel r3 hS⟩,Sub.gn [] r3 ⟨by dsimp only;rw[PJ];rfl,by dsimp only;rw[PJ];rfl,by dsimp only;rw[PJ];rfl,by dsimp only;rw[Q9];rfl,rfl,rfl,rfl,rfl,rfl,trivial⟩,by dsimp only;omega⟩
  |some j=>
   have hj:j<E.length:=Od k j ho;obtain⟨vj,S3⟩:∃v,rv[j]? =some v:=⟨_,aB (by omega)⟩
   have hvjd:rv.getD j (.bool false)=vj:=by rw[List.getD,S3];rfl
   obtain⟨aj,cj,rfl⟩:=hE.form S3;obtain⟨fj,Sh⟩:∃v,fr[j]? =some v:=⟨_,aB (by omega)⟩
   have hfjd:fr.getD j 0=fj:=by rw[List.getD,Sh];rfl
   have PJ:=mj (s:=(E,at_,fr)) ho;have Q9:=sf (rv:=rv) ho;dsimp only at PJ;rw[hvjd]at Q9;rw[hfjd]at PJ;refine iq hτ dZ (.x 0 (.x 1 (.x 3 (.x 4 (.x 6 (.x 11 (.x 13 (.x 16 (.x 18 (.x 20 (.ld 2 4278223872 (.ld 5 4278224768 (.x 7 (.ld 8 4278224384 (.ld 12 4278222848 (.ld 17 4278190080 (.ld 19 4192206848 (.x 21 (.ld 22 4185915392 (.three 9 (.three 10 (.x 25 (.x 26 (.two 14 (.two 15 (.x 23 (.x 24 (.x 27 (.x 28 (.x 29 (.x 30 (.x 31 .nil))))))) 23 (.x 15 (.x 24 (.x 27 (.x 28 (.x 29 (.x 30 (.x 31 .nil)))))))) 23 (.x 14 (.x 15 (.x 24 (.x 27 (.x 28 (.x 29 (.x 30 (.x 31 .nil))))))))))) 14 (.two 10 (.x 25 (.x 26 (.two 15 (.x 23 (.x 24 (.x 27 (.x 28 (.x 29 (.x 30 (.x 31 .nil))))))) 23 (.x 15 (.x 24 (.x 27 (.x 28 (.x 29 (.x 30 (.x 31 .nil)))))))))) 23 (.x 10 (.x 25 (.x 26 (.x 15 (.x 24 (.x 27 (.x 28 (.x 29 (.x 30 (.x 31 .nil))))))))))) 23 (.two 10 (.x 25 (.x 26 (.x 14 (.x 15 (.x 24 (.x 27 (.x 28 (.x 29 (.x 30 (.x 31 .nil)))))))))) 14 (.x 10 (.x 25 (.x 26 (.x 15 (.x 24 (.x 27 (.x 28 (.x 29 (.x 30 (.x 31 .nil)))))))))))) 14 (.two 9 (.two 10 (.x 25 (.x 26 (.two 15 (.x 23 (.x 24 (.x 27 (.x 28 (.x 29 (.x 30 (.x 31 .nil))))))) 23 (.x 15 (.x 24 (.x 27 (.x 28 (.x 29 (.x 30 (.x 31 .nil)))))))))) 23 (.x 10 (.x 25 (.x 26 (.x 15 (.x 24 (.x 27 (.x 28 (.x 29 (.x 30 (.x 31 .nil))))))))))) 23 (.x 9 (.x 10 (.x 25 (.x 26 (.x 15 (.x 24 (.x 27 (.x 28 (.x 29 (.x 30 (.x 31 .nil)))))))))))) 23 (.two 9 (.two 10 (.x 25 (.x 26 (.x 14 (.x 15 (.x 24 (.x 27 (.x 28 (.x 29 (.x 30 (.x 31 .nil)))))))))) 14 (.x 10 (.x 25 (.x 26 (.x 15 (.x 24 (.x 27 (.x 28 (.x 29 (.x 30 (.x 31 .nil))))))))))) 14 (.x 9 (.x 10 (.x 25 (.x 26 (.x 15 (.x 24 (.x 27 (.x 28 (.x 29 (.x 30 (.x 31 .nil)))))))))))))))))))))))))))))))) (by kernel_rfl) (by kernel_rfl) ?_;refine⟨by simp,by omega,.slice aj n cj,by simpa using S3,by simp,by omega,.int .i64 (fj:Int),by simp[Sh],?_,?_,?_⟩
   ·refine⟨.int .i64 (fj:Int),by simp[Sh],rfl,rfl,rfl,rfl,rfl,?_,?_,?_⟩
    ·refine .inl ?_;refine⟨by simp[q2,q3],by omega,by unfold maxLen;omega,.int .i64 (fj:Int),by simp[Sh],rfl,rfl,rfl,rfl,?_,?_⟩
     ·refine⟨.int .i64 (fj:Int),by simp[Sh],rfl,rfl,rfl,rfl,?_,?_⟩
      ·refine .inl ?_;refine⟨by simp[q2,q3],by omega,by unfold maxLen;omega,.int .i64 (fj:Int),by simp[Sh],rfl,rfl,rfl,rfl,?_⟩;refine .inl ?_;refine⟨by simp[q2,q3],by omega,by unfold maxLen;omega,((k+1:Nat):Int),wo,?_⟩;intro ρ3 w3 r3;exact⟨(k+1,w3),⟨OK,hw.tr r3.cP,hE.rel r3 hS⟩,Sub.gn [(7,11),(8,13),(9,15)] r3 ⟨by dsimp only;rw[PJ,List.length_append,List.length_singleton];rfl,by dsimp only;rw[PJ,List.map_append];rfl,by dsimp only;rw[PJ,List.map_append];rfl,by dsimp only;rw[Q9];rfl,rfl,rfl,rfl,rfl,rfl,trivial⟩,by dsimp only;omega⟩
      ·refine⟨rfl,rfl,?_⟩;refine .inl ?_;refine⟨by simp[q2,q3],by omega,by unfold maxLen;omega,rfl,?_⟩;refine .inl ?_;refine⟨by simp[q2,q3],by omega,by unfold maxLen;omega,((k+1:Nat):Int),wo,?_⟩;intro ρ3 w3 r3;exact⟨(k+1,w3),⟨OK,hw.tr r3.cP,hE.rel r3 hS⟩,Sub.gn [(7,11),(8,14),(9,15)] r3 ⟨by dsimp only;rw[PJ,List.length_append,List.length_singleton];rfl,by dsimp only;rw[PJ,List.map_append];rfl,by dsimp only;rw[PJ,List.map_append];rfl,by dsimp only;rw[Q9];rfl,rfl,rfl,rfl,rfl,rfl,trivial⟩,by dsimp only;omega⟩
     ·refine⟨rfl,rfl,rfl,rfl,?_⟩;refine .inl ?_;refine⟨by simp[q2,q3],by omega,by unfold maxLen;omega,rfl,?_⟩;refine .inl ?_;refine⟨by simp[q2,q3],by omega,by unfold maxLen;omega,((k+1:Nat):Int),wo,?_⟩;intro ρ3 w3 r3;exact⟨(k+1,w3),⟨OK,hw.tr r3.cP,hE.rel r3 hS⟩,Sub.gn [(7,11),(8,14),(9,15)] r3 ⟨by dsimp only;rw[PJ,List.length_append,List.length_singleton];rfl,by dsimp only;rw[PJ,List.map_append];rfl,by dsimp only;rw[PJ,List.map_append];rfl,by dsimp only;rw[Q9];rfl,rfl,rfl,rfl,rfl,rfl,trivial⟩,by dsimp only;omega⟩
    ·refine⟨.int .i64 (fj:Int),by simp[Sh],rfl,rfl,rfl,rfl,rfl,?_,?_⟩
     ·refine .inl ?_;refine⟨by simp[q2,q3],by omega,by unfold maxLen;omega,.int .i64 (fj:Int),by simp[Sh],rfl,rfl,rfl,rfl,?_,?_⟩
      ·refine .inl ?_;refine⟨by simp[q2,q3],by omega,by unfold maxLen;omega,.int .i64 (fj:Int),by simp[Sh],rfl,rfl,rfl,rfl,?_⟩;refine .inl ?_;refine⟨by simp[q2,q3],by omega,by unfold maxLen;omega,((k+1:Nat):Int),wo,?_⟩;intro ρ3 w3 r3;exact⟨(k+1,w3),⟨OK,hw.tr r3.cP,hE.rel r3 hS⟩,Sub.gn [(7,12),(8,13),(9,15)] r3 ⟨by dsimp only;rw[PJ,List.length_append,List.length_singleton];rfl,by dsimp only;rw[PJ,List.map_append];rfl,by dsimp only;rw[PJ,List.map_append];rfl,by dsimp only;rw[Q9];rfl,rfl,rfl,rfl,rfl,rfl,trivial⟩,by dsimp only;omega⟩
      ·refine⟨rfl,rfl,?_⟩;refine .inl ?_;refine⟨by simp[q2,q3],by omega,by unfold maxLen;omega,rfl,?_⟩;refine .inl ?_;refine⟨by simp[q2,q3],by omega,by unfold maxLen;omega,((k+1:Nat):Int),wo,?_⟩;intro ρ3 w3 r3;exact⟨(k+1,w3),⟨OK,hw.tr r3.cP,hE.rel r3 hS⟩,Sub.gn [(7,12),(8,14),(9,15)] r3 ⟨by dsimp only;rw[PJ,List.length_append,List.length_singleton];rfl,by dsimp only;rw[PJ,List.map_append];rfl,by dsimp only;rw[PJ,List.map_append];rfl,by dsimp only;rw[Q9];rfl,rfl,rfl,rfl,rfl,rfl,trivial⟩,by dsimp only;omega⟩
     ·refine⟨rfl,rfl,rfl,?_⟩;refine .inl ?_;refine⟨by simp[q2,q3],by omega,by unfold maxLen;omega,rfl,rfl,?_⟩;refine .inl ?_;refine⟨by simp[q2,q3],by omega,by unfold maxLen;omega,rfl,?_⟩;refine .inl ?_;refine⟨by simp[q2,q3],by omega,by unfold maxLen;omega,((k+1:Nat):Int),wo,?_⟩;intro ρ3 w3 r3;exact⟨(k+1,w3),⟨OK,hw.tr r3.cP,hE.rel r3 hS⟩,Sub.gn [(7,13),(8,14),(9,15)] r3 ⟨by dsimp only;rw[PJ,List.length_append,List.length_singleton];rfl,by dsimp only;rw[PJ,List.map_append];rfl,by dsimp only;rw[PJ,List.map_append];rfl,by dsimp only;rw[Q9];rfl,rfl,rfl,rfl,rfl,rfl,trivial⟩,by dsimp only;omega⟩
    ·refine⟨rfl,rfl,rfl,?_,?_⟩
     ·refine .inl ?_;refine⟨by simp[q2,q3],by omega,by unfold maxLen;omega,rfl,rfl,rfl,rfl,?_⟩;refine .inl ?_;refine⟨by simp[q2,q3],by omega,by unfold maxLen;omega,rfl,?_⟩;refine .inl ?_;refine⟨by simp[q2,q3],by omega,by unfold maxLen;omega,((k+1:Nat):Int),wo,?_⟩;intro ρ3 w3 r3;exact⟨(k+1,w3),⟨OK,hw.tr r3.cP,hE.rel r3 hS⟩,Sub.gn [(7,12),(8,14),(9,15)] r3 ⟨by dsimp only;rw[PJ,List.length_append,List.length_singleton];rfl,by dsimp only;rw[PJ,List.map_append];rfl,by dsimp only;rw[PJ,List.map_append];rfl,by dsimp only;rw[Q9];rfl,rfl,rfl,rfl,rfl,rfl,trivial⟩,by dsimp only;omega⟩
     ·refine⟨rfl,rfl,rfl,?_⟩;refine .inl ?_;refine⟨by simp[q2,q3],by omega,by unfold maxLen;omega,rfl,rfl,?_⟩;refine .inl ?_;refine⟨by simp[q2,q3],by omega,by unfold maxLen;omega,rfl,?_⟩;refine .inl ?_;refine⟨by simp[q2,q3],by omega,by unfold maxLen;omega,((k+1:Nat):Int),wo,?_⟩;intro ρ3 w3 r3;exact⟨(k+1,w3),⟨OK,hw.tr r3.cP,hE.rel r3 hS⟩,Sub.gn [(7,13),(8,14),(9,15)] r3 ⟨by dsimp only;rw[PJ,List.length_append,List.length_singleton];rfl,by dsimp only;rw[PJ,List.map_append];rfl,by dsimp only;rw[PJ,List.map_append];rfl,by dsimp only;rw[Q9];rfl,rfl,rfl,rfl,rfl,rfl,trivial⟩,by dsimp only;omega⟩
   ·refine⟨.int .i64 (fj:Int),by simp[Sh],rfl,rfl,rfl,rfl,.slice aj n cj,by simpa using S3,rfl,rfl,rfl,?_,?_⟩
    ·refine⟨.int .i64 (fj:Int),by simp[Sh],rfl,rfl,rfl,rfl,rfl,?_,?_⟩
     ·refine .inl ?_;refine⟨by simp[q2,q3],by omega,by unfold maxLen;omega,.int .i64 (fj:Int),by simp[Sh],rfl,rfl,rfl,rfl,?_,?_⟩
      ·refine .inl ?_;refine⟨by simp[q2,q3],by omega,by unfold maxLen;omega,.int .i64 (fj:Int),by simp[Sh],rfl,rfl,rfl,rfl,?_⟩;refine .inl ?_;refine⟨by simp[q2,q3],by omega,by unfold maxLen;omega,((k+1:Nat):Int),wo,?_⟩;intro ρ3 w3 r3;exact⟨(k+1,w3),⟨OK,hw.tr r3.cP,hE.rel r3 hS⟩,Sub.gn [(7,12),(8,13),(9,15)] r3 ⟨by dsimp only;rw[PJ,List.length_append,List.length_singleton];rfl,by dsimp only;rw[PJ,List.map_append];rfl,by dsimp only;rw[PJ,List.map_append];rfl,by dsimp only;rw[Q9];rfl,rfl,rfl,rfl,rfl,rfl,trivial⟩,by dsimp only;omega⟩
      ·refine⟨rfl,rfl,?_⟩;refine .inl ?_;refine⟨by simp[q2,q3],by omega,by unfold maxLen;omega,rfl,?_⟩;refine .inl ?_;refine⟨by simp[q2,q3],by omega,by unfold maxLen;omega,((k+1:Nat):Int),wo,?_⟩;intro ρ3 w3 r3;exact⟨(k+1,w3),⟨OK,hw.tr r3.cP,hE.rel r3 hS⟩,Sub.gn [(7,12),(8,14),(9,15)] r3 ⟨by dsimp only;rw[PJ,List.length_append,List.length_singleton];rfl,by dsimp only;rw[PJ,List.map_append];rfl,by dsimp only;rw[PJ,List.map_append];rfl,by dsimp only;rw[Q9];rfl,rfl,rfl,rfl,rfl,rfl,trivial⟩,by dsimp only;omega⟩
     ·refine⟨rfl,rfl,rfl,?_⟩;refine .inl ?_;refine⟨by simp[q2,q3],by omega,by unfold maxLen;omega,rfl,rfl,?_⟩;refine .inl ?_;refine⟨by simp[q2,q3],by omega,by unfold maxLen;omega,rfl,?_⟩;refine .inl ?_;refine⟨by simp[q2,q3],by omega,by unfold maxLen;omega,((k+1:Nat):Int),wo,?_⟩;intro ρ3 w3 r3;exact⟨(k+1,w3),⟨OK,hw.tr r3.cP,hE.rel r3 hS⟩,Sub.gn [(7,13),(8,14),(9,15)] r3 ⟨by dsimp only;rw[PJ,List.length_append,List.length_singleton];rfl,by dsimp only;rw[PJ,List.map_append];rfl,by dsimp only;rw[PJ,List.map_append];rfl,by dsimp only;rw[Q9];rfl,rfl,rfl,rfl,rfl,rfl,trivial⟩,by dsimp only;omega⟩
    ·refine⟨rfl,rfl,.slice aj n cj,by simpa using S3,rfl,rfl,rfl,rfl,rfl,rfl,?_⟩;refine .inl ?_;refine⟨by simp[q2,q3],by omega,by unfold maxLen;omega,rfl,rfl,?_⟩;refine .inl ?_;refine⟨by simp[q2,q3],by omega,by unfold maxLen;omega,rfl,?_⟩;refine .inl ?_;refine⟨by simp[q2,q3],by omega,by unfold maxLen;omega,((k+1:Nat):Int),wo,?_⟩;intro ρ3 w3 r3;exact⟨(k+1,w3),⟨OK,hw.tr r3.cP,hE.rel r3 hS⟩,Sub.gn [(7,13),(8,14),(9,15)] r3 ⟨by dsimp only;rw[PJ,List.length_append,List.length_singleton];rfl,by dsimp only;rw[PJ,List.map_append];rfl,by dsimp only;rw[PJ,List.map_append];rfl,by dsimp only;rw[Q9];rfl,rfl,rfl,rfl,rfl,rfl,trivial⟩,by dsimp only;omega⟩
   ·refine⟨rfl,rfl,.slice aj n cj,by simpa using S3,rfl,rfl,rfl,?_,?_⟩
    ·refine⟨rfl,rfl,rfl,?_,?_⟩
     ·refine .inl ?_;refine⟨by simp[q2,q3],by omega,by unfold maxLen;omega,rfl,rfl,rfl,rfl,?_⟩;refine .inl ?_;refine⟨by simp[q2,q3],by omega,by unfold maxLen;omega,rfl,?_⟩;refine .inl ?_;refine⟨by simp[q2,q3],by omega,by unfold maxLen;omega,((k+1:Nat):Int),wo,?_⟩;intro ρ3 w3 r3;exact⟨(k+1,w3),⟨OK,hw.tr r3.cP,hE.rel r3 hS⟩,Sub.gn [(7,12),(8,14),(9,15)] r3 ⟨by dsimp only;rw[PJ,List.length_append,List.length_singleton];rfl,by dsimp only;rw[PJ,List.map_append];rfl,by dsimp only;rw[PJ,List.map_append];rfl,by dsimp only;rw[Q9];rfl,rfl,rfl,rfl,rfl,rfl,trivial⟩,by dsimp only;omega⟩
     ·refine⟨rfl,rfl,rfl,?_⟩;refine .inl ?_;refine⟨by simp[q2,q3],by omega,by unfold maxLen;omega,rfl,rfl,?_⟩;refine .inl ?_;refine⟨by simp[q2,q3],by omega,by unfold maxLen;omega,rfl,?_⟩;refine .inl ?_;refine⟨by simp[q2,q3],by omega,by unfold maxLen;omega,((k+1:Nat):Int),wo,?_⟩;intro ρ3 w3 r3;exact⟨(k+1,w3),⟨OK,hw.tr r3.cP,hE.rel r3 hS⟩,Sub.gn [(7,13),(8,14),(9,15)] r3 ⟨by dsimp only;rw[PJ,List.length_append,List.length_singleton];rfl,by dsimp only;rw[PJ,List.map_append];rfl,by dsimp only;rw[PJ,List.map_append];rfl,by dsimp only;rw[Q9];rfl,rfl,rfl,rfl,rfl,rfl,trivial⟩,by dsimp only;omega⟩
    ·refine⟨rfl,rfl,.slice aj n cj,by simpa using S3,rfl,rfl,rfl,rfl,rfl,rfl,?_⟩;refine .inl ?_;refine⟨by simp[q2,q3],by omega,by unfold maxLen;omega,rfl,rfl,?_⟩;refine .inl ?_;refine⟨by simp[q2,q3],by omega,by unfold maxLen;omega,rfl,?_⟩;refine .inl ?_;refine⟨by simp[q2,q3],by omega,by unfold maxLen;omega,((k+1:Nat):Int),wo,?_⟩;intro ρ3 w3 r3;exact⟨(k+1,w3),⟨OK,hw.tr r3.cP,hE.rel r3 hS⟩,Sub.gn [(7,13),(8,14),(9,15)] r3 ⟨by dsimp only;rw[PJ,List.length_append,List.length_singleton];rfl,by dsimp only;rw[PJ,List.map_append];rfl,by dsimp only;rw[PJ,List.map_append];rfl,by dsimp only;rw[Q9];rfl,rfl,rfl,rfl,rfl,rfl,trivial⟩,by dsimp only;omega⟩
 have OK:k=cols:=aQ hk (by simpa using OK);subst OK;intro ρe we re;have QQ:∀u∈kp rv at_ k,u.oneCell'=true:=fun u hu=>by
  obtain⟨i,hi⟩:=aS hu;obtain⟨x,hx⟩:∃x,(dG (E,at_,fr) k).1[i]? =some x:=⟨_,aB (by have:=(aD.1 hi).1;omega)⟩
  obtain⟨r,h1,h2⟩:=AT Ok Od k (by omega) i u x hi hx;obtain⟨a,c,rfl⟩:=hE.form h1;rfl
 have h7:=re.iR (id:=7) (sz:=1) (m:=(dG (E,at_,fr) k).2.1.length) rfl (by simp[q3]) (by unfold maxLen;omega) (by decide) QQ;have h8:=re.iR (id:=8) (sz:=1) (m:=(dG (E,at_,fr) k).2.1.length) rfl (by simp) (by unfold maxLen;omega) (by decide) (fun u hu=>by obtain⟨c,_,rfl⟩:=aU.1 hu;rfl);have h9:=re.iR (id:=9) (sz:=1) (m:=(dG (E,at_,fr) k).2.1.length) rfl (by simp[q2]) (by unfold maxLen;omega) (by decide) (fun u hu=>by obtain⟨c,_,rfl⟩:=aU.1 hu;rfl);have OZ:=hE.rel re hS;rw[hredS];refine⟨_,rfl,hw.tr re.cP,_,_,_,rfl,⟨kp rv at_ k,?_,by omega,fun i u x k1 k2=>?_⟩,?_,?_⟩
 ·rw[q1];exact h7.cI fun g hg=>.inr hg
 ·obtain⟨r,h1,h2⟩:=AT Ok Od k (by omega) i u x k1 k2;refine((OZ.row r u x h1 h2).read.cI (S':=Nw S w we) (C':=Nw S w we) (fun g hg=>?_) fun g hg=>Cv.nw hg.1 re).c;exact Cv.nw (ui (OZ.new g ⟨u,aC h1,hg⟩)) re
 ·exact h8.cI fun g hg=>.inr hg
 ·show iM we _ 1 _ _ (dG (E,at_,fr) k).2.2.length;rw[q2];exact h9.cI fun g hg=>.inr hg
end Go.Ex
