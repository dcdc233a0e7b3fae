/- Texts X133 to X134: lemmas, each with its conditions. -/
import Derived.Test.YtkdcaknoaeicdaaGreatP9
namespace Go.Ex
open Go Go.Sx Go.Proofs
variable{css:List (List Value)}{qs ri:List Rat}{rv:List Value}{c i:Nat}{a:Option Addr}{row:Option Nat}{q:Rat}{v:Value}
def Ob(rv:List Value)(g:Nat):Prop:=∃v∈rv,v.ownBlock=some g
def Lr(S:Nat->Prop)(B:Nat)(iv:Iv)(rv:List Value)(g:Nat):Prop:=Cv S B iv g∧¬Ob rv g
structure lP(w:World)(S:Nat->Prop)(B:Nat)(iv:Iv)(rv:List Value)(n:Nat)(M:List (List Rat)):Prop where
 len:rv.length=M.length
 row:∀(i:Nat) v qs,rv[i]? =some v->M[i]? =some qs->iO w (Lr S B iv rv) v n qs
 FE:∀(i j:Nat) a b g,rv[i]? =some a->rv[j]? =some b->a.ownBlock=some g->b.ownBlock=some g->i=j
 new:∀g,Ob rv g->Cv FF B iv g
theorem Ob.append{g:Nat}:Ob (rv++[v]) g↔Ob rv g∨v.ownBlock=some g:=by
 unfold Ob;simp[or_and_right,exists_or]
section
variable{S S':Nat->Prop}{H:Hp}{nx n:Nat}{iv iv':Iv}{B:Nat}{w w' w2:World}{O:Nat->Sx.dg}{rv:List Value}{M:List (List Rat)}
theorem lP.nil:lP w S B iv [] n []:=⟨rfl,fun i v qs h=>(by cases h),fun i j a b g h=>(by cases h),fun g ⟨v,hv,_⟩=>by cases hv⟩
theorem lP.cI(h:lP w S B iv rv n M)(hk:∀g,Cv S B iv g->w2.heap[g]? =w.heap[g]?):lP w2 S B iv rv n M:=
 ⟨h.len,fun i v qs h1 h2=>(h.row i v qs h1 h2).cI fun g hg=>hg.elim (fun hg=>hk g hg.1) fun hg=>hk g (Aj (h.new g ⟨v,aC h1,hg⟩)),h.FE,h.new⟩
theorem lP.rel(h:lP w S B iv rv n M)(r:Rel H nx iv B w O w')(hS:∀g,S g->g<B):lP w' S B iv rv n M:=h.cI fun _ hg=>Rel.same r hS hg
theorem lP.mono(h:lP w S B iv rv n M)(hm:∀p,p∈iv->p∈iv'):lP w S B iv' rv n M:=
 ⟨h.len,fun i v qs h1 h2=>(h.row i v qs h1 h2).cJ fun _ hg=>⟨hg.1.mono hm,hg.2⟩,h.FE,fun g hg=>(h.new g hg).mono hm⟩
theorem lP.cG(h:lP w S B iv rv n M)(r:Rel H nx iv B w O w')(hS:∀g,S g->g<B)(he:Ext w' w2)(hm:∀p,p∈iv->p∈iv'):lP w2 S B iv' rv n M:=
 ((h.rel r hS).cI fun g hg=>he.block g (Rel.old r hS g hg)).mono hm
theorem lP.low(h:lP w S B iv rv n M){g:Nat}(hg:Ob rv g):B<=g:=(h.new g hg).elim (fun h=>h.elim) fun h=>h.1
theorem lP.lt(h:lP w S B iv rv n M)(r:Rel H nx iv B w O w'){g:Nat}(hg:Ob rv g):g<w'.heap.size:=Rel.old r (gH B) g (h.new g hg)
theorem Lr.grown(r:Rel H nx iv B w O w')(hS:∀g,S g->g<B)(hg:w'.grownBy w2 row)(OH:∀g,row=some g->Ob rv g):∀g,Lr S B iv rv g->w2.heap[g]? =w.heap[g]? :=fun g h=>by
 rw[hg.block g (Rel.old r hS g h.1) fun e=>h.2 (OH g e.symm),Rel.same r hS h.1]
theorem lP.cQ(h:lP w S B iv rv n M)(r:Rel H nx iv B w O w')(hg:w'.grownBy w2 row)(OH:∀g,row=some g->Ob rv g):eB B w' w2:=
 eB.grown hg (fun g e=>h.low (OH g e)) r.cF
theorem lP.setRow(h:lP w' S B iv rv n M)(OU:∀g,Cv S B iv g->g<w'.heap.size){vi:Value}(TW:rv[i]? =some vi)(PX:w'.grownBy w2 vi.ownBlock)(hB:B<=w'.heap.size)
  (hq:iO w2 (Nw (Lr S B iv rv) w' w2) vi n qs):lP w2 S B ((w'.heap.size,w2.heap.size)::iv) rv n (M.set i qs):=by
 have hnw:∀g,Nw (Lr S B iv rv) w' w2 g->Lr S B ((w'.heap.size,w2.heap.size)::iv) rv g:=fun g hg=>by
  rcases hg with hg|hg
  ·exact⟨hg.1.mono fun p hp=>List.mem_cons_of_mem _ hp,hg.2⟩
  ·exact⟨.inr ⟨by omega,_,_,aG,hg.1,hg.2⟩,fun hm=>by have:=OU g (Aj (h.new g hm));omega⟩
 refine⟨by rw[bE];exact h.len,fun k v ps h1 h2=>?_,h.FE,fun g hg=>(h.new g hg).mono fun p hp=>List.mem_cons_of_mem _ hp⟩;by_cases hk:i=k
 ·subst hk;rw[TW]at h1;injection h1 with h1;subst h1;rw[aW (by rw[<-h.len];exact(aD.1 TW).1)]at h2;injection h2 with h2;subst h2;exact hq.cJ hnw
 ·rw[aX hk]at h2;refine((h.row k v ps h1 h2).cI fun g hg=>?_).cJ fun g hg=>⟨hg.1.mono fun p hp=>List.mem_cons_of_mem _ hp,hg.2⟩
  rcases hg with hg|hg
  ·exact PX.block g (OU g hg.1) fun e=>hg.2 ⟨vi,aC TW,e.symm⟩
  ·exact PX.block g (OU g (Aj (h.new g ⟨v,aC h1,hg⟩))) fun e=>hk (h.FE i k vi v g TW h1 e.symm hg)
theorem lP.Cn(hM:lP w S B iv rv n M)(r:Rel H nx iv B w O w')(hS:∀g,S g->g<B){i j h:Nat}{vi vj vby:Value}{ri rj:List Rat}{p:Rat}(Pb:i≠j)(TW:rv[i]? =some vi)(S2:rv[j]? =some vj)(hri:M[i]? =some ri)(hrj:M[j]? =some rj)
  (PL:eR w (Lr S B iv rv) vby p) (hq:∀q∈ri,rl q+1<=h) (hqj:∀q∈rj,rl q+1<=h) (hb:rl p+1<=h) (hh:3*h<=90000):
  eD PG N.nm #[vi,vj,vby] w' (fun e w2=>e= .returned (.tuple #[])∧w'.grownBy w2 vi.ownBlock∧(∀g,vi.ownBlock=some g->Ob rv g)∧lP w2 S B ((w'.heap.size,w2.heap.size)::iv) rv n (M.set i (lk ri rj p))):=by
 have Ug:=hM.rel r hS;have h1:=Ug.row i vi ri TW hri;have h2:=Ug.row j vj rj S2 hrj;have TK:∀g,vi.ownBlock=some g->Ob rv g:=fun g hg=>⟨_,aC TW,hg⟩
 have hmj:∀g,vj.ownBlock=some g->Ob rv g:=fun g hg=>⟨_,aC S2,hg⟩
 refine(Lj (C:=fun g=>vj.ownBlock=some g) (S:=Lr S B iv rv) (fun x hx=>hM.lt r (hmj x hx)) (fun g hg=>Rel.old r hS g hg.1) h1 (eR.cI PL fun g hg=>Rel.same r hS hg.1) h2.read h2.len (fun g hg hx=>hx.2 (TK g hg)) (fun g hg hx=>Pb (hM.FE i j _ _ g TW S2 hg hx)) hq hqj hb hh).mono fun e w8 he=>?_;obtain⟨rfl,PX,OH⟩:=he;exact⟨rfl,PX,TK,Ug.setRow (fun g hg=>Rel.old r hS g hg) TW PX r.cF OH⟩
theorem lP.form(hM:lP w S B iv rv n M)(hv:rv[i]? =some v):∃a c,v= .slice a n c:=by
 obtain⟨qs,hq⟩:∃qs,M[i]? =some qs:=⟨_,aB (by rw[<-hM.len];exact(aD.1 hv).1)⟩
 obtain⟨a,c,h,_⟩:=(hM.row i v qs hv hq).form;exact⟨a,c,h⟩
theorem lP.load(hM:lP w S B iv rv n M){k:Nat}(hv:rv[i]? =some (.slice a n c))(hq:M[i]? =some qs)(hk:qs[k]? =some q):
  ∃ad cs,a=some ad∧iM w (Lr S B iv rv) cs q∧∀j u,cs[j]? =some u->Cv FF B iv ad.block∧w.cell? ((ad.add (k*4)).add j)=some u:=by
 obtain⟨ad,cs,h1,h2,h3⟩:=gM.load (hM.row i _ qs hv hq).read hk;refine⟨ad,cs,h1,h2,fun j u hu=>⟨?_,(h3 j u hu).2⟩⟩;have:=(h3 j u hu).1;exact hM.new _ ⟨_,aC hv,this⟩
theorem lP.store(hM:lP w S B iv rv n M)(r:Rel H nx iv B w O w')(hS:∀g,S g->g<B){k:Nat}{a1 a2:Option Addr}{n1 c1 n2 c2:Nat}{b b2:Bool}(TW:rv[i]? =some (.slice a n c))(hri:M[i]? =some ri)(hk:k<n)
  (hf:cS w (Lr S B iv rv) (.agg #[.bool b,.slice a1 n1 c1,.bool b2,.slice a2 n2 c2]) q):
  ∃g,a=some ⟨g,0,none⟩∧((⟨g,0,none⟩:Addr).add ((k:Int).toNat*4)).spot=none∧
   (∀j,j<4->(w'.cell? (((⟨g,0,none⟩:Addr).add ((k:Int).toNat*4)).add j)).isSome=true∧w'.frozen? (((⟨g,0,none⟩:Addr).add ((k:Int).toNat*4)).add j)=false)∧
   (∀id b,dB H id=some b->(O id).nil=false->(O id).g≠((⟨g,0,none⟩:Addr).add ((k:Int).toNat*4)).block)∧
   ∀w2,w2=setCells w' ((⟨g,0,none⟩:Addr).add ((k:Int).toNat*4)) [.bool b,.slice a1 n1 c1,.bool b2,.slice a2 n2 c2]->lP w2 S B iv rv n (M.set i (ri.set k q))∧eB B w' w2∧Rel H nx iv B w2 O w2∧∀g,Lr S B iv rv g->w2.heap[g]? =w.heap[g]? :=by
 have Ug:=hM.rel r hS;have TK:∀g,(Value.slice a n c).ownBlock=some g->Ob rv g:=fun g hg=>⟨_,aC TW,hg⟩
 obtain⟨g,rfl,h1,h2,h3,h4⟩:=(Ug.row i _ ri TW hri).store hk (hf.cI fun g hg=>Rel.same r hS hg.1) (fun g hg hx=>hx.2 (TK g hg)) (fun x hx=>Rel.old r hS x hx.1);refine⟨g,rfl,h1,h3,fun id b hb hn=>by rw[h2];exact Rel.not r (gH B) (hM.new g (TK g rfl)) id b hb hn,fun w2 Ow=>?_⟩;obtain⟨k1,k2,k3⟩:=h4 w2 Ow;have hs:=Ug.setRow (fun g hg=>Rel.old r hS g hg) TW k2 r.cF (k1.cJ fun g hg=>.inl hg);refine⟨?_,hM.cQ r k2 TK,r.yD (fun id b hb hn=>Rel.not r (gH B) (hM.new g (TK g rfl)) id b hb hn) k2,Lr.grown r hS k2 TK⟩;refine⟨hs.len,fun j v qs h5 h6=>(hs.row j v qs h5 h6).cJ fun x hx=>⟨?_,hx.2⟩,hs.FE,fun x hx=>hM.new x hx⟩;rcases hx.1 with hx|⟨m1,lo,hi,m2,m3,m4⟩
 ·exact .inl hx
 ·rcases List.mem_cons.1 m2 with e|m2
  ·injection e with e1 e2;subst e1 e2;omega
  ·exact .inr ⟨m1,lo,hi,m2,m3,m4⟩
theorem lP.push(hM:lP w S B iv rv n M){gx:Nat}(TL:∀g,Cv S B iv g->g≠gx)(hBx:B<=gx)(OH:iO w S (.slice (some ⟨gx,0,none⟩) n c) n qs)(hS:∀g,S g->g<B):
  lP w S B ((gx,gx+1)::iv) (rv++[.slice (some ⟨gx,0,none⟩) n c]) n (M++[qs]):=by
 have Qc:∀g,Ob rv g->g≠gx:=fun g hg=>TL g (Aj (hM.new g hg))
 have hlr:∀g,Lr S B iv rv g->Lr S B ((gx,gx+1)::iv) (rv++[.slice (some ⟨gx,0,none⟩) n c]) g:=fun g hg=>⟨hg.1.mono fun p hp=>List.mem_cons_of_mem _ hp,fun h=>by
  rcases Ob.append.1 h with h|h
  ·exact hg.2 h
  ·injection h with h;exact TL g hg.1 h.symm⟩
 refine⟨by simp[hM.len],fun i v ps h1 h2=>?_,fun i j a b g h1 h2 h3 h4=>?_,fun g hg=>?_⟩
 ·rcases aP i rv.length with hi|hi
  ·rw[aL hi]at h1;rw[aL (by rw[<-hM.len];exact hi)]at h2;exact(hM.row i v ps h1 h2).cJ hlr
  ·have RV:i=rv.length:=by have:=(aD.1 h1).1;simp at this;omega
   rw[RV,aM (aF _),bK]at h1;rw[RV,hM.len,aM (aF _),bK]at h2;simp at h1 h2;subst h1 h2;refine OH.cJ fun g hg=>⟨.inl hg,fun h=>?_⟩
   have:=hS g hg;rcases Ob.append.1 h with h|h
   ·have:=hM.low h;omega
   ·injection h with h;have h:gx=g:=h;omega
 ·have key:∀(k:Nat) v,(rv++[Value.slice (some ⟨gx,0,none⟩) n c])[k]? =some v->(k<rv.length∧rv[k]? =some v)∨(k=rv.length∧v= .slice (some ⟨gx,0,none⟩) n c):=fun k v hk=>by
   rcases aP k rv.length with hi|hi
   ·rw[aL hi]at hk;exact .inl ⟨hi,hk⟩
   ·have RV:k=rv.length:=by have:=(aD.1 hk).1;simp at this;omega
    rw[RV,aM (aF _),bK]at hk;simp at hk;exact .inr ⟨RV,hk.symm⟩
  rcases key i a h1 with⟨_,k1⟩|⟨e1,rfl⟩<;>rcases key j b h2 with⟨_,k2⟩|⟨e2,rfl⟩
  ·exact hM.FE i j a b g k1 k2 h3 h4
  ·injection h4 with h4;exact absurd h4.symm (Qc g ⟨a,aC k1,h3⟩)
  ·injection h3 with h3;exact absurd h3.symm (Qc g ⟨b,aC k2,h4⟩)
  ·rw[e1,e2]
 ·rcases Ob.append.1 hg with h|h
  ·exact(hM.new g h).mono fun p hp=>List.mem_cons_of_mem _ hp
  ·injection h with h;have h:gx=g:=h;subst h;exact .inr ⟨hBx,_,_,aG,aF _,bY _⟩
theorem lP.drop(hM:lP w S B iv (rv++[v]) n (M++[qs])):lP w S B iv rv n M:=by
 have hl:rv.length=M.length:=by have:=hM.len;simpa using this
 have Qc:∀g,Ob rv g->Ob (rv++[v]) g:=fun g hg=>Ob.append.2 (.inl hg);refine⟨hl,fun i u ps h1 h2=>?_,fun i j a b g h1 h2=>hM.FE i j a b g ?_ ?_,fun g hg=>hM.new g (Qc g hg)⟩
 ·have hi:=(aD.1 h1).1;exact(hM.row i u ps (by rw[aL hi];exact h1) (by rw[aL (by rw[<-hl];exact hi)];exact h2)).cJ fun g hg=>⟨hg.1,fun h=>hg.2 (Qc g h)⟩
 ·rw[aL (aD.1 h1).1];exact h1
 ·rw[aL (aD.1 h2).1];exact h2
theorem Lk{id m:Nat}(r:Rel H nx iv B w O w')(h:dB H id=some (.vec T.Rat 4 css.flatten))(hl:css.length=m)(h0:0<m)(hm:m<=maxLen)(hF:Fc w' S css qs):
  (O id).nil=false∧B<=(O id).g∧(∀g,Out B iv g->g≠(O id).g)∧iO w' S (.slice (some ⟨(O id).g,0,none⟩) m (O id).cap) m qs:=by
 have OX:=eH hF.tv;rcases r.vec id _ _ _ h with⟨_,h2⟩|⟨h1,spare,h2,h3,h4⟩
 ·rw[h2]at OX;rw[hl]at OX;simp at OX;omega
 ·refine⟨h1,(r.low id _ h h1).1,fun g hg e=>?_,css,⟨by rw[OX,hl],.inr ⟨(O id).g,(O id).cap,_,rfl,aO _,h2,?_,h4,by simpa using h3,by rw[show m*4=css.flatten.length by rw[OX,hl]];simp⟩⟩,hl,hF⟩
  ·exact Rel.not r (fun _ h=>h) hg id _ h h1 e.symm
  ·rw[List.length_append,OX,hl]at h3;omega
end
end Go.Ex
namespace Go.Sx
open Go Go.Ex Go.Proofs
variable{O:Nat->Sx.dg}
theorem Sub.Ak{B nx:Nat}{l:Env}{H:Hp}{iv:Iv}{w w':World}{t:yE}(id p e sz:Nat){bt:Nat}{cs:List At}(Oj:dB H id=some (.box bt cs))(hp:cs[p]? =some (.v (.slice none 0 0)))(Rk:jN nx l)(r:Rel H nx iv B w O w')
  (h:∀ρ1,Rel ((id,.box bt (cs.set p (.w nx 0)))::(nx,.vec e sz [])::H) (nx+1) iv B w ρ1 w'->Sx.Sub B l (nx+1) ρ1 w' t):Sx.Sub B l nx O w' t:=by
 have r1:=r.push (.vec e sz []) ⟨0,0,true⟩ (w2:=w') rfl rfl rfl (aF _) (fun _ _=>rfl) (fun h=>by cases h) (.inl ⟨rfl,rfl⟩) trivial;have OG:id≠nx:=Nat.ne_of_lt (r.keys id _ Oj);have VF:dB ((nx,.vec e sz [])::H) id=some (.box bt cs):=by rw[dA,aK (fun h=>OG h.symm)];exact Oj
 have hnn:=r1.nn id _ VF (by intros;simp) (by simp);have Oz:=r1.box id bt cs VF;have Q8:(cs.set p (.w nx 0)).map (At.den (Sx.gP O nx ⟨0,0,true⟩))=cs.map (At.den (Sx.gP O nx ⟨0,0,true⟩)):=by
  refine bM fun j=>?_;rw[aN,aN];by_cases hj:p=j
  ·subst hj;rw[aW (aD.1 hp).1,hp];simp[At.den,eN]
  ·rw[aX hj]
 have r2:=r1.store (b':=.box bt (cs.set p (.w nx 0))) (H':=(id,.box bt (cs.set p (.w nx 0)))::(nx,.vec e sz [])::H) (w2:=w') VF (by simp) hnn (fun j=>by
  rw[dA];by_cases hj:id=j
  ·subst hj;rw[if_pos rfl]
  ·rw[aK hj,aK (fun h=>hj h.symm)]) rfl rfl rfl rfl (fun _ _=>rfl) ⟨hnn,by rw[Q8];exact Oz⟩ (fun x hx=>by
   rcases bJ hx with hx|rfl
   ·exact r1.LG id bt cs VF x hx
   ·exact bY nx)
 obtain⟨ρ',h1,h2⟩:=h _ r2;refine⟨ρ',h1,fun x v hv=>?_⟩;obtain⟨h3,v0,h4,h5⟩:=h2 x v hv;refine⟨h3,v0,h4,?_⟩;rw[<-h5];exact SV.jW (fun id Oj=>gA id Oj) (Rk.get _ _ h4)
end Go.Sx
namespace Go.Ex
open Go Go.Sx Go.Proofs
end Go.Ex
namespace Go.Ex
open Go Go.Sx Go.Proofs
variable{a:Act}{K next:Act->World->Prop}{la lx:Array Bool}{I:Array Bool->World->Prop}{Q:Exit->Act->World->Prop}{E M:List (List Rat)}{at_:List (Option Nat)}{fr:List Nat}{r row u y:List Rat}{rv:List Value}{b cols i j:Nat}{C S S0:Nat->Prop}{oi:Oper}{X:Sem Next}{v:Value}{w:World}{Y:World->Prop}{s:wy}
inductive Tq where
 |nil
 |x (i:Nat) (t:Tq)
 |two (i:Nat) (t:Tq) (j:Nat) (u:Tq)
 |three (i:Nat) (t:Tq) (j:Nat) (u:Tq) (k:Nat) (v:Tq)
section
variable{P:Program}{τ:mg}{ops:Array Oper}{B n nx:Nat}{l:Env}{H:Hp}{iv:Iv}{w w':World}{O:Nat->Sx.dg}{a:Act}
end
section
variable{P:Program}{ops:Array Oper}{Q:Exit->Act->World->Prop}{md:Region.Mode}
theorem I9{oj:Oper}(hj:ops[j]? =some oj)(RA:oi.apart ops oj=true)
  (hsi:∀cs b,oi.op≠ .select cs b) (hsj:∀cs b,oj.op≠ .select cs b)
  (hQ:∀c a w,Q (.panic c) (a.put oi.dst v) w->Q (.panic c) a w)
  (hy:Region.wanted oi (yielded ops a.tmps)=true∧execOp a.eval oi=X) (h:wpOp P ops Q j K (a.put oi.dst v) w):
  wpOp P ops Q j (fun a' w'=>(Region.wanted oi (yielded ops a'.tmps)=true∧execOp a'.eval oi=X)∧K (a'.put oi.dst v) w') a w:=by
 obtain⟨h1,h2,h3⟩:=Oper.apart_spec RA;have cI:∀(a:Act),(Region.wanted oi (yielded ops a.tmps)=true∧execOp a.eval oi=X)->∀u,(Region.wanted oi (yielded ops (a.put oj.dst u).tmps)=true∧execOp (a.put oj.dst u).eval oi=X):=fun a hy u=>
  ⟨(wanted_put oi a oj.dst u h3).trans hy.1,(execOp_put oi hsi a oj.dst u h3).trans hy.2⟩
 have keepD:∀d:Deferred,(Region.wanted oi (yielded ops ({a with defers:=d::a.defers}:Act).tmps)=true∧execOp ({a with defers:=d::a.defers}:Act).eval oi=X):=fun d=>hy;unfold wpOp at*
 simp only[hj]at*
 rw[wanted_put oj a oi.dst v h1]at h;split
 ·rename_i hw;simp only[hw,if_true]at h;rcases h with h|⟨SW,UD⟩
  case inr=>exact .inr ⟨by unfold Oper.asks at *;rw[execOp_put oj hsj a oi.dst v h1]at SW;exact SW,UD⟩
  refine .inl ?_;unfold Oper.wp at*
  rw[execOp_put oj hsj a oi.dst v h1]at h;generalize (execOp a.eval oj).run P w=r at*
  cases r with
  |ok n w'=>
   cases n<;>simp only[Oper.upon]at h ⊢
   case value u=>exact⟨cI a hy u,by rw[<-Act.put_comm a v u h2];exact h⟩
   case skip=>exact⟨cI a hy _,by rw[<-Act.put_comm a v undef h2];exact h⟩
   case defer d=>
    refine⟨cI ({a with defers:=d::a.defers}:Act) (keepD d) undef,?_⟩;rw[<-Act.put_comm _ v undef h2,<-Act.put_defers];exact h
   case enter f args=>
    refine Calls.mono h fun e w'' he=>?_
    cases e with
    |returned u=>exact⟨cI a hy u,by rw[<-Act.put_comm a v u h2];exact he⟩
    |panicked c=>exact hQ _ _ _ he
    |outgrown=>exact he
   case row row args=>exact Rows.mono h fun u w'' he=>⟨cI a hy u,by rw[<-Act.put_comm a v u h2];exact he⟩
  |halt x w'=>
   cases x<;>simp only[Oper.upon]at h ⊢
   case panic u=>exact hQ _ _ _ h
 ·rename_i hw;simp only[hw]at h;exact⟨cI a hy _,by rw[<-Act.put_comm a v undef h2];exact h⟩
def qH(P:Program)(md:Region.Mode)(ops:Array Oper)(Q:Exit->Act->World->Prop)(I:Array Bool->World->Prop):Nat->Array Bool->Act->World->Prop
 |0,lx,a,w=>I lx w∧Region.ready md ops lx=[]∧Q .normal a w
 |fuel+1,lx,a,w=>I lx w∧(Region.ready md ops lx=[]->Q .normal a w)∧∀i∈Region.ready md ops lx,wpOp P ops Q i (fun a' w'=>qH P md ops Q I fuel (lx.setIfInBounds i true) a' w') a w
theorem AN{I:Array Bool->World->Prop}:∀(fuel:Nat) (lx:Array Bool) (a:Act) (w:World),qH P md ops Q I fuel lx a w->wpAny P md ops Q fuel lx a w
 |0,_,_,_,h=>h.2
 |fuel+1,_,_,_,h=>⟨h.2.1,fun i hi=>wpOp_mono (fun _ _ h'=>AN fuel _ _ _ h') (h.2.2 i hi)⟩
theorem kP{I J:Array Bool->World->Prop}(hIJ:∀lx w,I lx w->J lx w):∀(fuel:Nat) (lx:Array Bool) (a:Act) (w:World),qH P md ops Q I fuel lx a w->qH P md ops Q J fuel lx a w
 |0,_,_,_,h=>⟨hIJ _ _ h.1,h.2⟩
 |fuel+1,_,_,_,h=>⟨hIJ _ _ h.1,h.2.1,fun i hi=>wpOp_mono (fun _ _ h'=>kP hIJ fuel _ _ _ h') (h.2.2 i hi)⟩
theorem FC(hI:I lx w)(hr:Region.ready md ops lx=[])(h:Q .normal a w):∀fuel,qH P md ops Q I fuel lx a w
 |0=>⟨hI,hr,h⟩
 |_+1=>⟨hI,fun _=>h,by rw[hr];simp⟩
def mf(ops:Array Oper)(b:Nat)(lx:Array Bool):Prop:=∀(k:Nat) o,tb b k=true->ops[k]? =some o->sS o.op=false->lx.getD k false=false
theorem jU(hi:ops[i]? =some oi)(hR:sS oi.op=true):mf ops b (lx.setIfInBounds i true)↔mf ops b lx:=by
 have key:∀(k:Nat) o,ops[k]? =some o->sS o.op=false->(lx.setIfInBounds i true).getD k false=lx.getD k false:=fun k o ho hr=>by
  have:i≠k:=fun e=>by subst e;rw[hi]at ho;injection ho with ho;subst ho;rw[hR]at hr;cases hr
  exact getD_set_ne false this
 exact⟨fun h k o h1 h2 h3=>by rw[<-key k o h2 h3];exact h k o h1 h2 h3,fun h k o h1 h2 h3=>by rw[key k o h2 h3];exact h k o h1 h2 h3⟩
theorem uN(hi:ops[i]? =some oi)(hR:sS oi.op=true)(OT:∀(j:Nat) (o:Oper) cs b,ops[j]? =some o->o.op≠ .select cs b)
  (hQ:∀c a w,Q (.panic c) (a.put oi.dst v) w->Q (.panic c) a w) (SS:∀j,tb b j=true->∃oj e,ops[j]? =some oj∧e∈oj.after∧Region.binds md e=true∧(e.on=i∨tb b e.on=true))
  (hY:∀w,Y w->X.run P w= .ok (.value v) w) (hI:∀lx w,I (lx.setIfInBounds i true) w->I lx w):
  ∀(fuel:Nat) (lx:Array Bool) (a:Act) (w:World),(∀j,tb b j=true->lx.getD j false=false)->
   (∀j oj,ops[j]? =some oj->j≠i->lx.getD j true=false->tb b j=false->oi.apart ops oj=true)->
   i∈Region.ready md ops lx->(Region.wanted oi (yielded ops a.tmps)=true∧execOp a.eval oi=X)->
   qH P md ops Q (fun lx w=>I lx w∧(mf ops b lx->Y w)) fuel (lx.setIfInBounds i true) (a.put oi.dst v) w->qH P md ops Q I (fuel+1) lx a w:=by
 intro fuel;have run:∀(lx:Array Bool) (a:Act) (w:World),(∀j,tb b j=true->lx.getD j false=false)->(Region.wanted oi (yielded ops a.tmps)=true∧execOp a.eval oi=X)->(I (lx.setIfInBounds i true) w∧(mf ops b (lx.setIfInBounds i true)->Y w))->
   ∀K:Act->World->Prop,K (a.put oi.dst v) w->wpOp P ops Q i K a w:=fun lx a w Pf hy hH K hK=>by
  have hYw:=hH.2 ((jU hi hR).2 fun k o h1 _ _=>Pf k h1);unfold wpOp;simp only[hi,hy.1,if_true]
  refine .inl ?_;unfold Oper.wp;rw[hy.2,hY w hYw];exact hK
 induction fuel with
 |zero=>
  intro lx a w Pf _ hr hy H;refine⟨hI _ _ H.1.1,fun h=>(by rw[h]at hr;cases hr),fun j hj=>?_⟩;by_cases PA:j=i
  ·subst PA;exact run lx a w Pf hy H.1 _ (kP (fun _ _ h=>h.1) 0 _ _ _ H)
  ·have:=ready_mono hj PA;rw[H.2.1]at this
   cases this
 |succ fuel ih=>
  intro lx a w Pf RC hr hy H;refine⟨hI _ _ H.1.1,fun h=>(by rw[h]at hr;cases hr),fun j hj=>?_⟩;by_cases PA:j=i
  ·subst PA;exact run lx a w Pf hy H.1 _ (kP (fun _ _ h=>h.1) (fuel+1) _ _ _ H)
  ·have h1:=H.2.2 j (ready_mono hj PA);obtain⟨UE,oj,Qq,Pv⟩:=mem_ready.1 hj;have Q6:tb b j=false:=by
    cases hb:tb b j with
    |false=>rfl
    |true=>
     exfalso;obtain⟨oj',e,Ri,he,hbi,To⟩:=SS j hb;rw[Qq]at Ri;injection Ri with Ri;subst Ri;have h1:=Pv e he hbi;rcases To with heq|QH
     ·have h0:=(mem_ready.1 hr).1;rw[heq]at h1;rcases aP i lx.size with h'|h'
      ·simp[h']at h0 h1;rw[h0]at h1;cases h1
      ·simp[Array.getElem?_eq_none h']at h1
     ·rw[Pf _ QH]at h1;cases h1
   have h2:=I9 Qq (RC j oj Qq PA UE Q6) (fun cs b=>OT i oi cs b hi) (fun cs b=>OT j oj cs b Qq) hQ hy h1;have hbl':∀k,tb b k=true->(lx.setIfInBounds j true).getD k false=false:=fun k hk=>by
    rw[getD_set_ne false (fun e=>(by subst e;rw[Q6]at hk;cases hk))];exact Pf k hk
   have Sl:∀k ok,ops[k]? =some ok->k≠i->(lx.setIfInBounds j true).getD k true=false->tb b k=false->oi.apart ops ok=true:=fun k ok hk hki SP SK=>by
    refine RC k ok hk hki ?_ SK;by_cases Rn:j=k
    ·subst Rn;exact UE
    ·rw[getD_set_ne true Rn]at SP;exact SP
   refine wpOp_mono (fun a' w' h3=>?_) h2;refine ih (lx.setIfInBounds j true) a' w' hbl' Sl (ready_mono hr (Ne.symm PA)) h3.1 ?_;rw[Array.setIfInBounds_comm _ _ PA];exact h3.2
end
structure Gh where
 u:Nat
 d:Nat
 T:Nat
 b:Nat
def DO(τ:mg)(B:Nat):List Gh->Env->Hp->Nat->Iv->World->Prop->Prop
 |[],_,_,_,_,_,K=>K
 |g::r,l,H,nx,iv,w,K=>match fL l g.u with
  |some su=>BH τ B g.T su H nx iv w (fun v=>fL l g.d=some v∧DO τ B r l H nx iv w K)
  |none=>False
inductive Tg where
 |nil
 |x (i:Nat) (t:Tg)
 |two (i:Nat) (t:Tg) (j:Nat) (u:Tg)
 |three (i:Nat) (t:Tg) (j:Nat) (u:Tg) (k:Nat) (v:Tg)
 |ld (i b:Nat) (t:Tg)
 |jw (id:Nat) (t:Tg)
def CD(j:Nat):List Gh->List Gh
 |[]=>[]
 |g::r=>match tb g.b j with
  |true=>CD j r
  |false=>g::CD j r
def stepG(τ:mg)(B:Nat)(rd:Bool)(G:List Gh)(j:Nat)(l:Env)(H:Hp)(nx:Nat)(iv:Iv)(w:World)(K:List Gh->Prop):Prop:=match rd with
 |true=>K G
 |false=>DO τ B (CD j G) l H nx iv w (K (CD j G))
def FD(ops:Array Oper)(m i:Nat)(oi:Oper)(b:Nat):List Oper->Nat->Bool
 |[],_=>true
 |oj::r,j=>(Nat.beq j i||tb m j||tb b j||oi.apart ops oj)&&FD ops m i oi b r (j+1)
def HZ(m i u d:Nat):List Oper->Nat->Bool
 |[],_=>true
 |oj::r,j=>(tb m j||match oj.dst with
   |none=>true
   |some e=> !Nat.beq e u&&(Nat.beq j i|| !Nat.beq e d))&&HZ m i u d r (j+1)
def LF(o:Oper):Option (Nat×Nat×Nat):=match o with
 |⟨some d,.load T (.tmp u),_,_,_,none⟩=>some (d,T,u)
 |_=>none
def l6(ops:Array Oper):Tg->Array Bool->Bool
 | .nil,lx=>(Region.ready .any ops lx).isEmpty
 | .x i t,lx=>match ops[i]? with
  |none=>false
  |some o=>(Region.ready .any ops lx).contains i&&((Region.ready .any ops lx).all (fun j=>Nat.beq j i)||FI o.op&&o.guard.isNone&&FD ops (iI lx.toList 0) i o (AQ (iI lx.toList 0) i ops.toList 0 0) ops.toList 0)&&l6 ops t (lx.setIfInBounds i true)
 | .two i t j u,lx=>match Region.ready .any ops lx with
  |[a,b]=>Nat.beq a i&&(Nat.beq b j&&(l6 ops t (lx.setIfInBounds i true)&&l6 ops u (lx.setIfInBounds j true)))
  |_=>false
 | .three i t j u k v,lx=>match Region.ready .any ops lx with
  |[a,b,c]=>Nat.beq a i&&(Nat.beq b j&&(Nat.beq c k&&(l6 ops t (lx.setIfInBounds i true)&&(l6 ops u (lx.setIfInBounds j true)&&l6 ops v (lx.setIfInBounds k true)))))
  |_=>false
 | .ld i b t,lx=>match ops[i]? with
  |none=>false
  |some o=>match LF o with
   |none=>false
   |some (d,_,u)=>(Region.ready .any ops lx).contains i&&Nat.beq b (AQ (iI lx.toList 0) i ops.toList 0 0)&&FD ops (iI lx.toList 0) i o b ops.toList 0&&HZ (iI lx.toList 0) i u d ops.toList 0&&l6 ops t (lx.setIfInBounds i true)
 | .jw _ t,lx=>l6 ops t lx
def Az(P:Program)(τ:mg)(B:Nat)(all:List Oper):Tg->List Gh->Env->Hp->Nat->Iv->World->KT->Prop
 | .nil,_,l,H,nx,iv,w,K=>K l H nx iv w
 | .x i t,G,l,H,nx,iv,w,K=>nM all i (fun o=>fc (!fA o) P τ B all o l H nx iv w (fun l' H' OL iv' w'=>stepG τ B (sS o.op) G i l' H' OL iv' w' (fun G'=>Az P τ B all t G' l' H' OL iv' w' K)))
 | .two i t j u,G,l,H,nx,iv,w,K=>nM all i (fun o=>fc (!fA o) P τ B all o l H nx iv w (fun l' H' OL iv' w'=>stepG τ B (sS o.op) G i l' H' OL iv' w' (fun G'=>Az P τ B all t G' l' H' OL iv' w' K)))∧
   nM all j (fun o=>fc (!fA o) P τ B all o l H nx iv w (fun l' H' OL iv' w'=>stepG τ B (sS o.op) G j l' H' OL iv' w' (fun G'=>Az P τ B all u G' l' H' OL iv' w' K)))
 | .three i t j u k v,G,l,H,nx,iv,w,K=>nM all i (fun o=>fc (!fA o) P τ B all o l H nx iv w (fun l' H' OL iv' w'=>stepG τ B (sS o.op) G i l' H' OL iv' w' (fun G'=>Az P τ B all t G' l' H' OL iv' w' K)))∧
   (nM all j (fun o=>fc (!fA o) P τ B all o l H nx iv w (fun l' H' OL iv' w'=>stepG τ B (sS o.op) G j l' H' OL iv' w' (fun G'=>Az P τ B all u G' l' H' OL iv' w' K)))∧
   nM all k (fun o=>fc (!fA o) P τ B all o l H nx iv w (fun l' H' OL iv' w'=>stepG τ B (sS o.op) G k l' H' OL iv' w' (fun G'=>Az P τ B all v G' l' H' OL iv' w' K))))
 | .ld i b t,G,l,H,nx,iv,w,K=>nM all i (fun o=>match LF o with
  |some (d,T,u)=>match fL l u with
   |some su=>BH τ B T su H nx iv w (fun v=>Az P τ B all t (⟨u,d,T,b⟩::G) ((d,v)::l) H nx iv w K)
   |none=>False
  |none=>False)
 | .jw id t,G,l,H,nx,iv,w,K=>∃H' b,dB H id=some b∧b≠ .dead∧uR H H'∧DQ id H'=true∧∀O w',Rel H nx iv B w O w'->(O id).nil=false∧∃l',(∀u v,fL l' u=some v->v.sc nx∧∃v',fL l u=some v'∧v'.den O=v.den O)∧Az P τ B all t G l' H' nx (((O id).g,(O id).g+1)::iv) w' K
section
variable{P:Program}{τ:mg}{ops:Array Oper}{B n nx:Nat}{l:Env}{H:Hp}{iv:Iv}{w w':World}{O:Nat->Sx.dg}{a:Act}
theorem Nx(hτ:fH P τ){o:Oper}(ho:ops[i]? =some o)(hd:∀d,o.dst=some d->d<n){K:KT}
  (h1:fc (!fA o) P τ B ops.toList o l H nx iv w K) (sat:Sat n l H nx iv B w O a w')
  (hn:∀l' H' OL iv' w2 ρ' x w3,K l' H' OL iv' w2->Sat n l' H' OL iv' B w2 ρ' (a.put o.dst x) w3->(sS o.op=true->w3=w')->next (a.put o.dst x) w3):
  wpOp P ops Q i next a w':=by
 unfold fc at h1;refine lf ho ?_;rcases iq sat h1 with⟨hw,l1,h2,sat1⟩|⟨hw,l1,h2,sat1⟩
 ·refine .inl ⟨hw,?_⟩
  cases hR:sS o.op with
  |true=>
   obtain⟨v,hK,QU,ON⟩:=(jV hτ h2 sat1 hR).resolve_right (fun hh=>by have:=hh.1;rw[kr hR]at this;cases this);obtain⟨l2,h3,sat2⟩:=eh sat1 hK hd QU;exact kQ (ON w' (.inr sat1.rel)) (hn _ _ _ _ _ _ _ _ h3 sat2 fun _=>rfl)
  |false=>
   have nr:∀w3:World,sS o.op=true->w3=w':=fun w3 h=>by rw[hR]at h;cases h
   cases hA:Ih o.op with
   |true=>
    obtain⟨b,v,mk,obj,hK,Oc,hb,hv,Tw,Pc,Tx⟩:=kp hτ h2 sat1 hA;have Oi:Rel ((nx,b)::H) (nx+1) iv B w (Sx.gP O nx ⟨w'.heap.size,0,false⟩) (w'.alloc obj):=
     sat1.rel.push b _ rfl rfl rfl (by simp) (fun k hk=>heap_alloc_old _ _ hk) (fun _=>⟨aF _,by simp⟩) (Pc _ _ (heap_alloc_new _ _)) hb
    obtain⟨l2,h3,sat2⟩:=eh (sat1.next Oi (Nat.le_succ _) (fun id Oj=>gA id Oj)) hK hd hv;rw[Tw]at sat2;exact kQ (v:=mk w'.heap.size) (w2:=w'.alloc obj) (Tx w') (hn _ _ _ _ _ _ _ _ h3 sat2 (by rw[hR];exact fun h=>by cases h))
   |false=>
    cases hH:o6 o with
    |false=>
     rw[mS hH]at h2;refine rL h2 sat1 hR hA hH fun v w2 hK he hs=>?_;obtain⟨l2,h3,sat2⟩:=eh (v:=.o (.v v)) hs hK hd trivial;exact hn _ _ _ _ _ _ _ _ h3 sat2 (by rw[hR];exact fun h=>by cases h)
    |true=>
     refine ku hτ h2 sat1 fun v H' OL iv' w2 ρ' w3 hK sat2 hv=>?_;obtain⟨l2,h3,sat3⟩:=eh sat2 hK hd hv;exact hn _ _ _ _ _ _ _ _ h3 sat3 (by rw[hR];exact fun h=>by cases h)
 ·obtain⟨l2,h4,sat3⟩:=eh sat1 h2 hd trivial;exact .inr ⟨hw,hn _ _ _ _ _ _ _ _ h4 sat3 fun _=>rfl⟩
theorem wm(hτ:fH P τ)(sat:Sat n l H nx iv B w O a w'){K:Prop}:∀(G:List Gh),DO τ B G l H nx iv w K->
  K∧∀g∈G,∃su sv,fL l g.u=some su∧fL l g.d=some sv∧(Instr.loadAt g.T (su.den O)).run P w'= .ok (sv.den O) w'
 |[],h=>⟨h,fun g hg=>by cases hg⟩
 |g::r,h=>by
  unfold DO at h;split at h
  ·rename_i su hsu;obtain⟨v,⟨h1,h2⟩,hv,ON⟩:=nR hτ sat.rel (sat.sc _ _ hsu) h;obtain⟨h3,h4⟩:=wm hτ sat r h2;refine⟨h3,fun g' hg=>?_⟩;rcases List.mem_cons.1 hg with rfl|hg
   ·exact⟨su,v,hsu,h1,ON w' sat.rel⟩
   ·exact h4 g' hg
  ·exact h.elim
theorem qc{j:Nat}{g:Gh}:∀{G:List Gh},g∈G->tb g.b j=false->g∈CD j G
 |g'::r,h,hb=>by
  unfold CD;rcases List.mem_cons.1 h with rfl|h
  ·rw[hb];exact aG
  ·split
   ·exact qc h hb
   ·exact List.mem_cons_of_mem _ (qc h hb)
abbrev Zh:=Gh×Value×Value
def Yz(P:Program)(z:Zh)(w:World):Prop:=(Instr.loadAt z.1.T z.2.1).run P w= .ok z.2.2 w
structure NS(ops:Array Oper)(la:Array Bool)(a:Act)(z:Zh):Prop where
 u:a.tmps[z.1.u]? =some z.2.1
 d:a.tmps[z.1.d]? =some z.2.2
 no:∀(j:Nat) oj,ops[j]? =some oj->la.getD j false=false->oj.dst≠some z.1.u∧oj.dst≠some z.1.d
theorem NS.step{z:Zh}{oj:Oper}{x:Value}(h:NS ops la a z)(hj:ops[j]? =some oj)(hl:la.getD j false=false):NS ops (la.setIfInBounds j true) (a.put oj.dst x) z:=by
 obtain⟨h1,h2⟩:=h.no j oj hj hl;refine⟨qJ h1 h.u,qJ h2 h.d,fun k ok hk hlk=>h.no k ok hk ?_⟩;by_cases Rn:j=k
 ·subst Rn;exact hl
 ·rwa [getD_set_ne false Rn]at hlk
def IZ(P:Program)(ops:Array Oper)(Z:List Zh)(lx:Array Bool)(w:World):Prop:=∀z∈Z,mf ops z.1.b lx->Yz P z w
theorem uO(h:i∈Region.ready .any ops la):la.getD i false=false:=by
 have:=(eI.1 h).1;rw[bA,this];rfl
theorem oQ{o:Oper}(ho:ops[i]? =some o)(hl:la[i]? =some false)(h:mf ops b (la.setIfInBounds i true)):mf ops b la∧(sS o.op=false->tb b i=false):=by
 refine⟨fun k ok h1 h2 h3=>?_,fun hR=>?_⟩
 ·by_cases hik:i=k
  ·subst hik;rw[bA,hl];rfl
  ·rw[<-getD_set_ne false hik];exact h k ok h1 h2 h3
 ·cases hb:tb b i with
  |false=>rfl
  |true=>
   have:=h i o hb ho hR;have hi:=(ai.1 hl).1;rw[bA,Array.getElem?_setIfInBounds_self_of_lt hi]at this
   cases this
theorem CE(hτ:fH P τ){o:Oper}{G:List Gh}{Z:List Zh}(ho:ops[i]? =some o)(hd:∀d,o.dst=some d->d<n)(hr:i∈Region.ready .any ops la){K:Env->Hp->Nat->Iv->World->List Gh->Prop}
  (h1:fc (!fA o) P τ B ops.toList o l H nx iv w (fun l' H' OL iv' w'=>stepG τ B (sS o.op) G i l' H' OL iv' w' (K l' H' OL iv' w'))) (sat:Sat n l H nx iv B w O a w')
  (hG:∀z∈Z,mf ops z.1.b la->z.1∈G) (hZ:∀z∈Z,NS ops la a z) (hI:IZ P ops Z la w')
  (hn:∀l' H' OL iv' w2 ρ' x w3 G',K l' H' OL iv' w2 G'->Sat n l' H' OL iv' B w2 ρ' (a.put o.dst x) w3->(∀z∈Z,mf ops z.1.b (la.setIfInBounds i true)->z.1∈G')->(∀z∈Z,NS ops (la.setIfInBounds i true) (a.put o.dst x) z)->IZ P ops Z (la.setIfInBounds i true) w3->next (a.put o.dst x) w3):
  wpOp P ops Q i next a w':=by
 have hl:=(eI.1 hr).1;refine Nx hτ ho hd h1 sat fun l' H' OL iv' w2 ρ' x w3 hK sat2 hw=>?_;have VU:∀z∈Z,NS ops (la.setIfInBounds i true) (a.put o.dst x) z:=fun z hz=>(hZ z hz).step ho (uO hr)
 cases hR:sS o.op with
 |true=>
  rw[hR]at hK;have hw:=hw hR;subst hw;refine hn _ _ _ _ _ _ _ _ G hK sat2 (fun z hz h=>hG z hz (oQ ho hl h).1) VU fun z hz h=>hI z hz (oQ ho hl h).1
 |false=>
  rw[hR]at hK;obtain⟨h2,h3⟩:=wm hτ sat2 _ hK;refine hn _ _ _ _ _ _ _ _ _ h2 sat2 (fun z hz h=>?_) VU fun z hz h=>?_
  ·obtain⟨k1,k2⟩:=oQ ho hl h;exact qc (hG z hz k1) (k2 hR)
  ·obtain⟨k1,k2⟩:=oQ ho hl h;obtain⟨su,sv,e1,e2,e3⟩:=h3 z.1 (qc (hG z hz k1) (k2 hR));have h4:=sat2.env _ _ e1;have h5:=sat2.env _ _ e2;rw[(VU z hz).u]at h4;rw[(VU z hz).d]at h5;injection h4 with h4;injection h5 with h5;unfold Yz;rw[h4,h5];exact e3
end
section
variable{P:Program}{τ:mg}{ops:Array Oper}{B n nx:Nat}{l:Env}{H:Hp}{iv:Iv}{w w':World}{O:Nat->Sx.dg}{a:Act}
theorem sR{m i b:Nat}{oi:Oper}:∀(l:List Oper) (k:Nat),FD ops m i oi b l k=true->∀(j:Nat) oj,l[j]? =some oj->k+j≠i->tb m (k+j)=false->tb b (k+j)=false->oi.apart ops oj=true
 |[],_,_,j,oj,h,_,_,_=>by cases h
 |o::r,k,h,j,oj,hj,h1,h2,h3=>by
  simp only[FD,aZ,Bool.or_eq_true]at h
  cases j with
  |zero=>
   injection hj with hj;subst hj;rcases h.1 with((h4|h4)|h4)|h4
   ·exact absurd (bS h4) h1
   ·rw[bz]at h2;rw[h2]at h4;cases h4
   ·rw[bz]at h3;rw[h3]at h4;cases h4
   ·exact h4
  |succ j=>
   have e:k+(j+1)=k+1+j:=by omega
   rw[e]at h1 h2 h3;exact sR r (k+1) h.2 j oj (by simpa using hj) h1 h2 h3
theorem AO{m i u d:Nat}:∀(l:List Oper) (k:Nat),HZ m i u d l k=true->∀(j:Nat) oj,l[j]? =some oj->tb m (k+j)=false->oj.dst≠some u∧(k+j≠i->oj.dst≠some d)
 |[],_,_,j,oj,h,_=>by cases h
 |o::r,k,h,j,oj,hj,h2=>by
  simp only[HZ,aZ,Bool.or_eq_true]at h
  cases j with
  |zero=>
   injection hj with hj;subst hj;rcases h.1 with h4|h4
   ·rw[bz]at h2;rw[h2]at h4;cases h4
   ·cases ho:o.dst with
    |none=>exact⟨by simp,by simp⟩
    |some e=>
     rw[ho]at h4;simp only[aZ,Bool.not_eq_true',Bool.or_eq_true]at h4;refine⟨fun hh=>?_,fun OG hh=>?_⟩
     ·injection hh with hh;subst hh;have:=h4.1;simp at this
     ·injection hh with hh;subst hh;rcases h4.2 with h5|h5
      ·exact OG (bS h5)
      ·simp at h5
  |succ j=>
   have e:k+(j+1)=k+1+j:=by omega
   rw[e]at h2 ⊢;exact AO r (k+1) h.2 j oj (by simpa using hj) h2
theorem Ia{o:Oper}{d T u:Nat}(h:LF o=some (d,T,u)):o.dst=some d∧o.op= .load T (.tmp u)∧o.guard=none:=by
 unfold LF at h;split at h
 ·injection h with h;injection h with h1 h2;injection h2 with h2 h3;subst h1 h2 h3;exact⟨rfl,rfl,rfl⟩
 ·cases h
theorem jJ(hτ:fH P τ)(OJ:∀(j:Nat) o,ops[j]? =some o->∀d,o.dst=some d->d<n)(OT:∀(j:Nat) (o:Oper) cs b,ops[j]? =some o->o.op≠ .select cs b){K:KT}{Q0:Act->World->Prop}
  (hQ:∀l' H' OL iv' w2 ρ' a' w3,K l' H' OL iv' w2->Sat n l' H' OL iv' B w2 ρ' a' w3->Q0 a' w3):
  ∀(t:Tg) (fuel:Nat) (la:Array Bool) (l:Env) (H:Hp) (nx:Nat) (iv:Iv) (w:World) (O:Nat->Sx.dg) (a:Act) (w':World) (G:List Gh) (Z:List Zh),LL la<=fuel->la.size=ops.size->l6 ops t la=true->Az P τ B ops.toList t G l H nx iv w K->Sat n l H nx iv B w O a w'->
   (∀z∈Z,mf ops z.1.b la->z.1∈G)->(∀z∈Z,NS ops la a z)->IZ P ops Z la w'->qH P .any ops (QN Q0) (IZ P ops Z) fuel la a w'
 | .nil,fuel,la,l,H,nx,iv,w,O,a,w',G,Z,_,_,hc,h,s,hG,hZ,hI=>by
  simp only[l6,List.isEmpty_iff]at hc;exact FC hI hc ⟨rfl,hQ _ _ _ _ _ _ _ _ h s⟩ fuel
 | .x i t,fuel,la,l,H,nx,iv,w,O,a,w',G,Z,hf,hz,hc,h,s,hG,hZ,hI=>by
  unfold l6 at hc;obtain⟨o,ho,h1⟩:=fy h;rw[bB]at ho;simp only[ho,aZ,Bool.or_eq_true]at hc;obtain⟨⟨c1,c2⟩,c3⟩:=hc;have c1:i∈Region.ready .any ops la:=by simpa using c1
  obtain⟨Pj,-⟩:=eI.1 c1;have SP:=jK Pj;obtain⟨f,rfl⟩:∃f,fuel=f+1:=⟨fuel-1,by omega⟩
  have Ov:(la.setIfInBounds i true).size=ops.size:=by rw[bQ,hz]
  rcases c2 with c2|⟨⟨hP,RD⟩,c4⟩
  ·refine⟨hI,fun h0=>(by rw[h0]at c1;cases c1),fun j hj=>?_⟩;have PA:j=i:=eJ (List.all_eq_true.1 c2 j hj);subst PA;exact CE hτ ho (OJ j o ho) c1 h1 s hG hZ hI fun _ _ _ _ _ _ _ _ G' hk hs UY UZ Ua=>jJ hτ OJ OT hQ t f _ _ _ _ _ _ _ _ _ G' Z (by omega) Ov c3 hk hs UY UZ Ua
  ·have hR:sS o.op=true:=by
    unfold FI at hP;split at hP
    ·cases hP
    ·exact hP
   have hm:=xX la;have hb:=ml (ops:=ops) (m:=iI la.toList 0) (i:=i) ops.toList 0 0 (fun n o hn=>by rw[aQ];rwa [bB]at hn) (fun j hj=>by rw[sY]at hj;cases hj);generalize AQ (iI la.toList 0) i ops.toList 0 0=b at*
   have Sj:o.guard=none:=by simpa using RD
   unfold fc sZ at h1;rw[Sj]at h1;obtain⟨v,hK,QU,ON⟩:=(jV hτ h1 s hR).resolve_right (fun hh=>by have:=hh.1;rw[kr hR]at this;cases this);obtain⟨l2,h3,sat2⟩:=eh s hK (OJ i o ho) QU;rw[hR]at h3;have hw:Region.wanted o (yielded ops a.tmps)=true:=by simp[Region.wanted,Sj]
   refine uN (v:=v.den O) (b:=b) (Y:=fun _=>True) (X:=execOp a.eval o) ho hR OT (fun c a w hq=>absurd hq.1 (by simp)) (fun j hj=>(hb j hj).2.2) (fun w3 _=>ON w3 (.inl hP)) (fun lx w h z hz ha=>h z hz ((jU ho hR).2 ha))
    f la a w' (fun j hj=>(hm j).symm.trans (hb j hj).1) (fun j oj Qq PA hl hk=>sR ops.toList 0 c4 j oj (by rw[bB];exact Qq) (by omega) (by
     have hj:=(ai.1 Qq).1
     rw[aQ,hm,mi (by omega) false true];exact hl) (by rw[aQ];exact hk)) c1 ⟨hw,rfl⟩ ?_
   refine kP (fun lx w h=>⟨h,fun _=>trivial⟩) _ _ _ _ ?_;exact jJ hτ OJ OT hQ t f _ _ _ _ _ _ _ _ _ G Z (by omega) Ov c3 h3 sat2 (fun z hz h=>hG z hz ((jU ho hR).1 h)) (fun z hz=>(hZ z hz).step ho (uO c1)) (fun z hz h=>hI z hz ((jU ho hR).1 h))
 | .two i t k u,fuel,la,l,H,nx,iv,w,O,a,w',G,Z,hf,hz,hc,h,s,hG,hZ,hI=>by
  simp only[l6]at hc;split at hc
  ·rename_i x y hr;simp only[aZ]at hc;obtain⟨c1,c2,c3,c4⟩:=hc;have hx:=bS c1;have hy:=bS c2;subst hx;subst hy;obtain⟨h1,h2⟩:=h;obtain⟨o1,Up,h1⟩:=fy h1;obtain⟨o2,TR,h2⟩:=fy h2;rw[bB]at Up TR;have Rb:x∈Region.ready .any ops la:=by rw[hr];simp
   have Ta:y∈Region.ready .any ops la:=by rw[hr];simp
   have u1:=jK (eI.1 Rb).1;have u2:=jK (eI.1 Ta).1;obtain⟨f,rfl⟩:∃f,fuel=f+1:=⟨fuel-1,by omega⟩
   refine⟨hI,fun h0=>(by rw[hr]at h0;cases h0),fun j hj=>?_⟩;rw[hr,List.mem_cons,aw]at hj;rcases hj with rfl|rfl
   ·exact CE hτ Up (OJ _ o1 Up) Rb h1 s hG hZ hI fun _ _ _ _ _ _ _ _ G' hk hs UY UZ Ua=>jJ hτ OJ OT hQ t f _ _ _ _ _ _ _ _ _ G' Z (by omega) (by rw[bQ,hz]) c3 hk hs UY UZ Ua
   ·exact CE hτ TR (OJ _ o2 TR) Ta h2 s hG hZ hI fun _ _ _ _ _ _ _ _ G' hk hs UY UZ Ua=>jJ hτ OJ OT hQ u f _ _ _ _ _ _ _ _ _ G' Z (by omega) (by rw[bQ,hz]) c4 hk hs UY UZ Ua
  ·cases hc
 | .three i t k u m v,fuel,la,l,H,nx,iv,w,O,a,w',G,Z,hf,hz,hc,h,s,hG,hZ,hI=>by
  simp only[l6]at hc;split at hc
  ·rename_i x y z9 hr;simp only[aZ]at hc;obtain⟨c1,c2,c6,c3,c4,c5⟩:=hc;have hx:=bS c1;have hy:=bS c2;have hz9:=bS c6;subst hx;subst hy;subst hz9;obtain⟨h1,h2,h3⟩:=h;obtain⟨o1,Up,h1⟩:=fy h1;obtain⟨o2,TR,h2⟩:=fy h2;obtain⟨o3,ho3,h3⟩:=fy h3;rw[bB]at Up TR ho3;have Rb:x∈Region.ready .any ops la:=by rw[hr];simp
   have Ta:y∈Region.ready .any ops la:=by rw[hr];simp
   have hm3:z9∈Region.ready .any ops la:=by rw[hr];simp
   have u1:=jK (eI.1 Rb).1;have u2:=jK (eI.1 Ta).1;have u3:=jK (eI.1 hm3).1;obtain⟨f,rfl⟩:∃f,fuel=f+1:=⟨fuel-1,by omega⟩
   refine⟨hI,fun h0=>(by rw[hr]at h0;cases h0),fun j hj=>?_⟩;rw[hr,List.mem_cons,List.mem_cons,aw]at hj;rcases hj with rfl|rfl|rfl
   ·exact CE hτ Up (OJ _ o1 Up) Rb h1 s hG hZ hI fun _ _ _ _ _ _ _ _ G' hk hs UY UZ Ua=>jJ hτ OJ OT hQ t f _ _ _ _ _ _ _ _ _ G' Z (by omega) (by rw[bQ,hz]) c3 hk hs UY UZ Ua
   ·exact CE hτ TR (OJ _ o2 TR) Ta h2 s hG hZ hI fun _ _ _ _ _ _ _ _ G' hk hs UY UZ Ua=>jJ hτ OJ OT hQ u f _ _ _ _ _ _ _ _ _ G' Z (by omega) (by rw[bQ,hz]) c4 hk hs UY UZ Ua
   ·exact CE hτ ho3 (OJ _ o3 ho3) hm3 h3 s hG hZ hI fun _ _ _ _ _ _ _ _ G' hk hs UY UZ Ua=>jJ hτ OJ OT hQ v f _ _ _ _ _ _ _ _ _ G' Z (by omega) (by rw[bQ,hz]) c5 hk hs UY UZ Ua
  ·cases hc
 | .ld i b t,fuel,la,l,H,nx,iv,w,O,a,w',G,Z,hf,hz,hc,h,s,hG,hZ,hI=>by
  unfold l6 at hc;obtain⟨o,ho,h1⟩:=fy h;rw[bB]at ho;simp only[ho]at hc
  cases QX:LF o with
  |none=>rw[QX]at hc;cases hc
  |some q=>
   obtain⟨d,T,u⟩:=q;rw[QX]at hc h1;simp only[aZ]at hc;obtain⟨⟨⟨⟨c1,c2⟩,c4⟩,c5⟩,c3⟩:=hc;obtain⟨e1,e2,e3⟩:=Ia QX;have c1:i∈Region.ready .any ops la:=by simpa using c1
   obtain⟨Pj,-⟩:=eI.1 c1;have SP:=jK Pj;obtain⟨f,rfl⟩:∃f,fuel=f+1:=⟨fuel-1,by omega⟩
   have Ov:(la.setIfInBounds i true).size=ops.size:=by rw[bQ,hz]
   have hR:sS o.op=true:=by rw[e2];rfl
   have hm:=xX la;have hb:=ml (ops:=ops) (m:=iI la.toList 0) (i:=i) ops.toList 0 0 (fun n o hn=>by rw[aQ];rwa [bB]at hn) (fun j hj=>by rw[sY]at hj;cases hj);rw[<-bS c2]at hb
   cases hsu:fL l u with
   |none=>simp only[hsu]at h1
   |some su=>
    simp only[hsu]at h1;obtain⟨v,hK,QU,ON⟩:=nR hτ s.rel (s.sc _ _ hsu) h1;have hau:=s.env _ _ hsu;have Uc:=OJ i o ho d e1;have sat2:Sat n ((d,v)::l) H nx iv B w O (a.put o.dst (v.den O)) w':=by rw[e1];exact s.put Uc QU
    have hw:Region.wanted o (yielded ops a.tmps)=true:=by simp[Region.wanted,e3]
    have Qh:a.eval (.tmp u)=su.den O:=by rw[Act.eval,bA,hau];rfl
    have hui:tb (iI la.toList 0) i=false:=by rw[hm];exact uO c1
    have SK:=AO ops.toList 0 c5;refine uN (v:=v.den O) (b:=b) (Y:=Yz P (⟨u,d,T,b⟩,su.den O,v.den O)) (X:=execOp a.eval o) ho hR OT (fun c a w hq=>absurd hq.1 (by simp)) (fun j hj=>(hb j hj).2.2) (fun w3 hY=>?_) (fun lx w h z hz ha=>h z hz ((jU ho hR).2 ha))
     f la a w' (fun j hj=>(hm j).symm.trans (hb j hj).1) (fun j oj Qq PA hl hk=>sR ops.toList 0 c4 j oj (by rw[bB];exact Qq) (by omega) (by
      have hj:=(ai.1 Qq).1
      rw[aQ,hm,mi (by omega) false true];exact hl) (by rw[aQ];exact hk)) c1 ⟨hw,rfl⟩ ?_
    ·unfold Yz at hY;obtain⟨dst,op,ty,pos,after,guard⟩:=o;simp only at e2;subst e2;simp only[execOp,Qh]
     exact lh hY
    ·refine kP (I:=IZ P ops ((⟨u,d,T,b⟩,su.den O,v.den O)::Z)) (fun lx w h=>⟨fun z hz=>h z (List.mem_cons_of_mem _ hz),h _ aG⟩) _ _ _ _ ?_;refine jJ hτ OJ OT hQ t f _ _ _ _ _ _ _ _ _ (⟨u,d,T,b⟩::G) ((⟨u,d,T,b⟩,su.den O,v.den O)::Z) (by omega) Ov c3 hK sat2 (fun z hz h=>?_) (fun z hz=>?_) (fun z hz h=>?_)
     ·rcases List.mem_cons.1 hz with rfl|hz
      ·exact aG
      ·exact List.mem_cons_of_mem _ (hG z hz ((jU ho hR).1 h))
     ·rcases List.mem_cons.1 hz with rfl|hz
      ·have h7:=(SK i o (by rw[bB];exact ho) (by rw[aQ];exact hui)).1;refine⟨qJ h7 hau,?_,fun j oj Qq TO=>?_⟩
       ·rw[e1];show(a.tmps.setIfInBounds d _)[d]? =_;rw[Array.getElem?_setIfInBounds_self_of_lt (by rw[s.size];exact Uc)]
       ·have PA:i≠j:=fun e=>by
         subst e;have hi:=(ai.1 Pj).1;rw[bA,Array.getElem?_setIfInBounds_self_of_lt hi]at TO
         cases TO
        rw[getD_set_ne false PA]at TO;obtain⟨k1,k2⟩:=SK j oj (by rw[bB];exact Qq) (by rw[aQ,hm];exact TO);exact⟨k1,k2 (by omega)⟩
      ·exact(hZ z hz).step ho (uO c1)
     ·rcases List.mem_cons.1 hz with rfl|hz
      ·exact ON w' s.rel
      ·exact hI z hz ((jU ho hR).1 h)
 | .jw id t,fuel,la,l,H,nx,iv,w,O,a,w',G,Z,hf,hz,hc,h,s,hG,hZ,hI=>by
  obtain⟨H',b,Oj,hd,hs,ho,h⟩:=h;obtain⟨hn,l',hl,h⟩:=h _ _ s.rel;exact jJ hτ OJ OT hQ t fuel la l' H' nx _ w' O a w' G Z hf hz hc h ⟨s.rel.free Oj hd hn hs ho,s.size,s.defers,fun u v hv=>by obtain⟨-,v',h1,h2⟩:=hl u v hv;rw[<-h2];exact s.env u v' h1,fun u v hv=>(hl u v hv).1⟩ hG hZ hI
theorem ic(hτ:fH P τ)(hm:P.follows .mixedOrders=true){K:KT}(t:Tg)(hs:Region.noSelect ops=true)(hc:l6 ops t (Array.replicate ops.size false)=true)
  (h:Az P τ B ops.toList t [] l H nx iv w K):uQ P B ops l H nx iv w K:=by
 refine⟨fun n O a w' OJ sat Q hQ id=>?_⟩;refine wp_mono (Q':=Q) (c:=.region id ops true) (wp_region_any (Q:=QN (Q .normal)) hm (AN (I:=IZ P ops []) _ _ _ _ ?_)) (fun e a w hq=>by obtain⟨rfl,hq⟩:=hq;exact hq);refine jJ (Q0:=Q .normal) hτ (fun j o ho d hd=>?_) (Region.noSelect_spec hs) hQ t _ _ _ _ _ _ _ O _ _ [] [] ?_ (by simp) hc h ⟨sat.rel.drew,sat.size,sat.defers,sat.env,sat.sc⟩ (fun z hz=>by cases hz) (fun z hz=>by cases hz) (fun z hz=>by cases hz)
 ·have:=List.all_eq_true.1 OJ o (aC (by rw[bB];exact ho));rw[hd]at this;have h5:d+1<=n:=by simpa [Nat.blt]using this
  exact h5
 ·unfold LL;refine ah List.countP_le_length ?_;simp
end
theorem KC{α:Type}(a b:α){c:Nat}(h:i<c):(List.replicate i a++List.replicate (c-i) b).take i++[a]++(List.replicate i a++List.replicate (c-i) b).drop (i+1)=List.replicate (i+1) a++List.replicate (c-(i+1)) b:=by
 rw[List.take_left' (bC ..),List.drop_append,bC,List.drop_of_length_le (by rw[bC];omega),List.nil_append,List.drop_replicate,List.replicate_succ'];congr 2;omega
def kg(w:World)(C S:Nat->Prop)(v:Value)(M:List (List Rat)):Prop:=∃rv,iB w C 1 v rv M.length∧rv.length=M.length∧∀(i:Nat) u x,rv[i]? =some u->M[i]? =some x->cL w S u x
theorem kg.shape(h:kg w C S v M):∃a c,v= .slice a M.length c∧M.length<=c∧M.length<=maxLen:=by
 obtain⟨rv,⟨h0,_,_,a,c,h1,h2,_⟩,_⟩:=h;exact⟨a,c,h1,h2,h0⟩
theorem kg.load{a:Option Addr}{m c:Nat}{x:List Rat}(h:kg w C S (.slice a m c) M)(hq:M[j]? =some x):
  ∃ad u,a=some ad∧cL w S u x∧C ad.block∧w.cell? (ad.add (j*1))=some u:=by
 obtain⟨rv,⟨h0,h1,h2,a',c',e,h3,h4⟩,hl,hf⟩:=h;injection e with e1 e2 e3;subst e1;obtain⟨u,hu⟩:∃u,rv[j]? =some u:=⟨_,aB (by rw[hl];exact(aD.1 hq).1)⟩
 obtain⟨ad,k1,k2,k3⟩:=h4 j u hu;exact⟨ad,u,k1,hf j u x hu hq,k2,by rw[aS];exact k3⟩
def LJ:Option Nat->Value
 |none=>.int .i64 (-1)
 |some j=>.int .i64 (j:Int)
structure Cr(M:List (List Rat))(cols h:Nat):Prop where
 rows:∀i,i<=M.length->∀r∈(gq M cols i).1,∀q∈r,rl q+1<=h
 l7:∀i,i<M.length->∀k,k<=cols->∀q∈fm (gq M cols i).1 (gq M cols i).2.1 (M.getD i []) k,rl q+1<=h
theorem zp{k:Nat}(h:at_[k]? =some (some j)):fm E at_ row (k+1)=lk (fm E at_ row k) (E.getD j []) ((fm E at_ row k).getD k 0):=by
 rw[fm,show at_.getD k none=some j by rw[List.getD,h];rfl]
theorem Fv{k:Nat}(h:at_[k]? =some none):fm E at_ row (k+1)=fm E at_ row k:=by
 rw[fm,show at_.getD k none=none by rw[List.getD,h];rfl]
theorem KD{α:Type}{l:List α}(a b:α)(h:j<l.length):(l++[a]).set j b=l.set j b++[a]:=by rw[List.set_append,if_pos h]
theorem Fw{x:List Rat}(QE:(E,at_,fr)=gq M cols i)(hx:M.getD i []=x)(hy:fm E at_ x cols=y)(hp:sk y cols=cols):(E,at_,fr)=gq M cols (i+1):=by
 rw[gq,<-QE,hx,kB];simp only[hy,hp,if_true]
theorem Fx{p:Nat}{x:List Rat}(QE:(E,at_,fr)=gq M cols i)(hx:M.getD i []=x)(hy:fm E at_ x cols=y)(hp:sk y cols=p)(OG:p≠cols):
  gq M cols (i+1)=(gK E (y.map (· / y.getD p 0)) p E.length++[y.map (· / y.getD p 0)],at_.set p (some E.length),fr++[i]):=by
 rw[gq,<-QE,hx,kB];simp only[hy,hp,aK OG]
theorem KE(q:Rat)(y:List Rat):gu y.length (fun _ r=>r / q) y=y.map (· / q):=by
 rw[vJ];exact bM fun j=>by rw[List.getElem?_mapIdx,aN]
theorem Fy{p:Nat}(h:E[i]? =some r)(h0:r.getD p 0=0):gK E u p (i+1)=gK E u p i:=by
 rw[yb h,h0,ya];refine bM fun j=>?_;by_cases hj:i=j
 ·subst hj;rw[aW (by rw[fq];exact(aD.1 h).1),Dp h]
 ·rw[aX hj]
def kY(rv:List Value)(at_:List (Option Nat)):Nat->List Value
 |0=>[]
 |k+1=>match at_.getD k none with
  |some r=>kY rv at_ k++[rv.getD r (.bool false)]
  |none=>kY rv at_ k
theorem mJ{k:Nat}(h:s.2.1[k]? =some none):dC s (k+1)=dC s k:=by
 rw[dC,show s.2.1.getD k none=none by rw[List.getD,h];rfl]
theorem mK{k r:Nat}(h:s.2.1[k]? =some (some r)):dC s (k+1)=((dC s k).1++[s.1.getD r []],(dC s k).2.1++[k],(dC s k).2.2++[s.2.2.getD r 0]):=by
 rw[dC,show s.2.1.getD k none=some r by rw[List.getD,h];rfl]
theorem sI{k:Nat}(h:at_[k]? =some none):kY rv at_ (k+1)=kY rv at_ k:=by
 rw[kY,show at_.getD k none=none by rw[List.getD,h];rfl]
theorem sJ{k r:Nat}(h:at_[k]? =some (some r)):kY rv at_ (k+1)=kY rv at_ k++[rv.getD r (.bool false)]:=by
 rw[kY,show at_.getD k none=some r by rw[List.getD,h];rfl]
theorem tw(s:wy)(rv:List Value):∀k,k<=s.2.1.length->(dC s k).1.length=(dC s k).2.1.length∧(dC s k).2.2.length=(dC s k).2.1.length∧(kY rv s.2.1 k).length=(dC s k).2.1.length∧(dC s k).2.1.length<=k
 |0,_=>⟨rfl,rfl,rfl,aF _⟩
 |k+1,hk=>by
  have ih:=tw s rv k (by omega);obtain⟨o,ho⟩:∃o,s.2.1[k]? =some o:=⟨_,aB (by omega)⟩
  cases o with
  |none=>rw[mJ ho,sI ho];exact⟨ih.1,ih.2.1,ih.2.2.1,by have:=ih.2.2.2;omega⟩
  |some r=>rw[mK ho,sJ ho];simp only[List.length_append,List.length_singleton];omega
theorem zq{E:List (List Rat)}{at_:List (Option Nat)}{fr:List Nat}{rv:List Value}(hl:rv.length=E.length)(OU:∀(k r:Nat),at_[k]? =some (some r)->r<E.length):∀k,k<=at_.length->∀(i:Nat) u x,(kY rv at_ k)[i]? =some u->(dC (E,at_,fr) k).1[i]? =some x->∃r:Nat,rv[r]? =some u∧E[r]? =some x
 |0,_,i,u,x,h,_=>by cases h
 |k+1,hk,i,u,x,h1,h2=>by
  have ih:=zq (fr:=fr) hl OU k (by omega) i u x;obtain⟨o,ho⟩:∃o,at_[k]? =some o:=⟨_,aB (by omega)⟩
  cases o with
  |none=>
   rw[sI ho]at h1;rw[mJ (s:=(E,at_,fr)) ho]at h2;exact ih h1 h2
  |some r=>
   have hr:=OU k r ho;rw[sJ ho]at h1;rw[mK (s:=(E,at_,fr)) ho]at h2;obtain⟨q1,q2,q3,q4⟩:=tw (E,at_,fr) rv k (by dsimp only;omega);dsimp only at q1 q2 q3 q4 h2;rcases aP i (kY rv at_ k).length with hi|hi
   ·rw[aL hi]at h1;rw[aL (by omega)]at h2;exact ih h1 h2
   ·have RV:i=(kY rv at_ k).length:=by have:=(aD.1 h1).1;simp at this;omega
    rw[RV,aM (aF _),bK]at h1;rw[RV,q3,<-q1,aM (aF _),bK]at h2;simp only[List.getElem?_cons_zero,Option.some.injEq]at h1 h2;refine⟨r,?_,?_⟩
    ·rw[<-h1,List.getD,aB (by omega)];rfl
    ·rw[<-h2,List.getD,aB hr];rfl
theorem EX{α:Type}(l:List α)(a b:α):(l++[a]).set l.length b=l++[b]:=by simp
section
variable{S S':Nat->Prop}{H:Hp}{nx:Nat}{iv iv':Iv}{B:Nat}{w w' w2:World}{O:Nat->Sx.dg}{rv:List Value}{v:Value}{q:Rat}
theorem cS.EY(h:cS w (Lr S B iv rv) v q)(r:Rel H nx iv B w O w')(hS:∀g,S g->g<B):cS w' (Lr S B iv rv) v q:=h.cI fun _ hg=>Rel.same r hS hg.1
theorem cS.MR(h:cS w (Lr S B iv rv) v q)(r:Rel H nx iv B w O w')(hS:∀g,S g->g<B)(he:Ext w' w2)(hm:∀p,p∈iv->p∈iv'):cS w2 (Lr S B iv' rv) v q:=
 ((h.EY r hS).cI fun g hg=>he.block g (Rel.old r hS g hg.1)).cJ fun _ hg=>⟨hg.1.mono hm,hg.2⟩
theorem Lr.old(r:Rel H nx iv B w O w')(hS:∀g,S g->g<B):Old (Lr S B iv rv) w':=fun g hg=>Rel.old r hS g hg.1
theorem cS.aAJ{n:Nat}(h:cS w2 (Nf w' w2) v q)(hM:lP w S B iv rv n M)(r:Rel H nx iv B w O w'):cS w2 (Lr S0 B ((w'.heap.size,w2.heap.size)::iv) rv) v q:=
 h.cJ fun g hg=>by
  rcases hg with hg|hg
  ·exact hg.elim
  ·exact⟨.inr ⟨by have:=r.cF;omega,_,_,aG,hg.1,hg.2⟩,fun hm=>by have:=hM.lt r hm;omega⟩
end
set_option maxHeartbeats 2000000 in
theorem vK{n h:Nat}(hC:Old C w)(hS:Old S w)(hM:kg w C S v M)(hlen:fX n M)(hn0:0<n)(hn:n<=1000)(hR:M.length<=1000)(Pr:cols<=n)(hB:Cr M cols h)(hh:3*h<=90000):
  eD PG N.fZ #[.agg #[v,.int .i64 n],.int .i64 cols] w (eG w fun v' w2=>∃vr vp vf,v'= .agg #[vr,.int .i64 n,vp,vf]∧cT w2 (Nw S w w2) vr (dR M cols).1∧dK w2 (Nf w w2) vp (dR M cols).2.1∧dK w2 (Nf w w2) vf (dR M cols).2.2):=by
 have hw:=bR w;obtain⟨am,cm,rfl,SR,R1⟩:=kg.shape hM;unfold maxLen at R1;refine jZ (by simp) ?_
 refine⟨cols,cols,rfl,rfl,aF _,by omega,by omega,Nat×World,fun z=>⟨[(1,iZ cols),(2,pP 0 0),(4,pP 1 0),(5,pP 2 0),(6,.o (.s 3 0 cols cols)),(27,iZ cols),(28,iN z.1)],
   [(3,.arr T.int (List.replicate z.1 (.int .i64 (-1))++List.replicate (cols-z.1) (.int .i64 0))),(2,.box T.dT [.v (.slice none 0 0),.v (.int .i64 n),.v (.slice none 0 0),.v (.slice none 0 0)]),(1,.box T.dT [.v (.slice none 0 0),.v (.int .i64 0),.v (.slice none 0 0),.v (.slice none 0 0)]),(0,.box T.dq [.v (.slice am M.length cm),.v (.int .i64 n)])],4,[],z.2⟩,fun z=>cols-z.1,
  fun z=>z.1<=cols∧eB w.heap.size w z.2,?_,?_⟩
 ·intro O w' r;exact⟨(0,w'),⟨aO _,hw.tr r.cQ⟩,Sub.gn [] r ⟨by simp;rfl,rfl,rfl,rfl,trivial⟩⟩
 rintro⟨i,w1⟩ ⟨hi,hw⟩;dsimp only at hi hw ⊢;refine dN.mk ?_ ?_<;>intro OF
 ·have OF:i<cols:=by simpa using OF
  refine⟨by omega,by simp;omega,List.replicate (i+1) (.int .i64 (-1))++List.replicate (cols-(i+1)) (.int .i64 0),?_,?_⟩
  ·rw[aE,aS,aQ];exact KC _ _ OF
  refine⟨((i+1:Nat):Int),wo,?_⟩;intro ρ3 w3 r3;exact⟨(i+1,w3),⟨OF,hw.tr r3.cQ⟩,Sub.gn [] r3,by dsimp only;omega⟩
 have OF:i=cols:=aR hi (by simpa using OF);rw[OF]
 refine⟨Nat×List Value×List (List Rat)×List (Option Nat)×List Nat×World×Iv,fun z=>⟨[(38,iN z.1),(1,iZ cols),(2,pP 0 0),(4,pP 1 0),(5,pP 2 0),(6,.o (.s 3 0 cols cols)),(36,sV am M.length cm),(37,iZ M.length)],[(2,.box T.dT [.w 4 z.2.1.length,.v (.int .i64 n),.v (.slice none 0 0),.w 5 z.2.2.2.2.1.length]),(5,.vec T.int 1 (z.2.2.2.2.1.map fun c:Nat=>.int .i64 (c:Int))),(4,.vec T.fa 1 z.2.1),(0,.box T.dq [.v (.slice am M.length cm),.v (.int .i64 n)]),(1,.box T.dT [.v (.slice none 0 0),.v (.int .i64 0),.v (.slice none 0 0),.v (.slice none 0 0)]),(3,.arr T.int (z.2.2.2.1.map LJ))],6,z.2.2.2.2.2.2,z.2.2.2.2.2.1⟩,fun z=>M.length-z.1,
  fun z=>z.1<=M.length∧(z.2.2.1,z.2.2.2.1,z.2.2.2.2.1)=gq M cols z.1∧eB w.heap.size w z.2.2.2.2.2.1∧lP z.2.2.2.2.2.1 S w.heap.size z.2.2.2.2.2.2 z.2.1 n z.2.2.1,?_,?_⟩
 ·intro O w' r
  exact⟨(0,[],[],List.replicate cols none,[],w',[]),⟨aO _,rfl,hw.tr r.cQ,lP.nil⟩,Sub.Ak 2 0 T.fa 1 rfl rfl (by simp[jN,SV.sc,At.sc]) r fun ρ1 r1=>Sub.Ak 2 3 T.int 1 rfl rfl (by simp[jN,SV.sc,At.sc]) r1 fun ρ2 r2=>
   Sub.gn [] r2 ⟨rfl,rfl,rfl,rfl,rfl,by simp[LJ];rfl,trivial⟩⟩
 rintro⟨i,rv,E,at_,fr,w1,iv⟩ ⟨hi,QE,hw,hE⟩;dsimp only at hi QE hw hE ⊢;have OJ:=yc cols hlen i hi;rw[<-QE]at OJ;have hatl:at_.length=cols:=OJ.at_;have hfrl:fr.length=E.length:=OJ.uP;have hEi:E.length<=i:=OJ.le;have Oh:rv.length=E.length:=hE.len;have hEb:∀r∈E,∀q∈r,rl q+1<=h:=by have:=hB.rows i hi;rwa [<-QE]at this
 refine dN.mk ?_ ?_<;>intro OF
 ·have OF:i<M.length:=by simpa using OF
  obtain⟨x,hx⟩:∃r,M[i]? =some r:=⟨_,aB OF⟩
  have PW:=hlen x (aC hx);have Ty:M.getD i []=x:=by rw[List.getD,hx];rfl
  have Pu:∀k,k<=cols->∀q∈fm E at_ x k,rl q+1<=h:=by have:=hB.l7 i OF;rwa [<-QE,Ty]at this
  have hcll:∀k,(fm E at_ x k).length=n:=fun k=>by rw[hJ,PW]
  obtain⟨adm,um,RL,PS,km1,km2⟩:=kg.load hM hx;obtain⟨css,⟨-,g1,g2,a0,c0,rfl,g4,g5⟩,Po,R4,Om⟩:=PS;have OX:=eH R4;refine⟨adm,RL,by omega,.slice a0 x.length c0,rd1 km2 hw (hC _ km1),?_⟩;refine .inl ?_;refine⟨css.flatten,g1,g2,fun O w' r Oo=>?_,?_⟩
  ·obtain⟨u0,RY⟩:∃u,css.flatten[0]? =some u:=⟨_,aB (by omega)⟩
   obtain⟨ad,ha,_,_⟩:=g5 0 u0 RY;refine⟨ad,ha,fun j u hj=>?_⟩;obtain⟨ad2,On,q1,q2⟩:=g5 j u hj;rw[ha]at On;injection On with On;subst On;rw[cH (w:=w) (w2:=w') (by rw[dH];exact(hw.tr r.cQ).block _ (hS _ q1))];exact q2
  refine⟨rfl,by omega,by unfold maxLen;omega,?_⟩;rw[aQ x.length,PW]
  refine⟨Nat×Nat×Nat×World×Iv,fun z=>⟨[(9,.o (.v (.slice (some ⟨z.2.1,0,none⟩) n z.2.2.1))),(46,iZ cols),(47,iN z.1),(2,pP 0 0),(4,pP 1 0),(5,pP 2 0),(6,.o (.s 3 0 cols cols)),(8,iN i),(36,sV am M.length cm),(37,iZ M.length),(38,iN i),(1,iZ cols)],[(2,.box T.dT [.w 4 rv.length,.v (.int .i64 n),.v (.slice none 0 0),.w 5 fr.length]),(5,.vec T.int 1 (fr.map fun c:Nat=>.int .i64 (c:Int))),(4,.vec T.fa 1 rv),(0,.box T.dq [.v (.slice am M.length cm),.v (.int .i64 n)]),(1,.box T.dT [.v (.slice none 0 0),.v (.int .i64 0),.v (.slice none 0 0),.v (.slice none 0 0)]),(3,.arr T.int (at_.map LJ))],8,z.2.2.2.2,z.2.2.2.1⟩,fun z=>cols-z.1,
   fun z=>z.1<=cols∧eB w.heap.size w z.2.2.2.1∧lP z.2.2.2.1 S w.heap.size z.2.2.2.2 (rv++[.slice (some ⟨z.2.1,0,none⟩) n z.2.2.1]) n (E++[fm E at_ x z.1]),?_,?_⟩
  ·intro O w' r;have hv:=Lk (S:=S) (m:=n) (qs:=x) (css:=css) r (id:=7) rfl (by omega) hn0 (by unfold maxLen;omega) ⟨Po,fun j cs q k1 k2=>(Om j cs q k1 k2).cI fun g hg=>(hw.tr r.cQ).block g (hS g hg)⟩
   exact⟨(0,(O 7).g,(O 7).cap,w',((O 7).g,(O 7).g+1)::iv),⟨aO _,hw.tr r.cQ,(hE.rel r hS).push (fun g hg e=>Rel.not r hS hg 7 _ rfl hv.1 e.symm) hv.2.1 hv.2.2.2 hS⟩,
    Sub.Nj r (id:=7) (t:=9) (cs:=css.flatten) rfl hv.1 rfl ⟨rfl,rfl,rfl,rfl,rfl,rfl,trivial⟩ rfl ⟨rfl,rfl,rfl,rfl,rfl,rfl,rfl,rfl,rfl,rfl,rfl,trivial⟩ (by simp[jN,SV.sc,At.sc])⟩
  rintro⟨k,gx,cx,w2,iv⟩ ⟨hk,hw,hE⟩;dsimp only at hk hw hE ⊢;refine dN.mk ?_ ?_<;>intro OI
  ·have OI:k<cols:=by simpa using OI
   obtain⟨o,ho⟩:∃o,at_[k]? =some o:=⟨_,aB (by omega)⟩
   refine⟨by omega,LJ o,by rw[aE,aS,aQ,aN,ho];rfl,?_⟩
   cases o with
   |none=>
    refine⟨((k+1:Nat):Int),wo,?_⟩;intro ρ3 w3 r3;exact⟨(k+1,gx,cx,w3,_),⟨OI,hw.tr r3.cQ,by dsimp only;rw[Fv ho];exact hE.rel r3 hS⟩,Sub.gn [] r3,by dsimp only;omega⟩
   |some j=>
    have hj:j<E.length:=OJ.lt k j ho;have hq:∃q,(fm E at_ x k)[k]? =some q:=⟨_,aB (by rw[hcll];omega)⟩
    obtain⟨q,hq⟩:=hq;have Tt:(fm E at_ x k).getD k 0=q:=by rw[List.getD,hq];rfl
    have UI:=Pu k hk q (aC hq);have VG:(rv++[.slice (some ⟨gx,0,none⟩) n cx])[rv.length]? =some (.slice (some ⟨gx,0,none⟩) n cx):=by simp
    have Sp:(E++[fm E at_ x k])[rv.length]? =some (fm E at_ x k):=by rw[Oh];simp
    obtain⟨ad,cs,Od,hF,hl⟩:=hE.load VG Sp hq;obtain⟨f0,f1,f2,f3,f4,f5,f6,f7,rfl,hF⟩:=hF;refine⟨ad,Od,by omega,[.bool f0,.slice f1 f2 f3,.bool f4,.slice f5 f6 f7],rfl,fun O w' r t u hu=>?_,?_⟩
    ·obtain⟨k1,k2⟩:=hl t u hu;rw[aE,cH (w:=w2) (w2:=w') (by rw[dH,dH];exact Rel.same r (gH _) k1)];exact k2
    refine cD (cE hw (fun _ w' v w2=>∃d,v= .bool d∧(d=true↔q=0)) (fun O w' r=>qU (Lr.old r hS) ((hF.EY r hS).l (by omega))) ?_);rintro O _ _ Pa OM r he hw h_ ⟨d,rfl,hz⟩;replace hE:=hE.cG r hS he (mC h_);replace hF:=hF.MR r hS he (mC h_)
    cases d
    ·have hq0:q≠0:=fun e=>by have:=hz.2 e;cases this
     obtain⟨vj,S2⟩:∃v,rv[j]? =some v:=⟨_,aB (by omega)⟩
     have Sq:(rv++[.slice (some ⟨gx,0,none⟩) n cx])[j]? =some vj:=by rw[aL (by omega)];exact S2
     obtain⟨ej,UM⟩:∃v,E[j]? =some v:=⟨_,aB hj⟩
     have UN:(E++[fm E at_ x k])[j]? =some ej:=by rw[aL hj];exact UM
     have hejd:E.getD j []=ej:=by rw[List.getD,UM];rfl
     obtain⟨aj,cj,rfl⟩:=hE.form Sq;obtain⟨ad,cs,Od,hF,hl⟩:=hE.load VG Sp hq;obtain⟨f0,f1,f2,f3,f4,f5,f6,f7,rfl,hF⟩:=hF;refine cN hτ dm [.x 0,.x 1,.x 2,.x 3,.x 4,.x 5,.x 6,.x 7,.x 8,.x 9,.x 10,.x 11] (by kernel_rfl) (by kernel_rfl) ?_;refine⟨by simp,by omega,.slice aj n cj,by simpa using S2,ad,Od,by omega,[.bool f0,.slice f1 f2 f3,.bool f4,.slice f5 f6 f7],rfl,fun O w' r t u hu=>?_,?_⟩
     ·obtain⟨k1,k2⟩:=hl t u hu;rw[aE,cH (w:=Pa) (w2:=w') (by rw[dH,dH];exact Rel.same r (gH _) k1)];exact k2
     refine⟨fun O w' r=>?_⟩;refine(hE.Cn r hS (i:=rv.length) (j:=j) (h:=h) (by omega) VG Sq Sp UN (hF.l (by omega)) (fun y hy=>Pu k hk y hy) (fun y hy=>hEb ej (aC UM) y hy) UI hh).mono fun e w8 he=>?_;obtain⟨rfl,PX,TK,OY⟩:=he;have Ow:=(hw.tr r.cQ).tr (hE.cQ r PX TK);refine⟨.tuple #[],_,(w'.heap.size,w8.heap.size)::OM,rfl,r.EZ (fun x hx=>Rel.not r (gH _) (hE.new x (TK x hx))) PX,?_⟩;have OO:(E++[fm E at_ x k]).set rv.length (lk (fm E at_ x k) ej q)=E++[fm E at_ x (k+1)]:=by rw[Oh,EX,zp ho,hejd,Tt]
     rw[OO]at OY;generalize (w'.heap.size,w8.heap.size)::OM=R5 at*
     refine⟨((k+1:Nat):Int),wo,?_⟩;intro ρ3 w3 r3;exact⟨(k+1,gx,cx,w3,_),⟨OI,Ow.tr r3.cQ,OY.rel r3 hS⟩,Sub.gn [] r3,by dsimp only;omega⟩
    ·have hq0:q=0:=hz.1 rfl;refine⟨((k+1:Nat):Int),wo,?_⟩;intro ρ3 w3 r3;exact⟨(k+1,gx,cx,w3,_),⟨OI,hw.tr r3.cQ,by dsimp only;rw[zp ho,Tt,hq0,ya];exact hE.rel r3 hS⟩,Sub.gn [] r3,by dsimp only;omega⟩
  have OI:k=cols:=aR hk (by simpa using OI);rw[OI]at hE;obtain⟨y,hy⟩:∃y,fm E at_ x cols=y:=⟨_,rfl⟩
  have hyl:y.length=n:=by rw[<-hy];exact hcll cols
  have UC:∀q∈y,rl q+1<=h:=by rw[<-hy];exact Pu cols (aF _)
  rw[hy]at hE;have VG:(rv++[.slice (some ⟨gx,0,none⟩) n cx])[rv.length]? =some (.slice (some ⟨gx,0,none⟩) n cx):=by simp
  refine⟨Nat×World×Iv,fun z=>⟨[(9,.o (.v (.slice (some ⟨gx,0,none⟩) n cx))),(12,iN z.1),(2,pP 0 0),(4,pP 1 0),(5,pP 2 0),(6,.o (.s 3 0 cols cols)),(8,iN i),(36,sV am M.length cm),(37,iZ M.length),(38,iN i),(1,iZ cols)],[(2,.box T.dT [.w 4 rv.length,.v (.int .i64 n),.v (.slice none 0 0),.w 5 fr.length]),(5,.vec T.int 1 (fr.map fun c:Nat=>.int .i64 (c:Int))),(4,.vec T.fa 1 rv),(0,.box T.dq [.v (.slice am M.length cm),.v (.int .i64 n)]),(1,.box T.dT [.v (.slice none 0 0),.v (.int .i64 0),.v (.slice none 0 0),.v (.slice none 0 0)]),(3,.arr T.int (at_.map LJ))],8,z.2.2,z.2.1⟩,fun z=>cols-z.1,
   fun z=>z.1<=cols∧(∀t,t<z.1->y.getD t 0=0)∧eB w.heap.size w z.2.1∧lP z.2.1 S w.heap.size z.2.2 (rv++[.slice (some ⟨gx,0,none⟩) n cx]) n (E++[y]),?_,?_⟩
  ·intro O w' r3;exact⟨(0,w',_),⟨aO _,fun t ht=>absurd ht (Nat.not_lt_zero t),hw.tr r3.cQ,hE.rel r3 hS⟩,Sub.gn [] r3⟩
  rintro⟨pv,w3,iv⟩ ⟨hp,Uh,hw,hE⟩;dsimp only at hp Uh hw hE ⊢;have Sp:(E++[y])[rv.length]? =some y:=by rw[Oh];simp
  refine dN.mk ?_ ?_<;>intro Ui
  ·have Ui:pv<cols:=by simpa using Ui
   obtain⟨q,hq⟩:∃q,y[pv]? =some q:=⟨_,aB (by omega)⟩
   have Tt:y.getD pv 0=q:=by rw[List.getD,hq];rfl
   have UI:=UC q (aC hq);obtain⟨ad,cs,Od,hF,hl⟩:=hE.load VG Sp hq;obtain⟨f0,f1,f2,f3,f4,f5,f6,f7,rfl,hF⟩:=hF;refine⟨ad,Od,by omega,[.bool f0,.slice f1 f2 f3,.bool f4,.slice f5 f6 f7],rfl,fun O w' r t u hu=>?_,?_⟩
   ·obtain⟨k1,k2⟩:=hl t u hu;rw[aE,cH (w:=w3) (w2:=w') (by rw[dH,dH];exact Rel.same r (gH _) k1)];exact k2
   refine cD (cE hw (fun _ w' v w2=>∃d,v= .bool d∧(d=true↔q=0)) (fun O w' r=>qU (Lr.old r hS) ((hF.EY r hS).l (by omega))) ?_);rintro O _ _ PD OK r he hw h_ ⟨d,rfl,hz⟩;replace hE:=hE.cG r hS he (mC h_)
   cases d
   ·have hq0:q≠0:=fun e=>by have:=hz.2 e;cases this
    refine dN.mk ?_ ?_<;>intro he
    ·have he:(pv:Int)=cols:=by simpa using he
     omega
    have TU:sk y cols=pv:=Gn Uh hp fun _=>by rw[Tt];exact hq0
    have Rp:=Fx QE Ty hy TU (by omega);rw[Tt]at Rp;obtain⟨u,hu⟩:∃u,y.map (· / q)=u:=⟨_,rfl⟩
    rw[hu]at Rp;have hul:u.length=n:=by rw[<-hu,aJ,hyl]
    have hub:∀q∈u,rl q+1<=h:=by
     have:=hB.rows (i+1) OF u (by rw[Rp];simp);exact this
    obtain⟨ad,cs,Od,hF,hl⟩:=hE.load VG Sp hq;obtain⟨f0,f1,f2,f3,f4,f5,f6,f7,rfl,hF⟩:=hF;refine⟨ad,Od,by omega,[.bool f0,.slice f1 f2 f3,.bool f4,.slice f5 f6 f7],rfl,fun O w' r t u hu=>?_,?_⟩
    ·obtain⟨k1,k2⟩:=hl t u hu;rw[aE,cH (w:=PD) (w2:=w') (by rw[dH,dH];exact Rel.same r (gH _) k1)];exact k2
    refine⟨Nat×World×Iv,fun z=>⟨[(9,.o (.v (.slice (some ⟨gx,0,none⟩) n cx))),(12,iN pv),(13,pP 8 0),(97,iZ n),(98,iN z.1),(2,pP 0 0),(4,pP 1 0),(5,pP 2 0),(6,.o (.s 3 0 cols cols)),(8,iN i),(36,sV am M.length cm),(37,iZ M.length),(38,iN i),(1,iZ cols)],[(8,.box T.Rat [.v (.bool f0),.v (.slice f1 f2 f3),.v (.bool f4),.v (.slice f5 f6 f7)]),(2,.box T.dT [.w 4 rv.length,.v (.int .i64 n),.v (.slice none 0 0),.w 5 fr.length]),(5,.vec T.int 1 (fr.map fun c:Nat=>.int .i64 (c:Int))),(4,.vec T.fa 1 rv),(0,.box T.dq [.v (.slice am M.length cm),.v (.int .i64 n)]),(1,.box T.dT [.v (.slice none 0 0),.v (.int .i64 0),.v (.slice none 0 0),.v (.slice none 0 0)]),(3,.arr T.int (at_.map LJ))],9,z.2.2,z.2.1⟩,fun z=>n-z.1,
     fun z=>z.1<=n∧eB w.heap.size w z.2.1∧lP z.2.1 S w.heap.size z.2.2 (rv++[.slice (some ⟨gx,0,none⟩) n cx]) n (E++[gu z.1 (fun _ r=>r / q) y])∧cS z.2.1 (Lr S w.heap.size z.2.2 (rv++[.slice (some ⟨gx,0,none⟩) n cx])) (.agg #[.bool f0,.slice f1 f2 f3,.bool f4,.slice f5 f6 f7]) q,?_,?_⟩
    ·intro O w' r3;exact⟨(0,w',_),⟨aO _,hw.tr r3.cQ,by dsimp only;rw[sH];exact hE.rel r3 hS,hF.EY r3 hS⟩,Sub.gn [] r3⟩
    rintro⟨k,w4,iv⟩ ⟨hk,hw,hE,hF⟩;dsimp only at hk hw hE hF ⊢;have Sp:(E++[gu k (fun _ r=>r / q) y])[rv.length]? =some (gu k (fun _ r=>r / q) y):=by rw[Oh];simp
    refine dN.mk ?_ ?_<;>intro OI
    ·have OI:k<n:=by simpa using OI
     obtain⟨t,ht⟩:∃q,y[k]? =some q:=⟨_,aB (by omega)⟩
     have SD:=UC t (aC ht);obtain⟨ad,cs,Od,hG,hl⟩:=hE.load VG Sp (zo ht);obtain⟨g0,g1,g2,g3,g4,g5,g6,g7,rfl,hG⟩:=hG;refine cN hτ dm [.x 0,.x 1,.x 2,.x 3,.x 4,.x 5,.x 6,.x 7,.x 8,.x 9] (by kernel_rfl) (by kernel_rfl) ?_;refine⟨ad,Od,by omega,[.bool g0,.slice g1 g2 g3,.bool g4,.slice g5 g6 g7],rfl,fun O w' r t u hu=>?_,?_⟩
     ·obtain⟨k1,k2⟩:=hl t u hu;rw[aE,cH (w:=w4) (w2:=w') (by rw[dH,dH];exact Rel.same r (gH _) k1)];exact k2
     refine cO (Φ:=fun _ w' v w2=>cS w2 (Nf w' w2) v (t / q)) (fun O w' r=>Mv (Lr.old r hS) ((hG.EY r hS).l (by omega)) ((hF.EY r hS).l (by omega)) hq0) ?_;rintro O PQ v3 PN r he hb Qj;replace hw:=hw.tr hb;have hd:=Qj.aAJ (S0:=S) hE r;replace hE:=hE.cG (iv':=(PQ.heap.size,PN.heap.size)::iv) r hS he fun x hx=>List.mem_cons_of_mem _ hx;replace hF:=hF.MR (iv':=(PQ.heap.size,PN.heap.size)::iv) r hS he fun x hx=>List.mem_cons_of_mem _ hx;generalize (PQ.heap.size,PN.heap.size)::iv=OS at*
     obtain⟨A0,A1,A2,A3,A4,A5,A6,A7,rfl⟩:=hd.shape;refine⟨⟨gx,0,none⟩,rfl,by omega,?_⟩;intro O w' r;obtain⟨g,hg,h1,h2,h3,h4⟩:=hE.store r hS VG Sp OI hd;injection hg with hg;injection hg with hg;subst hg;refine⟨h1,h2,h3,fun w5 QZ=>?_⟩;obtain⟨k1,k2,k3,k4⟩:=h4 w5 QZ;have Ow:=(hw.tr r.cQ).tr k2;have R6:=hF.cI k4;have OO:(E++[gu k (fun _ r=>r / q) y]).set rv.length ((gu k (fun _ r=>r / q) y).set k (t / q))=E++[gu (k+1) (fun _ r=>r / q) y]:=by rw[Oh,EX,<-oE ht]
     rw[OO]at k1;refine⟨((k+1:Nat):Int),wo,?_⟩;intro ρ3 w6 r3;exact⟨(k+1,w6,_),⟨OI,Ow.tr r3.cQ,k1.rel r3 hS,R6.EY r3 hS⟩,Sub.gn [] r3,by dsimp only;omega⟩
    have OI:k=n:=aR hk (by simpa using OI);rw[OI,<-hyl,KE,hu,hyl]at hE
    refine⟨by simp,Nat×World×Iv,fun z=>⟨[(9,.o (.v (.slice (some ⟨gx,0,none⟩) n cx))),(12,iN pv),(113,.o (.w 4 rv.length)),(114,iZ rv.length),(115,iN z.1),(2,pP 0 0),(4,pP 1 0),(5,pP 2 0),(6,.o (.s 3 0 cols cols)),(8,iN i),(36,sV am M.length cm),(37,iZ M.length),(38,iN i),(1,iZ cols)],[(2,.box T.dT [.w 4 rv.length,.v (.int .i64 n),.v (.slice none 0 0),.w 5 fr.length]),(5,.vec T.int 1 (fr.map fun c:Nat=>.int .i64 (c:Int))),(4,.vec T.fa 1 rv),(0,.box T.dq [.v (.slice am M.length cm),.v (.int .i64 n)]),(1,.box T.dT [.v (.slice none 0 0),.v (.int .i64 0),.v (.slice none 0 0),.v (.slice none 0 0)]),(3,.arr T.int (at_.map LJ))],9,z.2.2,z.2.1⟩,fun z=>rv.length-z.1,
     fun z=>z.1<=rv.length∧eB w.heap.size w z.2.1∧lP z.2.1 S w.heap.size z.2.2 (rv++[.slice (some ⟨gx,0,none⟩) n cx]) n (gK E u pv z.1++[u]),?_,?_⟩
    ·intro O w' r3;exact⟨(0,w',_),⟨aO _,hw.tr r3.cQ,by dsimp only;rw[FY];exact hE.rel r3 hS⟩,Sub.gn [] r3⟩
    rintro⟨j,w5,iv⟩ ⟨hj,hw,hE⟩;dsimp only at hj hw hE ⊢;refine dN.mk ?_ ?_<;>intro PH
    ·have PH:j<rv.length:=by simpa using PH
     obtain⟨ej,UM⟩:∃v,E[j]? =some v:=⟨_,aB (by omega)⟩
     have TX:ej.length=n:=OJ.len ej (aC UM);have heb:=hEb ej (aC UM);obtain⟨vj,S2⟩:∃v,rv[j]? =some v:=⟨_,aB PH⟩
     have Sq:(rv++[.slice (some ⟨gx,0,none⟩) n cx])[j]? =some vj:=by rw[aL PH];exact S2
     have UN:(gK E u pv j++[u])[j]? =some ej:=by rw[aL (by rw[fq];omega)];exact Dp UM
     have hur:(gK E u pv j++[u])[rv.length]? =some u:=by rw[Oh,<-fq E u pv j];simp
     obtain⟨t,ht⟩:∃q,ej[pv]? =some q:=⟨_,aB (by omega)⟩
     have htd:ej.getD pv 0=t:=by rw[List.getD,ht];rfl
     have SD:=heb t (aC ht);obtain⟨aj,cj,rfl⟩:=hE.form Sq;obtain⟨ad,cs,Od,hG,hl⟩:=hE.load Sq UN ht;obtain⟨g0,g1,g2,g3,g4,g5,g6,g7,rfl,hG⟩:=hG;refine⟨by simp,by omega,.slice aj n cj,by simpa using S2,ad,Od,by omega,[.bool g0,.slice g1 g2 g3,.bool g4,.slice g5 g6 g7],rfl,fun O w' r t u hu=>?_,?_⟩
     ·obtain⟨k1,k2⟩:=hl t u hu;rw[aE,cH (w:=w5) (w2:=w') (by rw[dH,dH];exact Rel.same r (gH _) k1)];exact k2
     refine cD (cE hw (fun _ w' v w2=>∃d,v= .bool d∧(d=true↔t=0)) (fun O w' r=>qU (Lr.old r hS) ((hG.EY r hS).l (by omega))) ?_);rintro O _ _ Qr Oe r he hw h_ ⟨d,rfl,hz⟩;replace hE:=hE.cG r hS he (mC h_)
     cases d
     ·have ht0:t≠0:=fun e=>by have:=hz.2 e;cases this
      obtain⟨ad,cs,Od,hG,hl⟩:=hE.load Sq UN ht;obtain⟨g0,g1,g2,g3,g4,g5,g6,g7,rfl,hG⟩:=hG;refine⟨ad,Od,by omega,[.bool g0,.slice g1 g2 g3,.bool g4,.slice g5 g6 g7],rfl,fun O w' r t u hu=>?_,?_⟩
      ·obtain⟨k1,k2⟩:=hl t u hu;rw[aE,cH (w:=Qr) (w2:=w') (by rw[dH,dH];exact Rel.same r (gH _) k1)];exact k2
      refine⟨fun O w' r=>?_⟩;refine(hE.Cn r hS (i:=j) (j:=rv.length) (h:=h) (by omega) Sq VG UN hur (hG.l (by omega)) heb hub SD hh).mono fun e w8 he=>?_;obtain⟨rfl,PX,TK,OY⟩:=he;have Ow:=(hw.tr r.cQ).tr (hE.cQ r PX TK);refine⟨.tuple #[],_,(w'.heap.size,w8.heap.size)::Oe,rfl,r.EZ (fun x hx=>Rel.not r (gH _) (hE.new x (TK x hx))) PX,?_⟩;have OO:(gK E u pv j++[u]).set j (lk ej u t)=gK E u pv (j+1)++[u]:=by rw[KD _ _ (by rw[fq];omega),yb UM,htd]
      rw[OO]at OY;generalize (w'.heap.size,w8.heap.size)::Oe=R5 at*
      refine⟨((j+1:Nat):Int),wo,?_⟩;intro ρ3 w6 r3;exact⟨(j+1,w6,_),⟨PH,Ow.tr r3.cQ,OY.rel r3 hS⟩,Sub.gn [] r3,by dsimp only;omega⟩
     ·have ht0:t=0:=hz.1 rfl;refine⟨((j+1:Nat):Int),wo,?_⟩;intro ρ3 w6 r3;exact⟨(j+1,w6,_),⟨PH,hw.tr r3.cQ,by dsimp only;rw[Fy UM (by rw[htd,ht0])];exact hE.rel r3 hS⟩,Sub.gn [] r3,by dsimp only;omega⟩
    have PH:j=E.length:=by have:=aR hj (by simpa using PH);omega
    rw[PH]at hE;refine⟨by simp,by omega,by simp;omega,(at_.set pv (some rv.length)).map LJ,?_,?_⟩
    ·rw[aE,aS,aQ,List.map_set];exact fu (by simp;omega)
    refine ic hτ dm (.x 0 (.x 1 (.x 3 (.x 6 (.x 8 (.ld 2 64544 (.ld 7 64512 (.two 4 (.two 5 (.x 11 (.x 12 (.x 9 (.x 10 (.x 13 (.x 14 (.x 15 .nil))))))) 9 (.x 5 (.x 11 (.x 12 (.x 10 (.x 13 (.x 14 (.x 15 .nil)))))))) 9 (.x 4 (.x 5 (.x 11 (.x 12 (.x 10 (.x 13 (.x 14 (.x 15 .nil)))))))))))))))) (by kernel_rfl) (by kernel_rfl) ?_;refine⟨?_,?_⟩
    ·refine⟨rfl,rfl,?_,?_⟩
     ·refine .inl ?_;refine⟨by simp,by omega,by unfold maxLen;omega,rfl,rfl,?_⟩;refine .inl ?_;refine⟨by simp,by omega,by unfold maxLen;omega,((i+1:Nat):Int),wo,?_⟩;intro ρ3 w6 r3;exact⟨(i+1,rv++[.slice (some ⟨gx,0,none⟩) n cx],gK E u pv E.length++[u],at_.set pv (some E.length),fr++[i],w6,_),⟨OF,Rp.symm,hw.tr r3.cQ,hE.rel r3 hS⟩,Sub.gn [(4,10),(5,12)] r3 ⟨by dsimp only;rw[List.length_append,List.length_append,List.length_singleton,List.length_singleton];rfl,by dsimp only;rw[List.map_append];rfl,rfl,rfl,rfl,by dsimp only;rw[<-Oh];rfl,trivial⟩,by dsimp only;omega⟩
     ·refine⟨rfl,rfl,?_⟩;refine .inl ?_;refine⟨by simp,by omega,by unfold maxLen;omega,rfl,?_⟩;refine .inl ?_;refine⟨by simp,by omega,by unfold maxLen;omega,((i+1:Nat):Int),wo,?_⟩;intro ρ3 w6 r3;exact⟨(i+1,rv++[.slice (some ⟨gx,0,none⟩) n cx],gK E u pv E.length++[u],at_.set pv (some E.length),fr++[i],w6,_),⟨OF,Rp.symm,hw.tr r3.cQ,hE.rel r3 hS⟩,Sub.gn [(4,11),(5,12)] r3 ⟨by dsimp only;rw[List.length_append,List.length_append,List.length_singleton,List.length_singleton];rfl,by dsimp only;rw[List.map_append];rfl,rfl,rfl,rfl,by dsimp only;rw[<-Oh];rfl,trivial⟩,by dsimp only;omega⟩
    ·refine⟨rfl,rfl,rfl,rfl,?_⟩;refine .inl ?_;refine⟨by simp,by omega,by unfold maxLen;omega,rfl,?_⟩;refine .inl ?_;refine⟨by simp,by omega,by unfold maxLen;omega,((i+1:Nat):Int),wo,?_⟩;intro ρ3 w6 r3;exact⟨(i+1,rv++[.slice (some ⟨gx,0,none⟩) n cx],gK E u pv E.length++[u],at_.set pv (some E.length),fr++[i],w6,_),⟨OF,Rp.symm,hw.tr r3.cQ,hE.rel r3 hS⟩,Sub.gn [(4,11),(5,12)] r3 ⟨by dsimp only;rw[List.length_append,List.length_append,List.length_singleton,List.length_singleton];rfl,by dsimp only;rw[List.map_append];rfl,rfl,rfl,rfl,by dsimp only;rw[<-Oh];rfl,trivial⟩,by dsimp only;omega⟩
   ·have hq0:q=0:=hz.1 rfl;refine⟨((pv+1:Nat):Int),wo,?_⟩;intro ρ3 w4 r3
    exact⟨(pv+1,w4,_),⟨Ui,fun t ht=>by
     by_cases htp:t=pv
     ·rw[htp,Tt,hq0]
     ·exact Uh t (by dsimp only at ht;omega),hw.tr r3.cQ,hE.rel r3 hS⟩,Sub.gn [] r3,by dsimp only;omega⟩
  have Ui:pv=cols:=aR hp (by simpa using Ui);have TU:sk y cols=cols:=Gn (k:=cols) (fun t ht=>Uh t (by omega)) (aF _) (fun h=>absurd h (Nat.lt_irrefl _));have hskip:=Fw QE Ty hy TU;refine dN.mk (fun he=>?_) (fun he=>by rw[Ui]at he;simp at he);refine⟨((i+1:Nat):Int),wo,?_⟩;intro ρ3 w4 r3;exact⟨(i+1,rv,E,at_,fr,w4,_),⟨OF,hskip,hw.tr r3.cQ,hE.drop.rel r3 hS⟩,Sub.gn [] r3,by dsimp only;omega⟩
 have OF:i=M.length:=aR hi (by simpa using OF);subst OF;have hredS:dR M cols=dC (E,at_,fr) cols:=by rw[dR,<-QE]
 have OU:∀(k r:Nat),at_[k]? =some (some r)->r<E.length:=OJ.lt;have Qd:∀k,k<=cols->(dC (E,at_,fr) k).1.length=(dC (E,at_,fr) k).2.1.length∧(dC (E,at_,fr) k).2.2.length=(dC (E,at_,fr) k).2.1.length∧(kY rv at_ k).length=(dC (E,at_,fr) k).2.1.length∧(dC (E,at_,fr) k).2.1.length<=k:=fun k hk=>tw (E,at_,fr) rv k (by dsimp only;omega)
 refine⟨Nat×World,fun z=>⟨[(4,pP 1 0),(5,pP 2 0),(17,pP 6 0),(159,.o (.s 3 0 cols cols)),(160,iZ cols),(161,iN z.1)],[(6,.box T.dT [.w 7 (dC (E,at_,fr) z.1).2.1.length,.v (.int .i64 n),.w 8 (dC (E,at_,fr) z.1).2.1.length,.w 9 (dC (E,at_,fr) z.1).2.1.length]),(9,.vec T.int 1 ((dC (E,at_,fr) z.1).2.2.map fun c:Nat=>.int .i64 (c:Int))),(8,.vec T.int 1 ((dC (E,at_,fr) z.1).2.1.map fun c:Nat=>.int .i64 (c:Int))),(7,.vec T.fa 1 (kY rv at_ z.1)),(2,.box T.dT [.w 4 rv.length,.v (.int .i64 n),.v (.slice none 0 0),.w 5 fr.length]),(5,.vec T.int 1 (fr.map fun c:Nat=>.int .i64 (c:Int))),(4,.vec T.fa 1 rv),(1,.box T.dT [.v (.slice none 0 0),.v (.int .i64 0),.v (.slice none 0 0),.v (.slice none 0 0)]),(3,.arr T.int (at_.map LJ))],10,iv,z.2⟩,fun z=>cols-z.1,
  fun z=>z.1<=cols∧eB w.heap.size w z.2∧lP z.2 S w.heap.size iv rv n E,?_,?_⟩
 ·intro O w' r
  exact⟨(0,w'),⟨aO _,hw.tr r.cQ,hE.rel r hS⟩,Sub.Ak 6 0 T.fa 1 rfl rfl (by simp[jN,SV.sc,At.sc]) r fun ρ1 r1=>Sub.Ak 6 2 T.int 1 rfl rfl (by simp[jN,SV.sc,At.sc]) r1 fun ρ2 r2=>Sub.Ak 6 3 T.int 1 rfl rfl (by simp[jN,SV.sc,At.sc]) r2 fun ρ3 r3=>
   Sub.gn [] r3⟩
 rintro⟨k,w1⟩ ⟨hk,hw,hE⟩;dsimp only at hk hw hE ⊢;obtain⟨q1,q2,q3,q4⟩:=Qd k hk;refine dN.mk ?_ ?_<;>intro OI
 ·have OI:k<cols:=by simpa using OI
  obtain⟨o,ho⟩:∃o,at_[k]? =some o:=⟨_,aB (by omega)⟩
  refine⟨by omega,LJ o,by rw[aE,aS,aQ,aN,ho];rfl,?_⟩
  cases o with
  |none=>
   refine⟨((k+1:Nat):Int),wo,?_⟩;have Ou:=mJ (s:=(E,at_,fr)) ho;have QW:=sI (rv:=rv) ho;intro ρ3 w3 r3;exact⟨(k+1,w3),⟨OI,hw.tr r3.cQ,hE.rel r3 hS⟩,Sub.gn [] r3 ⟨by dsimp only;rw[Ou];rfl,by dsimp only;rw[Ou];rfl,by dsimp only;rw[Ou];rfl,by dsimp only;rw[QW];rfl,rfl,rfl,rfl,rfl,rfl,trivial⟩,by dsimp only;omega⟩
  |some j=>
   have hj:j<E.length:=OU k j ho;obtain⟨vj,S2⟩:∃v,rv[j]? =some v:=⟨_,aB (by omega)⟩
   have hvjd:rv.getD j (.bool false)=vj:=by rw[List.getD,S2];rfl
   obtain⟨aj,cj,rfl⟩:=hE.form S2;obtain⟨fj,Se⟩:∃v,fr[j]? =some v:=⟨_,aB (by omega)⟩
   have hfjd:fr.getD j 0=fj:=by rw[List.getD,Se];rfl
   have Ou:=mK (s:=(E,at_,fr)) ho;have QW:=sJ (rv:=rv) ho;dsimp only at Ou;rw[hvjd]at QW;rw[hfjd]at Ou;refine ic hτ dm (.x 0 (.x 1 (.x 3 (.x 4 (.x 6 (.x 11 (.x 13 (.x 16 (.x 18 (.x 20 (.ld 2 4278223872 (.ld 5 4278224768 (.x 7 (.ld 8 4278224384 (.ld 12 4278222848 (.ld 17 4278190080 (.ld 19 4192206848 (.x 21 (.ld 22 4185915392 (.three 9 (.three 10 (.x 25 (.x 26 (.two 14 (.two 15 (.x 23 (.x 24 (.x 27 (.x 28 (.x 29 (.x 30 (.x 31 .nil))))))) 23 (.x 15 (.x 24 (.x 27 (.x 28 (.x 29 (.x 30 (.x 31 .nil)))))))) 23 (.x 14 (.x 15 (.x 24 (.x 27 (.x 28 (.x 29 (.x 30 (.x 31 .nil))))))))))) 14 (.two 10 (.x 25 (.x 26 (.two 15 (.x 23 (.x 24 (.x 27 (.x 28 (.x 29 (.x 30 (.x 31 .nil))))))) 23 (.x 15 (.x 24 (.x 27 (.x 28 (.x 29 (.x 30 (.x 31 .nil)))))))))) 23 (.x 10 (.x 25 (.x 26 (.x 15 (.x 24 (.x 27 (.x 28 (.x 29 (.x 30 (.x 31 .nil))))))))))) 23 (.two 10 (.x 25 (.x 26 (.x 14 (.x 15 (.x 24 (.x 27 (.x 28 (.x 29 (.x 30 (.x 31 .nil)))))))))) 14 (.x 10 (.x 25 (.x 26 (.x 15 (.x 24 (.x 27 (.x 28 (.x 29 (.x 30 (.x 31 .nil)))))))))))) 14 (.two 9 (.two 10 (.x 25 (.x 26 (.two 15 (.x 23 (.x 24 (.x 27 (.x 28 (.x 29 (.x 30 (.x 31 .nil))))))) 23 (.x 15 (.x 24 (.x 27 (.x 28 (.x 29 (.x 30 (.x 31 .nil)))))))))) 23 (.x 10 (.x 25 (.x 26 (.x 15 (.x 24 (.x 27 (.x 28 (.x 29 (.x 30 (.x 31 .nil))))))))))) 23 (.x 9 (.x 10 (.x 25 (.x 26 (.x 15 (.x 24 (.x 27 (.x 28 (.x 29 (.x 30 (.x 31 .nil)))))))))))) 23 (.two 9 (.two 10 (.x 25 (.x 26 (.x 14 (.x 15 (.x 24 (.x 27 (.x 28 (.x 29 (.x 30 (.x 31 .nil)))))))))) 14 (.x 10 (.x 25 (.x 26 (.x 15 (.x 24 (.x 27 (.x 28 (.x 29 (.x 30 (.x 31 .nil))))))))))) 14 (.x 9 (.x 10 (.x 25 (.x 26 (.x 15 (.x 24 (.x 27 (.x 28 (.x 29 (.x 30 (.x 31 .nil)))))))))))))))))))))))))))))))) (by kernel_rfl) (by kernel_rfl) ?_;refine⟨by simp,by omega,.slice aj n cj,by simpa using S2,by simp,by omega,.int .i64 (fj:Int),by simp[Se],?_,?_,?_⟩
   ·refine⟨.int .i64 (fj:Int),by simp[Se],rfl,rfl,rfl,rfl,rfl,?_,?_,?_⟩
    ·refine .inl ?_;refine⟨by simp[q2,q3],by omega,by unfold maxLen;omega,.int .i64 (fj:Int),by simp[Se],rfl,rfl,rfl,rfl,?_,?_⟩
     ·refine⟨.int .i64 (fj:Int),by simp[Se],rfl,rfl,rfl,rfl,?_,?_⟩
      ·refine .inl ?_;refine⟨by simp[q2,q3],by omega,by unfold maxLen;omega,.int .i64 (fj:Int),by simp[Se],rfl,rfl,rfl,rfl,?_⟩;refine .inl ?_;refine⟨by simp[q2,q3],by omega,by unfold maxLen;omega,((k+1:Nat):Int),wo,?_⟩;intro ρ3 w3 r3;exact⟨(k+1,w3),⟨OI,hw.tr r3.cQ,hE.rel r3 hS⟩,Sub.gn [(7,11),(8,13),(9,15)] r3 ⟨by dsimp only;rw[Ou,List.length_append,List.length_singleton];rfl,by dsimp only;rw[Ou,List.map_append];rfl,by dsimp only;rw[Ou,List.map_append];rfl,by dsimp only;rw[QW];rfl,rfl,rfl,rfl,rfl,rfl,trivial⟩,by dsimp only;omega⟩
      ·refine⟨rfl,rfl,?_⟩;refine .inl ?_;refine⟨by simp[q2,q3],by omega,by unfold maxLen;omega,rfl,?_⟩;refine .inl ?_;refine⟨by simp[q2,q3],by omega,by unfold maxLen;omega,((k+1:Nat):Int),wo,?_⟩;intro ρ3 w3 r3;exact⟨(k+1,w3),⟨OI,hw.tr r3.cQ,hE.rel r3 hS⟩,Sub.gn [(7,11),(8,14),(9,15)] r3 ⟨by dsimp only;rw[Ou,List.length_append,List.length_singleton];rfl,by dsimp only;rw[Ou,List.map_append];rfl,by dsimp only;rw[Ou,List.map_append];rfl,by dsimp only;rw[QW];rfl,rfl,rfl,rfl,rfl,rfl,trivial⟩,by dsimp only;omega⟩
     ·refine⟨rfl,rfl,rfl,rfl,?_⟩;refine .inl ?_;refine⟨by simp[q2,q3],by omega,by unfold maxLen;omega,rfl,?_⟩;refine .inl ?_;refine⟨by simp[q2,q3],by omega,by unfold maxLen;omega,((k+1:Nat):Int),wo,?_⟩;intro ρ3 w3 r3;exact⟨(k+1,w3),⟨OI,hw.tr r3.cQ,hE.rel r3 hS⟩,Sub.gn [(7,11),(8,14),(9,15)] r3 ⟨by dsimp only;rw[Ou,List.length_append,List.length_singleton];rfl,by dsimp only;rw[Ou,List.map_append];rfl,by dsimp only;rw[Ou,List.map_append];rfl,by dsimp only;rw[QW];rfl,rfl,rfl,rfl,rfl,rfl,trivial⟩,by dsimp only;omega⟩
    ·refine⟨.int .i64 (fj:Int),by simp[Se],rfl,rfl,rfl,rfl,rfl,?_,?_⟩
     ·refine .inl ?_;refine⟨by simp[q2,q3],by omega,by unfold maxLen;omega,.int .i64 (fj:Int),by simp[Se],rfl,rfl,rfl,rfl,?_,?_⟩
      ·refine .inl ?_;refine⟨by simp[q2,q3],by omega,by unfold maxLen;omega,.int .i64 (fj:Int),by simp[Se],rfl,rfl,rfl,rfl,?_⟩;refine .inl ?_;refine⟨by simp[q2,q3],by omega,by unfold maxLen;omega,((k+1:Nat):Int),wo,?_⟩;intro ρ3 w3 r3;exact⟨(k+1,w3),⟨OI,hw.tr r3.cQ,hE.rel r3 hS⟩,Sub.gn [(7,12),(8,13),(9,15)] r3 ⟨by dsimp only;rw[Ou,List.length_append,List.length_singleton];rfl,by dsimp only;rw[Ou,List.map_append];rfl,by dsimp only;rw[Ou,List.map_append];rfl,by dsimp only;rw[QW];rfl,rfl,rfl,rfl,rfl,rfl,trivial⟩,by dsimp only;omega⟩
      ·refine⟨rfl,rfl,?_⟩;refine .inl ?_;refine⟨by simp[q2,q3],by omega,by unfold maxLen;omega,rfl,?_⟩;refine .inl ?_;refine⟨by simp[q2,q3],by omega,by unfold maxLen;omega,((k+1:Nat):Int),wo,?_⟩;intro ρ3 w3 r3;exact⟨(k+1,w3),⟨OI,hw.tr r3.cQ,hE.rel r3 hS⟩,Sub.gn [(7,12),(8,14),(9,15)] r3 ⟨by dsimp only;rw[Ou,List.length_append,List.length_singleton];rfl,by dsimp only;rw[Ou,List.map_append];rfl,by dsimp only;rw[Ou,List.map_append];rfl,by dsimp only;rw[QW];rfl,rfl,rfl,rfl,rfl,rfl,trivial⟩,by dsimp only;omega⟩
     ·refine⟨rfl,rfl,rfl,?_⟩;refine .inl ?_;refine⟨by simp[q2,q3],by omega,by unfold maxLen;omega,rfl,rfl,?_⟩;refine .inl ?_;refine⟨by simp[q2,q3],by omega,by unfold maxLen;omega,rfl,?_⟩;refine .inl ?_;refine⟨by simp[q2,q3],by omega,by unfold maxLen;omega,((k+1:Nat):Int),wo,?_⟩;intro ρ3 w3 r3;exact⟨(k+1,w3),⟨OI,hw.tr r3.cQ,hE.rel r3 hS⟩,Sub.gn [(7,13),(8,14),(9,15)] r3 ⟨by dsimp only;rw[Ou,List.length_append,List.length_singleton];rfl,by dsimp only;rw[Ou,List.map_append];rfl,by dsimp only;rw[Ou,List.map_append];rfl,by dsimp only;rw[QW];rfl,rfl,rfl,rfl,rfl,rfl,trivial⟩,by dsimp only;omega⟩
    ·refine⟨rfl,rfl,rfl,?_,?_⟩
     ·refine .inl ?_;refine⟨by simp[q2,q3],by omega,by unfold maxLen;omega,rfl,rfl,rfl,rfl,?_⟩;refine .inl ?_;refine⟨by simp[q2,q3],by omega,by unfold maxLen;omega,rfl,?_⟩;refine .inl ?_;refine⟨by simp[q2,q3],by omega,by unfold maxLen;omega,((k+1:Nat):Int),wo,?_⟩;intro ρ3 w3 r3;exact⟨(k+1,w3),⟨OI,hw.tr r3.cQ,hE.rel r3 hS⟩,Sub.gn [(7,12),(8,14),(9,15)] r3 ⟨by dsimp only;rw[Ou,List.length_append,List.length_singleton];rfl,by dsimp only;rw[Ou,List.map_append];rfl,by dsimp only;rw[Ou,List.map_append];rfl,by dsimp only;rw[QW];rfl,rfl,rfl,rfl,rfl,rfl,trivial⟩,by dsimp only;omega⟩
     ·refine⟨rfl,rfl,rfl,?_⟩;refine .inl ?_;refine⟨by simp[q2,q3],by omega,by unfold maxLen;omega,rfl,rfl,?_⟩;refine .inl ?_;refine⟨by simp[q2,q3],by omega,by unfold maxLen;omega,rfl,?_⟩;refine .inl ?_;refine⟨by simp[q2,q3],by omega,by unfold maxLen;omega,((k+1:Nat):Int),wo,?_⟩;intro ρ3 w3 r3;exact⟨(k+1,w3),⟨OI,hw.tr r3.cQ,hE.rel r3 hS⟩,Sub.gn [(7,13),(8,14),(9,15)] r3 ⟨by dsimp only;rw[Ou,List.length_append,List.length_singleton];rfl,by dsimp only;rw[Ou,List.map_append];rfl,by dsimp only;rw[Ou,List.map_append];rfl,by dsimp only;rw[QW];rfl,rfl,rfl,rfl,rfl,rfl,trivial⟩,by dsimp only;omega⟩
   ·refine⟨.int .i64 (fj:Int),by simp[Se],rfl,rfl,rfl,rfl,.slice aj n cj,by simpa using S2,rfl,rfl,rfl,?_,?_⟩
    ·refine⟨.int .i64 (fj:Int),by simp[Se],rfl,rfl,rfl,rfl,rfl,?_,?_⟩
     ·refine .inl ?_;refine⟨by simp[q2,q3],by omega,by unfold maxLen;omega,.int .i64 (fj:Int),by simp[Se],rfl,rfl,rfl,rfl,?_,?_⟩
      ·refine .inl ?_;refine⟨by simp[q2,q3],by omega,by unfold maxLen;omega,.int .i64 (fj:Int),by simp[Se],rfl,rfl,rfl,rfl,?_⟩;refine .inl ?_;refine⟨by simp[q2,q3],by omega,by unfold maxLen;omega,((k+1:Nat):Int),wo,?_⟩;intro ρ3 w3 r3;exact⟨(k+1,w3),⟨OI,hw.tr r3.cQ,hE.rel r3 hS⟩,Sub.gn [(7,12),(8,13),(9,15)] r3 ⟨by dsimp only;rw[Ou,List.length_append,List.length_singleton];rfl,by dsimp only;rw[Ou,List.map_append];rfl,by dsimp only;rw[Ou,List.map_append];rfl,by dsimp only;rw[QW];rfl,rfl,rfl,rfl,rfl,rfl,trivial⟩,by dsimp only;omega⟩
      ·refine⟨rfl,rfl,?_⟩;refine .inl ?_;refine⟨by simp[q2,q3],by omega,by unfold maxLen;omega,rfl,?_⟩;refine .inl ?_;refine⟨by simp[q2,q3],by omega,by unfold maxLen;omega,((k+1:Nat):Int),wo,?_⟩;intro ρ3 w3 r3;exact⟨(k+1,w3),⟨OI,hw.tr r3.cQ,hE.rel r3 hS⟩,Sub.gn [(7,12),(8,14),(9,15)] r3 ⟨by dsimp only;rw[Ou,List.length_append,List.length_singleton];rfl,by dsimp only;rw[Ou,List.map_append];rfl,by dsimp only;rw[Ou,List.map_append];rfl,by dsimp only;rw[QW];rfl,rfl,rfl,rfl,rfl,rfl,trivial⟩,by dsimp only;omega⟩
     ·refine⟨rfl,rfl,rfl,?_⟩;refine .inl ?_;refine⟨by simp[q2,q3],by omega,by unfold maxLen;omega,rfl,rfl,?_⟩;refine .inl ?_;refine⟨by simp[q2,q3],by omega,by unfold maxLen;omega,rfl,?_⟩;refine .inl ?_;refine⟨by simp[q2,q3],by omega,by unfold maxLen;omega,((k+1:Nat):Int),wo,?_⟩;intro ρ3 w3 r3;exact⟨(k+1,w3),⟨OI,hw.tr r3.cQ,hE.rel r3 hS⟩,Sub.gn [(7,13),(8,14),(9,15)] r3 ⟨by dsimp only;rw[Ou,List.length_append,List.length_singleton];rfl,by dsimp only;rw[Ou,List.map_append];rfl,by dsimp only;rw[Ou,List.map_append];rfl,by dsimp only;rw[QW];rfl,rfl,rfl,rfl,rfl,rfl,trivial⟩,by dsimp only;omega⟩
    ·refine⟨rfl,rfl,.slice aj n cj,by simpa using S2,rfl,rfl,rfl,rfl,rfl,rfl,?_⟩;refine .inl ?_;refine⟨by simp[q2,q3],by omega,by unfold maxLen;omega,rfl,rfl,?_⟩;refine .inl ?_;refine⟨by simp[q2,q3],by omega,by unfold maxLen;omega,rfl,?_⟩;refine .inl ?_;refine⟨by simp[q2,q3],by omega,by unfold maxLen;omega,((k+1:Nat):Int),wo,?_⟩;intro ρ3 w3 r3;exact⟨(k+1,w3),⟨OI,hw.tr r3.cQ,hE.rel r3 hS⟩,Sub.gn [(7,13),(8,14),(9,15)] r3 ⟨by dsimp only;rw[Ou,List.length_append,List.length_singleton];rfl,by dsimp only;rw[Ou,List.map_append];rfl,by dsimp only;rw[Ou,List.map_append];rfl,by dsimp only;rw[QW];rfl,rfl,rfl,rfl,rfl,rfl,trivial⟩,by dsimp only;omega⟩
   ·refine⟨rfl,rfl,.slice aj n cj,by simpa using S2,rfl,rfl,rfl,?_,?_⟩
    ·refine⟨rfl,rfl,rfl,?_,?_⟩
     ·refine .inl ?_;refine⟨by simp[q2,q3],by omega,by unfold maxLen;omega,rfl,rfl,rfl,rfl,?_⟩;refine .inl ?_;refine⟨by simp[q2,q3],by omega,by unfold maxLen;omega,rfl,?_⟩;refine .inl ?_;refine⟨by simp[q2,q3],by omega,by unfold maxLen;omega,((k+1:Nat):Int),wo,?_⟩;intro ρ3 w3 r3;exact⟨(k+1,w3),⟨OI,hw.tr r3.cQ,hE.rel r3 hS⟩,Sub.gn [(7,12),(8,14),(9,15)] r3 ⟨by dsimp only;rw[Ou,List.length_append,List.length_singleton];rfl,by dsimp only;rw[Ou,List.map_append];rfl,by dsimp only;rw[Ou,List.map_append];rfl,by dsimp only;rw[QW];rfl,rfl,rfl,rfl,rfl,rfl,trivial⟩,by dsimp only;omega⟩
     ·refine⟨rfl,rfl,rfl,?_⟩;refine .inl ?_;refine⟨by simp[q2,q3],by omega,by unfold maxLen;omega,rfl,rfl,?_⟩;refine .inl ?_;refine⟨by simp[q2,q3],by omega,by unfold maxLen;omega,rfl,?_⟩;refine .inl ?_;refine⟨by simp[q2,q3],by omega,by unfold maxLen;omega,((k+1:Nat):Int),wo,?_⟩;intro ρ3 w3 r3;exact⟨(k+1,w3),⟨OI,hw.tr r3.cQ,hE.rel r3 hS⟩,Sub.gn [(7,13),(8,14),(9,15)] r3 ⟨by dsimp only;rw[Ou,List.length_append,List.length_singleton];rfl,by dsimp only;rw[Ou,List.map_append];rfl,by dsimp only;rw[Ou,List.map_append];rfl,by dsimp only;rw[QW];rfl,rfl,rfl,rfl,rfl,rfl,trivial⟩,by dsimp only;omega⟩
    ·refine⟨rfl,rfl,.slice aj n cj,by simpa using S2,rfl,rfl,rfl,rfl,rfl,rfl,?_⟩;refine .inl ?_;refine⟨by simp[q2,q3],by omega,by unfold maxLen;omega,rfl,rfl,?_⟩;refine .inl ?_;refine⟨by simp[q2,q3],by omega,by unfold maxLen;omega,rfl,?_⟩;refine .inl ?_;refine⟨by simp[q2,q3],by omega,by unfold maxLen;omega,((k+1:Nat):Int),wo,?_⟩;intro ρ3 w3 r3;exact⟨(k+1,w3),⟨OI,hw.tr r3.cQ,hE.rel r3 hS⟩,Sub.gn [(7,13),(8,14),(9,15)] r3 ⟨by dsimp only;rw[Ou,List.length_append,List.length_singleton];rfl,by dsimp only;rw[Ou,List.map_append];rfl,by dsimp only;rw[Ou,List.map_append];rfl,by dsimp only;rw[QW];rfl,rfl,rfl,rfl,rfl,rfl,trivial⟩,by dsimp only;omega⟩
 have OI:k=cols:=aR hk (by simpa using OI);subst OI;intro ρe we re;have PF:∀u∈kY rv at_ k,u.oneCell'=true:=fun u hu=>by
  obtain⟨i,hi⟩:=aU hu;obtain⟨x,hx⟩:∃x,(dC (E,at_,fr) k).1[i]? =some x:=⟨_,aB (by have:=(aD.1 hi).1;omega)⟩
  obtain⟨r,h1,h2⟩:=zq Oh OU k (by omega) i u x hi hx;obtain⟨a,c,rfl⟩:=hE.form h1;rfl
 have h7:=re.ie (id:=7) (sz:=1) (m:=(dC (E,at_,fr) k).2.1.length) rfl (by simp[q3]) (by unfold maxLen;omega) (by decide) PF;have h8:=re.ie (id:=8) (sz:=1) (m:=(dC (E,at_,fr) k).2.1.length) rfl (by simp) (by unfold maxLen;omega) (by decide) (fun u hu=>by obtain⟨c,_,rfl⟩:=aT.1 hu;rfl);have h9:=re.ie (id:=9) (sz:=1) (m:=(dC (E,at_,fr) k).2.1.length) rfl (by simp[q2]) (by unfold maxLen;omega) (by decide) (fun u hu=>by obtain⟨c,_,rfl⟩:=aT.1 hu;rfl);have OY:=hE.rel re hS;rw[hredS];refine⟨_,rfl,hw.tr re.cQ,_,_,_,rfl,⟨kY rv at_ k,?_,by omega,fun i u x k1 k2=>?_⟩,?_,?_⟩
 ·rw[q1];exact h7.cJ fun g hg=>.inr hg
 ·obtain⟨r,h1,h2⟩:=zq Oh OU k (by omega) i u x k1 k2;refine((OY.row r u x h1 h2).read.cJ (S':=Nw S w we) (C':=Nw S w we) (fun g hg=>?_) fun g hg=>Cv.nw hg.1 re).c;exact Cv.nw (Aj (OY.new g ⟨u,aC h1,hg⟩)) re
 ·exact h8.cJ fun g hg=>.inr hg
 ·show iB we _ 1 _ _ (dC (E,at_,fr) k).2.2.length;rw[q2];exact h9.cJ fun g hg=>.inr hg
end Go.Ex
