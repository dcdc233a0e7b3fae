/- Texts X254 to X259: lemmas, each with its conditions. -/
import Derived.Laws.OwnMore
import Derived.Test.YtbffinhkognefaaGreatDoorP15
set_option linter.defProp false
namespace Go.Sx
open Go
variable{after:Array Edge}{z:Array Value}{ag':Bool}{ik ik':IntKind}{fs fs':List (Nat×Nat)}{ze ze':List Value}{bt:Nat}{x:Operand}{guard:Option (Nat×Bool)}{dst:Option Tmp}{FS:SV->Hp->Nat->Iv->World->Prop}{pos:String}
section
variable{P:Program}{τ:nO}{B n nx:Nat}{l:Env}{H:Hp}{iv:Iv}{w J:World}{O:Nat->eD}{a:Act}
def GO(hτ:fk P τ){y:Operand}{t ty e sz by_ k m c g:Nat}{ag:Bool}{sz0 e' al al' tag':Nat}
  {vy:SV} {xs news:List Value}
  (ht:τ t=some ⟨sz0,ag,bt,ze,4,ik,e,al,fs⟩) (Qg:τ e=some ⟨sz,ag',by_,ze',tag',ik',e',al',fs'⟩) (Z:ev l x=some (.o (.v (.slice (some ⟨g,0,none⟩) m c)))) (hy:ev l y=some vy)
  (RY:∀O J,Rel H nx iv B w O J->J.ownsRow 0 e sz (.slice (some ⟨g,0,none⟩) m c) m xs/\∀id b,dT H id=some b->(O id).nil=false->(O id).g≠g)
  (Td:news.length=k*sz) (Si:∀u∈news,u.oneCell'=true) (hroom:m+k<=c)
  (src:∀O J,Rel H nx iv B w O J->∃ad c',vy.den O= .slice (some ad) k c'/\∀(j:Nat) u,news[j]? =some u->J.cell? (ad.add j)=some u)
  (hK:∀O J F,Rel H nx iv B w O J->F.ownsRow 0 e sz (.slice (some ⟨g,0,none⟩) (m+k) c) (m+k) (xs++news)->J.grownBy F (some g)->FS (.o (.v (.slice (some ⟨g,0,none⟩) (m+k) c))) H nx iv F):
  yz P B ⟨dst,.call ⟨.builtin .append,⟨[x,y]⟩,⟨[t,t]⟩⟩,ty,pos,after,guard⟩ l H nx iv w FS:=by
 refine⟨λO J ev' r TB=>?_⟩;have hu:=(hτ t _ ht).i4 rfl;simp only at hu;have SP:=hτ e _ Qg;obtain⟨inf,z,R,QG,QM,hz,Rt⟩:=SP.info;simp only at QG;obtain⟨Pm,Po⟩:=RY O J r;obtain⟨ad,c',hv,Q3⟩:=src O J r;obtain⟨F,Y,I,h3⟩:=run_append_fits (P:=P) J 0 t ty e inf sz hu R QG g m c xs Pm ad k c' news Td Q3 Si hroom;have e1:ev' x= .slice (some ⟨g,0,none⟩) m c:=TB x _ Z;have e2:ev' y= .slice (some ad) k c':=(TB y _ hy).trans hv;refine⟨_,F,iv,.inl ?_,r.FE Po h3,hK O J F r I h3⟩;simp[execOp,resolve,invoke,builtin,e1,e2,Y]
def CP{k:Nat}{u:Value}(h:u∈(Builtin.zeroCells z k).toList):u∈z.toList:=by
 unfold Builtin.zeroCells at h;rw[Array.toList_map]at h;obtain⟨i,R,rfl⟩:=bA.1 h;have Qo:i<k*z.size:=by simpa using R
 have h0:0<z.size:=by
  rcases bB z.size with h|h
  .rw[h]at Qo;omega
  .exact h
 rw[getElem!_pos z (i % z.size) (cL _ h0)];exact Array.getElem_mem_toList _
def BN(hτ:fk P τ){t ty e by_ k off c g sz:Nat}{ag:Bool}{sz0 e' al al' tag':Nat}
  
  (ht:τ t=some ⟨sz0,ag,bt,ze,4,ik,e,al,fs⟩) (Qg:τ e=some ⟨sz,ag',by_,ze',tag',ik',e',al',fs'⟩) (Z:ev l x=some (.o (.v (.slice (some ⟨g,off,none⟩) k c)))) (K:k≠0)
  (V:∀O J,Rel H nx iv B w O J->∃cur tg,J.heap[g]? =some (.cells cur tg (0,0))/\off+k*sz<=cur.size/\∀id b,dT H id=some b->(O id).nil=false->(O id).g≠g)
  (hK:∀O J F cur tg zs,Rel H nx iv B w O J->J.heap[g]? =some (.cells cur tg (0,0))->zs.length=k*sz->F.heap[g]? =some (.cells (cur.toList.take off++zs++cur.toList.drop (off+k*sz)).toArray tg (0,0))->J.grownBy F (some g)->FS (.o (.v (.tuple #[]))) H nx iv F):
  yz P B ⟨dst,.call ⟨.builtin .clear,⟨[x]⟩,⟨[t]⟩⟩,ty,pos,after,guard⟩ l H nx iv w FS:=by
 refine⟨λO J ev' r TB=>?_⟩;have hu:=(hτ t _ ht).i4 rfl;simp only at hu;have SP:=hτ e _ Qg;obtain⟨inf,zv,R,QG,QM,hz,Rt⟩:=SP.info;have Sj:=SP.FB;simp only at QG Rt Sj;obtain⟨cur,tg,hc,RU,Po⟩:=V O J r;have Ww:zv.cells.size=sz:=by rw[<-Sj,<-Rt];simp
 have hlen:(Builtin.zeroCells zv.cells k).toList.length=k*sz:=by rw[Array.length_toList,size_zeroCells,Ww]
 have RC:=run_storeCells_at (P:=P) g off tg (Builtin.zeroCells zv.cells k).toList 0 cur J hc (by rw[cM,hlen];exact RU) (λv hv=>by
  have:=CP hv;rw[Rt]at this
  exact SP.aAY v this)
 have e1:ev' x= .slice (some ⟨g,off,none⟩) k c:=TB x _ Z;simp only[cM,hlen]at RC;refine⟨.tuple #[],_,iv,.inl ?_,r.FE Po (iK J g _),hK O J _ cur tg _ r hc hlen (setRow_heap J g cur _ tg _ hc) (iK _ _ _)⟩;simp[execOp,resolve,invoke,builtin,e1,Builtin.clear_,run_underlying hu,zeroValue,typeInfo,R,hz,RC,K]
end
end Go.Sx
namespace Go.Ex
open Go Go.Sx Go.Proofs
section
variable{xs:List Value}{w:World}
def ownsRow.part{e sz n i g c:Nat}(h:w.ownsRow 0 e sz (.slice (some ⟨g,0,none⟩) n c) n xs)(R:i<=n):w.ownsRow 0 e sz (.slice (some ⟨g,0,none⟩) i c) i (xs.take (i*sz)):=by
 have hs:=Nat.mul_le_mul_right sz R;refine⟨by rw[bI,h.1];omega,?_⟩;rcases h.2 with⟨e,_⟩|⟨g',cap,cur,e,N,V,Uo,Rw,QX,Uz⟩
 .cases e
 .injection e with e1 e2 e3;injection e1 with e1;injection e1 with e1;subst e1 e3;exact .inr ⟨g,c,cur,rfl,N,V,be,Rw,QX,by rw[<-Uz,List.take_take,Nat.min_eq_left hs]⟩
def KY{n c i g:Nat}(Pm:w.ownsRow 0 T.int 1 (.slice (some ⟨g,0,none⟩) n c) n xs)(R:i<n)(E:n<=1000000)(Y:∀u∈xs,u.oneCell'=true):
  eH PG Fd.fy #[.slice (some ⟨g,0,none⟩) n c,iV i,iV ((i+1:Nat):Int)] w (λe F=>e= .returned (.slice (some ⟨g,0,none⟩) (n-1) c)/\w.grownBy F (some g)/\F.ownsRow 0 T.int 1 (.slice (some ⟨g,0,none⟩) (n-1) c) (n-1) (xs.take (i*1)++xs.drop ((i+1)*1))):=by
 have Uo:n<=c/\c<=maxLen:=by
  rcases Pm.2 with⟨e,_⟩|⟨g',cap,cur,e,_,_,I,h3,_⟩
  .cases e
  .injection e with _ _ e3;subst e3;exact⟨I,h3⟩
 have SK:=Pm.1;have Pq:g<w.heap.size:=(ownsRow.low Pm g rfl).2;have Q1:∀{O:Nat->Sx.eD} {J:World},Rel [] 0 [] w.heap.size w O J->J.heap[g]? =w.heap[g]? :=λr=>rls r (S:=λg=>g<w.heap.size) (λ_ h=>h) (.inl Pq);have Qe:∀{iv:Iv} {H:Hp} {nx:Nat} {O:Nat->Sx.eD} {w1 J:World},Rel H nx iv w.heap.size w1 O J->∀id b,dT H id=some b->(O id).nil=false->(O id).g≠g:=λr=>Rel.not r (S:=λg=>g<w.heap.size) (λ_ h=>h) (.inl Pq);refine kq ce ?_;refine⟨⟨be,be,be,be⟩,_,_,_,rfl,rfl,rfl,?_⟩;apply bS<;>intro L
 .have L:(i:Int)=((i+1:Nat):Int):=eq_of_beq L;omega
 refine dP (idO 8) ?_;refine⟨⟨be,be,be⟩,some ⟨g,0,none⟩,i,c,by split<;>simp[dD],be,be,?_⟩;obtain⟨ad2,Q4⟩:∃ad:Addr,(if (c:Int)=((i+1:Nat):Int)then(some ⟨g,0,none⟩:Option Addr)else(some (⟨g,0,none⟩:Addr)).map (·.add ((((i+1:Nat):Int)).toNat*1)))=some ad/\(c≠i+1->ad=⟨g,(i+1)*1,none⟩):=by
  by_cases h:c=i+1
  .exact⟨⟨g,0,none⟩,by rw[aM be],λI=>absurd h I⟩
  .exact⟨⟨g,(i+1)*1,none⟩,by rw[aJ be];simp[dD],λ_=>rfl⟩
 refine⟨⟨be,be,be⟩,some ad2,n-(i+1),c-(i+1),Q4.1,be,be,?_⟩;have Zl:=Nat.mul_le_mul_right 1 (show i+1<=n from R)
 refine .inr (GO hτ (xs:=xs.take (i*1)) (news:=xs.drop ((i+1)*1)) (m:=i) (k:=n-(i+1)) d8 d8 d8 d8 (λO J r=>⟨ownsRow.part (ownsRow.cW Pm λg2 V=>by injection V with V;subst V;exact Q1 r) be,Qe r⟩) (by rw[List.length_drop,SK,Nat.sub_mul]) (λu hu=>Y u (List.mem_of_mem_drop hu)) be
  (λO J r=>⟨ad2,c-(i+1),rfl,λj u hu=>?_⟩) (λO J F r h5 h6=>?_))
 .rw[cD]at hu;have WR:=eQ hu;have SN:c≠i+1:=λe=>by
   have:n=i+1:=by omega
   rw[SK,this]at WR;omega
  rw[Q4.2 SN,dD];have Xn:=ownsRow.cW Pm (F:=J) λg' V=>by injection V with V;subst V;exact Q1 r
  have:=Xn.cells (g:=g) rfl _ u hu;rw[dD,aV]at this;exact this
 have hL:i+(n-(i+1))=n-1:=by omega
 rw[hL]at h5;rw[hL];have Tc:w.grownBy F (some g):=eo (eJ (⟨rfl,rfl,rfl,lr,λ_ _ _=>rfl⟩:w.grownBy w (some g)) r.cg) h6;clear h6 r;conv=>whnf
 refine⟨⟨be,be,be⟩,some ⟨g,(n-1)*1,none⟩,1,c-(n-1),by rw[aJ be];simp[dD],be,be,?_⟩;refine BN hτ d8 d8 d8 bv (λO J r=>?_) (λO J w3 cur tg zs r k1 k2 k3 k4=>?_)
 .rcases h5.2 with⟨e,_⟩|⟨g',cap,cur,e,_,V,h3,_,QX,_⟩
  .cases e
  .injection e with e1 _ e3;injection e1 with e1;injection e1 with e1;subst e1 e3;have hq:=Nat.mul_le_mul_right 1 (show n-1+1<=c by omega);exact⟨cur,_,(rls r (S:=λg=>g<w.heap.size) (λ_ h=>h) (.inl Pq)).trans V,by rw[QX];omega,Qe r⟩
 have h6:w3.ownsRow 0 T.int 1 (.slice (some ⟨g,0,none⟩) (n-1) c) (n-1) (xs.take (i*1)++xs.drop ((i+1)*1)):=by
  refine⟨h5.1,?_⟩;rcases h5.2 with⟨e,_⟩|⟨g',cap,cur',e,N,V,h3,h4,QX,Uz⟩
  .cases e
  .injection e with e1 _ e3;injection e1 with e1;injection e1 with e1;subst e1 e3;have e5:=(rls r (S:=λg=>g<w.heap.size) (λ_ h=>h) (.inl Pq)).trans V;rw[k1]at e5;injection e5 with e5;injection e5 with e5 e6;subst e5 e6;have hq:=Nat.mul_le_mul_right 1 (show n-1+1<=c by omega);refine .inr ⟨g,c,_,rfl,N,k3,h3,h4,?_,?_⟩
   .simp only[List.size_toArray,aU,bI,List.length_drop,Array.length_toList,k2];omega
   .rw[<-Uz];show List.take _ (_++zs++_)=_;rw[bg,List.take_append_of_le_length (by rw[bI,Array.length_toList];omega),List.take_take,Nat.min_self]
 have Qv:w.grownBy w3 (some g):=eo (eJ Tc r.cg) k4;clear k1 k2 k3 k4 r h5 Tc;intro Id w5 r5;exact⟨rfl,eJ Qv r5.cg,ownsRow.cW h6 λg' V=>by injection V with V;subst V;exact rls r5 (S:=λg=>g<w.heap.size) (λ_ h=>h) (.inl Pq)⟩
def KZ{n c i g:Nat}(Pm:w.ownsRow 0 T.dN 4 (.slice (some ⟨g,0,none⟩) n c) n xs)(R:i<n)(E:n<=1000000)(Y:∀u∈xs,u.oneCell'=true):
  eH PG Fd.df #[.slice (some ⟨g,0,none⟩) n c,iV i,iV ((i+1:Nat):Int)] w (λe F=>e= .returned (.slice (some ⟨g,0,none⟩) (n-1) c)/\w.grownBy F (some g)/\F.ownsRow 0 T.dN 4 (.slice (some ⟨g,0,none⟩) (n-1) c) (n-1) (xs.take (i*4)++xs.drop ((i+1)*4))):=by
 have Uo:n<=c/\c<=maxLen:=by
  rcases Pm.2 with⟨e,_⟩|⟨g',cap,cur,e,_,_,I,h3,_⟩
  .cases e
  .injection e with _ _ e3;subst e3;exact⟨I,h3⟩
 have SK:=Pm.1;have Pq:g<w.heap.size:=(ownsRow.low Pm g rfl).2;have Q1:∀{O:Nat->Sx.eD} {J:World},Rel [] 0 [] w.heap.size w O J->J.heap[g]? =w.heap[g]? :=λr=>rls r (S:=λg=>g<w.heap.size) (λ_ h=>h) (.inl Pq);have Qe:∀{iv:Iv} {H:Hp} {nx:Nat} {O:Nat->Sx.eD} {w1 J:World},Rel H nx iv w.heap.size w1 O J->∀id b,dT H id=some b->(O id).nil=false->(O id).g≠g:=λr=>Rel.not r (S:=λg=>g<w.heap.size) (λ_ h=>h) (.inl Pq);refine gw ce ?_;refine⟨⟨be,be,be,be⟩,_,_,_,rfl,rfl,rfl,?_⟩;apply bS<;>intro L
 .have L:(i:Int)=((i+1:Nat):Int):=eq_of_beq L;omega
 refine dP (idO 8) ?_;refine⟨⟨be,be,be⟩,some ⟨g,0,none⟩,i,c,by split<;>simp[dD],be,be,?_⟩;obtain⟨ad2,Q4⟩:∃ad:Addr,(if (c:Int)=((i+1:Nat):Int)then(some ⟨g,0,none⟩:Option Addr)else(some (⟨g,0,none⟩:Addr)).map (·.add ((((i+1:Nat):Int)).toNat*4)))=some ad/\(c≠i+1->ad=⟨g,(i+1)*4,none⟩):=by
  by_cases h:c=i+1
  .exact⟨⟨g,0,none⟩,by rw[aM be],λI=>absurd h I⟩
  .exact⟨⟨g,(i+1)*4,none⟩,by rw[aJ be];simp[dD],λ_=>rfl⟩
 refine⟨⟨be,be,be⟩,some ad2,n-(i+1),c-(i+1),Q4.1,be,be,?_⟩;have Zl:=Nat.mul_le_mul_right 4 (show i+1<=n from R)
 refine .inr (GO hτ (xs:=xs.take (i*4)) (news:=xs.drop ((i+1)*4)) (m:=i) (k:=n-(i+1)) d8 d8 d8 d8 (λO J r=>⟨ownsRow.part (ownsRow.cW Pm λg2 V=>by injection V with V;subst V;exact Q1 r) be,Qe r⟩) (by rw[List.length_drop,SK,Nat.sub_mul]) (λu hu=>Y u (List.mem_of_mem_drop hu)) be
  (λO J r=>⟨ad2,c-(i+1),rfl,λj u hu=>?_⟩) (λO J F r h5 h6=>?_))
 .rw[cD]at hu;have WR:=eQ hu;have SN:c≠i+1:=λe=>by
   have:n=i+1:=by omega
   rw[SK,this]at WR;omega
  rw[Q4.2 SN,dD];have Xn:=ownsRow.cW Pm (F:=J) λg' V=>by injection V with V;subst V;exact Q1 r
  have:=Xn.cells (g:=g) rfl _ u hu;rw[dD,aV]at this;exact this
 have hL:i+(n-(i+1))=n-1:=by omega
 rw[hL]at h5;rw[hL];have Tc:w.grownBy F (some g):=eo (eJ (⟨rfl,rfl,rfl,lr,λ_ _ _=>rfl⟩:w.grownBy w (some g)) r.cg) h6;clear h6 r;conv=>whnf
 refine⟨⟨be,be,be⟩,some ⟨g,(n-1)*4,none⟩,1,c-(n-1),by rw[aJ be];simp[dD],be,be,?_⟩;refine BN hτ d8 d8 d8 bv (λO J r=>?_) (λO J w3 cur tg zs r k1 k2 k3 k4=>?_)
 .rcases h5.2 with⟨e,_⟩|⟨g',cap,cur,e,_,V,h3,_,QX,_⟩
  .cases e
  .injection e with e1 _ e3;injection e1 with e1;injection e1 with e1;subst e1 e3;have hq:=Nat.mul_le_mul_right 4 (show n-1+1<=c by omega);exact⟨cur,_,(rls r (S:=λg=>g<w.heap.size) (λ_ h=>h) (.inl Pq)).trans V,by rw[QX];omega,Qe r⟩
 have h6:w3.ownsRow 0 T.dN 4 (.slice (some ⟨g,0,none⟩) (n-1) c) (n-1) (xs.take (i*4)++xs.drop ((i+1)*4)):=by
  refine⟨h5.1,?_⟩;rcases h5.2 with⟨e,_⟩|⟨g',cap,cur',e,N,V,h3,h4,QX,Uz⟩
  .cases e
  .injection e with e1 _ e3;injection e1 with e1;injection e1 with e1;subst e1 e3;have e5:=(rls r (S:=λg=>g<w.heap.size) (λ_ h=>h) (.inl Pq)).trans V;rw[k1]at e5;injection e5 with e5;injection e5 with e5 e6;subst e5 e6;have hq:=Nat.mul_le_mul_right 4 (show n-1+1<=c by omega);refine .inr ⟨g,c,_,rfl,N,k3,h3,h4,?_,?_⟩
   .simp only[List.size_toArray,aU,bI,List.length_drop,Array.length_toList,k2];omega
   .rw[<-Uz];show List.take _ (_++zs++_)=_;rw[bg,List.take_append_of_le_length (by rw[bI,Array.length_toList];omega),List.take_take,Nat.min_self]
 have Qv:w.grownBy w3 (some g):=eo (eJ Tc r.cg) k4;clear k1 k2 k3 k4 r h5 Tc;intro Id w5 r5;exact⟨rfl,eJ Qv r5.cg,ownsRow.cW h6 λg' V=>by injection V with V;subst V;exact rls r5 (S:=λg=>g<w.heap.size) (λ_ h=>h) (.inl Pq)⟩
end
variable{ops:Array Oper}{H:Hp}{iv:Iv}{FS:KT}{ca:List (List (List Value))}{U:List (List Value)}{l:List Nat}{q qs:List Rat}{tp:List Value}{B g i n nx:Nat}{p:Nat->Bool}{S:Nat->Prop}{O:Nat->Sx.eD}{P:Program}{Q:Sx.Ex->KT}{x:Tx}{w:World}{τ:nO}
def BO:∀{U:List (List Value)} {k:Nat},(∀cs∈U,cs.length=4)->k<U.length->U.flatten.take (k*4)++U.flatten.drop ((k+1)*4)=(U.eraseIdx k).flatten
 |[],k,_,h=>by simp at h
 |c::r,0,h,_=>by
  have hc:=h c aF;rw[List.flatten_cons,show(0+1)*4=c.length by omega];simp
 |c::r,k+1,h,K=>by
  have hc:=h c aF;rw[List.flatten_cons,show(k+1)*4=c.length+k*4 by omega,List.take_length_add_append,show(k+1+1)*4=c.length+(k+1)*4 by omega,List.drop_length_add_append,bg,BO (λcs hc=>h cs (aD _ hc)) (by simpa using K),List.eraseIdx_cons_succ,List.flatten_cons]
def getElem?_erase{α:Type}{l:List α}{k j:Nat}:(l.eraseIdx k)[j]? =l[eL k j]? :=by
 unfold eL;rw[List.getElem?_eraseIdx];split<;>rfl
def Fr.erase(h:Fr w S U qs)(k:Nat):Fr w S (U.eraseIdx k) (qs.eraseIdx k):=
 ⟨by rw[List.length_eraseIdx,List.length_eraseIdx,h.1],λj cs q Y I=>by
  rw[getElem?_erase]at Y I
  exact h.2 _ cs q Y I⟩
def Hj{k:Nat}:(ints l).take (k*1)++(ints l).drop ((k+1)*1)=ints (l.eraseIdx k):=by
 unfold ints;rw[ah,ah,<-List.map_take,<-List.map_drop,<-bp,<-List.eraseIdx_eq_take_drop_succ]
def sU:∀u∈ints l,u.oneCell'=true:=λu hu=>by
 obtain⟨n,-,rfl⟩:=bA.1 hu;rfl
section
variable{S:Nat->Prop}{H:Hp}{nx:Nat}{iv:Iv}{B:Nat}{w J F:World}{O:Nat->Sx.eD}{x:Tx}{t:Tb}{hd rvx:List Value}{v v0:Value}
structure Shr(w J F:World)(S:Nat->Prop)(B:Nat)(iv:Iv)(hd rvx:List Value)(x x':Tx)(t':Tb):Prop where
 iw:tU F S B ((J.heap.size,F.heap.size)::iv) hd rvx x' t'
 HB:∀g,Lv S B iv x g->F.heap[g]? =w.heap[g]? /\Lv S B ((J.heap.size,F.heap.size)::iv) x' g
 kept:Kept J F (Bv x.cz)
 DL:∀g,Bv x'.cz g->Bv x.cz g
def dI.shr(hT:dI w S B iv x t)(r:Rel H nx iv B w O J)(G:∀g,S g->g<B){x':Tx}{t':Tb}(h0:∀g,v0.ownBlock=some g->Bv x.cz g)(Z:∀g,Bv x'.cz g->v.ownBlock=some g\/Bv x.cz g)(h6:J.grownBy F v0.ownBlock)(h7:v.ownBlock=v0.ownBlock)
  (hJ:∀S':Nat->Prop,(∀g,g<J.heap.size->v0.ownBlock≠some g->F.heap[g]? =J.heap[g]?)->(∀g,v.ownBlock=some g->v0.ownBlock=some g\/J.heap.size<=g)->(∀g,Lv S B iv x g->g<J.heap.size)->(∀g,Lv S B iv x g->S' g)->(∀g,Bv x'.cz g->¬S' g)->oQ F S' hd rvx x' t'):
  Shr w J F S B iv hd rvx x x' t':=by
 have hold:=Lv.old (x:=x) r G;have Pp:∀g,g<J.heap.size->v0.ownBlock≠some g->F.heap[g]? =J.heap[g]? :=λg V Po=>h6.block g V (Ne.symm Po);have Pw:∀g,Bv x'.cz g->Bv x.cz g:=λg V=>(Z g V).elim (λh=>h0 g (h7▸h)) id;have Ss:∀p,p∈iv->p∈(J.heap.size,F.heap.size)::iv:=λp hp=>aD _ hp;have hL:∀g,Lv S B iv x g->Lv S B ((J.heap.size,F.heap.size)::iv) x' g:=λg V=>⟨V.1.mono Ss,λN=>V.2 (Pw g N)⟩
 exact⟨⟨hJ (Lv S B ((J.heap.size,F.heap.size)::iv) x') Pp (λg V=>.inl (h7▸V)) hold hL λg N hl=>hl.2 N,λg V=>(hT.lH g (Pw g V)).mono Ss⟩,λg V=>⟨(Pp g (hold g V) λe=>V.2 (h0 g e)).trans (Lv.same r G g V),hL g V⟩,Kept.one h6 λg e=>h0 g e,Pw⟩
def dI.aBS(hT:dI w S B iv x t)(r:Rel H nx iv B w O J)(G:∀g,S g->g<B)(h5:F.ownsRow 0 T.int 1 v l.length (ints l))(h6:J.grownBy F x.vf.ownBlock)(h7:v.ownBlock=x.vf.ownBlock):
  Shr w J F S B iv x.hd x.rv x {x with vf:=v} {t with fs:=l}:=
 hT.shr (v0:=x.vf) r G (λg e=>Bv.cz.2 (.inr (.inr (.inl e)))) (λg h=>by rw[Bv.cz]at h ⊢;simp only at h;rcases h with h|h|h|h|h|h|h<;>simp[h]) h6 h7 λS' k1 k2 k3 k4 k5=>(hT.rel r G).iw.toJ.aAj k1 h5 k2 k3 k4 k5
def dI.aBT(hT:dI w S B iv x t)(r:Rel H nx iv B w O J)(G:∀g,S g->g<B)(h5:∀S':Nat->Prop,(∀g,Lv S B iv x g->S' g)->gX F S' v q.length q)(h6:J.grownBy F x.vc.ownBlock)(h7:v.ownBlock=x.vc.ownBlock):
  Shr w J F S B iv x.hd x.rv x {x with vc:=v} {t with c:=q}:=
 hT.shr (v0:=x.vc) r G (λg e=>Bv.cz.2 (.inr (.inr (.inr (.inr (.inr (.inl e))))))) (λg h=>by rw[Bv.cz]at h ⊢;simp only at h;rcases h with h|h|h|h|h|h|h<;>simp[h]) h6 h7 λS' k1 k2 k3 k4 k5=>(hT.rel r G).iw.toJ.aAk k1 (h5 S' k4) k2 k3 k4 k5
def dI.aBU(hT:dI w S B iv x t)(r:Rel H nx iv B w O J)(G:∀g,S g->g<B)(hv:x.rv[i]? =some v0)(h5:∀S':Nat->Prop,(∀g,Lv S B iv x g->S' g)->gX F S' v q.length q)(h6:J.grownBy F v0.ownBlock)(h7:v.ownBlock=v0.ownBlock):
  Shr w J F S B iv x.hd x.rv x {x with rv:=x.rv.set i v} {t with a:=t.a.set i q}:=
 hT.shr (v0:=v0) r G (λg e=>Bv.cz.2 (.inr (.inr (.inr (.inr (.inr (.inr ⟨v0,aG hv,e⟩))))))) (λg h=>by
  rw[Bv.cz]at h ⊢;simp only at h;rcases h with h|h|h|h|h|h|h
  any_goals simp[h]
  rcases Bv.set h with h|h<;>simp[h]) h6 h7 λS' k1 k2 k3 k4 k5=>(hT.rel r G).iw.toJ.aAl hv k1 (h5 S' k4) k2 k3 k4 k5
def dI.M6(hT:dI w S B iv x t)(r:Rel H nx iv B w O J)(G:∀g,S g->g<B){k c:Nat}(hv:x.vf= .slice (some ⟨g,0,none⟩) n c)(E:t.fs.length=n)(K:k<n)(Tv:n<=1000000):
  eH PG Fd.fy #[.slice (some ⟨g,0,none⟩) n c,.int .i64 k,iV ((k+1:Nat):Int)] J (λe F=>e= .returned (.slice (some ⟨g,0,none⟩) (n-1) c)/\Shr w J F S B iv x.hd x.rv x {x with vf:=.slice (some ⟨g,0,none⟩) (n-1) c} {t with fs:=t.fs.eraseIdx k}):=by
 obtain⟨tp,cb,cc,ca,hC⟩:=(hT.rel r G).iw;have ho:=hC.ows.own ⟨x.vf,T.int,1,t.fs.length,ints t.fs⟩ (by simp[gz]);have ho:J.ownsRow 0 T.int 1 x.vf t.fs.length (ints t.fs):=ho;rw[hv,E]at ho;refine(KY ho K Tv sU).mono λe F L=>?_;obtain⟨rfl,Y,I⟩:=L;refine⟨rfl,hT.aBS r G (l:=t.fs.eraseIdx k) ?_ (by rw[hv];exact Y) (by rw[hv];rfl)⟩;rw[Hj]at I;rw[List.length_eraseIdx,aM be,E];exact I
def fh.JP{w:World}{S:Nat->Prop}{cb cc:List (List Value)}{k c:Nat}{v:Value}(hC:fh w S x t tp cb cc ca)(hm:gC v U∈gz x t tp cb cc ca)(hF:Fr w S U qs)(hv:v= .slice (some ⟨g,0,none⟩) n c)(E:qs.length=n)(K:k<n)(Tv:n<=1000000):
  eH PG Fd.df #[.slice (some ⟨g,0,none⟩) n c,.int .i64 k,iV ((k+1:Nat):Int)] w (λe F=>e= .returned (.slice (some ⟨g,0,none⟩) (n-1) c)/\w.grownBy F (some g)/\∀S':Nat->Prop,(∀g,S g->S' g/\F.heap[g]? =w.heap[g]?)->gX F S' (.slice (some ⟨g,0,none⟩) (n-1) c) (qs.eraseIdx k).length (qs.eraseIdx k)):=by
 have ho:w.ownsRow 0 T.dN 4 v U.length U.flatten:=hC.ows.own _ hm;have Qa:=hF.1;rw[hv,Qa,E]at ho;refine(KZ ho K Tv hF.one).mono λe F L=>?_;obtain⟨rfl,Y,I⟩:=L;refine⟨rfl,Y,λS' hs=>⟨U.eraseIdx k,?_,by rw[List.length_eraseIdx,List.length_eraseIdx,Qa],((hF.erase k).cW λg V=>(hs g V).2).cU λg V=>(hs g V).1⟩⟩;rw[BO hF.oP be]at I;rw[List.length_eraseIdx,aM be,E];exact I
def dI.M7(hT:dI w S B iv x t)(r:Rel H nx iv B w O J)(G:∀g,S g->g<B){k c:Nat}(R:i<t.a.length)(hv:x.rv[i]? =some (.slice (some ⟨g,0,none⟩) n c))(E:(t.a.getD i []).length=n)(K:k<n)(Tv:n<=1000000):
  eH PG Fd.df #[.slice (some ⟨g,0,none⟩) n c,.int .i64 k,iV ((k+1:Nat):Int)] J (λe F=>e= .returned (.slice (some ⟨g,0,none⟩) (n-1) c)/\Shr w J F S B iv x.hd x.rv x {x with rv:=x.rv.set i (.slice (some ⟨g,0,none⟩) (n-1) c)} {t with a:=t.a.set i ((t.a.getD i []).eraseIdx k)}):=by
 obtain⟨tp,cb,cc,ca,hC⟩:=(hT.rel r G).iw;obtain⟨v',U,Y,I,h3,h4⟩:=hC.row R;rw[Y]at hv;injection hv with hv;have hI:=hC.rowAt Y I;have Uw:∀g',v'.ownBlock=some g'->Bv x.cz g':=λg' V=>by rw[<-hC.cz];exact ju.bk (aG hI) V
 refine(hC.JP (aG hI) h3 hv E K Tv).mono λe F L=>?_;obtain⟨rfl,k1,k2⟩:=L;have k1':J.grownBy F v'.ownBlock:=by rw[hv];exact k1
 exact⟨rfl,hT.aBU r G Y (λS' hs=>k2 S' λg' V=>⟨hs g' V,k1'.block g' (Lv.old r G g' V) λe=>V.2 (Uw g' e.symm)⟩) k1' (by rw[hv];rfl)⟩
def dI.M8(hT:dI w S B iv x t)(r:Rel H nx iv B w O J)(G:∀g,S g->g<B){k c:Nat}(hv:x.vc= .slice (some ⟨g,0,none⟩) n c)(E:t.c.length=n)(K:k<n)(Tv:n<=1000000):
  eH PG Fd.df #[.slice (some ⟨g,0,none⟩) n c,.int .i64 k,iV ((k+1:Nat):Int)] J (λe F=>e= .returned (.slice (some ⟨g,0,none⟩) (n-1) c)/\Shr w J F S B iv x.hd x.rv x {x with vc:=.slice (some ⟨g,0,none⟩) (n-1) c} {t with c:=t.c.eraseIdx k}):=by
 obtain⟨tp,cb,cc,ca,hC⟩:=(hT.rel r G).iw;have hm:gC x.vc cc∈gz x t tp cb cc ca:=by simp[gz]
 have Uw:∀g',x.vc.ownBlock=some g'->Bv x.cz g':=λg' V=>by rw[<-hC.cz];exact ju.bk hm V
 refine(hC.JP hm hC.fc hv E K Tv).mono λe F L=>?_;obtain⟨rfl,k1,k2⟩:=L;have k1':J.grownBy F x.vc.ownBlock:=by rw[hv];exact k1
 exact⟨rfl,hT.aBT r G (λS' hs=>k2 S' λg' V=>⟨hs g' V,k1'.block g' (Lv.old r G g' V) λe=>V.2 (Uw g' e.symm)⟩) k1' (by rw[hv];rfl)⟩
def dI.M9(hT:dI w S B iv x t)(r:Rel H nx iv B w O J)(G:∀g,S g->g<B)(E:t.fs.length<=n)(hm:n<=maxLen):dw J (λg=>Bv x.cz g) x.vf t.fs:=by
 obtain⟨tp,cb,cc,ca,hC⟩:=(hT.rel r G).iw;have ho:J.ownsRow 0 T.int 1 x.vf t.fs.length (ints t.fs):=hC.ows.own ⟨x.vf,T.int,1,t.fs.length,ints t.fs⟩ (by simp[gz]);rcases ho.2 with⟨e,h0⟩|⟨g,cap,cur,e,N,hc,SJ,RE,QG,RX⟩
 .exact⟨be,by rw[aO,ah],sU,none,0,by rw[e,h0],be,λj u hu=>by
   have:=eQ hu;rw[aO]at this
   omega⟩
 .exact⟨be,by rw[aO,ah],sU,some ⟨g,0,none⟩,cap,e,SJ,λj u hu=>⟨_,rfl,Bv.cz.2 (.inr (.inr (.inl (by rw[e];rfl)))),ho.cells (g:=g) (by rw[e];rfl) j u hu⟩⟩
def dI.aAA(hT:dI w S B iv x t)(r:Rel H nx iv B w O J)(G:∀g,S g->g<B)(E:t.bs.length<=n)(hm:n<=maxLen):dw J (λg=>Bv x.cz g) x.vb t.bs:=by
 obtain⟨tp,cb,cc,ca,hC⟩:=(hT.rel r G).iw;have ho:J.ownsRow 0 T.int 1 x.vb t.bs.length (ints t.bs):=hC.ows.own ⟨x.vb,T.int,1,t.bs.length,ints t.bs⟩ (by simp[gz]);rcases ho.2 with⟨e,h0⟩|⟨g,cap,cur,e,N,hc,SJ,RE,QG,RX⟩
 .exact⟨be,by rw[aO,ah],sU,none,0,by rw[e,h0],be,λj u hu=>by
   have:=eQ hu;rw[aO]at this
   omega⟩
 .exact⟨be,by rw[aO,ah],sU,some ⟨g,0,none⟩,cap,e,SJ,λj u hu=>⟨_,rfl,Bv.cz.2 (.inr (.inl (by rw[e];rfl))),ho.cells (g:=g) (by rw[e];rfl) j u hu⟩⟩
end
section
variable{S:Nat->Prop}{H:Hp}{nx:Nat}{iv:Iv}{B:Nat}{w J F:World}{O:Nat->Sx.eD}{x:Tx}{t:Tb}{hd rvx:List Value}
def tU.Nx(hT:tU w S B iv hd rvx x t)(G:∀g,S g->g<B){k:Nat}{u:Value}(hu:hd[k]? =some u):KQ w iv B λJ=>J.cell? (Addr.add ⟨x.g,0,none⟩ k)=some u:=λr=>by
 obtain⟨tp,cb,cc,ca,hC⟩:=hT.iw;have Xh:(hd++tp)[k]? =some u:=by
  rw[aN (eQ hu)];exact hu
 obtain⟨g,c,e,Y⟩:=(hC.cW (hT.same r G)).ows.ld aF Xh;injection e with e;injection e with e;injection e with e;rw[dD,aV,e];exact Y
end
def sW{l:Env}(E8:Env->KT)(Y:∀K0:KT,(∀l' H nx iv w,E8 l l' H nx iv w->K0 l' H nx iv w)->xj P τ B ops.toList ops.toList l H nx iv w K0)(I:∀l' H nx iv w,E8 l l' H nx iv w->FS l' H nx iv w):
  xj P τ B ops.toList ops.toList l H nx iv w FS:=Y FS I
def uf{l:Env}(E8:Env->KT)(Y:∀K0:KT,(∀l' H nx iv w,E8 l l' H nx iv w->K0 l' H nx iv w)->pM P B ops l H nx iv w K0)(I:∀l' H nx iv w,E8 l l' H nx iv w->FS l' H nx iv w):
  pM P B ops l H nx iv w FS:=Y FS I
def BP{c:Code}{l:Env}(E8:Env->KT)(Y:∀K0:Sx.Ex->KT,(∀l' H nx iv w,E8 l l' H nx iv w->K0 .normal l' H nx iv w)->jn P τ B c l H nx iv w K0)(I:∀l' H nx iv w,E8 l l' H nx iv w->Q .normal l' H nx iv w):
  jn P τ B c l H nx iv w Q:=Y Q I
def lE{c1 c2:Code}{l:Env}(E8:Env->KT)(Y:∀K0:Sx.Ex->KT,(∀l' H nx iv w,E8 l l' H nx iv w->K0 .normal l' H nx iv w)->jn P τ B c1 l H nx iv w K0)(I:∀l' H nx iv w,E8 l l' H nx iv w->jn P τ B c2 l' H nx iv w Q):
  jn P τ B (.seq c1 c2) l H nx iv w Q:=Y _ λl' H nx iv w hI=>I l' H nx iv w hI
def dI.aBV{J:World}{t:Tb}(hT:dI w S B iv x t)(r:Rel H nx iv B w O J)(G:∀g,S g->g<B){q c:Nat}(R:i<t.a.length)(hv:x.rv[i]? =some (.slice (some ⟨g,0,none⟩) q c))(E:(t.a.getD i []).length=q):
  eH PG Fd.eU #[.slice (some ⟨g,0,none⟩) q c,.func (.func Fd.fY) #[] #[]] J (eV J λv' _=>v'=iV (qo (lj (λj=>decide ((t.a.getD i []).getD j 0≠0)) (t.a.getD i []).length))):=by
 obtain⟨tp,cb,cc,ca,hC⟩:=(hT.rel r G).iw;obtain⟨v',U,Y,I,h3,h4⟩:=hC.row R;rw[Y]at hv;injection hv with hv;have hI:=hC.rowAt Y I;have hm:=aG hI;have hR:=(fh.JK hC hm h3).cU (C':=λg=>Lv S B iv x g\/Bv x.cz g) (S':=λg=>Lv S B iv x g\/Bv x.cz g) (λg V=>.inr (by rw[<-hC.cz];exact ju.bk hm V)) λg V=>.inl V;rw[hv]at hR;exact KX (λg V=>V.elim (λV=>Lv.old r G g V) λV=>hT.low r V) hR
def Tb.oR(t:Tb)(k i:Nat):Tb:={t with fs:=t.fs.eraseIdx k,a:=t.a.mapIdx λj r=>if j<i then r.eraseIdx k else r}
def Tb.DO{t:Tb}{k:Nat}:t.oR k 0={t with fs:=t.fs.eraseIdx k}:=by
 refine Tb.ext rfl rfl ?_ rfl rfl rfl;show List.mapIdx _ _=_;apply av;intro j;rw[List.getElem?_mapIdx]
 cases t.a[j]? with
 |none=>rfl
 |some r=>rw[bN,aJ (Nat.not_lt_zero j)]
def Tb.EU{t:Tb}{k:Nat}(R:i<t.a.length):(t.oR k i).a.getD i []=t.a.getD i []:=by
 unfold Tb.oR;rw[gp [] [] R,aJ (Nat.lt_irrefl i)]
def Tb.GP{t:Tb}{k:Nat}:(t.oR k i).a.length=t.a.length:=List.length_mapIdx
def Tb.DP{t:Tb}{k:Nat}(R:i<t.a.length):{t.oR k i with a:=(t.oR k i).a.set i (((t.oR k i).a.getD i []).eraseIdx k)}=t.oR k (i+1):=by
 rw[Tb.EU R];refine Tb.ext rfl rfl ?_ rfl rfl rfl;show List.set (List.mapIdx _ _) _ _=List.mapIdx _ _;apply av;intro j;rw[List.getElem?_set,List.length_mapIdx,List.getElem?_mapIdx,List.getElem?_mapIdx];by_cases e:i=j
 .subst e;rw[aM rfl,aM R,aE R,bN,aM (cF i),List.getD,aE R];rfl
 .rw[aJ e];congr 1
  funext r
  by_cases h:j<i
  .rw[aM h,aM be]
  .rw[aJ h,aJ be]
def Tb.GQ{t:Tb}{k:Nat}:{t.oR k t.a.length with c:=t.c.eraseIdx k}=t.del k:=by
 refine Tb.ext rfl rfl ?_ rfl rfl rfl;show List.mapIdx _ _=List.map _ _;apply av;intro j;rw[List.getElem?_mapIdx,aS]
 cases h:t.a[j]? with
 |none=>rfl
 |some r=>rw[bN,bN,aM (eQ h)]
def K1{t t1:Tb}{m q vv k h:Nat}(TT:Old S w)(Qq:fL w S x t)(hW:t.Wf m q)(UC:0<m)(hq0:0<q)(hm:m<=1000)(hq:q<=1000)(hH:t.xD h)(I:2<=h)(hh:h<=100000000)
  (Y:(lj (λi=>decide (t.bs.getD i 0=vv)) t.bs.length=none/\t1=t)\/∃r s,lj (λi=>decide (t.bs.getD i 0=vv)) t.bs.length=some r/\r<m/\lj (λj=>decide ((t.a.getD r []).getD j 0≠0)) (t.a.getD r []).length=some s/\s<q/\dR t.a r s≠0/\t1=t.gP r s)
  (hW1:t1.Wf m q) (WB:lj (λi=>decide (t1.fs.getD i 0=vv)) t1.fs.length=some k) (Yb:k<q):
  eH PG Fd.mF #[.pointer (some ⟨x.g,0,none⟩),iV vv] w (λe F=>e= .returned (.tuple #[])/\∃x',x'.g=x.g/\Kept w F (Bv x.cz)/\fL F (λg=>Nw S w F g/\¬Bv x'.cz g) x' (t1.del k)/\∀g,Bv x'.cz g->Bv x.cz g\/w.heap.size<=g):=by
 have G:=TT;obtain⟨gb,cb,gf,cf,ga,ca,gB,cB,gc,cc,hA⟩:=Qq.Ny hW UC hq0;have hT:=dI.arg Qq;have K:Kept w w (Bv x.cz):=Kept.refl;have UA:=hW.bs;have UK:=hW.al;have hal1:=hW1.al;have hfl1:=hW1.fs;have hcl1:=hW1.c;have XG:∀i,i<m->∃g c,x.rv[i]? =some (.slice (some ⟨g,0,none⟩) q c):=hA.row;refine qB ce ?_;refine sW (λl0 l H nx iv w1=>∃a13 a12 a11 a10 a9 a8:SV,l=(4,.o (.v (iV (qo (lj (λi=>decide (t.bs.getD i 0=vv)) t.bs.length)))))::(13,a13)::(12,a12)::(11,a11)::(10,a10)::(9,a9)::(8,a8)::l0/\H=[]/\nx=0/\Kept w w1 (Bv x.cz)/\dI w1 S w.heap.size iv x t) ?_ ?_
 .intro K0 R8;refine⟨_,λO J r=>hT.f0 G hA.b r,?_⟩;refine cS (cR (GT:=λ_ J v F=>v=iV (qo (lj (λi=>decide (t.bs.getD i 0=vv)) t.bs.length))) (λO J r=>(hA.b▸BM (S:=λg=>Bv x.cz g) (λg V=>hT.low r V) (hT.aAA r G (n:=m) be mx) be)) ?_);rintro O QJ v1 QH r L N rfl;replace hT:=hT.cV (A:=(QJ.heap.size,QH.heap.size)::[]) r G L λx Z=>aD _ Z;replace K:=Kept.cg N K lr;clear r L N;generalize (QJ.heap.size,QH.heap.size)::[]=Pt at*
  exact R8 _ _ _ _ _ ⟨_,_,_,_,_,_,rfl,rfl,rfl,K,hT⟩
 clear hT K;rintro l H nx iv w1 ⟨a13,a12,a11,a10,a9,a8,rfl,rfl,rfl,K,hT⟩;rcases Y with⟨Y,XQ⟩|⟨u,s,Y,hu,h3,hs,Po,XQ⟩
 .replace hT:=hT.cast XQ.symm;rw[Y];refine BP (λl0 l H nx iv w1=>∃a14:SV,l=(15,.o (.v (.bool false)))::(14,a14)::l0/\H=[]/\nx=0/\Kept w w1 (Bv x.cz)/\dI w1 S w.heap.size iv x t1) ?_ ?_
  .intro K0 R8;exact R8 _ _ _ _ _ ⟨_,rfl,rfl,rfl,K,hT⟩
  clear hT K;rintro l H nx iv w1 ⟨a14,rfl,rfl,rfl,K,hT⟩;refine lE (λl0 l H nx iv w1=>∃a33 a32 a31 a30 a29 a28:SV,l=(6,.o (.v (iV ((k:Int)))))::(33,a33)::(32,a32)::(31,a31)::(30,a30)::(29,a29)::(28,a28)::l0/\H=[]/\nx=0/\Kept w w1 (Bv x.cz)/\dI w1 S w.heap.size iv x t1) ?_ ?_
  .intro K0 R8;refine⟨_,λO J r=>hT.f1 G hA.f r,?_⟩;refine cS (cR (GT:=λ_ J v F=>v=iV (qo (lj (λi=>decide (t1.fs.getD i 0=vv)) t1.fs.length))) (λO J r=>(hA.f▸BM (S:=λg=>Bv x.cz g) (λg V=>hT.low r V) (hT.M9 r G (n:=q) be mx) be)) ?_);rintro O QJ v1 QH r L N rfl;replace hT:=hT.cV (A:=(QJ.heap.size,QH.heap.size)::iv) r G L λx Z=>aD _ Z;replace K:=Kept.cg N K lr;clear r L N;generalize (QJ.heap.size,QH.heap.size)::iv=Pt at*
   rw[WB,kH];exact R8 _ _ _ _ _ ⟨_,_,_,_,_,_,rfl,rfl,rfl,K,hT⟩
  clear hT K;rintro l H nx iv w1 ⟨a33,a32,a31,a30,a29,a28,rfl,rfl,rfl,K,hT⟩;refine lE (λl0 l H nx iv w1=>∃a44 a43 a42 a41 a40 a39 a38 a37 a36 a35 a34:SV,l=(44,a44)::(43,a43)::(42,a42)::(41,a41)::(40,a40)::(39,a39)::(38,a38)::(37,a37)::(36,a36)::(35,a35)::(34,a34)::l0/\H=[]/\nx=0/\Kept w w1 (Bv x.cz)/\dI w1 S w.heap.size iv {x with vf:=.slice (some ⟨gf,0,none⟩) (q-1) cf} (t1.oR k 0)/\∀g,Bv (Tx.cz {x with vf:=.slice (some ⟨gf,0,none⟩) (q-1) cf}) g->Bv x.cz g) ?_ ?_
  .intro K0 R8;refine⟨_,λO J r=>hT.f1 G hA.f r,((k+1:Nat):Int),wo,?_⟩;refine⟨λO J r=>?_⟩;refine(hT.M6 r G (k:=k) hA.f hfl1 Yb be).mono λe w8 L=>?_;obtain⟨rfl,SE⟩:=L;refine⟨_,_,(J.heap.size,w8.heap.size)::iv,rfl,r.fz (hT.not r) SE.kept,?_⟩;have hP:=SE.iw;have Pw:=SE.DL;replace K:=(Kept.cg r.cg K lr).trans SE.kept;clear SE r hT;generalize (J.heap.size,w8.heap.size)::iv=ivd at*
   intro I8 w3 r3;have hs:=hP.ET r3 G (k:=1) bv (v:=.slice (some ⟨gf,0,none⟩) (q-1) cf) (ad:=Addr.add ⟨x.g,0,none⟩ 1) (by rw[dD,aV]);refine⟨hs.spot,hs.cells,hs.own,λw4 QD=>?_⟩;obtain⟨SC,QW,-⟩:=hs.next w4 QD
   have hT:=SC.toO rfl rfl;replace K:=Kept.gY (Kept.cg r3.cg K lr) QW λg V N=>Pw g N;clear hs SC QW QD r3 hP;exact R8 _ _ _ _ _ ⟨_,_,_,_,_,_,_,_,_,_,_,rfl,rfl,rfl,K,hT.cast Tb.DO.symm,Pw⟩
  clear hT K;rintro l H nx ivd w1 ⟨a44,a43,a42,a41,a40,a39,a38,a37,a36,a35,a34,rfl,rfl,rfl,K,hT,S9⟩;refine⟨_,λO J r=>hT.f2 G (show Tx.va {x with vf:=.slice (some ⟨gf,0,none⟩) (q-1) cf}=_ from hA.a) r,Nat×Tx×World×Iv,λz=>⟨[(0,.o (.v (.pointer (some ⟨x.g,0,none⟩)))),(6,.o (.v (iV (k:Int)))),(49,.o (.v (iV (m:Int)))),(50,.o (.v (iV (z.1:Int))))],[],0,z.2.2.2,z.2.2.1⟩,λz=>m-z.1,λz=>z.1<=m/\Kept w z.2.2.1 (Bv x.cz)/\dI z.2.2.1 S w.heap.size z.2.2.2 z.2.1 (t1.oR k z.1)/\z.2.1.g=x.g/\z.2.1.va= .slice (some ⟨ga,0,none⟩) m ca/\z.2.1.vc= .slice (some ⟨gc,0,none⟩) q cc/\(∀j,z.1<=j->z.2.1.rv[j]? =x.rv[j]?)/\∀g,Bv z.2.1.cz g->Bv x.cz g,?_,?_⟩
  .intro O J r;exact⟨(0,_,J,_),⟨aZ _,Kept.cg r.cg K lr,hT.rel r G,rfl,hA.a,hA.c,λj _=>rfl,S9⟩,sbgn [] r⟩
  clear hT K S9;rintro⟨i,y,w1,iv⟩ ⟨R,K,hT,R0,RW,Vo,XF,S9⟩;dsimp only at R K hT R0 RW Vo XF S9 ⊢;apply bS<;>intro Pk
  .have Pk:=dL Pk;obtain⟨gi,ci,TD⟩:=XG i Pk;have R5:=(XF i (ae i)).trans TD;have Wh:i<(t1.oR k i).a.length:=by rw[Tb.GP];omega
   have Xo:((t1.oR k i).a.getD i []).length=q:=by rw[Tb.EU be];exact hW1.row Pk
   obtain⟨y2,RH⟩:∃y2:Tx,y2={y with rv:=y.rv.set i (.slice (some ⟨gi,0,none⟩) (q-1) ci)}:=⟨_,rfl⟩
   refine uf (λl0 l H nx iv w1=>∃b69 b68 b64 b63 b61 b56 b67 b66 b65 b62 b60 b59 b58 b57 b55 b54 b53:SV,l=(69,b69)::(68,b68)::(64,b64)::(63,b63)::(61,b61)::(56,b56)::(67,b67)::(66,b66)::(65,b65)::(62,b62)::(60,b60)::(59,b59)::(58,b58)::(57,b57)::(55,b55)::(54,b54)::(53,b53)::l0/\H=[]/\nx=0/\Kept w w1 (Bv x.cz)/\dI w1 S w.heap.size iv y2 (t1.oR k (i+1))/\∀g,Bv y2.cz g->Bv x.cz g) ?_ ?_
   .intro K0 R8;refine fA hτ uR (.x 0 (.x 1 (.x 2 (.x 4 (.x 5 (.x 6 (.x 7 (.x 9 (.x 12 (.x 13 (.x 14 (.ld 3 196608 (.ld 8 232448 (.x 10 (.ld 11 229376 (.x 15 (.x 16 (.x 17 .nil)))))))))))))))))) d9 d9 ?_;refine⟨((k+1:Nat):Int),wo,.slice (some ⟨ga,0,none⟩) m ca,λO J r=>by have h:=hT.f2 G RW r;rw[R0]at h;exact h,.slice (some ⟨ga,0,none⟩) m ca,λO J r=>by have h:=hT.f2 G RW r;rw[R0]at h;exact h,_,rfl,be,_,λO J r=>hT.cA G R5 RW r,?_⟩;refine⟨λO J r=>?_⟩;refine(hT.M7 r G (k:=k) Wh R5 Xo Yb be).mono λe w8 L=>?_;obtain⟨rfl,SE⟩:=L;refine⟨_,_,(J.heap.size,w8.heap.size)::iv,rfl,r.fz (hT.not r) SE.kept,?_⟩;have hP:=SE.iw;rw[<-RH]at hP;have Pw:=SE.DL;rw[<-RH]at Pw;replace K:=Kept.gY (Kept.cg r.cg K lr) SE.kept λg V N=>S9 g N;clear SE r;generalize (J.heap.size,w8.heap.size)::iv=iv2 at*
    have Qv:y2.g=x.g:=by rw[RH];exact R0
    have RL:y2.va= .slice (some ⟨ga,0,none⟩) m ca:=by rw[RH];exact RW
    refine⟨.slice (some ⟨ga,0,none⟩) m ca,λO J r=>by have h:=hP.Nx G (k:=2) (show y.hd[2]? =some (.slice (some ⟨ga,0,none⟩) m ca)from congrArg some RW) r;rw[Qv]at h;exact h,rfl,_,rfl,be,?_⟩;intro I8 w3 r3;have hs:=hP.M5 r3 G (i:=i) (v:=.slice (some ⟨gi,0,none⟩) (q-1) ci) (eQ R5) RL (ad:=Addr.add ⟨ga,0,none⟩ (((i:Nat):Int).toNat*1)) (by rw[aI,dD,aV]);refine⟨hs.spot,hs.cells,hs.own,λw4 QD=>?_⟩;obtain⟨SC,QW,-⟩:=hs.next w4 QD
    have XZ:=(SC.toO (by rw[RH];rfl) (by rw[RH])).cast (Tb.DP be);replace K:=Kept.gY (Kept.cg r3.cg K lr) QW λg V N=>S9 g (Pw g N);have Q5:∀g,Bv y2.cz g->Bv x.cz g:=λg N=>S9 g (Pw g N);clear hs SC QW QD r3 hP;exact R8 _ _ _ _ _ ⟨_,_,_,_,_,_,_,_,_,_,_,_,_,_,_,_,_,rfl,rfl,rfl,K,XZ,Q5⟩
   clear hT K;rintro l H nx iv2 F ⟨b69,b68,b64,b63,b61,b56,b67,b66,b65,b62,b60,b59,b58,b57,b55,b54,b53,rfl,rfl,rfl,K,hT,Q5⟩;refine inc i ?_;intro I8 w3 r3;exact⟨(i+1,y2,w3,_),⟨Pk,Kept.cg r3.cg K lr,hT.rel r3 G,by rw[RH];exact R0,by rw[RH];exact RW,by rw[RH];exact Vo,λj hj=>by rw[RH];exact(aX be).trans (XF j be),Q5⟩,sbgn [] r3,dec Pk⟩
  have Pk:=dE R Pk;have hD:{t1.oR k i with c:=t1.c.eraseIdx k}=t1.del k:=by rw[Pk,<-hal1];exact Tb.GQ
  refine sW (λl0 l H nx iv w1=>∃(b81 b80 b79 b78 b77 b76 b75 b74 b73 b72 b71:SV) (y2:Tx),l=(81,b81)::(80,b80)::(79,b79)::(78,b78)::(77,b77)::(76,b76)::(75,b75)::(74,b74)::(73,b73)::(72,b72)::(71,b71)::l0/\H=[]/\nx=0/\y2.g=x.g/\Kept w w1 (Bv x.cz)/\dI w1 S w.heap.size iv y2 (t1.del k)/\∀g,Bv y2.cz g->Bv x.cz g) ?_ ?_
  .intro K0 R8;refine⟨_,λO J r=>by have h:=hT.f4 G Vo r;rw[R0]at h;exact h,((k+1:Nat):Int),wo,?_⟩;refine⟨λO J r=>?_⟩;refine(hT.M8 r G (k:=k) Vo hcl1 Yb be).mono λe w8 L=>?_;obtain⟨rfl,SE⟩:=L;refine⟨_,_,(J.heap.size,w8.heap.size)::iv,rfl,r.fz (hT.not r) SE.kept,?_⟩;have hP:=SE.iw;have Pw:=SE.DL;replace K:=Kept.gY (Kept.cg r.cg K lr) SE.kept λg V N=>S9 g N;clear SE r hT;generalize (J.heap.size,w8.heap.size)::iv=iv2 at*
   intro I8 w3 r3;have hs:=hP.ET r3 G (k:=4) bv (v:=.slice (some ⟨gc,0,none⟩) (q-1) cc) (ad:=Addr.add ⟨x.g,0,none⟩ 4) (by rw[dD,aV];exact congrArg (λg=>(⟨g,4,none⟩:Addr)) R0.symm);refine⟨hs.spot,hs.cells,hs.own,λw4 QD=>?_⟩;obtain⟨SC,QW,-⟩:=hs.next w4 QD
   have hT:=SC.toO rfl rfl;replace K:=Kept.gY (Kept.cg r3.cg K lr) QW λg V N=>S9 g (Pw g N);clear hs SC QW QD r3 hP;exact R8 _ _ _ _ _ ⟨_,_,_,_,_,_,_,_,_,_,_,{y with vc:=.slice (some ⟨gc,0,none⟩) (q-1) cc},rfl,rfl,rfl,R0,K,hT.cast hD,λg N=>S9 g (Pw g N)⟩
  clear hT K;rintro l H nx iv2 F ⟨b81,b80,b79,b78,b77,b76,b75,b74,b73,b72,b71,y2,rfl,rfl,rfl,Qv,K,hT,Q5⟩;intro O J r;exact⟨rfl,y2,Qv,Kept.cg r.cg K lr,hT.Pj Qq (λg N=>.inl (Q5 g N)) r G,λg N=>.inl (Q5 g N)⟩
 rw[Y];obtain⟨gu,cu,hru⟩:=XG u hu;have QI:=hW.row hu;refine BP (λl0 l H nx iv w1=>∃a27 a26 a25 a24 a5 a23 a22 a21 a20 a19 a18 a17 a16 a15 a14:SV,l=(27,a27)::(26,a26)::(25,a25)::(24,a24)::(5,a5)::(23,a23)::(22,a22)::(21,a21)::(20,a20)::(19,a19)::(18,a18)::(17,a17)::(16,a16)::(15,a15)::(14,a14)::l0/\H=[]/\nx=0/\Kept w w1 (Bv x.cz)/\dI w1 S w.heap.size iv x t1) ?_ ?_
 .intro K0 R8;refine⟨_,λO J r=>hT.f2 G hA.a r,_,rfl,⟨by rw[kH];omega,by rw[kH];omega⟩,_,λO J r=>hT.cA G hru hA.a r,?_⟩;refine cS (cR (GT:=λ_ J v F=>v=iV (qo (lj (λj=>decide ((t.a.getD u []).getD j 0≠0)) (t.a.getD u []).length))) (λO J r=>(hT.aBV r G be hru QI)) ?_);rintro O QJ v1 QH r L N rfl;replace hT:=hT.cV (A:=(QJ.heap.size,QH.heap.size)::iv) r G L λx Z=>aD _ Z;replace K:=Kept.cg N K lr;clear r L N;generalize (QJ.heap.size,QH.heap.size)::iv=Pt at*
  rw[h3];refine⟨λO J r=>?_⟩;refine(ER (u:=u) (s:=s) (Lv.old r G) (hT.rel r G).iw hW hu hs Po be be hH I hh).mono λe w8 L=>?_;obtain⟨rfl,Qu,Ql⟩:=L;refine⟨.tuple #[],_,(J.heap.size,w8.heap.size)::Pt,rfl,r.fz (hT.not r) Qu,?_⟩;replace Ql:=hT.ef r Ql;replace K:=(Kept.cg r.cg K lr).trans Qu;clear hT Qu;have hT:=Ql;clear Ql r;generalize (J.heap.size,w8.heap.size)::Pt=iv2 at*
  replace hT:=hT.cast XQ.symm;exact R8 _ _ _ _ _ ⟨_,_,_,_,_,_,_,_,_,_,_,_,_,_,_,rfl,rfl,rfl,K,hT⟩
 clear hT K;rintro l H nx iv w1 ⟨a27,a26,a25,a24,a5,a23,a22,a21,a20,a19,a18,a17,a16,a15,a14,rfl,rfl,rfl,K,hT⟩;refine lE (λl0 l H nx iv w1=>∃a33 a32 a31 a30 a29 a28:SV,l=(6,.o (.v (iV ((k:Int)))))::(33,a33)::(32,a32)::(31,a31)::(30,a30)::(29,a29)::(28,a28)::l0/\H=[]/\nx=0/\Kept w w1 (Bv x.cz)/\dI w1 S w.heap.size iv x t1) ?_ ?_
 .intro K0 R8;refine⟨_,λO J r=>hT.f1 G hA.f r,?_⟩;refine cS (cR (GT:=λ_ J v F=>v=iV (qo (lj (λi=>decide (t1.fs.getD i 0=vv)) t1.fs.length))) (λO J r=>(hA.f▸BM (S:=λg=>Bv x.cz g) (λg V=>hT.low r V) (hT.M9 r G (n:=q) be mx) be)) ?_);rintro O QJ v1 QH r L N rfl;replace hT:=hT.cV (A:=(QJ.heap.size,QH.heap.size)::iv) r G L λx Z=>aD _ Z;replace K:=Kept.cg N K lr;clear r L N;generalize (QJ.heap.size,QH.heap.size)::iv=Pt at*
  rw[WB,kH];exact R8 _ _ _ _ _ ⟨_,_,_,_,_,_,rfl,rfl,rfl,K,hT⟩
 clear hT K;rintro l H nx iv w1 ⟨a33,a32,a31,a30,a29,a28,rfl,rfl,rfl,K,hT⟩;refine lE (λl0 l H nx iv w1=>∃a44 a43 a42 a41 a40 a39 a38 a37 a36 a35 a34:SV,l=(44,a44)::(43,a43)::(42,a42)::(41,a41)::(40,a40)::(39,a39)::(38,a38)::(37,a37)::(36,a36)::(35,a35)::(34,a34)::l0/\H=[]/\nx=0/\Kept w w1 (Bv x.cz)/\dI w1 S w.heap.size iv {x with vf:=.slice (some ⟨gf,0,none⟩) (q-1) cf} (t1.oR k 0)/\∀g,Bv (Tx.cz {x with vf:=.slice (some ⟨gf,0,none⟩) (q-1) cf}) g->Bv x.cz g) ?_ ?_
 .intro K0 R8;refine⟨_,λO J r=>hT.f1 G hA.f r,((k+1:Nat):Int),wo,?_⟩;refine⟨λO J r=>?_⟩;refine(hT.M6 r G (k:=k) hA.f hfl1 Yb be).mono λe w8 L=>?_;obtain⟨rfl,SE⟩:=L;refine⟨_,_,(J.heap.size,w8.heap.size)::iv,rfl,r.fz (hT.not r) SE.kept,?_⟩;have hP:=SE.iw;have Pw:=SE.DL;replace K:=(Kept.cg r.cg K lr).trans SE.kept;clear SE r hT;generalize (J.heap.size,w8.heap.size)::iv=ivd at*
  intro I8 w3 r3;have hs:=hP.ET r3 G (k:=1) bv (v:=.slice (some ⟨gf,0,none⟩) (q-1) cf) (ad:=Addr.add ⟨x.g,0,none⟩ 1) (by rw[dD,aV]);refine⟨hs.spot,hs.cells,hs.own,λw4 QD=>?_⟩;obtain⟨SC,QW,-⟩:=hs.next w4 QD
  have hT:=SC.toO rfl rfl;replace K:=Kept.gY (Kept.cg r3.cg K lr) QW λg V N=>Pw g N;clear hs SC QW QD r3 hP;exact R8 _ _ _ _ _ ⟨_,_,_,_,_,_,_,_,_,_,_,rfl,rfl,rfl,K,hT.cast Tb.DO.symm,Pw⟩
 clear hT K;rintro l H nx ivd w1 ⟨a44,a43,a42,a41,a40,a39,a38,a37,a36,a35,a34,rfl,rfl,rfl,K,hT,S9⟩;refine⟨_,λO J r=>hT.f2 G (show Tx.va {x with vf:=.slice (some ⟨gf,0,none⟩) (q-1) cf}=_ from hA.a) r,Nat×Tx×World×Iv,λz=>⟨[(0,.o (.v (.pointer (some ⟨x.g,0,none⟩)))),(6,.o (.v (iV (k:Int)))),(49,.o (.v (iV (m:Int)))),(50,.o (.v (iV (z.1:Int))))],[],0,z.2.2.2,z.2.2.1⟩,λz=>m-z.1,λz=>z.1<=m/\Kept w z.2.2.1 (Bv x.cz)/\dI z.2.2.1 S w.heap.size z.2.2.2 z.2.1 (t1.oR k z.1)/\z.2.1.g=x.g/\z.2.1.va= .slice (some ⟨ga,0,none⟩) m ca/\z.2.1.vc= .slice (some ⟨gc,0,none⟩) q cc/\(∀j,z.1<=j->z.2.1.rv[j]? =x.rv[j]?)/\∀g,Bv z.2.1.cz g->Bv x.cz g,?_,?_⟩
 .intro O J r;exact⟨(0,_,J,_),⟨aZ _,Kept.cg r.cg K lr,hT.rel r G,rfl,hA.a,hA.c,λj _=>rfl,S9⟩,sbgn [] r⟩
 clear hT K S9;rintro⟨i,y,w1,iv⟩ ⟨R,K,hT,R0,RW,Vo,XF,S9⟩;dsimp only at R K hT R0 RW Vo XF S9 ⊢;apply bS<;>intro Pk
 .have Pk:=dL Pk;obtain⟨gi,ci,TD⟩:=XG i Pk;have R5:=(XF i (ae i)).trans TD;have Wh:i<(t1.oR k i).a.length:=by rw[Tb.GP];omega
  have Xo:((t1.oR k i).a.getD i []).length=q:=by rw[Tb.EU be];exact hW1.row Pk
  obtain⟨y2,RH⟩:∃y2:Tx,y2={y with rv:=y.rv.set i (.slice (some ⟨gi,0,none⟩) (q-1) ci)}:=⟨_,rfl⟩
  refine uf (λl0 l H nx iv w1=>∃b69 b68 b64 b63 b61 b56 b67 b66 b65 b62 b60 b59 b58 b57 b55 b54 b53:SV,l=(69,b69)::(68,b68)::(64,b64)::(63,b63)::(61,b61)::(56,b56)::(67,b67)::(66,b66)::(65,b65)::(62,b62)::(60,b60)::(59,b59)::(58,b58)::(57,b57)::(55,b55)::(54,b54)::(53,b53)::l0/\H=[]/\nx=0/\Kept w w1 (Bv x.cz)/\dI w1 S w.heap.size iv y2 (t1.oR k (i+1))/\∀g,Bv y2.cz g->Bv x.cz g) ?_ ?_
  .intro K0 R8;refine fA hτ uR (.x 0 (.x 1 (.x 2 (.x 4 (.x 5 (.x 6 (.x 7 (.x 9 (.x 12 (.x 13 (.x 14 (.ld 3 196608 (.ld 8 232448 (.x 10 (.ld 11 229376 (.x 15 (.x 16 (.x 17 .nil)))))))))))))))))) d9 d9 ?_;refine⟨((k+1:Nat):Int),wo,.slice (some ⟨ga,0,none⟩) m ca,λO J r=>by have h:=hT.f2 G RW r;rw[R0]at h;exact h,.slice (some ⟨ga,0,none⟩) m ca,λO J r=>by have h:=hT.f2 G RW r;rw[R0]at h;exact h,_,rfl,be,_,λO J r=>hT.cA G R5 RW r,?_⟩;refine⟨λO J r=>?_⟩;refine(hT.M7 r G (k:=k) Wh R5 Xo Yb be).mono λe w8 L=>?_;obtain⟨rfl,SE⟩:=L;refine⟨_,_,(J.heap.size,w8.heap.size)::iv,rfl,r.fz (hT.not r) SE.kept,?_⟩;have hP:=SE.iw;rw[<-RH]at hP;have Pw:=SE.DL;rw[<-RH]at Pw;replace K:=Kept.gY (Kept.cg r.cg K lr) SE.kept λg V N=>S9 g N;clear SE r;generalize (J.heap.size,w8.heap.size)::iv=iv2 at*
   have Qv:y2.g=x.g:=by rw[RH];exact R0
   have RL:y2.va= .slice (some ⟨ga,0,none⟩) m ca:=by rw[RH];exact RW
   refine⟨.slice (some ⟨ga,0,none⟩) m ca,λO J r=>by have h:=hP.Nx G (k:=2) (show y.hd[2]? =some (.slice (some ⟨ga,0,none⟩) m ca)from congrArg some RW) r;rw[Qv]at h;exact h,rfl,_,rfl,be,?_⟩;intro I8 w3 r3;have hs:=hP.M5 r3 G (i:=i) (v:=.slice (some ⟨gi,0,none⟩) (q-1) ci) (eQ R5) RL (ad:=Addr.add ⟨ga,0,none⟩ (((i:Nat):Int).toNat*1)) (by rw[aI,dD,aV]);refine⟨hs.spot,hs.cells,hs.own,λw4 QD=>?_⟩;obtain⟨SC,QW,-⟩:=hs.next w4 QD
   have XZ:=(SC.toO (by rw[RH];rfl) (by rw[RH])).cast (Tb.DP be);replace K:=Kept.gY (Kept.cg r3.cg K lr) QW λg V N=>S9 g (Pw g N);have Q5:∀g,Bv y2.cz g->Bv x.cz g:=λg N=>S9 g (Pw g N);clear hs SC QW QD r3 hP;exact R8 _ _ _ _ _ ⟨_,_,_,_,_,_,_,_,_,_,_,_,_,_,_,_,_,rfl,rfl,rfl,K,XZ,Q5⟩
  clear hT K;rintro l H nx iv2 F ⟨b69,b68,b64,b63,b61,b56,b67,b66,b65,b62,b60,b59,b58,b57,b55,b54,b53,rfl,rfl,rfl,K,hT,Q5⟩;refine inc i ?_;intro I8 w3 r3;exact⟨(i+1,y2,w3,_),⟨Pk,Kept.cg r3.cg K lr,hT.rel r3 G,by rw[RH];exact R0,by rw[RH];exact RW,by rw[RH];exact Vo,λj hj=>by rw[RH];exact(aX be).trans (XF j be),Q5⟩,sbgn [] r3,dec Pk⟩
 have Pk:=dE R Pk;have hD:{t1.oR k i with c:=t1.c.eraseIdx k}=t1.del k:=by rw[Pk,<-hal1];exact Tb.GQ
 refine sW (λl0 l H nx iv w1=>∃(b81 b80 b79 b78 b77 b76 b75 b74 b73 b72 b71:SV) (y2:Tx),l=(81,b81)::(80,b80)::(79,b79)::(78,b78)::(77,b77)::(76,b76)::(75,b75)::(74,b74)::(73,b73)::(72,b72)::(71,b71)::l0/\H=[]/\nx=0/\y2.g=x.g/\Kept w w1 (Bv x.cz)/\dI w1 S w.heap.size iv y2 (t1.del k)/\∀g,Bv y2.cz g->Bv x.cz g) ?_ ?_
 .intro K0 R8;refine⟨_,λO J r=>by have h:=hT.f4 G Vo r;rw[R0]at h;exact h,((k+1:Nat):Int),wo,?_⟩;refine⟨λO J r=>?_⟩;refine(hT.M8 r G (k:=k) Vo hcl1 Yb be).mono λe w8 L=>?_;obtain⟨rfl,SE⟩:=L;refine⟨_,_,(J.heap.size,w8.heap.size)::iv,rfl,r.fz (hT.not r) SE.kept,?_⟩;have hP:=SE.iw;have Pw:=SE.DL;replace K:=Kept.gY (Kept.cg r.cg K lr) SE.kept λg V N=>S9 g N;clear SE r hT;generalize (J.heap.size,w8.heap.size)::iv=iv2 at*
  intro I8 w3 r3;have hs:=hP.ET r3 G (k:=4) bv (v:=.slice (some ⟨gc,0,none⟩) (q-1) cc) (ad:=Addr.add ⟨x.g,0,none⟩ 4) (by rw[dD,aV];exact congrArg (λg=>(⟨g,4,none⟩:Addr)) R0.symm);refine⟨hs.spot,hs.cells,hs.own,λw4 QD=>?_⟩;obtain⟨SC,QW,-⟩:=hs.next w4 QD
  have hT:=SC.toO rfl rfl;replace K:=Kept.gY (Kept.cg r3.cg K lr) QW λg V N=>S9 g (Pw g N);clear hs SC QW QD r3 hP;exact R8 _ _ _ _ _ ⟨_,_,_,_,_,_,_,_,_,_,_,{y with vc:=.slice (some ⟨gc,0,none⟩) (q-1) cc},rfl,rfl,rfl,R0,K,hT.cast hD,λg N=>S9 g (Pw g N)⟩
 clear hT K;rintro l H nx iv2 F ⟨b81,b80,b79,b78,b77,b76,b75,b74,b73,b72,b71,y2,rfl,rfl,rfl,Qv,K,hT,Q5⟩;intro O J r;exact⟨rfl,y2,Qv,Kept.cg r.cg K lr,hT.Pj Qq (λg N=>.inl (Q5 g N)) r G,λg N=>.inl (Q5 g N)⟩
def GR(R:i<n)(h:p i=true)(hu:∀j,j<n->p j=true->j=i):lj p n=some i:=
 xW R h λj hj=>by
  cases e:p j with
  |false=>rfl
  |true=>have:=hu j be e;omega
def OC(h:∃i,i<n/\p i=true):∃i,lj p n=some i/\i<n/\p i=true:=by
 unfold lj
 cases e:(List.range n).find? p with
 |none=>
  obtain⟨i,R,hp⟩:=h;rw[List.find?_eq_none]at e;exact absurd hp (e i (List.mem_range.2 R))
 |some i=>exact⟨i,rfl,List.mem_range.1 (List.mem_of_find?_eq_some e),List.find?_some e⟩
section
variable{t:Tb}{D:Dc}{m n B:Nat}{Fn:Nat->Nat->Rat}{b:Nat->Rat}{E9:Mx}
def K3(h:fe D m n Fn b)(hf:D.uO)(hr:Rp t D)(ht:¬D.top<0)(hz:D.Sz B E9):∃t1 D1 k,
  ((lj (λi=>decide (t.bs.getD i 0=n+m)) t.bs.length=none/\t1=t)\/∃r s,lj (λi=>decide (t.bs.getD i 0=n+m)) t.bs.length=some r/\r<m/\lj (λj=>decide ((t.a.getD r []).getD j 0≠0)) (t.a.getD r []).length=some s/\s<n+1/\dR t.a r s≠0/\t1=t.gP r s)/\
  Rp t1 D1/\fe D1 m n Fn b/\D1.uO/\D1.Sz B E9/\lj (λi=>decide (t1.fs.getD i 0=n+m)) t1.fs.length=some k/\k<n+1/\D1.eR k=n+m:=by
 have hm:=h.em;have hq:=h.eq;have key:∀{t1:Tb} {D1:Dc} {k:Nat},Rp t1 D1->fe D1 m n Fn b->k<D1.q->D1.eR k=n+m->lj (λi=>decide (t1.fs.getD i 0=n+m)) t1.fs.length=some k/\k<n+1:=λ{t1 D1 k} RF Y K hv=>by
  refine⟨GR (by rw[RF.Nd];exact K) (by rw[RF.eR k K];exact bY hv) λj hj e=>?_,by rw[<-Y.eq];exact K⟩;rw[RF.Nd]at hj;have e:=aK e;rw[RF.eR j hj]at e;exact Y.ok.fi j k hj K (e.trans hv.symm)
 rcases h.aA9 hf ht with⟨r,RF,hv,N⟩|⟨k,K,hv⟩
 .have hrb:t.bs.getD r 0=n+m:=by rw[hr.eu r RF];exact hv
  have Y:lj (λi=>decide (t.bs.getD i 0=n+m)) t.bs.length=some r:=GR (by rw[hr.KC];exact RF) (bY hrb) λj hj e=>by
   rw[hr.KC]at hj;have e:=aK e;rw[hr.eu j hj]at e;exact h.ok.bi j r hj RF (e.trans hv.symm)
  have Pm:=hr.Lr RF
  obtain⟨s,Wx,TC,hs3⟩:=OC (p:=λj=>decide ((t.a.getD r []).getD j 0≠0)) (n:=(t.a.getD r []).length) (by
   obtain⟨j,hj,Po⟩:=h.Ln RF hv N;refine⟨j,by rw[Pm];exact hj,bY ?_⟩;rw[show (t.a.getD r []).getD j 0=D.a r j from hr.ea r j RF hj]
   exact Po)
  rw[Pm]at TC;have Po:(t.a.getD r []).getD s 0≠0:=aK hs3;have Uf:D.a r s≠0:=by rw[<-hr.ea r s RF TC];exact Po
  obtain⟨k1,k2,k3⟩:=h.out hf RF hv N TC Uf;obtain⟨k4,k5⟩:=key (hr.gP RF TC) k1 TC k3;exact⟨t.gP r s,D.gP r s,s,.inr ⟨r,s,Y,be,Wx,be,Po,rfl⟩,hr.gP RF TC,k1,k2,hz.gP h.ok RF TC Uf,k4,k5,k3⟩
 .obtain⟨k4,k5⟩:=key hr h K hv;refine⟨t,D,k,.inl ⟨xX λi R=>bD λe=>?_,rfl⟩,hr,h,hf,hz,k4,k5,hv⟩;rw[hr.KC]at R;rw[hr.eu i R]at e;exact h.ok.bf i k R K (e.trans hv.symm)
end
end Go.Ex
namespace Go.Sx
open Go Go.Ex Go.Proofs
variable{O:Nat->Sx.eD}
def Rel.less{H:Hp}{nx:Nat}{iv A:Iv}{B:Nat}{w J:World}(r:Rel H nx A B w O J)(hm:∀p,p∈iv->p∈A):Rel H nx iv B w O J:=
 {r with oB:=(λlo R h=>r.oB lo R (hm _ h)),jJ:=(λlo R h=>r.jJ lo R (hm _ h))}
end Go.Sx
namespace Go.Ex
open Go Go.Sx Go.Proofs
section
variable{q:List Rat}{Do S:Nat->Prop}{v:Value}{w:World}
def ju.aBW{S':Nat->Prop}{E8:List Ow}{it it':Ow}{k:Nat}(h:ju w S E8)(K:E8[k]? =some it)(ho:w.ownsRow 0 it'.e it'.sz it'.v it'.n it'.xs)
  (N:∀g,it'.v.ownBlock=some g->¬Bv (E8.map Ow.v) g) (off:∀g,Bv ((E8.set k it').map Ow.v) g->¬S' g):ju w S' (E8.set k it'):=by
 refine⟨λit2 Qo=>?_,λi j a b g R hj ha QZ=>?_,off⟩
 .obtain⟨i,R⟩:=aj Qo;rw[List.getElem?_set]at R;split at R
  .split at R
   .injection R with R;subst R;exact ho
   .cases R
  .exact h.own it2 (aG R)
 .have key:∀(i:Nat) (a:Ow),(E8.set k it')[i]? =some a->(i=k/\a=it')\/(i≠k/\E8[i]? =some a):=λi a R=>by
   rw[List.getElem?_set]at R;split at R
   .rename_i e;split at R
    .injection R with R;exact .inl ⟨e.symm,R.symm⟩
    .cases R
   .rename_i e;exact .inr ⟨Ne.symm e,R⟩
  have low:∀(i:Nat) (a:Ow) (g:Nat),E8[i]? =some a->a.v.ownBlock=some g->Bv (E8.map Ow.v) g:=λi a g R V=>ju.bk (aG R) V;rcases key i a R with⟨rfl,rfl⟩|⟨Y,I⟩<;>rcases key j b hj with⟨rfl,rfl⟩|⟨h3,h4⟩
  .rfl
  .exact absurd (low j b g h4 QZ) (N g ha)
  .exact absurd (low i a g I ha) (N g QZ)
  .exact h.apart i j a b g I h4 ha QZ
section
variable{w F:World}{S S':Nat->Prop}{hd rvx:List Value}{x:Tx}{t:Tb}
def oQ.aAs(h:oQ w S hd rvx x t)(ho:gX w S' v q.length q)(N:∀g,v.ownBlock=some g->¬Bv x.cz g)
  (hs:∀g,S g->S' g) (E:∀g,Bv (Tx.cz {x with vc:=v}) g->¬S' g):oQ w S' hd rvx {x with vc:=v} {t with c:=q}:=by
 obtain⟨tp,cb,cc,ca,h⟩:=h;obtain⟨U,UR,RD,WA⟩:=ho;have I:ju w FF (nR hd rvx {x with vc:=v} {t with c:=q} tp cb U ca):=h.ows.aBW (k:=5) (it':=gC v U) rfl (by show w.ownsRow 0 T.dN 4 v U.length _;rw[RD];exact UR) (λg V=>by rw[h.cz];exact N g V) λ_ _ h=>h;refine⟨tp,cb,U,ca,I.HB λg V=>E g ?_,h.ft.cU hs,h.fb.cU hs,WA,h.fl,λi U q Y I=>(h.fa i U q Y I).cU hs,h.rl,h.rx,h.h5⟩;have e:(nR hd rvx {x with vc:=v} {t with c:=q} tp cb U ca).map Ow.v=Tx.cz {x with vc:=v}:=by
  show _::_::_::_::_::_::(List.zipWith gC x.rv ca).map Ow.v=_;rw[jU (by rw[h.rl,h.fl])];rfl
 rw[<-e];exact V
end
def dI.aAt{iv A:Iv}{B Fd:Nat}{x:Tx}{t:Tb}(hT:dI w S B iv x t)(hN:∀g,Lv S B iv x g\/Bv x.cz g->g<Fd)(hX:gX w Do v q.length q)(hv:∀g,v.ownBlock=some g->Fd<=g/\Cv FF B A g)(hL:∀g,Do g->Fd<=g/\v.ownBlock≠some g/\Cv FF B A g)(hm:∀p,p∈iv->p∈A):
  tU w S B A x.hd x.rv {x with vc:=v} {t with c:=q}/\(∀g,Lv S B iv x g->Lv S B A {x with vc:=v} g)/\∀g,Bv (Tx.cz {x with vc:=v}) g->Bv x.cz g\/Fd<=g:=by
 have Z:∀g,Bv (Tx.cz {x with vc:=v}) g->v.ownBlock=some g\/Bv x.cz g:=λg h=>by
  rw[Bv.cz]at h ⊢;simp only at h;rcases h with h|h|h|h|h|h|h<;>simp[h]
 have hLL:∀g,Lv S B iv x g->Lv S B A {x with vc:=v} g:=λg V=>⟨V.1.mono hm,λN=>by
  rcases Z g N with h|h
  .have:=(hv g h).1;have:=hN g (.inl V);omega
  .exact V.2 h⟩
 have hR:gX w (Lv S B A {x with vc:=v}) v q.length q:=hX.cU λg V=>by
  obtain⟨Y,I,h3⟩:=hL g V;refine⟨qL h3,λN=>?_⟩;rcases Z g N with h|h
  .exact I h
  .have:=hN g (.inr h);omega
 refine⟨⟨hT.iw.toJ.aAs hR (λg V N=>by have:=(hv g V).1;have:=hN g (.inr N);omega) hLL λg N hl=>hl.2 N,λg V=>?_⟩,hLL,λg V=>(Z g V).elim (λh=>.inr (hv g h).1) .inl⟩;rcases Z g V with h|h
 .exact qL (hv g h).2
 .exact(hT.lH g h).mono hm
structure Way(w w0 w1:World)(x x0 y:Tx):Prop where
 k:Kept w w1 (Bv x.cz)
 a:∀g,Bv y.cz g->Bv x.cz g\/w.heap.size<=g
 k0:Kept w0 w1 (Bv x0.cz)
 a0:∀g,Bv y.cz g->Bv x0.cz g\/w0.heap.size<=g
section
variable{w w0 w1 F:World}{x x0 y y2:Tx}
end
end
variable{U:List (List Value)}{zs:List Rat}{i:Nat}{X:Nat->Prop}{k2 k6:Option Addr}{q:Rat}{x:Tx}
section
variable{S F8:Nat->Prop}{H:Hp}{nx:Nat}{iv iv2:Iv}{B:Nat}{w J F:World}{O:Nat->Sx.eD}{y y2:Tx}{v:Value}{c:List Rat}
def dx.pD(h:dx w (Lv F8 B iv y) (Lv F8 B iv y) v c)(r:Rel H nx iv B w O J)(hU:∀g,F8 g->g<B)(K:Kept J F (Bv y.cz))(DL:∀g,Bv y2.cz g->Bv y.cz g\/J.heap.size<=g)(hm:∀p,p∈iv->p∈iv2):dx F (Lv F8 B iv2 y2) (Lv F8 B iv2 y2) v c:=by
 have hold:∀g,Lv F8 B iv y g->g<J.heap.size:=λg V=>rlo r hU g V.1;have Pp:∀g,Lv F8 B iv y g->F.heap[g]? =w.heap[g]? :=λg V=>(K.block g (hold g V) V.2).trans (rls r hU V.1);have hL:∀g,Lv F8 B iv y g->Lv F8 B iv2 y2 g:=λg V=>⟨V.1.mono hm,λN=>(DL g N).elim V.2 λh=>by have:=hold g V;omega⟩
 exact(h.cW λg V=>Pp g (V.elim id id)).cU hL hL
def dI.aBX{S F8:Nat->Prop}{iv A:Iv}{B Fd:Nat}{w:World}{t:Tb}{v:Value}(hT:dI w S B iv x t)(Xp:∀g,S g->F8 g)(hUx:∀g,Bv x.cz g->F8 g)(hN:∀g,Lv S B iv x g\/Bv x.cz g->g<Fd)(hv:∀g,v.ownBlock=some g->Fd<=g)(hm:∀p,p∈iv->p∈A):
  dx w (Lv F8 B A {x with vc:=v}) (Lv F8 B A {x with vc:=v}) x.vc t.c:=by
 obtain⟨tp,cb,cc,ca,hC⟩:=hT.iw;have UW:(gz x t tp cb cc ca)[5]? =some (gC x.vc cc):=rfl;have Z:∀g,Bv (Tx.cz {x with vc:=v}) g->v.ownBlock=some g\/x.g=g\/x.vb.ownBlock=some g\/x.vf.ownBlock=some g\/x.va.ownBlock=some g\/x.vB.ownBlock=some g\/Bv x.rv g:=λg h=>by
  rw[Bv.cz]at h;simp only at h;rcases h with h|h|h|h|h|h|h<;>simp[h]
 have Sh:∀g (k:Nat) it,k≠5->(gz x t tp cb cc ca)[k]? =some it->x.vc.ownBlock=some g->it.v.ownBlock=some g->False:=λg k it K R Y I=>K (hC.ows.apart k 5 it _ g R UW I Y);refine(fh.JK hC (aG UW) hC.fc).cU (λg V=>?_) λg V=>?_
 .have Us:Bv x.cz g:=Bv.cz.2 (.inr (.inr (.inr (.inr (.inr (.inl V))))));refine⟨.inl (hUx g Us),λN=>?_⟩;have QU:=hN g (.inr Us);rcases Z g N with h|h|h|h|h|h|⟨u,hu,h⟩
  .have:=hv g h;omega
  .exact Sh g 0 _ be rfl V (by rw[<-h];rfl)
  .exact Sh g 1 _ be rfl V h
  .exact Sh g 2 _ be rfl V h
  .exact Sh g 3 _ be rfl V h
  .exact Sh g 4 _ be rfl V h
  .obtain⟨i,R⟩:=aj hu;have Wh:=eQ R;have hci:ca[i]? =some (ca[i]'(by rw[hC.fl,<-hC.rl];exact Wh)):=aE _;exact Sh g (i+6) _ be (hC.rowAt R hci) V h
 .have QU:=hN g (.inl V);refine⟨(show Cv F8 B iv g from V.1.elim (λh=>.inl (Xp g h)) .inr).mono hm,λN=>?_⟩;rcases Z g N with h|h
  .have:=hv g h;omega
  .refine V.2 (Bv.cz.2 ?_);rcases h with h|h|h|h|h|h<;>simp[h]
def GS(L:Ext J F):Kept J F X:=⟨L.os,L.tape,L.output,L.size,λk K _=>L.block k K⟩
def dI.aBY{S F8:Nat->Prop}{iv iv2:Iv}{B Fd e1 s2 e2 n:Nat}{wd J F:World}{t:Tb}{v1 v':Value}{k1 k5:Bool}{k3 k4 k7 k8:Nat}
  (hT:dI wd S B iv x t) (r:Rel H nx iv2 B wd O J) (G:∀g,S g->g<B) (Xp:∀g,S g->F8 g) (hUx:∀g,Bv x.cz g->F8 g) (hN:∀g,Lv S B iv x g\/Bv x.cz g->g<Fd) (hBN:B<=Fd) (hNw:Fd<=wd.heap.size)
  (hF:Fr wd (λg=>Fd<=g/\g<e1/\v1.ownBlock≠some g) U zs) (hl:U.length=n) (TQ:∀g,v1.ownBlock=some g->Fd<=g/\g<e1) (hO:cw wd (λg=>s2<=g/\g<e2) (.agg #[.bool k1,.slice k2 k3 k4,.bool k5,.slice k6 k7 k8]) q) (h12:Fd<=s2) (L:e1<=s2)
  (q1:(Fd,e1)∈iv2) (q2:(s2,e2)∈iv2) (q3:∀p,p∈iv->p∈iv2)
  (h5:F.ownsRow 0 T.dN 4 v' (n+1) (U.flatten++(rC k1 k2 k3 k4 k5 k6 k7 k8))) (h6:J.grownBy F v1.ownBlock) (h7:v'.ownBlock=v1.ownBlock\/v'.ownBlock=some J.heap.size):
  tU F S B (e9 v'++iv2) x.hd x.rv {x with vc:=v'} {t with c:=zs++[q]}/\Bel Fd J F/\(∀g,Bv (Tx.cz {x with vc:=v'}) g->Bv x.cz g\/Fd<=g)/\dx F (Lv F8 B (e9 v'++iv2) {x with vc:=v'}) (Lv F8 B (e9 v'++iv2) {x with vc:=v'}) x.vc t.c:=by
 have m1:∀p,p∈iv2->p∈e9 v'++iv2:=λp hp=>List.mem_append_right _ hp;have z1:=(r.oB _ _ q1)
 have z2:=(r.oB _ _ q2)
 have QG:=r.size;have N:=r.cY;have r1:=r.less q3;have Pq:∀g,Lv S B iv x g\/Bv x.cz g->F.heap[g]? =J.heap[g]? :=λg V=>by
  have:=hN g V;refine h6.block g be λe=>?_;have:=(TQ g e.symm).1;omega
 have XZ:dI F S B iv x t:=(hT.rel r1 G).cW Pq;have S5:∀g,v'.ownBlock=some g->Fd<=g/\Cv FF B (e9 v'++iv2) g:=λg V=>by
  have Y:Fd<=g:=by
   rcases h7 with h7|h7
   .rw[h7]at V;exact(TQ g V).1
   .rw[h7]at V;injection V with V;omega
  exact⟨Y,.inr ⟨be,g,g+1,List.mem_append_left _ (kG.2 ⟨V,rfl⟩),lr,cF _⟩⟩
 have ZW:∀g,v'.ownBlock=some g->v1.ownBlock=some g\/J.heap.size<=g:=λg V=>by
  rcases h7 with h7|h7
  .exact .inl (h7▸V)
  .rw[h7]at V;injection V with V;exact .inr be
 have XH:Fr F (λg=>Fd<=g/\v'.ownBlock≠some g/\Cv FF B (e9 v'++iv2) g) U zs:=by
  refine(hF.cW (F:=F) λg V=>?_).cU λg V=>?_
  .exact(h6.block g be λe=>V.2.2 e.symm).trans (rls r (iS _) (.inr ⟨be,_,_,q1,V.1,V.2.1⟩))
  .exact⟨V.1,λe=>(ZW g e).elim V.2.2 λh=>be,.inr ⟨be,_,_,m1 _ q1,V.1,V.2.1⟩⟩
 have Sy:cw F (λg=>Fd<=g/\v'.ownBlock≠some g/\Cv FF B (e9 v'++iv2) g) (.agg #[.bool k1,.slice k2 k3 k4,.bool k5,.slice k6 k7 k8]) q:=by
  refine(hO.cW (F:=F) λg V=>?_).cU λg V=>?_
  .exact(h6.block g be λe=>by have:=(TQ g e.symm).2;omega).trans (rls r (iS _) (.inr ⟨be,_,_,q2,V.1,V.2⟩))
  .exact⟨be,λe=>(ZW g e).elim (λh=>by have:=(TQ g h).2;omega) λh=>be,.inr ⟨be,_,_,m1 _ q2,V.1,V.2⟩⟩
 have Sj:(zs++[q]).length=n+1:=by rw[aU,<-hF.1,hl];rfl
 have hX:gX F (λg=>Fd<=g/\v'.ownBlock≠some g/\Cv FF B (e9 v'++iv2) g) v' (zs++[q]).length (zs++[q]):=by
  rw[Sj];refine⟨U++[rC k1 k2 k3 k4 k5 k6 k7 k8],?_,by rw[aU,hl];rfl,XH.push Sy.four⟩;rw[List.flatten_append];exact h5
 obtain⟨k1,-,k3⟩:=XZ.aAt hN hX S5 (λg V=>V) λp hp=>m1 p (q3 p hp);refine⟨k1,⟨h6.os,h6.tape,h6.output,h6.size,λg V=>h6.block g be λe=>by have:=(TQ g e.symm).1;omega⟩,k3,XZ.aBX Xp hUx hN (λg V=>(S5 g V).1) λp hp=>m1 p (q3 p hp)⟩
def dI.aAu{t:Tb}(hT:dI w S B iv y t)(G:∀g,S g->g<B)(R:i<t.a.length):∃v U,y.rv[i]? =some v/\U.length=(t.a.getD i []).length/\Fr w (Lv S B iv y) U (t.a.getD i [])/\(∀g,v.ownBlock=some g->Bv y.cz g)/\
  ∀{H:Hp} {nx:Nat} {O:Nat->Sx.eD} {J:World},Rel H nx iv B w O J->J.ownsRow 0 T.dN 4 v U.length U.flatten/\∀g,v.ownBlock=some g->∀id b,dT H id=some b->(O id).nil=false->(O id).g≠g:=by
 obtain⟨tp,cb,cc,ca,hC⟩:=hT.iw;obtain⟨v,U,Y,I,h3,h4⟩:=hC.row R;have hm:=aG (hC.rowAt Y I);have N:∀g,v.ownBlock=some g->Bv y.cz g:=λg V=>by rw[<-hC.cz];exact ju.bk hm V
 exact⟨v,U,Y,h3.1,h3,N,λ{H nx O J} r=>⟨(hC.cW (hT.same r G)).ows.own (gC v U) hm,λg V=>hT.not r g (N g V)⟩⟩
def dI.aAB{t:Tb}{v0 v':Value}{k1 k5:Bool}{k3 k4 k7 k8:Nat}(hT:dI w S B iv y t)(r:Rel H nx iv B w O J)(G:∀g,S g->g<B)(hv:y.rv[i]? =some v0)
  (hF:Fr w (Lv S B iv y) U (t.a.getD i [])) (N:∀g,v0.ownBlock=some g->Bv y.cz g) (hO:cw w (Lv S B iv y) (.agg #[.bool k1,.slice k2 k3 k4,.bool k5,.slice k6 k7 k8]) q)
  (h5:F.ownsRow 0 T.dN 4 v' (U.length+1) (U.flatten++(rC k1 k2 k3 k4 k5 k6 k7 k8))) (h6:J.grownBy F v0.ownBlock) (h7:v'.ownBlock=v0.ownBlock\/v'.ownBlock=some J.heap.size):
  M4 w J F S B iv v' y.hd y.rv y {y with rv:=y.rv.set i v'} {t with a:=t.a.set i (t.a.getD i []++[q])}:=by
 have K:∀g,Lv S B iv y g->F.heap[g]? =w.heap[g]? :=λg V=>(h6.block g (Lv.old r G g V) λe=>V.2 (N g e.symm)).trans (Lv.same r G g V);refine hT.aAn r G hv (λS' hS'=>⟨U++[rC k1 k2 k3 k4 k5 k6 k7 k8],?_,?_,((hF.push hO.four).cW K).cU hS'⟩) h6 h7
 .rw[List.flatten_append,aU,<-hF.1];exact h5
 .rw[aU,aU,<-hF.1];rfl
def dI.aAv{t t':Tb}(h:dI w S B iv y t)(r:Rel H nx iv B w O J)(I:fL F (λg=>Nw (Lv S B iv y) J F g/\¬Bv y2.cz g) y2 t')(DL:∀g,Bv y2.cz g->Bv y.cz g\/J.heap.size<=g):dI F S B ((J.heap.size,F.heap.size)::iv) y2 t':=by
 have hm:∀p,p∈iv->p∈(J.heap.size,F.heap.size)::iv:=λp hp=>aD _ hp;refine⟨I.cU (λg V=>⟨?_,V.2⟩) λg N V=>V.2 N,λg V=>?_⟩
 .rcases V.1 with Y|Y
  .exact Y.1.mono hm
  .exact .inr ⟨by have:=r.cY;omega,_,_,aF,Y.1,Y.2⟩
 .rcases DL g V with Y|Y
  .exact(h.lH g Y).mono hm
  .exact .inr ⟨by have:=r.cY;omega,_,_,aF,Y,I.low V⟩
def dI.OD{w0:World}{t:Tb}(h:dI w S w0.heap.size iv y t)(r:Rel H nx iv w0.heap.size w O J)(G:Old S w0):fL J (λg=>Nw S w0 J g/\¬Bv y.cz g) y t:=
 (h.rel r G).iw.cU (λ_ V=>⟨V.nw r,V.2⟩) λg N E=>E.2 N
def dI.more{t:Tb}(h:dI w S B iv y t)(Xp:∀g,S g->F8 g):dI w F8 B iv y t:=
 ⟨h.iw.cU (λg V=>⟨V.1.elim (λh=>.inl (Xp g h)) .inr,V.2⟩) λg N V=>V.2 N,h.lH⟩
end
def Tb.wQ(t:Tb)(i:Nat):Tb:={t with a:=t.a.mapIdx λj r=>if j<i then r++[-1]else r}
def Tb.K4{t:Tb}:t.wQ 0=t:=by
 refine Tb.ext rfl rfl ?_ rfl rfl rfl;show List.mapIdx _ _=_;apply av;intro j;rw[List.getElem?_mapIdx]
 cases t.a[j]? with
 |none=>rfl
 |some r=>rw[bN,aJ (Nat.not_lt_zero j)]
def Tb.JQ{t:Tb}(R:i<t.a.length):(t.wQ i).a.getD i []=t.a.getD i []:=by
 unfold Tb.wQ;rw[gp [] [] R,aJ (Nat.lt_irrefl i)]
def Tb.GU{t:Tb}:(t.wQ i).a.length=t.a.length:=List.length_mapIdx
def Tb.K5{t:Tb}(R:i<t.a.length):{t.wQ i with a:=(t.wQ i).a.set i ((t.wQ i).a.getD i []++[-1])}=t.wQ (i+1):=by
 rw[Tb.JQ R];refine Tb.ext rfl rfl ?_ rfl rfl rfl;show List.set (List.mapIdx _ _) _ _=List.mapIdx _ _;apply av;intro j;rw[List.getElem?_set,List.length_mapIdx,List.getElem?_mapIdx,List.getElem?_mapIdx];by_cases e:i=j
 .subst e;rw[aM rfl,aM R,aE R,bN,aM (cF i),List.getD,aE R];rfl
 .rw[aJ e];congr 1
  funext r
  by_cases h:j<i
  .rw[aM h,aM be]
  .rw[aJ h,aJ be]
def Tb.Ma{t:Tb}:t.wQ t.a.length={t with a:=t.a.map λr=>r++[-1]}:=by
 refine Tb.ext rfl rfl ?_ rfl rfl rfl;show List.mapIdx _ _=List.map _ _;apply av;intro j;rw[List.getElem?_mapIdx,aS]
 cases h:t.a[j]? with
 |none=>rfl
 |some r=>rw[bN,bN,aM (eQ h)]
def qZ{α:Type}{l:List α}{k:Nat}{q:α}(h:q∈l.eraseIdx k):q∈l:=(List.eraseIdx_sublist l k).subset h
def Tb.xD.del{t:Tb}{h:Nat}(H:t.xD h)(k:Nat):(t.del k).xD h:=
 ⟨λx Z q hq=>by
  obtain⟨y,hy,rfl⟩:=bA.1 Z
  exact H.a y hy q (qZ hq),H.b,λq hq=>H.c q (qZ hq),H.top⟩
def Tb.Wf.del{t:Tb}{m q k:Nat}(H:t.Wf m (q+1))(K:k<q+1):(t.del k).Wf m q:=
 ⟨H.bs,by show(List.eraseIdx _ _).length=_;rw[List.length_eraseIdx_of_lt (by rw[H.fs];exact K),H.fs];rfl,by show(List.map _ _).length=_;rw[aO];exact H.al,λx Z=>by
  obtain⟨y,hy,rfl⟩:=bA.1 Z
  rw[List.length_eraseIdx_of_lt (by rw[H.aw y hy];exact K),H.aw y hy];rfl,H.b,by show(List.eraseIdx _ _).length=_;rw[List.length_eraseIdx_of_lt (by rw[H.c];exact K),H.c];rfl⟩
section
variable{t:Tb}{h m q n s k:Nat}
def sX{l:List Rat}{off:Nat}{idx:Nat->Nat}{val:Nat->Rat}(hl:∀q∈l,rl q+1<=h)(hv:∀i,rl (val i)+1<=h):∀k,∀q∈fF l n off idx val k,rl q+1<=h
 |0=>hl
 |k+1=>λq hq=>by
  rw[fF]at hq;split at hq
  .rcases bL hq with Y|Y
   .exact sX hl hv k q Y
   .rw[Y];exact hv k
  .exact sX hl hv k q hq
def tC(I:2<=h):∀q∈dm n,rl q+1<=h:=λq hq=>by rw[bK hq];exact aR bv I
def Tb.xD.jf(H:t.xD h)(I:2<=h):∀q∈t.jf n,rl q+1<=h:=sX (tC I) (λi=>H.PR I i) _
def Tb.xD.jP(H:t.xD h)(I:2<=h):∀q∈t.jP n k,rl q+1<=h:=sX (tC I) (λi=>by rw[kT];exact H.cat I i) _
def Tb.xD.oc(H:t.xD h)(I:2<=h):∀q∈t.oc n s,rl q+1<=h:=sX (λq hq=>by
 split at hq
 .rcases bL hq with Y|Y
  .exact tC I q Y
  .rw[Y];exact aR bv I
 .exact tC I q hq) (λi=>by rw[kT];exact H.dR I i s) _
def K6:(t.jf n).length=n:=(ie _ _ _ _ _ _).trans aq
def Hk:(t.jP n k).length=k:=(ie _ _ _ _ _ _).trans aq
def K7:(t.oc n s).length=n:=(ie _ _ _ _ _ _).trans (by split<;>simp[dm])
end
end Go.Ex
