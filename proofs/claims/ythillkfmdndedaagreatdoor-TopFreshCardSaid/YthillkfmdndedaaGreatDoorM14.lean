/- tree -/
import Derived.Test.YthillkfmdndedaaGreatDoorM13
set_option maxRecDepth 100000
set_option maxHeartbeats 64000000
set_option linter.all false
namespace Go.Proofs.YthillkfmdndedaaGreatDoor
open Go.ChangeShapes Go.WideShapes Go.ChangeAt Go.RowKit
def newG(B b:Nat):Own:=if b=B then .items else if b=B+1 then .item 0 else if b=B+2 then .names 0 else .none
theorem new_mid{w C m:World}(M:jJ (λ _=>False) C 0 (w.heap.size+1) (w.heap.size+1+1) (dh 2))(z:Below (w.heap.size+1) (w.alloc (.map #[] 0)) C)(P:w.heap.size+1+1<C.heap.size)
  (O:MapAt aY m w.heap.size (dO aY.lt 0 (ptr (w.heap.size+1)) []))(F:C.mapTurned m w.heap.size):
  aK (λ b=>if b=m.heap.size then .head else newG w.heap.size b) (λ _=>False) (m.alloc (.cells #[.map (some w.heap.size)] 192)) m.heap.size w.heap.size (λ _=>w.heap.size+1) (λ _=>w.heap.size+2) mO/\Below w.heap.size w (m.alloc (.cells #[.map (some w.heap.size)] 192)):=by
 have G:=iw F;have A:=eX F;have y:∀b,b<m.heap.size->(m.alloc (.cells #[.map (some w.heap.size)] 192)).heap[b]? =m.heap[b]? :=λ b z=>Below.heap_alloc _ _ _ z;have u:∀k x,au k mO=some x->k=0/\x=dh 2:=λ k x h=>by
  unfold mO at h;rw[iG]at h;by_cases D:(0:Int)=k
  ·rw[if_pos D]at h;exact⟨D.symm,by cases h;rfl⟩
  ·rw[if_neg D]at h;cases h
 have E:Below w.heap.size w (w.alloc (.map #[] 0)):=wall w _;constructor
 ·refine⟨(MapKept.heap_alloc m _).1,?_,λ k x B=> ?_,by simp,?_,λ k x B=> ?_,λ k x B _=> ?_,λ _ h=>h.elim,λ b z=> ?_,λ _ h=>h.elim⟩
  ·have:=O.kept (y _ (by omega));exact this
  ·obtain⟨rfl,rfl⟩:=u k x B;refine M.move (by simp;omega) ?_ (λ _=> ?_) (λ _ h=>h.elim)
   ·rw[y _ (by omega),A.block _ (by omega) (by omega)]
   ·rw[y _ (by omega),A.block _ (by omega) (by omega)]
  ·rw[if_neg (by omega)];simp[newG]
  ·obtain⟨rfl,rfl⟩:=u k x B;rw[if_neg (by omega)];simp[newG]
  ·obtain⟨rfl,rfl⟩:=u k x B;rw[if_neg (by omega)];simp[newG]
  ·rw[Pe];by_cases K:b=m.heap.size
   ·omega
   ·rw[if_neg K]at z;unfold newG at z;by_cases I:b=w.heap.size
    ·omega
    ·by_cases N:b=w.heap.size+1
     ·omega
     ·by_cases H:b=w.heap.size+2
      ·omega
      ·simp[I,N,H]at z
 ·refine(E.trans (z.mono (by omega))).trans ⟨A.os,A.tape,A.output,by rw[Pe];omega,λ b J=> ?_⟩;have:=z.size;rw[Pe]at this;rw[y _ (by omega),A.block _ (by omega) (by omega)]
theorem new_any(w:World):Dy 97 #[] w λ e w'=>∃g N R nb p,e= .returned (ptr p)/\aK g (λ _=>False) w' p N R nb mO/\(∀b,g b≠ .none->w.heap.size<=b)/\Below w.heap.size w w':=by
 have P:= @ab3 Tryz.prog;have I:acr (∀u,Below (w.heap.size+1) (w.alloc (.map #[] 0)) u->∃D,(Instr.mapUpdate 190 (.map (some w.heap.size)) (.int .i64 0) (ptr (w.heap.size+1))).run Tryz.prog u= .ok () D/\MapAt aY D w.heap.size (dO aY.lt 0 (ptr (w.heap.size+1)) [])/\u.mapTurned D w.heap.size):=λ u E=>by
  have G:MapAt aY u w.heap.size []:=(MapAt.made (F:=aY) w).kept (E.block _ (by omega));exact G.rU aY Tryz.underlying190 (by show 0<maxLen;unfold maxLen;omega) 0 _ (gG (by omega) (by omega))
 go_enter Tryz.func97,Tryz.ntmps97;go_wp2_with fail;refine(Bh _ _ _).mono ?_;rintro e u ⟨rfl,y,m,H,z⟩;rw[Pe]at y m H z;obtain⟨D,Wm,B,M⟩:=I.o u m;have K:=acp y;have A:=acp m;have Q:=acp B;have C:=acp M;have J:=z rfl;clear y m B M z;go_wp2_with fail;go_ret;obtain⟨U,S⟩:=new_mid K.o A.o J Q.o C.o;refine⟨_,_,_,_,_,rfl,U,λ b E=> ?_,S⟩;have Y:=A.o.size;rw[Pe]at Y;have Z:=iw C.o;by_cases V:b=D.heap.size
 ·omega
 ·rw[if_neg V]at E;unfold newG at E;by_cases X:b=w.heap.size
  ·omega
  ·by_cases O:b=w.heap.size+1
   ·omega
   ·by_cases W:b=w.heap.size+2
    ·omega
    ·simp[X,O,W]at E
theorem newM_ok:fA mO:=by
 have m:∀k x,au k mO=some x->k=0/\x=dh 2:=λ k x h=>by
  unfold mO at h;rw[iG]at h;by_cases y:(0:Int)=k
  ·rw[if_pos y]at h;exact⟨y.symm,by cases h;rfl⟩
  ·rw[if_neg y]at h;cases h
 refine⟨⟨by simp[mO,bA],rfl,λ k x u=> ?_,λ k x u e z=> ?_,by simp[mO],λ k x u=> ?_⟩,λ k x u y=> ?_⟩
 ·obtain⟨rfl,rfl⟩:=m k x u;exact Hr (.inr rfl)
 ·obtain⟨rfl,rfl⟩:=m k x u;cases z
 ·obtain⟨rfl,rfl⟩:=m k x u;omega
 ·exact absurd (m k x u).1 y
section
variable{g:Nat->Own}{D:Nat->Prop}{p mb:Nat}{ib nb:Int->Nat}{T:aS}
theorem Wn(id:Int)(F:lF T id≠0)(w:World)(h:aK g D w p mb ib nb T)(z:(Lit.int .i64 id).wf=true):
  Dy 167 #[ptr p,.int .i64 id] w (Turn g D w p mb (fJ T id).2 (.int .i64 (fJ T id).1)):=by
 have I:=acp h;have O:(w.alloc (.cells #[.int .i64 id] 3)).cell? ⟨w.heap.size,0,none⟩=some (.int .i64 id):=mh;have C:=h.below (wall w (.cells #[.int .i64 id] 3)) acs;by_cases u:fQ T id=0
 ·obtain⟨x,A,y⟩:=qm u;have B:=acp (xg id A y _ C z);obtain⟨Q,R,P,S,U,M,K,N⟩:=(h.item id x A).cell;have H:lF T id=if x.closed then 27 else 0:=by unfold lF;rw[A];simp only[if_neg y]
  cases m:x.closed with
  |false=>exact absurd (by rw[H,m];rfl) F
  |true=>
   have E:acr (fJ T id=(27,T)):=by
    unfold fJ;rw[H,m];simp only[if_pos];exact rfl
   rw[m]at M;clear H m A y u h K C F;go_enter Tryz.func167,Tryz.ntmps167;go_wp2_with fail;refine B.o.mono ?_;rintro e J ⟨rfl,rfl⟩;go_wp2_with fail;go_ret;rw[E.o];exact Turn.same I.o (wall w _) rfl
 ·have G:(fQ T id==0)=false:=by simpa using u
  have B:=acp (vT id _ rfl u _ C z);have E:acr (fJ T id=(fQ T id,T)):=by
   unfold fJ;rw[SA u,if_neg u];exact rfl
  obtain⟨k,y⟩:∃k,k=fQ T id:=⟨_,rfl⟩;rw[<-y]at B G E;clear u h y C F;go_enter Tryz.func167,Tryz.ntmps167;go_wp2_with fail;refine B.o.mono ?_;rintro e J ⟨rfl,rfl⟩;go_wp2_with fail;go_ret;rw[E.o];exact Turn.same I.o (wall w _) rfl
end
section
variable{g:Nat->Own}{D:Nat->Prop}{p mb:Nat}{ib nb:Int->Nat}{T:aS}
theorem eO{id:Int}{x:fI}(m:au id T=some x):bQ T id=x.kind:=by unfold bQ;rw[m]
theorem fA.link(h:fA T){d id:Int}{x y:fI}{n:Nm}(F:au d T=some x)(G:x.kind=2)(S:gF n=true)(J:au n x.names=none)(D:au id T=some y)(B:y.kind≠2)(U:y.links<64)(P:id≠0):
  fA (Go.Proofs.YthillkfmdndedaaGreatDoor.cZ id (λ x=>{x with links:=x.links+1}) (setName T d n id)):=by
 have K:id≠d:=λ e=>by subst e;rw[F]at D;cases D;exact B G
 have M:=h.toDg.set (n:=n) (id:=id) F G S ⟨by rw[D];rfl,P⟩;have A:au id (setName T d n id)=some y:=by unfold setName;rw[bB,if_neg K];exact D
 have m:=h.each id y D;have R:y.kind=1:=m.kind.resolve_right B;have N:cn id {y with links:=y.links+1}=cn id y:=rfl;refine⟨M.cZ (f:=λ x=>{x with links:=x.links+1}) A ⟨m.kind,m.file,λ h=>absurd h B,λ h=> ?_,m.sorted,m.good,m.size,?_,m.aL⟩ rfl (M.leads id y A),λ j z u H=> ?_⟩
 ·have:=m.links;have Q:y.links+1=0:=h;omega
 ·have:=m.links;simp only;omega
 ·have O:=nO M.sorted (λ x=>{x with links:=x.links+1}) A j;have I:cn j {y with links:=y.links+1}=cn j y:=rfl;have Q:=nO h.sorted (λ x=>{x with names:=dO bytesBefore n id x.names}) F j;have V:=NZ (id:=id) J j;have e:iH (Go.Proofs.YthillkfmdndedaaGreatDoor.cZ id (λ x=>{x with links:=x.links+1}) (setName T d n id)) j=iH T j+if id=j then 1 else 0:=by
   unfold setName at O⊢;rw[I]at O;omega
  rw[e];rw[bB]at u;by_cases C:j=id
  ·subst C;rw[if_pos rfl,A]at u;simp only[aao,aae]at u;rw[<-u,if_pos rfl];have:=h.counts j y D H;simp only;omega
  ·rw[if_neg C]at u;rw[if_neg (aa6 C)];unfold setName at u;rw[bB]at u;by_cases E:j=d
   ·subst E;rw[if_pos rfl,F]at u;simp only[aao,aae]at u;have:=h.counts j x F H;rw[<-u];simp only;omega
   ·rw[if_neg E]at u;have:=h.counts j z u H;omega
theorem qp{p:List Nm}{id:Int}(h:aP T 0 p=(id,0))(m:fA T):(au id T).isSome=true:=by
 have:=mI m p 0 (nN m) (by rw[h]);rw[h]at this;exact this
theorem link_at{S S':Nat->Prop}(a:Mx)(n c:Nat)(F:List Nm)(a':Mx)(n' c':Nat)(m:List Nm)(w:World)(h:aK g D w p mb ib nb T)(hT:fA T)(hS:aW S w a n (F.map strOf))(av:aW S' w a' n' (m.map strOf))(bf:n'<=c')(uJ:n'<=1000000):
  Dy 62 #[ptr p,.slice a n c,.slice a' n' c'] w (Turn g D w p mb (iy T F m).2 (.int .i64 (iy T F m).1)):=by
 have N:=acp h;have HT:=acp hT;have X:=acp (KX a n c F a' n' c' m w hS av);have oP:=acp (λ C (K:Below w.heap.size w C)=>rV a n c F C (h.below K acs) hT (hS.below K acs));have rW:=acp (λ C (K:Below w.heap.size w C)=>w_ a' n' c' m C (h.below K acs) hT (av.below K acs) bf uJ);clear h hT hS av;by_cases Y:mH F m=0
 ·have uK:=acp Y;rw[Y]at X;clear Y;obtain⟨⟨id,e0⟩,Z⟩:∃q,q=aP T 0 F:=⟨_,rfl⟩;have HQ:=acp Z;rw[<-Z]at oP;clear Z;by_cases he:e0=0
  ·subst he;obtain⟨y,hy⟩:=aag.1 (qp HQ.o.symm HT.o);have R:=acp hy;have rE:=HT.o.ids id y hy;have O:aY.ok id:=gG rE.1 (by omega);have HG:acr (au id (T.map λ q=>(q.1,ptr (ib q.1)))=some (ptr (ib id))):=by rw[eH,hy];rfl
   have J:acr (∀C,Below w.heap.size w C->C.cell? ⟨p,0,none⟩=some (.map (some mb))/\MapAt aY C mb (T.map λ q=>(q.1,ptr (ib q.1)))/\C.cell? ⟨ib id,1,none⟩=some (.int .i64 y.kind)/\C.cell? ⟨ib id,2,none⟩=some (.int .i64 y.links)):=λ C K=>by
    have h2:=N.o.below K acs;obtain⟨_,c1,c2,_⟩:=(h2.item id y R.o).cell;exact⟨h2.cell.1,h2.map,c1,c2⟩
   clear hy;by_cases hk:y.kind=2
   ·have M:acr (iy T F m=(22,T)):=by
     have:pq T F m=22:=by
      unfold pq;rw[if_neg (by rw[uK.o];simp),<-HQ.o,if_neg (by simp),if_pos ((eO R.o).trans hk)]
     unfold iy;rw[this,if_neg (by decide)];exact rfl
    go_enter ab4,abW;go_wp2_with fail;refine X.o.mono ?_;rintro e C ⟨rfl,B⟩;have u:=acp B;clear B;go_wp2_with fail;refine(oP.o C u.o).mono ?_;rintro e H ⟨rfl,rfl⟩;obtain⟨c0,A,c1,c2⟩:=J.o C u.o;rw[hk]at c1;have P:=acp A;clear A;go_wp2_with (first|(at_lookup;refine aX aY rfl _ _ 190 193 rfl Tryz.underlying190 (Tryz.bD _) rfl P.o id rfl O ?_;rw[HG.o]));go_ret;rw[M.o];exact Turn.same N.o u.o rfl
   ·have dI:(y.kind==2)=false:=by simpa using hk
    by_cases Q:(aQ T m).2.2=0
    ·obtain⟨x,hx,aF,aB⟩:=kH HT.o Q;have ak:gF (aQ T m).2.1=true:=by
      have:bN m=0:=by
       have:=uK.o;unfold mH at this;split at this
       ·rename_i h1;exact absurd this h1
       ·exact this
      exact jg this _ aB
     obtain⟨⟨d,I,z⟩,Z⟩:∃q,q=aQ T m:=⟨_,rfl⟩;unfold ql at rW;rw[<-Z]at Q hx aB ak rW;obtain rfl:z=0:=Q;have aD:=acp Z;have HX:=acp hx;have Jk:=acp ak;have zN:=acp aF;have aC:=acp hk;clear Z hx ak aF aB hk;have mY:dD.ok I:=by
      have:=vR I Jk.o;show I.length<=maxLen;unfold maxLen;omega
     have Sv:acr (pq T F m=if (au I x.names).isSome then 21 else if 64<=y.links then 4 else 0):=by
      have e1:bM T d=x.names:=by unfold bM;rw[HX.o]
      have e2:yF T id=y.links:=by unfold yF;rw[R.o]
      unfold pq;rw[if_neg (by rw[uK.o];simp),<-HQ.o,if_neg (by simp),if_neg (by rw[eO R.o];exact aC.o),<-aD.o,if_neg (by simp),e1,e2];exact rfl
     have vS:acr (∀H,Below w.heap.size w H->H.cell? ⟨ib d,7,none⟩=some (.map (some (nb d)))/\MapAt dD H (nb d) (bJ x)):=λ H K=>by
      have h2:=N.o.below K acs;have hi:=h2.item d x HX.o;obtain⟨_,_,_,_,_,_,c7,_⟩:=hi.cell;unfold dS at c7;rw[if_pos zN.o]at c7;exact⟨c7,hi.names zN.o⟩
     cases hj:au I x.names with
     |some j=>
      have CF:acr (au I (bJ x)=some (.int .i64 j)):=by rw[eY,hj];rfl
      have M:acr (iy T F m=(21,T)):=by
       unfold iy;rw[Sv.o,hj];simp only[Option.isSome_some,if_true];exact rfl
      clear hj;go_enter ab4,abW;go_wp2_with fail;refine X.o.mono ?_;rintro e C ⟨rfl,B⟩;have u:=acp B;clear B;go_wp2_with fail;refine(oP.o C u.o).mono ?_;rintro e H ⟨rfl,rfl⟩;obtain⟨c0,A,c1,c2⟩:=J.o C u.o;have P:=acp A;clear A;go_wp2_with (first|(at_lookup;refine aX aY rfl _ _ 190 193 rfl Tryz.underlying190 (Tryz.bD _) rfl P.o id rfl O ?_;rw[HG.o]));refine(rW.o C u.o).mono ?_;rintro e H ⟨rfl,G⟩
      (first|rw[if_pos rfl]|rw[if_pos trivial])
      have E:=acp (u.o.trans (G.mono u.o.size));clear G;obtain⟨d7,V⟩:=vS.o H E.o;have Bo:=acp V;clear V;go_wp2_with (at_lookup;refine aR dD rfl _ _ 194 3 rfl aah (Tryz.gM _) rfl Bo.o I rfl mY ?_;rw[CF.o]);go_ret;rw[M.o];exact Turn.same N.o E.o rfl
     |none=>
      have CF:acr (au I (bJ x)=none):=by rw[eY,hj];rfl
      have HJ:=acp hj;clear hj;by_cases U:64<=y.links
      ·have M:acr (iy T F m=(4,T)):=by
        unfold iy;rw[Sv.o,HJ.o];simp only[Option.isSome_none,Bool.false_eq_true,if_false,if_pos U];first|exact rfl|exact trivial
       have hd:decide ((64:Int)<=y.links)=true:=by simpa using U
       go_enter ab4,abW;go_wp2_with fail;refine X.o.mono ?_;rintro e C ⟨rfl,B⟩;have u:=acp B;clear B;go_wp2_with fail;refine(oP.o C u.o).mono ?_;rintro e H ⟨rfl,rfl⟩;obtain⟨c0,A,c1,c2⟩:=J.o C u.o;have P:=acp A;clear A;go_wp2_with (first|(at_lookup;refine aX aY rfl _ _ 190 193 rfl Tryz.underlying190 (Tryz.bD _) rfl P.o id rfl O ?_;rw[HG.o]));refine(rW.o C u.o).mono ?_;rintro e H ⟨rfl,G⟩
       (first|rw[if_pos rfl]|rw[if_pos trivial])
       have E:=acp (u.o.trans (G.mono u.o.size));clear G;obtain⟨d7,V⟩:=vS.o H E.o;obtain⟨_,_,_,f2⟩:=J.o H E.o;have Bo:=acp V;clear V;go_wp2_with (at_lookup;refine aR dD rfl _ _ 194 3 rfl aah (Tryz.gM _) rfl Bo.o I rfl mY ?_;rw[CF.o]);go_ret;rw[M.o];exact Turn.same N.o E.o rfl
      ·have M:acr (iy T F m=(0,cZ id (λ x=>{x with links:=x.links+1}) (setName T d I id))):=by
        unfold iy NS;rw[Sv.o,HJ.o,<-aD.o,<-HQ.o];simp only[Option.isSome_none,Bool.false_eq_true,if_false,if_neg U,if_pos];first|exact rfl|exact trivial
       have hd:decide ((64:Int)<=y.links)=false:=by simpa using U
       have cB:=(HT.o.each id y R.o).links;have aJ:id≠d:=λ e=>by have h1:=HX.o;rw[<-e,R.o]at h1;cases h1;exact aC.o zN.o
       have H_:=acp aJ;have tH:(bJ x).length<maxLen:=by
        have h1:=HT.o.few HX.o;unfold bJ maxLen;rw[List.length_map];omega
       have Sw:=acp tH;clear aJ tH;go_enter ab4,abW;go_wp2_with fail;refine X.o.mono ?_;rintro e C ⟨rfl,B⟩;have u:=acp B;clear B;go_wp2_with fail;refine(oP.o C u.o).mono ?_;rintro e H ⟨rfl,rfl⟩;obtain⟨c0,A,c1,c2⟩:=J.o C u.o;have P:=acp A;clear A;go_wp2_with (first|(at_lookup;refine aX aY rfl _ _ 190 193 rfl Tryz.underlying190 (Tryz.bD _) rfl P.o id rfl O ?_;rw[HG.o]));refine(rW.o C u.o).mono ?_;rintro e H ⟨rfl,G⟩
       (first|rw[if_pos rfl]|rw[if_pos trivial])
       have E:=acp (u.o.trans (G.mono u.o.size));clear G;obtain⟨d7,V⟩:=vS.o H E.o;obtain⟨_,_,_,f2⟩:=J.o H E.o;have Bo:=acp V;have bT:=acp (N.o.below E.o acs);have SF:acr (∀w3,MapAt dD w3 (nb d) (dO dD.lt I (.int .i64 id) (bJ x))->H.mapTurned w3 (nb d)->aK g D w3 p mb ib nb (setName T d I id)/\w3.cell? ⟨ib id,2,none⟩=some (.int .i64 y.links)/\w3.frozen? ⟨ib id,2,none⟩=false/\au id (setName T d I id)=some y):=λ w3 hM bD=>by
        have h3:=bT.o.set (id:=id) HX.o zN.o hM bD;have aA:au id (setName T d I id)=some y:=by unfold setName;rw[bB,if_neg H_.o];exact R.o
        exact⟨h3,(h3.item id y aA).cell.2.2.1,(h3.item id y aA).frozen 2,aA⟩
       clear V;go_wp2_with (first|(at_lookup;refine aR dD rfl _ _ 194 3 rfl aah (Tryz.gM _) rfl Bo.o I rfl mY ?_;rw[CF.o])|(at_mapUpdate;refine mW dD rfl _ _ _ 194 3 rfl aah rfl Bo.o Sw.o I (.int .i64 id) rfl rfl mY ?_;intro w5 Kn KY;obtain⟨Ko,g2,dG,aH⟩:=SF.o w5 Kn KY;have bq:=acp Ko;have aN:=acp aH;have Wo:=acp KY;clear Ko Kn KY aH));go_ret;rw[M.o];have Ko:=bq.o;have bS:=N.o.qL id y R.o;have bn:=N.o.oO d x HX.o zN.o;refine Turn.of rfl (Ko.fields aN.o (λ x=>{x with links:=x.links+1}) rfl rfl rfl (Keeps.jy w5 ⟨ib id,2,none⟩ _) (by rw[size_set]) λ a c hc=>by rw[aG hc];rfl) ?_;have k1:Keeps (λ b=>g b≠ .none) w H:=(Keeps.below E.o).mono λ b K dn=>absurd K (by omega);have k2:Keeps (λ b=>g b≠ .none) H w5:=(eX Wo.o).mono λ b _ K=>by rw[show b=nb d from K,bn];simp
       have k3:Keeps (λ b=>g b≠ .none) w5 (w5.setCell ⟨ib id,2,none⟩ (.int .i64 (y.links+1))):=(Keeps.jy w5 ⟨ib id,2,none⟩ _).mono λ b _ K=>by rw[show b=ib id from K,bS];simp
       exact(k1.trans k2 (λ _ _ h=>h)).trans k3 (λ _ _ h=>h)
    ·have aL:((aQ T m).2.2==0)=false:=by simpa using Q
     have W:((aQ T m).2.2 !=0)=true:=by simpa using Q
     have M:acr (iy T F m=((aQ T m).2.2,T)):=by
      have:pq T F m=(aQ T m).2.2:=by
       unfold pq;rw[if_neg (by rw[uK.o];simp),<-HQ.o,if_neg (by simp),if_neg (by rw[eO R.o];exact hk),if_pos Q]
      unfold iy;rw[this,if_neg Q];exact rfl
     have HP:=acp Q;unfold ql at rW;generalize aQ T m=q at*;clear Q hk;go_enter ab4,abW;go_wp2_with fail;refine X.o.mono ?_;rintro e C ⟨rfl,B⟩;have u:=acp B;clear B;go_wp2_with fail;refine(oP.o C u.o).mono ?_;rintro e H ⟨rfl,rfl⟩;obtain⟨c0,A,c1,c2⟩:=J.o C u.o;have P:=acp A;clear A;go_wp2_with (first|(at_lookup;refine aX aY rfl _ _ 190 193 rfl Tryz.underlying190 (Tryz.bD _) rfl P.o id rfl O ?_;rw[HG.o]));refine(rW.o C u.o).mono ?_;rintro e H ⟨rfl,G⟩;rw[if_neg HP.o];have E:=acp (u.o.trans (G.mono u.o.size));clear G;go_wp2_with fail;go_ret;rw[M.o];exact Turn.same N.o E.o rfl
  ·have aL:(e0==0)=false:=by simpa using he
   have W:(e0 !=0)=true:=by simpa using he
   have M:acr (iy T F m=(e0,T)):=by
    have:pq T F m=e0:=by
     unfold pq;rw[if_neg (by rw[uK.o];simp),<-HQ.o,if_pos he]
    unfold iy;rw[this,if_neg he];exact rfl
   clear he;go_enter ab4,abW;go_wp2_with fail;refine X.o.mono ?_;rintro e C ⟨rfl,B⟩;have u:=acp B;clear B;go_wp2_with fail;refine(oP.o C u.o).mono ?_;rintro e H ⟨rfl,rfl⟩;go_wp2_with fail;go_ret;rw[M.o];exact Turn.same N.o u.o rfl
 ·have M:acr (iy T F m=(mH F m,T)):=by
   have:pq T F m=mH F m:=by unfold pq;rw[if_pos Y]
   unfold iy;rw[this,if_neg Y];exact rfl
  have aL:(mH F m==0)=false:=by simpa using Y
  have W:(mH F m !=0)=true:=by simpa using Y
  clear Y;go_enter ab4,abW;go_wp2_with fail;refine X.o.mono ?_;rintro e C ⟨rfl,B⟩;go_wp2_with fail;go_ret;rw[M.o];exact Turn.same N.o B rfl
end
theorem fA.del{T:aS}(h:fA T){k:Int}{x:fI}(D:au k T=some x)(H:k≠0)(I:x.names=[])(G:iH T k=0):fA (bZ k T):=by
 have m:∀j y,au j (bZ k T)=some y->j≠k/\au j T=some y:=λ j y u=>by
  rw[eG]at u;by_cases z:j=k
  ·rw[if_pos z]at u;cases u
  ·rw[if_neg z]at u;exact⟨z,u⟩
 have A:∀j,cn j x=0:=λ j=>by unfold cn;rw[I];rfl
 refine⟨⟨h.sorted.bZ _,?_,λ j y u=>h.each j y (m j y u).2,λ j y u e F=> ?_,?_,λ j y u=>h.ids j y (m j y u).2⟩,λ j y u z=> ?_⟩
 ·have C:=h.root;unfold bQ at C⊢;rw[eG,if_neg (aa6 H)];exact C
 ·have B:=h.leads j y (m j y u).2 e F;have E:=DJ G (m j y u).2 e F;rw[eG,if_neg E];exact B
 ·have:=vO iR h.sorted D;have:=h.len;omega
 ·have B:=Bj h.sorted D j;rw[A]at B;have E:=h.counts j y (m j y u).2 z;omega
theorem fA.settle{T:aS}(h:fA T){k:Int}(y:k≠0)(A:∀x,au k T=some x->x.kind≠2):fA (iQ T k):=by
 unfold iQ;cases m:au k T with
 |none=>exact h
 |some x=>
  simp only;by_cases z:x.links=0/\x.closed=true
  ·rw[if_pos z];have u:=(h.each k x m).kind.resolve_right (A x m);refine h.del m y ((h.each k x m).file u) ?_;have:=h.counts k x m y;omega
  ·rw[if_neg z];exact h
theorem fA.zR{T:aS}(h:fA T){k:Int}{x:fI}(u:au k T=some x)(m:x.kind≠2):k≠0:=by
 rintro rfl;have:=h.root;unfold bQ at this;rw[u]at this;exact m this
theorem En{T:aS}(C:fA T){m:List Nm}{kind:Int}(h:ow T m kind=0):bN m=0/\(kind=1\/kind=2)/\(aQ T m).2.2=0/\au (aQ T m).2.1 (bM T (aQ T m).1)=none/\T.length<64:=by
 unfold ow at h;by_cases A:bN m≠0
 ·rw[if_pos A]at h;exact absurd h A
 ·rw[if_neg A]at h;by_cases y:¬(kind=1\/kind=2)
  ·rw[if_pos y]at h;cases h
  ·rw[if_neg y]at h;by_cases z:(aQ T m).2.2≠0
   ·rw[if_pos z]at h;exact absurd h z
   ·rw[if_neg z]at h;by_cases u:(au (aQ T m).2.1 (bM T (aQ T m).1)).isSome=true
    ·rw[if_pos u]at h;cases h
    ·rw[if_neg u]at h;by_cases B:64<=T.length
     ·rw[if_pos B]at h;cases h
     ·exact⟨by omega,Decidable.not_not.1 y,by omega,by simpa using u,by omega⟩
theorem fA.dF{T:aS}(h:fA T)(m:List Nm)(kind:Int):fA (dF T m kind).2:=by
 unfold Go.Proofs.YthillkfmdndedaaGreatDoor.dF;by_cases y:ow T m kind=0
 ·rw[if_pos y];obtain⟨G,F,M,A,J⟩:=En h y;obtain⟨x,z,E,H⟩:=kH h M;obtain⟨f,K,D,C,u,_⟩:=h.free;have I:bM T (aQ T m).1=x.names:=by unfold bM;rw[z]
  rw[I]at A;have B:=h.len;show fA (yD T m kind);unfold yD;rw[K];exact h.make F u (by omega) (by omega) J z E (jg G _ H) A
 ·rw[if_neg y];exact h
theorem fA.dP{T:aS}(h:fA T)(id:Int)(b:I8):fA (dP T id b).2:=by
 unfold Go.Proofs.YthillkfmdndedaaGreatDoor.dP;by_cases m:qR T id b=0
 ·simp only[if_pos m];unfold qR at m;cases y:au id T with
  |none=>rw[y]at m;cases m
  |some x=>
   rw[y]at m;simp only at m;by_cases z:x.kind=2
   ·rw[if_pos z]at m;cases m
   ·rw[if_neg z]at m;cases A:x.closed with
    |true=>rw[A]at m;cases m
    |false=>
     rw[A]at m;simp only[Bool.false_eq_true,if_false]at m;by_cases B:4096<x.b.length+b.length
     ·rw[if_pos B]at m;cases m
     ·have u:=h.each id x y;exact h.Bl y ⟨u.kind,u.file,λ h=>absurd h z,λ _=>A,u.sorted,u.good,by rw[List.length_append];omega,u.links,u.aL⟩ rfl rfl rfl
 ·simp only[if_neg m];exact h
theorem fA.gu{T:aS}(h:fA T)(id B:Int)(J:0<=B):fA (gu T id B).2:=by
 unfold Go.Proofs.YthillkfmdndedaaGreatDoor.gu;by_cases m:Cx T id B=0
 ·simp only[if_pos m];unfold Cx at m;cases u:au id T with
  |none=>rw[u]at m;cases m
  |some x=>
   rw[u]at m;simp only at m;by_cases A:x.kind=2
   ·rw[if_pos A]at m;cases m
   ·rw[if_neg A]at m;cases F:x.closed with
    |true=>rw[F]at m;cases m
    |false=>
     rw[F]at m;simp only[Bool.false_eq_true,if_false]at m;by_cases I:1099511627776<B
     ·rw[if_pos I]at m;cases m
     ·have z:=h.each id x u;have E:=z.kind.resolve_right A;have D:=h.counts id x u (h.zR u A);by_cases G:x.links=0
      ·have K:=z.file E;have e:iQ (Go.Proofs.YthillkfmdndedaaGreatDoor.cZ id (λ x=>{x with closed:=true,aL:=B}) T) id=bZ id T:=by
        unfold iQ;rw[bB,if_pos rfl,u];simp only[aao,G,and_self,if_true];unfold bZ Go.Proofs.YthillkfmdndedaaGreatDoor.cZ;clear u z D m h
        induction T with
        |nil=>rfl
        |cons y r ih=>
         rw[aau,abf,abf,ih];by_cases C:y.1=id<;>simp[C]
       rw[e];exact h.del u (h.zR u A) K (by omega)
      ·have H:fA (Go.Proofs.YthillkfmdndedaaGreatDoor.cZ id (λ x=>{x with closed:=true,aL:=B}) T):=
        h.Bl u ⟨z.kind,z.file,λ h=>absurd h A,λ h=>absurd h G,z.sorted,z.good,z.size,z.links,⟨J,by simp only;omega⟩⟩ rfl rfl rfl
       exact H.settle (h.zR u A) (λ y C=>by
        rw[bB,if_pos rfl,u]at C;simp only[aao,aae]at C;rw[<-C];exact A)
 ·simp only[if_neg m];exact h
theorem fA.iX{T:aS}(h:fA T)(id y:Int)(D:0<=y):fA (iX T id y).2:=by
 unfold Go.Proofs.YthillkfmdndedaaGreatDoor.iX;by_cases m:Cy T id y=0
 ·simp only[if_pos m];unfold Cy at m;cases z:au id T with
  |none=>rw[z]at m;cases m
  |some x=>
   rw[z]at m;simp only at m;by_cases B:x.kind=2
   ·rw[if_pos B]at m;cases m
   ·rw[if_neg B]at m;by_cases C:x.closed=false
    ·rw[if_pos C]at m;cases m
    ·rw[if_neg C]at m;by_cases A:y<x.aL
     ·rw[if_pos A]at m;cases m
     ·rw[if_neg A]at m;by_cases A:1099511627776<y
      ·rw[if_pos A]at m;cases m
      ·have u:=h.each id x z;exact h.Bl z ⟨u.kind,u.file,λ h=>absurd h B,u.gone,u.sorted,u.good,u.size,u.links,⟨D,by simp only;omega⟩⟩ rfl rfl rfl
 ·simp only[if_neg m];exact h
theorem Eo{T:aS}{p m:List Nm}(h:pq T p m=0):mH p m=0/\(aP T 0 p).2=0/\bQ T (aP T 0 p).1≠2/\(aQ T m).2.2=0/\au (aQ T m).2.1 (bM T (aQ T m).1)=none/\yF T (aP T 0 p).1<64:=by
 unfold pq at h;by_cases B:mH p m≠0
 ·rw[if_pos B]at h;exact absurd h B
 ·rw[if_neg B]at h;by_cases y:(aP T 0 p).2≠0
  ·rw[if_pos y]at h;exact absurd h y
  ·rw[if_neg y]at h;by_cases A:bQ T (aP T 0 p).1=2
   ·rw[if_pos A]at h;cases h
   ·rw[if_neg A]at h;by_cases u:(aQ T m).2.2≠0
    ·rw[if_pos u]at h;exact absurd h u
    ·rw[if_neg u]at h;by_cases z:(au (aQ T m).2.1 (bM T (aQ T m).1)).isSome=true
     ·rw[if_pos z]at h;cases h
     ·rw[if_neg z]at h;by_cases C:64<=yF T (aP T 0 p).1
      ·rw[if_pos C]at h;cases h
      ·exact⟨by omega,by omega,A,by omega,by simpa using z,by omega⟩
theorem tJ{p q:List Nm}(h:mH p q=0):bN p=0/\bN q=0:=by
 unfold mH at h;split at h
 ·rename_i m;exact absurd h m
 ·exact⟨by omega,h⟩
theorem fA.iy{T:aS}(h:fA T)(p z:List Nm):fA (iy T p z).2:=by
 unfold Go.Proofs.YthillkfmdndedaaGreatDoor.iy;by_cases u:pq T p z=0
 ·simp only[if_pos u];obtain⟨H,G,A,F,D,C⟩:=Eo u;obtain⟨x,B,E,I⟩:=kH h F;obtain⟨y,m⟩:=aag.1 (mI h p 0 (nN h) G);have J:bM T (aQ T z).1=x.names:=by unfold bM;rw[B]
  have K:yF T (aP T 0 p).1=y.links:=by unfold yF;rw[m]
  rw[J]at D;rw[K]at C;rw[eO m]at A;exact h.link B E (jg (tJ H).2 _ I) D m A C (h.zR m A)
 ·simp only[if_neg u];exact h
structure rG(W:World)(P:Nat->Prop)(w:World)(p:Nat)(T:aS):Prop where
 at_:∃g D mb ib nb,aK g D w p mb ib nb T/\∀b,g b≠ .none\/D b->W.heap.size<=b/\¬P b
 ok:fA T
 below:Below W.heap.size W w
 low:∀x,P x->x<w.heap.size
structure zS(W:World)(P:Nat->Prop)(w:World)(p:Nat)(T:aS):Prop where
 at_:∃g D mb ib nb,aK g D w p mb ib nb T/\∀b,g b≠ .none\/D b->W.heap.size<=b/\¬P b
 ok:OkW T
 below:Below W.heap.size W w
theorem zS.grow{W w w':World}{P:Nat->Prop}{p:Nat}{T:aS}(h:zS W P w p T)(m:Below w.heap.size w w'):zS W P w' p T:=by
 obtain⟨g,D,y,z,nb,u,A⟩:=h.at_;exact⟨⟨g,D,y,z,nb,u.below m acs,A⟩,h.ok,h.below.trans (m.mono h.below.size)⟩
theorem rG.w{W w:World}{P:Nat->Prop}{p:Nat}{T:aS}(h:rG W P w p T):zS W P w p T:=⟨h.at_,h.ok.w,h.below⟩
instance{W w:World}{P:Nat->Prop}{p:Nat}{T:aS}:Coe (rG W P w p T) (zS W P w p T):=⟨rG.w⟩
theorem rG.grow{W w w':World}{P:Nat->Prop}{p:Nat}{T:aS}(h:rG W P w p T)(m:Below w.heap.size w w'):rG W P w' p T:=by
 obtain⟨g,D,y,z,nb,A,B⟩:=h.at_;exact⟨⟨g,D,y,z,nb,A.below m acs,B⟩,h.ok,h.below.trans (m.mono h.below.size),λ x u=>Pd (h.low x u) m.size⟩
theorem rG.mono{W w:World}{P Q:Nat->Prop}{p:Nat}{T:aS}(h:rG W P w p T)(u:∀x,Q x->P x):rG W Q w p T:=by
 obtain⟨g,D,z,A,nb,B,y⟩:=h.at_;exact⟨⟨g,D,z,A,nb,B,λ x m=>⟨(y x m).1,λ h=>(y x m).2 (u x h)⟩⟩,h.ok,h.below,λ x m=>h.low x (u x m)⟩
section
variable{W w:World}{P:Nat->Prop}{p:Nat}{T:aS}
end
theorem kY(T:aS):∀(p q:List Nm) (a:Int),aP T a (p++q)=if (aP T a p).2=0 then aP T (aP T a p).1 q else aP T a p
 |[],q,a=>by simp[aP]
 |n::r,q,a=>by
  rcases acg (au a T)with m|⟨x,m⟩
  ·simp[aP,m]
  ·by_cases u:x.kind=2
   ·rcases acg (au n x.names)with y|⟨k,y⟩
    ·simp[aP,m,u,y]
    ·simp only[ab2,aP,m,if_pos u,y];exact kY T r q k
   ·simp[aP,m,u]
theorem eP{T:aS}{p:List Nm}{id:Int}(h:aP T 0 p=(id,0))(B:p≠[]):∃d x n,aQ T p=(d,n,0)/\aP T 0 p.dropLast=(d,0)/\au d T=some x/\x.kind=2/\au n x.names=some id/\n∈p/\p=p.dropLast++[n]:=by
 obtain⟨q,n,rfl⟩:∃q n,p=q++[n]:=⟨p.dropLast,p.getLast B,(List.dropLast_concat_getLast B).symm⟩;rw[kY]at h;have z:(q++[n]).dropLast=q:=by simp
 have D:(q++[n]).getLastD []=n:=by simp[acf]
 by_cases m:(aP T 0 q).2=0
 ·rw[if_pos m]at h;obtain⟨⟨d,E⟩,A⟩:∃r,r=aP T 0 q:=⟨_,rfl⟩;rw[<-A]at h m;simp only at m;subst m;simp only[aP]at h;cases y:au d T with
  |none=>rw[y]at h;cases h
  |some x=>
   rw[y]at h;simp only at h;by_cases u:x.kind=2
   ·rw[if_pos u]at h;cases C:au n x.names with
    |none=>rw[C]at h;cases h
    |some k=>
     rw[C]at h;simp only[Prod.mk.injEq,abK]at h;subst h;refine⟨d,x,n,?_,by rw[z,<-A],y,u,C,by simp,by rw[z]⟩;unfold aQ;rw[if_neg B,z,D,<-A,if_neg (by simp),if_pos ((eO y).trans u)]
   ·rw[if_neg u]at h;cases h
 ·rw[if_neg m]at h;rw[h]at m;exact absurd rfl m
theorem Wp{α:Type}{κ:Type}[DecidableEq κ]{lt:κ->κ->Bool}(L:qh lt)(P:κ×α->Bool){l:List (κ×α)}(A:bA lt l){k:κ}{v:α}(z:au k l=some v):(bZ k l).countP P+(if P (k,v)then 1 else 0)=l.countP P:=by
 induction l with
 |nil=>cases z
 |cons y r ih=>
  have D:=A.apart L;obtain⟨E,F⟩:=aaE.1 D;rw[iG]at z;have u:bZ k (y::r)=if y.1=k then bZ k r else y::bZ k r:=by
   unfold bZ;rw[abf];by_cases m:y.1=k<;>simp[m]
  rw[u];by_cases m:y.1=k
  ·rw[if_pos m]at z;rw[if_pos m];cases z;have B:bZ k r=r:=by
    unfold bZ;rw[abC];intro q C;have:=E q C;simp only[Bool.not_eq_true',aa1];exact λ e=>this (m.trans e.symm)
   have e:(k,y.2)=y:=by rw[<-m]
   rw[B,aby,e]
  ·rw[if_neg m]at z;rw[if_neg m,aby,aby];have:=ih (aaE.1 A).2 z;omega
theorem cn_cut{x:fI}(h:NT x){n:Nm}{id:Int}(m:au n x.names=some id)(k:Int):cn k {x with names:=bZ n x.names}+(if id=k then 1 else 0)=cn k x:=by
 have:=Wp Sd (λ e:Nm×Int=>decide (e.2=k)) h.sorted m;unfold cn;simp only[aap]at this;exact this
theorem ok1_cut{x:fI}(h:QJ x)(n:Nm)(y:x.kind=2):QJ {x with names:=bZ n x.names}:=by
 refine⟨h.kind,λ u=> ?_,h.dir,h.gone,h.sorted.bZ _,λ e m=>h.good e (aaG.1 m).1,h.size,h.links,h.aL⟩;have:x.kind=1:=u;omega
theorem Dg.cut{T:aS}(h:Dg T){d:Int}{x:fI}{n:Nm}(m:au d T=some x)(u:x.kind=2):Dg (aV T d n):=
 h.cZ m (ok1_cut (h.each d x m) n u) rfl (λ e y=>h.leads d x m e (aaG.1 y).1)
theorem Ed.del{T:aS}(h:Ed T){k:Int}{x:fI}(C:au k T=some x)(G:k≠0)(D:iH T k=0):Ed (bZ k T):=by
 have m:∀j y,au j (bZ k T)=some y->j≠k/\au j T=some y:=λ j y u=>by
  rw[eG]at u;by_cases z:j=k
  ·rw[if_pos z]at u;cases u
  ·rw[if_neg z]at u;exact⟨z,u⟩
 refine⟨h.sorted.bZ _,?_,λ j y u=>h.each j y (m j y u).2,λ j y u e B=> ?_,?_,λ j y u=>h.ids j y (m j y u).2⟩
 ·have A:=h.root;unfold bQ at A⊢;rw[eG,if_neg (aa6 G)];exact A
 ·have F:=h.leads j y (m j y u).2 e B;have E:=DJ D (m j y u).2 e B;rw[eG,if_neg E];exact F
 ·have:=vO iR h.sorted C;have:=h.len;omega
theorem Dg.del{T:aS}(h:Dg T){k:Int}{x:fI}(A:au k T=some x)(z:k≠0)(B:iH T k=0):Dg (bZ k T):=
 Dg.of_w (h.w.del A z B) λ j y m=>by
  rw[eG]at m;by_cases u:j=k
  ·rw[if_pos u]at m;cases m
  ·rw[if_neg u]at m;exact(h.each j y m).links.2
theorem rY{T:aS}(h:Ed T){d id:Int}{x:fI}{n:Nm}(m:au d T=some x)(u:au n x.names=some id)(j:Int):iH (aV T d n) j+(if id=j then 1 else 0)=iH T j:=by
 have z:=nO h.sorted (λ x=>{x with names:=bZ n x.names}) m j;have y:=cn_cut (h.each d x m) u j;unfold aV;omega
theorem Jo{T:aS}{d j:Int}{n:Nm}{y:fI}(m:au j (aV T d n)=some y):∃z,au j T=some z/\y.links=z.links/\y.kind=z.kind/\y.closed=z.closed/\y.b=z.b/\(j≠d->y=z):=by
 unfold aV at m;rw[bB]at m;by_cases u:j=d
 ·rw[if_pos u]at m;cases A:au j T with
  |none=>rw[A]at m;cases m
  |some z=>
   rw[A]at m;simp only[aao,aae]at m;subst m;exact⟨z,rfl,rfl,rfl,rfl,rfl,λ h=>absurd u h⟩
 ·rw[if_neg u]at m;exact⟨y,m,rfl,rfl,rfl,rfl,λ _=>rfl⟩
theorem fA.QN{T:aS}(h:fA T){d id:Int}{x y:fI}{n:Nm}(B:au d T=some x)(M:x.kind=2)(I:au n x.names=some id)(G:au id T=some y)(C:id≠d)(F:id≠0)(D:y.names=[])(R:y.links=1):fA (bZ id (aV T d n)):=by
 have H:=h.toDg.cut (n:=n) B M;have m:au id (aV T d n)=some y:=by unfold aV;rw[bB,if_neg C];exact G
 have Q:=h.counts id y G F;have O:=rY h.toDg B I id;rw[if_pos rfl]at O;refine⟨H.del m F (by omega),λ j z A J=> ?_⟩;have u:j≠id:=λ e=>by subst e;rw[qd]at A;cases A
 rw[eG,if_neg u]at A;obtain⟨K,E,P,_⟩:=Jo A;have N:=rY h.toDg B I j;rw[if_neg (aa6 u)]at N;have U:=Bj H.sorted m j;have S:cn j y=0:=by unfold cn;rw[D];rfl
 have:=h.counts j K E J;omega
theorem fA.Wq{T:aS}(h:fA T){d id:Int}{x y:fI}{n:Nm}(E:au d T=some x)(H:x.kind=2)(O:au n x.names=some id)(B:au id T=some y)(A:y.kind≠2):
  fA (iQ (Go.Proofs.YthillkfmdndedaaGreatDoor.cZ id (λ x=>{x with links:=x.links-1}) (aV T d n)) id):=by
 have m:=h.each id y B;have P:=h.zR B A;have F:id≠d:=λ e=>by subst e;rw[E]at B;cases B;exact A H
 have I:=m.kind.resolve_right A;have J:=m.file I;have N:=h.toDg.cut (n:=n) E H;have u:au id (aV T d n)=some y:=by unfold aV;rw[bB,if_neg F];exact B
 have W:au id (Go.Proofs.YthillkfmdndedaaGreatDoor.cZ id (λ x=>{x with links:=x.links-1}) (aV T d n))=some {y with links:=y.links-1}:=by rw[bB,if_pos rfl,u];rfl
 have V:=h.counts id y B P;have X:=rY h.toDg E O id;rw[if_pos rfl]at X;unfold iQ;rw[W];simp only;by_cases G:y.links-1=0/\y.closed=true
 ·rw[if_pos G];have e:bZ id (Go.Proofs.YthillkfmdndedaaGreatDoor.cZ id (λ x=>{x with links:=x.links-1}) (aV T d n))=bZ id (aV T d n):=by
   generalize aV T d n=L;unfold bZ Go.Proofs.YthillkfmdndedaaGreatDoor.cZ
   induction L with
   |nil=>rfl
   |cons y r ih=>
    rw[aau,abf,abf,ih];by_cases B:y.1=id<;>simp[B]
  rw[e];exact h.QN E H O B F P J (by omega)
 ·rw[if_neg G];refine⟨N.cZ (f:=λ x=>{x with links:=x.links-1}) u ⟨m.kind,m.file,λ h=>absurd h A,λ h=> ?_,m.sorted,m.good,m.size,?_,m.aL⟩ rfl (N.leads id y u),λ j z D R=> ?_⟩
  ·cases M:y.closed with
   |true=>exact absurd ⟨h,M⟩ G
   |false=>rfl
  ·have:=m.links;simp only;omega
  ·have Z:=nO N.sorted (λ x=>{x with links:=x.links-1}) u j;have U:cn j {y with links:=y.links-1}=cn j y:=rfl;have Q:=rY h.toDg E O j;rw[bB]at D;by_cases C:j=id
   ·subst C;rw[if_pos rfl,u]at D;simp only[aao,aae]at D;rw[if_pos rfl]at Q;rw[<-D];simp only;omega
   ·rw[if_neg C]at D;rw[if_neg (aa6 C)]at Q;obtain⟨S,K,Y,_⟩:=Jo D;have:=h.counts j S K R;omega
theorem Jp{T:aS}{p:List Nm}(h:kX T p=0):bN p=0/\(aP T 0 p).2=0/\bQ T (aP T 0 p).1≠2:=by
 unfold kX bG at h;by_cases m:bN p≠0
 ·rw[if_pos m]at h;simp only[if_pos m]at h;exact absurd h m
 ·rw[if_neg m]at h;by_cases u:(aP T 0 p).2≠0
  ·rw[if_pos u]at h;exact absurd h u
  ·rw[if_neg u]at h;by_cases y:bQ T (aP T 0 p).1=2
   ·rw[if_pos y]at h;cases h
   ·exact⟨by omega,by omega,y⟩
theorem fA.dY{T:aS}(h:fA T)(p:List Nm):fA (dY T p).2:=by
 unfold Go.Proofs.YthillkfmdndedaaGreatDoor.dY;by_cases m:kX T p=0
 ·simp only[if_pos m];obtain⟨G,z,u⟩:=Jp m;obtain⟨y,A⟩:=aag.1 (mI h p 0 (nN h) z);have D:p≠[]:=λ e=>by subst e;exact u h.root
  obtain⟨d,x,n,E,_,C,B,F,_⟩:=eP (id:=(aP T 0 p).1) (abd rfl z) D;rw[eO A]at u;unfold zH;rw[E];exact h.Wq C B F A u
 ·simp only[if_neg m];exact h
theorem K9{T:aS}{p:List Nm}(h:kG T p=0):bN p=0/\(aP T 0 p).2=0/\bQ T (aP T 0 p).1=2/\(aP T 0 p).1≠0/\bM T (aP T 0 p).1=[]:=by
 unfold kG bG at h;by_cases m:bN p≠0
 ·rw[if_pos m]at h;simp only[if_pos m]at h;exact absurd h m
 ·rw[if_neg m]at h;by_cases y:(aP T 0 p).2≠0
  ·rw[if_pos y]at h;exact absurd h y
  ·rw[if_neg y]at h;by_cases z:bQ T (aP T 0 p).1≠2
   ·rw[if_pos z]at h;cases h
   ·rw[if_neg z]at h;by_cases u:(aP T 0 p).1=0
    ·rw[if_pos u]at h;cases h
    ·rw[if_neg u]at h;by_cases A:0<(bM T (aP T 0 p).1).length
     ·rw[if_pos A]at h;cases h
     ·exact⟨by omega,by omega,by omega,u,aac (by omega)⟩
theorem fA.fC{T:aS}(h:fA T)(p:List Nm):fA (fC T p).2:=by
 unfold Go.Proofs.YthillkfmdndedaaGreatDoor.fC;by_cases z:kG T p=0
 ·simp only[if_pos z];obtain⟨J,E,F,D,A⟩:=K9 z;obtain⟨y,m⟩:=aag.1 (mI h p 0 (nN h) E);have H:p≠[]:=λ e=>by subst e;exact D rfl
  obtain⟨d,x,n,I,_,C,G,B,_⟩:=eP (id:=(aP T 0 p).1) (abd rfl E) H;have u:y.names=[]:=by unfold bM at A;rw[m]at A;exact A
  rw[eO m]at F;unfold DF;rw[I];refine h.QN C G B m (λ e=> ?_) D u ((h.each _ y m).dir F).1;rw[e,C]at m;cases m;rw[u]at B;cases B
 ·simp only[if_neg z];exact h
