/- tree -/
import Derived.Test.YthillkfmdndedaaGreatDoorM11
set_option maxRecDepth 100000
set_option maxHeartbeats 64000000
set_option linter.all false
namespace Go.Proofs.YthillkfmdndedaaGreatDoor
open Go.ChangeShapes Go.WideShapes Go.ChangeAt Go.RowKit
section
variable{g:Nat->Own}{D:Nat->Prop}{p mb:Nat}{ib nb:Int->Nat}{T:aS}
theorem jJ.frozen{w:World}{k:Int}{i n:Nat}{x:fI}(h:jJ D w k i n x)(j:Nat):w.frozen? ⟨i,j,none⟩=false:=by
 obtain⟨⟨a,c,m,_⟩,_⟩:=h;simp[World.frozen?,m]
theorem jJ.row{w:World}{k:Int}{i n:Nat}{x:fI}(h:jJ D w k i n x):∃a c,w.cell? ⟨i,6,none⟩=some (.slice a x.b.length c)/\qj x.b.length c/\ah D w a x.b.length (x.b.map bv)/\w.heap[i]? =some (.cells (jW k x a c n) 196 (0,0)):=by
 obtain⟨⟨a,c,m,u,y⟩,_⟩:=h;exact⟨a,c,by simp only[World.cell?,m];rfl,u,y,m⟩
theorem aK.fields{w w':World}(h:aK g D w p mb ib nb T){k:Int}{x:fI}(z:au k T=some x)(f:fI->fI)(y:(f x).b=x.b)(N:(f x).names=x.names)(G:(f x).kind=x.kind)(C:Keeps (λ b=>b=ib k) w w')(H:w'.heap.size=w.heap.size)
  (I:∀a c,w.heap[ib k]? =some (.cells (jW k x a c (nb k)) 196 (0,0))->w'.heap[ib k]? =some (.cells (jW k (f x) a c (nb k)) 196 (0,0))):aK g D w' p mb ib nb (Go.Proofs.YthillkfmdndedaaGreatDoor.cZ k f T):=by
 have A:=h.qL k x z;refine h.cZ z G (λ _ h=>h) (λ b y=>⟨h.data b y,by rw[H];exact h.qM b y⟩) (by omega) (λ b u B _=>C.block b u (λ e=>B (by rw[e];exact A))) ?_;obtain⟨⟨a,c,B,K,O⟩,J⟩:=h.item k x z;refine⟨⟨a,c,I a c B,by rw[y];exact K,by rw[y];exact O.kept (by omega) λ b M u=>C.block b u (λ e=>by have:=h.data b M;rw[e,A]at this;cases this)⟩,λ F=> ?_⟩;have m:x.kind=2:=G▸F;have e:bJ (f x)=bJ x:=by unfold bJ;rw[N]
 rw[e];have E:=h.oO k x z m;exact(J m).kept (C.block _ (h.low _ (by rw[E];simp)) (λ e=>by rw[e,A]at E;cases E))
theorem Keeps.set2(w:World)(i j m:Nat)(v u:Value):Keeps (λ b=>b=i) w ((w.setCell ⟨i,j,none⟩ v).setCell ⟨i,m,none⟩ u):=
 (Keeps.jy w ⟨i,j,none⟩ v).trans (Keeps.jy _ ⟨i,m,none⟩ u) (λ _ _ h=>h)
theorem vT(id:Int)(k:Int)(m:fQ T id=k)(B:k≠0)(w:World)(h:aK g D w p mb ib nb T)(A:(Lit.int .i64 id).wf=true):
  Dy 192 #[ptr p,.int .i64 id] w λ e w'=>e= .returned (.tuple #[.pointer none,.int .i64 k])/\w=w':=by
 obtain⟨K,J,H⟩:=h.cell;have y:=acp h.map;have C:aY.ok id:=A;unfold fQ at m;cases z:au id T with
 |none=>
  rw[z]at m;simp only at m;subst m;have E:acr (au id (T.map λ q=>(q.1,ptr (ib q.1)))=none):=by rw[eH,z];rfl
  clear h z A B;go_enter Tryz.func192,Tryz.ntmps192;go_wp2_with (at_lookup;refine aR aY rfl _ _ 190 193 rfl Tryz.underlying190 (Tryz.bD _) rfl y.o id rfl C ?_;rw[E.o])
  go_ret2
  exact⟨rfl,rfl⟩
 |some x=>
  rw[z]at m;simp only at m;by_cases u:x.kind=2
  ·rw[if_pos u]at m;subst m;have E:acr (au id (T.map λ q=>(q.1,ptr (ib q.1)))=some (ptr (ib id))):=by rw[eH,z];rfl
   obtain⟨O,I,N,P,Q,M,F,G⟩:=(h.item id x z).cell;rw[u]at I;clear h z A B F u;go_enter Tryz.func192,Tryz.ntmps192;go_wp2_with (at_lookup;refine aR aY rfl _ _ 190 193 rfl Tryz.underlying190 (Tryz.bD _) rfl y.o id rfl C ?_;rw[E.o])
   go_ret2
   exact⟨rfl,rfl⟩
  ·rw[if_neg u]at m;exact absurd m.symm B
theorem xg(id:Int){x:fI}(z:au id T=some x)(y:x.kind≠2)(w:World)(h:aK g D w p mb ib nb T)(m:(Lit.int .i64 id).wf=true):
  Dy 192 #[ptr p,.int .i64 id] w λ e w'=>e= .returned (.tuple #[ptr (ib id),.int .i64 0])/\w=w':=by
 obtain⟨H,G,F⟩:=h.cell;have u:=acp h.map;have A:aY.ok id:=m;have B:acr (au id (T.map λ q=>(q.1,ptr (ib q.1)))=some (ptr (ib id))):=by rw[eH,z];rfl
 obtain⟨K,M,J,O,P,I,C,E⟩:=(h.item id x z).cell;have N:(x.kind==2)=false:=by simpa using y
 clear h z m C y;go_enter Tryz.func192,Tryz.ntmps192;go_wp2_with (at_lookup;refine aR aY rfl _ _ 190 193 rfl Tryz.underlying190 (Tryz.bD _) rfl u.o id rfl A ?_;rw[B.o])
 go_ret2
 exact⟨rfl,rfl⟩
def vU(k:Int)(x:fI):Value:= .agg #[.int .i64 k,.int .i64 x.kind,.int .i64 x.links,.int .i64 x.b.length,.int .u64 x.aL,.bool x.closed]
def lS(T:aS)(id:Int):Value:=match au id T with
 |some x=>vU id x
 |none=> .agg #[.int .i64 0,.int .i64 0,.int .i64 0,.int .i64 0,.int .u64 0,.bool false]
theorem zO(id:Int)(w:World)(h:aK g D w p mb ib nb T)(u:(Lit.int .i64 id).wf=true):
  Dy 127 #[ptr p,.int .i64 id] w λ e w'=>e= .returned (.tuple #[lS T id,.bool (au id T).isSome])/\Below w.heap.size w w':=by
 obtain⟨H,G,B⟩:=h.cell;have z:aY.ok id:=u;have C:∀o,MapAt aY (w.alloc o) mb (T.map λ q=>(q.1,ptr (ib q.1))):=λ o=>h.map.kept ((wall w o).block mb B);have m:=acp C;unfold lS;cases y:au id T with
 |none=>
  have A:acr (au id (T.map λ q=>(q.1,ptr (ib q.1)))=none):=by rw[eH,y];rfl
  clear h y u C;go_enter Tryz.func127,Tryz.ntmps127;go_wp2_with (at_lookup;refine aR aY rfl _ _ 190 193 rfl Tryz.underlying190 (Tryz.bD _) rfl (m.o _) id rfl z ?_;rw[A.o]);exact aav (v:= .tuple #[.agg #[.int .i64 0,.int .i64 0,.int .i64 0,.int .i64 0,.int .u64 0,.bool false],.bool false]) (by simp[results,Tryz.results127,go_sem]) rfl ⟨rfl,wall w _⟩
 |some x=>
  have A:acr (au id (T.map λ q=>(q.1,ptr (ib q.1)))=some (ptr (ib id))):=by rw[eH,y];rfl
  obtain⟨K,M,J,N,O,I,E,F⟩:=(h.item id x y).cell;clear h y u E C;unfold vU;go_enter Tryz.func127,Tryz.ntmps127;go_wp2_with (at_lookup;refine aR aY rfl _ _ 190 193 rfl Tryz.underlying190 (Tryz.bD _) rfl (m.o _) id rfl z ?_;rw[A.o]);exact aav (v:= .tuple #[.agg #[.int .i64 id,.int .i64 x.kind,.int .i64 x.links,.int .i64 x.b.length,.int .u64 x.aL,.bool x.closed],.bool true]) (by simp[results,Tryz.results127,go_sem]) rfl ⟨rfl,wall w _⟩
end
section
variable{g:Nat->Own}{D:Nat->Prop}{p mb:Nat}{ib nb:Int->Nat}{T:aS}
theorem MapAt.K3{P:Program}{K:TypeId}{κ:Type}[DecidableEq κ]{F:AZ P K κ}{w:World}{t e:TypeId}(z:P.underlying t=some (.map K e)){b:Nat}{l:List (κ×Value)}(A:MapAt F w b l)(k:κ)(u:F.ok k):
  ∃w',(∀y,(Builtin.delete_ #[t,K] y #[.map (some b),F.val k]).run P w= .ok (.tuple #[]) w')/\MapAt F w' b (bZ k l)/\w.mapTurned w' b:=by
 obtain⟨w',m,r1,r2⟩:=World.ownsMap.drop A F.law z (F.of k u) 0;rw[QH]at r1;exact⟨w',λ y=>m,MapAt.wZ r1,r2⟩
def Settled(g:Nat->Own)(D:Nat->Prop)(w:World)(p mb:Nat)(ib nb:Int->Nat)(m:aS)(e:Ending)(w':World):Prop:=
 e= .returned (.tuple #[])/\aK g D w' p mb ib nb m/\Keeps (λ b=>b=mb) w w'/\w'.heap.size=w.heap.size
theorem Eh(id:Int){x:fI}(K:au id T=some x)(Q:(Lit.int .i64 id).wf=true)(w:World)(h:aK g D w p mb ib nb T):
  Dy 193 #[ptr p,ptr (ib id)] w (Settled g D w p mb ib nb (iQ T id)):=by
 obtain⟨I,P,ak⟩:=h.cell;obtain⟨W,c1,c2,c3,c4,V,c7,O⟩:=(h.item id x K).cell;have B:=acp h;have X:iQ T id=if x.links=0/\x.closed=true then bZ id T else T:=by unfold iQ;rw[K]
 have E:=acp X;have HX:=acp K;clear X K h c7;by_cases A:x.links=0
 ·have M:(x.links==0)=true:=by simpa using A
  rw[A]at c2;cases m:x.closed with
  |true=>
   rw[m]at V;have G:acr (iQ T id=bZ id T):=E.o.trans (if_pos ⟨A,m⟩)
   have J:∃u,(∀Z,(Builtin.delete_ #[190,3] Z #[.map (some mb),.int .i64 id]).run Tryz.prog w.drew= .ok (.tuple #[]) u)/\MapAt aY u mb (bZ id (T.map λ q=>(q.1,ptr (ib q.1))))/\w.drew.mapTurned u mb:=
    MapAt.K3 (F:=aY) Tryz.underlying190 (B.o.map.kept (w':=w.drew) rfl) id Q
   have S:=acp J;have z:p≠mb:=λ e=>by have H:=B.o.uT;rw[e,B.o.lI]at H;cases H
   have y:ib id≠mb:=λ e=>by have H:=B.o.qL id x HX.o;rw[e,B.o.lI]at H;cases H
   have vK:acr (∀u,w.drew.mapTurned u mb->u.cell? ⟨p,0,none⟩=some (.map (some mb))/\u.cell? ⟨ib id,0,none⟩=some (.int .i64 id)):=λ u Y=>⟨(World.cell?_of_block (w:=w.drew) (w':=u) (a:=⟨p,0,none⟩) (eU Y p P z)).trans I,(World.cell?_of_block (w:=w.drew) (w':=u) (a:=⟨ib id,0,none⟩) (eU Y _ O y)).trans W⟩;clear J E A m M z y;go_enter Tryz.func193,Tryz.ntmps193;go_wp2
   go_region_held3 (λ w'=>w'.cell? ⟨p,0,none⟩=some (.map (some mb))/\w'.cell? ⟨ib id,0,none⟩=some (.int .i64 id)) (first|exact⟨I,W⟩|exact vK.o _ R) ((first|(obtain⟨u,Ht,sQ,R⟩:=S.o;rw[Ht];go_simp)))
   have N:=iw R;have C:=eX R
   go_end0
   refine⟨rfl,?_,⟨C.os,C.tape,C.output,C.size,C.block⟩,N⟩;rw[G.o];exact(B.o.below acu.drew acs).del sQ C.size (λ b hb U=>C.block b hb U)
  |false=>
   rw[m]at V;have G:acr (iQ T id=T):=E.o.trans (if_neg (λ h=>by rw[m]at h;cases h.2));clear E A m M;go_enter Tryz.func193,Tryz.ntmps193;go_wp2
   go_end0
   exact⟨rfl,by rw[G.o];exact B.o,Keeps.refl _ _,rfl⟩
 ·have M:(x.links==0)=false:=by simpa using A
  have G:acr (iQ T id=T):=E.o.trans (if_neg (λ h=>A h.1));clear E A;go_enter Tryz.func193,Tryz.ntmps193;go_wp2
  go_end0
  exact⟨rfl,by rw[G.o];exact B.o,Keeps.refl _ _,rfl⟩
end
