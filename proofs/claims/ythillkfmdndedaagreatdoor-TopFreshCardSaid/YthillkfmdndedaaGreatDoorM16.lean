/- DERIVED -/
import Derived.Shelf.SlMaps.DeleteFunc
import Derived.Ground.SlmdProg
import Derived.Test.YthillkfmdndedaaGreatDoorM15
set_option maxRecDepth 100000
set_option maxHeartbeats 64000000
set_option linter.all false
namespace Go.Proofs
open Go.Shelf
def Tryz.WA:Go.Shelf.Ren:=⟨λ|5=>213|n=>n,λ|23=>194|26=>9|24=>3|27=>307|0=>0|4=>4|n=>n,λ|n=>n⟩
theorem Tryz.delT:Go.Proofs.SlLaysDf.n5 Tryz.prog Tryz.WA:={
 mixed:=by kernel_rfl
 f5:=⟨Tryz.f213.name,by decide,FR Tryz.func213 (by kernel_rfl)⟩
 t0:=Tryz.underlying0
 a0:=Tryz.isAgg0
 z0:=Tryz.sizeOf0
 v0:=Tryz.zeroValue0
 t4:=Tryz.underlying4
 a4:=Tryz.isAgg4
 z4:=Tryz.sizeOf4
 v4:=Tryz.zeroValue4
 t23:=Tryz.underlying194
 a23:=Tryz.isAgg194
 z23:=Tryz.sizeOf194
 v23:=Tryz.zeroValue194
 a24:=Tryz.isAgg3
 z24:=Tryz.sizeOf3
 a26:=Tryz.isAgg9
 z26:=Tryz.sizeOf9
 t27:=Tryz.underlying307
 a27:=Tryz.isAgg307
 z27:=Tryz.sizeOf307
 v27:=Tryz.zeroValue307}
end Go.Proofs
namespace Go.Proofs.YthillkfmdndedaaGreatDoor
open Go.ChangeShapes Go.WideShapes Go.ChangeAt Go.RowKit Go.MapKept
open Go.WideElems (Fit rd rg pl rd_key rd_val rg_of other_key)
def Ju(v:Value):Option (DataW Value×List MemPlace):=match v with| .int .i64 i=>some (.held v,[])|_=>none
theorem Ld{v:Value}{z:DataW Value×List MemPlace}(h:Ju v=some z):∃i,v= .int .i64 i/\z=(.held (.int .i64 i),[]):=by
 unfold Ju at h;split at h
 ·exact⟨_,rfl,(aat h).symm⟩
 ·cases h
theorem MapAt.toInt{w:World}{b:Nat}{l:List (Nm×Value)}(h:MapAt dD w b l)(Q:∀p∈l,∃i,p.2= .int .i64 i):w.ownsMap Tryz.prog 9 Ju b l.length (zA dD l):=by
 obtain⟨A,u,P,F,O,D⟩:=h;have E:∀x∈A.toList,∃i,x.val= .int .i64 i:=by
  intro x m;obtain⟨y,K⟩:=F.reads x m;have I:(rg Tryz.prog 9 ou x)∈(A.toList.map (rg Tryz.prog 9 ou)).foldr DataW.insert []:=(sorted_perm _).mem_iff.2 (List.mem_map.2 ⟨x,m,rfl⟩);simp only[zA,DataW.map.injEq]at D;rw[<-D]at I;obtain⟨q,N,J⟩:=List.mem_map.1 I;obtain⟨i,G⟩:=Q q N;obtain⟨z,H,M⟩:=rd_val K;rw[rg_of K]at J;simp only[ou,aae]at H;refine⟨i,?_⟩;rw[<-H]at M;have C:=aaK Prod.snd J;rw[M]at C;simp only[DataW.held.injEq]at C;rw[<-C,G]
 have B:∀x∈A.toList,rd Tryz.prog 9 Ju x=rd Tryz.prog 9 ou x:=by
  intro x m;obtain⟨i,G⟩:=E x m;unfold rd;rw[G];rfl
 refine⟨A,u,P,⟨F.size,F.stamped,λ x m=> ?_⟩,O,?_⟩
 ·rw[B x m];exact F.reads x m
 ·have e:A.toList.map (rg Tryz.prog 9 ou)=A.toList.map (rg Tryz.prog 9 Ju):=by
   apply aaF;intro x m;unfold rg;rw[B x m]
  rw[D,e]
theorem toRaw{w:World}{b n:Nat}{D:DataW Value}(h:w.ownsMap Tryz.prog 9 Ju b n D):w.ownsMap Tryz.prog 9 ou b n D:=by
 obtain⟨B,m,G,F,E,H⟩:=h;have A:∀x∈B.toList,rd Tryz.prog 9 ou x=rd Tryz.prog 9 Ju x:=by
  intro x u;obtain⟨y,I⟩:=F.reads x u;obtain⟨z,C,_⟩:=rd_val I;obtain⟨i,J,_⟩:=Ld C;unfold rd;rw[J];rfl
 refine⟨B,m,G,⟨F.size,F.stamped,λ x u=> ?_⟩,E,?_⟩
 ·rw[A x u];exact F.reads x u
 ·have e:B.toList.map (rg Tryz.prog 9 Ju)=B.toList.map (rg Tryz.prog 9 ou):=by
   apply aaF;intro x u;unfold rg;rw[A x u]
  rw[H,e]
def isId(id:Int)(_:Lit)(d:DataW Value):Bool:=match d with| .held (.int .i64 k)=>decide (k=id)|_=>false
theorem SI(id:Int)(u:Nat)(m:Value)(k:Int)(w:World)(y:w.cell? ⟨u,0,none⟩=some (.int .i64 id)):
  Dy 214 #[m,.int .i64 k,ptr u] w λ e w'=>e= .returned (.bool (decide (k=id)))/\w=w':=by
 go_enter Tryz.func214,Tryz.ntmps214;go_wp2_with fail;go_ret;exact⟨iW (by by_cases h:k=id<;>simp[h]),rfl⟩
theorem delD(id:Int)(l:List (Nm×Int)):Lib.deleteFuncD (isId id) (zA dD (l.map λ e=>(e.1,(.int .i64 e.2:Value))))=zA dD ((l.filter λ e=> !decide (e.2=id)).map λ e=>(e.1,(.int .i64 e.2:Value))):=by
 unfold zA Lib.deleteFuncD;simp only[List.map_map,DataW.map.injEq];rw[List.filter_map];rfl
theorem SK(id:Int)(m b:Nat)(x:fI)(w:World)(K:MapAt dD w b (bJ x))(F:w.cell? ⟨m,0,none⟩=some (.int .i64 id))(C:m≠b)(A:m<w.heap.size):
  Dy 213 #[.map (some b),.func (.func 214) #[] #[ptr m]] w λ e w'=>e= .returned (.tuple #[])/\MapAt dD w' b (bJ (iV id x))/\Keeps (λ y=>y=b) w w':=by
 refine(AnyDf.maps_DeleteFunc Tryz.delT dD.law Ju (isId id) 214 #[ptr m] b _ _ w ?_ (K.toInt λ q E=> ?_) λ W B val kl O N H M J=> ?_).mono ?_
 ·exact enters_of Tryz.func214 (by kernel_rfl) rfl
 ·obtain⟨e,_,rfl⟩:=List.mem_map.1 E;exact⟨_,rfl⟩
 ·obtain⟨i,rfl,u⟩:=Ld J;cases u;refine(SI id m B i W ?_).mono ?_
  ·rw[World.cell?_of_block (w:=w) (w':=W) (a:=⟨m,0,none⟩) (H.block m A (λ e=>C (aat e)))];exact F
  ·rintro e w' ⟨rfl,rfl⟩;exact⟨rfl,rfl,rfl,rfl,Nat.le_refl _,λ _ _ _=>rfl⟩
 ·rintro e w' ⟨rfl,I,G⟩;refine⟨rfl,?_,(Keeps.grown G).mono λ z _ u=>by simpa using u.symm⟩;have D:=toRaw I;unfold bJ at D;rw[delD]at D;exact MapAt.wZ D
theorem WB(f:Value)(w:World):Dy 213 #[.map none,f] w λ e w'=>e= .returned (.tuple #[])/\Below w.heap.size w w':=by
 go_enter Tryz.func213,Tryz.ntmps213;go_wp2_with (first|(at_range;refine rZ rfl _ 194 9 3 rfl aah rfl ?_))
 go_frame
 go_loopw [4,5] (λ _ _ wr=>wr=w.alloc (.mapIter none 0 #[] 0)) (λ _ _ wr=>0)
 case atStart=>exact rfl
 case round=>
  obtain rfl:=hrel;go_wp2_with (first|(at_next;refine uL rfl _ rfl rfl (MapKept.heap_alloc w _).1 ?_))
  go_end0
  exact⟨rfl,wall w _⟩
open Go.ChangeShapes Go.WideShapes Go.ChangeAt Go.RowKit
def stripL(left:Int->Bool)(T:aS)(id:Int):aS:=T.map λ q=>(q.1,if left q.1=true then q.2 else iV id q.2)
theorem Ol(left:Int->Bool)(T:aS)(id k:Int):au k (stripL left T id)=(au k T).map λ x=>if left k=true then x else iV id x:=by
 unfold stripL;exact Bf (λ k x=>if left k=true then x else iV id x) k T
theorem Jv{left:Int->Bool}{T:aS}{id:Int}(h:∀q∈T,left q.1=true):stripL left T id=T:=by
 unfold stripL
 conv=>rhs;rw[<-List.map_id T]
 apply aaF;intro q m;rw[if_pos (h q m)];rfl
theorem Om{left:Int->Bool}{T:aS}{id:Int}(h:∀k,left k=false):stripL left T id=kI T id:=by
 unfold stripL kI iV;apply aaF;intro q m;rw[if_neg (by rw[h];decide)]
theorem Le{left:Int->Bool}{T:aS}{id k:Int}(h:left k=true):cZ k (iV id) (stripL left T id)=stripL (λ z=>left z&& !decide (z=k)) T id:=by
 unfold stripL cZ;rw[List.map_map];apply aaF;intro q u;by_cases m:q.1=k
 ·simp[m,h]
 ·simp[m]
section
variable{g:Nat->Own}{D:Nat->Prop}{p mb:Nat}{ib nb:Int->Nat}{T:aS}
theorem WC{w w':World}{k id:Int}{x:fI}(h:aK g D w p mb ib nb T)(y:au k T=some x)(F:x.kind=2)(J:MapAt dD w' (nb k) (bJ (iV id x)))(z:Keeps (λ b=>b=nb k) w w'):aK g D w' p mb ib nb (Go.Proofs.YthillkfmdndedaaGreatDoor.cZ k (iV id) T):=by
 have H:=h.oO k x y F;have C:=h.qL k x y;have m:∀b,b<w.heap.size->g b≠ .names k->w'.heap[b]? =w.heap[b]? :=λ b m u=>z.block b m (λ e=>u (by rw[show b=nb k from e];exact H));refine h.cZ y rfl (λ _ h=>h) (λ b m=>⟨h.data b m,Pd (h.qM b m) z.size⟩) z.size (λ b A E u=>m b A u) ?_;obtain⟨a,c,E,u,I⟩:=(h.item k x y).cells;exact⟨⟨a,c,(m _ (h.low _ (by rw[C];simp)) (by rw[C];simp)).trans E,u,I.kept z.size λ b G B=>m b B (by rw[h.data b G];simp)⟩,λ _=>J⟩
theorem Oo{w:World}{k id:Int}{x:fI}(h:aK g D w p mb ib nb T)(m:au k T=some x)(y:x.kind≠2):aK g D w p mb ib nb (Go.Proofs.YthillkfmdndedaaGreatDoor.cZ k (iV id) T):=by
 refine h.cZ m rfl (λ _ h=>h) (λ b u=>⟨h.data b u,h.qM b u⟩) acs (λ _ _ _ _=>rfl) ?_;obtain⟨a,c,B,z,A⟩:=(h.item k x m).cells;exact⟨⟨a,c,B,z,A⟩,λ h=>absurd h y⟩
end
section
variable{g:Nat->Own}{D:Nat->Prop}{p mb:Nat}{ib nb:Int->Nat}{T:aS}
def DropRel(g:Nat->Own)(D:Nat->Prop)(w:World)(p mb:Nat)(ib nb:Int->Nat)(T:aS)(id:Int)(r:Nat)(wr:World):Prop:=
 ∃(left:Int->Bool) (m:Nat),dR aY wr mb r (T.map λ q=>(q.1,ptr (ib q.1))) left m/\aK g D wr p mb ib nb (stripL left T id)/\wr.cell? ⟨w.heap.size,0,none⟩=some (.int .i64 id)/\Keeps (λ b=>g b≠ .none) w wr/\w.heap.size<wr.heap.size
theorem drop_ok(id:Int)(hT:OkW T)(hd:lF T id=0)(w:World)(h:aK g D w p mb ib nb T)(ak:(Lit.int .i64 id).wf=true):
  Dy 167 #[ptr p,.int .i64 id] w (Turn g D w p mb (fJ T id).2 (.int .i64 (fJ T id).1)):=by
 have av:fJ T id=(0,bZ id (kI T id)):=by
  unfold fJ;rw[hd,xw,if_pos rfl]
 have HM:=acp av;clear av;obtain⟨x,hx,hk,aL⟩:=Ey hd;have S:=acp h;have HT:=acp hT;have dN:(w.alloc (.cells #[.int .i64 id] 3)).cell? ⟨w.heap.size,0,none⟩=some (.int .i64 id):=mh;have P:=h.below (wall w (.cells #[.int .i64 id] 3)) acs;have HA:=acp P;have HF:=acp (xg id hx hk _ P ak);obtain⟨c0,c1,c2,c3,c4,c5,c7,fT⟩:=(P.item id x hx).cell;rw[aL]at c5;have q0:=P.cell.1;have iM:=acp P.map;have HW:=acp ak;clear aL hx hk h c7 P hd hT ak;go_enter Tryz.func167,Tryz.ntmps167;go_wp2_with fail;refine HF.o.mono ?_;rintro e w1 ⟨rfl,rfl⟩;go_wp2_with (at_range;refine jI aY rfl _ 190 193 rfl Tryz.underlying190 rfl iM.o ?_;intro w0 aA Q aN)
 go_frame
 rw[Pe]at aA Q aN;rw[Pe]
 go_loopw [8] (λ _ wr=>DropRel g D w p mb ib nb T id (w.heap.size+1) wr) (λ _ wr=>wr.rangeLeft mb (w.heap.size+1))
 case atStart=>
  refine⟨_,_,aA,?_,?_,?_,by omega⟩
  ·rw[Jv (λ q hq=>by rw[eH,fq iR HT.o.sorted hq];rfl)];exact HA.o.below Q (by rw[Pe];omega)
  ·rw[World.cell?_of_block (w:=w.alloc (.cells #[.int .i64 id] 3)) (w':=w0) (a:=⟨w.heap.size,0,none⟩) (Q.block _ (by show w.heap.size<_;omega))];exact mh
  ·exact gI ((wall w _).trans (Q.mono (by omega)))
 case round=>
  obtain⟨left,dV,hR,P,W,hK,aF⟩:=hrel;have H:=acp P;have HR:=acp hR;have X:=acp hK;clear hR P hK;go_wp2_with (first|(at_next;refine kE aY rfl _ rfl rfl HR.o ?_ ?_))
  ·intro M;have Ez:acr (stripL left T id=kI T id):=Om M;clear M;have p0:=H.o.cell.1;have bT:=H.o.cell.2.1;have gy:=H.o.cell.2.2;have dK:=S.o.cell.2.2
   have aC:∃u,(∀ty,(Builtin.delete_ #[190,3] ty #[.map (some mb),.int .i64 id]).run Tryz.prog wr.drew= .ok (.tuple #[]) u)/\MapAt aY u mb (bZ id ((stripL left T id).map λ q=>(q.1,ptr (ib q.1))))/\wr.drew.mapTurned u mb:=
    MapAt.K3 (F:=aY) Tryz.underlying190 (H.o.map.kept (w':=wr.drew) rfl) id HW.o
   have dG:=acp aC;have R:p≠mb:=λ e=>by have h1:=S.o.uT;rw[e,S.o.lI]at h1;cases h1
   have U:w.heap.size≠mb:=by omega
   have vK:acr (∀u,wr.drew.mapTurned u mb->u.cell? ⟨p,0,none⟩=some (.map (some mb))/\u.cell? ⟨w.heap.size,0,none⟩=some (.int .i64 id)):=λ u hT=>⟨(World.cell?_of_block (w:=wr.drew) (w':=u) (a:=⟨p,0,none⟩) (eU hT p bT R)).trans p0,(World.cell?_of_block (w:=wr.drew) (w':=u) (a:=⟨w.heap.size,0,none⟩) (eU hT _ aF U)).trans W⟩;clear aC R U;go_wp2
   go_region_held3 (λ w'=>w'.cell? ⟨p,0,none⟩=some (.map (some mb))/\w'.cell? ⟨w.heap.size,0,none⟩=some (.int .i64 id)) (first|exact⟨p0,W⟩|exact vK.o _ sP) ((first|(obtain⟨u,Ht,sQ,sP⟩:=dG.o;rw[Ht];go_simp)))
   have sW:=acp sQ;have dn:=acp sP;clear sQ sP;go_wp2;go_ret;rw[HM.o];have C:=eX dn.o;have Gt:=(H.o.below acu.drew acs).del sW.o C.size (λ b G bn=>C.block b G bn);rw[Ez.o]at Gt;have bf:=S.o.lI;exact Turn.of rfl Gt (X.o.trans ((gI acu.drew).trans (C.mono λ b _ G=>by rw[show b=mb from G,bf];simp) (λ _ _ h=>h)) (λ _ _ h=>h))
  ·intro k v V B Wv K N lN aB A cB bS;rw[eH]at N;cases hy:au k T with
   |none=>rw[hy]at N;cases N
   |some y=>
    rw[hy]at N;cases N;have Z:au k (stripL left T id)=some y:=by rw[Ol,hy];simp[K]
    have fK:=HR.o.lt;have aD:aK g D V p mb ib nb (stripL left T id):=H.o.keeps A λ b G dM=>by
     rcases G with G|G
     ·have:=S.o.low b G;omega
     ·have:=S.o.qM b G;omega
    have SH:=acp aD;have HY:=acp Z;have E:=acp lN;have Gw:=acp aB;have yH:acr (Keeps (λ b=>g b≠ .none) w V):=⟨A.os.trans X.o.os,A.tape.trans X.o.tape,A.output.trans X.o.output,by rw[cB];exact X.o.size,λ b G hn=>(A.block b (by have:=X.o.size;omega) (by omega)).trans (X.o.block b G hn)⟩;have J:V.cell? ⟨w.heap.size,0,none⟩=some (.int .i64 id):=(World.cell?_of_block (w:=wr) (w':=V) (a:=⟨w.heap.size,0,none⟩) (A.block _ aF (by show ¬w.heap.size=w.heap.size+1;omega))).trans W;have I:acr (cZ k (iV id) (stripL left T id)=stripL (λ z=>left z&& !decide (z=k)) T id):=Le K;obtain⟨_,_,_,_,_,_,d7,_⟩:=(SH.o.item k y Z).cell;have O:w.heap.size<V.heap.size:=by omega
    have e3:aY.val k= .int .i64 k:=rfl;rw[e3]at bS⊢;clear e3 hy Z aD lN aB A;by_cases m:y.kind=2
    ·have e2:dS y (nb k)= .map (some (nb k)):=if_pos m;rw[e2]at d7;have Y:=SH.o.oO k y HY.o m;have d9:nb k<w.heap.size:=S.o.low _ (by rw[Y];simp);have bD:=acp (SK id w.heap.size (nb k) y V ((SH.o.item k y HY.o).names m) J (by omega) O);have Di:=acp m;have aH:=acp Y;clear m e2 Y;go_wp2_with fail;refine bD.o.mono ?_;rintro e u ⟨rfl,sQ,C⟩;have sW:=acp sQ;have qN:=acp C;clear sQ C;go_wp2_with fail;have bq:mb≠nb k:=λ e=>by have h1:=S.o.lI;rw[e,aH.o]at h1;cases h1
     have Dm:dR aY u mb (w.heap.size+1) (T.map λ q=>(q.1,ptr (ib q.1))) _ B:=E.o.kept (qN.o.block mb E.o.lt.1 bq) (qN.o.block _ E.o.lt.2.1 (by omega));go_roundw
     case rel=>
      refine⟨_,B,Dm,?_,?_,?_,?_⟩
      ·rw[<-I.o];exact WC SH.o HY.o Di.o sW.o qN.o
      ·exact(World.cell?_of_block (w:=V) (w':=u) (a:=⟨w.heap.size,0,none⟩) (qN.o.block _ O (by show w.heap.size≠nb k;omega))).trans J
      ·exact yH.o.trans (qN.o.mono λ b _ G=>by rw[show b=nb k from G,aH.o];simp) (λ _ _ h=>h)
      ·have:=qN.o.size;omega
     case measure=>
      rw[Dm.measure,HR.o.measure];exact Gw.o
    ·have e2:dS y (nb k)= .map none:=if_neg m;rw[e2]at d7;have Di:=acp m;clear m e2;go_wp2_with fail;refine(WB _ _).mono ?_;rintro e u ⟨rfl,aJ⟩;have dI:=acp aJ;clear aJ;go_wp2_with fail;have Dm:dR aY u mb (w.heap.size+1) (T.map λ q=>(q.1,ptr (ib q.1))) _ B:=E.o.kept (dI.o.block mb E.o.lt.1) (dI.o.block _ E.o.lt.2.1);go_roundw
     case rel=>
      refine⟨_,B,Dm,?_,?_,?_,?_⟩
      ·rw[<-I.o];exact(Oo SH.o HY.o Di.o).below dI.o acs
      ·exact(World.cell?_of_block (w:=V) (w':=u) (a:=⟨w.heap.size,0,none⟩) (dI.o.block _ O)).trans J
      ·exact yH.o.trans (gI dI.o) (λ _ _ h=>h)
      ·have:=dI.o.size;omega
     case measure=>
      rw[Dm.measure,HR.o.measure];exact Gw.o
theorem drop_at(id:Int)(y:OkW T)(w:World)(h:aK g D w p mb ib nb T)(m:(Lit.int .i64 id).wf=true):
  Dy 167 #[ptr p,.int .i64 id] w (Turn g D w p mb (fJ T id).2 (.int .i64 (fJ T id).1)):=by
 by_cases u:lF T id=0
 ·exact drop_ok id y u w h m
 ·exact Wn id u w h m
end
