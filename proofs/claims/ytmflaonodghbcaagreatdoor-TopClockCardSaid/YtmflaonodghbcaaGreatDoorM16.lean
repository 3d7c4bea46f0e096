/- DERIVED -/
import Derived.Test.YtmflaonodghbcaaGreatDoorProg
import Derived.Shelf.SlMaps.DeleteFunc
import Derived.Ground.SlmdProg
import Derived.Test.YtmflaonodghbcaaGreatDoorM15
set_option maxRecDepth 100000
set_option maxHeartbeats 64000000
set_option linter.all false
namespace Go.Proofs
open Go.Shelf
def Tryz.Vk:Go.Shelf.Ren:=⟨fun|5=>223|n=>n,fun|23=>190|26=>9|24=>3|27=>316|0=>0|4=>4|n=>n,fun|n=>n⟩
theorem Tryz.delT:Go.Proofs.SlLaysDf.n5 Tryz.prog Tryz.Vk:={
 mixed:=by kernel_rfl
 f5:=⟨Tryz.f223.name,by decide,Tryz.func223.trans (congrArg some (by kernel_rfl))⟩
 t0:=Tryz.underlying0
 a0:=Tryz.isAgg0
 z0:=Tryz.sizeOf0
 v0:=Tryz.zeroValue0
 t4:=Tryz.underlying4
 a4:=Tryz.isAgg4
 z4:=Tryz.sizeOf4
 v4:=Tryz.zeroValue4
 t23:=Tryz.underlying190
 a23:=Tryz.isAgg190
 z23:=Tryz.sizeOf190
 v23:=Tryz.zeroValue190
 a24:=Tryz.isAgg3
 z24:=Tryz.sizeOf3
 a26:=Tryz.isAgg9
 z26:=Tryz.sizeOf9
 t27:=Tryz.underlying316
 a27:=Tryz.isAgg316
 z27:=Tryz.sizeOf316
 v27:=Tryz.zeroValue316}
end Go.Proofs
namespace Go.Proofs.YtmflaonodghbcaaGreatDoor
open Go.ChangeShapes Go.WideShapes Go.ChangeAt Go.RowKit Go.MapKept
open Go.WideElems (Fit rd rg pl rd_key rd_val rg_of other_key)
def I5(v:Value):Option (DataW Value×List MemPlace):=match v with| .int .i64 i=>some (.held v,[])|_=>none
theorem KT{v:Value}{z:DataW Value×List MemPlace}(h:I5 v=some z):∃i,v= .int .i64 i∧z=(.held (.int .i64 i),[]):=by
 unfold I5 at h;split at h
 ·exact⟨_,rfl,(aaH h).symm⟩
 ·cases h
theorem MapAt.toInt{w:World}{b:Nat}{l:List (Nm×Value)}(h:MapAt fT w b l)(hl:∀p∈l,∃i,p.2= .int .i64 i):w.ownsMap Tryz.prog 9 I5 b l.length (wP fT l):=by
 obtain⟨es,clock,hb,F,hs,hD⟩:=h;have key:∀x∈es.toList,∃i,x.val= .int .i64 i:=by
  intro x hx;obtain⟨y,hy⟩:=F.reads x hx;have h1:(rg Tryz.prog 9 mV x)∈(es.toList.map (rg Tryz.prog 9 mV)).foldr DataW.insert []:=(sorted_perm _).mem_iff.2 (List.mem_map.2 ⟨x,hx,rfl⟩);simp only[wP,DataW.map.injEq]at hD;rw[←hD]at h1;obtain⟨q,hq,e1⟩:=List.mem_map.1 h1;obtain⟨i,hi⟩:=hl q hq;obtain⟨z,hz,e2⟩:=rd_val hy;rw[rg_of hy]at e1;simp only[mV,aag]at hz;refine⟨i,?_⟩;rw[←hz]at e2;have e3:=aaG Prod.snd e1;rw[e2]at e3;simp only[DataW.held.injEq]at e3;rw[←e3,hi]
 have hrd:∀x∈es.toList,rd Tryz.prog 9 I5 x=rd Tryz.prog 9 mV x:=by
  intro x hx;obtain⟨i,hi⟩:=key x hx;unfold rd;rw[hi];rfl
 refine⟨es,clock,hb,⟨F.size,F.stamped,fun x hx=> ?_⟩,hs,?_⟩
 ·rw[hrd x hx];exact F.reads x hx
 ·have e:es.toList.map (rg Tryz.prog 9 mV)=es.toList.map (rg Tryz.prog 9 I5):=by
   apply aaw;intro x hx;unfold rg;rw[hrd x hx]
  rw[hD,e]
theorem toRaw{w:World}{b n:Nat}{D:DataW Value}(h:w.ownsMap Tryz.prog 9 I5 b n D):w.ownsMap Tryz.prog 9 mV b n D:=by
 obtain⟨es,clock,hb,F,hs,hD⟩:=h;have hrd:∀x∈es.toList,rd Tryz.prog 9 mV x=rd Tryz.prog 9 I5 x:=by
  intro x hx;obtain⟨y,hy⟩:=F.reads x hx;obtain⟨z,hz,_⟩:=rd_val hy;obtain⟨i,hi,_⟩:=KT hz;unfold rd;rw[hi];rfl
 refine⟨es,clock,hb,⟨F.size,F.stamped,fun x hx=> ?_⟩,hs,?_⟩
 ·rw[hrd x hx];exact F.reads x hx
 ·have e:es.toList.map (rg Tryz.prog 9 I5)=es.toList.map (rg Tryz.prog 9 mV):=by
   apply aaw;intro x hx;unfold rg;rw[hrd x hx]
  rw[hD,e]
def isId(id:Int)(_:Lit)(d:DataW Value):Bool:=match d with| .held (.int .i64 k)=>decide (k=id)|_=>false
theorem RP(id:Int)(vb:Nat)(key:Value)(k:Int)(w:World)(hc:w.cell? ⟨vb,0,none⟩=some (.int .i64 id)):
  Calls Tryz.prog 224 #[key,.int .i64 k,ptr vb] w fun e w'=>e= .returned (.bool (decide (k=id)))∧w=w':=by
 go_enter Tryz.func224,Tryz.ntmps224;go_wp2_with fail;go_ret;exact⟨lW (by by_cases h:k=id<;>simp[h]),rfl⟩
theorem delD(id:Int)(l:List (Nm×Int)):Lib.deleteFuncD (isId id) (wP fT (l.map fun e=>(e.1,(.int .i64 e.2:Value))))=wP fT ((l.filter fun e=> !decide (e.2=id)).map fun e=>(e.1,(.int .i64 e.2:Value))):=by
 unfold wP Lib.deleteFuncD;simp only[List.map_map,DataW.map.injEq];rw[abZ];rfl
theorem RQ(id:Int)(vb b:Nat)(x:eG)(w:World)(hM:MapAt fT w b (dJ x))(hc:w.cell? ⟨vb,0,none⟩=some (.int .i64 id))(hvb:vb≠b)(hvw:vb<w.heap.size):
  Calls Tryz.prog 223 #[.map (some b),.func (.func 224) #[] #[ptr vb]] w fun e w'=>e= .returned (.tuple #[])∧MapAt fT w' b (dJ (h_ id x))∧Keeps (fun y=>y=b) w w':=by
 refine(AnyDf.maps_DeleteFunc Tryz.delT fT.law I5 (isId id) 224 #[ptr vb] b _ _ w ?_ (hM.toInt fun q hq=> ?_) fun W key val kl yd yp hg hk hv=> ?_).mono ?_
 ·exact enters_of Tryz.func224 (by kernel_rfl) rfl
 ·obtain⟨e,_,rfl⟩:=List.mem_map.1 hq;exact⟨_,rfl⟩
 ·obtain⟨i,rfl,hz⟩:=KT hv;cases hz;refine(RP id vb key i W ?_).mono ?_
  ·rw[World.cell?_of_block (w:=w) (w':=W) (a:=⟨vb,0,none⟩) (hg.block vb hvw (fun e=>hvb (aaH e)))];exact hc
  ·rintro e w' ⟨rfl,rfl⟩;exact⟨rfl,rfl,rfl,rfl,Nat.le_refl _,fun _ _ _=>rfl⟩
 ·rintro e w' ⟨rfl,h1,h2⟩;refine⟨rfl,?_,(Keeps.grown h2).mono fun z _ hz=>by simpa using hz.symm⟩;have h3:=toRaw h1;unfold dJ at h3;rw[delD]at h3;exact MapAt.vW h3
theorem Vl(f:Value)(w:World):Calls Tryz.prog 223 #[.map none,f] w fun e w'=>e= .returned (.tuple #[])∧Below w.heap.size w w':=by
 go_enter Tryz.func223,Tryz.ntmps223;go_wp2_with (first|(at_range;refine AB rfl _ 190 9 3 rfl Tryz.underlying190 rfl ?_))
 go_frame
 go_loopw [4,5] (fun _ _ wr=>wr=w.alloc (.mapIter none 0 #[] 0)) (fun _ _ wr=>0)
 case atStart=>exact rfl
 case round=>
  obtain rfl:=hrel;go_wp2_with (first|(at_next;refine Cz rfl _ rfl rfl (MapKept.heap_alloc w _).1 ?_))
  go_end0
  exact⟨rfl,wall w _⟩
open Go.ChangeShapes Go.WideShapes Go.ChangeAt Go.RowKit
def stripL(left:Int→Bool)(T:aI)(id:Int):aI:=T.map fun q=>(q.1,if left q.1=true then q.2 else h_ id q.2)
theorem NC(left:Int→Bool)(T:aI)(id k:Int):aj k (stripL left T id)=(aj k T).map fun x=>if left k=true then x else h_ id x:=by
 unfold stripL;exact Aq (fun k x=>if left k=true then x else h_ id x) k T
theorem I6{left:Int→Bool}{T:aI}{id:Int}(h:∀q∈T,left q.1=true):stripL left T id=T:=by
 unfold stripL
 conv=>rhs;rw[←List.map_id T]
 apply aaw;intro q hq;rw[if_pos (h q hq)];rfl
theorem ND{left:Int→Bool}{T:aI}{id:Int}(h:∀k,left k=false):stripL left T id=jN T id:=by
 unfold stripL jN h_;apply aaw;intro q hq;rw[if_neg (by rw[h];decide)]
theorem KU{left:Int→Bool}{T:aI}{id k:Int}(h:left k=true):cu k (h_ id) (stripL left T id)=stripL (fun z=>left z&& !decide (z=k)) T id:=by
 unfold stripL cu;rw[List.map_map];apply aaw;intro q hq;by_cases hk:q.1=k
 ·simp[hk,h]
 ·simp[hk]
section
variable{g:Nat→Own}{D:Nat→Prop}{p mb:Nat}{ib nb:Int→Nat}{T:aI}
theorem Vn{w w':World}{k id:Int}{x:eG}(h:aM g D w p mb ib nb T)(hx:aj k T=some x)(hk:x.kind=2)(hM:MapAt fT w' (nb k) (dJ (h_ id x)))(hK:Keeps (fun b=>b=nb k) w w'):aM g D w' p mb ib nb (Go.Proofs.YtmflaonodghbcaaGreatDoor.cu k (h_ id) T):=by
 have hn:=h.mX k x hx hk;have ti:=h.pR k x hx;have hb:∀b,b<w.heap.size→g b≠ .names k→w'.heap[b]? =w.heap[b]? :=fun b hb h2=>hK.block b hb (fun e=>h2 (by rw[show b=nb k from e];exact hn));refine h.cu hx rfl (fun _ h=>h) (fun b hb=>⟨h.data b hb,Nat.lt_of_lt_of_le (h.oN b hb) hK.size⟩) hK.size (fun b hb1 h1 h2=>hb b hb1 h2) ?_;obtain⟨a,c,h1,h2,h3⟩:=(h.item k x hx).cells;exact⟨⟨a,c,(hb _ (h.low _ (by rw[ti];simp)) (by rw[ti];simp)).trans h1,h2,h3.kept hK.size fun b hD hbw=>hb b hbw (by rw[h.data b hD];simp)⟩,fun _=>hM⟩
theorem NG{w:World}{k id:Int}{x:eG}(h:aM g D w p mb ib nb T)(hx:aj k T=some x)(hk:x.kind≠2):aM g D w p mb ib nb (Go.Proofs.YtmflaonodghbcaaGreatDoor.cu k (h_ id) T):=by
 refine h.cu hx rfl (fun _ h=>h) (fun b hb=>⟨h.data b hb,h.oN b hb⟩) ace (fun _ _ _ _=>rfl) ?_;obtain⟨a,c,h1,h2,h3⟩:=(h.item k x hx).cells;exact⟨⟨a,c,h1,h2,h3⟩,fun h=>absurd h hk⟩
end
section
variable{g:Nat→Own}{D:Nat→Prop}{p mb:Nat}{ib nb:Int→Nat}{T:aI}
def Zh(g:Nat→Own)(D:Nat→Prop)(w:World)(p mb:Nat)(ib nb:Int→Nat)(T:aI)(id:Int)(r:Nat)(wr:World):Prop:=
 ∃(left:Int→Bool) (cnt:Nat),eF aU wr mb r (T.map fun q=>(q.1,ptr (ib q.1))) left cnt∧aM g D wr p mb ib nb (stripL left T id)∧wr.cell? ⟨w.heap.size,0,none⟩=some (.int .i64 id)∧Keeps (fun b=>g b≠ .none) w wr∧w.heap.size<wr.heap.size
theorem Zi(id:Int)(hT:OkW T)(hd:kC T id=0)(w:World)(h:aM g D w p mb ib nb T)(hid:(Lit.int .i64 id).wf=true):
  Calls Tryz.prog 178 #[ptr p,.int .i64 id] w (Turn g D w p mb (eU T id).2 (.int .i64 (eU T id).1)):=by
 have hdm:eU T id=(0,bM id (jN T id)):=by
  unfold eU;rw[hd,wo,if_pos rfl]
 have HM:=ab9 hdm;clear hdm;obtain⟨x,hx,hk,hcl⟩:=Ec hd;have HH:=ab9 h;have HT:=ab9 hT;have hcb:(w.alloc (.cells #[.int .i64 id] 3)).cell? ⟨w.heap.size,0,none⟩=some (.int .i64 id):=lq;have hA:=h.below (wall w (.cells #[.int .i64 id] 3)) ace;have HA:=ab9 hA;have HF:=ab9 (CU id hx hk _ hA hid);obtain⟨c0,c1,c2,c3,c4,c5,c7,hiw⟩:=(hA.item id x hx).cell;rw[hcl]at c5;have q0:=hA.cell.1;have lT:=ab9 hA.map;have HW:=ab9 hid;clear hcl hx hk h c7 hA hd hT hid;go_enter Tryz.func178,Tryz.ntmps178;go_wp2_with fail;refine HF.o.mono ?_;rintro e w1 ⟨rfl,rfl⟩;go_wp2_with (at_range;refine lY aU rfl _ 186 189 rfl Tryz.underlying186 rfl lT.o ?_;intro w0 hR0 hB0 hs0)
 go_frame
 rw[Pd]at hR0 hB0 hs0;rw[Pd]
 go_loopw [8] (fun _ wr=>Zh g D w p mb ib nb T id (w.heap.size+1) wr) (fun _ wr=>wr.rangeLeft mb (w.heap.size+1))
 case atStart=>
  refine⟨_,_,hR0,?_,?_,?_,by omega⟩
  ·rw[I6 (fun q hq=>by rw[dH,bI dU HT.o.sorted hq];rfl)];exact HA.o.below hB0 (by rw[Pd];omega)
  ·rw[World.cell?_of_block (w:=w.alloc (.cells #[.int .i64 id] 3)) (w':=w0) (a:=⟨w.heap.size,0,none⟩) (hB0.block _ (by show w.heap.size<_;omega))];exact lq
  ·exact nT ((wall w _).trans (hB0.mono (by omega)))
 case round=>
  obtain⟨left,cnt,hR,hA,hcv,hK,hsw⟩:=hrel;have HA1:=ab9 hA;have HR:=ab9 hR;have HK:=ab9 hK;clear hR hA hK;go_wp2_with (first|(at_next;refine nP aU rfl _ rfl rfl HR.o ?_ ?_))
  ·intro hdone;have Gh:acd (stripL left T id=jN T id):=ND hdone;clear hdone;have p0:=HA1.o.cell.1;have hpw:=HA1.o.cell.2.1;have hmw:=HA1.o.cell.2.2;have hmw0:=HH.o.cell.2.2
   have hst:∃w4,(∀ty,(Builtin.delete_ #[186,3] ty #[.map (some mb),.int .i64 id]).run Tryz.prog wr.drew= .ok (.tuple #[]) w4)∧MapAt aU w4 mb (bM id ((stripL left T id).map fun q=>(q.1,ptr (ib q.1))))∧wr.drew.mapTurned w4 mb:=
    MapAt.KF (F:=aU) Tryz.underlying186 (HA1.o.map.kept (w':=wr.drew) rfl) id HW.o
   have HST:=ab9 hst;have hne1:p≠mb:=fun e=>by have h1:=HH.o.qE;rw[e,HH.o.jg]at h1;cases h1
   have hne2:w.heap.size≠mb:=by omega
   have GL:acd (∀w4,wr.drew.mapTurned w4 mb→w4.cell? ⟨p,0,none⟩=some (.map (some mb))∧w4.cell? ⟨w.heap.size,0,none⟩=some (.int .i64 id)):=fun w4 hT=>⟨(World.cell?_of_block (w:=wr.drew) (w':=w4) (a:=⟨p,0,none⟩) (cK hT p hpw hne1)).trans p0,(World.cell?_of_block (w:=wr.drew) (w':=w4) (a:=⟨w.heap.size,0,none⟩) (cK hT _ hsw hne2)).trans hcv⟩;clear hst hne1 hne2;go_wp2
   go_region_held3 (fun w'=>w'.cell? ⟨p,0,none⟩=some (.map (some mb))∧w'.cell? ⟨w.heap.size,0,none⟩=some (.int .i64 id)) (first|exact⟨p0,hcv⟩|exact GL.o _ sH) ((first|(obtain⟨w4,GU,qK,sH⟩:=HST.o;rw[GU];go_simp)))
   have mo:=ab9 qK;have Um:=ab9 sH;clear qK sH;go_wp2;go_ret;rw[HM.o];have hK4:=gD Um.o;have MN:=(HA1.o.below acf.drew ace).del mo.o hK4.size (fun b hb hbm=>hK4.block b hb hbm);rw[Gh.o]at MN;have hgm:=HH.o.jg;exact Turn.of rfl MN (HK.o.trans ((nT acf.drew).trans (hK4.mono fun b _ hb=>by rw[show b=mb from hb,hgm];simp) (fun _ _ h=>h)) (fun _ _ h=>h))
  ·intro k v w3 cnt1 Vo hleft hg2 kR hlt hK1 hs1 hen;rw[dH]at hg2;cases hy:aj k T with
   |none=>rw[hy]at hg2;cases hg2
   |some y=>
    rw[hy]at hg2;cases hg2;have hyl:aj k (stripL left T id)=some y:=by rw[NC,hy];simp[hleft]
    have hrl:=HR.o.lt;have hA3:aM g D w3 p mb ib nb (stripL left T id):=HA1.o.keeps hK1 fun b hb hbr=>by
     rcases hb with hb|hb
     ·have:=HH.o.low b hb;omega
     ·have:=HH.o.oN b hb;omega
    have Vf:=ab9 hA3;have HY:=ab9 hyl;have HR1:=ab9 kR;have FZ:=ab9 hlt;have AL:acd (Keeps (fun b=>g b≠ .none) w w3):=⟨hK1.os.trans HK.o.os,hK1.tape.trans HK.o.tape,hK1.output.trans HK.o.output,by rw[hs1];exact HK.o.size,fun b hb hn=>(hK1.block b (by have:=HK.o.size;omega) (by omega)).trans (HK.o.block b hb hn)⟩;have hcv3:w3.cell? ⟨w.heap.size,0,none⟩=some (.int .i64 id):=(World.cell?_of_block (w:=wr) (w':=w3) (a:=⟨w.heap.size,0,none⟩) (hK1.block _ hsw (by show ¬w.heap.size=w.heap.size+1;omega))).trans hcv;have HSTEP:acd (cu k (h_ id) (stripL left T id)=stripL (fun z=>left z&& !decide (z=k)) T id):=KU hleft;obtain⟨_,_,_,_,_,_,d7,_⟩:=(Vf.o.item k y hyl).cell;have hsw3:w.heap.size<w3.heap.size:=by omega
    have e3:aU.val k= .int .i64 k:=rfl;rw[e3]at hen⊢;clear e3 hy hyl hA3 kR hlt hK1;by_cases hk2:y.kind=2
    ·have e2:eu y (nb k)= .map (some (nb k)):=if_pos hk2;rw[e2]at d7;have hnt:=Vf.o.mX k y HY.o hk2;have hnw:nb k<w.heap.size:=HH.o.low _ (by rw[hnt];simp);have HDF:=ab9 (RQ id w.heap.size (nb k) y w3 ((Vf.o.item k y HY.o).names hk2) hcv3 (by omega) hsw3);have AA:=ab9 hk2;have HNT:=ab9 hnt;clear hk2 e2 hnt;go_wp2_with fail;refine HDF.o.mono ?_;rintro e w4 ⟨rfl,qK,hK4⟩;have mo:=ab9 qK;have rM:=ab9 hK4;clear qK hK4;go_wp2_with fail;have hmn:mb≠nb k:=fun e=>by have h1:=HH.o.jg;rw[e,HNT.o]at h1;cases h1
     have xD:eF aU w4 mb (w.heap.size+1) (T.map fun q=>(q.1,ptr (ib q.1))) _ cnt1:=HR1.o.kept (rM.o.block mb HR1.o.lt.1 hmn) (rM.o.block _ HR1.o.lt.2.1 (by omega));go_roundw
     case rel=>
      refine⟨_,cnt1,xD,?_,?_,?_,?_⟩
      ·rw[←HSTEP.o];exact Vn Vf.o HY.o AA.o mo.o rM.o
      ·exact(World.cell?_of_block (w:=w3) (w':=w4) (a:=⟨w.heap.size,0,none⟩) (rM.o.block _ hsw3 (by show w.heap.size≠nb k;omega))).trans hcv3
      ·exact AL.o.trans (rM.o.mono fun b _ hb=>by rw[show b=nb k from hb,HNT.o];simp) (fun _ _ h=>h)
      ·have:=rM.o.size;omega
     case measure=>
      rw[xD.measure,HR.o.measure];exact FZ.o
    ·have e2:eu y (nb k)= .map none:=if_neg hk2;rw[e2]at d7;have AA:=ab9 hk2;clear hk2 e2;go_wp2_with fail;refine(Vl _ _).mono ?_;rintro e w4 ⟨rfl,hb4⟩;have dh:=ab9 hb4;clear hb4;go_wp2_with fail;have xD:eF aU w4 mb (w.heap.size+1) (T.map fun q=>(q.1,ptr (ib q.1))) _ cnt1:=HR1.o.kept (dh.o.block mb HR1.o.lt.1) (dh.o.block _ HR1.o.lt.2.1);go_roundw
     case rel=>
      refine⟨_,cnt1,xD,?_,?_,?_,?_⟩
      ·rw[←HSTEP.o];exact(NG Vf.o HY.o AA.o).below dh.o ace
      ·exact(World.cell?_of_block (w:=w3) (w':=w4) (a:=⟨w.heap.size,0,none⟩) (dh.o.block _ hsw3)).trans hcv3
      ·exact AL.o.trans (nT dh.o) (fun _ _ h=>h)
      ·have:=dh.o.size;omega
     case measure=>
      rw[xD.measure,HR.o.measure];exact FZ.o
theorem drop_at(id:Int)(hT:OkW T)(w:World)(h:aM g D w p mb ib nb T)(hid:(Lit.int .i64 id).wf=true):
  Calls Tryz.prog 178 #[ptr p,.int .i64 id] w (Turn g D w p mb (eU T id).2 (.int .i64 (eU T id).1)):=by
 by_cases hd:kC T id=0
 ·exact Zi id hT hd w h hid
 ·exact Va id hd w h hid
end
end Go.Proofs.YtmflaonodghbcaaGreatDoor
