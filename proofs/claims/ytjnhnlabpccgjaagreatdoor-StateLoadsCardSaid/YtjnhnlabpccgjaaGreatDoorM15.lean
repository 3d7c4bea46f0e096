/- DERIVED -/
import Derived.Test.YtjnhnlabpccgjaaGreatDoorProg
import Derived.Shelf.SlMaps.DeleteFunc
import Derived.Ground.SlmdProg
import Derived.Test.YtjnhnlabpccgjaaGreatDoorM14
set_option maxRecDepth 100000
set_option maxHeartbeats 64000000
set_option linter.all false
namespace Go.Proofs
open Go.Shelf
def Tryz.TN:Go.Shelf.Ren:=⟨fun|5=>183|n=>n,fun|23=>136|26=>9|24=>3|27=>226|0=>0|4=>4|n=>n,fun|n=>n⟩
theorem Tryz.delT:Go.Proofs.SlLaysDf.n5 Tryz.prog Tryz.TN:={
 mixed:=by kernel_rfl
 f5:=⟨Tryz.f183.name,by decide,Tryz.func183.trans (congrArg some (by kernel_rfl))⟩
 t0:=Tryz.underlying0
 a0:=Tryz.isAgg0
 z0:=Tryz.sizeOf0
 v0:=Tryz.zeroValue0
 t4:=Tryz.underlying4
 a4:=Tryz.isAgg4
 z4:=Tryz.sizeOf4
 v4:=Tryz.zeroValue4
 t23:=Tryz.underlying136
 a23:=Tryz.isAgg136
 z23:=Tryz.sizeOf136
 v23:=Tryz.zeroValue136
 a24:=Tryz.isAgg3
 z24:=Tryz.sizeOf3
 a26:=Tryz.isAgg9
 z26:=Tryz.sizeOf9
 t27:=Tryz.underlying226
 a27:=Tryz.isAgg226
 z27:=Tryz.sizeOf226
 v27:=Tryz.zeroValue226}
end Go.Proofs
namespace Go.Proofs.YtjnhnlabpccgjaaGreatDoor
open Go.ChangeShapes Go.WideShapes Go.ChangeAt Go.RowKit Go.MapKept
open Go.WideElems (Fit rd rg pl rd_key rd_val rg_of other_key)
def He(v:Value):Option (DataW Value×List MemPlace):=match v with| .int .i64 i=>some (.held v,[])|_=>none
theorem Js{v:Value}{z:DataW Value×List MemPlace}(h:He v=some z):∃i,v= .int .i64 i∧z=(.held (.int .i64 i),[]):=by
 unfold He at h;split at h
 ·exact⟨_,rfl,(aaH h).symm⟩
 ·cases h
theorem MapAt.toInt{w:World}{b:Nat}{l:List (Nm×Value)}(h:MapAt iq w b l)(hl:∀p∈l,∃i,p.2= .int .i64 i):w.ownsMap Tryz.prog 9 He b l.length (yE iq l):=by
 obtain⟨es,clock,hb,F,hs,hD⟩:=h;have key:∀x∈es.toList,∃i,x.val= .int .i64 i:=by
  intro x hx;obtain⟨y,hy⟩:=F.reads x hx;have h1:(rg Tryz.prog 9 oH x)∈(es.toList.map (rg Tryz.prog 9 oH)).foldr DataW.insert []:=(sorted_perm _).mem_iff.2 (List.mem_map.2 ⟨x,hx,rfl⟩);simp only[yE,DataW.map.injEq]at hD;rw[←hD]at h1;obtain⟨q,hq,e1⟩:=List.mem_map.1 h1;obtain⟨i,hi⟩:=hl q hq;obtain⟨z,hz,e2⟩:=rd_val hy;rw[rg_of hy]at e1;simp only[oH,Pd]at hz;refine⟨i,?_⟩;rw[←hz]at e2;have e3:=aaF Prod.snd e1;rw[e2]at e3;simp only[DataW.held.injEq]at e3;rw[←e3,hi]
 have hrd:∀x∈es.toList,rd Tryz.prog 9 He x=rd Tryz.prog 9 oH x:=by
  intro x hx;obtain⟨i,hi⟩:=key x hx;unfold rd;rw[hi];rfl
 refine⟨es,clock,hb,⟨F.size,F.stamped,fun x hx=> ?_⟩,hs,?_⟩
 ·rw[hrd x hx];exact F.reads x hx
 ·have e:es.toList.map (rg Tryz.prog 9 oH)=es.toList.map (rg Tryz.prog 9 He):=by
   apply aaz;intro x hx;unfold rg;rw[hrd x hx]
  rw[hD,e]
theorem toRaw{w:World}{b n:Nat}{D:DataW Value}(h:w.ownsMap Tryz.prog 9 He b n D):w.ownsMap Tryz.prog 9 oH b n D:=by
 obtain⟨es,clock,hb,F,hs,hD⟩:=h;have hrd:∀x∈es.toList,rd Tryz.prog 9 oH x=rd Tryz.prog 9 He x:=by
  intro x hx;obtain⟨y,hy⟩:=F.reads x hx;obtain⟨z,hz,_⟩:=rd_val hy;obtain⟨i,hi,_⟩:=Js hz;unfold rd;rw[hi];rfl
 refine⟨es,clock,hb,⟨F.size,F.stamped,fun x hx=> ?_⟩,hs,?_⟩
 ·rw[hrd x hx];exact F.reads x hx
 ·have e:es.toList.map (rg Tryz.prog 9 He)=es.toList.map (rg Tryz.prog 9 oH):=by
   apply aaz;intro x hx;unfold rg;rw[hrd x hx]
  rw[hD,e]
def isId(id:Int)(_:Lit)(d:DataW Value):Bool:=match d with| .held (.int .i64 k)=>decide (k=id)|_=>false
theorem Qe(id:Int)(vb:Nat)(key:Value)(k:Int)(w:World)(hc:w.cell? ⟨vb,0,none⟩=some (.int .i64 id)):
  Calls Tryz.prog 184 #[key,.int .i64 k,ptr vb] w fun e w'=>e= .returned (.bool (decide (k=id)))∧w=w':=by
 go_enter Tryz.func184,Tryz.ntmps184;go_wp2_with fail;go_ret;exact⟨kV (by by_cases h:k=id<;>simp[h]),rfl⟩
theorem delD(id:Int)(l:List (Nm×Int)):Lib.deleteFuncD (isId id) (yE iq (l.map fun e=>(e.1,(.int .i64 e.2:Value))))=yE iq ((l.filter fun e=> !decide (e.2=id)).map fun e=>(e.1,(.int .i64 e.2:Value))):=by
 unfold yE Lib.deleteFuncD;simp only[List.map_map,DataW.map.injEq];rw[abH];rfl
theorem Qf(id:Int)(vb b:Nat)(x:bJ)(w:World)(hM:MapAt iq w b (fA x))(hc:w.cell? ⟨vb,0,none⟩=some (.int .i64 id))(hvb:vb≠b)(hvw:vb<w.heap.size):
  Calls Tryz.prog 183 #[.map (some b),.func (.func 184) #[] #[ptr vb]] w fun e w'=>e= .returned (.tuple #[])∧MapAt iq w' b (fA (gT id x))∧Keeps (fun y=>y=b) w w':=by
 refine(AnyDf.maps_DeleteFunc Tryz.delT iq.law He (isId id) 184 #[ptr vb] b _ _ w ?_ (hM.toInt fun q hq=> ?_) fun W key val kl yd yp hg hk hv=> ?_).mono ?_
 ·exact enters_of Tryz.func184 (by kernel_rfl) rfl
 ·obtain⟨e,_,rfl⟩:=List.mem_map.1 hq;exact⟨_,rfl⟩
 ·obtain⟨i,rfl,hz⟩:=Js hv;cases hz;refine(Qe id vb key i W ?_).mono ?_
  ·rw[aau (w:=w) (w':=W) (a:=⟨vb,0,none⟩) (hg.block vb hvw (fun e=>hvb (aaH e)))];exact hc
  ·rintro e w' ⟨rfl,rfl⟩;exact⟨rfl,rfl,rfl,rfl,Nat.le_refl _,fun _ _ _=>rfl⟩
 ·rintro e w' ⟨rfl,h1,h2⟩;refine⟨rfl,?_,(Keeps.grown h2).mono fun z _ hz=>by simpa using hz.symm⟩;have h3:=toRaw h1;unfold fA at h3;rw[delD]at h3;exact MapAt.vZ h3
theorem TP(f:Value)(w:World):Calls Tryz.prog 183 #[.map none,f] w fun e w'=>e= .returned (.tuple #[])∧Below w.heap.size w w':=by
 go_enter Tryz.func183,Tryz.ntmps183;go_wp2_with (first|(at_range;refine Ac rfl _ 136 9 3 rfl Tryz.underlying136 rfl ?_))
 go_frame
 go_loopw [4,5] (fun _ _ wr=>wr=w.alloc (.mapIter none 0 #[] 0)) (fun _ _ wr=>0)
 case atStart=>exact rfl
 case round=>
  obtain rfl:=hrel;go_wp2_with (first|(at_next;refine BM rfl _ rfl rfl (MapKept.heap_alloc w _).1 ?_))
  go_end0
  exact⟨rfl,wall w _⟩
open Go.ChangeShapes Go.WideShapes Go.ChangeAt Go.RowKit
def stripL(left:Int→Bool)(T:aA)(id:Int):aA:=T.map fun q=>(q.1,if left q.1=true then q.2 else gT id q.2)
theorem LV(left:Int→Bool)(T:aA)(id k:Int):aj k (stripL left T id)=(aj k T).map fun x=>if left k=true then x else gT id x:=by
 unfold stripL;exact zV (fun k x=>if left k=true then x else gT id x) k T
theorem Hf{left:Int→Bool}{T:aA}{id:Int}(h:∀q∈T,left q.1=true):stripL left T id=T:=by
 unfold stripL
 conv=>rhs;rw[←List.map_id T]
 apply aaz;intro q hq;rw[if_pos (h q hq)];rfl
theorem LW{left:Int→Bool}{T:aA}{id:Int}(h:∀k,left k=false):stripL left T id=fO T id:=by
 unfold stripL fO gT;apply aaz;intro q hq;rw[if_neg (by rw[h];decide)]
theorem Jt{left:Int→Bool}{T:aA}{id k:Int}(h:left k=true):bC k (gT id) (stripL left T id)=stripL (fun z=>left z&& !decide (z=k)) T id:=by
 unfold stripL bC;rw[List.map_map];apply aaz;intro q hq;by_cases hk:q.1=k
 ·simp[hk,h]
 ·simp[hk]
section
variable{g:Nat→Own}{D:Nat→Prop}{p mb:Nat}{ib nb:Int→Nat}{T:aA}
theorem TQ{w w':World}{k id:Int}{x:bJ}(h:aP g D w p mb ib nb T)(hx:aj k T=some x)(hk:x.kind=2)(hM:MapAt iq w' (nb k) (fA (gT id x)))(hK:Keeps (fun b=>b=nb k) w w'):aP g D w' p mb ib nb (Go.Proofs.YtjnhnlabpccgjaaGreatDoor.bC k (gT id) T):=by
 have hn:=h.nG k x hx hk;have ti:=h.qg k x hx;have hb:∀b,b<w.heap.size→g b≠ .names k→w'.heap[b]? =w.heap[b]? :=fun b hb h2=>hK.block b hb (fun e=>h2 (by rw[show b=nb k from e];exact hn));refine h.bC hx rfl (fun _ h=>h) (fun b hb=>⟨h.data b hb,Nat.lt_of_lt_of_le (h.o_ b hb) hK.size⟩) hK.size (fun b hb1 h1 h2=>hb b hb1 h2) ?_;obtain⟨a,c,h1,h2,h3⟩:=(h.item k x hx).cells;exact⟨⟨a,c,(hb _ (h.low _ (by rw[ti];simp)) (by rw[ti];simp)).trans h1,h2,h3.kept hK.size fun b hD hbw=>hb b hbw (by rw[h.data b hD];simp)⟩,fun _=>hM⟩
theorem LX{w:World}{k id:Int}{x:bJ}(h:aP g D w p mb ib nb T)(hx:aj k T=some x)(hk:x.kind≠2):aP g D w p mb ib nb (Go.Proofs.YtjnhnlabpccgjaaGreatDoor.bC k (gT id) T):=by
 refine h.bC hx rfl (fun _ h=>h) (fun b hb=>⟨h.data b hb,h.o_ b hb⟩) acu (fun _ _ _ _=>rfl) ?_;obtain⟨a,c,h1,h2,h3⟩:=(h.item k x hx).cells;exact⟨⟨a,c,h1,h2,h3⟩,fun h=>absurd h hk⟩
end
section
variable{g:Nat→Own}{D:Nat→Prop}{p mb:Nat}{ib nb:Int→Nat}{T:aA}
def Xq(g:Nat→Own)(D:Nat→Prop)(w:World)(p mb:Nat)(ib nb:Int→Nat)(T:aA)(id:Int)(r:Nat)(wr:World):Prop:=
 ∃(left:Int→Bool) (cnt:Nat),fJ bK wr mb r (T.map fun q=>(q.1,ptr (ib q.1))) left cnt∧aP g D wr p mb ib nb (stripL left T id)∧wr.cell? ⟨w.heap.size,0,none⟩=some (.int .i64 id)∧Keeps (fun b=>g b≠ .none) w wr∧w.heap.size<wr.heap.size
theorem Xr(id:Int)(hT:OkW T)(hd:jf T id=0)(w:World)(h:aP g D w p mb ib nb T)(hid:(Lit.int .i64 id).wf=true):
  Calls Tryz.prog 132 #[ptr p,.int .i64 id] w (Turn g D w p mb (dO T id).2 (.int .i64 (dO T id).1)):=by
 have WM:dO T id=(0,bP id (fO T id)):=by
  unfold dO;rw[hd,rY,if_pos rfl]
 have HM:=acr WM;clear WM;obtain⟨x,hx,hk,hcl⟩:=Dt hd;have HH:=acr h;have HT:=acr hT;have hcb:(w.alloc (.cells #[.int .i64 id] 3)).cell? ⟨w.heap.size,0,none⟩=some (.int .i64 id):=qj;have hA:=h.below (wall w (.cells #[.int .i64 id] 3)) acu;have HA:=acr hA;have HF:=acr (Ci id hx hk _ hA hid);obtain⟨c0,c1,c2,c3,c4,c5,c7,hiw⟩:=(hA.item id x hx).cell;rw[hcl]at c5;have q0:=hA.cell.1;have n_:=acr hA.map;have HW:=acr hid;clear hcl hx hk h c7 hA hd hT hid;go_enter Tryz.func132,Tryz.ntmps132;go_wp2_with fail;refine HF.o.mono ?_;rintro e w1 ⟨rfl,rfl⟩;go_wp2_with (at_range;refine oZ bK rfl _ 104 102 rfl Tryz.underlying104 rfl n_.o ?_;intro w0 hR0 hB0 hs0)
 go_frame
 rw[Pe]at hR0 hB0 hs0;rw[Pe]
 go_loopw [8] (fun _ wr=>Xq g D w p mb ib nb T id (w.heap.size+1) wr) (fun _ wr=>wr.rangeLeft mb (w.heap.size+1))
 case atStart=>
  refine⟨_,_,hR0,?_,?_,?_,by omega⟩
  ·rw[Hf (fun q hq=>by rw[eX,aS bY HT.o.sorted hq];rfl)];exact HA.o.below hB0 (by rw[Pe];omega)
  ·rw[aau (w:=w.alloc (.cells #[.int .i64 id] 3)) (w':=w0) (a:=⟨w.heap.size,0,none⟩) (hB0.block _ (by show w.heap.size<_;omega))];exact qj
  ·exact lW ((wall w _).trans (hB0.mono (by omega)))
 case round=>
  obtain⟨left,cnt,hR,hA,hcv,hK,hsw⟩:=hrel;have HA1:=acr hA;have HR:=acr hR;have HK:=acr hK;clear hR hA hK;go_wp2_with (first|(at_next;refine qU bK rfl _ rfl rfl HR.o ?_ ?_))
  ·intro hdone;have FU:acs (stripL left T id=fO T id):=LW hdone;clear hdone;have p0:=HA1.o.cell.1;have hpw:=HA1.o.cell.2.1;have hmw:=HA1.o.cell.2.2;have hmw0:=HH.o.cell.2.2
   have hst:∃w4,(∀ty,(Builtin.delete_ #[104,3] ty #[.map (some mb),.int .i64 id]).run Tryz.prog wr.drew= .ok (.tuple #[]) w4)∧MapAt bK w4 mb (bP id ((stripL left T id).map fun q=>(q.1,ptr (ib q.1))))∧wr.drew.mapTurned w4 mb:=
    MapAt.Jb (F:=bK) Tryz.underlying104 (HA1.o.map.kept (w':=wr.drew) rfl) id HW.o
   have HST:=acr hst;have hne1:p≠mb:=fun e=>by have h1:=HH.o.qO;rw[e,HH.o.jQ]at h1;cases h1
   have hne2:w.heap.size≠mb:=by omega
   have iW:acs (∀w4,wr.drew.mapTurned w4 mb→w4.cell? ⟨p,0,none⟩=some (.map (some mb))∧w4.cell? ⟨w.heap.size,0,none⟩=some (.int .i64 id)):=fun w4 hT=>⟨(aau (w:=wr.drew) (w':=w4) (a:=⟨p,0,none⟩) (dL hT p hpw hne1)).trans p0,(aau (w:=wr.drew) (w':=w4) (a:=⟨w.heap.size,0,none⟩) (dL hT _ hsw hne2)).trans hcv⟩;clear hst hne1 hne2;go_wp2
   go_region_held3 (fun w'=>w'.cell? ⟨p,0,none⟩=some (.map (some mb))∧w'.cell? ⟨w.heap.size,0,none⟩=some (.int .i64 id)) (first|exact⟨p0,hcv⟩|exact iW.o _ kK) ((first|(obtain⟨w4,FK,uX,kK⟩:=HST.o;rw[FK];go_simp)))
   have nI:=acr uX;have IJ:=acr kK;clear uX kK;go_wp2;go_ret;rw[HM.o];have hK4:=iF IJ.o;have La:=(HA1.o.below acv.drew acu).del nI.o hK4.size (fun b hb hbm=>hK4.block b hb hbm);rw[FU.o]at La;have hgm:=HH.o.jQ;exact Turn.of rfl La (HK.o.trans ((lW acv.drew).trans (hK4.mono fun b _ hb=>by rw[show b=mb from hb,hgm];simp) (fun _ _ h=>h)) (fun _ _ h=>h))
  ·intro k v w3 cnt1 TR hleft hg2 nu hlt hK1 hs1 hen;rw[eX]at hg2;cases hy:aj k T with
   |none=>rw[hy]at hg2;cases hg2
   |some y=>
    rw[hy]at hg2;cases hg2;have hyl:aj k (stripL left T id)=some y:=by rw[LV,hy];simp[hleft]
    have hrl:=HR.o.lt;have hA3:aP g D w3 p mb ib nb (stripL left T id):=HA1.o.keeps hK1 fun b hb hbr=>by
     rcases hb with hb|hb
     ·have:=HH.o.low b hb;omega
     ·have:=HH.o.o_ b hb;omega
    have Xp:=acr hA3;have HY:=acr hyl;have HR1:=acr nu;have wB:=acr hlt;have yV:acs (Keeps (fun b=>g b≠ .none) w w3):=⟨hK1.os.trans HK.o.os,hK1.tape.trans HK.o.tape,hK1.output.trans HK.o.output,by rw[hs1];exact HK.o.size,fun b hb hn=>(hK1.block b (by have:=HK.o.size;omega) (by omega)).trans (HK.o.block b hb hn)⟩;have hcv3:w3.cell? ⟨w.heap.size,0,none⟩=some (.int .i64 id):=(aau (w:=wr) (w':=w3) (a:=⟨w.heap.size,0,none⟩) (hK1.block _ hsw (by show ¬w.heap.size=w.heap.size+1;omega))).trans hcv;have ZC:acs (bC k (gT id) (stripL left T id)=stripL (fun z=>left z&& !decide (z=k)) T id):=Jt hleft;obtain⟨_,_,_,_,_,_,d7,_⟩:=(Xp.o.item k y hyl).cell;have hsw3:w.heap.size<w3.heap.size:=by omega
    have e3:bK.val k= .int .i64 k:=rfl;rw[e3]at hen⊢;clear e3 hy hyl hA3 nu hlt hK1;by_cases hk2:y.kind=2
    ·have e2:fu y (nb k)= .map (some (nb k)):=if_pos hk2;rw[e2]at d7;have hnt:=Xp.o.nG k y HY.o hk2;have hnw:nb k<w.heap.size:=HH.o.low _ (by rw[hnt];simp);have HDF:=acr (Qf id w.heap.size (nb k) y w3 ((Xp.o.item k y HY.o).names hk2) hcv3 (by omega) hsw3);have N9:=acr hk2;have HNT:=acr hnt;clear hk2 e2 hnt;go_wp2_with fail;refine HDF.o.mono ?_;rintro e w4 ⟨rfl,uX,hK4⟩;have nI:=acr uX;have Bc:=acr hK4;clear uX hK4;go_wp2_with fail;have hmn:mb≠nb k:=fun e=>by have h1:=HH.o.jQ;rw[e,HNT.o]at h1;cases h1
     have Cq:fJ bK w4 mb (w.heap.size+1) (T.map fun q=>(q.1,ptr (ib q.1))) _ cnt1:=HR1.o.kept (Bc.o.block mb HR1.o.lt.1 hmn) (Bc.o.block _ HR1.o.lt.2.1 (by omega));go_roundw
     case rel=>
      refine⟨_,cnt1,Cq,?_,?_,?_,?_⟩
      ·rw[←ZC.o];exact TQ Xp.o HY.o N9.o nI.o Bc.o
      ·exact(aau (w:=w3) (w':=w4) (a:=⟨w.heap.size,0,none⟩) (Bc.o.block _ hsw3 (by show w.heap.size≠nb k;omega))).trans hcv3
      ·exact yV.o.trans (Bc.o.mono fun b _ hb=>by rw[show b=nb k from hb,HNT.o];simp) (fun _ _ h=>h)
      ·have:=Bc.o.size;omega
     case measure=>
      rw[Cq.measure,HR.o.measure];exact wB.o
    ·have e2:fu y (nb k)= .map none:=if_neg hk2;rw[e2]at d7;have N9:=acr hk2;clear hk2 e2;go_wp2_with fail;refine(TP _ _).mono ?_;rintro e w4 ⟨rfl,hb4⟩;have eT:=acr hb4;clear hb4;go_wp2_with fail;have Cq:fJ bK w4 mb (w.heap.size+1) (T.map fun q=>(q.1,ptr (ib q.1))) _ cnt1:=HR1.o.kept (eT.o.block mb HR1.o.lt.1) (eT.o.block _ HR1.o.lt.2.1);go_roundw
     case rel=>
      refine⟨_,cnt1,Cq,?_,?_,?_,?_⟩
      ·rw[←ZC.o];exact(LX Xp.o HY.o N9.o).below eT.o acu
      ·exact(aau (w:=w3) (w':=w4) (a:=⟨w.heap.size,0,none⟩) (eT.o.block _ hsw3)).trans hcv3
      ·exact yV.o.trans (lW eT.o) (fun _ _ h=>h)
      ·have:=eT.o.size;omega
     case measure=>
      rw[Cq.measure,HR.o.measure];exact wB.o
theorem drop_at(id:Int)(hT:OkW T)(w:World)(h:aP g D w p mb ib nb T)(hid:(Lit.int .i64 id).wf=true):
  Calls Tryz.prog 132 #[ptr p,.int .i64 id] w (Turn g D w p mb (dO T id).2 (.int .i64 (dO T id).1)):=by
 by_cases hd:jf T id=0
 ·exact Xr id hT hd w h hid
 ·exact Tt id hd w h hid
end
end Go.Proofs.YtjnhnlabpccgjaaGreatDoor
