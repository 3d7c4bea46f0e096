/- DERIVED: THE SHELF's CONTRACTS AT THIS DUMP, IN PLAIN WORDS (tools/lay-plain.mjs out of 'YtjnhnlabpccgjaaGreatLaypDropLay.lean', which tools/lay-shelf.mjs wrote): THE SAME DECLARATIONS UNDER THE SAME NAMES: 'import', 'namespace', 'open', 'def', 'theorem' AND NOTHING ELSE: no command of the shelf's: FOR A HAND-IN. Each laying: the table of numbers ('.._ren') and one theorem, a field a fact of the dump's own or the kernel's comparison; each contract: ONE APPLICATION. maps.DeleteFunc of a directory's names: those of one node go. tree: Drop. -/
import Derived.Test.YtjnhnlabpccgjaaGreatProg
import Derived.Shelf.SlMaps.DeleteFunc
import Derived.Ground.SlmdProg
import Derived.Test.YtjnhnlabpccgjaaGreatM14
namespace Go.Proofs
open Go.Shelf
def Tryz.NJ:Go.Shelf.Ren:=⟨fun|5=>154|n=>n,fun|23=>110|26=>9|24=>3|27=>204|0=>0|4=>4|n=>n,fun|n=>n⟩
theorem Tryz.delT:Go.Proofs.SlLaysDf.n5 Tryz.prog Tryz.NJ:={
 mixed:=by kernel_rfl
 f5:=⟨Tryz.f154.name,by decide,Tryz.func154.trans (congrArg some (by kernel_rfl))⟩
 t0:=Tryz.underlying0
 a0:=Tryz.isAgg0
 z0:=Tryz.sizeOf0
 v0:=Tryz.zeroValue0
 t4:=Tryz.underlying4
 a4:=Tryz.isAgg4
 z4:=Tryz.sizeOf4
 v4:=Tryz.zeroValue4
 t23:=Tryz.underlying110
 a23:=Tryz.isAgg110
 z23:=Tryz.sizeOf110
 v23:=Tryz.zeroValue110
 a24:=Tryz.isAgg3
 z24:=Tryz.sizeOf3
 a26:=Tryz.isAgg9
 z26:=Tryz.sizeOf9
 t27:=Tryz.underlying204
 a27:=Tryz.isAgg204
 z27:=Tryz.sizeOf204
 v27:=Tryz.zeroValue204}
end Go.Proofs
namespace Go.Proofs.YtjnhnlabpccgjaaGreat
open Go.ChangeShapes Go.WideShapes Go.ChangeAt Go.RowKit Go.MapKept
open Go.WideElems (Fit rd rg pl rd_key rd_val rg_of other_key)
set_option linter.unusedVariables false
set_option linter.unusedSimpArgs false
def CW (v:Value):Option (DataW Value×List MemPlace):=match v with| .int .i64 i=>some (.held v,[])|_=>none
theorem Ev {v:Value} {z:DataW Value×List MemPlace} (h:CW v=some z):∃i,v= .int .i64 i∧z=(.held (.int .i64 i),[]):=by
 unfold CW at h
 split at h
 ·exact⟨_,rfl,(Option.some.inj h).symm⟩
 ·cases h
theorem MapAt.toInt {w:World} {b:Nat} {l:List (Nm×Value)} (h:MapAt fM w b l) (hl:∀p∈l,∃i,p.2= .int .i64 i):w.ownsMap Tryz.prog 9 CW b l.length (uf fM l):=by
 obtain⟨es,clock,hb,F,hs,hD⟩:=h
 have key:∀x∈es.toList,∃i,x.val= .int .i64 i:=by
  intro x hx
  obtain⟨y,hy⟩:=F.reads x hx
  have h1:(rg Tryz.prog 9 mg x)∈(es.toList.map (rg Tryz.prog 9 mg)).foldr DataW.insert []:=(sorted_perm _).mem_iff.2 (List.mem_map.2 ⟨x,hx,rfl⟩)
  simp only[uf,DataW.map.injEq]at hD
  rw[←hD]at h1
  obtain⟨q,hq,e1⟩:=List.mem_map.1 h1
  obtain⟨i,hi⟩:=hl q hq
  obtain⟨z,hz,e2⟩:=rd_val hy
  rw[rg_of hy]at e1
  simp only[mg,Option.some.injEq]at hz
  refine⟨i,?_⟩
  rw[←hz]at e2
  have e3:=congrArg Prod.snd e1
  rw[e2]at e3
  simp only[DataW.held.injEq]at e3
  rw[←e3,hi]
 have hrd:∀x∈es.toList,rd Tryz.prog 9 CW x=rd Tryz.prog 9 mg x:=by
  intro x hx
  obtain⟨i,hi⟩:=key x hx
  unfold rd
  rw[hi];rfl
 refine⟨es,clock,hb,⟨F.size,F.stamped,fun x hx=> ?_⟩,hs,?_⟩
 ·rw[hrd x hx];exact F.reads x hx
 ·have e:es.toList.map (rg Tryz.prog 9 mg)=es.toList.map (rg Tryz.prog 9 CW):=by
   apply List.map_congr_left
   intro x hx
   unfold rg
   rw[hrd x hx]
  rw[hD,e]
theorem Yd {w:World} {b n:Nat} {D:DataW Value} (h:w.ownsMap Tryz.prog 9 CW b n D):w.ownsMap Tryz.prog 9 mg b n D:=by
 obtain⟨es,clock,hb,F,hs,hD⟩:=h
 have hrd:∀x∈es.toList,rd Tryz.prog 9 mg x=rd Tryz.prog 9 CW x:=by
  intro x hx
  obtain⟨y,hy⟩:=F.reads x hx
  obtain⟨z,hz,_⟩:=rd_val hy
  obtain⟨i,hi,_⟩:=Ev hz
  unfold rd
  rw[hi];rfl
 refine⟨es,clock,hb,⟨F.size,F.stamped,fun x hx=> ?_⟩,hs,?_⟩
 ·rw[hrd x hx];exact F.reads x hx
 ·have e:es.toList.map (rg Tryz.prog 9 CW)=es.toList.map (rg Tryz.prog 9 mg):=by
   apply List.map_congr_left
   intro x hx
   unfold rg
   rw[hrd x hx]
  rw[hD,e]
def isId (id:Int) (_:Lit) (d:DataW Value):Bool:=match d with| .held (.int .i64 k)=>decide (k=id)|_=>false
theorem Kt (id:Int) (vb:Nat) (key:Value) (k:Int) (w:World) (hc:w.cell? ⟨vb,0,none⟩=some (.int .i64 id)):
  Calls Tryz.prog 155 #[key, .int .i64 k,ptr vb] w fun e w'=>e= .returned (.bool (decide (k=id)))∧w=w':=by
 go_enter Tryz.func155,Tryz.ntmps155
 go_wp2_with fail
 go_ret
 exact⟨iZ (by by_cases h:k=id<;>simp[h]),rfl⟩
theorem delD (id:Int) (l:List (Nm×Int)):Lib.deleteFuncD (isId id) (uf fM (l.map fun e=>(e.1,(.int .i64 e.2:Value))))=uf fM ((l.filter fun e=> !decide (e.2=id)).map fun e=>(e.1,(.int .i64 e.2:Value))):=by
 unfold uf Lib.deleteFuncD
 simp only[List.map_map,DataW.map.injEq]
 rw[List.filter_map]
 rfl
theorem Ku (id:Int) (vb b:Nat) (x:bq) (w:World) (hM:MapAt fM w b (dV x)) (hc:w.cell? ⟨vb,0,none⟩=some (.int .i64 id)) (hvb:vb≠b) (hvw:vb<w.heap.size):
  Calls Tryz.prog 154 #[.map (some b), .func (.func 155) #[] #[ptr vb]] w fun e w'=>e= .returned (.tuple #[])∧MapAt fM w' b (dV (fE id x))∧Keeps (fun y=>y=b) w w':=by
 refine(AnyDf.maps_DeleteFunc Tryz.delT fM.law CW (isId id) 155 #[ptr vb] b _ _ w ?_ (hM.toInt fun q hq=> ?_) fun W key val kl yd yp hg hk hv=> ?_).mono ?_
 ·exact enters_of Tryz.func155 (by kernel_rfl) rfl
 ·obtain⟨e,_,rfl⟩:=List.mem_map.1 hq
  exact⟨_,rfl⟩
 ·obtain⟨i,rfl,hz⟩:=Ev hv
  cases hz
  refine(Kt id vb key i W ?_).mono ?_
  ·rw[World.cell?_of_block (w:=w) (w':=W) (a:=⟨vb,0,none⟩) (hg.block vb hvw (fun e=>hvb (Option.some.inj e)))];exact hc
  ·rintro e w' ⟨rfl,rfl⟩
   exact⟨rfl,rfl,rfl,rfl,Nat.le_refl _,fun _ _ _=>rfl⟩
 ·rintro e w' ⟨rfl,h1,h2⟩
  refine⟨rfl,?_,(Keeps.grown h2).mono fun z _ hz=>by simpa using hz.symm⟩
  have h3:=Yd h1
  unfold dV at h3
  rw[delD]at h3
  exact MapAt.rT h3
theorem NK (f:Value) (w:World):Calls Tryz.prog 154 #[.map none,f] w fun e w'=>e= .returned (.tuple #[])∧Below w.heap.size w w':=by
 go_enter Tryz.func154,Tryz.ntmps154
 go_wp2_with (first|(at_range;refine vM rfl _ 110 9 3 rfl Tryz.underlying110 rfl ?_))
 go_frame
 go_loopw [4,5] (fun _ _ wr=>wr=w.alloc (.mapIter none 0 #[] 0)) (fun _ _ wr=>0)
 case atStart=>exact rfl
 case round=>
  obtain rfl:=hrel
  go_wp2_with (first|(at_next;refine xI rfl _ rfl rfl (MapKept.heap_alloc w _).1 ?_))
  go_end0
  exact⟨rfl,wall w _⟩
open Go.ChangeShapes Go.WideShapes Go.ChangeAt Go.RowKit
def stripL (left:Int→Bool) (T:aA) (id:Int):aA:=T.map fun q=>(q.1,if left q.1=true then q.2 else fE id q.2)
theorem GI (left:Int→Bool) (T:aA) (id k:Int):aj k (stripL left T id)=(aj k T).map fun x=>if left k=true then x else fE id x:=by
 unfold stripL
 exact vC (fun k x=>if left k=true then x else fE id x) k T
theorem CX {left:Int→Bool} {T:aA} {id:Int} (h:∀q∈T,left q.1=true):stripL left T id=T:=by
 unfold stripL
 conv=>rhs;rw[←List.map_id T]
 apply List.map_congr_left
 intro q hq
 rw[if_pos (h q hq)];rfl
theorem GJ {left:Int→Bool} {T:aA} {id:Int} (h:∀k,left k=false):stripL left T id=eP T id:=by
 unfold stripL eP fE
 apply List.map_congr_left
 intro q hq
 rw[if_neg (by rw[h];decide)]
theorem Ew {left:Int→Bool} {T:aA} {id k:Int} (h:left k=true):aX k (fE id) (stripL left T id)=stripL (fun z=>left z&& !decide (z=k)) T id:=by
 unfold stripL aX
 rw[List.map_map]
 apply List.map_congr_left
 intro q hq
 by_cases hk:q.1=k
 ·simp[hk,h]
 ·simp[hk]
section
variable {g:Nat→Own} {D:Nat→Prop} {p mb:Nat} {ib nb:Int→Nat} {T:aA}
theorem NM {w w':World} {k id:Int} {x:bq} (h:aH g D w p mb ib nb T) (hx:aj k T=some x) (hk:x.kind=2) (hM:MapAt fM w' (nb k) (dV (fE id x))) (hK:Keeps (fun b=>b=nb k) w w'):aH g D w' p mb ib nb (Go.Proofs.YtjnhnlabpccgjaaGreat.aX k (fE id) T):=by
 have hn:=h.kZ k x hx hk
 have ti:=h.nk k x hx
 have hb:∀b,b<w.heap.size→g b≠ .names k→w'.heap[b]? =w.heap[b]? :=fun b hb h2=>hK.block b hb (fun e=>h2 (by rw[show b=nb k from e];exact hn))
 refine h.aX hx rfl (fun _ h=>h) (fun b hb=>⟨h.data b hb,Nat.lt_of_lt_of_le (h.mh b hb) hK.size⟩) hK.size (fun b hb1 h1 h2=>hb b hb1 h2) ?_
 obtain⟨a,c,h1,h2,h3⟩:=(h.item k x hx).cells
 exact⟨⟨a,c,(hb _ (h.low _ (by rw[ti];simp)) (by rw[ti];simp)).trans h1,h2,h3.kept hK.size fun b hD hbw=>hb b hbw (by rw[h.data b hD];simp)⟩,fun _=>hM⟩
theorem GK {w:World} {k id:Int} {x:bq} (h:aH g D w p mb ib nb T) (hx:aj k T=some x) (hk:x.kind≠2):aH g D w p mb ib nb (Go.Proofs.YtjnhnlabpccgjaaGreat.aX k (fE id) T):=by
 refine h.aX hx rfl (fun _ h=>h) (fun b hb=>⟨h.data b hb,h.mh b hb⟩) (Nat.le_refl _) (fun _ _ _ _=>rfl) ?_
 obtain⟨a,c,h1,h2,h3⟩:=(h.item k x hx).cells
 exact⟨⟨a,c,h1,h2,h3⟩,fun h=>absurd h hk⟩
end
section
variable {g:Nat→Own} {D:Nat→Prop} {p mb:Nat} {ib nb:Int→Nat} {T:aA}
def Rf (g:Nat→Own) (D:Nat→Prop) (w:World) (p mb:Nat) (ib nb:Int→Nat) (T:aA) (id:Int) (r:Nat) (wr:World):Prop:=
 ∃(left:Int→Bool) (cnt:Nat),eG aW wr mb r (T.map fun q=>(q.1,ptr (ib q.1))) left cnt∧aH g D wr p mb ib nb (stripL left T id)∧wr.cell? ⟨w.heap.size,0,none⟩=some (.int .i64 id)∧Keeps (fun b=>g b≠ .none) w wr∧w.heap.size<wr.heap.size
set_option maxRecDepth 100000 in
set_option maxHeartbeats 4000000 in
theorem Rh (id:Int) (hT:OkW T) (hd:gK T id=0) (w:World) (h:aH g D w p mb ib nb T) (hid:(Lit.int .i64 id).wf=true):
  Calls Tryz.prog 111 #[ptr p, .int .i64 id] w (Turn g D w p mb (cu T id).2 (.int .i64 (cu T id).1)):=by
 have TT:cu T id=(0,bF id (eP T id)):=by
  unfold cu
  rw[hd,oQ,if_pos rfl]
 have HM:=Lib.hid TT
 clear TT
 obtain⟨x,hx,hk,hcl⟩:=yZ hd
 have HH:=Lib.hid h
 have HT:=Lib.hid hT
 have hcb:(w.alloc (.cells #[.int .i64 id] 3)).cell? ⟨w.heap.size,0,none⟩=some (.int .i64 id):=jN
 have hA:=h.below (wall w (.cells #[.int .i64 id] 3)) (Nat.le_refl _)
 have HA:=Lib.hid hA
 have HF:=Lib.hid (xU id hx hk _ hA hid)
 obtain⟨c0,c1,c2,c3,c4,c5,c7,hiw⟩:=(hA.item id x hx).cell
 rw[hcl]at c5
 have q0:=hA.cell.1
 have lQ:=Lib.hid hA.map
 have HW:=Lib.hid hid
 clear hcl hx hk h c7 hA hd hT hid
 go_enter Tryz.func111,Tryz.ntmps111
 go_wp2_with fail
 (with_reducible refine HF.out.mono ?_)
 rintro e w1 ⟨rfl,rfl⟩
 go_wp2_with (at_range;refine mK aW rfl _ 104 107 rfl Tryz.underlying104 rfl lQ.out ?_;intro w0 hR0 hB0 hs0)
 go_frame
 rw[World.size_alloc]at hR0 hB0 hs0
 rw[World.size_alloc]
 go_loopw [8] (fun _ wr=>Rf g D w p mb ib nb T id (w.heap.size+1) wr) (fun _ wr=>wr.rangeLeft mb (w.heap.size+1))
 case atStart=>
  refine⟨_,_,hR0,?_,?_,?_,by omega⟩
  ·rw[CX (fun q hq=>by rw[dN,aI bH HT.out.sorted hq];rfl)]
   exact HA.out.below hB0 (by rw[World.size_alloc];omega)
  ·rw[World.cell?_of_block (w:=w.alloc (.cells #[.int .i64 id] 3)) (w':=w0) (a:=⟨w.heap.size,0,none⟩) (hB0.block _ (by show w.heap.size<_;omega))]
   exact jN
  ·exact gU ((wall w _).trans (hB0.mono (by omega)))
 case round=>
  obtain⟨left,cnt,hR,hA,hcv,hK,hsw⟩:=hrel
  have HA1:=Lib.hid hA
  have HR:=Lib.hid hR
  have HK:=Lib.hid hK
  clear hR hA hK
  go_wp2_with (first|(at_next;refine nU aW rfl _ rfl rfl HR.out ?_ ?_))
  ·intro hdone
   have Ye:Hid (stripL left T id=eP T id):=GJ hdone
   clear hdone
   have p0:=HA1.out.cell.1
   have hpw:=HA1.out.cell.2.1
   have hmw:=HA1.out.cell.2.2
   have hmw0:=HH.out.cell.2.2
   have hst:∃w4,(∀ty,(Builtin.delete_ #[104,3] ty #[.map (some mb), .int .i64 id]).run Tryz.prog wr.drew= .ok (.tuple #[]) w4)∧MapAt aW w4 mb (bF id ((stripL left T id).map fun q=>(q.1,ptr (ib q.1))))∧wr.drew.mapTurned w4 mb:=
    MapAt.Ec (F:=aW) Tryz.underlying104 (HA1.out.map.kept (w':=wr.drew) rfl) id HW.out
   have HST:=Lib.hid hst
   have hne1:p≠mb:=fun e=>by have h1:=HH.out.nS;rw[e,HH.out.iH]at h1;cases h1
   have hne2:w.heap.size≠mb:=by omega
   have iK:Hid (∀w4,wr.drew.mapTurned w4 mb→w4.cell? ⟨p,0,none⟩=some (.map (some mb))∧w4.cell? ⟨w.heap.size,0,none⟩=some (.int .i64 id)):=fun w4 hT=>⟨(World.cell?_of_block (w:=wr.drew) (w':=w4) (a:=⟨p,0,none⟩) (bX hT p hpw hne1)).trans p0,(World.cell?_of_block (w:=wr.drew) (w':=w4) (a:=⟨w.heap.size,0,none⟩) (bX hT _ hsw hne2)).trans hcv⟩
   clear hst hne1 hne2
   go_wp2
   go_region_held3 (fun w'=>w'.cell? ⟨p,0,none⟩=some (.map (some mb))∧w'.cell? ⟨w.heap.size,0,none⟩=some (.int .i64 id)) (first|exact⟨p0,hcv⟩|exact iK.out _ vk) ((first|(obtain⟨w4,BH,CJ,vk⟩:=HST.out;rw[BH];go_simp)))
   have qD:=Lib.hid CJ
   have yP:=Lib.hid vk
   clear CJ vk
   go_wp2
   go_ret
   rw[HM.out]
   have hK4:=fT yP.out
   have FY:=(HA1.out.below (Below.refl _ _).drew (Nat.le_refl _)).del qD.out hK4.size (fun b hb X0=>hK4.block b hb X0)
   rw[Ye.out]at FY
   have hgm:=HH.out.iH
   exact Turn.of rfl FY (HK.out.trans ((gU (Below.refl _ _).drew).trans (hK4.mono fun b _ hb=>by rw[show b=mb from hb,hgm];simp) (fun _ _ h=>h)) (fun _ _ h=>h))
  ·intro k v w3 cnt1 NP hleft hg2 mo hlt hK1 hs1 hen
   rw[dN]at hg2
   cases hy:aj k T with
   |none=>rw[hy]at hg2;cases hg2
   |some y=>
    rw[hy]at hg2
    cases hg2
    have hyl:aj k (stripL left T id)=some y:=by rw[GI,hy];simp[hleft]
    have hrl:=HR.out.lt
    have hA3:aH g D w3 p mb ib nb (stripL left T id):=HA1.out.keeps hK1 fun b hb hbr=>by
     rcases hb with hb|hb
     ·have:=HH.out.low b hb;omega
     ·have:=HH.out.mh b hb;omega
    have Rb:=Lib.hid hA3
    have HY:=Lib.hid hyl
    have HR1:=Lib.hid mo
    have xJ:=Lib.hid hlt
    have sF:Hid (Keeps (fun b=>g b≠ .none) w w3):=⟨hK1.os.trans HK.out.os,hK1.tape.trans HK.out.tape,hK1.output.trans HK.out.output,by rw[hs1];exact HK.out.size,fun b hb hn=>(hK1.block b (by have:=HK.out.size;omega) (by omega)).trans (HK.out.block b hb hn)⟩
    have U8:w3.cell? ⟨w.heap.size,0,none⟩=some (.int .i64 id):=(World.cell?_of_block (w:=wr) (w':=w3) (a:=⟨w.heap.size,0,none⟩) (hK1.block _ hsw (by show ¬w.heap.size=w.heap.size+1;omega))).trans hcv
    have TU:Hid (aX k (fE id) (stripL left T id)=stripL (fun z=>left z&& !decide (z=k)) T id):=Ew hleft
    obtain⟨_,_,_,_,_,_,d7,_⟩:=(Rb.out.item k y hyl).cell
    have U9:w.heap.size<w3.heap.size:=by omega
    have e3:aW.val k= .int .i64 k:=rfl
    rw[e3]at hen⊢
    clear e3 hy hyl hA3 mo hlt hK1
    by_cases hk2:y.kind=2
    ·have e2:dU y (nb k)= .map (some (nb k)):=if_pos hk2
     rw[e2]at d7
     have hnt:=Rb.out.kZ k y HY.out hk2
     have hnw:nb k<w.heap.size:=HH.out.low _ (by rw[hnt];simp)
     have HDF:=Lib.hid (Ku id w.heap.size (nb k) y w3 ((Rb.out.item k y HY.out).names hk2) U8 (by omega) U9)
     have BI:=Lib.hid hk2
     have HNT:=Lib.hid hnt
     clear hk2 e2 hnt
     go_wp2_with fail
     (with_reducible refine HDF.out.mono ?_)
     rintro e w4 ⟨rfl,CJ,hK4⟩
     have qD:=Lib.hid CJ
     have FZ:=Lib.hid hK4
     clear CJ hK4
     go_wp2_with fail
     have hmn:mb≠nb k:=fun e=>by have h1:=HH.out.iH;rw[e,HNT.out]at h1;cases h1
     have DT:eG aW w4 mb (w.heap.size+1) (T.map fun q=>(q.1,ptr (ib q.1))) _ cnt1:=HR1.out.kept (FZ.out.block mb HR1.out.lt.1 hmn) (FZ.out.block _ HR1.out.lt.2.1 (by omega))
     go_roundw
     case rel=>
      refine⟨_,cnt1,DT,?_,?_,?_,?_⟩
      ·rw[←TU.out]
       exact NM Rb.out HY.out BI.out qD.out FZ.out
      ·exact(World.cell?_of_block (w:=w3) (w':=w4) (a:=⟨w.heap.size,0,none⟩) (FZ.out.block _ U9 (by show w.heap.size≠nb k;omega))).trans U8
      ·exact sF.out.trans (FZ.out.mono fun b _ hb=>by rw[show b=nb k from hb,HNT.out];simp) (fun _ _ h=>h)
      ·have:=FZ.out.size;omega
     case measure=>
      rw[DT.measure,HR.out.measure]
      exact xJ.out
    ·have e2:dU y (nb k)= .map none:=if_neg hk2
     rw[e2]at d7
     have BI:=Lib.hid hk2
     clear hk2 e2
     go_wp2_with fail
     (with_reducible refine(NK _ _).mono ?_)
     rintro e w4 ⟨rfl,hb4⟩
     have kG:=Lib.hid hb4
     clear hb4
     go_wp2_with fail
     have DT:eG aW w4 mb (w.heap.size+1) (T.map fun q=>(q.1,ptr (ib q.1))) _ cnt1:=HR1.out.kept (kG.out.block mb HR1.out.lt.1) (kG.out.block _ HR1.out.lt.2.1)
     go_roundw
     case rel=>
      refine⟨_,cnt1,DT,?_,?_,?_,?_⟩
      ·rw[←TU.out]
       exact(GK Rb.out HY.out BI.out).below kG.out (Nat.le_refl _)
      ·exact(World.cell?_of_block (w:=w3) (w':=w4) (a:=⟨w.heap.size,0,none⟩) (kG.out.block _ U9)).trans U8
      ·exact sF.out.trans (gU kG.out) (fun _ _ h=>h)
      ·have:=kG.out.size;omega
     case measure=>
      rw[DT.measure,HR.out.measure]
      exact xJ.out
theorem drop_at (id:Int) (hT:OkW T) (w:World) (h:aH g D w p mb ib nb T) (hid:(Lit.int .i64 id).wf=true):
  Calls Tryz.prog 111 #[ptr p, .int .i64 id] w (Turn g D w p mb (cu T id).2 (.int .i64 (cu T id).1)):=by
 by_cases hd:gK T id=0
 ·exact Rh id hT hd w h hid
 ·exact Ns id hd w h hid
end
end Go.Proofs.YtjnhnlabpccgjaaGreat
