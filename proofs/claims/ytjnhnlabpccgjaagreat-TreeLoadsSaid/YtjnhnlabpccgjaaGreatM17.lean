/- DERIVED: THE SHELF's CONTRACTS AT THIS DUMP, IN PLAIN WORDS (tools/lay-plain.mjs out of 'YtjnhnlabpccgjaaGreatLaypDropLay.lean', which tools/lay-shelf.mjs wrote): THE SAME DECLARATIONS UNDER THE SAME NAMES: 'import', 'namespace', 'open', 'def', 'theorem' AND NOTHING ELSE: no command of the shelf's: FOR A HAND-IN. Each laying: the table of numbers ('.._ren') and one theorem, a field a fact of the dump's own or the kernel's comparison; each contract: ONE APPLICATION. maps.DeleteFunc of a directory's names: those of one node go. tree: Drop. -/
import Derived.Test.YtjnhnlabpccgjaaGreatProg
import Derived.Shelf.SlMaps.DeleteFunc
import Derived.Ground.SlmdProg
import Derived.Test.YtjnhnlabpccgjaaGreatM14
namespace Go.Proofs
open Go.Shelf
def Tryz.Mh:Go.Shelf.Ren:=⟨fun|5=>154|n=>n,fun|23=>110|26=>9|24=>3|27=>204|0=>0|4=>4|n=>n,fun|n=>n⟩
theorem Tryz.WO:Go.Proofs.SlLaysDf.n5 Tryz.prog Tryz.Mh:={
 mixed:=by kernel_rfl
 f5:=⟨Tryz.f154.name,by decide,Tryz.func154.trans (congrArg some (by kernel_rfl))⟩
 t0:=Tryz.underlying0
 a0:=Tryz.isAgg0
 z0:=Tryz.sizeOf0
 v0:=Tryz.zeroValue0
 t4:=Tryz.underlying4
 a4:=Tryz.isAgg4
 z4:=Tryz.sizeOf4
 v4:=Tryz.zeroValue4
 t23:=Tryz.underlying110
 a23:=Tryz.isAgg110
 z23:=Tryz.sizeOf110
 v23:=Tryz.zeroValue110
 a24:=Tryz.isAgg3
 z24:=Tryz.sizeOf3
 a26:=Tryz.isAgg9
 z26:=Tryz.sizeOf9
 t27:=Tryz.underlying204
 a27:=Tryz.isAgg204
 z27:=Tryz.sizeOf204
 v27:=Tryz.zeroValue204}
end Go.Proofs
namespace Go.Proofs.YtjnhnlabpccgjaaGreat
open Go.ChangeShapes Go.WideShapes Go.ChangeAt Go.RowKit Go.MapKept
open Go.WideElems (Fit rd rg pl rd_key rd_val rg_of other_key)
set_option linter.unusedVariables false
set_option linter.unusedSimpArgs false
def Co (v:Value):Option (DataW Value×List MemPlace):=match v with| .int .i64 i=>some (.held v,[])|_=>none
theorem DZ {v:Value} {z:DataW Value×List MemPlace} (h:Co v=some z):∃i,v= .int .i64 i∧z=(.held (.int .i64 i),[]):=by
 unfold Co at h
 split at h
 ·exact⟨_,rfl,(Option.some.inj h).symm⟩
 ·cases h
theorem MapAt.toInt {w:World} {b:Nat} {l:List (Nm×Value)} (h:MapAt cK w b l) (hl:∀p∈l,∃i,p.2= .int .i64 i):w.ownsMap Tryz.prog 9 Co b l.length (tL cK l):=by
 obtain⟨es,clock,hb,F,hs,hD⟩:=h
 have key:∀x∈es.toList,∃i,x.val= .int .i64 i:=by
  intro x hx
  obtain⟨y,hy⟩:=F.reads x hx
  have h1:(rg Tryz.prog 9 lM x)∈(es.toList.map (rg Tryz.prog 9 lM)).foldr DataW.insert []:=(sorted_perm _).mem_iff.2 (List.mem_map.2 ⟨x,hx,rfl⟩)
  simp only[tL,DataW.map.injEq]at hD
  rw[←hD]at h1
  obtain⟨q,hq,e1⟩:=List.mem_map.1 h1
  obtain⟨i,hi⟩:=hl q hq
  obtain⟨z,hz,e2⟩:=rd_val hy
  rw[rg_of hy]at e1
  simp only[lM,Option.some.injEq]at hz
  refine⟨i,?_⟩
  rw[←hz]at e2
  have e3:=congrArg Prod.snd e1
  rw[e2]at e3
  simp only[DataW.held.injEq]at e3
  rw[←e3,hi]
 have hrd:∀x∈es.toList,rd Tryz.prog 9 Co x=rd Tryz.prog 9 lM x:=by
  intro x hx
  obtain⟨i,hi⟩:=key x hx
  unfold rd
  rw[hi];rfl
 refine⟨es,clock,hb,⟨F.size,F.stamped,fun x hx=> ?_⟩,hs,?_⟩
 ·rw[hrd x hx];exact F.reads x hx
 ·have e:es.toList.map (rg Tryz.prog 9 lM)=es.toList.map (rg Tryz.prog 9 Co):=by
   apply List.map_congr_left
   intro x hx
   unfold rg
   rw[hrd x hx]
  rw[hD,e]
theorem Um {w:World} {b n:Nat} {D:DataW Value} (h:w.ownsMap Tryz.prog 9 Co b n D):w.ownsMap Tryz.prog 9 lM b n D:=by
 obtain⟨es,clock,hb,F,hs,hD⟩:=h
 have hrd:∀x∈es.toList,rd Tryz.prog 9 lM x=rd Tryz.prog 9 Co x:=by
  intro x hx
  obtain⟨y,hy⟩:=F.reads x hx
  obtain⟨z,hz,_⟩:=rd_val hy
  obtain⟨i,hi,_⟩:=DZ hz
  unfold rd
  rw[hi];rfl
 refine⟨es,clock,hb,⟨F.size,F.stamped,fun x hx=> ?_⟩,hs,?_⟩
 ·rw[hrd x hx];exact F.reads x hx
 ·have e:es.toList.map (rg Tryz.prog 9 Co)=es.toList.map (rg Tryz.prog 9 lM):=by
   apply List.map_congr_left
   intro x hx
   unfold rg
   rw[hrd x hx]
  rw[hD,e]
def isId (id:Int) (_:Lit) (d:DataW Value):Bool:=match d with| .held (.int .i64 k)=>decide (k=id)|_=>false
theorem Js (id:Int) (vb:Nat) (key:Value) (k:Int) (w:World) (hc:w.cell? ⟨vb,0,none⟩=some (.int .i64 id)):
  Calls Tryz.prog 155 #[key, .int .i64 k,ptr vb] w fun e w'=>e= .returned (.bool (decide (k=id)))∧w=w':=by
 go_enter Tryz.func155,Tryz.ntmps155
 go_wp2_with fail
 go_ret
 exact⟨fC (by by_cases h:k=id<;>simp[h]),rfl⟩
theorem WQ (id:Int) (l:List (Nm×Int)):Lib.deleteFuncD (isId id) (tL cK (l.map fun e=>(e.1,(.int .i64 e.2:Value))))=tL cK ((l.filter fun e=> !decide (e.2=id)).map fun e=>(e.1,(.int .i64 e.2:Value))):=by
 unfold tL Lib.deleteFuncD
 simp only[List.map_map,DataW.map.injEq]
 rw[List.filter_map]
 rfl
theorem Jt (id:Int) (vb b:Nat) (x:bA) (w:World) (hM:MapAt cK w b (bL x)) (hc:w.cell? ⟨vb,0,none⟩=some (.int .i64 id)) (hvb:vb≠b) (hvw:vb<w.heap.size):
  Calls Tryz.prog 154 #[.map (some b), .func (.func 155) #[] #[ptr vb]] w fun e w'=>e= .returned (.tuple #[])∧MapAt cK w' b (bL (fF id x))∧Keeps (fun y=>y=b) w w':=by
 refine(AnyDf.maps_DeleteFunc Tryz.WO cK.law Co (isId id) 155 #[ptr vb] b _ _ w ?_ (hM.toInt fun q hq=> ?_) fun W key val kl yd yp hg hk hv=> ?_).mono ?_
 ·exact enters_of Tryz.func155 (by kernel_rfl) rfl
 ·obtain⟨e,_,rfl⟩:=List.mem_map.1 hq
  exact⟨_,rfl⟩
 ·obtain⟨i,rfl,hz⟩:=DZ hv
  cases hz
  refine(Js id vb key i W ?_).mono ?_
  ·rw[World.cell?_of_block (w:=w) (w':=W) (a:=⟨vb,0,none⟩) (hg.block vb hvw (fun e=>hvb (Option.some.inj e)))];exact hc
  ·rintro e w' ⟨rfl,rfl⟩
   exact⟨rfl,rfl,rfl,rfl,Nat.le_refl _,fun _ _ _=>rfl⟩
 ·rintro e w' ⟨rfl,h1,h2⟩
  refine⟨rfl,?_,(Keeps.grown h2).mono fun z _ hz=>by simpa using hz.symm⟩
  have h3:=Um h1
  unfold bL at h3
  rw[WQ]at h3
  exact MapAt.tN h3
theorem Mi (f:Value) (w:World):Calls Tryz.prog 154 #[.map none,f] w fun e w'=>e= .returned (.tuple #[])∧Below w.heap.size w w':=by
 go_enter Tryz.func154,Tryz.ntmps154
 go_wp2_with (first|(at_range;refine kJ rfl _ 110 9 3 rfl Tryz.underlying110 rfl ?_))
 go_frame
 go_loopw [4,5] (fun _ _ wr=>wr=w.alloc (.mapIter none 0 #[] 0)) (fun _ _ wr=>0)
 case atStart=>exact rfl
 case round=>
  obtain rfl:=hrel
  go_wp2_with (first|(at_next;refine lN rfl _ rfl rfl (MapKept.heap_alloc w _).1 ?_))
  go_end0
  exact⟨rfl,wall w _⟩
open Go.ChangeShapes Go.WideShapes Go.ChangeAt Go.RowKit
def stripL (left:Int→Bool) (T:aF) (id:Int):aF:=T.map fun q=>(q.1,if left q.1=true then q.2 else fF id q.2)
theorem F7 (left:Int→Bool) (T:aF) (id k:Int):ah k (stripL left T id)=(ah k T).map fun x=>if left k=true then x else fF id x:=by
 unfold stripL
 exact vF (fun k x=>if left k=true then x else fF id x) k T
theorem Cq {left:Int→Bool} {T:aF} {id:Int} (h:∀q∈T,left q.1=true):stripL left T id=T:=by
 unfold stripL
 conv=>rhs;rw[←List.map_id T]
 apply List.map_congr_left
 intro q hq
 rw[if_pos (h q hq)];rfl
theorem F8 {left:Int→Bool} {T:aF} {id:Int} (h:∀k,left k=false):stripL left T id=dV T id:=by
 unfold stripL dV fF
 apply List.map_congr_left
 intro q hq
 rw[if_neg (by rw[h];decide)]
theorem D5 {left:Int→Bool} {T:aF} {id k:Int} (h:left k=true):aX k (fF id) (stripL left T id)=stripL (fun z=>left z&& !decide (z=k)) T id:=by
 unfold stripL aX
 rw[List.map_map]
 apply List.map_congr_left
 intro q hq
 by_cases hk:q.1=k
 ·simp[hk,h]
 ·simp[hk]
section
variable {g:Nat→Own} {D:Nat→Prop} {p mb:Nat} {ib nb:Int→Nat} {T:aF}
theorem Mj {w w':World} {k id:Int} {x:bA} (h:aH g D w p mb ib nb T) (hx:ah k T=some x) (hk:x.kind=2) (hM:MapAt cK w' (nb k) (bL (fF id x))) (hK:Keeps (fun b=>b=nb k) w w'):aH g D w' p mb ib nb (Go.Proofs.YtjnhnlabpccgjaaGreat.aX k (fF id) T):=by
 have hn:=h.kG k x hx hk
 have ti:=h.mK k x hx
 have hb:∀b,b<w.heap.size→g b≠ .names k→w'.heap[b]? =w.heap[b]? :=fun b hb h2=>hK.block b hb (fun e=>h2 (by rw[show b=nb k from e];exact hn))
 refine h.aX hx rfl (fun _ h=>h) (fun b hb=>⟨h.data b hb,Nat.lt_of_lt_of_le (h.oO b hb) hK.size⟩) hK.size (fun b hb1 h1 h2=>hb b hb1 h2) ?_
 obtain⟨a,c,h1,h2,h3⟩:=(h.item k x hx).cells
 exact⟨⟨a,c,(hb _ (h.low _ (by rw[ti];simp)) (by rw[ti];simp)).trans h1,h2,h3.kept hK.size fun b hD hbw=>hb b hbw (by rw[h.data b hD];simp)⟩,fun _=>hM⟩
theorem F9 {w:World} {k id:Int} {x:bA} (h:aH g D w p mb ib nb T) (hx:ah k T=some x) (hk:x.kind≠2):aH g D w p mb ib nb (Go.Proofs.YtjnhnlabpccgjaaGreat.aX k (fF id) T):=by
 refine h.aX hx rfl (fun _ h=>h) (fun b hb=>⟨h.data b hb,h.oO b hb⟩) (Nat.le_refl _) (fun _ _ _ _=>rfl) ?_
 obtain⟨a,c,h1,h2,h3⟩:=(h.item k x hx).cells
 exact⟨⟨a,c,h1,h2,h3⟩,fun h=>absurd h hk⟩
end
section
variable {g:Nat→Own} {D:Nat→Prop} {p mb:Nat} {ib nb:Int→Nat} {T:aF}
def OP (g:Nat→Own) (D:Nat→Prop) (w:World) (p mb:Nat) (ib nb:Int→Nat) (T:aF) (id:Int) (r:Nat) (wr:World):Prop:=
 ∃(left:Int→Bool) (cnt:Nat),dI aV wr mb r (T.map fun q=>(q.1,ptr (ib q.1))) left cnt∧aH g D wr p mb ib nb (stripL left T id)∧wr.cell? ⟨w.heap.size,0,none⟩=some (.int .i64 id)∧Keeps (fun b=>g b≠ .none) w wr∧w.heap.size<wr.heap.size
set_option maxRecDepth 100000 in
set_option maxHeartbeats 4000000 in
theorem OQ (id:Int) (hT:OkW T) (hd:lV T id=0) (w:World) (h:aH g D w p mb ib nb T) (hid:(Lit.int .i64 id).wf=true):
  Calls Tryz.prog 111 #[ptr p, .int .i64 id] w (Turn g D w p mb (eD T id).2 (.int .i64 (eD T id).1)):=by
 have NV:eD T id=(0,bB id (dV T id)):=by
  unfold eD
  rw[hd,nY,if_pos rfl]
 have HM:=Lib.hid NV
 clear NV
 obtain⟨x,hx,hk,hcl⟩:=yB hd
 have HH:=Lib.hid h
 have HT:=Lib.hid hT
 have hcb:(w.alloc (.cells #[.int .i64 id] 3)).cell? ⟨w.heap.size,0,none⟩=some (.int .i64 id):=oQ
 have hA:=h.below (wall w (.cells #[.int .i64 id] 3)) (Nat.le_refl _)
 have HA:=Lib.hid hA
 have HF:=Lib.hid (rE id hx hk _ hA hid)
 obtain⟨c0,c1,c2,c3,c4,c5,c7,hiw⟩:=(hA.item id x hx).cell
 rw[hcl]at c5
 have q0:=hA.cell.1
 have fE:=Lib.hid hA.map
 have HW:=Lib.hid hid
 clear hcl hx hk h c7 hA hd hT hid
 go_enter Tryz.func111,Tryz.ntmps111
 go_wp2_with fail
 (with_reducible refine HF.out.mono ?_)
 rintro e w1 ⟨rfl,rfl⟩
 go_wp2_with (at_range;refine jZ aV rfl _ 104 107 rfl Tryz.underlying104 rfl fE.out ?_;intro w0 hR0 hB0 hs0)
 go_frame
 rw[World.size_alloc]at hR0 hB0 hs0
 rw[World.size_alloc]
 go_loopw [8] (fun _ wr=>OP g D w p mb ib nb T id (w.heap.size+1) wr) (fun _ wr=>wr.rangeLeft mb (w.heap.size+1))
 case atStart=>
  refine⟨_,_,hR0,?_,?_,?_,by omega⟩
  ·rw[Cq (fun q hq=>by rw[dh,aL bW HT.out.sorted hq];rfl)]
   exact HA.out.below hB0 (by rw[World.size_alloc];omega)
  ·rw[World.cell?_of_block (w:=w.alloc (.cells #[.int .i64 id] 3)) (w':=w0) (a:=⟨w.heap.size,0,none⟩) (hB0.block _ (by show w.heap.size<_;omega))]
   exact oQ
  ·exact jO ((wall w _).trans (hB0.mono (by omega)))
 case round=>
  obtain⟨left,cnt,hR,hA,hcv,hK,hsw⟩:=hrel
  have HA1:=Lib.hid hA
  have HR:=Lib.hid hR
  have HK:=Lib.hid hK
  clear hR hA hK
  go_wp2_with (first|(at_next;refine lg aV rfl _ rfl rfl HR.out ?_ ?_))
  ·intro hdone
   have WR:Hid (stripL left T id=dV T id):=F8 hdone
   clear hdone
   have p0:=HA1.out.cell.1
   have hpw:=HA1.out.cell.2.1
   have hmw:=HA1.out.cell.2.2
   have hmw0:=HH.out.cell.2.2
   have hst:∃w4,(∀ty,(Builtin.delete_ #[104,3] ty #[.map (some mb), .int .i64 id]).run Tryz.prog wr.drew= .ok (.tuple #[]) w4)∧MapAt aV w4 mb (bB id ((stripL left T id).map fun q=>(q.1,ptr (ib q.1))))∧wr.drew.mapTurned w4 mb:=
    MapAt.Dj (F:=aV) Tryz.underlying104 (HA1.out.map.kept (w':=wr.drew) rfl) id HW.out
   have HST:=Lib.hid hst
   have hne1:p≠mb:=fun e=>by have h1:=HH.out.oM;rw[e,HH.out.je]at h1;cases h1
   have hne2:w.heap.size≠mb:=by omega
   have kV:Hid (∀w4,wr.drew.mapTurned w4 mb→w4.cell? ⟨p,0,none⟩=some (.map (some mb))∧w4.cell? ⟨w.heap.size,0,none⟩=some (.int .i64 id)):=fun w4 hT=>⟨(World.cell?_of_block (w:=wr.drew) (w':=w4) (a:=⟨p,0,none⟩) (dG hT p hpw hne1)).trans p0,(World.cell?_of_block (w:=wr.drew) (w':=w4) (a:=⟨w.heap.size,0,none⟩) (dG hT _ hsw hne2)).trans hcv⟩
   clear hst hne1 hne2
   go_wp2
   go_region_held3 (fun w'=>w'.cell? ⟨p,0,none⟩=some (.map (some mb))∧w'.cell? ⟨w.heap.size,0,none⟩=some (.int .i64 id)) (first|exact⟨p0,hcv⟩|exact kV.out _ qB) ((first|(obtain⟨w4,Au,zR,qB⟩:=HST.out;rw[Au];go_simp)))
   have Av:=Lib.hid zR
   have wH:=Lib.hid qB
   clear zR qB
   go_wp2
   go_ret
   rw[HM.out]
   have hK4:=fM wH.out
   have CU:=(HA1.out.below (Below.refl _ _).drew (Nat.le_refl _)).del Av.out hK4.size (fun b hb Q9=>hK4.block b hb Q9)
   rw[WR.out]at CU
   have hgm:=HH.out.je
   exact Turn.of rfl CU (HK.out.trans ((jO (Below.refl _ _).drew).trans (hK4.mono fun b _ hb=>by rw[show b=mb from hb,hgm];simp) (fun _ _ h=>h)) (fun _ _ h=>h))
  ·intro k v w3 cnt1 LB hleft hg2 mQ hlt hK1 hs1 hen
   rw[dh]at hg2
   cases hy:ah k T with
   |none=>rw[hy]at hg2;cases hg2
   |some y=>
    rw[hy]at hg2
    cases hg2
    have hyl:ah k (stripL left T id)=some y:=by rw[F7,hy];simp[hleft]
    have hrl:=HR.out.lt
    have hA3:aH g D w3 p mb ib nb (stripL left T id):=HA1.out.keeps hK1 fun b hb hbr=>by
     rcases hb with hb|hb
     ·have:=HH.out.low b hb;omega
     ·have:=HH.out.oO b hb;omega
    have OG:=Lib.hid hA3
    have HY:=Lib.hid hyl
    have HR1:=Lib.hid mQ
    have AJ:=Lib.hid hlt
    have wN:Hid (Keeps (fun b=>g b≠ .none) w w3):=⟨hK1.os.trans HK.out.os,hK1.tape.trans HK.out.tape,hK1.output.trans HK.out.output,by rw[hs1];exact HK.out.size,fun b hb hn=>(hK1.block b (by have:=HK.out.size;omega) (by omega)).trans (HK.out.block b hb hn)⟩
    have RA:w3.cell? ⟨w.heap.size,0,none⟩=some (.int .i64 id):=(World.cell?_of_block (w:=wr) (w':=w3) (a:=⟨w.heap.size,0,none⟩) (hK1.block _ hsw (by show ¬w.heap.size=w.heap.size+1;omega))).trans hcv
    have Qz:Hid (aX k (fF id) (stripL left T id)=stripL (fun z=>left z&& !decide (z=k)) T id):=D5 hleft
    obtain⟨_,_,_,_,_,_,d7,_⟩:=(OG.out.item k y hyl).cell
    have RB:w.heap.size<w3.heap.size:=by omega
    have e3:aV.val k= .int .i64 k:=rfl
    rw[e3]at hen⊢
    clear e3 hy hyl hA3 mQ hlt hK1
    by_cases hk2:y.kind=2
    ·have e2:fD y (nb k)= .map (some (nb k)):=if_pos hk2
     rw[e2]at d7
     have hnt:=OG.out.kG k y HY.out hk2
     have hnw:nb k<w.heap.size:=HH.out.low _ (by rw[hnt];simp)
     have HDF:=Lib.hid (Jt id w.heap.size (nb k) y w3 ((OG.out.item k y HY.out).names hk2) RA (by omega) RB)
     have BZ:=Lib.hid hk2
     have Zb:=Lib.hid hnt
     clear hk2 e2 hnt
     go_wp2_with fail
     (with_reducible refine HDF.out.mono ?_)
     rintro e w4 ⟨rfl,zR,hK4⟩
     have Av:=Lib.hid zR
     have E9:=Lib.hid hK4
     clear zR hK4
     go_wp2_with fail
     have hmn:mb≠nb k:=fun e=>by have h1:=HH.out.je;rw[e,Zb.out]at h1;cases h1
     have KM:dI aV w4 mb (w.heap.size+1) (T.map fun q=>(q.1,ptr (ib q.1))) _ cnt1:=HR1.out.kept (E9.out.block mb HR1.out.lt.1 hmn) (E9.out.block _ HR1.out.lt.2.1 (by omega))
     go_roundw
     case rel=>
      refine⟨_,cnt1,KM,?_,?_,?_,?_⟩
      ·rw[←Qz.out]
       exact Mj OG.out HY.out BZ.out Av.out E9.out
      ·exact(World.cell?_of_block (w:=w3) (w':=w4) (a:=⟨w.heap.size,0,none⟩) (E9.out.block _ RB (by show w.heap.size≠nb k;omega))).trans RA
      ·exact wN.out.trans (E9.out.mono fun b _ hb=>by rw[show b=nb k from hb,Zb.out];simp) (fun _ _ h=>h)
      ·have:=E9.out.size;omega
     case measure=>
      rw[KM.measure,HR.out.measure]
      exact AJ.out
    ·have e2:fD y (nb k)= .map none:=if_neg hk2
     rw[e2]at d7
     have BZ:=Lib.hid hk2
     clear hk2 e2
     go_wp2_with fail
     (with_reducible refine(Mi _ _).mono ?_)
     rintro e w4 ⟨rfl,hb4⟩
     have dS:=Lib.hid hb4
     clear hb4
     go_wp2_with fail
     have KM:dI aV w4 mb (w.heap.size+1) (T.map fun q=>(q.1,ptr (ib q.1))) _ cnt1:=HR1.out.kept (dS.out.block mb HR1.out.lt.1) (dS.out.block _ HR1.out.lt.2.1)
     go_roundw
     case rel=>
      refine⟨_,cnt1,KM,?_,?_,?_,?_⟩
      ·rw[←Qz.out]
       exact(F9 OG.out HY.out BZ.out).below dS.out (Nat.le_refl _)
      ·exact(World.cell?_of_block (w:=w3) (w':=w4) (a:=⟨w.heap.size,0,none⟩) (dS.out.block _ RB)).trans RA
      ·exact wN.out.trans (jO dS.out) (fun _ _ h=>h)
      ·have:=dS.out.size;omega
     case measure=>
      rw[KM.measure,HR.out.measure]
      exact AJ.out
theorem drop_at (id:Int) (hT:OkW T) (w:World) (h:aH g D w p mb ib nb T) (hid:(Lit.int .i64 id).wf=true):
  Calls Tryz.prog 111 #[ptr p, .int .i64 id] w (Turn g D w p mb (eD T id).2 (.int .i64 (eD T id).1)):=by
 by_cases hd:lV T id=0
 ·exact OQ id hT hd w h hid
 ·exact Ll id hd w h hid
end
end Go.Proofs.YtjnhnlabpccgjaaGreat
