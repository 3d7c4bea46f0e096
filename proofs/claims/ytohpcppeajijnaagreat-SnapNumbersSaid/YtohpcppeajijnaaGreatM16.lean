/- DERIVED: THE SHELF's CONTRACTS AT THIS DUMP, IN PLAIN WORDS (tools/lay-plain.mjs out of 'YtohpcppeajijnaaGreatLaypDropLay.lean', which tools/lay-shelf.mjs wrote): THE SAME DECLARATIONS UNDER THE SAME NAMES: 'import', 'namespace', 'open', 'def', 'theorem' AND NOTHING ELSE: no command of the shelf's: FOR A HAND-IN. Each laying: the table of numbers ('.._ren') and one theorem, a field a fact of the dump's own or the kernel's comparison; each contract: ONE APPLICATION. maps.DeleteFunc of a directory's names: those of one node go. tree: Drop. -/
import Derived.Test.YtohpcppeajijnaaGreatProg
import Derived.Shelf.SlMaps.DeleteFunc
import Derived.Ground.SlmdProg
import Derived.Test.YtohpcppeajijnaaGreatM15
namespace Go.Proofs
open Go.Shelf
def Tryz.IV:Go.Shelf.Ren:=⟨fun|5=>80|n=>n,fun|23=>107|26=>9|24=>3|27=>129|0=>0|4=>4|n=>n,fun|n=>n⟩
theorem Tryz.Wv:Go.Proofs.SlLaysDf.n5 Tryz.prog Tryz.IV:={
 mixed:=by kernel_rfl
 f5:=⟨Tryz.f80.name,by decide,Tryz.func80.trans (congrArg some (by kernel_rfl))⟩
 t0:=Tryz.underlying0
 a0:=Tryz.isAgg0
 z0:=Tryz.sizeOf0
 v0:=Tryz.zeroValue0
 t4:=Tryz.underlying4
 a4:=Tryz.isAgg4
 z4:=Tryz.sizeOf4
 v4:=Tryz.zeroValue4
 t23:=Tryz.underlying107
 a23:=Tryz.isAgg107
 z23:=Tryz.sizeOf107
 v23:=Tryz.zeroValue107
 a24:=Tryz.isAgg3
 z24:=Tryz.sizeOf3
 a26:=Tryz.isAgg9
 z26:=Tryz.sizeOf9
 t27:=Tryz.underlying129
 a27:=Tryz.isAgg129
 z27:=Tryz.sizeOf129
 v27:=Tryz.zeroValue129}
end Go.Proofs
namespace Go.Proofs.YtohpcppeajijnaaGreat
open Go.ChangeShapes Go.WideShapes Go.ChangeAt Go.RowKit Go.MapKept
open Go.WideElems (Fit rd rg pl rd_key rd_val rg_of other_key)
set_option linter.unusedVariables false
set_option linter.unusedSimpArgs false
def yZ (v:Value):Option (DataW Value×List MemPlace):=match v with| .int .i64 i=>some (.held v,[])|_=>none
theorem Ay {v:Value} {z:DataW Value×List MemPlace} (h:yZ v=some z):∃i,v= .int .i64 i∧z=(.held (.int .i64 i),[]):=by
 unfold yZ at h
 split at h
 ·exact⟨_,rfl,(Option.some.inj h).symm⟩
 ·cases h
theorem MapAt.toInt {w:World} {b:Nat} {l:List (Nm×Value)} (h:MapAt gF w b l) (hl:∀p∈l,∃i,p.2= .int .i64 i):w.ownsMap Tryz.prog 9 yZ b l.length (qL gF l):=by
 obtain⟨es,clock,hb,F,hs,hD⟩:=h
 have key:∀x∈es.toList,∃i,x.val= .int .i64 i:=by
  intro x hx
  obtain⟨y,hy⟩:=F.reads x hx
  have h1:(rg Tryz.prog 9 kL x)∈(es.toList.map (rg Tryz.prog 9 kL)).foldr DataW.insert []:=(sorted_perm _).mem_iff.2 (List.mem_map.2 ⟨x,hx,rfl⟩)
  simp only[qL,DataW.map.injEq]at hD
  rw[←hD]at h1
  obtain⟨q,hq,e1⟩:=List.mem_map.1 h1
  obtain⟨i,hi⟩:=hl q hq
  obtain⟨z,hz,e2⟩:=rd_val hy
  rw[rg_of hy]at e1
  simp only[kL,Option.some.injEq]at hz
  refine⟨i,?_⟩
  rw[←hz]at e2
  have e3:=congrArg Prod.snd e1
  rw[e2]at e3
  simp only[DataW.held.injEq]at e3
  rw[←e3,hi]
 have hrd:∀x∈es.toList,rd Tryz.prog 9 yZ x=rd Tryz.prog 9 kL x:=by
  intro x hx
  obtain⟨i,hi⟩:=key x hx
  unfold rd
  rw[hi];rfl
 refine⟨es,clock,hb,⟨F.size,F.stamped,fun x hx=> ?_⟩,hs,?_⟩
 ·rw[hrd x hx];exact F.reads x hx
 ·have e:es.toList.map (rg Tryz.prog 9 kL)=es.toList.map (rg Tryz.prog 9 yZ):=by
   apply List.map_congr_left
   intro x hx
   unfold rg
   rw[hrd x hx]
  rw[hD,e]
theorem R7 {w:World} {b n:Nat} {D:DataW Value} (h:w.ownsMap Tryz.prog 9 yZ b n D):w.ownsMap Tryz.prog 9 kL b n D:=by
 obtain⟨es,clock,hb,F,hs,hD⟩:=h
 have hrd:∀x∈es.toList,rd Tryz.prog 9 kL x=rd Tryz.prog 9 yZ x:=by
  intro x hx
  obtain⟨y,hy⟩:=F.reads x hx
  obtain⟨z,hz,_⟩:=rd_val hy
  obtain⟨i,hi,_⟩:=Ay hz
  unfold rd
  rw[hi];rfl
 refine⟨es,clock,hb,⟨F.size,F.stamped,fun x hx=> ?_⟩,hs,?_⟩
 ·rw[hrd x hx];exact F.reads x hx
 ·have e:es.toList.map (rg Tryz.prog 9 yZ)=es.toList.map (rg Tryz.prog 9 kL):=by
   apply List.map_congr_left
   intro x hx
   unfold rg
   rw[hrd x hx]
  rw[hD,e]
def isId (id:Int) (_:Lit) (d:DataW Value):Bool:=match d with| .held (.int .i64 k)=>decide (k=id)|_=>false
theorem Fu (id:Int) (vb:Nat) (key:Value) (k:Int) (w:World) (hc:w.cell? ⟨vb,0,none⟩=some (.int .i64 id)):
  Calls Tryz.prog 81 #[key, .int .i64 k,ptr vb] w fun e w'=>e= .returned (.bool (decide (k=id)))∧w=w':=by
 go_enter Tryz.func81,Tryz.ntmps81
 go_wp2_with fail
 go_ret
 exact⟨gQ (by by_cases h:k=id<;>simp[h]),rfl⟩
theorem Ww (id:Int) (l:List (Nm×Int)):Lib.deleteFuncD (isId id) (qL gF (l.map fun e=>(e.1,(.int .i64 e.2:Value))))=qL gF ((l.filter fun e=> !decide (e.2=id)).map fun e=>(e.1,(.int .i64 e.2:Value))):=by
 unfold qL Lib.deleteFuncD
 simp only[List.map_map,DataW.map.injEq]
 rw[List.filter_map]
 rfl
theorem Fv (id:Int) (vb b:Nat) (x:bf) (w:World) (hM:MapAt gF w b (dP x)) (hc:w.cell? ⟨vb,0,none⟩=some (.int .i64 id)) (hvb:vb≠b) (hvw:vb<w.heap.size):
  Calls Tryz.prog 80 #[.map (some b), .func (.func 81) #[] #[ptr vb]] w fun e w'=>e= .returned (.tuple #[])∧MapAt gF w' b (dP (eG id x))∧Keeps (fun y=>y=b) w w':=by
 refine(AnyDf.maps_DeleteFunc Tryz.Wv gF.law yZ (isId id) 81 #[ptr vb] b _ _ w ?_ (hM.toInt fun q hq=> ?_) fun W key val kl yd yp hg hk hv=> ?_).mono ?_
 ·exact enters_of Tryz.func81 (by kernel_rfl) rfl
 ·obtain⟨e,_,rfl⟩:=List.mem_map.1 hq
  exact⟨_,rfl⟩
 ·obtain⟨i,rfl,hz⟩:=Ay hv
  cases hz
  refine(Fu id vb key i W ?_).mono ?_
  ·rw[World.cell?_of_block (w:=w) (w':=W) (a:=⟨vb,0,none⟩) (hg.block vb hvw (fun e=>hvb (Option.some.inj e)))];exact hc
  ·rintro e w' ⟨rfl,rfl⟩
   exact⟨rfl,rfl,rfl,rfl,Nat.le_refl _,fun _ _ _=>rfl⟩
 ·rintro e w' ⟨rfl,h1,h2⟩
  refine⟨rfl,?_,(Keeps.grown h2).mono fun z _ hz=>by simpa using hz.symm⟩
  have h3:=R7 h1
  unfold dP at h3
  rw[Ww]at h3
  exact MapAt.o_ h3
theorem IW (f:Value) (w:World):Calls Tryz.prog 80 #[.map none,f] w fun e w'=>e= .returned (.tuple #[])∧Below w.heap.size w w':=by
 go_enter Tryz.func80,Tryz.ntmps80
 go_wp2_with (first|(at_range;refine sJ rfl _ 107 9 3 rfl Tryz.underlying107 rfl ?_))
 go_frame
 go_loopw [4,5] (fun _ _ wr=>wr=w.alloc (.mapIter none 0 #[] 0)) (fun _ _ wr=>0)
 case atStart=>exact rfl
 case round=>
  obtain rfl:=hrel
  go_wp2_with (first|(at_next;refine uz rfl _ rfl rfl (MapKept.heap_alloc w _).1 ?_))
  go_end0
  exact⟨rfl,wall w _⟩
open Go.ChangeShapes Go.WideShapes Go.ChangeAt Go.RowKit
def stripL (left:Int→Bool) (T:aI) (id:Int):aI:=T.map fun q=>(q.1,if left q.1=true then q.2 else eG id q.2)
theorem Cv (left:Int→Bool) (T:aI) (id k:Int):aF k (stripL left T id)=(aF k T).map fun x=>if left k=true then x else eG id x:=by
 unfold stripL
 exact rZ (fun k x=>if left k=true then x else eG id x) k T
theorem za {left:Int→Bool} {T:aI} {id:Int} (h:∀q∈T,left q.1=true):stripL left T id=T:=by
 unfold stripL
 conv=>rhs;rw[←List.map_id T]
 apply List.map_congr_left
 intro q hq
 rw[if_pos (h q hq)];rfl
theorem Cw {left:Int→Bool} {T:aI} {id:Int} (h:∀k,left k=false):stripL left T id=dW T id:=by
 unfold stripL dW eG
 apply List.map_congr_left
 intro q hq
 rw[if_neg (by rw[h];decide)]
theorem Az {left:Int→Bool} {T:aI} {id k:Int} (h:left k=true):aT k (eG id) (stripL left T id)=stripL (fun z=>left z&& !decide (z=k)) T id:=by
 unfold stripL aT
 rw[List.map_map]
 apply List.map_congr_left
 intro q hq
 by_cases hk:q.1=k
 ·simp[hk,h]
 ·simp[hk]
section
variable {g:Nat→Own} {D:Nat→Prop} {p mb:Nat} {ib nb:Int→Nat} {T:aI}
theorem IX {w w':World} {k id:Int} {x:bf} (h:aK g D w p mb ib nb T) (hx:aF k T=some x) (hk:x.kind=2) (hM:MapAt gF w' (nb k) (dP (eG id x))) (hK:Keeps (fun b=>b=nb k) w w'):aK g D w' p mb ib nb (Go.Proofs.YtohpcppeajijnaaGreat.aT k (eG id) T):=by
 have hn:=h.lq k x hx hk
 have ti:=h.mX k x hx
 have hb:∀b,b<w.heap.size→g b≠ .names k→w'.heap[b]? =w.heap[b]? :=fun b hb h2=>hK.block b hb (fun e=>h2 (by rw[show b=nb k from e];exact hn))
 refine h.aT hx rfl (fun _ h=>h) (fun b hb=>⟨h.data b hb,Nat.lt_of_lt_of_le (h.lN b hb) hK.size⟩) hK.size (fun b hb1 h1 h2=>hb b hb1 h2) ?_
 obtain⟨a,c,h1,h2,h3⟩:=(h.item k x hx).cells
 exact⟨⟨a,c,(hb _ (h.low _ (by rw[ti];simp)) (by rw[ti];simp)).trans h1,h2,h3.kept hK.size fun b hD hbw=>hb b hbw (by rw[h.data b hD];simp)⟩,fun _=>hM⟩
theorem Cx {w:World} {k id:Int} {x:bf} (h:aK g D w p mb ib nb T) (hx:aF k T=some x) (hk:x.kind≠2):aK g D w p mb ib nb (Go.Proofs.YtohpcppeajijnaaGreat.aT k (eG id) T):=by
 refine h.aT hx rfl (fun _ h=>h) (fun b hb=>⟨h.data b hb,h.lN b hb⟩) (Nat.le_refl _) (fun _ _ _ _=>rfl) ?_
 obtain⟨a,c,h1,h2,h3⟩:=(h.item k x hx).cells
 exact⟨⟨a,c,h1,h2,h3⟩,fun h=>absurd h hk⟩
end
section
variable {g:Nat→Own} {D:Nat→Prop} {p mb:Nat} {ib nb:Int→Nat} {T:aI}
def MC (g:Nat→Own) (D:Nat→Prop) (w:World) (p mb:Nat) (ib nb:Int→Nat) (T:aI) (id:Int) (r:Nat) (wr:World):Prop:=
 ∃(left:Int→Bool) (cnt:Nat),eO b_ wr mb r (T.map fun q=>(q.1,ptr (ib q.1))) left cnt∧aK g D wr p mb ib nb (stripL left T id)∧wr.cell? ⟨w.heap.size,0,none⟩=some (.int .i64 id)∧Keeps (fun b=>g b≠ .none) w wr∧w.heap.size<wr.heap.size
set_option maxRecDepth 100000 in
set_option maxHeartbeats 4000000 in
theorem ME (id:Int) (hT:dR T) (hd:gu T id=0) (w:World) (h:aK g D w p mb ib nb T) (hid:(Lit.int .i64 id).wf=true):
  Calls Tryz.prog 29 #[ptr p, .int .i64 id] w (Turn g D w p mb (eu T id).2 (.int .i64 (eu T id).1)):=by
 have Zz:eu T id=(0,bK id (dW T id)):=by
  unfold eu
  rw[hd,yj,if_pos rfl]
 have HM:=Lib.hid Zz
 clear Zz
 obtain⟨x,hx,hk,hcl⟩:=vL hd
 have HH:=Lib.hid h
 have HT:=Lib.hid hT
 have hcb:(w.alloc (.cells #[.int .i64 id] 3)).cell? ⟨w.heap.size,0,none⟩=some (.int .i64 id):=iU
 have hA:=h.below (wall w (.cells #[.int .i64 id] 3)) (Nat.le_refl _)
 have HA:=Lib.hid hA
 have HF:=Lib.hid (uL id hx hk _ hA hid)
 obtain⟨c0,c1,c2,c3,c4,c5,c7,hiw⟩:=(hA.item id x hx).cell
 rw[hcl]at c5
 have q0:=hA.cell.1
 have oz:=Lib.hid hA.map
 have HW:=Lib.hid hid
 clear hcl hx hk h c7 hA hd hT hid
 go_enter Tryz.func29,Tryz.ntmps29
 go_wp2_with fail
 (with_reducible refine HF.out.mono ?_)
 rintro e w1 ⟨rfl,rfl⟩
 go_wp2_with (at_range;refine qM b_ rfl _ 94 92 rfl Tryz.underlying94 rfl oz.out ?_;intro w0 hR0 hB0 hs0)
 go_frame
 rw[World.size_alloc]at hR0 hB0 hs0
 rw[World.size_alloc]
 go_loopw [8] (fun _ wr=>MC g D w p mb ib nb T id (w.heap.size+1) wr) (fun _ wr=>wr.rangeLeft mb (w.heap.size+1))
 case atStart=>
  refine⟨_,_,hR0,?_,?_,?_,by omega⟩
  ·rw[za (fun q hq=>by rw[fH,bL dD HT.out.sorted hq];rfl)]
   exact HA.out.below hB0 (by rw[World.size_alloc];omega)
  ·rw[World.cell?_of_block (w:=w.alloc (.cells #[.int .i64 id] 3)) (w':=w0) (a:=⟨w.heap.size,0,none⟩) (hB0.block _ (by show w.heap.size<_;omega))]
   exact iU
  ·exact fU ((wall w _).trans (hB0.mono (by omega)))
 case round=>
  obtain⟨left,cnt,hR,hA,hcv,hK,hsw⟩:=hrel
  have HA1:=Lib.hid hA
  have HR:=Lib.hid hR
  have HK:=Lib.hid hK
  clear hR hA hK
  go_wp2_with (first|(at_next;refine tL b_ rfl _ rfl rfl HR.out ?_ ?_))
  ·intro hdone
   have R8:Hid (stripL left T id=dW T id):=Cw hdone
   clear hdone
   have p0:=HA1.out.cell.1
   have hpw:=HA1.out.cell.2.1
   have hmw:=HA1.out.cell.2.2
   have hmw0:=HH.out.cell.2.2
   have hst:∃w4,(∀ty,(Builtin.delete_ #[94,3] ty #[.map (some mb), .int .i64 id]).run Tryz.prog wr.drew= .ok (.tuple #[]) w4)∧MapAt b_ w4 mb (bK id ((stripL left T id).map fun q=>(q.1,ptr (ib q.1))))∧wr.drew.mapTurned w4 mb:=
    MapAt.Ak (F:=b_) Tryz.underlying94 (HA1.out.map.kept (w':=wr.drew) rfl) id HW.out
   have HST:=Lib.hid hst
   have hne1:p≠mb:=fun e=>by have h1:=HH.out.nX;rw[e,HH.out.iJ]at h1;cases h1
   have hne2:w.heap.size≠mb:=by omega
   have gq:Hid (∀w4,wr.drew.mapTurned w4 mb→w4.cell? ⟨p,0,none⟩=some (.map (some mb))∧w4.cell? ⟨w.heap.size,0,none⟩=some (.int .i64 id)):=fun w4 hT=>⟨(World.cell?_of_block (w:=wr.drew) (w':=w4) (a:=⟨p,0,none⟩) (eB hT p hpw hne1)).trans p0,(World.cell?_of_block (w:=wr.drew) (w':=w4) (a:=⟨w.heap.size,0,none⟩) (eB hT _ hsw hne2)).trans hcv⟩
   clear hst hne1 hne2
   go_wp2
   go_region_held3 (fun w'=>w'.cell? ⟨p,0,none⟩=some (.map (some mb))∧w'.cell? ⟨w.heap.size,0,none⟩=some (.int .i64 id)) (first|exact⟨p0,hcv⟩|exact gq.out _ Ir) ((first|(obtain⟨w4,xS,LK,Ir⟩:=HST.out;rw[xS];go_simp)))
   have Cc:=Lib.hid LK
   have BL:=Lib.hid Ir
   clear LK Ir
   go_wp2
   go_ret
   rw[HM.out]
   have hK4:=fB BL.out
   have EZ:=(HA1.out.below (Below.refl _ _).drew (Nat.le_refl _)).del Cc.out hK4.size (fun b hb RY=>hK4.block b hb RY)
   rw[R8.out]at EZ
   have hgm:=HH.out.iJ
   exact Turn.of rfl EZ (HK.out.trans ((fU (Below.refl _ _).drew).trans (hK4.mono fun b _ hb=>by rw[show b=mb from hb,hgm];simp) (fun _ _ h=>h)) (fun _ _ h=>h))
  ·intro k v w3 cnt1 R9 hleft hg2 Rv hlt hK1 hs1 hen
   rw[fH]at hg2
   cases hy:aF k T with
   |none=>rw[hy]at hg2;cases hg2
   |some y=>
    rw[hy]at hg2
    cases hg2
    have hyl:aF k (stripL left T id)=some y:=by rw[Cv,hy];simp[hleft]
    have hrl:=HR.out.lt
    have hA3:aK g D w3 p mb ib nb (stripL left T id):=HA1.out.keeps hK1 fun b hb hbr=>by
     rcases hb with hb|hb
     ·have:=HH.out.low b hb;omega
     ·have:=HH.out.lN b hb;omega
    have MB:=Lib.hid hA3
    have HY:=Lib.hid hyl
    have HR1:=Lib.hid Rv
    have Ed:=Lib.hid hlt
    have lM:Hid (Keeps (fun b=>g b≠ .none) w w3):=⟨hK1.os.trans HK.out.os,hK1.tape.trans HK.out.tape,hK1.output.trans HK.out.output,by rw[hs1];exact HK.out.size,fun b hb hn=>(hK1.block b (by have:=HK.out.size;omega) (by omega)).trans (HK.out.block b hb hn)⟩
    have O6:w3.cell? ⟨w.heap.size,0,none⟩=some (.int .i64 id):=(World.cell?_of_block (w:=wr) (w':=w3) (a:=⟨w.heap.size,0,none⟩) (hK1.block _ hsw (by show ¬w.heap.size=w.heap.size+1;omega))).trans hcv
    have Oe:Hid (aT k (eG id) (stripL left T id)=stripL (fun z=>left z&& !decide (z=k)) T id):=Az hleft
    obtain⟨_,_,_,_,_,_,d7,_⟩:=(MB.out.item k y hyl).cell
    have O7:w.heap.size<w3.heap.size:=by omega
    have e3:b_.val k= .int .i64 k:=rfl
    rw[e3]at hen⊢
    clear e3 hy hyl hA3 Rv hlt hK1
    by_cases hk2:y.kind=2
    ·have e2:dO y (nb k)= .map (some (nb k)):=if_pos hk2
     rw[e2]at d7
     have hnt:=MB.out.lq k y HY.out hk2
     have hnw:nb k<w.heap.size:=HH.out.low _ (by rw[hnt];simp)
     have HDF:=Lib.hid (Fv id w.heap.size (nb k) y w3 ((MB.out.item k y HY.out).names hk2) O6 (by omega) O7)
     have Ch:=Lib.hid hk2
     have ZA:=Lib.hid hnt
     clear hk2 e2 hnt
     go_wp2_with fail
     (with_reducible refine HDF.out.mono ?_)
     rintro e w4 ⟨rfl,LK,hK4⟩
     have Cc:=Lib.hid LK
     have LM:=Lib.hid hK4
     clear LK hK4
     go_wp2_with fail
     have hmn:mb≠nb k:=fun e=>by have h1:=HH.out.iJ;rw[e,ZA.out]at h1;cases h1
     have R_:eO b_ w4 mb (w.heap.size+1) (T.map fun q=>(q.1,ptr (ib q.1))) _ cnt1:=HR1.out.kept (LM.out.block mb HR1.out.lt.1 hmn) (LM.out.block _ HR1.out.lt.2.1 (by omega))
     go_roundw
     case rel=>
      refine⟨_,cnt1,R_,?_,?_,?_,?_⟩
      ·rw[←Oe.out]
       exact IX MB.out HY.out Ch.out Cc.out LM.out
      ·exact(World.cell?_of_block (w:=w3) (w':=w4) (a:=⟨w.heap.size,0,none⟩) (LM.out.block _ O7 (by show w.heap.size≠nb k;omega))).trans O6
      ·exact lM.out.trans (LM.out.mono fun b _ hb=>by rw[show b=nb k from hb,ZA.out];simp) (fun _ _ h=>h)
      ·have:=LM.out.size;omega
     case measure=>
      rw[R_.measure,HR.out.measure]
      exact Ed.out
    ·have e2:dO y (nb k)= .map none:=if_neg hk2
     rw[e2]at d7
     have Ch:=Lib.hid hk2
     clear hk2 e2
     go_wp2_with fail
     (with_reducible refine(IW _ _).mono ?_)
     rintro e w4 ⟨rfl,hb4⟩
     have kS:=Lib.hid hb4
     clear hb4
     go_wp2_with fail
     have R_:eO b_ w4 mb (w.heap.size+1) (T.map fun q=>(q.1,ptr (ib q.1))) _ cnt1:=HR1.out.kept (kS.out.block mb HR1.out.lt.1) (kS.out.block _ HR1.out.lt.2.1)
     go_roundw
     case rel=>
      refine⟨_,cnt1,R_,?_,?_,?_,?_⟩
      ·rw[←Oe.out]
       exact(Cx MB.out HY.out Ch.out).below kS.out (Nat.le_refl _)
      ·exact(World.cell?_of_block (w:=w3) (w':=w4) (a:=⟨w.heap.size,0,none⟩) (kS.out.block _ O7)).trans O6
      ·exact lM.out.trans (fU kS.out) (fun _ _ h=>h)
      ·have:=kS.out.size;omega
     case measure=>
      rw[R_.measure,HR.out.measure]
      exact Ed.out
theorem drop_at (id:Int) (hT:dR T) (w:World) (h:aK g D w p mb ib nb T) (hid:(Lit.int .i64 id).wf=true):
  Calls Tryz.prog 29 #[ptr p, .int .i64 id] w (Turn g D w p mb (eu T id).2 (.int .i64 (eu T id).1)):=by
 by_cases hd:gu T id=0
 ·exact ME id hT hd w h hid
 ·exact Iz id hd w h hid
end
end Go.Proofs.YtohpcppeajijnaaGreat
