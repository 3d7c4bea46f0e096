/- DERIVED: THE SHELF's CONTRACTS AT THIS DUMP, IN PLAIN WORDS (tools/lay-plain.mjs out of 'YtohpcppeajijnaaGreatLaypKeysLayT.lean', which tools/lay-shelf.mjs wrote): THE SAME DECLARATIONS UNDER THE SAME NAMES: 'import', 'namespace', 'open', 'def', 'theorem' AND NOTHING ELSE: no command of the shelf's: FOR A HAND-IN. Each laying: the table of numbers ('.._ren') and one theorem, a field a fact of the dump's own or the kernel's comparison; each contract: ONE APPLICATION. slices.Sorted(maps.Keys(m)) of a tree's nodes: the IDs, rising. tree: IDs. What Save of package tree writes, plainly. (*tree.Tree).Save. -/
import Derived.Test.YtohpcppeajijnaaGreatProg
import Derived.Shelf.SlIterI.Nil
import Derived.Shelf.SlIterI.Sorted
import Derived.Shelf.SortM.Plain
import Derived.Shelf.SortM.SortNone
import Derived.Ground.GgzProg
import Derived.Ground.SlgmProg
import Derived.Test.YtohpcppeajijnaaGreatM05
import Derived.Test.YtohpcppeajijnaaGreatM16
import Derived.Test.YtohpcppeajijnaaGreatM14
import Derived.Test.YtohpcppeajijnaaGreatM20
namespace Go.Proofs
open Go.Shelf
def Tryz.xk:Go.Shelf.Ren:=⟨fun|7=>133|10=>171|n=>n,fun|23=>94|26=>3|3=>92|28=>185|0=>0|27=>184|33=>214|4=>4|n=>n,fun|n=>n⟩
theorem Tryz.K4:Go.Proofs.SlLaysZI.n7 Tryz.prog Tryz.xk:={
 mixed:=by kernel_rfl
 f7:=⟨Tryz.f133.name,by decide,Tryz.func133.trans (congrArg some (by kernel_rfl))⟩
 f10:=⟨Tryz.f171.name,by decide,Tryz.func171.trans (congrArg some (by kernel_rfl))⟩
 t0:=Tryz.underlying0
 a0:=Tryz.isAgg0
 z0:=Tryz.sizeOf0
 v0:=Tryz.zeroValue0
 t4:=Tryz.underlying4
 a4:=Tryz.isAgg4
 z4:=Tryz.sizeOf4
 v4:=Tryz.zeroValue4
 t23:=Tryz.underlying94
 a23:=Tryz.isAgg94
 z23:=Tryz.sizeOf94
 v23:=Tryz.zeroValue94
 t26:=Tryz.underlying3
 a26:=Tryz.isAgg3
 z26:=Tryz.sizeOf3
 v26:=Tryz.zeroValue3
 t27:=Tryz.underlying184
 a27:=Tryz.isAgg184
 z27:=Tryz.sizeOf184
 v27:=Tryz.zeroValue184
 t28:=Tryz.underlying185
 a28:=Tryz.isAgg185
 z28:=Tryz.sizeOf185
 v28:=Tryz.zeroValue185
 t33:=Tryz.underlying214
 a33:=Tryz.isAgg214
 z33:=Tryz.sizeOf214
 v33:=Tryz.zeroValue214}
def Tryz.sQ:Go.Shelf.Ren:=⟨fun|6=>132|8=>169|9=>170|11=>187|13=>174|12=>188|23=>198|24=>199|14=>216|15=>217|16=>218|17=>219|18=>220|19=>221|20=>222|21=>223|22=>224|25=>238|26=>226|27=>227|28=>239|29=>240|30=>241|31=>246|n=>n,fun|26=>3|28=>185|24=>37|0=>0|3=>3|37=>153|48=>154|50=>43|4=>4|40=>231|39=>230|45=>106|5=>5|9=>9|51=>266|55=>269|57=>280|58=>31|33=>214|n=>n,fun|n=>n⟩
theorem Tryz.JL:Go.Proofs.SlLaysZI.n6 Tryz.prog Tryz.sQ:={
 mixed:=by kernel_rfl
 f6:=⟨Tryz.f132.name,by decide,Tryz.func132.trans (congrArg some (by kernel_rfl))⟩
 f8:=⟨Tryz.f169.name,by decide,Tryz.func169.trans (congrArg some (by kernel_rfl))⟩
 f11:=⟨Tryz.f187.name,by decide,Tryz.func187.trans (congrArg some (by kernel_rfl))⟩
 t0:=Tryz.underlying0
 a0:=Tryz.isAgg0
 z0:=Tryz.sizeOf0
 v0:=Tryz.zeroValue0
 t24:=Tryz.underlying37
 a24:=Tryz.isAgg37
 z24:=Tryz.sizeOf37
 v24:=Tryz.zeroValue37
 t26:=Tryz.underlying3
 a26:=Tryz.isAgg3
 z26:=Tryz.sizeOf3
 v26:=Tryz.zeroValue3
 t28:=Tryz.underlying185
 a28:=Tryz.isAgg185
 z28:=Tryz.sizeOf185
 v28:=Tryz.zeroValue185
 i26:=by kernel_rfl}
def Tryz.DT:Go.Shelf.Ren:=⟨fun|5=>170|8=>174|7=>188|19=>198|20=>199|10=>216|11=>217|12=>218|13=>219|14=>220|15=>221|16=>222|17=>223|18=>224|30=>238|31=>226|32=>227|33=>239|34=>240|35=>241|40=>246|n=>n,fun|23=>37|25=>3|3=>3|32=>153|22=>37|0=>0|44=>154|46=>43|4=>4|36=>231|35=>230|41=>106|5=>5|9=>9|53=>266|57=>269|63=>280|64=>31|n=>n,fun|n=>n⟩
theorem Tryz.K5:Go.Proofs.SlLaysM.n5 Tryz.prog Tryz.DT:={
 mixed:=by kernel_rfl
 f5:=⟨Tryz.f170.name,by decide,Tryz.func170.trans (congrArg some (by kernel_rfl))⟩
 f7:=⟨Tryz.f188.name,by decide,Tryz.func188.trans (congrArg some (by kernel_rfl))⟩
 f8:=Tryz.func174.trans (congrArg some (by kernel_rfl))
 f10:=⟨Tryz.f216.name,by decide,Tryz.func216.trans (congrArg some (by kernel_rfl))⟩
 f11:=⟨Tryz.f217.name,by decide,Tryz.func217.trans (congrArg some (by kernel_rfl))⟩
 f12:=⟨Tryz.f218.name,by decide,Tryz.func218.trans (congrArg some (by kernel_rfl))⟩
 f13:=⟨Tryz.f219.name,by decide,Tryz.func219.trans (congrArg some (by kernel_rfl))⟩
 f14:=⟨Tryz.f220.name,by decide,Tryz.func220.trans (congrArg some (by kernel_rfl))⟩
 f15:=⟨Tryz.f221.name,by decide,Tryz.func221.trans (congrArg some (by kernel_rfl))⟩
 f16:=⟨Tryz.f222.name,by decide,Tryz.func222.trans (congrArg some (by kernel_rfl))⟩
 f17:=⟨Tryz.f223.name,by decide,Tryz.func223.trans (congrArg some (by kernel_rfl))⟩
 f18:=⟨Tryz.f224.name,by decide,Tryz.func224.trans (congrArg some (by kernel_rfl))⟩
 f19:=Tryz.func198.trans (congrArg some (by kernel_rfl))
 f20:=Tryz.func199.trans (congrArg some (by kernel_rfl))
 f30:=⟨Tryz.f238.name,by decide,Tryz.func238.trans (congrArg some (by kernel_rfl))⟩
 f31:=Tryz.func226.trans (congrArg some (by kernel_rfl))
 f32:=Tryz.func227.trans (congrArg some (by kernel_rfl))
 f33:=⟨Tryz.f239.name,by decide,Tryz.func239.trans (congrArg some (by kernel_rfl))⟩
 f34:=⟨Tryz.f240.name,by decide,Tryz.func240.trans (congrArg some (by kernel_rfl))⟩
 f35:=⟨Tryz.f241.name,by decide,Tryz.func241.trans (congrArg some (by kernel_rfl))⟩
 f40:=⟨Tryz.f246.name,by decide,Tryz.func246.trans (congrArg some (by kernel_rfl))⟩
 t0:=Tryz.underlying0
 a0:=Tryz.isAgg0
 z0:=Tryz.sizeOf0
 v0:=Tryz.zeroValue0
 t3:=Tryz.underlying3
 a3:=Tryz.isAgg3
 z3:=Tryz.sizeOf3
 v3:=Tryz.zeroValue3
 t4:=Tryz.underlying4
 a4:=Tryz.isAgg4
 z4:=Tryz.sizeOf4
 v4:=Tryz.zeroValue4
 t5:=Tryz.underlying5
 a5:=Tryz.isAgg5
 z5:=Tryz.sizeOf5
 v5:=Tryz.zeroValue5
 t9:=Tryz.underlying9
 a9:=Tryz.isAgg9
 z9:=Tryz.sizeOf9
 v9:=Tryz.zeroValue9
 t22:=Tryz.underlying37
 a22:=Tryz.isAgg37
 z22:=Tryz.sizeOf37
 v22:=Tryz.zeroValue37
 t23:=Tryz.underlying37
 a23:=Tryz.isAgg37
 z23:=Tryz.sizeOf37
 v23:=Tryz.zeroValue37
 t25:=Tryz.underlying3
 a25:=Tryz.isAgg3
 z25:=Tryz.sizeOf3
 v25:=Tryz.zeroValue3
 t32:=Tryz.underlying153
 a32:=Tryz.isAgg153
 z32:=Tryz.sizeOf153
 v32:=Tryz.zeroValue153
 t35:=Tryz.underlying230
 a35:=Tryz.isAgg230
 z35:=Tryz.sizeOf230
 v35:=Tryz.zeroValue230
 t36:=Tryz.underlying231
 a36:=Tryz.isAgg231
 z36:=Tryz.sizeOf231
 v36:=Tryz.zeroValue231
 t41:=Tryz.underlying106
 a41:=Tryz.isAgg106
 z41:=Tryz.sizeOf106
 v41:=Tryz.zeroValue106
 t44:=Tryz.underlying154
 a44:=Tryz.isAgg154
 z44:=Tryz.sizeOf154
 v44:=Tryz.zeroValue154
 t46:=Tryz.underlying43
 a46:=Tryz.isAgg43
 z46:=Tryz.sizeOf43
 v46:=Tryz.zeroValue43
 t53:=Tryz.underlying266
 a53:=Tryz.isAgg266
 z53:=Tryz.sizeOf266
 v53:=Tryz.zeroValue266
 t57:=Tryz.underlying269
 a57:=Tryz.isAgg269
 z57:=Tryz.sizeOf269
 v57:=Tryz.zeroValue269
 t63:=Tryz.underlying280
 a63:=Tryz.isAgg280
 z63:=Tryz.sizeOf280
 v63:=Tryz.zeroValue280
 t64:=Tryz.underlying31
 a64:=Tryz.isAgg31
 z64:=Tryz.sizeOf31
 v64:=Tryz.zeroValue31}
open Go.RowKit Go.Maps Go.Sort Go.Shelf
theorem Tryz.Md (m:Nat):AnyZI.SortsIn Tryz.prog Tryz.sQ Fence.wide m:=
 ⟨fun blk off cap ss W hH hblk hsz=>callsIn_wide.2 (AnyM.slices_Sort_int Tryz.K5 blk off cap ss W hH hblk hsz),
  fun p cap W=>callsIn_wide.2 (AnyM.slices_Sort_int_none Tryz.K5 p cap W)⟩
theorem Tryz.JM (mb:Option Nat) (W:World):Calls Tryz.prog 133 #[.map mb] W fun e w'=>e= .returned (.func (.func 171) #[] #[.pointer (some ⟨W.heap.size,0,none⟩)])∧w'=W.alloc (.cells #[.map mb] 94):=
 callsIn_wide.1 (AnyZI.keys_in Tryz.K4 Fence.wide 5 trivial rfl mb W)
set_option maxHeartbeats 1000000 in
theorem Tryz.DU {H:Type} (b nn:Nat) (D0:DataW H) (R:Value→Option (DataW H×List MemPlace)) (w:World) (hown:w.ownsMap Tryz.prog 3 R b nn D0) (hmax:Maps.size D0≤maxLen) (hbytes:Maps.size D0*8≤140737488355328):
  Calls Tryz.prog 132 #[.func (.func 171) #[] #[.pointer (some ⟨w.heap.size,0,none⟩)]] (w.alloc (.cells #[.map (some b)] 94)) fun e w'=>∃(v:Value) (ss:List Int),e= .returned v∧ss.Perm (intKeys D0)∧
   w'.ownsRow (w.alloc (.cells #[.map (some b)] 94)).heap.size 3 1 v ss.length ((ss.mergeSort (fun x y=>decide (x≤y))).map encZ)∧(v= .slice none 0 0↔ss=[])∧Below (w.alloc (.cells #[.map (some b)] 94)).heap.size (w.alloc (.cells #[.map (some b)] 94)) w':=by
 have hbl:=hown.lt
 have hseq:SeqGives Fence.wide 2 Tryz.prog 171 #[.pointer (some ⟨w.heap.size,0,none⟩)] encZ (fun ss=>ss.Perm (intKeys D0)) (Maps.size D0) (w.alloc (.cells #[.map (some b)] 94)):=
  AnyZI.keys_gives (ρ:=Tryz.xk) {Tryz.K4 with} Fence.wide _ trivial rfl (by omega) w.heap.size b nn D0 _ (by simp) (by simp) (by
   obtain⟨es,clock,hb,Ft,hs,hD⟩:=hown
   exact⟨es,clock,(Below.heap_alloc _ _ b hbl).trans hb,Ft,hs,hD⟩)
 exact callsIn_wide.1 (AnyZI.sorted_in Tryz.JL Fence.wide 5 trivial trivial trivial trivial rfl (by omega) (Tryz.Md _) (enters_of Tryz.func170 (by kernel_rfl) rfl) 171 #[.pointer (some ⟨w.heap.size,0,none⟩)] trivial (enters_of Tryz.func171 (by kernel_rfl) rfl) _ _ hmax hbytes _ hseq)
end Go.Proofs
namespace Go.Proofs.YtohpcppeajijnaaGreat
open Go.ChangeShapes Go.WideShapes Go.ChangeAt Go.RowKit
set_option linter.unusedVariables false
set_option linter.unusedSimpArgs false
theorem zo (l:List (Int×Value)):intKeys (qp bP l)=l.map (·.1):=by
 unfold intKeys qp
 simp only[List.map_map]
 rfl
theorem zq {α:Type} {l:List (Int×α)} (hl:aP (fun a b:Int=>decide (a<b)) l) {ss:List Int} (hp:ss.Perm (l.map (·.1))):ss.mergeSort (fun x y=>decide (x≤y))=l.map (·.1):=by
 have h1:(ss.mergeSort (fun x y=>decide (x≤y))).Pairwise (fun a b=>decide (a≤b)=true):=List.pairwise_mergeSort (fun a b c h1 h2=>by simp at*;omega) (fun a b=>by simp;omega) ss
 have h2:(l.map (·.1)).Pairwise (fun a b=>decide (a≤b)=true):=by
  rw[List.pairwise_map]
  exact hl.imp fun{a b} h=>by simp at*;omega
 exact((List.mergeSort_perm ss _).trans hp).eq_of_pairwise (fun a b _ _ h1 h2=>by simp at*;omega) h1 h2
def tZ (w:World) (zs:List Int) (e:Ending) (w':World):Prop:=
 ∃a cap,e= .returned (.slice a zs.length cap)∧zs.length≤cap∧ak (fun x=>w.heap.size≤x∧x<w'.heap.size) w' a zs.length (zs.map (Value.int .i64))∧Below w.heap.size w w'
def kD (T:aH):List Int:=T.map (·.1)
section
variable {g:Nat→Own} {D:Nat→Prop} {p mb:Nat} {ib nb:Int→Nat} {T:aH}
set_option maxRecDepth 100000 in
set_option maxHeartbeats 1000000 in
theorem CJ (w:World) (h:aK g D w p mb ib nb T) (hl:T.length≤100000):Calls Tryz.prog 84 #[ptr p] w (tZ w (kD T)):=by
 obtain⟨hc0,hpw,hmw⟩:=h.cell
 have hsz:(T.map fun q=>(q.1,ptr (ib q.1))).length=T.length:=List.length_map _
 have hkk:(T.map fun q=>(q.1,ptr (ib q.1))).map (·.1)=kD T:=by unfold kD;rw[List.map_map];rfl
 have hso:=h.map.sorted.1
 have hk:=Tryz.JM (some mb) w
 have hs:=Tryz.DU mb (T.map fun q:Int×bF=>(q.1,ptr (ib q.1))).length (qp bP (T.map fun q:Int×bF=>(q.1,ptr (ib q.1)))) kI w h.map (by rw[kY,hsz];unfold maxLen;omega) (by rw[kY,hsz];omega)
 have Me:=Lib.hid hso
 have HKK:=Lib.hid hkk
 clear h hso hkk hsz
 go_enter Tryz.func84,Tryz.ntmps84
 go_wp2_with (first|(go_at_call 133;refine hk.mono ?_;rintro e w' ⟨rfl,rfl⟩)|(go_at_call 132;refine hs.mono ?_;rintro e w' ⟨v,ss,rfl,hp,hown,hnil,hB⟩))
 go_ret
 rw[zo]at hp
 rw[zq Me.out hp,HKK.out]at hown
 have hlen:ss.length=(kD T).length:=by
  have:=hp.length_eq
  rw[HKK.out]at this
  exact this
 have hB2:Below w.heap.size w w':=((Below.refl _ _).alloc (Nat.le_refl _) _).trans (hB.mono (by simp))
 have hs1:=hB.size
 rw[World.size_alloc]at hs1
 obtain⟨h1,h2⟩:=hown
 simp only[List.length_map]at h1
 rcases h2 with⟨rfl,h0⟩|⟨g,cap,cur,rfl,hg,hcur,hc1,hc2,hcs,htk⟩
 ·have h00:(kD T).length=0:=by omega
  have:kD T=[]:=List.eq_nil_of_length_eq_zero h00
  rw[this]
  exact⟨none,0,rfl,Nat.le_refl _,ak.nil _ _ _,hB2⟩
 ·have hgw:=(Array.getElem?_eq_some_iff.1 hcur).1
  rw[World.size_alloc]at hg
  refine⟨some ⟨g,0,none⟩,cap,by rw[←hlen];rfl,by omega,⟨by simp,by omega,fun h0=>⟨g,0,rfl,⟨by omega,hgw⟩,hgw,fun i hi=> ?_⟩⟩,hB2⟩
  simp only[World.cell?,hcur,Nat.zero_add]
  rw[show(kD T).map (Value.int .i64)=(kD T).map encZ from rfl]
  rw[←htk,List.getElem?_take,if_pos (show i<ss.length*1 by rw[hlen];omega)]
  simp
end
def r_ (l:List UInt8):List UInt8:=f_ l.length 2++l
def Jd (e:Nm×Int):List UInt8:=r_ e.1++f_ e.2 2
def lK (k:Int) (x:bF):List UInt8:=r_ (oC k x)++r_ x.b++f_ x.names.length 2++x.names.flatMap Jd
def gT (T:aH):List UInt8:=f_ T.length 2++T.flatMap fun q=>lK q.1 q.2
theorem lM {n:Nm} (h:dG n=true):n.length≤16:=by
 unfold dG at h
 simp only[Bool.and_eq_true,decide_eq_true_eq]at h
 exact h.1.1.2
theorem mI (l:List UInt8):(r_ l).length=2+l.length:=by unfold r_;rw[List.length_append,eO]
theorem xY:∀(l:List (Nm×Int)),(∀e∈l,e.1.length≤16)→(l.flatMap Jd).length≤20*l.length
 |[],_=>by simp
 |e::r,h=>by
  have h1:=h e (by simp)
  have h2:=xY r fun y hy=>h y (by simp[hy])
  simp only[List.flatMap_cons,List.length_append,List.length_cons,Jd,mI,eO]
  omega
theorem Gs {k:Int} {x:bF} (h:Ci x) (hf:x.names.length≤4096):(lK k x).length≤90000:=by
 have h1:=xY x.names fun e he=>lM (h.good e he)
 have h2:=h.size
 unfold lK
 simp only[List.length_append,mI,eO,jA]
 omega
theorem mJ {T:aH} (hT:dA T):∀(l:aH),(∀q∈l,q∈T)→(l.flatMap fun q=>lK q.1 q.2).length≤90000*l.length
 |[],_=>by simp
 |q::r,h=>by
  have hq:=bX dR hT.sorted (h q (by simp))
  have h1:=Gs (k:=q.1) (hT.each _ _ hq) (hT.few hq)
  have h2:=mJ hT r fun y hy=>h y (by simp[hy])
  simp only[List.flatMap_cons,List.length_append,List.length_cons]
  omega
section
variable {g:Nat→Own} {D:Nat→Prop} {p mb:Nat} {ib nb:Int→Nat} {T:aH}
theorem iT.other {B x:Nat} {w w':World} {v v':Value} {bs:List UInt8} (h:iT B w x v bs v' w') {b:Nat} (hb:b<w.heap.size) (hx:b≠x) (hv:v.ownBlock≠some b):w'.heap[b]? =w.heap[b]? ∧v'.ownBlock≠some b:=
 ⟨h.2.1.block b hb fun hf=>hf.elim hx hv,fun he=>by
  rcases h.2.2 b he with h1|h1
  ·exact hv h1
  ·omega⟩
theorem zu (w:World) (l:List UInt8) (hl:l.length≤1000):∃cap w1,(convert 9 39 (.string (strOf l))).run Tryz.prog w= .ok (.slice (some ⟨w.heap.size,0,none⟩) l.length cap) w1∧Below w.heap.size w w1∧w.heap.size<w1.heap.size∧l.length≤cap∧ak (fun b=>b=w.heap.size) w1 (some ⟨w.heap.size,0,none⟩) l.length (l.map bv):=by
 have h:=Lib.run_convert_string_bytes (P:=Tryz.prog) w 9 39 5 (strOf l) Tryz.underlying9 Tryz.underlying39 Tryz.underlying5
 rw[dF]at h
 refine⟨_,_,h,⟨rfl,rfl,rfl,by rw[Lib.bytesWorld_size];omega,fun k hk=>Lib.bytesWorld_at_old w _ _ k hk⟩,by rw[Lib.bytesWorld_size];omega,grownCap_ge _ _ _ _,⟨by simp,by unfold maxLen;omega,fun h0=>⟨w.heap.size,0,rfl,rfl,by rw[Lib.bytesWorld_size];omega,fun i hi=> ?_⟩⟩⟩
 rw[Nat.zero_add,Lib.bytesWorld_cell w _ _ i (by rw[dF];exact hi)]
 have e1:(strOf l).data.toList=l:=rfl
 rw[e1,List.getElem?_map,List.getElem?_eq_getElem hi,List.getD_eq_getElem?_getD,List.getElem?_eq_getElem hi]
 rfl
structure OC (w:World) (D:Nat→Prop) (p mb:Nat) (ib nb:Nat) (k:Int) (x:bF) (T':List (Int×Value)) (a:Option Addr) (c:Nat):Prop where
 c0:w.cell? ⟨ib,0,none⟩=some (.int .i64 k)
 c1:w.cell? ⟨ib,1,none⟩=some (.int .i64 x.kind)
 c2:w.cell? ⟨ib,2,none⟩=some (.int .i64 x.links)
 c3:w.cell? ⟨ib,3,none⟩=some (.int .i64 x.b.length)
 c4:w.cell? ⟨ib,4,none⟩=some (.int .u64 x.aQ)
 c5:w.cell? ⟨ib,5,none⟩=some (.bool x.closed)
 c6:w.cell? ⟨ib,6,none⟩=some (.slice a x.b.length c)
 c7:w.cell? ⟨ib,7,none⟩=some (dJ x nb)
 row:ak D w a x.b.length (x.b.map bv)
 head:w.cell? ⟨p,0,none⟩=some (.map (some mb))
 map:MapAt bP w mb T'
 names:x.kind=2→MapAt dx w nb (bR x)
theorem Ba {w:World} (h:aK g D w p mb ib nb T) {k:Int} {x:bF} (hx:aj k T=some x):∃a c,x.b.length≤c∧∀w',Below w.heap.size w w'→OC w' D p mb (ib k) (nb k) k x (T.map fun q=>(q.1,ptr (ib q.1))) a c:=by
 obtain⟨⟨a,c,hblk,hcap,hrow⟩,_⟩:=h.item k x hx
 have hiw:=(Array.getElem?_eq_some_iff.1 hblk).1
 refine⟨a,c,hcap.1,fun w' hb=> ?_⟩
 have h':=h.below hb (Nat.le_refl _)
 obtain⟨c0,c1,c2,c3,c4,c5,c7,_⟩:=(h'.item k x hx).cell
 refine⟨c0,c1,c2,c3,c4,c5,?_,c7,hrow.below hb (Nat.le_refl _),h'.cell.1,h'.map,fun hk=>(h'.item k x hx).names hk⟩
 rw[hb.cell (p:=⟨ib k,6,none⟩) hiw]
 simp only[World.cell?,hblk]
 rfl
set_option maxRecDepth 100000 in
set_option maxHeartbeats 8000000 in
theorem JN (w:World) (h:aK g D w p mb ib nb T) (hT:dA T):Calls Tryz.prog 31 #[ptr p] w (pV w (gT T)):=by
 have NV:=Lib.hid h
 have HT:=Lib.hid hT
 have hlen:=hT.len
 obtain⟨N,hN⟩:∃N,N=T.length:=⟨_,rfl⟩
 have zW:=Lib.hid hN
 rw[←hN]at hlen
 clear h hT hN
 go_enter Tryz.func31,Tryz.ntmps31
 go_wp2_with fail
 (with_reducible refine(pQ w).mono ?_)
 rintro e w1 ⟨rfl,hW1,hb1⟩
 have HW1:=Lib.hid hW1
 have HB1:=Lib.hid hb1
 have h1:=NV.out.below hb1 (Nat.le_refl _)
 have hs1:=hb1.size
 obtain⟨hc0,hpw,hmw⟩:=h1.cell
 have DV:=Lib.hid h1.map
 have qo:=Lib.hid (jN hW1 (N:Int) (by omega) (by omega) (by simp))
 clear h1 hW1 hb1
 go_wp2_with (at_len;refine iK bP rfl _ 94 92 rfl Tryz.underlying94 rfl DV.out ?_;rw[List.length_map,←zW.out])
 (with_reducible refine qo.out.mono ?_)
 rintro e w2 ⟨rfl,v2,hm2⟩
 have HW2:=Lib.hid hm2.1
 have HB2:=Lib.hid (HB1.out.trans (hm2.low HW1.out))
 have QC:=Lib.hid (CJ w2 (NV.out.below HB2.out (Nat.le_refl _)) (by rw[←zW.out];omega))
 clear hm2 qo hc0 hpw hmw DV HB1
 go_wp2_with fail
 (with_reducible refine QC.out.mono ?_)
 rintro e w3 ⟨a3,c3,rfl,hc3,hr3,hb3⟩
 have hil:(kD T).length=N:=by unfold kD;rw[List.length_map,zW.out]
 rw[hil]at hc3 hr3⊢
 have HW3:=Lib.hid (HW2.out.below hb3)
 have HB3:=Lib.hid (HB2.out.trans (hb3.mono HB2.out.size))
 have HR3:=Lib.hid hr3
 have NQ:Hid (∀b,w2.heap.size≤b→b≠w.heap.size∧v2.ownBlock≠some b):=fun b hb=>⟨by have:=HW2.out.lt;omega,fun he=>by have:=nX HW2.out.own b he;omega⟩
 clear hb3 hr3 QC HW2
 go_wp2_with fail
 go_loopw [22] (fun iv wr=>∃(i:Nat) (v':Value),i≤N∧iv= .int .i64 i∧iT w.heap.size w3 w.heap.size v2 (f_ (N:Int) 2++(T.take i).flatMap fun q=>lK q.1 q.2) v' wr) (fun iv _=>N-(intOf iv).toNat)
 case atStart=>exact⟨0,v2,by omega,rfl,by simpa using iT.refl HW3.out⟩
 case round=>
  obtain⟨i,v',hi,rfl,hm⟩:=hrel
  have HM:=Lib.hid hm
  have Je:=Lib.hid (HB3.out.trans (hm.low HW3.out))
  clear hm
  by_cases hin:i<N
  ·have hd1:decide ((i:Int)<(N:Int))=true:=by simpa using hin
   obtain⟨e,he⟩:∃e,T[i]? =some e:=⟨_,List.getElem?_eq_getElem (by have:=zW.out;omega)⟩
   obtain⟨k,x⟩:=e
   have hmem:(k,x)∈T:=List.mem_of_getElem? he
   have hx:aj k T=some x:=bX dR HT.out.sorted hmem
   obtain⟨ab,cb,hcb,hF⟩:=Ba NV.out hx
   have O1:=Lib.hid (HT.out.each k x hx)
   have nR:=HT.out.ids k x hx
   have hok:bP.ok k:=om nR.1 (by omega)
   have HG:Hid (aj k (T.map fun q=>(q.1,ptr (ib q.1)))=some (ptr (ib k))):=by rw[dX,hx];rfl
   obtain⟨b3,o3,rfl,Yv,RI,hcc⟩:=HR3.out.at_ (by omega)
   have OD:=NQ.out b3 Yv.1
   have ck:wr.cell? ⟨b3,o3+i,none⟩=some (.int .i64 k):=by
    rw[World.cell?_of_block (w:=w3) (w':=wr) (a:=⟨b3,o3+i,none⟩) (HM.out.other RI OD.1 OD.2).1,hcc i hin]
    unfold kD
    rw[List.getElem?_map,List.getElem?_map,he]
    rfl
   have FR:=hF wr Je.out
   have HF:=Lib.hid hF
   have HX:=Lib.hid hx
   have HE:=Lib.hid he
   have c0:=FR.c0
   have c1:=FR.c1
   have c2:=FR.c2
   have c3':=FR.c3
   have c4:=FR.c4
   have c5:=FR.c5
   have p0:=FR.head
   have iE:=Lib.hid FR.map
   have hen:=AB k x O1.out nR.1 nR.2 wr
   unfold iM at hen
   have Jf:=Lib.hid hen
   have hi0:(0:Int)≤(i:Int):=by omega
   have hiN:(i:Int)<(N:Int):=by omega
   clear hx he hmem hF FR hen hcc
   go_wp2_with (first|(at_lookup;refine aW bP rfl _ _ 94 92 rfl Tryz.underlying94 (Tryz.bI _) rfl iE.out k rfl hok ?_;rw[HG.out]))
   (with_reducible refine Jf.out.mono ?_)
   rintro e w4 ⟨ae,ne,ce,rfl,hce,hre,hbe⟩
   have hne:ne=16:=by have h9:=hre.length;rw[List.length_map,jA]at h9;omega
   subst hne
   obtain⟨Gt,JO⟩:∃Gt,Gt=(f_ (N:Int) 2++(T.take i).flatMap fun q=>lK q.1 q.2):=⟨_,rfl⟩
   rw[←JO]at HM
   have hl0:Gt.length≤5800000:=by
    have h9:=mJ HT.out (T.take i) fun q hq=>List.mem_of_mem_take hq
    rw[List.length_take]at h9
    rw[JO,List.length_append,eO]
    omega
   have QD:=Lib.hid JO
   have RJ:=HM.out.1.below hbe
   have NS:=Lib.hid RJ
   have eG:=Lib.hid (Je.out.trans (hbe.mono Je.out.size))
   have K6:=HM.out.1.lt
   have DW:=Lib.hid (xO RJ ae 16 ce (oC k x) hre (fun b hb=>⟨by omega,fun he=>by have:=nX HM.out.1.own b he;omega⟩) hce (by omega) (by omega))
   have Am:=Lib.hid (HM.out.below hbe)
   clear JO RJ hre hbe hce Jf ck c0 c1 c2 c3' c4 c5 p0 iE
   go_wp2_with fail
   (with_reducible refine DW.out.mono ?_)
   rintro e w5 ⟨rfl,v5,Jv⟩
   have K7:=Lib.hid (Am.out.trans Jv)
   have iY:=Lib.hid (eG.out.trans ((Jv.low NS.out).mono (Nat.le_refl _)))
   have F5:=HF.out w5 iY.out
   have c6:=F5.c6
   have hbl:=O1.out.size
   have E8:=Lib.hid NV.out.lG
   have Mf:=Lib.hid (xO Jv.1 ab x.b.length cb x.b F5.row (fun b hb=>⟨by have:=E8.out b hb;omega,fun he=>by have:=fO Jv.1.own b he;have:=E8.out b hb;omega⟩) hcb (by simp only[List.length_append,jA,eO];omega) (by omega))
   clear Jv F5 DW NS eG Am
   go_wp2_with fail
   (with_reducible refine Mf.out.mono ?_)
   rintro e w6 ⟨rfl,v6,LM⟩
   have qH:=Lib.hid (iY.out.trans (LM.low K7.out.1))
   have JQ:=Lib.hid (K7.out.trans LM)
   clear LM Mf c6 K7 iY
   have tJ:=HT.out.few HX.out
   have F6:=HF.out w6 qH.out
   have c7:=F6.c7
   obtain⟨L,hL⟩:∃L,L=x.names.length:=⟨_,rfl⟩
   have CK:=Lib.hid hL
   have hlb:(Gt++(f_ ((16:Nat):Int) 2++oC k x)++(f_ (x.b.length:Int) 2++x.b)).length≤5900000:=by simp only[List.length_append,jA,eO];omega
   have Mg:=Lib.hid (jN JQ.out.1 (L:Int) (by omega) (by omega) (by omega))
   by_cases hk2:x.kind=2
   ·have e2:dJ x (nb k)= .map (some (nb k)):=if_pos hk2
    rw[e2]at c7
    have HN:=Lib.hid (F6.names hk2)
    have yU:=Lib.hid hk2
    clear F6 hk2 e2 hL
    go_wp2_with (at_len;refine iK dx rfl _ 107 3 rfl Tryz.underlying107 rfl HN.out ?_;rw[bR,List.length_map,←CK.out])
    (with_reducible refine Mg.out.mono ?_)
    rintro e w7 ⟨rfl,v7,FX⟩
    have zZ:=qH.out.trans (FX.low JQ.out.1)
    have yD:=Lib.hid zZ
    have Jg:=Lib.hid (JQ.out.trans FX)
    have e2:dJ x (nb k)= .map (some (nb k)):=if_pos yU.out
    have c7:=(HF.out w7 zZ).c7
    have hkk:=Tryz.CB (some (nb k)) w7
    have hso:=sorted_at k x w7 (NV.out.below zZ (Nat.le_refl _)) HT.out HX.out
    rw[e2]at c7 hso
    have hll:(x.names.map (·.1)).length=L:=by rw[List.length_map,CK.out]
    have Me:=Lib.hid hso
    have Mh:=wall w7 (.cells #[.map (some (nb k))] 107)
    clear FX zZ e2 hso Mg JQ qH HN
    go_wp2_with (go_at_call 88;refine hkk.mono ?_;rintro e w' ⟨rfl,rfl⟩)
    (with_reducible refine Me.out.mono ?_)
    rintro e w8 ⟨a8,c8,rfl,hc8,E9,vv⟩
    rw[hll]at E9 hc8⊢
    have Mi:Below w7.heap.size w7 w8:=Mh.trans (vv.mono Mh.size)
    have tH:=Lib.hid (yD.out.trans (Mi.mono yD.out.size))
    have K8:=Lib.hid (Jg.out.below Mi)
    have Yw:=Lib.hid E9
    have JR:Hid (∀b,w7.heap.size<b→b≠w.heap.size∧v7.ownBlock≠some b):=fun b hb=>⟨by have:=Jg.out.1.lt;omega,fun he=>by have:=nX Jg.out.1.own b he;omega⟩
    have Yx:(w7.alloc (.cells #[.map (some (nb k))] 107)).heap.size=w7.heap.size+1:=by simp
    clear Mi vv Mh hkk E9 Me yD c7
    go_wp2_with fail
    go_loopw [63] (fun jv wr2=>∃(j:Nat) (vj:Value),j≤L∧jv= .int .i64 j∧iT w.heap.size w8 w.heap.size v7 (Gt++(f_ ((16:Nat):Int) 2++oC k x)++(f_ (x.b.length:Int) 2++x.b)++f_ (L:Int) 2++(x.names.take j).flatMap Jd) vj wr2) (fun jv _=>L-(intOf jv).toNat)
    case atStart=>exact⟨0,v7,by omega,rfl,by simpa using iT.refl K8.out.1⟩
    case round=>
     obtain⟨j,vj,hj,rfl,RL⟩:=hrel
     have NW:=Lib.hid RL
     have WX:=Lib.hid (tH.out.trans (RL.low K8.out.1))
     clear RL
     by_cases RN:j<L
     ·have hd2:decide ((j:Int)<(L:Int))=true:=by simpa using RN
      obtain⟨en,hen⟩:∃en,x.names[j]? =some en:=⟨_,List.getElem?_eq_getElem (by have:=CK.out;omega)⟩
      obtain⟨nm,id⟩:=en
      have CO:(nm,id)∈x.names:=List.mem_of_getElem? hen
      have hgn:=bX uD O1.out.sorted CO
      have Yy:nm.length≤16:=lM (O1.out.good _ CO)
      have OE:=HT.out.leads k x HX.out _ CO
      obtain⟨y,hy⟩:=Option.isSome_iff_exists.1 OE.1
      have RP:0≤id∧id≤65535:=HT.out.ids _ _ hy
      obtain⟨b8,o8,s,rfl,hS8,RQ,hs,hsl,OG⟩:=Yw.out.cell j RN
      rw[List.getElem?_map,List.getElem?_map,hen]at hs
      obtain rfl:strOf nm=s:=by simpa using hs
      have NY:=JR.out b8 (by omega)
      have cn:wr.cell? ⟨b8,o8+j,none⟩=some (.string (strOf nm)):=(World.cell?_of_block (w:=w8) (w':=wr) (a:=⟨b8,o8+j,none⟩) (NW.out.other RQ NY.1 NY.2).1).trans OG
      obtain⟨WY,wc,hrun,hbc,RS,K9,hcells⟩:=zu wr nm (by omega)
      have hrow:ak (fun b=>b=wr.heap.size) wc (some ⟨wr.heap.size,0,none⟩) nm.length (nm.map bv):=hcells
      have WZ:=NW.out.1.below hbc
      have hxw:=NW.out.1.lt
      have hlj:(Gt++(f_ ((16:Nat):Int) 2++oC k x)++(f_ (x.b.length:Int) 2++x.b)++f_ (L:Int) 2++(x.names.take j).flatMap Jd).length≤6000000:=by
       have h9:=xY (x.names.take j) fun e he=>lM (O1.out.good e (List.mem_of_mem_take he))
       rw[List.length_take]at h9
       simp only[List.length_append,jA,eO]at hlb⊢
       omega
      have NT:=Lib.hid (xO WZ (some ⟨wr.heap.size,0,none⟩) nm.length WY nm hrow (fun b hb=>⟨by rw[hb];omega,fun he=>by have:=nX NW.out.1.own b he;omega⟩) K9 (by omega) (by omega))
      have OH:=Lib.hid (NW.out.below hbc)
      have Yz:=Lib.hid (WX.out.trans (hbc.mono WX.out.size))
      have yP:=Lib.hid hgn
      have RU:=Lib.hid hen
      have hj0:(0:Int)≤(j:Int):=by omega
      have hL4:L≤4096:=by have:=CK.out;omega
      have ew:IntKind.i64.wrap ((j:Int)+1)=(j:Int)+1:=IntWalk.i64_in _ (by omega)
      have YA:(j:Int)<(L:Int):=by omega
      clear hen CO hgn OE hy hs hsl OG hrow WZ hbc hcells
      go_wp2_with fail
      (with_reducible refine NT.out.mono ?_)
      rintro e RV ⟨rfl,v10,Mj⟩
      have OI:=Lib.hid (OH.out.trans Mj)
      have RX:=Lib.hid (Yz.out.trans (Mj.low OH.out.1))
      have RY:=HF.out RV RX.out
      have c7:=RY.c7
      have e2:dJ x (nb k)= .map (some (nb k)):=if_pos yU.out
      rw[e2]at c7
      have RZ:=Lib.hid (RY.names yU.out)
      have R3:Hid (aj nm (bR x)=some (.int .i64 id)):=by rw[dP,yP.out];rfl
      have R4:nm.length≤maxLen:=by unfold maxLen;omega
      have Mk:=Lib.hid (jN OI.out.1 id RP.1 (by omega) (by simp only[List.length_append,jA,eO]at hlj⊢;omega))
      clear Mj RY e2 hrun
      go_wp2_with (at_lookup;refine aW dx rfl _ _ 107 3 rfl Tryz.underlying107 (Tryz.fP _) rfl RZ.out nm rfl R4 ?_;rw[R3.out])
      (with_reducible refine Mk.out.mono ?_)
      rintro e w11 ⟨rfl,v11,OJ⟩
      have Ml:=OI.out.trans OJ
      have hby:Gt++(f_ ((16:Nat):Int) 2++oC k x)++(f_ (x.b.length:Int) 2++x.b)++f_ (L:Int) 2++(x.names.take j).flatMap Jd++(f_ (nm.length:Int) 2++nm)++f_ id 2=Gt++(f_ ((16:Nat):Int) 2++oC k x)++(f_ (x.b.length:Int) 2++x.b)++f_ (L:Int) 2++(x.names.take (j+1)).flatMap Jd:=by
       rw[List.take_add_one,RU.out,List.flatMap_append]
       simp[Jd,r_,List.append_assoc]
      rw[hby]at Ml
      have R5:=Lib.hid Ml
      clear Ml hby OJ
      go_wp2_with fail
      go_roundw
      case rel=>exact⟨j+1,v11,by omega,by go_num,R5.out⟩
      case measure=>
       simp only[intOf]
       omega
     ·have hd2:decide ((j:Int)<(L:Int))=false:=by simpa using RN
      have hfin:Gt++(f_ ((16:Nat):Int) 2++oC k x)++(f_ (x.b.length:Int) 2++x.b)++f_ (L:Int) 2++(x.names.take j).flatMap Jd=(f_ (N:Int) 2++(T.take (i+1)).flatMap fun q=>lK q.1 q.2):=by
       rw[List.take_of_length_le (show x.names.length≤j by have:=CK.out;omega),QD.out,List.take_add_one,HE.out,List.flatMap_append,CK.out]
       simp[lK,r_,jA,List.append_assoc]
      have Mq:=K8.out.trans NW.out
      rw[hfin]at Mq
      have R6:=Lib.hid Mq
      clear Mq hfin
      go_wp2_with fail
      go_roundw
      case rel=>exact⟨i+1,vj,by omega,by go_num,R6.out⟩
      case measure=>simp[intOf];omega
   ·have e2:dJ x (nb k)= .map none:=if_neg hk2
    have hnil:x.names=[]:=O1.out.file (O1.out.kind.resolve_right hk2)
    obtain rfl:L=0:=by rw[hL,hnil];rfl
    rw[e2]at c7
    have OL:Hid (Calls Tryz.prog 83 #[ptr w.heap.size, .int .i64 0] w6 (lI w.heap.size w6 w.heap.size v6 (Gt++(f_ ((16:Nat):Int) 2++oC k x)++(f_ (x.b.length:Int) 2++x.b)++f_ ((0:Nat):Int) 2))):=Mg.out
    clear F6 hk2 hL
    go_wp2_with fail
    (with_reducible refine OL.out.mono ?_)
    rintro e w7 ⟨rfl,v7,FX⟩
    have zZ:=qH.out.trans (FX.low JQ.out.1)
    have yD:=Lib.hid zZ
    have Jg:=Lib.hid (JQ.out.trans FX)
    have c7:=(HF.out w7 zZ).c7
    have hkk:=Tryz.CB none w7
    have hso:=sorted_at k x w7 (NV.out.below zZ (Nat.le_refl _)) HT.out HX.out
    rw[e2]at c7 hso
    rw[hnil]at hso
    have Me:=Lib.hid hso
    have Gh:=Lib.hid hnil
    have Mh:=wall w7 (.cells #[.map none] 107)
    clear FX zZ e2 hso Mg OL JQ qH hnil
    go_wp2_with (go_at_call 88;refine hkk.mono ?_;rintro e w' ⟨rfl,rfl⟩)
    (with_reducible refine Me.out.mono ?_)
    rintro e w8 ⟨a8,c8,rfl,hc8,E9,vv⟩
    have K8:=Lib.hid (Jg.out.below (Mh.trans (vv.mono Mh.size)))
    simp only[List.map_nil,List.length_nil]at hc8⊢
    clear vv Mh hkk E9 Me yD c7
    have hfin:Gt++(f_ ((16:Nat):Int) 2++oC k x)++(f_ (x.b.length:Int) 2++x.b)++f_ ((0:Nat):Int) 2=(f_ (N:Int) 2++(T.take (i+1)).flatMap fun q=>lK q.1 q.2):=by
     rw[QD.out,List.take_add_one,HE.out,List.flatMap_append]
     simp[lK,r_,jA,Gh.out,List.append_assoc]
    have Mq:=K8.out
    rw[hfin]at Mq
    have R6:=Lib.hid Mq
    clear Mq hfin K8 Jg
    go_wp2_with fail
    go_loopw [63] (fun jv wr2=>jv= .int .i64 0∧wr2=w8) (fun jv _=>0)
    case atStart=>exact⟨rfl,rfl⟩
    case round=>
     obtain⟨rfl,rfl⟩:=hrel
     go_wp2_with fail
     go_roundw
     case rel=>exact⟨i+1,v7,by omega,by go_num,R6.out⟩
     case measure=>simp[intOf];omega
  ·have hd1:decide ((i:Int)<(N:Int))=false:=by simpa using hin
   have W9:(f_ (N:Int) 2++(T.take i).flatMap fun q=>lK q.1 q.2)=gT T:=by
    rw[List.take_of_length_le (by have:=zW.out;omega),zW.out]
    rfl
   have YB:(gT T).length≤100000000:=by
    have:=mJ HT.out T fun q hq=>hq
    unfold gT
    rw[List.length_append,eO]
    have:=zW.out
    omega
   have HD:=Lib.hid (yX HM.out.1 (by rw[W9];exact YB))
   rw[W9]at HD
   go_wp2_with fail
   (with_reducible refine HD.out.mono ?_)
   rintro e w9 ⟨a9,n9,c9,rfl,KV,Jw,AJ⟩
   have Jy:=Lib.hid Jw
   have LQ:=Lib.hid (Je.out.trans (AJ.mono Je.out.size))
   have hsr:=Je.out.size
   clear Jw AJ
   go_wp2_with fail
   go_ret
   exact⟨a9,n9,c9,rfl,KV,Jy.out.mono fun b hb=>⟨by omega,hb.2⟩,LQ.out⟩
end
end Go.Proofs.YtohpcppeajijnaaGreat
