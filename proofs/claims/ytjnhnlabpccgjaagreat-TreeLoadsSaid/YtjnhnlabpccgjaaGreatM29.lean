/- DERIVED: THE SHELF's CONTRACTS AT THIS DUMP, IN PLAIN WORDS (tools/lay-plain.mjs out of 'YtjnhnlabpccgjaaGreatLaypKeysLayT.lean', which tools/lay-shelf.mjs wrote): THE SAME DECLARATIONS UNDER THE SAME NAMES: 'import', 'namespace', 'open', 'def', 'theorem' AND NOTHING ELSE: no command of the shelf's: FOR A HAND-IN. Each laying: the table of numbers ('.._ren') and one theorem, a field a fact of the dump's own or the kernel's comparison; each contract: ONE APPLICATION. slices.Sorted(maps.Keys(m)) of a tree's nodes: the IDs, rising. tree: IDs. What Save of package tree writes, plainly. (*tree.Tree).Save. -/
import Derived.Test.YtjnhnlabpccgjaaGreatProg
import Derived.Shelf.SlIterI.Nil
import Derived.Shelf.SlIterI.Sorted
import Derived.Shelf.SortM.Plain
import Derived.Shelf.SortM.SortNone
import Derived.Ground.GgzProg
import Derived.Ground.SlgmProg
import Derived.Test.YtjnhnlabpccgjaaGreatM02
import Derived.Test.YtjnhnlabpccgjaaGreatM12
import Derived.Test.YtjnhnlabpccgjaaGreatM28
namespace Go.Proofs
open Go.Shelf
def Tryz.Bz:Go.Shelf.Ren:=⟨fun|7=>123|10=>159|n=>n,fun|23=>104|26=>3|3=>107|28=>181|0=>0|27=>180|33=>206|4=>4|n=>n,fun|n=>n⟩
theorem Tryz.QN:Go.Proofs.SlLaysZI.n7 Tryz.prog Tryz.Bz:={
 mixed:=by kernel_rfl
 f7:=⟨Tryz.f123.name,by decide,Tryz.func123.trans (congrArg some (by kernel_rfl))⟩
 f10:=⟨Tryz.f159.name,by decide,Tryz.func159.trans (congrArg some (by kernel_rfl))⟩
 t0:=Tryz.underlying0
 a0:=Tryz.isAgg0
 z0:=Tryz.sizeOf0
 v0:=Tryz.zeroValue0
 t4:=Tryz.underlying4
 a4:=Tryz.isAgg4
 z4:=Tryz.sizeOf4
 v4:=Tryz.zeroValue4
 t23:=Tryz.underlying104
 a23:=Tryz.isAgg104
 z23:=Tryz.sizeOf104
 v23:=Tryz.zeroValue104
 t26:=Tryz.underlying3
 a26:=Tryz.isAgg3
 z26:=Tryz.sizeOf3
 v26:=Tryz.zeroValue3
 t27:=Tryz.underlying180
 a27:=Tryz.isAgg180
 z27:=Tryz.sizeOf180
 v27:=Tryz.zeroValue180
 t28:=Tryz.underlying181
 a28:=Tryz.isAgg181
 z28:=Tryz.sizeOf181
 v28:=Tryz.zeroValue181
 t33:=Tryz.underlying206
 a33:=Tryz.isAgg206
 z33:=Tryz.sizeOf206
 v33:=Tryz.zeroValue206}
def Tryz.wU:Go.Shelf.Ren:=⟨fun|6=>122|8=>157|9=>158|11=>175|13=>162|12=>176|23=>186|24=>187|14=>205|15=>206|16=>207|17=>208|18=>209|19=>210|20=>211|21=>212|22=>213|25=>227|26=>215|27=>216|28=>228|29=>229|30=>230|31=>235|n=>n,fun|26=>3|28=>181|24=>41|0=>0|3=>3|37=>171|48=>192|50=>27|4=>4|40=>222|39=>221|45=>133|5=>5|9=>9|51=>258|55=>261|57=>272|58=>65|33=>206|n=>n,fun|n=>n⟩
theorem Tryz.PD:Go.Proofs.SlLaysZI.n6 Tryz.prog Tryz.wU:={
 mixed:=by kernel_rfl
 f6:=⟨Tryz.f122.name,by decide,Tryz.func122.trans (congrArg some (by kernel_rfl))⟩
 f8:=⟨Tryz.f157.name,by decide,Tryz.func157.trans (congrArg some (by kernel_rfl))⟩
 f11:=⟨Tryz.f175.name,by decide,Tryz.func175.trans (congrArg some (by kernel_rfl))⟩
 t0:=Tryz.underlying0
 a0:=Tryz.isAgg0
 z0:=Tryz.sizeOf0
 v0:=Tryz.zeroValue0
 t24:=Tryz.underlying41
 a24:=Tryz.isAgg41
 z24:=Tryz.sizeOf41
 v24:=Tryz.zeroValue41
 t26:=Tryz.underlying3
 a26:=Tryz.isAgg3
 z26:=Tryz.sizeOf3
 v26:=Tryz.zeroValue3
 t28:=Tryz.underlying181
 a28:=Tryz.isAgg181
 z28:=Tryz.sizeOf181
 v28:=Tryz.zeroValue181
 i26:=by kernel_rfl}
def Tryz.Kc:Go.Shelf.Ren:=⟨fun|5=>158|8=>162|7=>176|19=>186|20=>187|10=>205|11=>206|12=>207|13=>208|14=>209|15=>210|16=>211|17=>212|18=>213|30=>227|31=>215|32=>216|33=>228|34=>229|35=>230|40=>235|n=>n,fun|23=>41|25=>3|3=>3|32=>171|22=>41|0=>0|44=>192|46=>27|4=>4|36=>222|35=>221|41=>133|5=>5|9=>9|53=>258|57=>261|63=>272|64=>65|n=>n,fun|n=>n⟩
theorem Tryz.QO:Go.Proofs.SlLaysM.n5 Tryz.prog Tryz.Kc:={
 mixed:=by kernel_rfl
 f5:=⟨Tryz.f158.name,by decide,Tryz.func158.trans (congrArg some (by kernel_rfl))⟩
 f7:=⟨Tryz.f176.name,by decide,Tryz.func176.trans (congrArg some (by kernel_rfl))⟩
 f8:=Tryz.func162.trans (congrArg some (by kernel_rfl))
 f10:=⟨Tryz.f205.name,by decide,Tryz.func205.trans (congrArg some (by kernel_rfl))⟩
 f11:=⟨Tryz.f206.name,by decide,Tryz.func206.trans (congrArg some (by kernel_rfl))⟩
 f12:=⟨Tryz.f207.name,by decide,Tryz.func207.trans (congrArg some (by kernel_rfl))⟩
 f13:=⟨Tryz.f208.name,by decide,Tryz.func208.trans (congrArg some (by kernel_rfl))⟩
 f14:=⟨Tryz.f209.name,by decide,Tryz.func209.trans (congrArg some (by kernel_rfl))⟩
 f15:=⟨Tryz.f210.name,by decide,Tryz.func210.trans (congrArg some (by kernel_rfl))⟩
 f16:=⟨Tryz.f211.name,by decide,Tryz.func211.trans (congrArg some (by kernel_rfl))⟩
 f17:=⟨Tryz.f212.name,by decide,Tryz.func212.trans (congrArg some (by kernel_rfl))⟩
 f18:=⟨Tryz.f213.name,by decide,Tryz.func213.trans (congrArg some (by kernel_rfl))⟩
 f19:=Tryz.func186.trans (congrArg some (by kernel_rfl))
 f20:=Tryz.func187.trans (congrArg some (by kernel_rfl))
 f30:=⟨Tryz.f227.name,by decide,Tryz.func227.trans (congrArg some (by kernel_rfl))⟩
 f31:=Tryz.func215.trans (congrArg some (by kernel_rfl))
 f32:=Tryz.func216.trans (congrArg some (by kernel_rfl))
 f33:=⟨Tryz.f228.name,by decide,Tryz.func228.trans (congrArg some (by kernel_rfl))⟩
 f34:=⟨Tryz.f229.name,by decide,Tryz.func229.trans (congrArg some (by kernel_rfl))⟩
 f35:=⟨Tryz.f230.name,by decide,Tryz.func230.trans (congrArg some (by kernel_rfl))⟩
 f40:=⟨Tryz.f235.name,by decide,Tryz.func235.trans (congrArg some (by kernel_rfl))⟩
 t0:=Tryz.underlying0
 a0:=Tryz.isAgg0
 z0:=Tryz.sizeOf0
 v0:=Tryz.zeroValue0
 t3:=Tryz.underlying3
 a3:=Tryz.isAgg3
 z3:=Tryz.sizeOf3
 v3:=Tryz.zeroValue3
 t4:=Tryz.underlying4
 a4:=Tryz.isAgg4
 z4:=Tryz.sizeOf4
 v4:=Tryz.zeroValue4
 t5:=Tryz.underlying5
 a5:=Tryz.isAgg5
 z5:=Tryz.sizeOf5
 v5:=Tryz.zeroValue5
 t9:=Tryz.underlying9
 a9:=Tryz.isAgg9
 z9:=Tryz.sizeOf9
 v9:=Tryz.zeroValue9
 t22:=Tryz.underlying41
 a22:=Tryz.isAgg41
 z22:=Tryz.sizeOf41
 v22:=Tryz.zeroValue41
 t23:=Tryz.underlying41
 a23:=Tryz.isAgg41
 z23:=Tryz.sizeOf41
 v23:=Tryz.zeroValue41
 t25:=Tryz.underlying3
 a25:=Tryz.isAgg3
 z25:=Tryz.sizeOf3
 v25:=Tryz.zeroValue3
 t32:=Tryz.underlying171
 a32:=Tryz.isAgg171
 z32:=Tryz.sizeOf171
 v32:=Tryz.zeroValue171
 t35:=Tryz.underlying221
 a35:=Tryz.isAgg221
 z35:=Tryz.sizeOf221
 v35:=Tryz.zeroValue221
 t36:=Tryz.underlying222
 a36:=Tryz.isAgg222
 z36:=Tryz.sizeOf222
 v36:=Tryz.zeroValue222
 t41:=Tryz.underlying133
 a41:=Tryz.isAgg133
 z41:=Tryz.sizeOf133
 v41:=Tryz.zeroValue133
 t44:=Tryz.underlying192
 a44:=Tryz.isAgg192
 z44:=Tryz.sizeOf192
 v44:=Tryz.zeroValue192
 t46:=Tryz.underlying27
 a46:=Tryz.isAgg27
 z46:=Tryz.sizeOf27
 v46:=Tryz.zeroValue27
 t53:=Tryz.underlying258
 a53:=Tryz.isAgg258
 z53:=Tryz.sizeOf258
 v53:=Tryz.zeroValue258
 t57:=Tryz.underlying261
 a57:=Tryz.isAgg261
 z57:=Tryz.sizeOf261
 v57:=Tryz.zeroValue261
 t63:=Tryz.underlying272
 a63:=Tryz.isAgg272
 z63:=Tryz.sizeOf272
 v63:=Tryz.zeroValue272
 t64:=Tryz.underlying65
 a64:=Tryz.isAgg65
 z64:=Tryz.sizeOf65
 v64:=Tryz.zeroValue65}
open Go.RowKit Go.Maps Go.Sort Go.Shelf
theorem Tryz.Sk (m:Nat):AnyZI.SortsIn Tryz.prog Tryz.wU Fence.wide m:=
 ⟨fun blk off cap ss W hH hblk hsz=>callsIn_wide.2 (AnyM.slices_Sort_int Tryz.QO blk off cap ss W hH hblk hsz),
  fun p cap W=>callsIn_wide.2 (AnyM.slices_Sort_int_none Tryz.QO p cap W)⟩
theorem Tryz.PE (mb:Option Nat) (W:World):Calls Tryz.prog 123 #[.map mb] W fun e w'=>e= .returned (.func (.func 159) #[] #[.pointer (some ⟨W.heap.size,0,none⟩)])∧w'=W.alloc (.cells #[.map mb] 104):=
 callsIn_wide.1 (AnyZI.keys_in Tryz.QN Fence.wide 5 trivial rfl mb W)
set_option maxHeartbeats 1000000 in
theorem Tryz.Ke {H:Type} (b nn:Nat) (D0:DataW H) (R:Value→Option (DataW H×List MemPlace)) (w:World) (hown:w.ownsMap Tryz.prog 3 R b nn D0) (hmax:Maps.size D0≤maxLen) (hbytes:Maps.size D0*8≤140737488355328):
  Calls Tryz.prog 122 #[.func (.func 159) #[] #[.pointer (some ⟨w.heap.size,0,none⟩)]] (w.alloc (.cells #[.map (some b)] 104)) fun e w'=>∃(v:Value) (ss:List Int),e= .returned v∧ss.Perm (intKeys D0)∧
   w'.ownsRow (w.alloc (.cells #[.map (some b)] 104)).heap.size 3 1 v ss.length ((ss.mergeSort (fun x y=>decide (x≤y))).map encZ)∧(v= .slice none 0 0↔ss=[])∧Below (w.alloc (.cells #[.map (some b)] 104)).heap.size (w.alloc (.cells #[.map (some b)] 104)) w':=by
 have hbl:=hown.lt
 have hseq:SeqGives Fence.wide 2 Tryz.prog 159 #[.pointer (some ⟨w.heap.size,0,none⟩)] encZ (fun ss=>ss.Perm (intKeys D0)) (Maps.size D0) (w.alloc (.cells #[.map (some b)] 104)):=
  AnyZI.keys_gives (ρ:=Tryz.Bz) {Tryz.QN with} Fence.wide _ trivial rfl (by omega) w.heap.size b nn D0 _ (by simp) (by simp) (by
   obtain⟨es,clock,hb,Ft,hs,hD⟩:=hown
   exact⟨es,clock,(Below.heap_alloc _ _ b hbl).trans hb,Ft,hs,hD⟩)
 exact callsIn_wide.1 (AnyZI.sorted_in Tryz.PD Fence.wide 5 trivial trivial trivial trivial rfl (by omega) (Tryz.Sk _) (enters_of Tryz.func158 (by kernel_rfl) rfl) 159 #[.pointer (some ⟨w.heap.size,0,none⟩)] trivial (enters_of Tryz.func159 (by kernel_rfl) rfl) _ _ hmax hbytes _ hseq)
end Go.Proofs
namespace Go.Proofs.YtjnhnlabpccgjaaGreat
open Go.ChangeShapes Go.WideShapes Go.ChangeAt Go.RowKit
set_option linter.unusedVariables false
set_option linter.unusedSimpArgs false
theorem EH (l:List (Int×Value)):intKeys (tL aV l)=l.map (·.1):=by
 unfold intKeys tL
 simp only[List.map_map]
 rfl
theorem EI {α:Type} {l:List (Int×α)} (hl:aI (fun a b:Int=>decide (a<b)) l) {ss:List Int} (hp:ss.Perm (l.map (·.1))):ss.mergeSort (fun x y=>decide (x≤y))=l.map (·.1):=by
 have h1:(ss.mergeSort (fun x y=>decide (x≤y))).Pairwise (fun a b=>decide (a≤b)=true):=List.pairwise_mergeSort (fun a b c h1 h2=>by simp at*;omega) (fun a b=>by simp;omega) ss
 have h2:(l.map (·.1)).Pairwise (fun a b=>decide (a≤b)=true):=by
  rw[List.pairwise_map]
  exact hl.imp fun{a b} h=>by simp at*;omega
 exact((List.mergeSort_perm ss _).trans hp).eq_of_pairwise (fun a b _ _ h1 h2=>by simp at*;omega) h1 h2
def PG (w:World) (zs:List Int) (e:Ending) (w':World):Prop:=
 ∃a cap,e= .returned (.slice a zs.length cap)∧zs.length≤cap∧aj (fun x=>w.heap.size≤x∧x<w'.heap.size) w' a zs.length (zs.map (Value.int .i64))∧Below w.heap.size w w'
def zA (T:aF):List Int:=T.map (·.1)
section
variable {g:Nat→Own} {D:Nat→Prop} {p mb:Nat} {ib nb:Int→Nat} {T:aF}
set_option maxRecDepth 100000 in
set_option maxHeartbeats 1000000 in
theorem PI (w:World) (h:aH g D w p mb ib nb T) (hl:T.length≤100000):Calls Tryz.prog 60 #[ptr p] w (PG w (zA T)):=by
 obtain⟨hc0,hpw,hmw⟩:=h.cell
 have hsz:(T.map fun q=>(q.1,ptr (ib q.1))).length=T.length:=List.length_map _
 have hkk:(T.map fun q=>(q.1,ptr (ib q.1))).map (·.1)=zA T:=by unfold zA;rw[List.map_map];rfl
 have hso:=h.map.sorted.1
 have hk:=Tryz.PE (some mb) w
 have hs:=Tryz.Ke mb (T.map fun q:Int×bA=>(q.1,ptr (ib q.1))).length (tL aV (T.map fun q:Int×bA=>(q.1,ptr (ib q.1)))) lM w h.map (by rw[jY,hsz];unfold maxLen;omega) (by rw[jY,hsz];omega)
 have Oa:=Lib.hid hso
 have HKK:=Lib.hid hkk
 clear h hso hkk hsz
 go_enter Tryz.func60,Tryz.ntmps60
 go_wp2_with (first|(go_at_call 123;refine hk.mono ?_;rintro e w' ⟨rfl,rfl⟩)|(go_at_call 122;refine hs.mono ?_;rintro e w' ⟨v,ss,rfl,hp,hown,hnil,hB⟩))
 go_ret
 rw[EH]at hp
 rw[EI Oa.out hp,HKK.out]at hown
 have hlen:ss.length=(zA T).length:=by
  have:=hp.length_eq
  rw[HKK.out]at this
  exact this
 have hB2:Below w.heap.size w w':=((Below.refl _ _).alloc (Nat.le_refl _) _).trans (hB.mono (by simp))
 have hs1:=hB.size
 rw[World.size_alloc]at hs1
 obtain⟨h1,h2⟩:=hown
 simp only[List.length_map]at h1
 rcases h2 with⟨rfl,h0⟩|⟨g,cap,cur,rfl,hg,hcur,hc1,hc2,hcs,htk⟩
 ·have h00:(zA T).length=0:=by omega
  have:zA T=[]:=List.eq_nil_of_length_eq_zero h00
  rw[this]
  exact⟨none,0,rfl,Nat.le_refl _,aj.nil _ _ _,hB2⟩
 ·have hgw:=(Array.getElem?_eq_some_iff.1 hcur).1
  rw[World.size_alloc]at hg
  refine⟨some ⟨g,0,none⟩,cap,by rw[←hlen];rfl,by omega,⟨by simp,by omega,fun h0=>⟨g,0,rfl,⟨by omega,hgw⟩,hgw,fun i hi=> ?_⟩⟩,hB2⟩
  simp only[World.cell?,hcur,Nat.zero_add]
  rw[show(zA T).map (Value.int .i64)=(zA T).map encZ from rfl]
  rw[←htk,List.getElem?_take,if_pos (show i<ss.length*1 by rw[hlen];omega)]
  simp
end
def qp (l:List UInt8):List UInt8:=fJ l.length 2++l
def EJ (e:Nm×Int):List UInt8:=qp e.1++fJ e.2 2
def iT (k:Int) (x:bA):List UInt8:=qp (nL k x)++qp x.b++fJ x.names.length 2++x.names.flatMap EJ
def kE (T:aF):List UInt8:=fJ T.length 2++T.flatMap fun q=>iT q.1 q.2
theorem jU {n:Nm} (h:bV n=true):n.length≤16:=by
 unfold bV at h
 simp only[Bool.and_eq_true,decide_eq_true_eq]at h
 exact h.1.1.2
theorem m_ (l:List UInt8):(qp l).length=2+l.length:=by unfold qp;rw[List.length_append,dO]
theorem xK:∀(l:List (Nm×Int)),(∀e∈l,e.1.length≤16)→(l.flatMap EJ).length≤20*l.length
 |[],_=>by simp
 |e::r,h=>by
  have h1:=h e (by simp)
  have h2:=xK r fun y hy=>h y (by simp[hy])
  simp only[List.flatMap_cons,List.length_append,List.length_cons,EJ,m_,dO]
  omega
theorem Nh {k:Int} {x:bA} (h:Fw x) (hf:x.names.length≤4096):(iT k x).length≤90000:=by
 have h1:=xK x.names fun e he=>jU (h.good e he)
 have h2:=h.size
 unfold iT
 simp only[List.length_append,m_,dO,jC]
 omega
theorem BA {T:aF} (hT:fB T):∀(l:aF),(∀q∈l,q∈T)→(l.flatMap fun q=>iT q.1 q.2).length≤90000*l.length
 |[],_=>by simp
 |q::r,h=>by
  have hq:=aL bW hT.sorted (h q (by simp))
  have h1:=Nh (k:=q.1) (hT.each _ _ hq) (hT.few hq)
  have h2:=BA hT r fun y hy=>h y (by simp[hy])
  simp only[List.flatMap_cons,List.length_append,List.length_cons]
  omega
theorem Kg {k:Int} {x:bA} (h:Fx x) (hf:x.names.length≤65535):(iT k x).length≤1315000:=by
 have h1:=xK x.names fun e he=>jU (h.good e he)
 have h2:=h.size
 unfold iT
 simp only[List.length_append,m_,dO,jC]
 omega
theorem pJ {T:aF} (hT:OkW T) (hf:∀k x,ah k T=some x→x.names.length≤65535):∀(l:aF),(∀q∈l,q∈T)→(l.flatMap fun q=>iT q.1 q.2).length≤1315000*l.length
 |[],_=>by simp
 |q::r,h=>by
  have hq:=aL bW hT.sorted (h q (by simp))
  have h1:=Kg (k:=q.1) (hT.each _ _ hq) (hf _ _ hq)
  have h2:=pJ hT hf r fun y hy=>h y (by simp[hy])
  simp only[List.flatMap_cons,List.length_append,List.length_cons]
  omega
theorem Kh {T:aF} (hT:OkW T) (hf:∀k x,ah k T=some x→x.names.length≤65535):(kE T).length≤84160002:=by
 have h1:=pJ hT hf T fun q hq=>hq
 have h2:=hT.len
 unfold kE
 rw[List.length_append,dO]
 omega
section
variable {g:Nat→Own} {D:Nat→Prop} {p mb:Nat} {ib nb:Int→Nat} {T:aF}
theorem jB.other {B x:Nat} {w w':World} {v v':Value} {bs:List UInt8} (h:jB B w x v bs v' w') {b:Nat} (hb:b<w.heap.size) (hx:b≠x) (hv:v.ownBlock≠some b):w'.heap[b]? =w.heap[b]? ∧v'.ownBlock≠some b:=
 ⟨h.2.1.block b hb fun hf=>hf.elim hx hv,fun he=>by
  rcases h.2.2 b he with h1|h1
  ·exact hv h1
  ·omega⟩
theorem EK (w:World) (l:List UInt8) (hl:l.length≤1000):∃cap w1,(convert 9 23 (.string (strOf l))).run Tryz.prog w= .ok (.slice (some ⟨w.heap.size,0,none⟩) l.length cap) w1∧Below w.heap.size w w1∧w.heap.size<w1.heap.size∧l.length≤cap∧aj (fun b=>b=w.heap.size) w1 (some ⟨w.heap.size,0,none⟩) l.length (l.map bv):=by
 have h:=Lib.run_convert_string_bytes (P:=Tryz.prog) w 9 23 5 (strOf l) Tryz.underlying9 Tryz.underlying23 Tryz.underlying5
 rw[eT]at h
 refine⟨_,_,h,⟨rfl,rfl,rfl,by rw[Lib.bytesWorld_size];omega,fun k hk=>Lib.bytesWorld_at_old w _ _ k hk⟩,by rw[Lib.bytesWorld_size];omega,grownCap_ge _ _ _ _,⟨by simp,by unfold maxLen;omega,fun h0=>⟨w.heap.size,0,rfl,rfl,by rw[Lib.bytesWorld_size];omega,fun i hi=> ?_⟩⟩⟩
 rw[Nat.zero_add,Lib.bytesWorld_cell w _ _ i (by rw[eT];exact hi)]
 have e1:(strOf l).data.toList=l:=rfl
 rw[e1,List.getElem?_map,List.getElem?_eq_getElem hi,List.getD_eq_getElem?_getD,List.getElem?_eq_getElem hi]
 rfl
structure U4 (w:World) (D:Nat→Prop) (p mb:Nat) (ib nb:Nat) (k:Int) (x:bA) (T':List (Int×Value)) (a:Option Addr) (c:Nat):Prop where
 c0:w.cell? ⟨ib,0,none⟩=some (.int .i64 k)
 c1:w.cell? ⟨ib,1,none⟩=some (.int .i64 x.kind)
 c2:w.cell? ⟨ib,2,none⟩=some (.int .i64 x.links)
 c3:w.cell? ⟨ib,3,none⟩=some (.int .i64 x.b.length)
 c4:w.cell? ⟨ib,4,none⟩=some (.int .u64 x.aO)
 c5:w.cell? ⟨ib,5,none⟩=some (.bool x.closed)
 c6:w.cell? ⟨ib,6,none⟩=some (.slice a x.b.length c)
 c7:w.cell? ⟨ib,7,none⟩=some (fD x nb)
 row:aj D w a x.b.length (x.b.map bv)
 head:w.cell? ⟨p,0,none⟩=some (.map (some mb))
 map:MapAt aV w mb T'
 names:x.kind=2→MapAt cK w nb (bL x)
theorem GI {w:World} (h:aH g D w p mb ib nb T) {k:Int} {x:bA} (hx:ah k T=some x):∃a c,x.b.length≤c∧∀w',Below w.heap.size w w'→U4 w' D p mb (ib k) (nb k) k x (T.map fun q=>(q.1,ptr (ib q.1))) a c:=by
 obtain⟨⟨a,c,hblk,hcap,hrow⟩,_⟩:=h.item k x hx
 have hiw:=(Array.getElem?_eq_some_iff.1 hblk).1
 refine⟨a,c,hcap.1,fun w' hb=> ?_⟩
 have h':=h.below hb (Nat.le_refl _)
 obtain⟨c0,c1,c2,c3,c4,c5,c7,_⟩:=(h'.item k x hx).cell
 refine⟨c0,c1,c2,c3,c4,c5,?_,c7,hrow.below hb (Nat.le_refl _),h'.cell.1,h'.map,fun hk=>(h'.item k x hx).names hk⟩
 rw[hb.cell (p:=⟨ib k,6,none⟩) hiw]
 simp only[World.cell?,hblk]
 rfl
set_option maxRecDepth 100000 in
set_option maxHeartbeats 8000000 in
theorem Ni (w:World) (h:aH g D w p mb ib nb T) (hT:OkW T) (hf:∀k x,ah k T=some x→x.names.length≤65535):Calls Tryz.prog 19 #[ptr p] w (yg w (kE T)):=by
 have Cm:=Lib.hid h
 have HT:=Lib.hid hT
 have FE:=Lib.hid hf
 have hlen:=hT.len
 obtain⟨N,hN⟩:∃N,N=T.length:=⟨_,rfl⟩
 have nV:=Lib.hid hN
 rw[←hN]at hlen
 clear h hT hN hf
 go_enter Tryz.func19,Tryz.ntmps19
 go_wp2_with fail
 (with_reducible refine(sF w).mono ?_)
 rintro e w1 ⟨rfl,hW1,hb1⟩
 have HW1:=Lib.hid hW1
 have HB1:=Lib.hid hb1
 have h1:=Cm.out.below hb1 (Nat.le_refl _)
 have hs1:=hb1.size
 obtain⟨hc0,hpw,hmw⟩:=h1.cell
 have J_:=Lib.hid h1.map
 have tK:=Lib.hid (kS hW1 (N:Int) (by omega) (by omega) (by simp))
 clear h1 hW1 hb1
 go_wp2_with (at_len;refine gP aV rfl _ 104 107 rfl Tryz.underlying104 rfl J_.out ?_;rw[List.length_map,←nV.out])
 (with_reducible refine tK.out.mono ?_)
 rintro e w2 ⟨rfl,v2,hm2⟩
 have HW2:=Lib.hid hm2.1
 have HB2:=Lib.hid (HB1.out.trans (hm2.low HW1.out))
 have ZI:=Lib.hid (PI w2 (Cm.out.below HB2.out (Nat.le_refl _)) (by rw[←nV.out];omega))
 clear hm2 tK hc0 hpw hmw J_ HB1
 go_wp2_with fail
 (with_reducible refine ZI.out.mono ?_)
 rintro e w3 ⟨a3,c3,rfl,hc3,hr3,hb3⟩
 have hil:(zA T).length=N:=by unfold zA;rw[List.length_map,nV.out]
 rw[hil]at hc3 hr3⊢
 have HW3:=Lib.hid (HW2.out.below hb3)
 have HB3:=Lib.hid (HB2.out.trans (hb3.mono HB2.out.size))
 have HR3:=Lib.hid hr3
 have U0:Hid (∀b,w2.heap.size≤b→b≠w.heap.size∧v2.ownBlock≠some b):=fun b hb=>⟨by have:=HW2.out.lt;omega,fun he=>by have:=lQ HW2.out.own b he;omega⟩
 clear hb3 hr3 ZI HW2
 go_wp2_with fail
 go_loopw [22] (fun iv wr=>∃(i:Nat) (v':Value),i≤N∧iv= .int .i64 i∧jB w.heap.size w3 w.heap.size v2 (fJ (N:Int) 2++(T.take i).flatMap fun q=>iT q.1 q.2) v' wr) (fun iv _=>N-(intOf iv).toNat)
 case atStart=>exact⟨0,v2,by omega,rfl,by simpa using jB.refl HW3.out⟩
 case round=>
  obtain⟨i,v',hi,rfl,hm⟩:=hrel
  have HM:=Lib.hid hm
  have Fh:=Lib.hid (HB3.out.trans (hm.low HW3.out))
  clear hm
  by_cases hin:i<N
  ·have hd1:decide ((i:Int)<(N:Int))=true:=by simpa using hin
   obtain⟨e,he⟩:∃e,T[i]? =some e:=⟨_,List.getElem?_eq_getElem (by have:=nV.out;omega)⟩
   obtain⟨k,x⟩:=e
   have hmem:(k,x)∈T:=List.mem_of_getElem? he
   have hx:ah k T=some x:=aL bW HT.out.sorted hmem
   obtain⟨ab,cb,hcb,hF⟩:=GI Cm.out hx
   have O1:=Lib.hid (HT.out.each k x hx)
   have kI:=HT.out.ids k x hx
   have hok:aV.ok k:=lC kI.1 (by omega)
   have HG:Hid (ah k (T.map fun q=>(q.1,ptr (ib q.1)))=some (ptr (ib k))):=by rw[dh,hx];rfl
   obtain⟨b3,o3,rfl,hS3,XT,hcc⟩:=HR3.out.at_ (by omega)
   have ZJ:=U0.out b3 hS3.1
   have ck:wr.cell? ⟨b3,o3+i,none⟩=some (.int .i64 k):=by
    rw[World.cell?_of_block (w:=w3) (w':=wr) (a:=⟨b3,o3+i,none⟩) (HM.out.other XT ZJ.1 ZJ.2).1,hcc i hin]
    unfold zA
    rw[List.getElem?_map,List.getElem?_map,he]
    rfl
   have FR:=hF wr Fh.out
   have HF:=Lib.hid hF
   have HX:=Lib.hid hx
   have HE:=Lib.hid he
   have c0:=FR.c0
   have c1:=FR.c1
   have c2:=FR.c2
   have c3':=FR.c3
   have c4:=FR.c4
   have c5:=FR.c5
   have p0:=FR.head
   have fE:=Lib.hid FR.map
   have hen:=GA k x O1.out kI.1 kI.2 wr
   unfold iJ at hen
   have Gc:=Lib.hid hen
   have hi0:(0:Int)≤(i:Int):=by omega
   have hiN:(i:Int)<(N:Int):=by omega
   clear hx he hmem hF FR hen hcc
   go_wp2_with (first|(at_lookup;refine aK aV rfl _ _ 104 107 rfl Tryz.underlying104 (Tryz.aT _) rfl fE.out k rfl hok ?_;rw[HG.out]))
   (with_reducible refine Gc.out.mono ?_)
   rintro e w4 ⟨ae,ne,ce,rfl,hce,hre,hbe⟩
   have hne:ne=16:=by have h9:=hre.length;rw[List.length_map,jC]at h9;omega
   subst hne
   obtain⟨Nj,PK⟩:∃Nj,Nj=(fJ (N:Int) 2++(T.take i).flatMap fun q=>iT q.1 q.2):=⟨_,rfl⟩
   rw[←PK]at HM
   have hl0:Nj.length≤84200000:=by
    have h9:=pJ HT.out FE.out (T.take i) fun q hq=>List.mem_of_mem_take hq
    rw[List.length_take]at h9
    rw[PK,List.length_append,dO]
    omega
   have VU:=Lib.hid PK
   have XU:=HM.out.1.below hbe
   have TG:=Lib.hid XU
   have dS:=Lib.hid (Fh.out.trans (hbe.mono Fh.out.size))
   have hxr:=HM.out.1.lt
   have JJ:=Lib.hid (CK XU ae 16 ce (nL k x) hre (fun b hb=>⟨by omega,fun he=>by have:=lQ HM.out.1.own b he;omega⟩) hce (by omega) (by omega))
   have Av:=Lib.hid (HM.out.below hbe)
   clear PK XU hre hbe hce Gc ck c0 c1 c2 c3' c4 c5 p0 fE
   go_wp2_with fail
   (with_reducible refine JJ.out.mono ?_)
   rintro e w5 ⟨rfl,v5,L8⟩
   have U5:=Lib.hid (Av.out.trans L8)
   have iQ:=Lib.hid (dS.out.trans ((L8.low TG.out).mono (Nat.le_refl _)))
   have F5:=HF.out w5 iQ.out
   have c6:=F5.c6
   have hbl:=O1.out.size
   have Im:=Lib.hid Cm.out.oO
   have RP:=Lib.hid (CK L8.1 ab x.b.length cb x.b F5.row (fun b hb=>⟨by have:=Im.out b hb;omega,fun he=>by have:=eu L8.1.own b he;have:=Im.out b hb;omega⟩) hcb (by simp only[List.length_append,jC,dO];omega) (by omega))
   clear L8 F5 JJ TG dS Av
   go_wp2_with fail
   (with_reducible refine RP.out.mono ?_)
   rintro e w6 ⟨rfl,v6,Si⟩
   have rQ:=Lib.hid (iQ.out.trans (Si.low U5.out.1))
   have Sl:=Lib.hid (U5.out.trans Si)
   clear Si RP c6 U5 iQ
   have ug:=FE.out _ _ HX.out
   have F6:=HF.out w6 rQ.out
   have c7:=F6.c7
   obtain⟨L,hL⟩:∃L,L=x.names.length:=⟨_,rfl⟩
   have CW:=Lib.hid hL
   have hlb:(Nj++(fJ ((16:Nat):Int) 2++nL k x)++(fJ (x.b.length:Int) 2++x.b)).length≤84300000:=by simp only[List.length_append,jC,dO];omega
   have L_:=Lib.hid (kS Sl.out.1 (L:Int) (by omega) (by omega) (by omega))
   by_cases hk2:x.kind=2
   ·have e2:fD x (nb k)= .map (some (nb k)):=if_pos hk2
    rw[e2]at c7
    have HN:=Lib.hid (F6.names hk2)
    have BZ:=Lib.hid hk2
    clear F6 hk2 e2 hL
    go_wp2_with (at_len;refine gP cK rfl _ 110 3 rfl Tryz.underlying110 rfl HN.out ?_;rw[bL,List.length_map,←CW.out])
    (with_reducible refine L_.out.mono ?_)
    rintro e w7 ⟨rfl,v7,Nf⟩
    have Fj:=rQ.out.trans (Nf.low Sl.out.1)
    have vk:=Lib.hid Fj
    have NY:=Lib.hid (Sl.out.trans Nf)
    have e2:fD x (nb k)= .map (some (nb k)):=if_pos BZ.out
    have c7:=(HF.out w7 Fj).c7
    have hkk:=Tryz.Cr (some (nb k)) w7
    have hso:=sorted_at k x w7 (Cm.out.below Fj (Nat.le_refl _)) HT.out HX.out (FE.out _ _ HX.out)
    rw[e2]at c7 hso
    have hll:(x.names.map (·.1)).length=L:=by rw[List.length_map,CW.out]
    have Oa:=Lib.hid hso
    have Sm:=wall w7 (.cells #[.map (some (nb k))] 110)
    clear Nf Fj e2 hso L_ Sl rQ HN
    go_wp2_with (go_at_call 63;refine hkk.mono ?_;rintro e w' ⟨rfl,rfl⟩)
    (with_reducible refine Oa.out.mono ?_)
    rintro e w8 ⟨a8,c8,rfl,hc8,Ip,vv⟩
    rw[hll]at Ip hc8⊢
    have Sn:Below w7.heap.size w7 w8:=Sm.trans (vv.mono Sm.size)
    have sZ:=Lib.hid (vk.out.trans (Sn.mono vk.out.size))
    have Ob:=Lib.hid (NY.out.below Sn)
    have HS8:=Lib.hid Ip
    have TH:Hid (∀b,w7.heap.size<b→b≠w.heap.size∧v7.ownBlock≠some b):=fun b hb=>⟨by have:=NY.out.1.lt;omega,fun he=>by have:=lQ NY.out.1.own b he;omega⟩
    have hsz8:(w7.alloc (.cells #[.map (some (nb k))] 110)).heap.size=w7.heap.size+1:=by simp
    clear Sn vv Sm hkk Ip Oa vk c7
    go_wp2_with fail
    go_loopw [63] (fun jv wr2=>∃(j:Nat) (vj:Value),j≤L∧jv= .int .i64 j∧jB w.heap.size w8 w.heap.size v7 (Nj++(fJ ((16:Nat):Int) 2++nL k x)++(fJ (x.b.length:Int) 2++x.b)++fJ (L:Int) 2++(x.names.take j).flatMap EJ) vj wr2) (fun jv _=>L-(intOf jv).toNat)
    case atStart=>exact⟨0,v7,by omega,rfl,by simpa using jB.refl Ob.out.1⟩
    case round=>
     obtain⟨j,vj,hj,rfl,XV⟩:=hrel
     have TI:=Lib.hid XV
     have OX:=Lib.hid (sZ.out.trans (XV.low Ob.out.1))
     clear XV
     by_cases XW:j<L
     ·have hd2:decide ((j:Int)<(L:Int))=true:=by simpa using XW
      obtain⟨en,hen⟩:∃en,x.names[j]? =some en:=⟨_,List.getElem?_eq_getElem (by have:=CW.out;omega)⟩
      obtain⟨nm,id⟩:=en
      have Iu:(nm,id)∈x.names:=List.mem_of_getElem? hen
      have hgn:=aL nk O1.out.sorted Iu
      have hg16:nm.length≤16:=jU (O1.out.good _ Iu)
      have U6:=HT.out.leads k x HX.out _ Iu
      obtain⟨y,hy⟩:=Option.isSome_iff_exists.1 U6.1
      have XY:0≤id∧id≤65535:=HT.out.ids _ _ hy
      obtain⟨b8,o8,s,rfl,QJ,XZ,hs,hsl,U7⟩:=HS8.out.cell j XW
      rw[List.getElem?_map,List.getElem?_map,hen]at hs
      obtain rfl:strOf nm=s:=by simpa using hs
      have ZK:=TH.out b8 (by omega)
      have cn:wr.cell? ⟨b8,o8+j,none⟩=some (.string (strOf nm)):=(World.cell?_of_block (w:=w8) (w':=wr) (a:=⟨b8,o8+j,none⟩) (TI.out.other XZ ZK.1 ZK.2).1).trans U7
      obtain⟨ZL,wc,hrun,hbc,X0,QS,hcells⟩:=EK wr nm (by omega)
      have hrow:aj (fun b=>b=wr.heap.size) wc (some ⟨wr.heap.size,0,none⟩) nm.length (nm.map bv):=hcells
      have ZM:=TI.out.1.below hbc
      have hxw:=TI.out.1.lt
      have hlj:(Nj++(fJ ((16:Nat):Int) 2++nL k x)++(fJ (x.b.length:Int) 2++x.b)++fJ (L:Int) 2++(x.names.take j).flatMap EJ).length≤85700000:=by
       have h9:=xK (x.names.take j) fun e he=>jU (O1.out.good e (List.mem_of_mem_take he))
       rw[List.length_take]at h9
       simp only[List.length_append,jC,dO]at hlb⊢
       omega
      have Tp:=Lib.hid (CK ZM (some ⟨wr.heap.size,0,none⟩) nm.length ZL nm hrow (fun b hb=>⟨by rw[hb];omega,fun he=>by have:=lQ TI.out.1.own b he;omega⟩) QS (by omega) (by omega))
      have PL:=Lib.hid (TI.out.below hbc)
      have HBC:=Lib.hid (OX.out.trans (hbc.mono OX.out.size))
      have BX:=Lib.hid hgn
      have X3:=Lib.hid hen
      have hj0:(0:Int)≤(j:Int):=by omega
      have hL4:L≤65535:=by have:=CW.out;omega
      have ew:IntKind.i64.wrap ((j:Int)+1)=(j:Int)+1:=IntWalk.i64_in _ (by omega)
      have hjL':(j:Int)<(L:Int):=by omega
      clear hen Iu hgn U6 hy hs hsl U7 hrow ZM hbc hcells
      go_wp2_with fail
      (with_reducible refine Tp.out.mono ?_)
      rintro e Es ⟨rfl,v10,Sq⟩
      have U8:=Lib.hid (PL.out.trans Sq)
      have ow:=Lib.hid (HBC.out.trans (Sq.low PL.out.1))
      have X4:=HF.out Es ow.out
      have c7:=X4.c7
      have e2:fD x (nb k)= .map (some (nb k)):=if_pos BZ.out
      rw[e2]at c7
      have X5:=Lib.hid (X4.names BZ.out)
      have X6:Hid (ah nm (bL x)=some (.int .i64 id)):=by rw[dA,BX.out];rfl
      have X7:nm.length≤maxLen:=by unfold maxLen;omega
      have X8:=Lib.hid (kS U8.out.1 id XY.1 (by omega) (by simp only[List.length_append,jC,dO]at hlj⊢;omega))
      clear Sq X4 e2 hrun
      go_wp2_with (at_lookup;refine aK cK rfl _ _ 110 3 rfl Tryz.underlying110 (Tryz.dL _) rfl X5.out nm rfl X7 ?_;rw[X6.out])
      (with_reducible refine X8.out.mono ?_)
      rintro e CY ⟨rfl,v11,U9⟩
      have Sr:=U8.out.trans U9
      have hby:Nj++(fJ ((16:Nat):Int) 2++nL k x)++(fJ (x.b.length:Int) 2++x.b)++fJ (L:Int) 2++(x.names.take j).flatMap EJ++(fJ (nm.length:Int) 2++nm)++fJ id 2=Nj++(fJ ((16:Nat):Int) 2++nL k x)++(fJ (x.b.length:Int) 2++x.b)++fJ (L:Int) 2++(x.names.take (j+1)).flatMap EJ:=by
       rw[List.take_add_one,X3.out,List.flatMap_append]
       simp[EJ,qp,List.append_assoc]
      rw[hby]at Sr
      have X9:=Lib.hid Sr
      clear Sr hby U9
      go_wp2_with fail
      go_roundw
      case rel=>exact⟨j+1,v11,by omega,by go_num,X9.out⟩
      case measure=>
       simp only[intOf]
       omega
     ·have hd2:decide ((j:Int)<(L:Int))=false:=by simpa using XW
      have hfin:Nj++(fJ ((16:Nat):Int) 2++nL k x)++(fJ (x.b.length:Int) 2++x.b)++fJ (L:Int) 2++(x.names.take j).flatMap EJ=(fJ (N:Int) 2++(T.take (i+1)).flatMap fun q=>iT q.1 q.2):=by
       rw[List.take_of_length_le (show x.names.length≤j by have:=CW.out;omega),VU.out,List.take_add_one,HE.out,List.flatMap_append,CW.out]
       simp[iT,qp,jC,List.append_assoc]
      have Sv:=Ob.out.trans TI.out
      rw[hfin]at Sv
      have X_:=Lib.hid Sv
      clear Sv hfin
      go_wp2_with fail
      go_roundw
      case rel=>exact⟨i+1,vj,by omega,by go_num,X_.out⟩
      case measure=>simp[intOf];omega
   ·have e2:fD x (nb k)= .map none:=if_neg hk2
    have hnil:x.names=[]:=O1.out.file (O1.out.kind.resolve_right hk2)
    obtain rfl:L=0:=by rw[hL,hnil];rfl
    rw[e2]at c7
    have U_:Hid (Calls Tryz.prog 59 #[ptr w.heap.size, .int .i64 0] w6 (oz w.heap.size w6 w.heap.size v6 (Nj++(fJ ((16:Nat):Int) 2++nL k x)++(fJ (x.b.length:Int) 2++x.b)++fJ ((0:Nat):Int) 2))):=L_.out
    clear F6 hk2 hL
    go_wp2_with fail
    (with_reducible refine U_.out.mono ?_)
    rintro e w7 ⟨rfl,v7,Nf⟩
    have Fj:=rQ.out.trans (Nf.low Sl.out.1)
    have vk:=Lib.hid Fj
    have NY:=Lib.hid (Sl.out.trans Nf)
    have c7:=(HF.out w7 Fj).c7
    have hkk:=Tryz.Cr none w7
    have hso:=sorted_at k x w7 (Cm.out.below Fj (Nat.le_refl _)) HT.out HX.out (FE.out _ _ HX.out)
    rw[e2]at c7 hso
    rw[hnil]at hso
    have Oa:=Lib.hid hso
    have FL:=Lib.hid hnil
    have Sm:=wall w7 (.cells #[.map none] 110)
    clear Nf Fj e2 hso L_ U_ Sl rQ hnil
    go_wp2_with (go_at_call 63;refine hkk.mono ?_;rintro e w' ⟨rfl,rfl⟩)
    (with_reducible refine Oa.out.mono ?_)
    rintro e w8 ⟨a8,c8,rfl,hc8,Ip,vv⟩
    have Ob:=Lib.hid (NY.out.below (Sm.trans (vv.mono Sm.size)))
    simp only[List.map_nil,List.length_nil]at hc8⊢
    clear vv Sm hkk Ip Oa vk c7
    have hfin:Nj++(fJ ((16:Nat):Int) 2++nL k x)++(fJ (x.b.length:Int) 2++x.b)++fJ ((0:Nat):Int) 2=(fJ (N:Int) 2++(T.take (i+1)).flatMap fun q=>iT q.1 q.2):=by
     rw[VU.out,List.take_add_one,HE.out,List.flatMap_append]
     simp[iT,qp,jC,FL.out,List.append_assoc]
    have Sv:=Ob.out
    rw[hfin]at Sv
    have X_:=Lib.hid Sv
    clear Sv hfin Ob NY
    go_wp2_with fail
    go_loopw [63] (fun jv wr2=>jv= .int .i64 0∧wr2=w8) (fun jv _=>0)
    case atStart=>exact⟨rfl,rfl⟩
    case round=>
     obtain⟨rfl,rfl⟩:=hrel
     go_wp2_with fail
     go_roundw
     case rel=>exact⟨i+1,v7,by omega,by go_num,X_.out⟩
     case measure=>simp[intOf];omega
  ·have hd1:decide ((i:Int)<(N:Int))=false:=by simpa using hin
   have ZN:(fJ (N:Int) 2++(T.take i).flatMap fun q=>iT q.1 q.2)=kE T:=by
    rw[List.take_of_length_le (by have:=nV.out;omega),nV.out]
    rfl
   have hlT:(kE T).length≤100000000:=by
    have:=pJ HT.out FE.out T fun q hq=>hq
    unfold kE
    rw[List.length_append,dO]
    have:=nV.out
    omega
   have HD:=Lib.hid (ED HM.out.1 (by rw[ZN];exact hlT))
   rw[ZN]at HD
   go_wp2_with fail
   (with_reducible refine HD.out.mono ?_)
   rintro e w9 ⟨a9,n9,c9,rfl,XQ,U3,zw⟩
   have UC:=Lib.hid U3
   have CG:=Lib.hid (Fh.out.trans (zw.mono Fh.out.size))
   have hsr:=Fh.out.size
   clear U3 zw
   go_wp2_with fail
   go_ret
   exact⟨a9,n9,c9,rfl,XQ,UC.out.mono fun b hb=>⟨by omega,hb.2⟩,CG.out⟩
end
theorem Nk {W w:World} {P:Nat→Prop} {p:Nat} {T:aF} (h:jf W P w p T) (hf:∀k x,ah k T=some x→x.names.length≤65535):Calls Tryz.prog 19 #[ptr p] w (yg w (kE T)):=by
 obtain⟨g,D,mb,ib,nb,hA,hF⟩:=h.at_
 exact Ni w hA h.ok hf
end Go.Proofs.YtjnhnlabpccgjaaGreat
