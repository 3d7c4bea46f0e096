/- DERIVED: THE SHELF's CONTRACTS AT THIS DUMP, IN PLAIN WORDS (tools/lay-plain.mjs out of 'YtjnhnlabpccgjaaGreatLaypKeysLayS.lean', which tools/lay-shelf.mjs wrote): THE SAME DECLARATIONS UNDER THE SAME NAMES: 'import', 'namespace', 'open', 'def', 'theorem' AND NOTHING ELSE: no command of the shelf's: FOR A HAND-IN. Each laying: the table of numbers ('.._ren') and one theorem, a field a fact of the dump's own or the kernel's comparison; each contract: ONE APPLICATION. slices.Sorted(maps.Keys(m)) of a directory's names, rising. tree: List. slices.Sorted(maps.Keys(x.names)), of a directory or a file. What Save of package tree writes, plainly. Rows whose elements have more than one cell: append. Snapshots, as plain data; in memory. -/
import Derived.Test.YtjnhnlabpccgjaaGreatProg
import Derived.Shelf.SlIter.Nil
import Derived.Shelf.SlIter.Sorted
import Derived.Shelf.SortM.Plain
import Derived.Shelf.SortM.SortNone
import Derived.Ground.GgzProg
import Derived.Ground.SlgmProg
import Derived.Test.YtjnhnlabpccgjaaGreatM02
import Derived.Test.YtjnhnlabpccgjaaGreatM15
import Derived.Test.YtjnhnlabpccgjaaGreatM13
import Derived.Test.YtjnhnlabpccgjaaGreatM12
import Derived.Test.YtjnhnlabpccgjaaGreatM10
namespace Go.Proofs
open Go.Shelf
def Tryz.vO:Go.Shelf.Ren:=⟨fun|7=>63|10=>128|n=>n,fun|23=>110|26=>9|3=>3|28=>118|0=>0|27=>117|33=>176|4=>4|n=>n,fun|n=>n⟩
theorem Tryz.NQ:Go.Proofs.SlLaysZ.n7 Tryz.prog Tryz.vO:={
 mixed:=by kernel_rfl
 f7:=⟨Tryz.f63.name,by decide,Tryz.func63.trans (congrArg some (by kernel_rfl))⟩
 f10:=⟨Tryz.f128.name,by decide,Tryz.func128.trans (congrArg some (by kernel_rfl))⟩
 t0:=Tryz.underlying0
 a0:=Tryz.isAgg0
 z0:=Tryz.sizeOf0
 v0:=Tryz.zeroValue0
 t4:=Tryz.underlying4
 a4:=Tryz.isAgg4
 z4:=Tryz.sizeOf4
 v4:=Tryz.zeroValue4
 t23:=Tryz.underlying110
 a23:=Tryz.isAgg110
 z23:=Tryz.sizeOf110
 v23:=Tryz.zeroValue110
 t26:=Tryz.underlying9
 a26:=Tryz.isAgg9
 z26:=Tryz.sizeOf9
 v26:=Tryz.zeroValue9
 t27:=Tryz.underlying117
 a27:=Tryz.isAgg117
 z27:=Tryz.sizeOf117
 v27:=Tryz.zeroValue117
 t28:=Tryz.underlying118
 a28:=Tryz.isAgg118
 z28:=Tryz.sizeOf118
 v28:=Tryz.zeroValue118
 t33:=Tryz.underlying176
 a33:=Tryz.isAgg176
 z33:=Tryz.sizeOf176
 v33:=Tryz.zeroValue176}
def Tryz.wT:Go.Shelf.Ren:=⟨fun|6=>62|8=>126|9=>127|11=>160|13=>162|12=>161|23=>186|24=>187|14=>177|15=>178|16=>179|17=>180|18=>181|19=>182|20=>183|21=>184|22=>185|25=>214|26=>215|27=>216|28=>217|29=>218|30=>219|31=>231|n=>n,fun|26=>9|28=>118|24=>61|0=>0|3=>3|37=>171|48=>192|50=>27|4=>4|40=>222|39=>221|45=>133|5=>5|9=>9|51=>258|55=>261|57=>272|58=>65|33=>176|n=>n,fun|n=>n⟩
theorem Tryz.Je:Go.Proofs.SlLaysZ.n6 Tryz.prog Tryz.wT:={
 mixed:=by kernel_rfl
 f6:=⟨Tryz.f62.name,by decide,Tryz.func62.trans (congrArg some (by kernel_rfl))⟩
 f8:=⟨Tryz.f126.name,by decide,Tryz.func126.trans (congrArg some (by kernel_rfl))⟩
 f11:=⟨Tryz.f160.name,by decide,Tryz.func160.trans (congrArg some (by kernel_rfl))⟩
 t0:=Tryz.underlying0
 a0:=Tryz.isAgg0
 z0:=Tryz.sizeOf0
 v0:=Tryz.zeroValue0
 t24:=Tryz.underlying61
 a24:=Tryz.isAgg61
 z24:=Tryz.sizeOf61
 v24:=Tryz.zeroValue61
 t26:=Tryz.underlying9
 a26:=Tryz.isAgg9
 z26:=Tryz.sizeOf9
 v26:=Tryz.zeroValue9
 t28:=Tryz.underlying118
 a28:=Tryz.isAgg118
 z28:=Tryz.sizeOf118
 v28:=Tryz.zeroValue118
 i26:=by kernel_rfl}
def Tryz.Kv:Go.Shelf.Ren:=⟨fun|6=>127|8=>162|9=>161|19=>186|20=>187|21=>177|22=>178|23=>179|24=>180|25=>181|26=>182|27=>183|28=>184|29=>185|36=>214|31=>215|32=>216|37=>217|38=>218|39=>219|41=>231|n=>n,fun|27=>61|29=>9|3=>3|32=>171|26=>61|0=>0|44=>192|46=>27|4=>4|36=>222|35=>221|41=>133|5=>5|9=>9|53=>258|57=>261|63=>272|64=>65|n=>n,fun|n=>n⟩
theorem Tryz.TV:Go.Proofs.SlLaysM.n6 Tryz.prog Tryz.Kv:={
 mixed:=by kernel_rfl
 f6:=⟨Tryz.f127.name,by decide,Tryz.func127.trans (congrArg some (by kernel_rfl))⟩
 f8:=Tryz.func162.trans (congrArg some (by kernel_rfl))
 f9:=⟨Tryz.f161.name,by decide,Tryz.func161.trans (congrArg some (by kernel_rfl))⟩
 f19:=Tryz.func186.trans (congrArg some (by kernel_rfl))
 f20:=Tryz.func187.trans (congrArg some (by kernel_rfl))
 f21:=⟨Tryz.f177.name,by decide,Tryz.func177.trans (congrArg some (by kernel_rfl))⟩
 f22:=⟨Tryz.f178.name,by decide,Tryz.func178.trans (congrArg some (by kernel_rfl))⟩
 f23:=⟨Tryz.f179.name,by decide,Tryz.func179.trans (congrArg some (by kernel_rfl))⟩
 f24:=⟨Tryz.f180.name,by decide,Tryz.func180.trans (congrArg some (by kernel_rfl))⟩
 f25:=⟨Tryz.f181.name,by decide,Tryz.func181.trans (congrArg some (by kernel_rfl))⟩
 f26:=⟨Tryz.f182.name,by decide,Tryz.func182.trans (congrArg some (by kernel_rfl))⟩
 f27:=⟨Tryz.f183.name,by decide,Tryz.func183.trans (congrArg some (by kernel_rfl))⟩
 f28:=⟨Tryz.f184.name,by decide,Tryz.func184.trans (congrArg some (by kernel_rfl))⟩
 f29:=⟨Tryz.f185.name,by decide,Tryz.func185.trans (congrArg some (by kernel_rfl))⟩
 f31:=Tryz.func215.trans (congrArg some (by kernel_rfl))
 f32:=Tryz.func216.trans (congrArg some (by kernel_rfl))
 f36:=⟨Tryz.f214.name,by decide,Tryz.func214.trans (congrArg some (by kernel_rfl))⟩
 f37:=⟨Tryz.f217.name,by decide,Tryz.func217.trans (congrArg some (by kernel_rfl))⟩
 f38:=⟨Tryz.f218.name,by decide,Tryz.func218.trans (congrArg some (by kernel_rfl))⟩
 f39:=⟨Tryz.f219.name,by decide,Tryz.func219.trans (congrArg some (by kernel_rfl))⟩
 f41:=⟨Tryz.f231.name,by decide,Tryz.func231.trans (congrArg some (by kernel_rfl))⟩
 t0:=Tryz.underlying0
 a0:=Tryz.isAgg0
 z0:=Tryz.sizeOf0
 v0:=Tryz.zeroValue0
 t3:=Tryz.underlying3
 a3:=Tryz.isAgg3
 z3:=Tryz.sizeOf3
 v3:=Tryz.zeroValue3
 t4:=Tryz.underlying4
 a4:=Tryz.isAgg4
 z4:=Tryz.sizeOf4
 v4:=Tryz.zeroValue4
 t5:=Tryz.underlying5
 a5:=Tryz.isAgg5
 z5:=Tryz.sizeOf5
 v5:=Tryz.zeroValue5
 t9:=Tryz.underlying9
 a9:=Tryz.isAgg9
 z9:=Tryz.sizeOf9
 v9:=Tryz.zeroValue9
 t26:=Tryz.underlying61
 a26:=Tryz.isAgg61
 z26:=Tryz.sizeOf61
 v26:=Tryz.zeroValue61
 t27:=Tryz.underlying61
 a27:=Tryz.isAgg61
 z27:=Tryz.sizeOf61
 v27:=Tryz.zeroValue61
 t29:=Tryz.underlying9
 a29:=Tryz.isAgg9
 z29:=Tryz.sizeOf9
 v29:=Tryz.zeroValue9
 t32:=Tryz.underlying171
 a32:=Tryz.isAgg171
 z32:=Tryz.sizeOf171
 v32:=Tryz.zeroValue171
 t35:=Tryz.underlying221
 a35:=Tryz.isAgg221
 z35:=Tryz.sizeOf221
 v35:=Tryz.zeroValue221
 t36:=Tryz.underlying222
 a36:=Tryz.isAgg222
 z36:=Tryz.sizeOf222
 v36:=Tryz.zeroValue222
 t41:=Tryz.underlying133
 a41:=Tryz.isAgg133
 z41:=Tryz.sizeOf133
 v41:=Tryz.zeroValue133
 t44:=Tryz.underlying192
 a44:=Tryz.isAgg192
 z44:=Tryz.sizeOf192
 v44:=Tryz.zeroValue192
 t46:=Tryz.underlying27
 a46:=Tryz.isAgg27
 z46:=Tryz.sizeOf27
 v46:=Tryz.zeroValue27
 t53:=Tryz.underlying258
 a53:=Tryz.isAgg258
 z53:=Tryz.sizeOf258
 v53:=Tryz.zeroValue258
 t57:=Tryz.underlying261
 a57:=Tryz.isAgg261
 z57:=Tryz.sizeOf261
 v57:=Tryz.zeroValue261
 t63:=Tryz.underlying272
 a63:=Tryz.isAgg272
 z63:=Tryz.sizeOf272
 v63:=Tryz.zeroValue272
 t64:=Tryz.underlying65
 a64:=Tryz.isAgg65
 z64:=Tryz.sizeOf65
 v64:=Tryz.zeroValue65}
open Go.RowKit Go.Maps Go.Sort Go.Shelf
theorem Tryz.NR (m:Nat):AnyZ.SortsIn Tryz.prog Tryz.wT Fence.wide m:=
 ⟨fun blk off cap ss W hH hblk hsz=>callsIn_wide.2 (AnyM.slices_Sort_string Tryz.TV blk off cap ss W hH hblk hsz),
  fun p cap W=>callsIn_wide.2 (AnyM.slices_Sort_string_none Tryz.TV p cap W)⟩
theorem Tryz.Jf (mb:Option Nat) (W:World):Calls Tryz.prog 63 #[.map mb] W fun e w'=>e= .returned (.func (.func 128) #[] #[.pointer (some ⟨W.heap.size,0,none⟩)])∧w'=W.alloc (.cells #[.map mb] 110):=
 callsIn_wide.1 (AnyZ.keys_in Tryz.NQ Fence.wide 5 trivial rfl mb W)
set_option maxHeartbeats 1000000 in
theorem Tryz.Kw {H:Type} (b nn:Nat) (D0:DataW H) (R:Value→Option (DataW H×List MemPlace)) (w:World) (hown:w.ownsMap Tryz.prog 9 R b nn D0) (hmax:Maps.size D0≤maxLen) (hbytes:Maps.size D0*16≤140737488355328):
  Calls Tryz.prog 62 #[.func (.func 128) #[] #[.pointer (some ⟨w.heap.size,0,none⟩)]] (w.alloc (.cells #[.map (some b)] 110)) fun e w'=>∃(v:Value) (ss:List (List UInt8)),e= .returned v∧ss.Perm (strKeys D0)∧
   w'.ownsRow (w.alloc (.cells #[.map (some b)] 110)).heap.size 9 1 v ss.length ((ss.mergeSort (fun x y=>decide (x≤y))).map encStr)∧(v= .slice none 0 0↔ss=[])∧Below (w.alloc (.cells #[.map (some b)] 110)).heap.size (w.alloc (.cells #[.map (some b)] 110)) w':=by
 have hbl:=hown.lt
 have hseq:SeqGives Fence.wide 2 Tryz.prog 128 #[.pointer (some ⟨w.heap.size,0,none⟩)] encStr (fun ss=>ss.Perm (strKeys D0)) (Maps.size D0) (w.alloc (.cells #[.map (some b)] 110)):=
  AnyZ.keys_gives (ρ:=Tryz.vO) {Tryz.NQ with} Fence.wide _ trivial rfl (by omega) w.heap.size b nn D0 _ (by simp) (by simp) (by
   obtain⟨es,clock,hb,Ft,hs,hD⟩:=hown
   exact⟨es,clock,(Below.heap_alloc _ _ b hbl).trans hb,Ft,hs,hD⟩)
 exact callsIn_wide.1 (AnyZ.sorted_in Tryz.Je Fence.wide 5 trivial trivial trivial trivial rfl (by omega) (Tryz.NR _) (enters_of Tryz.func127 (by kernel_rfl) rfl) 128 #[.pointer (some ⟨w.heap.size,0,none⟩)] trivial (enters_of Tryz.func128 (by kernel_rfl) rfl) _ _ hmax hbytes _ hseq)
end Go.Proofs
namespace Go.Proofs.YtjnhnlabpccgjaaGreat
open Go.ChangeShapes Go.WideShapes Go.ChangeAt Go.RowKit
set_option linter.unusedVariables false
set_option linter.unusedSimpArgs false
theorem Ey (l:List (Nm×Value)):strKeys (uf fM l)=l.map (·.1):=by
 unfold strKeys uf
 simp only[List.map_map]
 rfl
theorem TW:∀{a b:List UInt8},bytesBefore a b=true→a<b
 |[],[],h=>by cases h
 |[],_::_,_=>List.nil_lt_cons _ _
 |_::_,[],h=>by cases h
 |x::r,y::s,h=>by
  rw[List.cons_lt_cons_iff]
  simp only[bytesBefore,Bool.or_eq_true,Bool.and_eq_true,decide_eq_true_eq,beq_iff_eq]at h
  rcases h with h|⟨h1,h2⟩
  ·exact .inl h
  ·exact .inr ⟨h1,TW h2⟩
theorem CY {α:Type} {l:List (Nm×α)} (hl:aC bytesBefore l) {ss:List Nm} (hp:ss.Perm (l.map (·.1))):ss.mergeSort (fun x y=>decide (x≤y))=l.map (·.1):=by
 have h1:(ss.mergeSort (fun x y=>decide (x≤y))).Pairwise (fun a b=>decide (a≤b)=true):=List.pairwise_mergeSort (fun a b c h1 h2=>by simp only[decide_eq_true_eq]at*;exact List.le_trans h1 h2) (fun a b=>by simp only[Bool.or_eq_true,decide_eq_true_eq];exact List.le_total a b) ss
 have h2:(l.map (·.1)).Pairwise (fun a b=>decide (a≤b)=true):=by
  rw[List.pairwise_map]
  exact hl.imp fun{a b} h=>by simp only[decide_eq_true_eq];exact List.le_of_lt (TW h)
 exact((List.mergeSort_perm ss _).trans hp).eq_of_pairwise (fun a b _ _ h1 h2=>by simp only[decide_eq_true_eq]at h1 h2;exact List.le_antisymm h1 h2) h1 h2
section
variable {g:Nat→Own} {D:Nat→Prop} {p mb:Nat} {ib nb:Int→Nat} {T:aA}
end
end Go.Proofs.YtjnhnlabpccgjaaGreat
namespace Go.Proofs
open Go.RowKit Go.Maps Go.Sort Go.Shelf
set_option maxHeartbeats 1000000 in
theorem Tryz.GL (w:World):Calls Tryz.prog 62 #[.func (.func 128) #[] #[.pointer (some ⟨w.heap.size,0,none⟩)]] (w.alloc (.cells #[.map none] 110)) fun e w'=>e= .returned (.slice none 0 0)∧Below (w.alloc (.cells #[.map none] 110)).heap.size (w.alloc (.cells #[.map none] 110)) w':=by
 have hseq:SeqGives Fence.wide 2 Tryz.prog 128 #[.pointer (some ⟨w.heap.size,0,none⟩)] encStr (fun ss:List (List UInt8)=>ss=[]) 0 (w.alloc (.cells #[.map none] 110)):=
  AnyZ.keys_gives_nil (ρ:=Tryz.vO) {Tryz.NQ with} Fence.wide _ trivial rfl w.heap.size _ (by simp) (by simp)
 have h:=callsIn_wide.1 (AnyZ.sorted_in Tryz.Je Fence.wide 5 trivial trivial trivial trivial rfl (by omega) (Tryz.NR _) (enters_of Tryz.func127 (by kernel_rfl) rfl) 128 #[.pointer (some ⟨w.heap.size,0,none⟩)] trivial (enters_of Tryz.func128 (by kernel_rfl) rfl) _ 0 (Nat.zero_le _) (by omega) _ hseq)
 refine h.mono ?_
 rintro e w' ⟨v,ss,rfl,rfl,hrow,hnil,hb⟩
 obtain rfl:v= .slice none 0 0:=hnil.2 rfl
 exact⟨rfl,hb⟩
end Go.Proofs
namespace Go.Proofs.YtjnhnlabpccgjaaGreat
open Go.ChangeShapes Go.WideShapes Go.ChangeAt Go.RowKit
set_option linter.unusedVariables false
set_option linter.unusedSimpArgs false
def Ri (w:World) (L:List Nm) (e:Ending) (w':World):Prop:=
 ∃a c,e= .returned (.slice a L.length c)∧L.length≤c∧bB (fun x=>w.heap.size≤x∧x<w'.heap.size) w' a L.length (L.map strOf)∧Below w.heap.size w w'
section
variable {g:Nat→Own} {D:Nat→Prop} {p mb:Nat} {ib nb:Int→Nat} {T:aA}
set_option maxHeartbeats 1000000 in
theorem sorted_at (k:Int) (x:bq) (w:World) (h:aH g D w p mb ib nb T) (hT:OkW T) (hx:aj k T=some x) (Ky:x.names.length≤65535):
  Calls Tryz.prog 62 #[.func (.func 128) #[] #[.pointer (some ⟨w.heap.size,0,none⟩)]] (w.alloc (.cells #[dU x (nb k)] 110)) (Ri (w.alloc (.cells #[dU x (nb k)] 110)) (x.names.map (·.1))):=by
 have O1:=hT.each k x hx
 by_cases hk:x.kind=2
 ·have e2:dU x (nb k)= .map (some (nb k)):=if_pos hk
  rw[e2]
  have hM:=(h.item k x hx).names hk
  have hsz:(dV x).length=x.names.length:=List.length_map _
  refine(Tryz.Kw (nb k) (dV x).length (uf fM (dV x)) mg w hM (by rw[m_,hsz];unfold maxLen;omega) (by rw[m_,hsz];omega)).mono ?_
  rintro e w' ⟨v,ss,rfl,hp,hown,hnil,hB⟩
  rw[Ey]at hp
  have hml:(dV x).map (·.1)=x.names.map (·.1):=by unfold dV;rw[List.map_map];rfl
  rw[hml]at hp
  rw[CY O1.sorted hp]at hown
  have hlen:ss.length=(x.names.map (·.1)).length:=hp.length_eq
  have hgood:∀s∈(x.names.map (·.1)).map strOf,s.size≤maxLen:=by
   intro s hs
   obtain⟨l,hl,rfl⟩:=List.mem_map.1 hs
   obtain⟨e,he,rfl⟩:=List.mem_map.1 hl
   have:=yN _ (O1.good e he)
   rw[iF];unfold maxLen;omega
  obtain⟨a,c,rfl,hc⟩:=cO hown
  obtain⟨_,hr⟩:=ah.lg hown
  rw[hlen]at hr hc
  have hr2:ah (fun x_1=>(w.alloc (.cells #[.map (some (nb k))] 110)).heap.size≤x_1∧x_1<w'.heap.size) w' a (x.names.map (·.1)).length (((x.names.map (·.1)).map strOf).map .string):=by
   rw[List.map_map]
   exact hr
  exact⟨a,c,by rw[hlen],hc,⟨hr2,hgood⟩,hB⟩
 ·have e2:dU x (nb k)= .map none:=if_neg hk
  have hnil:x.names=[]:=O1.file (O1.kind.resolve_right hk)
  rw[e2,hnil]
  refine(Tryz.GL w).mono ?_
  rintro e w' ⟨rfl,hB⟩
  exact⟨none,0,rfl,Nat.le_refl _,⟨ah.nil _ _ _,by simp⟩,hB⟩
end
def lF (l:List UInt8):List UInt8:=dR l.length 2++l
def Ez (e:Nm×Int):List UInt8:=lF e.1++dR e.2 2
def iV (k:Int) (x:bq):List UInt8:=lF (oC k x)++lF x.b++dR x.names.length 2++x.names.flatMap Ez
def bZ (T:aA):List UInt8:=dR T.length 2++T.flatMap fun q=>iV q.1 q.2
theorem kg {n:Nm} (h:bV n=true):n.length≤16:=by
 unfold bV at h
 simp only[Bool.and_eq_true,decide_eq_true_eq]at h
 exact h.1.1.2
theorem kL (l:List UInt8):(lF l).length=2+l.length:=by unfold lF;rw[List.length_append,bO]
theorem yj:∀(l:List (Nm×Int)),(∀e∈l,e.1.length≤16)→(l.flatMap Ez).length≤20*l.length
 |[],_=>by simp
 |e::r,h=>by
  have h1:=h e (by simp)
  have h2:=yj r fun y hy=>h y (by simp[hy])
  simp only[List.flatMap_cons,List.length_append,List.length_cons,Ez,kL,bO]
  omega
theorem NS {k:Int} {x:bq} (h:Gh x) (hf:x.names.length≤4096):(iV k x).length≤90000:=by
 have h1:=yj x.names fun e he=>kg (h.good e he)
 have h2:=h.size
 unfold iV
 simp only[List.length_append,kL,bO,jD]
 omega
theorem rX {T:aA} (hT:eH T):∀(l:aA),(∀q∈l,q∈T)→(l.flatMap fun q=>iV q.1 q.2).length≤90000*l.length
 |[],_=>by simp
 |q::r,h=>by
  have hq:=aI bH hT.sorted (h q (by simp))
  have h1:=NS (k:=q.1) (hT.each _ _ hq) (hT.few hq)
  have h2:=rX hT r fun y hy=>h y (by simp[hy])
  simp only[List.flatMap_cons,List.length_append,List.length_cons]
  omega
theorem Kz {k:Int} {x:bq} (h:Gi x) (hf:x.names.length≤65535):(iV k x).length≤1315000:=by
 have h1:=yj x.names fun e he=>kg (h.good e he)
 have h2:=h.size
 unfold iV
 simp only[List.length_append,kL,bO,jD]
 omega
theorem pU {T:aA} (hT:OkW T) (hf:∀k x,aj k T=some x→x.names.length≤65535):∀(l:aA),(∀q∈l,q∈T)→(l.flatMap fun q=>iV q.1 q.2).length≤1315000*l.length
 |[],_=>by simp
 |q::r,h=>by
  have hq:=aI bH hT.sorted (h q (by simp))
  have h1:=Kz (k:=q.1) (hT.each _ _ hq) (hf _ _ hq)
  have h2:=pU hT hf r fun y hy=>h y (by simp[hy])
  simp only[List.flatMap_cons,List.length_append,List.length_cons]
  omega
theorem KA {T:aA} (hT:OkW T) (hf:∀k x,aj k T=some x→x.names.length≤65535):(bZ T).length≤84160002:=by
 have h1:=pU hT hf T fun q hq=>hq
 have h2:=hT.len
 unfold bZ
 rw[List.length_append,bO]
 omega
theorem oU {w:World} {base g:Nat} {e:TypeId} {k:Nat} (hg:w.heap[g]? =some (.cells #[] e)) (hb:base≤g):w.ownsRow base e k (.slice (some ⟨g,0,none⟩) 0 0) 0 []:=by
 refine⟨by simp, .inr ⟨g,0,#[],rfl,hb,hg,Nat.le_refl _,Nat.zero_le _,by simp,by simp⟩⟩
theorem ah.nZ {w:World} {base:Nat} {e:TypeId} {k:Nat} {a:Option Addr} {m n c:Nat} {xs:List Value} (h:w.ownsRow base e k (.slice a m c) n xs) (hs:n*k≤maxLen):m=n∧n≤c∧ah (fun x=>base≤x∧x<w.heap.size) w a (n*k) xs:=by
 obtain⟨h1,h2⟩:=h
 rcases h2 with⟨h2,rfl⟩|⟨g,cap,cur,h2,hg,hcur,h3,h4,h5,h6⟩
 ·simp only[Value.slice.injEq]at h2
  obtain⟨rfl,rfl,rfl⟩:=h2
  have:xs=[]:=List.eq_nil_of_length_eq_zero (by omega)
  subst this
  rw[Nat.zero_mul]
  exact⟨rfl,Nat.le_refl _,ah.nil _ _ _⟩
 ·simp only[Value.slice.injEq]at h2
  obtain⟨rfl,rfl,rfl⟩:=h2
  have hgw:=(Array.getElem?_eq_some_iff.1 hcur).1
  refine⟨rfl,h3,h1,hs,fun h0=>⟨g,0,rfl,⟨hg,hgw⟩,hgw,fun i hi=> ?_⟩⟩
  simp only[World.cell?,hcur,Nat.zero_add]
  rw[←h6,List.getElem?_take,if_pos hi]
  simp
theorem mD {P:Program} {S:Nat→Prop} {w:World} (base:Nat) (t ty e:TypeId) (i:TypeInfo) (z:Value) (k bytes:Nat) (ht:P.underlying t=some (.slice e)) (hi:P.info? e=some i) (hz:i.zero=some z)
  (hsize:i.size=k) (hby:i.bytes=bytes) (hzs:z.cells.size=k) (hk:0<k) (v:Value) (n:Nat) (xs:List Value) (hown:w.ownsRow base e k v n xs)
  (A:Option Addr) (m c:Nat) (news:List Value) (hr:ah S w A (m*k) news) (h1:∀u∈news,u.oneCell'=true) (h63:n+m≤maxLen) (hbytes:(n+m)*bytes≤140737488355328) (hbase:base≤w.heap.size):
  ∃A' c' w',(Builtin.append_ #[t,t] ty #[v, .slice A m c]).run P w= .ok (.slice A' (n+m) c') w'∧w'.ownsRow base e k (.slice A' (n+m) c') (n+m) (xs++news)∧w.grownBy w' v.ownBlock∧
   ((Value.slice A' (n+m) c').ownBlock=v.ownBlock∨(Value.slice A' (n+m) c').ownBlock=some w.heap.size):=by
 rcases A with _|ad
 ·have hm:m=0:=by
   rcases Nat.eq_zero_or_pos m with h0|h0
   ·exact h0
   ·obtain⟨_,_,h,_⟩:=hr.at_ (Nat.mul_pos h0 hk)
    cases h
  subst hm
  have hn:news=[]:=List.eq_nil_of_length_eq_zero (by rw[hr.length];omega)
  subst hn
  obtain⟨A',c',rfl,_⟩:=cO hown
  refine⟨A',c',w,?_,by simpa using hown,⟨rfl,rfl,rfl,Nat.le_refl _,fun _ _ _=>rfl⟩,Or.inl rfl⟩
  rcases hown.2 with⟨h2,rfl⟩|⟨g,cap,cur,h2,_,_,hnc,_⟩
  ·simp only[Value.slice.injEq]at h2
   obtain⟨rfl,_,rfl⟩:=h2
   simp[Builtin.append_,run_underlying ht,sizeOf,typeInfo,hi,Builtin.lenOf,Builtin.firstCells]
  ·simp only[Value.slice.injEq]at h2
   obtain⟨rfl,_,rfl⟩:=h2
   simp[Builtin.append_,run_underlying ht,sizeOf,typeInfo,hi,Builtin.lenOf,Builtin.firstCells,hnc,storeCells]
 ·obtain⟨v',w',hr',h2,h3,h4,h5⟩:=run_append_own_at (P:=P) w base t ty e i z k bytes ht hi hz hsize hby hzs hk v n xs hown ad m c news hr.length hr.cells h1 h63 hbytes hbase
  obtain⟨A',c',rfl,_⟩:=cO h2
  exact⟨A',c',w',hr',h2,h3,h5⟩
theorem nA {P:Program} {S:Nat→Prop} {w:World} {ops:Array Oper} {rest:List Oper} {o:Oper} {a:Act} {Q:Exit→Act→World→Prop} (hgd:o.guard=none) (s x:Operand) (t:TypeId)
  (ho:o.op= .call {callee:= .builtin .append,args:= #[s,x],argTypes:= #[t,t]})
  (base:Nat) (e:TypeId) (i:TypeInfo) (z:Value) (k bytes:Nat) (ht:P.underlying t=some (.slice e)) (hi:P.info? e=some i) (hz:i.zero=some z)
  (hsize:i.size=k) (hby:i.bytes=bytes) (hzs:z.cells.size=k) (hk:0<k) (v:Value) (n:Nat) (xs:List Value) (hs:a.eval s=v) (hown:w.ownsRow base e k v n xs)
  (A:Option Addr) (m c:Nat) (news:List Value) (hx:a.eval x= .slice A m c) (hr:ah S w A (m*k) news) (h1:∀u∈news,u.oneCell'=true) (h63:n+m≤maxLen) (hbytes:(n+m)*bytes≤140737488355328) (hbase:base≤w.heap.size)
  (h:∀A' c' w',w'.ownsRow base e k (.slice A' (n+m) c') (n+m) (xs++news)→w.grownBy w' v.ownBlock→((Value.slice A' (n+m) c').ownBlock=v.ownBlock∨(Value.slice A' (n+m) c').ownBlock=some w.heap.size)→wpList P ops Q rest (a.put o.dst (.slice A' (n+m) c')) w'):
  wpList P ops Q (o::rest) a w:=by
 refine wpList_plain hgd fun K hK=> ?_
 obtain⟨A',c',w',hr,h2,h3,h4⟩:=mD (P:=P) base t o.type e i z k bytes ht hi hz hsize hby hzs hk v n xs hown A m c news hr h1 h63 hbytes hbase
 unfold Oper.wp execOp
 simp only[ho,resolve,invoke,builtin,Sem.run_bind,Sem.run_pure,Result.andThen_ok,List.map_toArray,List.map_cons,List.map_nil,hs,hx,hr]
 exact hK _ _ (h A' c' w' h2 h3 h4)
theorem dz {P:Program} {S:Nat→Prop} {ops:Array Oper} {o:Oper} {a:Act} {w:World} {K:Act→World→Prop} {Q:Exit→Act→World→Prop} {E:Prop} (hgd:o.guard=none) (s x:Operand) (t:TypeId)
  (ho:o.op= .call {callee:= .builtin .append,args:= #[s,x],argTypes:= #[t,t]})
  (base:Nat) (e:TypeId) (i:TypeInfo) (z:Value) (k bytes:Nat) (ht:P.underlying t=some (.slice e)) (hi:P.info? e=some i) (hz:i.zero=some z)
  (hsize:i.size=k) (hby:i.bytes=bytes) (hzs:z.cells.size=k) (hk:0<k) (v:Value) (n:Nat) (xs:List Value) (hs:a.eval s=v) (hown:w.ownsRow base e k v n xs)
  (A:Option Addr) (m c:Nat) (news:List Value) (hx:a.eval x= .slice A m c) (hr:ah S w A (m*k) news) (h1:∀u∈news,u.oneCell'=true) (h63:n+m≤maxLen) (hbytes:(n+m)*bytes≤140737488355328) (hbase:base≤w.heap.size)
  (h:∀A' c' w',w'.ownsRow base e k (.slice A' (n+m) c') (n+m) (xs++news)→w.grownBy w' v.ownBlock→((Value.slice A' (n+m) c').ownBlock=v.ownBlock∨(Value.slice A' (n+m) c').ownBlock=some w.heap.size)→K (a.put o.dst (.slice A' (n+m) c')) w'):
  if Region.wanted o (yielded ops a.tmps)=true then Oper.wp P o a w K Q else E:=by
 have hw:Region.wanted o (yielded ops a.tmps)=true:=by simp[Region.wanted,hgd]
 rw[if_pos hw]
 obtain⟨A',c',w',hr,h2,h3,h4⟩:=mD (P:=P) base t o.type e i z k bytes ht hi hz hsize hby hzs hk v n xs hown A m c news hr h1 h63 hbytes hbase
 unfold Oper.wp execOp
 simp only[ho,resolve,invoke,builtin,Sem.run_bind,Sem.run_pure,Result.andThen_ok,List.map_toArray,List.map_cons,List.map_nil,hs,hx,hr]
 exact h A' c' w' h2 h3 h4
theorem dw {P:Program} {S:Nat→Prop} {w:World} {ops:Array Oper} {rest:List Oper} {o:Oper} {a:Act} {Q:Exit→Act→World→Prop} (hgd:o.guard=none) (s x:Operand) (t:TypeId)
  (ho:o.op= .call {callee:= .builtin .append,args:= #[s,x],argTypes:= #[t,t]})
  (base:Nat) (e:TypeId) (i:TypeInfo) (z:Value) (k bytes:Nat) (ht:P.underlying t=some (.slice e)) (hi:P.info? e=some i) (hz:i.zero=some z)
  (hsize:i.size=k) (hby:i.bytes=bytes) (hzs:z.cells.size=k) (hk:0<k) (v:Value) (n:Nat) (xs:List Value) (hs:a.eval s=v) (hown:w.ownsRow base e k v n xs)
  (A:Option Addr) (m c:Nat) (news:List Value) (hx:a.eval x= .slice A m c) (hr:ah S w A (m*k) news) (h1:∀u∈news,u.oneCell'=true) (h63:n+m≤maxLen) (hbytes:(n+m)*bytes≤140737488355328) (hbase:base≤w.heap.size)
  (h:∀A' c' w',w'.ownsRow base e k (.slice A' (n+m) c') (n+m) (xs++news)→Below base w w'→wpList P ops Q rest (a.put o.dst (.slice A' (n+m) c')) w'):
  wpList P ops Q (o::rest) a w:=by
 refine wpList_plain hgd fun K hK=> ?_
 obtain⟨A',c',w',hr,h2,h3,h4⟩:=mD (P:=P) base t o.type e i z k bytes ht hi hz hsize hby hzs hk v n xs hown A m c news hr h1 h63 hbytes hbase
 unfold Oper.wp execOp
 simp only[ho,resolve,invoke,builtin,Sem.run_bind,Sem.run_pure,Result.andThen_ok,List.map_toArray,List.map_cons,List.map_nil,hs,hx,hr]
 exact hK _ _ (h A' c' w' h2 ⟨h3.os,h3.tape,h3.output,h3.size,fun b hb=>h3.block b (by omega) (fun e=>by have:=bY hown b e.symm;omega)⟩)
structure dX where
 id:Int
 hash:List UInt8
 t:aA
structure jc where
 l:List dX
 next:Int
 last:List UInt8
def kN:jc:=⟨[],1,[]⟩
def vP (K:aA→Prop) (o:Mark) (w:World) (vs:List Value) (x:dX):Prop:=
 ∃a c q,vs=[.int .i64 x.id, .slice a x.hash.length c,ptr q]∧x.hash.length≤c∧ah (fun b=>o b=0∧b<w.heap.size) w a x.hash.length (x.hash.map bv)∧fH o 0 w q x.t∧K x.t
def fI (K:aA→Prop) (o:Mark) (w:World):List Value→List dX→Prop
 |vs,[]=>vs=[]
 |vs,x::r=>∃v1 v2,vs=v1++v2∧vP K o w v1 x∧fI K o w v2 r
structure iT (K:aA→Prop) (o:Mark) (i:Nat) (w:World) (s:Nat) (S:jc):Prop where
 at_:∃v la lc vals,w.heap[s]? =some (.cells #[v, .int .i64 S.next, .slice la S.last.length lc] 80 (0,0))∧o s=i∧s<w.heap.size∧
  w.ownsRow 0 84 3 v S.l.length vals∧(∀b,v.ownBlock=some b→o b=i∧b≠s∧b<w.heap.size)∧fI K o w vals S.l∧
  S.last.length≤lc∧ah (fun b=>o b=0∧b<w.heap.size) w la S.last.length (S.last.map bv)
abbrev vQ:=fI eH
abbrev jO:=iT eH
theorem vP.step {K:aA→Prop} {o o':Mark} {I:Nat→Prop} {w w':World} {vs:List Value} {x:dX} (h:vP K o w vs x) (hi:¬I 0) (hs:Step o I w o' w'):vP K o' w' vs x:=by
 obtain⟨a,c,q,h1,h2,h3,h4,h5⟩:=h
 exact⟨a,c,q,h1,h2,h3.move hs.keep.size fun b hb hbw=>⟨⟨(hs.old b hb.2).trans hb.1,Nat.lt_of_lt_of_le hb.2 hs.keep.size⟩,hs.block hb.2 (by rw[hb.1];exact hi)⟩,h4.step hi hi hs,h5⟩
theorem fI.step {K:aA→Prop} {o o':Mark} {I:Nat→Prop} {w w':World} (hi:¬I 0) (hs:Step o I w o' w'):∀{vs:List Value} {l:List dX},fI K o w vs l→fI K o' w' vs l
 |_,[],h=>h
 |_,x::r,⟨v1,v2,h1,h2,h3⟩=>⟨v1,v2,h1,h2.step hi hs,fI.step hi hs h3⟩
theorem vP.grow {K:aA→Prop} {o:Mark} {w w':World} {vs:List Value} {x:dX} (h:vP K o w vs x) (hb:Below w.heap.size w w'):vP K o w' vs x:=by
 obtain⟨a,c,q,h1,h2,h3,h4,h5⟩:=h
 exact⟨a,c,q,h1,h2,h3.move hb.size fun b hb' hbw=>⟨⟨hb'.1,Nat.lt_of_lt_of_le hb'.2 hb.size⟩,hb.block b hbw⟩,h4.grow hb,h5⟩
theorem fI.grow {K:aA→Prop} {o:Mark} {w w':World} (hb:Below w.heap.size w w'):∀{vs:List Value} {l:List dX},fI K o w vs l→fI K o w' vs l
 |_,[],h=>h
 |_,x::r,⟨v1,v2,h1,h2,h3⟩=>⟨v1,v2,h1,h2.grow hb,fI.grow hb h3⟩
theorem vP.len {K:aA→Prop} {o:Mark} {w:World} {vs:List Value} {x:dX} (h:vP K o w vs x):vs.length=3:=by
 obtain⟨a,c,q,h1,_⟩:=h
 rw[h1];rfl
theorem fI.len {K:aA→Prop} {o:Mark} {w:World}:∀{vs:List Value} {l:List dX},fI K o w vs l→vs.length=l.length*3
 |_,[],h=>by have h1:_=[]:=h;rw[h1];rfl
 |_,x::r,⟨v1,v2,h1,h2,h3⟩=>by
  rw[h1,List.length_append,h2.len,h3.len,List.length_cons]
  omega
theorem fI.append {K:aA→Prop} {o:Mark} {w:World}:∀{vs us:List Value} {l m:List dX},fI K o w vs l→fI K o w us m→fI K o w (vs++us) (l++m)
 |_,_,[],_,h,k=>by have h1:_=[]:=h;rw[h1];exact k
 |_,_,x::r,_,⟨v1,v2,h1,h2,h3⟩,k=>⟨v1,v2++_,by rw[h1,List.append_assoc],h2,h3.append k⟩
theorem fI.at_ {K:aA→Prop} {o:Mark} {w:World}:∀{vs:List Value} {l:List dX} {k:Nat} {x:dX},fI K o w vs l→l[k]? =some x→∃a c q,vs[k*3]? =some (.int .i64 x.id)∧vs[k*3+1]? =some (.slice a x.hash.length c)∧vs[k*3+2]? =some (ptr q)∧x.hash.length≤c∧ah (fun b=>o b=0∧b<w.heap.size) w a x.hash.length (x.hash.map bv)∧fH o 0 w q x.t∧K x.t
 |_,[],k,x,_,hx=>by simp at hx
 |_,y::r,0,x,⟨v1,v2,h1,h2,h3⟩,hx=>by
  have hyx:y=x:=Option.some.inj hx
  subst hyx
  obtain⟨a,c,q,e1,e2,e3,e4,e5⟩:=h2
  subst e1 h1
  exact⟨a,c,q,rfl,rfl,rfl,e2,e3,e4,e5⟩
 |_,y::r,k+1,x,⟨v1,v2,h1,h2,h3⟩,hx=>by
  obtain⟨a,c,q,e1,e2,e3,e4⟩:=fI.at_ h3 (k:=k) (x:=x) (by simpa using hx)
  have hl:=h2.len
  subst h1
  refine⟨a,c,q,?_,?_,?_,e4⟩
  ·rw[List.getElem?_append_right (by omega),←e1];congr 1;omega
  ·rw[List.getElem?_append_right (by omega),←e2];congr 1;omega
  ·rw[List.getElem?_append_right (by omega),←e3];congr 1;omega
theorem fI.take {K:aA→Prop} {o:Mark} {w:World}:∀{vs:List Value} {l:List dX} (k:Nat),fI K o w vs l→fI K o w (vs.take (k*3)) (l.take k)
 |_,[],k,h=>by have h1:_=[]:=h;rw[h1];simp;exact rfl
 |_,y::r,0,_=>by simp;exact rfl
 |_,y::r,k+1,⟨v1,v2,h1,h2,h3⟩=>by
  subst h1
  have hl:=h2.len
  refine⟨v1,v2.take (k*3),?_,h2,h3.take k⟩
  rw[List.take_append,List.take_of_length_le (by omega)]
  congr 2
  omega
theorem fI.drop {K:aA→Prop} {o:Mark} {w:World}:∀{vs:List Value} {l:List dX} (k:Nat),fI K o w vs l→fI K o w (vs.drop (k*3)) (l.drop k)
 |_,[],k,h=>by have h1:_=[]:=h;rw[h1];simp;exact rfl
 |_,y::r,0,h=>by simpa using h
 |_,y::r,k+1,⟨v1,v2,h1,h2,h3⟩=>by
  subst h1
  have hl:=h2.len
  have h4:=h3.drop k
  rw[List.drop_append,List.drop_eq_nil_of_le (by omega)]
  have e:(k+1)*3-v1.length=k*3:=by omega
  rw[e]
  exact h4
theorem iT.step {K:aA→Prop} {o o':Mark} {I:Nat→Prop} {j:Nat} {w w':World} {s:Nat} {S:jc} (h:iT K o j w s S) (hi:¬I 0) (hj:¬I j) (hs:Step o I w o' w'):iT K o' j w' s S:=by
 obtain⟨v,la,lc,vals,h1,h2,h3,h4,h5,h6,h7,h8⟩:=h.at_
 refine⟨v,la,lc,vals,(hs.block h3 (by rw[h2];exact hj)).trans h1,(hs.old s h3).trans h2,Nat.lt_of_lt_of_le h3 hs.keep.size,?_,fun b hb=> ?_,h6.step hi hs,h7,h8.move hs.keep.size fun b hb hbw=>⟨⟨(hs.old b hb.2).trans hb.1,Nat.lt_of_lt_of_le hb.2 hs.keep.size⟩,hs.block hb.2 (by rw[hb.1];exact hi)⟩⟩
 ·obtain⟨k1,k2⟩:=h4
  refine⟨k1,?_⟩
  rcases k2 with k2|⟨g,cap,cur,e1,e2,e3,e4⟩
  ·exact .inl k2
  ·have h9:=h5 g (by rw[e1];rfl)
   exact .inr ⟨g,cap,cur,e1,e2,(hs.block h9.2.2 (by rw[h9.1];exact hj)).trans e3,e4⟩
 ·obtain⟨k1,k2,k3⟩:=h5 b hb
  exact⟨(hs.old b k3).trans k1,k2,Nat.lt_of_lt_of_le k3 hs.keep.size⟩
end Go.Proofs.YtjnhnlabpccgjaaGreat
