/- DERIVED: THE SHELF's CONTRACTS AT THIS DUMP, IN PLAIN WORDS (tools/lay-plain.mjs out of 'YtohpcppeajijnaaGreatLaypKeysLayS.lean', which tools/lay-shelf.mjs wrote): THE SAME DECLARATIONS UNDER THE SAME NAMES: 'import', 'namespace', 'open', 'def', 'theorem' AND NOTHING ELSE: no command of the shelf's: FOR A HAND-IN. Each laying: the table of numbers ('.._ren') and one theorem, a field a fact of the dump's own or the kernel's comparison; each contract: ONE APPLICATION. slices.Sorted(maps.Keys(m)) of a directory's names, rising. tree: List. slices.Sorted(maps.Keys(x.names)), of a directory or a file. What Save of package tree writes, plainly. Rows whose elements have more than one cell: append. Snapshots, as plain data; in memory. -/
import Derived.Test.YtohpcppeajijnaaGreatProg
import Derived.Shelf.SlIter.Nil
import Derived.Shelf.SlIter.Sorted
import Derived.Shelf.SortM.Plain
import Derived.Shelf.SortM.SortNone
import Derived.Ground.GgzProg
import Derived.Ground.SlgmProg
import Derived.Test.YtohpcppeajijnaaGreatM02
import Derived.Test.YtohpcppeajijnaaGreatM16
import Derived.Test.YtohpcppeajijnaaGreatM14
import Derived.Test.YtohpcppeajijnaaGreatM13
import Derived.Test.YtohpcppeajijnaaGreatM10
namespace Go.Proofs
open Go.Shelf
def Tryz.sK:Go.Shelf.Ren:=⟨fun|7=>88|10=>138|n=>n,fun|23=>107|26=>9|3=>3|28=>138|0=>0|27=>137|33=>179|4=>4|n=>n,fun|n=>n⟩
theorem Tryz.IY:Go.Proofs.SlLaysZ.n7 Tryz.prog Tryz.sK:={
 mixed:=by kernel_rfl
 f7:=⟨Tryz.f88.name,by decide,Tryz.func88.trans (congrArg some (by kernel_rfl))⟩
 f10:=⟨Tryz.f138.name,by decide,Tryz.func138.trans (congrArg some (by kernel_rfl))⟩
 t0:=Tryz.underlying0
 a0:=Tryz.isAgg0
 z0:=Tryz.sizeOf0
 v0:=Tryz.zeroValue0
 t4:=Tryz.underlying4
 a4:=Tryz.isAgg4
 z4:=Tryz.sizeOf4
 v4:=Tryz.zeroValue4
 t23:=Tryz.underlying107
 a23:=Tryz.isAgg107
 z23:=Tryz.sizeOf107
 v23:=Tryz.zeroValue107
 t26:=Tryz.underlying9
 a26:=Tryz.isAgg9
 z26:=Tryz.sizeOf9
 v26:=Tryz.zeroValue9
 t27:=Tryz.underlying137
 a27:=Tryz.isAgg137
 z27:=Tryz.sizeOf137
 v27:=Tryz.zeroValue137
 t28:=Tryz.underlying138
 a28:=Tryz.isAgg138
 z28:=Tryz.sizeOf138
 v28:=Tryz.zeroValue138
 t33:=Tryz.underlying179
 a33:=Tryz.isAgg179
 z33:=Tryz.sizeOf179
 v33:=Tryz.zeroValue179}
def Tryz.tT:Go.Shelf.Ren:=⟨fun|6=>87|8=>136|9=>137|11=>172|13=>174|12=>173|23=>198|24=>199|14=>189|15=>190|16=>191|17=>192|18=>193|19=>194|20=>195|21=>196|22=>197|25=>225|26=>226|27=>227|28=>228|29=>229|30=>230|31=>242|n=>n,fun|26=>9|28=>138|24=>26|0=>0|3=>3|37=>153|48=>154|50=>43|4=>4|40=>231|39=>230|45=>106|5=>5|9=>9|51=>266|55=>269|57=>280|58=>31|33=>179|n=>n,fun|n=>n⟩
theorem Tryz.Ee:Go.Proofs.SlLaysZ.n6 Tryz.prog Tryz.tT:={
 mixed:=by kernel_rfl
 f6:=⟨Tryz.f87.name,by decide,Tryz.func87.trans (congrArg some (by kernel_rfl))⟩
 f8:=⟨Tryz.f136.name,by decide,Tryz.func136.trans (congrArg some (by kernel_rfl))⟩
 f11:=⟨Tryz.f172.name,by decide,Tryz.func172.trans (congrArg some (by kernel_rfl))⟩
 t0:=Tryz.underlying0
 a0:=Tryz.isAgg0
 z0:=Tryz.sizeOf0
 v0:=Tryz.zeroValue0
 t24:=Tryz.underlying26
 a24:=Tryz.isAgg26
 z24:=Tryz.sizeOf26
 v24:=Tryz.zeroValue26
 t26:=Tryz.underlying9
 a26:=Tryz.isAgg9
 z26:=Tryz.sizeOf9
 v26:=Tryz.zeroValue9
 t28:=Tryz.underlying138
 a28:=Tryz.isAgg138
 z28:=Tryz.sizeOf138
 v28:=Tryz.zeroValue138
 i26:=by kernel_rfl}
def Tryz.Fw:Go.Shelf.Ren:=⟨fun|6=>137|8=>174|9=>173|19=>198|20=>199|21=>189|22=>190|23=>191|24=>192|25=>193|26=>194|27=>195|28=>196|29=>197|36=>225|31=>226|32=>227|37=>228|38=>229|39=>230|41=>242|n=>n,fun|27=>26|29=>9|3=>3|32=>153|26=>26|0=>0|44=>154|46=>43|4=>4|36=>231|35=>230|41=>106|5=>5|9=>9|53=>266|57=>269|63=>280|64=>31|n=>n,fun|n=>n⟩
theorem Tryz.Og:Go.Proofs.SlLaysM.n6 Tryz.prog Tryz.Fw:={
 mixed:=by kernel_rfl
 f6:=⟨Tryz.f137.name,by decide,Tryz.func137.trans (congrArg some (by kernel_rfl))⟩
 f8:=Tryz.func174.trans (congrArg some (by kernel_rfl))
 f9:=⟨Tryz.f173.name,by decide,Tryz.func173.trans (congrArg some (by kernel_rfl))⟩
 f19:=Tryz.func198.trans (congrArg some (by kernel_rfl))
 f20:=Tryz.func199.trans (congrArg some (by kernel_rfl))
 f21:=⟨Tryz.f189.name,by decide,Tryz.func189.trans (congrArg some (by kernel_rfl))⟩
 f22:=⟨Tryz.f190.name,by decide,Tryz.func190.trans (congrArg some (by kernel_rfl))⟩
 f23:=⟨Tryz.f191.name,by decide,Tryz.func191.trans (congrArg some (by kernel_rfl))⟩
 f24:=⟨Tryz.f192.name,by decide,Tryz.func192.trans (congrArg some (by kernel_rfl))⟩
 f25:=⟨Tryz.f193.name,by decide,Tryz.func193.trans (congrArg some (by kernel_rfl))⟩
 f26:=⟨Tryz.f194.name,by decide,Tryz.func194.trans (congrArg some (by kernel_rfl))⟩
 f27:=⟨Tryz.f195.name,by decide,Tryz.func195.trans (congrArg some (by kernel_rfl))⟩
 f28:=⟨Tryz.f196.name,by decide,Tryz.func196.trans (congrArg some (by kernel_rfl))⟩
 f29:=⟨Tryz.f197.name,by decide,Tryz.func197.trans (congrArg some (by kernel_rfl))⟩
 f31:=Tryz.func226.trans (congrArg some (by kernel_rfl))
 f32:=Tryz.func227.trans (congrArg some (by kernel_rfl))
 f36:=⟨Tryz.f225.name,by decide,Tryz.func225.trans (congrArg some (by kernel_rfl))⟩
 f37:=⟨Tryz.f228.name,by decide,Tryz.func228.trans (congrArg some (by kernel_rfl))⟩
 f38:=⟨Tryz.f229.name,by decide,Tryz.func229.trans (congrArg some (by kernel_rfl))⟩
 f39:=⟨Tryz.f230.name,by decide,Tryz.func230.trans (congrArg some (by kernel_rfl))⟩
 f41:=⟨Tryz.f242.name,by decide,Tryz.func242.trans (congrArg some (by kernel_rfl))⟩
 t0:=Tryz.underlying0
 a0:=Tryz.isAgg0
 z0:=Tryz.sizeOf0
 v0:=Tryz.zeroValue0
 t3:=Tryz.underlying3
 a3:=Tryz.isAgg3
 z3:=Tryz.sizeOf3
 v3:=Tryz.zeroValue3
 t4:=Tryz.underlying4
 a4:=Tryz.isAgg4
 z4:=Tryz.sizeOf4
 v4:=Tryz.zeroValue4
 t5:=Tryz.underlying5
 a5:=Tryz.isAgg5
 z5:=Tryz.sizeOf5
 v5:=Tryz.zeroValue5
 t9:=Tryz.underlying9
 a9:=Tryz.isAgg9
 z9:=Tryz.sizeOf9
 v9:=Tryz.zeroValue9
 t26:=Tryz.underlying26
 a26:=Tryz.isAgg26
 z26:=Tryz.sizeOf26
 v26:=Tryz.zeroValue26
 t27:=Tryz.underlying26
 a27:=Tryz.isAgg26
 z27:=Tryz.sizeOf26
 v27:=Tryz.zeroValue26
 t29:=Tryz.underlying9
 a29:=Tryz.isAgg9
 z29:=Tryz.sizeOf9
 v29:=Tryz.zeroValue9
 t32:=Tryz.underlying153
 a32:=Tryz.isAgg153
 z32:=Tryz.sizeOf153
 v32:=Tryz.zeroValue153
 t35:=Tryz.underlying230
 a35:=Tryz.isAgg230
 z35:=Tryz.sizeOf230
 v35:=Tryz.zeroValue230
 t36:=Tryz.underlying231
 a36:=Tryz.isAgg231
 z36:=Tryz.sizeOf231
 v36:=Tryz.zeroValue231
 t41:=Tryz.underlying106
 a41:=Tryz.isAgg106
 z41:=Tryz.sizeOf106
 v41:=Tryz.zeroValue106
 t44:=Tryz.underlying154
 a44:=Tryz.isAgg154
 z44:=Tryz.sizeOf154
 v44:=Tryz.zeroValue154
 t46:=Tryz.underlying43
 a46:=Tryz.isAgg43
 z46:=Tryz.sizeOf43
 v46:=Tryz.zeroValue43
 t53:=Tryz.underlying266
 a53:=Tryz.isAgg266
 z53:=Tryz.sizeOf266
 v53:=Tryz.zeroValue266
 t57:=Tryz.underlying269
 a57:=Tryz.isAgg269
 z57:=Tryz.sizeOf269
 v57:=Tryz.zeroValue269
 t63:=Tryz.underlying280
 a63:=Tryz.isAgg280
 z63:=Tryz.sizeOf280
 v63:=Tryz.zeroValue280
 t64:=Tryz.underlying31
 a64:=Tryz.isAgg31
 z64:=Tryz.sizeOf31
 v64:=Tryz.zeroValue31}
open Go.RowKit Go.Maps Go.Sort Go.Shelf
theorem Tryz.IZ (m:Nat):AnyZ.SortsIn Tryz.prog Tryz.tT Fence.wide m:=
 ⟨fun blk off cap ss W hH hblk hsz=>callsIn_wide.2 (AnyM.slices_Sort_string Tryz.Og blk off cap ss W hH hblk hsz),
  fun p cap W=>callsIn_wide.2 (AnyM.slices_Sort_string_none Tryz.Og p cap W)⟩
theorem Tryz.Ef (mb:Option Nat) (W:World):Calls Tryz.prog 88 #[.map mb] W fun e w'=>e= .returned (.func (.func 138) #[] #[.pointer (some ⟨W.heap.size,0,none⟩)])∧w'=W.alloc (.cells #[.map mb] 107):=
 callsIn_wide.1 (AnyZ.keys_in Tryz.IY Fence.wide 5 trivial rfl mb W)
set_option maxHeartbeats 1000000 in
theorem Tryz.Fx {H:Type} (b nn:Nat) (D0:DataW H) (R:Value→Option (DataW H×List MemPlace)) (w:World) (hown:w.ownsMap Tryz.prog 9 R b nn D0) (hmax:Maps.size D0≤maxLen) (hbytes:Maps.size D0*16≤140737488355328):
  Calls Tryz.prog 87 #[.func (.func 138) #[] #[.pointer (some ⟨w.heap.size,0,none⟩)]] (w.alloc (.cells #[.map (some b)] 107)) fun e w'=>∃(v:Value) (ss:List (List UInt8)),e= .returned v∧ss.Perm (strKeys D0)∧
   w'.ownsRow (w.alloc (.cells #[.map (some b)] 107)).heap.size 9 1 v ss.length ((ss.mergeSort (fun x y=>decide (x≤y))).map encStr)∧(v= .slice none 0 0↔ss=[])∧Below (w.alloc (.cells #[.map (some b)] 107)).heap.size (w.alloc (.cells #[.map (some b)] 107)) w':=by
 have hbl:=hown.lt
 have hseq:SeqGives Fence.wide 2 Tryz.prog 138 #[.pointer (some ⟨w.heap.size,0,none⟩)] encStr (fun ss=>ss.Perm (strKeys D0)) (Maps.size D0) (w.alloc (.cells #[.map (some b)] 107)):=
  AnyZ.keys_gives (ρ:=Tryz.sK) {Tryz.IY with} Fence.wide _ trivial rfl (by omega) w.heap.size b nn D0 _ (by simp) (by simp) (by
   obtain⟨es,clock,hb,Ft,hs,hD⟩:=hown
   exact⟨es,clock,(Below.heap_alloc _ _ b hbl).trans hb,Ft,hs,hD⟩)
 exact callsIn_wide.1 (AnyZ.sorted_in Tryz.Ee Fence.wide 5 trivial trivial trivial trivial rfl (by omega) (Tryz.IZ _) (enters_of Tryz.func137 (by kernel_rfl) rfl) 138 #[.pointer (some ⟨w.heap.size,0,none⟩)] trivial (enters_of Tryz.func138 (by kernel_rfl) rfl) _ _ hmax hbytes _ hseq)
end Go.Proofs
namespace Go.Proofs.YtohpcppeajijnaaGreat
open Go.ChangeShapes Go.WideShapes Go.ChangeAt Go.RowKit
set_option linter.unusedVariables false
set_option linter.unusedSimpArgs false
theorem AA (l:List (Nm×Value)):strKeys (qL gF l)=l.map (·.1):=by
 unfold strKeys qL
 simp only[List.map_map]
 rfl
theorem Oh:∀{a b:List UInt8},bytesBefore a b=true→a<b
 |[],[],h=>by cases h
 |[],_::_,_=>List.nil_lt_cons _ _
 |_::_,[],h=>by cases h
 |x::r,y::s,h=>by
  rw[List.cons_lt_cons_iff]
  simp only[bytesBefore,Bool.or_eq_true,Bool.and_eq_true,decide_eq_true_eq,beq_iff_eq]at h
  rcases h with h|⟨h1,h2⟩
  ·exact .inl h
  ·exact .inr ⟨h1,Oh h2⟩
theorem ze {α:Type} {l:List (Nm×α)} (hl:aJ bytesBefore l) {ss:List Nm} (hp:ss.Perm (l.map (·.1))):ss.mergeSort (fun x y=>decide (x≤y))=l.map (·.1):=by
 have h1:(ss.mergeSort (fun x y=>decide (x≤y))).Pairwise (fun a b=>decide (a≤b)=true):=List.pairwise_mergeSort (fun a b c h1 h2=>by simp only[decide_eq_true_eq]at*;exact List.le_trans h1 h2) (fun a b=>by simp only[Bool.or_eq_true,decide_eq_true_eq];exact List.le_total a b) ss
 have h2:(l.map (·.1)).Pairwise (fun a b=>decide (a≤b)=true):=by
  rw[List.pairwise_map]
  exact hl.imp fun{a b} h=>by simp only[decide_eq_true_eq];exact List.le_of_lt (Oh h)
 exact((List.mergeSort_perm ss _).trans hp).eq_of_pairwise (fun a b _ _ h1 h2=>by simp only[decide_eq_true_eq]at h1 h2;exact List.le_antisymm h1 h2) h1 h2
section
variable {g:Nat→Own} {D:Nat→Prop} {p mb:Nat} {ib nb:Int→Nat} {T:aI}
end
end Go.Proofs.YtohpcppeajijnaaGreat
namespace Go.Proofs
open Go.RowKit Go.Maps Go.Sort Go.Shelf
set_option maxHeartbeats 1000000 in
theorem Tryz.Cy (w:World):Calls Tryz.prog 87 #[.func (.func 138) #[] #[.pointer (some ⟨w.heap.size,0,none⟩)]] (w.alloc (.cells #[.map none] 107)) fun e w'=>e= .returned (.slice none 0 0)∧Below (w.alloc (.cells #[.map none] 107)).heap.size (w.alloc (.cells #[.map none] 107)) w':=by
 have hseq:SeqGives Fence.wide 2 Tryz.prog 138 #[.pointer (some ⟨w.heap.size,0,none⟩)] encStr (fun ss:List (List UInt8)=>ss=[]) 0 (w.alloc (.cells #[.map none] 107)):=
  AnyZ.keys_gives_nil (ρ:=Tryz.sK) {Tryz.IY with} Fence.wide _ trivial rfl w.heap.size _ (by simp) (by simp)
 have h:=callsIn_wide.1 (AnyZ.sorted_in Tryz.Ee Fence.wide 5 trivial trivial trivial trivial rfl (by omega) (Tryz.IZ _) (enters_of Tryz.func137 (by kernel_rfl) rfl) 138 #[.pointer (some ⟨w.heap.size,0,none⟩)] trivial (enters_of Tryz.func138 (by kernel_rfl) rfl) _ 0 (Nat.zero_le _) (by omega) _ hseq)
 refine h.mono ?_
 rintro e w' ⟨v,ss,rfl,rfl,hrow,hnil,hb⟩
 obtain rfl:v= .slice none 0 0:=hnil.2 rfl
 exact⟨rfl,hb⟩
end Go.Proofs
namespace Go.Proofs.YtohpcppeajijnaaGreat
open Go.ChangeShapes Go.WideShapes Go.ChangeAt Go.RowKit
set_option linter.unusedVariables false
set_option linter.unusedSimpArgs false
def MF (w:World) (L:List Nm) (e:Ending) (w':World):Prop:=
 ∃a c,e= .returned (.slice a L.length c)∧L.length≤c∧aW (fun x=>w.heap.size≤x∧x<w'.heap.size) w' a L.length (L.map strOf)∧Below w.heap.size w w'
section
variable {g:Nat→Own} {D:Nat→Prop} {p mb:Nat} {ib nb:Int→Nat} {T:aI}
set_option maxHeartbeats 1000000 in
theorem sorted_at (k:Int) (x:bf) (w:World) (h:aK g D w p mb ib nb T) (hT:dR T) (hx:aF k T=some x):
  Calls Tryz.prog 87 #[.func (.func 138) #[] #[.pointer (some ⟨w.heap.size,0,none⟩)]] (w.alloc (.cells #[dO x (nb k)] 107)) (MF (w.alloc (.cells #[dO x (nb k)] 107)) (x.names.map (·.1))):=by
 have O1:=hT.each k x hx
 have AB:=hT.few hx
 by_cases hk:x.kind=2
 ·have e2:dO x (nb k)= .map (some (nb k)):=if_pos hk
  rw[e2]
  have hM:=(h.item k x hx).names hk
  have hsz:(dP x).length=x.names.length:=List.length_map _
  refine(Tryz.Fx (nb k) (dP x).length (qL gF (dP x)) kL w hM (by rw[lg,hsz];unfold maxLen;omega) (by rw[lg,hsz];omega)).mono ?_
  rintro e w' ⟨v,ss,rfl,hp,hown,hnil,hB⟩
  rw[AA]at hp
  have hml:(dP x).map (·.1)=x.names.map (·.1):=by unfold dP;rw[List.map_map];rfl
  rw[hml]at hp
  rw[ze O1.sorted hp]at hown
  have hlen:ss.length=(x.names.map (·.1)).length:=hp.length_eq
  have hgood:∀s∈(x.names.map (·.1)).map strOf,s.size≤maxLen:=by
   intro s hs
   obtain⟨l,hl,rfl⟩:=List.mem_map.1 hs
   obtain⟨e,he,rfl⟩:=List.mem_map.1 hl
   have:=vB _ (O1.good e he)
   rw[gT];unfold maxLen;omega
  obtain⟨a,c,rfl,hc⟩:=bQ hown
  obtain⟨_,hr⟩:=ak.ku hown
  rw[hlen]at hr hc
  have hr2:ak (fun x_1=>(w.alloc (.cells #[.map (some (nb k))] 107)).heap.size≤x_1∧x_1<w'.heap.size) w' a (x.names.map (·.1)).length (((x.names.map (·.1)).map strOf).map .string):=by
   rw[List.map_map]
   exact hr
  exact⟨a,c,by rw[hlen],hc,⟨hr2,hgood⟩,hB⟩
 ·have e2:dO x (nb k)= .map none:=if_neg hk
  have hnil:x.names=[]:=O1.file (O1.kind.resolve_right hk)
  rw[e2,hnil]
  refine(Tryz.Cy w).mono ?_
  rintro e w' ⟨rfl,hB⟩
  exact⟨none,0,rfl,Nat.le_refl _,⟨ak.nil _ _ _,by simp⟩,hB⟩
end
def mZ (l:List UInt8):List UInt8:=dU l.length 2++l
def LQ (e:Nm×Int):List UInt8:=mZ e.1++dU e.2 2
def lY (k:Int) (x:bf):List UInt8:=mZ (oH k x)++mZ x.b++dU x.names.length 2++x.names.flatMap LQ
def fq (T:aI):List UInt8:=dU T.length 2++T.flatMap fun q=>lY q.1 q.2
theorem lZ {n:Nm} (h:dB n=true):n.length≤16:=by
 unfold dB at h
 simp only[Bool.and_eq_true,decide_eq_true_eq]at h
 exact h.1.1.2
theorem jV (l:List UInt8):(mZ l).length=2+l.length:=by unfold mZ;rw[List.length_append,bJ]
theorem zi:∀(l:List (Nm×Int)),(∀e∈l,e.1.length≤16)→(l.flatMap LQ).length≤20*l.length
 |[],_=>by simp
 |e::r,h=>by
  have h1:=h e (by simp)
  have h2:=zi r fun y hy=>h y (by simp[hy])
  simp only[List.flatMap_cons,List.length_append,List.length_cons,LQ,jV,bJ]
  omega
theorem I5 {k:Int} {x:bf} (h:DY x) (hf:x.names.length≤4096):(lY k x).length≤90000:=by
 have h1:=zi x.names fun e he=>lZ (h.good e he)
 have h2:=h.size
 unfold lY
 simp only[List.length_append,jV,bJ,jm]
 omega
theorem kT {T:aI} (hT:dR T):∀(l:aI),(∀q∈l,q∈T)→(l.flatMap fun q=>lY q.1 q.2).length≤90000*l.length
 |[],_=>by simp
 |q::r,h=>by
  have hq:=bL dD hT.sorted (h q (by simp))
  have h1:=I5 (k:=q.1) (hT.each _ _ hq) (hT.few hq)
  have h2:=kT hT r fun y hy=>h y (by simp[hy])
  simp only[List.flatMap_cons,List.length_append,List.length_cons]
  omega
theorem m_ {w:World} {base g:Nat} {e:TypeId} {k:Nat} (hg:w.heap[g]? =some (.cells #[] e)) (hb:base≤g):w.ownsRow base e k (.slice (some ⟨g,0,none⟩) 0 0) 0 []:=by
 refine⟨by simp, .inr ⟨g,0,#[],rfl,hb,hg,Nat.le_refl _,Nat.zero_le _,by simp,by simp⟩⟩
theorem ak.jO {w:World} {base:Nat} {e:TypeId} {k:Nat} {a:Option Addr} {m n c:Nat} {xs:List Value} (h:w.ownsRow base e k (.slice a m c) n xs) (hs:n*k≤maxLen):m=n∧n≤c∧ak (fun x=>base≤x∧x<w.heap.size) w a (n*k) xs:=by
 obtain⟨h1,h2⟩:=h
 rcases h2 with⟨h2,rfl⟩|⟨g,cap,cur,h2,hg,hcur,h3,h4,h5,h6⟩
 ·simp only[Value.slice.injEq]at h2
  obtain⟨rfl,rfl,rfl⟩:=h2
  have:xs=[]:=List.eq_nil_of_length_eq_zero (by omega)
  subst this
  rw[Nat.zero_mul]
  exact⟨rfl,Nat.le_refl _,ak.nil _ _ _⟩
 ·simp only[Value.slice.injEq]at h2
  obtain⟨rfl,rfl,rfl⟩:=h2
  have hgw:=(Array.getElem?_eq_some_iff.1 hcur).1
  refine⟨rfl,h3,h1,hs,fun h0=>⟨g,0,rfl,⟨hg,hgw⟩,hgw,fun i hi=> ?_⟩⟩
  simp only[World.cell?,hcur,Nat.zero_add]
  rw[←h6,List.getElem?_take,if_pos hi]
  simp
theorem kD {P:Program} {S:Nat→Prop} {w:World} (base:Nat) (t ty e:TypeId) (i:TypeInfo) (z:Value) (k bytes:Nat) (ht:P.underlying t=some (.slice e)) (hi:P.info? e=some i) (hz:i.zero=some z)
  (hsize:i.size=k) (hby:i.bytes=bytes) (hzs:z.cells.size=k) (hk:0<k) (v:Value) (n:Nat) (xs:List Value) (hown:w.ownsRow base e k v n xs)
  (A:Option Addr) (m c:Nat) (news:List Value) (hr:ak S w A (m*k) news) (h1:∀u∈news,u.oneCell'=true) (h63:n+m≤maxLen) (hbytes:(n+m)*bytes≤140737488355328) (hbase:base≤w.heap.size):
  ∃A' c' w',(Builtin.append_ #[t,t] ty #[v, .slice A m c]).run P w= .ok (.slice A' (n+m) c') w'∧w'.ownsRow base e k (.slice A' (n+m) c') (n+m) (xs++news)∧w.grownBy w' v.ownBlock∧
   ((Value.slice A' (n+m) c').ownBlock=v.ownBlock∨(Value.slice A' (n+m) c').ownBlock=some w.heap.size):=by
 rcases A with _|ad
 ·have hm:m=0:=by
   rcases Nat.eq_zero_or_pos m with h0|h0
   ·exact h0
   ·obtain⟨_,_,h,_⟩:=hr.at_ (Nat.mul_pos h0 hk)
    cases h
  subst hm
  have hn:news=[]:=List.eq_nil_of_length_eq_zero (by rw[hr.length];omega)
  subst hn
  obtain⟨A',c',rfl,_⟩:=bQ hown
  refine⟨A',c',w,?_,by simpa using hown,⟨rfl,rfl,rfl,Nat.le_refl _,fun _ _ _=>rfl⟩,Or.inl rfl⟩
  rcases hown.2 with⟨h2,rfl⟩|⟨g,cap,cur,h2,_,_,hnc,_⟩
  ·simp only[Value.slice.injEq]at h2
   obtain⟨rfl,_,rfl⟩:=h2
   simp[Builtin.append_,run_underlying ht,sizeOf,typeInfo,hi,Builtin.lenOf,Builtin.firstCells]
  ·simp only[Value.slice.injEq]at h2
   obtain⟨rfl,_,rfl⟩:=h2
   simp[Builtin.append_,run_underlying ht,sizeOf,typeInfo,hi,Builtin.lenOf,Builtin.firstCells,hnc,storeCells]
 ·obtain⟨v',w',hr',h2,h3,h4,h5⟩:=run_append_own_at (P:=P) w base t ty e i z k bytes ht hi hz hsize hby hzs hk v n xs hown ad m c news hr.length hr.cells h1 h63 hbytes hbase
  obtain⟨A',c',rfl,_⟩:=bQ h2
  exact⟨A',c',w',hr',h2,h3,h5⟩
theorem qp {P:Program} {S:Nat→Prop} {w:World} {ops:Array Oper} {rest:List Oper} {o:Oper} {a:Act} {Q:Exit→Act→World→Prop} (hgd:o.guard=none) (s x:Operand) (t:TypeId)
  (ho:o.op= .call {callee:= .builtin .append,args:= #[s,x],argTypes:= #[t,t]})
  (base:Nat) (e:TypeId) (i:TypeInfo) (z:Value) (k bytes:Nat) (ht:P.underlying t=some (.slice e)) (hi:P.info? e=some i) (hz:i.zero=some z)
  (hsize:i.size=k) (hby:i.bytes=bytes) (hzs:z.cells.size=k) (hk:0<k) (v:Value) (n:Nat) (xs:List Value) (hs:a.eval s=v) (hown:w.ownsRow base e k v n xs)
  (A:Option Addr) (m c:Nat) (news:List Value) (hx:a.eval x= .slice A m c) (hr:ak S w A (m*k) news) (h1:∀u∈news,u.oneCell'=true) (h63:n+m≤maxLen) (hbytes:(n+m)*bytes≤140737488355328) (hbase:base≤w.heap.size)
  (h:∀A' c' w',w'.ownsRow base e k (.slice A' (n+m) c') (n+m) (xs++news)→w.grownBy w' v.ownBlock→((Value.slice A' (n+m) c').ownBlock=v.ownBlock∨(Value.slice A' (n+m) c').ownBlock=some w.heap.size)→wpList P ops Q rest (a.put o.dst (.slice A' (n+m) c')) w'):
  wpList P ops Q (o::rest) a w:=by
 refine wpList_plain hgd fun K hK=> ?_
 obtain⟨A',c',w',hr,h2,h3,h4⟩:=kD (P:=P) base t o.type e i z k bytes ht hi hz hsize hby hzs hk v n xs hown A m c news hr h1 h63 hbytes hbase
 unfold Oper.wp execOp
 simp only[ho,resolve,invoke,builtin,Sem.run_bind,Sem.run_pure,Result.andThen_ok,List.map_toArray,List.map_cons,List.map_nil,hs,hx,hr]
 exact hK _ _ (h A' c' w' h2 h3 h4)
theorem aA {P:Program} {S:Nat→Prop} {ops:Array Oper} {o:Oper} {a:Act} {w:World} {K:Act→World→Prop} {Q:Exit→Act→World→Prop} {E:Prop} (hgd:o.guard=none) (s x:Operand) (t:TypeId)
  (ho:o.op= .call {callee:= .builtin .append,args:= #[s,x],argTypes:= #[t,t]})
  (base:Nat) (e:TypeId) (i:TypeInfo) (z:Value) (k bytes:Nat) (ht:P.underlying t=some (.slice e)) (hi:P.info? e=some i) (hz:i.zero=some z)
  (hsize:i.size=k) (hby:i.bytes=bytes) (hzs:z.cells.size=k) (hk:0<k) (v:Value) (n:Nat) (xs:List Value) (hs:a.eval s=v) (hown:w.ownsRow base e k v n xs)
  (A:Option Addr) (m c:Nat) (news:List Value) (hx:a.eval x= .slice A m c) (hr:ak S w A (m*k) news) (h1:∀u∈news,u.oneCell'=true) (h63:n+m≤maxLen) (hbytes:(n+m)*bytes≤140737488355328) (hbase:base≤w.heap.size)
  (h:∀A' c' w',w'.ownsRow base e k (.slice A' (n+m) c') (n+m) (xs++news)→w.grownBy w' v.ownBlock→((Value.slice A' (n+m) c').ownBlock=v.ownBlock∨(Value.slice A' (n+m) c').ownBlock=some w.heap.size)→K (a.put o.dst (.slice A' (n+m) c')) w'):
  if Region.wanted o (yielded ops a.tmps)=true then Oper.wp P o a w K Q else E:=by
 have hw:Region.wanted o (yielded ops a.tmps)=true:=by simp[Region.wanted,hgd]
 rw[if_pos hw]
 obtain⟨A',c',w',hr,h2,h3,h4⟩:=kD (P:=P) base t o.type e i z k bytes ht hi hz hsize hby hzs hk v n xs hown A m c news hr h1 h63 hbytes hbase
 unfold Oper.wp execOp
 simp only[ho,resolve,invoke,builtin,Sem.run_bind,Sem.run_pure,Result.andThen_ok,List.map_toArray,List.map_cons,List.map_nil,hs,hx,hr]
 exact h A' c' w' h2 h3 h4
theorem bS {P:Program} {S:Nat→Prop} {w:World} {ops:Array Oper} {rest:List Oper} {o:Oper} {a:Act} {Q:Exit→Act→World→Prop} (hgd:o.guard=none) (s x:Operand) (t:TypeId)
  (ho:o.op= .call {callee:= .builtin .append,args:= #[s,x],argTypes:= #[t,t]})
  (base:Nat) (e:TypeId) (i:TypeInfo) (z:Value) (k bytes:Nat) (ht:P.underlying t=some (.slice e)) (hi:P.info? e=some i) (hz:i.zero=some z)
  (hsize:i.size=k) (hby:i.bytes=bytes) (hzs:z.cells.size=k) (hk:0<k) (v:Value) (n:Nat) (xs:List Value) (hs:a.eval s=v) (hown:w.ownsRow base e k v n xs)
  (A:Option Addr) (m c:Nat) (news:List Value) (hx:a.eval x= .slice A m c) (hr:ak S w A (m*k) news) (h1:∀u∈news,u.oneCell'=true) (h63:n+m≤maxLen) (hbytes:(n+m)*bytes≤140737488355328) (hbase:base≤w.heap.size)
  (h:∀A' c' w',w'.ownsRow base e k (.slice A' (n+m) c') (n+m) (xs++news)→Below base w w'→wpList P ops Q rest (a.put o.dst (.slice A' (n+m) c')) w'):
  wpList P ops Q (o::rest) a w:=by
 refine wpList_plain hgd fun K hK=> ?_
 obtain⟨A',c',w',hr,h2,h3,h4⟩:=kD (P:=P) base t o.type e i z k bytes ht hi hz hsize hby hzs hk v n xs hown A m c news hr h1 h63 hbytes hbase
 unfold Oper.wp execOp
 simp only[ho,resolve,invoke,builtin,Sem.run_bind,Sem.run_pure,Result.andThen_ok,List.map_toArray,List.map_cons,List.map_nil,hs,hx,hr]
 exact hK _ _ (h A' c' w' h2 ⟨h3.os,h3.tape,h3.output,h3.size,fun b hb=>h3.block b (by omega) (fun e=>by have:=bC hown b e.symm;omega)⟩)
structure dQ where
 id:Int
 hash:List UInt8
 t:aI
structure iC where
 l:List dQ
 next:Int
 last:List UInt8
def gP:iC:=⟨[],1,[]⟩
def oI (o:Mark) (w:World) (vs:List Value) (x:dQ):Prop:=
 ∃a c q,vs=[.int .i64 x.id, .slice a x.hash.length c,ptr q]∧x.hash.length≤c∧ak (fun b=>o b=0∧b<w.heap.size) w a x.hash.length (x.hash.map bv)∧eU o 0 w q x.t∧dR x.t
def bX (o:Mark) (w:World):List Value→List dQ→Prop
 |vs,[]=>vs=[]
 |vs,x::r=>∃v1 v2,vs=v1++v2∧oI o w v1 x∧bX o w v2 r
structure dX (o:Mark) (i:Nat) (w:World) (s:Nat) (S:iC):Prop where
 at_:∃v la lc vals,w.heap[s]? =some (.cells #[v, .int .i64 S.next, .slice la S.last.length lc] 150 (0,0))∧o s=i∧s<w.heap.size∧
  w.ownsRow 0 152 3 v S.l.length vals∧(∀b,v.ownBlock=some b→o b=i∧b≠s∧b<w.heap.size)∧bX o w vals S.l∧
  S.last.length≤lc∧ak (fun b=>o b=0∧b<w.heap.size) w la S.last.length (S.last.map bv)
theorem oI.step {o o':Mark} {I:Nat→Prop} {w w':World} {vs:List Value} {x:dQ} (h:oI o w vs x) (hi:¬I 0) (hs:Step o I w o' w'):oI o' w' vs x:=by
 obtain⟨a,c,q,h1,h2,h3,h4,h5⟩:=h
 exact⟨a,c,q,h1,h2,h3.move hs.keep.size fun b hb hbw=>⟨⟨(hs.old b hb.2).trans hb.1,Nat.lt_of_lt_of_le hb.2 hs.keep.size⟩,hs.block hb.2 (by rw[hb.1];exact hi)⟩,h4.step hi hi hs,h5⟩
theorem bX.step {o o':Mark} {I:Nat→Prop} {w w':World} (hi:¬I 0) (hs:Step o I w o' w'):∀{vs:List Value} {l:List dQ},bX o w vs l→bX o' w' vs l
 |_,[],h=>h
 |_,x::r,⟨v1,v2,h1,h2,h3⟩=>⟨v1,v2,h1,h2.step hi hs,bX.step hi hs h3⟩
theorem oI.grow {o:Mark} {w w':World} {vs:List Value} {x:dQ} (h:oI o w vs x) (hb:Below w.heap.size w w'):oI o w' vs x:=by
 obtain⟨a,c,q,h1,h2,h3,h4,h5⟩:=h
 exact⟨a,c,q,h1,h2,h3.move hb.size fun b hb' hbw=>⟨⟨hb'.1,Nat.lt_of_lt_of_le hb'.2 hb.size⟩,hb.block b hbw⟩,h4.grow hb,h5⟩
theorem bX.grow {o:Mark} {w w':World} (hb:Below w.heap.size w w'):∀{vs:List Value} {l:List dQ},bX o w vs l→bX o w' vs l
 |_,[],h=>h
 |_,x::r,⟨v1,v2,h1,h2,h3⟩=>⟨v1,v2,h1,h2.grow hb,bX.grow hb h3⟩
theorem oI.len {o:Mark} {w:World} {vs:List Value} {x:dQ} (h:oI o w vs x):vs.length=3:=by
 obtain⟨a,c,q,h1,_⟩:=h
 rw[h1];rfl
theorem bX.len {o:Mark} {w:World}:∀{vs:List Value} {l:List dQ},bX o w vs l→vs.length=l.length*3
 |_,[],h=>by have h1:_=[]:=h;rw[h1];rfl
 |_,x::r,⟨v1,v2,h1,h2,h3⟩=>by
  rw[h1,List.length_append,h2.len,h3.len,List.length_cons]
  omega
theorem bX.append {o:Mark} {w:World}:∀{vs us:List Value} {l m:List dQ},bX o w vs l→bX o w us m→bX o w (vs++us) (l++m)
 |_,_,[],_,h,k=>by have h1:_=[]:=h;rw[h1];exact k
 |_,_,x::r,_,⟨v1,v2,h1,h2,h3⟩,k=>⟨v1,v2++_,by rw[h1,List.append_assoc],h2,h3.append k⟩
theorem bX.at_ {o:Mark} {w:World}:∀{vs:List Value} {l:List dQ} {k:Nat} {x:dQ},bX o w vs l→l[k]? =some x→∃a c q,vs[k*3]? =some (.int .i64 x.id)∧vs[k*3+1]? =some (.slice a x.hash.length c)∧vs[k*3+2]? =some (ptr q)∧x.hash.length≤c∧ak (fun b=>o b=0∧b<w.heap.size) w a x.hash.length (x.hash.map bv)∧eU o 0 w q x.t∧dR x.t
 |_,[],k,x,_,hx=>by simp at hx
 |_,y::r,0,x,⟨v1,v2,h1,h2,h3⟩,hx=>by
  have hyx:y=x:=Option.some.inj hx
  subst hyx
  obtain⟨a,c,q,e1,e2,e3,e4,e5⟩:=h2
  subst e1 h1
  exact⟨a,c,q,rfl,rfl,rfl,e2,e3,e4,e5⟩
 |_,y::r,k+1,x,⟨v1,v2,h1,h2,h3⟩,hx=>by
  obtain⟨a,c,q,e1,e2,e3,e4⟩:=bX.at_ h3 (k:=k) (x:=x) (by simpa using hx)
  have hl:=h2.len
  subst h1
  refine⟨a,c,q,?_,?_,?_,e4⟩
  ·rw[List.getElem?_append_right (by omega),←e1];congr 1;omega
  ·rw[List.getElem?_append_right (by omega),←e2];congr 1;omega
  ·rw[List.getElem?_append_right (by omega),←e3];congr 1;omega
theorem bX.take {o:Mark} {w:World}:∀{vs:List Value} {l:List dQ} (k:Nat),bX o w vs l→bX o w (vs.take (k*3)) (l.take k)
 |_,[],k,h=>by have h1:_=[]:=h;rw[h1];simp;exact rfl
 |_,y::r,0,_=>by simp;exact rfl
 |_,y::r,k+1,⟨v1,v2,h1,h2,h3⟩=>by
  subst h1
  have hl:=h2.len
  refine⟨v1,v2.take (k*3),?_,h2,h3.take k⟩
  rw[List.take_append,List.take_of_length_le (by omega)]
  congr 2
  omega
theorem bX.drop {o:Mark} {w:World}:∀{vs:List Value} {l:List dQ} (k:Nat),bX o w vs l→bX o w (vs.drop (k*3)) (l.drop k)
 |_,[],k,h=>by have h1:_=[]:=h;rw[h1];simp;exact rfl
 |_,y::r,0,h=>by simpa using h
 |_,y::r,k+1,⟨v1,v2,h1,h2,h3⟩=>by
  subst h1
  have hl:=h2.len
  have h4:=h3.drop k
  rw[List.drop_append,List.drop_eq_nil_of_le (by omega)]
  have e:(k+1)*3-v1.length=k*3:=by omega
  rw[e]
  exact h4
theorem dX.step {o o':Mark} {I:Nat→Prop} {j:Nat} {w w':World} {s:Nat} {S:iC} (h:dX o j w s S) (hi:¬I 0) (hj:¬I j) (hs:Step o I w o' w'):dX o' j w' s S:=by
 obtain⟨v,la,lc,vals,h1,h2,h3,h4,h5,h6,h7,h8⟩:=h.at_
 refine⟨v,la,lc,vals,(hs.block h3 (by rw[h2];exact hj)).trans h1,(hs.old s h3).trans h2,Nat.lt_of_lt_of_le h3 hs.keep.size,?_,fun b hb=> ?_,h6.step hi hs,h7,h8.move hs.keep.size fun b hb hbw=>⟨⟨(hs.old b hb.2).trans hb.1,Nat.lt_of_lt_of_le hb.2 hs.keep.size⟩,hs.block hb.2 (by rw[hb.1];exact hi)⟩⟩
 ·obtain⟨k1,k2⟩:=h4
  refine⟨k1,?_⟩
  rcases k2 with k2|⟨g,cap,cur,e1,e2,e3,e4⟩
  ·exact .inl k2
  ·have h9:=h5 g (by rw[e1];rfl)
   exact .inr ⟨g,cap,cur,e1,e2,(hs.block h9.2.2 (by rw[h9.1];exact hj)).trans e3,e4⟩
 ·obtain⟨k1,k2,k3⟩:=h5 b hb
  exact⟨(hs.old b k3).trans k1,k2,Nat.lt_of_lt_of_le k3 hs.keep.size⟩
end Go.Proofs.YtohpcppeajijnaaGreat
