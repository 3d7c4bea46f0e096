/- DERIVED: THE SHELF's CONTRACTS AT THIS DUMP, IN PLAIN WORDS (tools/lay-plain.mjs out of 'YtmabllemjkcobaaGreatDoorLaypKeysLayS.lean', which tools/lay-shelf.mjs wrote): THE SAME DECLARATIONS UNDER THE SAME NAMES: 'import', 'namespace', 'open', 'def', 'theorem' AND NOTHING ELSE: no command of the shelf's: FOR A HAND-IN. Each laying: the table of numbers ('.._ren') and one theorem, a field a fact of the dump's own or the kernel's comparison; each contract: ONE APPLICATION. slices.Sorted(maps.Keys(m)) of a directory's names, rising. tree: List. slices.Sorted(maps.Keys(x.names)), of a directory or a file. What Save of package tree writes, plainly. Rows whose elements have more than one cell: append. Snapshots, as plain data; in memory. -/
import Derived.Test.YtmabllemjkcobaaGreatDoorProg
import Derived.Shelf.SlIter.Nil
import Derived.Shelf.SlIter.Sorted
import Derived.Shelf.SortM.Plain
import Derived.Shelf.SortM.SortNone
import Derived.Ground.GgzProg
import Derived.Ground.SlgmProg
import Derived.Test.YtmabllemjkcobaaGreatDoorM02
import Derived.Test.YtmabllemjkcobaaGreatDoorM18
import Derived.Test.YtmabllemjkcobaaGreatDoorM15
import Derived.Test.YtmabllemjkcobaaGreatDoorM14
import Derived.Test.YtmabllemjkcobaaGreatDoorM11
namespace Go.Proofs
open Go.Shelf
def Tryz.uT:Go.Shelf.Ren:=⟨fun|7=>122|10=>191|n=>n,fun|23=>92|26=>9|3=>3|28=>164|0=>0|27=>163|33=>186|4=>4|n=>n,fun|n=>n⟩
theorem Tryz.L9:Go.Proofs.SlLaysZ.n7 Tryz.prog Tryz.uT:={
 mixed:=by kernel_rfl
 f7:=⟨Tryz.f122.name,by decide,Tryz.func122.trans (congrArg some (by kernel_rfl))⟩
 f10:=⟨Tryz.f191.name,by decide,Tryz.func191.trans (congrArg some (by kernel_rfl))⟩
 t0:=Tryz.underlying0
 a0:=Tryz.isAgg0
 z0:=Tryz.sizeOf0
 v0:=Tryz.zeroValue0
 t4:=Tryz.underlying4
 a4:=Tryz.isAgg4
 z4:=Tryz.sizeOf4
 v4:=Tryz.zeroValue4
 t23:=Tryz.underlying92
 a23:=Tryz.isAgg92
 z23:=Tryz.sizeOf92
 v23:=Tryz.zeroValue92
 t26:=Tryz.underlying9
 a26:=Tryz.isAgg9
 z26:=Tryz.sizeOf9
 v26:=Tryz.zeroValue9
 t27:=Tryz.underlying163
 a27:=Tryz.isAgg163
 z27:=Tryz.sizeOf163
 v27:=Tryz.zeroValue163
 t28:=Tryz.underlying164
 a28:=Tryz.isAgg164
 z28:=Tryz.sizeOf164
 v28:=Tryz.zeroValue164
 t33:=Tryz.underlying186
 a33:=Tryz.isAgg186
 z33:=Tryz.sizeOf186
 v33:=Tryz.zeroValue186}
def Tryz.vQ:Go.Shelf.Ren:=⟨fun|6=>121|8=>189|9=>190|11=>214|13=>216|12=>215|23=>237|24=>238|14=>228|15=>229|16=>230|17=>231|18=>232|19=>233|20=>234|21=>235|22=>236|25=>254|26=>255|27=>256|28=>257|29=>258|30=>259|31=>269|n=>n,fun|26=>9|28=>164|24=>32|0=>0|3=>3|37=>202|48=>241|50=>25|4=>4|40=>268|39=>267|45=>91|5=>5|9=>9|51=>289|55=>292|57=>296|58=>124|33=>186|n=>n,fun|n=>n⟩
theorem Tryz.He:Go.Proofs.SlLaysZ.n6 Tryz.prog Tryz.vQ:={
 mixed:=by kernel_rfl
 f6:=⟨Tryz.f121.name,by decide,Tryz.func121.trans (congrArg some (by kernel_rfl))⟩
 f8:=⟨Tryz.f189.name,by decide,Tryz.func189.trans (congrArg some (by kernel_rfl))⟩
 f11:=⟨Tryz.f214.name,by decide,Tryz.func214.trans (congrArg some (by kernel_rfl))⟩
 t0:=Tryz.underlying0
 a0:=Tryz.isAgg0
 z0:=Tryz.sizeOf0
 v0:=Tryz.zeroValue0
 t24:=Tryz.underlying32
 a24:=Tryz.isAgg32
 z24:=Tryz.sizeOf32
 v24:=Tryz.zeroValue32
 t26:=Tryz.underlying9
 a26:=Tryz.isAgg9
 z26:=Tryz.sizeOf9
 v26:=Tryz.zeroValue9
 t28:=Tryz.underlying164
 a28:=Tryz.isAgg164
 z28:=Tryz.sizeOf164
 v28:=Tryz.zeroValue164
 i26:=by kernel_rfl}
def Tryz.Jp:Go.Shelf.Ren:=⟨fun|6=>190|8=>216|9=>215|19=>237|20=>238|21=>228|22=>229|23=>230|24=>231|25=>232|26=>233|27=>234|28=>235|29=>236|36=>254|31=>255|32=>256|37=>257|38=>258|39=>259|41=>269|n=>n,fun|27=>32|29=>9|3=>3|32=>202|26=>32|0=>0|44=>241|46=>25|4=>4|36=>268|35=>267|41=>91|5=>5|9=>9|53=>289|57=>292|63=>296|64=>124|n=>n,fun|n=>n⟩
theorem Tryz.RS:Go.Proofs.SlLaysM.n6 Tryz.prog Tryz.Jp:={
 mixed:=by kernel_rfl
 f6:=⟨Tryz.f190.name,by decide,Tryz.func190.trans (congrArg some (by kernel_rfl))⟩
 f8:=Tryz.func216.trans (congrArg some (by kernel_rfl))
 f9:=⟨Tryz.f215.name,by decide,Tryz.func215.trans (congrArg some (by kernel_rfl))⟩
 f19:=Tryz.func237.trans (congrArg some (by kernel_rfl))
 f20:=Tryz.func238.trans (congrArg some (by kernel_rfl))
 f21:=⟨Tryz.f228.name,by decide,Tryz.func228.trans (congrArg some (by kernel_rfl))⟩
 f22:=⟨Tryz.f229.name,by decide,Tryz.func229.trans (congrArg some (by kernel_rfl))⟩
 f23:=⟨Tryz.f230.name,by decide,Tryz.func230.trans (congrArg some (by kernel_rfl))⟩
 f24:=⟨Tryz.f231.name,by decide,Tryz.func231.trans (congrArg some (by kernel_rfl))⟩
 f25:=⟨Tryz.f232.name,by decide,Tryz.func232.trans (congrArg some (by kernel_rfl))⟩
 f26:=⟨Tryz.f233.name,by decide,Tryz.func233.trans (congrArg some (by kernel_rfl))⟩
 f27:=⟨Tryz.f234.name,by decide,Tryz.func234.trans (congrArg some (by kernel_rfl))⟩
 f28:=⟨Tryz.f235.name,by decide,Tryz.func235.trans (congrArg some (by kernel_rfl))⟩
 f29:=⟨Tryz.f236.name,by decide,Tryz.func236.trans (congrArg some (by kernel_rfl))⟩
 f31:=Tryz.func255.trans (congrArg some (by kernel_rfl))
 f32:=Tryz.func256.trans (congrArg some (by kernel_rfl))
 f36:=⟨Tryz.f254.name,by decide,Tryz.func254.trans (congrArg some (by kernel_rfl))⟩
 f37:=⟨Tryz.f257.name,by decide,Tryz.func257.trans (congrArg some (by kernel_rfl))⟩
 f38:=⟨Tryz.f258.name,by decide,Tryz.func258.trans (congrArg some (by kernel_rfl))⟩
 f39:=⟨Tryz.f259.name,by decide,Tryz.func259.trans (congrArg some (by kernel_rfl))⟩
 f41:=⟨Tryz.f269.name,by decide,Tryz.func269.trans (congrArg some (by kernel_rfl))⟩
 t0:=Tryz.underlying0
 a0:=Tryz.isAgg0
 z0:=Tryz.sizeOf0
 v0:=Tryz.zeroValue0
 t3:=Tryz.underlying3
 a3:=Tryz.isAgg3
 z3:=Tryz.sizeOf3
 v3:=Tryz.zeroValue3
 t4:=Tryz.underlying4
 a4:=Tryz.isAgg4
 z4:=Tryz.sizeOf4
 v4:=Tryz.zeroValue4
 t5:=Tryz.underlying5
 a5:=Tryz.isAgg5
 z5:=Tryz.sizeOf5
 v5:=Tryz.zeroValue5
 t9:=Tryz.underlying9
 a9:=Tryz.isAgg9
 z9:=Tryz.sizeOf9
 v9:=Tryz.zeroValue9
 t26:=Tryz.underlying32
 a26:=Tryz.isAgg32
 z26:=Tryz.sizeOf32
 v26:=Tryz.zeroValue32
 t27:=Tryz.underlying32
 a27:=Tryz.isAgg32
 z27:=Tryz.sizeOf32
 v27:=Tryz.zeroValue32
 t29:=Tryz.underlying9
 a29:=Tryz.isAgg9
 z29:=Tryz.sizeOf9
 v29:=Tryz.zeroValue9
 t32:=Tryz.underlying202
 a32:=Tryz.isAgg202
 z32:=Tryz.sizeOf202
 v32:=Tryz.zeroValue202
 t35:=Tryz.underlying267
 a35:=Tryz.isAgg267
 z35:=Tryz.sizeOf267
 v35:=Tryz.zeroValue267
 t36:=Tryz.underlying268
 a36:=Tryz.isAgg268
 z36:=Tryz.sizeOf268
 v36:=Tryz.zeroValue268
 t41:=Tryz.underlying91
 a41:=Tryz.isAgg91
 z41:=Tryz.sizeOf91
 v41:=Tryz.zeroValue91
 t44:=Tryz.underlying241
 a44:=Tryz.isAgg241
 z44:=Tryz.sizeOf241
 v44:=Tryz.zeroValue241
 t46:=Tryz.underlying25
 a46:=Tryz.isAgg25
 z46:=Tryz.sizeOf25
 v46:=Tryz.zeroValue25
 t53:=Tryz.underlying289
 a53:=Tryz.isAgg289
 z53:=Tryz.sizeOf289
 v53:=Tryz.zeroValue289
 t57:=Tryz.underlying292
 a57:=Tryz.isAgg292
 z57:=Tryz.sizeOf292
 v57:=Tryz.zeroValue292
 t63:=Tryz.underlying296
 a63:=Tryz.isAgg296
 z63:=Tryz.sizeOf296
 v63:=Tryz.zeroValue296
 t64:=Tryz.underlying124
 a64:=Tryz.isAgg124
 z64:=Tryz.sizeOf124
 v64:=Tryz.zeroValue124}
open Go.RowKit Go.Maps Go.Sort Go.Shelf
theorem Tryz.L_ (m:Nat):AnyZ.SortsIn Tryz.prog Tryz.vQ Fence.wide m:=
 ⟨fun blk off cap ss W hH hblk hsz=>callsIn_wide.2 (AnyM.slices_Sort_string Tryz.RS blk off cap ss W hH hblk hsz),
  fun p cap W=>callsIn_wide.2 (AnyM.slices_Sort_string_none Tryz.RS p cap W)⟩
theorem Tryz.Bj (mb:Option Nat) (W:World):Calls Tryz.prog 122 #[.map mb] W fun e w'=>e= .returned (.func (.func 191) #[] #[.pointer (some ⟨W.heap.size,0,none⟩)])∧w'=W.alloc (.cells #[.map mb] 92):=
 callsIn_wide.1 (AnyZ.keys_in Tryz.L9 Fence.wide 5 trivial rfl mb W)
set_option maxHeartbeats 1000000 in
theorem Tryz.Ac {H:Type} (b nn:Nat) (D0:DataW H) (R:Value→Option (DataW H×List MemPlace)) (w:World) (hown:w.ownsMap Tryz.prog 9 R b nn D0) (hmax:Maps.size D0≤maxLen) (hbytes:Maps.size D0*16≤140737488355328):
  Calls Tryz.prog 121 #[.func (.func 191) #[] #[.pointer (some ⟨w.heap.size,0,none⟩)]] (w.alloc (.cells #[.map (some b)] 92)) fun e w'=>∃(v:Value) (ss:List (List UInt8)),e= .returned v∧ss.Perm (strKeys D0)∧
   w'.ownsRow (w.alloc (.cells #[.map (some b)] 92)).heap.size 9 1 v ss.length ((ss.mergeSort (fun x y=>decide (x≤y))).map encStr)∧(v= .slice none 0 0↔ss=[])∧Below (w.alloc (.cells #[.map (some b)] 92)).heap.size (w.alloc (.cells #[.map (some b)] 92)) w':=by
 have hbl:=hown.lt
 have hseq:SeqGives Fence.wide 2 Tryz.prog 191 #[.pointer (some ⟨w.heap.size,0,none⟩)] encStr (fun ss=>ss.Perm (strKeys D0)) (Maps.size D0) (w.alloc (.cells #[.map (some b)] 92)):=
  AnyZ.keys_gives (ρ:=Tryz.uT) {Tryz.L9 with} Fence.wide _ trivial rfl (by omega) w.heap.size b nn D0 _ (by simp) (by simp) (by
   obtain⟨es,clock,hb,Ft,hs,hD⟩:=hown
   exact⟨es,clock,(Below.heap_alloc _ _ b hbl).trans hb,Ft,hs,hD⟩)
 exact callsIn_wide.1 (AnyZ.sorted_in Tryz.He Fence.wide 5 trivial trivial trivial trivial rfl (by omega) (Tryz.L_ _) (enters_of Tryz.func190 (by kernel_rfl) rfl) 191 #[.pointer (some ⟨w.heap.size,0,none⟩)] trivial (enters_of Tryz.func191 (by kernel_rfl) rfl) _ _ hmax hbytes _ hseq)
end Go.Proofs
namespace Go.Proofs.YtmabllemjkcobaaGreatDoor
open Go.ChangeShapes Go.WideShapes Go.ChangeAt Go.RowKit
set_option linter.unusedVariables false
set_option linter.unusedSimpArgs false
theorem vR (l:List (Nm×Value)):strKeys (sJ bV l)=l.map (·.1):=by
 unfold strKeys sJ
 simp only[List.map_map]
 rfl
theorem RU:∀{a b:List UInt8},bytesBefore a b=true→a<b
 |[],[],h=>by cases h
 |[],_::_,_=>List.nil_lt_cons _ _
 |_::_,[],h=>by cases h
 |x::r,y::s,h=>by
  rw[List.cons_lt_cons_iff]
  simp only[bytesBefore,Bool.or_eq_true,Bool.and_eq_true,decide_eq_true_eq,beq_iff_eq]at h
  rcases h with h|⟨h1,h2⟩
  ·exact .inl h
  ·exact .inr ⟨h1,RU h2⟩
theorem tL {α:Type} {l:List (Nm×α)} (hl:aN bytesBefore l) {ss:List Nm} (hp:ss.Perm (l.map (·.1))):ss.mergeSort (fun x y=>decide (x≤y))=l.map (·.1):=by
 have h1:(ss.mergeSort (fun x y=>decide (x≤y))).Pairwise (fun a b=>decide (a≤b)=true):=List.pairwise_mergeSort (fun a b c h1 h2=>by simp only[decide_eq_true_eq]at*;exact List.le_trans h1 h2) (fun a b=>by simp only[Bool.or_eq_true,decide_eq_true_eq];exact List.le_total a b) ss
 have h2:(l.map (·.1)).Pairwise (fun a b=>decide (a≤b)=true):=by
  rw[List.pairwise_map]
  exact hl.imp fun{a b} h=>by simp only[decide_eq_true_eq];exact List.le_of_lt (RU h)
 exact((List.mergeSort_perm ss _).trans hp).eq_of_pairwise (fun a b _ _ h1 h2=>by simp only[decide_eq_true_eq]at h1 h2;exact List.le_antisymm h1 h2) h1 h2
def ql (T:aK) (id:Int):List Nm×Int:=match ah id T with
 |none=>([],20)
 |some x=>if x.kind=2 then(x.names.map (·.1),0)else([],23)
def Hf (w:World) (q:List Nm×Int) (e:Ending) (w':World):Prop:=
 ∃a c,e= .returned (.tuple #[.slice a q.1.length c, .int .i64 q.2])∧q.1.length≤c∧aO (fun x=>w.heap.size≤x∧x<w'.heap.size) w' a q.1.length (q.1.map strOf)∧Below w.heap.size w w'
section
variable {g:Nat→Own} {D:Nat→Prop} {p mb:Nat} {ib nb:Int→Nat} {T:aK}
set_option maxRecDepth 100000 in
set_option maxHeartbeats 2000000 in
theorem P_ (id:Int) (w:World) (h:aC g D w p mb ib nb T) (hT:dI T) (hid:(Lit.int .i64 id).wf=true):Calls Tryz.prog 110 #[ptr p, .int .i64 id] w (Hf w (ql T id)):=by
 obtain⟨hc0,hpw,hmw⟩:=h.cell
 have hok:aP.ok id:=hid
 have fU:=Lib.hid h.map
 have HT:=Lib.hid hT
 cases hx:ah id T with
 |none=>
  have HG:Hid (ah id (T.map fun q=>(q.1,ptr (ib q.1)))=none):=by rw[bZ,hx];rfl
  have HL:Hid (ql T id=([],20)):=by unfold ql;rw[hx];exact rfl
  clear hx h hT hid
  go_enter Tryz.func110,Tryz.ntmps110
  go_wp2_with (first|(at_lookup;refine aB aP rfl _ _ 95 88 rfl Tryz.underlying95 (Tryz.aQ _) rfl fU.out id rfl hok ?_;rw[HG.out]))
  go_ret2
  rw[HL.out]
  exact⟨none,0,rfl,Nat.le_refl _,⟨aj.nil _ _ _,by simp⟩,Below.refl _ _⟩
 |some x=>
  have HG:Hid (ah id (T.map fun q=>(q.1,ptr (ib q.1)))=some (ptr (ib id))):=by rw[bZ,hx];rfl
  obtain⟨c0,c1,c2,c3,c4,c5,c7,hiw⟩:=(h.item id x hx).cell
  have O1:=Lib.hid (hT.each id x hx)
  have sW:=hT.few hx
  by_cases hk:x.kind=2
  ·have HL:Hid (ql T id=(x.names.map (·.1),0)):=by unfold ql;rw[hx];simp only[if_pos hk];first|exact rfl|exact trivial
   have e2:dH x (nb id)= .map (some (nb id)):=if_pos hk
   rw[e2]at c7
   rw[hk]at c1
   have hM:=(h.item id x hx).names hk
   have hsz:(bC x).length=x.names.length:=List.length_map _
   have hkk:=Tryz.Bj (some (nb id)) w
   have hs:=Tryz.Ac (nb id) (bC x).length (sJ bV (bC x)) lK w hM (by rw[kr,hsz];unfold maxLen;omega) (by rw[kr,hsz];omega)
   clear hx h hT hid hk e2 hM hsz
   go_enter Tryz.func110,Tryz.ntmps110
   go_wp2_with (first|(at_lookup;refine aB aP rfl _ _ 95 88 rfl Tryz.underlying95 (Tryz.aQ _) rfl fU.out id rfl hok ?_;rw[HG.out])|(go_at_call 122;refine hkk.mono ?_;rintro e w' ⟨rfl,rfl⟩)|(go_at_call 121;refine hs.mono ?_;rintro e w' ⟨v,ss,rfl,hp,hown,hnil,hB⟩))
   go_ret2
   rw[HL.out]
   rw[vR]at hp
   have hml:(bC x).map (·.1)=x.names.map (·.1):=by unfold bC;rw[List.map_map];rfl
   rw[hml]at hp
   rw[tL O1.out.sorted hp]at hown
   have hlen:ss.length=(x.names.map (·.1)).length:=hp.length_eq
   have hB2:Below w.heap.size w w':=((Below.refl _ _).alloc (Nat.le_refl _) _).trans (hB.mono (by simp))
   have hs1:=hB.size
   rw[World.size_alloc]at hs1
   have hgood:∀s∈(x.names.map (·.1)).map strOf,s.size≤maxLen:=by
    intro s hs
    obtain⟨l,hl,rfl⟩:=List.mem_map.1 hs
    obtain⟨e,he,rfl⟩:=List.mem_map.1 hl
    have:=qH _ (O1.out.good e he)
    rw[dJ];unfold maxLen;omega
   have hll:(x.names.map (·.1)).length≤4096:=by rw[List.length_map];exact sW
   obtain⟨h1,h2⟩:=hown
   simp only[List.length_map]at h1
   generalize x.names.map (·.1)=L at*
   rcases h2 with⟨rfl,h0⟩|⟨g,cap,cur,rfl,hg,hcur,hc1,hc2,hcs,htk⟩
   ·have:L=[]:=List.eq_nil_of_length_eq_zero (by omega)
    subst this
    exact⟨none,0,rfl,Nat.le_refl _,⟨aj.nil _ _ _,by simp⟩,hB2⟩
   ·have hgw:=(Array.getElem?_eq_some_iff.1 hcur).1
    rw[World.size_alloc]at hg
    refine⟨some ⟨g,0,none⟩,cap,by rw[←hlen];rfl,by simp only;omega,⟨⟨by simp,by simp only;unfold maxLen;omega,fun h0=>⟨g,0,rfl,⟨by omega,hgw⟩,hgw,fun i hi=> ?_⟩⟩,hgood⟩,hB2⟩
    simp only[World.cell?,hcur,Nat.zero_add]
    rw[List.map_map,show L.map (Value.string∘strOf)=L.map Go.Proofs.encStr from rfl]
    rw[←htk,List.getElem?_take,if_pos (show i<ss.length*1 by rw[hlen];simp only at hi;omega)]
    simp
  ·have HL:Hid (ql T id=([],23)):=by unfold ql;rw[hx];simp only[if_neg hk];first|exact rfl|exact trivial
   have hkk:(x.kind==2)=false:=by simpa using hk
   have hkn:(x.kind !=2)=true:=by simpa using hk
   clear hx h hT hid hk c7
   go_enter Tryz.func110,Tryz.ntmps110
   go_wp2_with (first|(at_lookup;refine aB aP rfl _ _ 95 88 rfl Tryz.underlying95 (Tryz.aQ _) rfl fU.out id rfl hok ?_;rw[HG.out]))
   go_ret2
   rw[HL.out]
   exact⟨none,0,rfl,Nat.le_refl _,⟨aj.nil _ _ _,by simp⟩,Below.refl _ _⟩
end
end Go.Proofs.YtmabllemjkcobaaGreatDoor
namespace Go.Proofs
open Go.RowKit Go.Maps Go.Sort Go.Shelf
set_option maxHeartbeats 1000000 in
theorem Tryz.Fh (w:World):Calls Tryz.prog 121 #[.func (.func 191) #[] #[.pointer (some ⟨w.heap.size,0,none⟩)]] (w.alloc (.cells #[.map none] 92)) fun e w'=>e= .returned (.slice none 0 0)∧Below (w.alloc (.cells #[.map none] 92)).heap.size (w.alloc (.cells #[.map none] 92)) w':=by
 have hseq:SeqGives Fence.wide 2 Tryz.prog 191 #[.pointer (some ⟨w.heap.size,0,none⟩)] encStr (fun ss:List (List UInt8)=>ss=[]) 0 (w.alloc (.cells #[.map none] 92)):=
  AnyZ.keys_gives_nil (ρ:=Tryz.uT) {Tryz.L9 with} Fence.wide _ trivial rfl w.heap.size _ (by simp) (by simp)
 have h:=callsIn_wide.1 (AnyZ.sorted_in Tryz.He Fence.wide 5 trivial trivial trivial trivial rfl (by omega) (Tryz.L_ _) (enters_of Tryz.func190 (by kernel_rfl) rfl) 191 #[.pointer (some ⟨w.heap.size,0,none⟩)] trivial (enters_of Tryz.func191 (by kernel_rfl) rfl) _ 0 (Nat.zero_le _) (by omega) _ hseq)
 refine h.mono ?_
 rintro e w' ⟨v,ss,rfl,rfl,hrow,hnil,hb⟩
 obtain rfl:v= .slice none 0 0:=hnil.2 rfl
 exact⟨rfl,hb⟩
end Go.Proofs
namespace Go.Proofs.YtmabllemjkcobaaGreatDoor
open Go.ChangeShapes Go.WideShapes Go.ChangeAt Go.RowKit
set_option linter.unusedVariables false
set_option linter.unusedSimpArgs false
def Qa (w:World) (L:List Nm) (e:Ending) (w':World):Prop:=
 ∃a c,e= .returned (.slice a L.length c)∧L.length≤c∧aO (fun x=>w.heap.size≤x∧x<w'.heap.size) w' a L.length (L.map strOf)∧Below w.heap.size w w'
section
variable {g:Nat→Own} {D:Nat→Prop} {p mb:Nat} {ib nb:Int→Nat} {T:aK}
set_option maxHeartbeats 1000000 in
theorem sorted_at (k:Int) (x:eB) (w:World) (h:aC g D w p mb ib nb T) (hT:dI T) (hx:ah k T=some x):
  Calls Tryz.prog 121 #[.func (.func 191) #[] #[.pointer (some ⟨w.heap.size,0,none⟩)]] (w.alloc (.cells #[dH x (nb k)] 92)) (Qa (w.alloc (.cells #[dH x (nb k)] 92)) (x.names.map (·.1))):=by
 have O1:=hT.each k x hx
 have sW:=hT.few hx
 by_cases hk:x.kind=2
 ·have e2:dH x (nb k)= .map (some (nb k)):=if_pos hk
  rw[e2]
  have hM:=(h.item k x hx).names hk
  have hsz:(bC x).length=x.names.length:=List.length_map _
  refine(Tryz.Ac (nb k) (bC x).length (sJ bV (bC x)) lK w hM (by rw[kr,hsz];unfold maxLen;omega) (by rw[kr,hsz];omega)).mono ?_
  rintro e w' ⟨v,ss,rfl,hp,hown,hnil,hB⟩
  rw[vR]at hp
  have hml:(bC x).map (·.1)=x.names.map (·.1):=by unfold bC;rw[List.map_map];rfl
  rw[hml]at hp
  rw[tL O1.sorted hp]at hown
  have hlen:ss.length=(x.names.map (·.1)).length:=hp.length_eq
  have hgood:∀s∈(x.names.map (·.1)).map strOf,s.size≤maxLen:=by
   intro s hs
   obtain⟨l,hl,rfl⟩:=List.mem_map.1 hs
   obtain⟨e,he,rfl⟩:=List.mem_map.1 hl
   have:=qH _ (O1.good e he)
   rw[dJ];unfold maxLen;omega
  obtain⟨a,c,rfl,hc⟩:=bF hown
  obtain⟨_,hr⟩:=aj.qL hown
  rw[hlen]at hr hc
  have hr2:aj (fun x_1=>(w.alloc (.cells #[.map (some (nb k))] 92)).heap.size≤x_1∧x_1<w'.heap.size) w' a (x.names.map (·.1)).length (((x.names.map (·.1)).map strOf).map .string):=by
   rw[List.map_map]
   exact hr
  exact⟨a,c,by rw[hlen],hc,⟨hr2,hgood⟩,hB⟩
 ·have e2:dH x (nb k)= .map none:=if_neg hk
  have hnil:x.names=[]:=O1.file (O1.kind.resolve_right hk)
  rw[e2,hnil]
  refine(Tryz.Fh w).mono ?_
  rintro e w' ⟨rfl,hB⟩
  exact⟨none,0,rfl,Nat.le_refl _,⟨aj.nil _ _ _,by simp⟩,hB⟩
end
def nY (l:List UInt8):List UInt8:=fF l.length 2++l
def Ez (e:Nm×Int):List UInt8:=nY e.1++fF e.2 2
def kR (k:Int) (x:eB):List UInt8:=nY (qw k x)++nY x.b++fF x.names.length 2++x.names.flatMap Ez
def gD (T:aK):List UInt8:=fF T.length 2++T.flatMap fun q=>kR q.1 q.2
theorem nO {n:Nm} (h:dM n=true):n.length≤16:=by
 unfold dM at h
 simp only[Bool.and_eq_true,decide_eq_true_eq]at h
 exact h.1.1.2
theorem tN (l:List UInt8):(nY l).length=2+l.length:=by unfold nY;rw[List.length_append,bP]
theorem Bl:∀(l:List (Nm×Int)),(∀e∈l,e.1.length≤16)→(l.flatMap Ez).length≤20*l.length
 |[],_=>by simp
 |e::r,h=>by
  have h1:=h e (by simp)
  have h2:=Bl r fun y hy=>h y (by simp[hy])
  simp only[List.flatMap_cons,List.length_append,List.length_cons,Ez,tN,bP]
  omega
theorem Ma {k:Int} {x:eB} (h:IY x) (hf:x.names.length≤4096):(kR k x).length≤90000:=by
 have h1:=Bl x.names fun e he=>nO (h.good e he)
 have h2:=h.size
 unfold kR
 simp only[List.length_append,tN,bP,lU]
 omega
theorem oL {T:aK} (hT:dI T):∀(l:aK),(∀q∈l,q∈T)→(l.flatMap fun q=>kR q.1 q.2).length≤90000*l.length
 |[],_=>by simp
 |q::r,h=>by
  have hq:=aY dQ hT.sorted (h q (by simp))
  have h1:=Ma (k:=q.1) (hT.each _ _ hq) (hT.few hq)
  have h2:=oL hT r fun y hy=>h y (by simp[hy])
  simp only[List.flatMap_cons,List.length_append,List.length_cons]
  omega
theorem Dk {w:World} {base g:Nat} {e:TypeId} {k:Nat} (hg:w.heap[g]? =some (.cells #[] e)) (hb:base≤g):w.ownsRow base e k (.slice (some ⟨g,0,none⟩) 0 0) 0 []:=by
 refine⟨by simp, .inr ⟨g,0,#[],rfl,hb,hg,Nat.le_refl _,Nat.zero_le _,by simp,by simp⟩⟩
theorem aj.nP {w:World} {base:Nat} {e:TypeId} {k:Nat} {a:Option Addr} {m n c:Nat} {xs:List Value} (h:w.ownsRow base e k (.slice a m c) n xs) (hs:n*k≤maxLen):m=n∧n≤c∧aj (fun x=>base≤x∧x<w.heap.size) w a (n*k) xs:=by
 obtain⟨h1,h2⟩:=h
 rcases h2 with⟨h2,rfl⟩|⟨g,cap,cur,h2,hg,hcur,h3,h4,h5,h6⟩
 ·simp only[Value.slice.injEq]at h2
  obtain⟨rfl,rfl,rfl⟩:=h2
  have:xs=[]:=List.eq_nil_of_length_eq_zero (by omega)
  subst this
  rw[Nat.zero_mul]
  exact⟨rfl,Nat.le_refl _,aj.nil _ _ _⟩
 ·simp only[Value.slice.injEq]at h2
  obtain⟨rfl,rfl,rfl⟩:=h2
  have hgw:=(Array.getElem?_eq_some_iff.1 hcur).1
  refine⟨rfl,h3,h1,hs,fun h0=>⟨g,0,rfl,⟨hg,hgw⟩,hgw,fun i hi=> ?_⟩⟩
  simp only[World.cell?,hcur,Nat.zero_add]
  rw[←h6,List.getElem?_take,if_pos hi]
  simp
theorem l6 {P:Program} {S:Nat→Prop} {w:World} (base:Nat) (t ty e:TypeId) (i:TypeInfo) (z:Value) (k bytes:Nat) (ht:P.underlying t=some (.slice e)) (hi:P.info? e=some i) (hz:i.zero=some z)
  (hsize:i.size=k) (hby:i.bytes=bytes) (hzs:z.cells.size=k) (hk:0<k) (v:Value) (n:Nat) (xs:List Value) (hown:w.ownsRow base e k v n xs)
  (A:Option Addr) (m c:Nat) (news:List Value) (hr:aj S w A (m*k) news) (h1:∀u∈news,u.oneCell'=true) (h63:n+m≤maxLen) (hbytes:(n+m)*bytes≤140737488355328) (hbase:base≤w.heap.size):
  ∃A' c' w',(Builtin.append_ #[t,t] ty #[v, .slice A m c]).run P w= .ok (.slice A' (n+m) c') w'∧w'.ownsRow base e k (.slice A' (n+m) c') (n+m) (xs++news)∧w.grownBy w' v.ownBlock∧
   ((Value.slice A' (n+m) c').ownBlock=v.ownBlock∨(Value.slice A' (n+m) c').ownBlock=some w.heap.size):=by
 rcases A with _|ad
 ·have hm:m=0:=by
   rcases Nat.eq_zero_or_pos m with h0|h0
   ·exact h0
   ·obtain⟨_,_,h,_⟩:=hr.at_ (Nat.mul_pos h0 hk)
    cases h
  subst hm
  have hn:news=[]:=List.eq_nil_of_length_eq_zero (by rw[hr.length];omega)
  subst hn
  obtain⟨A',c',rfl,_⟩:=bF hown
  refine⟨A',c',w,?_,by simpa using hown,⟨rfl,rfl,rfl,Nat.le_refl _,fun _ _ _=>rfl⟩,Or.inl rfl⟩
  rcases hown.2 with⟨h2,rfl⟩|⟨g,cap,cur,h2,_,_,hnc,_⟩
  ·simp only[Value.slice.injEq]at h2
   obtain⟨rfl,_,rfl⟩:=h2
   simp[Builtin.append_,run_underlying ht,sizeOf,typeInfo,hi,Builtin.lenOf,Builtin.firstCells]
  ·simp only[Value.slice.injEq]at h2
   obtain⟨rfl,_,rfl⟩:=h2
   simp[Builtin.append_,run_underlying ht,sizeOf,typeInfo,hi,Builtin.lenOf,Builtin.firstCells,hnc,storeCells]
 ·obtain⟨v',w',hr',h2,h3,h4,h5⟩:=run_append_own_at (P:=P) w base t ty e i z k bytes ht hi hz hsize hby hzs hk v n xs hown ad m c news hr.length hr.cells h1 h63 hbytes hbase
  obtain⟨A',c',rfl,_⟩:=bF h2
  exact⟨A',c',w',hr',h2,h3,h5⟩
theorem mW {P:Program} {S:Nat→Prop} {w:World} {ops:Array Oper} {rest:List Oper} {o:Oper} {a:Act} {Q:Exit→Act→World→Prop} (hgd:o.guard=none) (s x:Operand) (t:TypeId)
  (ho:o.op= .call {callee:= .builtin .append,args:= #[s,x],argTypes:= #[t,t]})
  (base:Nat) (e:TypeId) (i:TypeInfo) (z:Value) (k bytes:Nat) (ht:P.underlying t=some (.slice e)) (hi:P.info? e=some i) (hz:i.zero=some z)
  (hsize:i.size=k) (hby:i.bytes=bytes) (hzs:z.cells.size=k) (hk:0<k) (v:Value) (n:Nat) (xs:List Value) (hs:a.eval s=v) (hown:w.ownsRow base e k v n xs)
  (A:Option Addr) (m c:Nat) (news:List Value) (hx:a.eval x= .slice A m c) (hr:aj S w A (m*k) news) (h1:∀u∈news,u.oneCell'=true) (h63:n+m≤maxLen) (hbytes:(n+m)*bytes≤140737488355328) (hbase:base≤w.heap.size)
  (h:∀A' c' w',w'.ownsRow base e k (.slice A' (n+m) c') (n+m) (xs++news)→w.grownBy w' v.ownBlock→((Value.slice A' (n+m) c').ownBlock=v.ownBlock∨(Value.slice A' (n+m) c').ownBlock=some w.heap.size)→wpList P ops Q rest (a.put o.dst (.slice A' (n+m) c')) w'):
  wpList P ops Q (o::rest) a w:=by
 refine wpList_plain hgd fun K hK=> ?_
 obtain⟨A',c',w',hr,h2,h3,h4⟩:=l6 (P:=P) base t o.type e i z k bytes ht hi hz hsize hby hzs hk v n xs hown A m c news hr h1 h63 hbytes hbase
 unfold Oper.wp execOp
 simp only[ho,resolve,invoke,builtin,Sem.run_bind,Sem.run_pure,Result.andThen_ok,List.map_toArray,List.map_cons,List.map_nil,hs,hx,hr]
 exact hK _ _ (h A' c' w' h2 h3 h4)
theorem uU {P:Program} {S:Nat→Prop} {ops:Array Oper} {o:Oper} {a:Act} {w:World} {K:Act→World→Prop} {Q:Exit→Act→World→Prop} {E:Prop} (hgd:o.guard=none) (s x:Operand) (t:TypeId)
  (ho:o.op= .call {callee:= .builtin .append,args:= #[s,x],argTypes:= #[t,t]})
  (base:Nat) (e:TypeId) (i:TypeInfo) (z:Value) (k bytes:Nat) (ht:P.underlying t=some (.slice e)) (hi:P.info? e=some i) (hz:i.zero=some z)
  (hsize:i.size=k) (hby:i.bytes=bytes) (hzs:z.cells.size=k) (hk:0<k) (v:Value) (n:Nat) (xs:List Value) (hs:a.eval s=v) (hown:w.ownsRow base e k v n xs)
  (A:Option Addr) (m c:Nat) (news:List Value) (hx:a.eval x= .slice A m c) (hr:aj S w A (m*k) news) (h1:∀u∈news,u.oneCell'=true) (h63:n+m≤maxLen) (hbytes:(n+m)*bytes≤140737488355328) (hbase:base≤w.heap.size)
  (h:∀A' c' w',w'.ownsRow base e k (.slice A' (n+m) c') (n+m) (xs++news)→w.grownBy w' v.ownBlock→((Value.slice A' (n+m) c').ownBlock=v.ownBlock∨(Value.slice A' (n+m) c').ownBlock=some w.heap.size)→K (a.put o.dst (.slice A' (n+m) c')) w'):
  if Region.wanted o (yielded ops a.tmps)=true then Oper.wp P o a w K Q else E:=by
 have hw:Region.wanted o (yielded ops a.tmps)=true:=by simp[Region.wanted,hgd]
 rw[if_pos hw]
 obtain⟨A',c',w',hr,h2,h3,h4⟩:=l6 (P:=P) base t o.type e i z k bytes ht hi hz hsize hby hzs hk v n xs hown A m c news hr h1 h63 hbytes hbase
 unfold Oper.wp execOp
 simp only[ho,resolve,invoke,builtin,Sem.run_bind,Sem.run_pure,Result.andThen_ok,List.map_toArray,List.map_cons,List.map_nil,hs,hx,hr]
 exact h A' c' w' h2 h3 h4
theorem eD {P:Program} {S:Nat→Prop} {w:World} {ops:Array Oper} {rest:List Oper} {o:Oper} {a:Act} {Q:Exit→Act→World→Prop} (hgd:o.guard=none) (s x:Operand) (t:TypeId)
  (ho:o.op= .call {callee:= .builtin .append,args:= #[s,x],argTypes:= #[t,t]})
  (base:Nat) (e:TypeId) (i:TypeInfo) (z:Value) (k bytes:Nat) (ht:P.underlying t=some (.slice e)) (hi:P.info? e=some i) (hz:i.zero=some z)
  (hsize:i.size=k) (hby:i.bytes=bytes) (hzs:z.cells.size=k) (hk:0<k) (v:Value) (n:Nat) (xs:List Value) (hs:a.eval s=v) (hown:w.ownsRow base e k v n xs)
  (A:Option Addr) (m c:Nat) (news:List Value) (hx:a.eval x= .slice A m c) (hr:aj S w A (m*k) news) (h1:∀u∈news,u.oneCell'=true) (h63:n+m≤maxLen) (hbytes:(n+m)*bytes≤140737488355328) (hbase:base≤w.heap.size)
  (h:∀A' c' w',w'.ownsRow base e k (.slice A' (n+m) c') (n+m) (xs++news)→Below base w w'→wpList P ops Q rest (a.put o.dst (.slice A' (n+m) c')) w'):
  wpList P ops Q (o::rest) a w:=by
 refine wpList_plain hgd fun K hK=> ?_
 obtain⟨A',c',w',hr,h2,h3,h4⟩:=l6 (P:=P) base t o.type e i z k bytes ht hi hz hsize hby hzs hk v n xs hown A m c news hr h1 h63 hbytes hbase
 unfold Oper.wp execOp
 simp only[ho,resolve,invoke,builtin,Sem.run_bind,Sem.run_pure,Result.andThen_ok,List.map_toArray,List.map_cons,List.map_nil,hs,hx,hr]
 exact hK _ _ (h A' c' w' h2 ⟨h3.os,h3.tape,h3.output,h3.size,fun b hb=>h3.block b (by omega) (fun e=>by have:=dG hown b e.symm;omega)⟩)
structure jJ where
 id:Int
 hash:List UInt8
 t:aK
structure nQ where
 l:List jJ
 next:Int
 last:List UInt8
def Hg:nQ:=⟨[],1,[]⟩
def oM (o:Mark) (w:World) (vs:List Value) (x:jJ):Prop:=
 ∃a c q,vs=[.int .i64 x.id, .slice a x.hash.length c,ptr q]∧x.hash.length≤c∧aj (fun b=>o b=0∧b<w.heap.size) w a x.hash.length (x.hash.map bv)∧dN o 0 w q x.t∧dI x.t
def dh (o:Mark) (w:World):List Value→List jJ→Prop
 |vs,[]=>vs=[]
 |vs,x::r=>∃v1 v2,vs=v1++v2∧oM o w v1 x∧dh o w v2 r
structure dR (o:Mark) (i:Nat) (w:World) (s:Nat) (S:nQ):Prop where
 at_:∃v la lc vals,w.heap[s]? =some (.cells #[v, .int .i64 S.next, .slice la S.last.length lc] 101 (0,0))∧o s=i∧s<w.heap.size∧
  w.ownsRow 0 105 3 v S.l.length vals∧(∀b,v.ownBlock=some b→o b=i∧b≠s∧b<w.heap.size)∧dh o w vals S.l∧
  S.last.length≤lc∧aj (fun b=>o b=0∧b<w.heap.size) w la S.last.length (S.last.map bv)
theorem oM.step {o o':Mark} {I:Nat→Prop} {w w':World} {vs:List Value} {x:jJ} (h:oM o w vs x) (hi:¬I 0) (hs:Step o I w o' w'):oM o' w' vs x:=by
 obtain⟨a,c,q,h1,h2,h3,h4,h5⟩:=h
 exact⟨a,c,q,h1,h2,h3.move hs.keep.size fun b hb hbw=>⟨⟨(hs.old b hb.2).trans hb.1,Nat.lt_of_lt_of_le hb.2 hs.keep.size⟩,hs.block hb.2 (by rw[hb.1];exact hi)⟩,h4.step hi hi hs,h5⟩
theorem dh.step {o o':Mark} {I:Nat→Prop} {w w':World} (hi:¬I 0) (hs:Step o I w o' w'):∀{vs:List Value} {l:List jJ},dh o w vs l→dh o' w' vs l
 |_,[],h=>h
 |_,x::r,⟨v1,v2,h1,h2,h3⟩=>⟨v1,v2,h1,h2.step hi hs,dh.step hi hs h3⟩
theorem oM.grow {o:Mark} {w w':World} {vs:List Value} {x:jJ} (h:oM o w vs x) (hb:Below w.heap.size w w'):oM o w' vs x:=by
 obtain⟨a,c,q,h1,h2,h3,h4,h5⟩:=h
 exact⟨a,c,q,h1,h2,h3.move hb.size fun b hb' hbw=>⟨⟨hb'.1,Nat.lt_of_lt_of_le hb'.2 hb.size⟩,hb.block b hbw⟩,h4.grow hb,h5⟩
theorem dh.grow {o:Mark} {w w':World} (hb:Below w.heap.size w w'):∀{vs:List Value} {l:List jJ},dh o w vs l→dh o w' vs l
 |_,[],h=>h
 |_,x::r,⟨v1,v2,h1,h2,h3⟩=>⟨v1,v2,h1,h2.grow hb,dh.grow hb h3⟩
theorem oM.len {o:Mark} {w:World} {vs:List Value} {x:jJ} (h:oM o w vs x):vs.length=3:=by
 obtain⟨a,c,q,h1,_⟩:=h
 rw[h1];rfl
theorem dh.len {o:Mark} {w:World}:∀{vs:List Value} {l:List jJ},dh o w vs l→vs.length=l.length*3
 |_,[],h=>by have h1:_=[]:=h;rw[h1];rfl
 |_,x::r,⟨v1,v2,h1,h2,h3⟩=>by
  rw[h1,List.length_append,h2.len,h3.len,List.length_cons]
  omega
theorem dh.append {o:Mark} {w:World}:∀{vs us:List Value} {l m:List jJ},dh o w vs l→dh o w us m→dh o w (vs++us) (l++m)
 |_,_,[],_,h,k=>by have h1:_=[]:=h;rw[h1];exact k
 |_,_,x::r,_,⟨v1,v2,h1,h2,h3⟩,k=>⟨v1,v2++_,by rw[h1,List.append_assoc],h2,h3.append k⟩
theorem dh.at_ {o:Mark} {w:World}:∀{vs:List Value} {l:List jJ} {k:Nat} {x:jJ},dh o w vs l→l[k]? =some x→∃a c q,vs[k*3]? =some (.int .i64 x.id)∧vs[k*3+1]? =some (.slice a x.hash.length c)∧vs[k*3+2]? =some (ptr q)∧x.hash.length≤c∧aj (fun b=>o b=0∧b<w.heap.size) w a x.hash.length (x.hash.map bv)∧dN o 0 w q x.t∧dI x.t
 |_,[],k,x,_,hx=>by simp at hx
 |_,y::r,0,x,⟨v1,v2,h1,h2,h3⟩,hx=>by
  have hyx:y=x:=Option.some.inj hx
  subst hyx
  obtain⟨a,c,q,e1,e2,e3,e4,e5⟩:=h2
  subst e1 h1
  exact⟨a,c,q,rfl,rfl,rfl,e2,e3,e4,e5⟩
 |_,y::r,k+1,x,⟨v1,v2,h1,h2,h3⟩,hx=>by
  obtain⟨a,c,q,e1,e2,e3,e4⟩:=dh.at_ h3 (k:=k) (x:=x) (by simpa using hx)
  have hl:=h2.len
  subst h1
  refine⟨a,c,q,?_,?_,?_,e4⟩
  ·rw[List.getElem?_append_right (by omega),←e1];congr 1;omega
  ·rw[List.getElem?_append_right (by omega),←e2];congr 1;omega
  ·rw[List.getElem?_append_right (by omega),←e3];congr 1;omega
theorem dh.take {o:Mark} {w:World}:∀{vs:List Value} {l:List jJ} (k:Nat),dh o w vs l→dh o w (vs.take (k*3)) (l.take k)
 |_,[],k,h=>by have h1:_=[]:=h;rw[h1];simp;exact rfl
 |_,y::r,0,_=>by simp;exact rfl
 |_,y::r,k+1,⟨v1,v2,h1,h2,h3⟩=>by
  subst h1
  have hl:=h2.len
  refine⟨v1,v2.take (k*3),?_,h2,h3.take k⟩
  rw[List.take_append,List.take_of_length_le (by omega)]
  congr 2
  omega
theorem dh.drop {o:Mark} {w:World}:∀{vs:List Value} {l:List jJ} (k:Nat),dh o w vs l→dh o w (vs.drop (k*3)) (l.drop k)
 |_,[],k,h=>by have h1:_=[]:=h;rw[h1];simp;exact rfl
 |_,y::r,0,h=>by simpa using h
 |_,y::r,k+1,⟨v1,v2,h1,h2,h3⟩=>by
  subst h1
  have hl:=h2.len
  have h4:=h3.drop k
  rw[List.drop_append,List.drop_eq_nil_of_le (by omega)]
  have e:(k+1)*3-v1.length=k*3:=by omega
  rw[e]
  exact h4
theorem dR.step {o o':Mark} {I:Nat→Prop} {j:Nat} {w w':World} {s:Nat} {S:nQ} (h:dR o j w s S) (hi:¬I 0) (hj:¬I j) (hs:Step o I w o' w'):dR o' j w' s S:=by
 obtain⟨v,la,lc,vals,h1,h2,h3,h4,h5,h6,h7,h8⟩:=h.at_
 refine⟨v,la,lc,vals,(hs.block h3 (by rw[h2];exact hj)).trans h1,(hs.old s h3).trans h2,Nat.lt_of_lt_of_le h3 hs.keep.size,?_,fun b hb=> ?_,h6.step hi hs,h7,h8.move hs.keep.size fun b hb hbw=>⟨⟨(hs.old b hb.2).trans hb.1,Nat.lt_of_lt_of_le hb.2 hs.keep.size⟩,hs.block hb.2 (by rw[hb.1];exact hi)⟩⟩
 ·obtain⟨k1,k2⟩:=h4
  refine⟨k1,?_⟩
  rcases k2 with k2|⟨g,cap,cur,e1,e2,e3,e4⟩
  ·exact .inl k2
  ·have h9:=h5 g (by rw[e1];rfl)
   exact .inr ⟨g,cap,cur,e1,e2,(hs.block h9.2.2 (by rw[h9.1];exact hj)).trans e3,e4⟩
 ·obtain⟨k1,k2,k3⟩:=h5 b hb
  exact⟨(hs.old b k3).trans k1,k2,Nat.lt_of_lt_of_le k3 hs.keep.size⟩
end Go.Proofs.YtmabllemjkcobaaGreatDoor
