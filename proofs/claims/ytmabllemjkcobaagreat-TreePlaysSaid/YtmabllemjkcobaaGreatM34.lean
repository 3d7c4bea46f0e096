/- DERIVED: THE SHELF's CONTRACTS AT THIS DUMP, IN PLAIN WORDS (tools/lay-plain.mjs out of 'YtmabllemjkcobaaGreatLaypKeysLayT.lean', which tools/lay-shelf.mjs wrote): THE SAME DECLARATIONS UNDER THE SAME NAMES: 'import', 'namespace', 'open', 'def', 'theorem' AND NOTHING ELSE: no command of the shelf's: FOR A HAND-IN. Each laying: the table of numbers ('.._ren') and one theorem, a field a fact of the dump's own or the kernel's comparison; each contract: ONE APPLICATION. slices.Sorted(maps.Keys(m)) of a tree's nodes: the IDs, rising. tree: IDs. A row of one's own, kept. -/
import Derived.Test.YtmabllemjkcobaaGreatProg
import Derived.Shelf.SlIterI.Nil
import Derived.Shelf.SlIterI.Sorted
import Derived.Shelf.SortM.Plain
import Derived.Shelf.SortM.SortNone
import Derived.Ground.GgzProg
import Derived.Ground.SlgmProg
import Derived.Test.YtmabllemjkcobaaGreatM04
import Derived.Test.YtmabllemjkcobaaGreatM14
import Derived.Test.YtmabllemjkcobaaGreatM12
namespace Go.Proofs
open Go.Shelf
def Tryz.Di:Go.Shelf.Ren:=⟨fun|7=>141|10=>178|n=>n,fun|23=>101|26=>3|3=>99|28=>190|0=>0|27=>189|33=>218|4=>4|n=>n,fun|n=>n⟩
theorem Tryz.S_:Go.Proofs.SlLaysZI.n7 Tryz.prog Tryz.Di:={
 mixed:=by kernel_rfl
 f7:=⟨Tryz.f141.name,by decide,Tryz.func141.trans (congrArg some (by kernel_rfl))⟩
 f10:=⟨Tryz.f178.name,by decide,Tryz.func178.trans (congrArg some (by kernel_rfl))⟩
 t0:=Tryz.underlying0
 a0:=Tryz.isAgg0
 z0:=Tryz.sizeOf0
 v0:=Tryz.zeroValue0
 t4:=Tryz.underlying4
 a4:=Tryz.isAgg4
 z4:=Tryz.sizeOf4
 v4:=Tryz.zeroValue4
 t23:=Tryz.underlying101
 a23:=Tryz.isAgg101
 z23:=Tryz.sizeOf101
 v23:=Tryz.zeroValue101
 t26:=Tryz.underlying3
 a26:=Tryz.isAgg3
 z26:=Tryz.sizeOf3
 v26:=Tryz.zeroValue3
 t27:=Tryz.underlying189
 a27:=Tryz.isAgg189
 z27:=Tryz.sizeOf189
 v27:=Tryz.zeroValue189
 t28:=Tryz.underlying190
 a28:=Tryz.isAgg190
 z28:=Tryz.sizeOf190
 v28:=Tryz.zeroValue190
 t33:=Tryz.underlying218
 a33:=Tryz.isAgg218
 z33:=Tryz.sizeOf218
 v33:=Tryz.zeroValue218}
def Tryz.yD:Go.Shelf.Ren:=⟨fun|6=>140|8=>176|9=>177|11=>204|13=>171|12=>205|23=>197|24=>198|14=>226|15=>227|16=>228|17=>229|18=>230|19=>231|20=>232|21=>233|22=>234|25=>244|26=>220|27=>221|28=>245|29=>246|30=>247|31=>249|n=>n,fun|26=>3|28=>190|24=>37|0=>0|3=>3|37=>156|48=>157|50=>43|4=>4|40=>229|39=>228|45=>111|5=>5|9=>9|51=>261|55=>264|57=>279|58=>31|33=>218|n=>n,fun|n=>n⟩
theorem Tryz.Q7:Go.Proofs.SlLaysZI.n6 Tryz.prog Tryz.yD:={
 mixed:=by kernel_rfl
 f6:=⟨Tryz.f140.name,by decide,Tryz.func140.trans (congrArg some (by kernel_rfl))⟩
 f8:=⟨Tryz.f176.name,by decide,Tryz.func176.trans (congrArg some (by kernel_rfl))⟩
 f11:=⟨Tryz.f204.name,by decide,Tryz.func204.trans (congrArg some (by kernel_rfl))⟩
 t0:=Tryz.underlying0
 a0:=Tryz.isAgg0
 z0:=Tryz.sizeOf0
 v0:=Tryz.zeroValue0
 t24:=Tryz.underlying37
 a24:=Tryz.isAgg37
 z24:=Tryz.sizeOf37
 v24:=Tryz.zeroValue37
 t26:=Tryz.underlying3
 a26:=Tryz.isAgg3
 z26:=Tryz.sizeOf3
 v26:=Tryz.zeroValue3
 t28:=Tryz.underlying190
 a28:=Tryz.isAgg190
 z28:=Tryz.sizeOf190
 v28:=Tryz.zeroValue190
 i26:=by kernel_rfl}
def Tryz.Lr:Go.Shelf.Ren:=⟨fun|5=>177|8=>171|7=>205|19=>197|20=>198|10=>226|11=>227|12=>228|13=>229|14=>230|15=>231|16=>232|17=>233|18=>234|30=>244|31=>220|32=>221|33=>245|34=>246|35=>247|40=>249|n=>n,fun|23=>37|25=>3|3=>3|32=>156|22=>37|0=>0|44=>157|46=>43|4=>4|36=>229|35=>228|41=>111|5=>5|9=>9|53=>261|57=>264|63=>279|64=>31|n=>n,fun|n=>n⟩
theorem Tryz.Ta:Go.Proofs.SlLaysM.n5 Tryz.prog Tryz.Lr:={
 mixed:=by kernel_rfl
 f5:=⟨Tryz.f177.name,by decide,Tryz.func177.trans (congrArg some (by kernel_rfl))⟩
 f7:=⟨Tryz.f205.name,by decide,Tryz.func205.trans (congrArg some (by kernel_rfl))⟩
 f8:=Tryz.func171.trans (congrArg some (by kernel_rfl))
 f10:=⟨Tryz.f226.name,by decide,Tryz.func226.trans (congrArg some (by kernel_rfl))⟩
 f11:=⟨Tryz.f227.name,by decide,Tryz.func227.trans (congrArg some (by kernel_rfl))⟩
 f12:=⟨Tryz.f228.name,by decide,Tryz.func228.trans (congrArg some (by kernel_rfl))⟩
 f13:=⟨Tryz.f229.name,by decide,Tryz.func229.trans (congrArg some (by kernel_rfl))⟩
 f14:=⟨Tryz.f230.name,by decide,Tryz.func230.trans (congrArg some (by kernel_rfl))⟩
 f15:=⟨Tryz.f231.name,by decide,Tryz.func231.trans (congrArg some (by kernel_rfl))⟩
 f16:=⟨Tryz.f232.name,by decide,Tryz.func232.trans (congrArg some (by kernel_rfl))⟩
 f17:=⟨Tryz.f233.name,by decide,Tryz.func233.trans (congrArg some (by kernel_rfl))⟩
 f18:=⟨Tryz.f234.name,by decide,Tryz.func234.trans (congrArg some (by kernel_rfl))⟩
 f19:=Tryz.func197.trans (congrArg some (by kernel_rfl))
 f20:=Tryz.func198.trans (congrArg some (by kernel_rfl))
 f30:=⟨Tryz.f244.name,by decide,Tryz.func244.trans (congrArg some (by kernel_rfl))⟩
 f31:=Tryz.func220.trans (congrArg some (by kernel_rfl))
 f32:=Tryz.func221.trans (congrArg some (by kernel_rfl))
 f33:=⟨Tryz.f245.name,by decide,Tryz.func245.trans (congrArg some (by kernel_rfl))⟩
 f34:=⟨Tryz.f246.name,by decide,Tryz.func246.trans (congrArg some (by kernel_rfl))⟩
 f35:=⟨Tryz.f247.name,by decide,Tryz.func247.trans (congrArg some (by kernel_rfl))⟩
 f40:=⟨Tryz.f249.name,by decide,Tryz.func249.trans (congrArg some (by kernel_rfl))⟩
 t0:=Tryz.underlying0
 a0:=Tryz.isAgg0
 z0:=Tryz.sizeOf0
 v0:=Tryz.zeroValue0
 t3:=Tryz.underlying3
 a3:=Tryz.isAgg3
 z3:=Tryz.sizeOf3
 v3:=Tryz.zeroValue3
 t4:=Tryz.underlying4
 a4:=Tryz.isAgg4
 z4:=Tryz.sizeOf4
 v4:=Tryz.zeroValue4
 t5:=Tryz.underlying5
 a5:=Tryz.isAgg5
 z5:=Tryz.sizeOf5
 v5:=Tryz.zeroValue5
 t9:=Tryz.underlying9
 a9:=Tryz.isAgg9
 z9:=Tryz.sizeOf9
 v9:=Tryz.zeroValue9
 t22:=Tryz.underlying37
 a22:=Tryz.isAgg37
 z22:=Tryz.sizeOf37
 v22:=Tryz.zeroValue37
 t23:=Tryz.underlying37
 a23:=Tryz.isAgg37
 z23:=Tryz.sizeOf37
 v23:=Tryz.zeroValue37
 t25:=Tryz.underlying3
 a25:=Tryz.isAgg3
 z25:=Tryz.sizeOf3
 v25:=Tryz.zeroValue3
 t32:=Tryz.underlying156
 a32:=Tryz.isAgg156
 z32:=Tryz.sizeOf156
 v32:=Tryz.zeroValue156
 t35:=Tryz.underlying228
 a35:=Tryz.isAgg228
 z35:=Tryz.sizeOf228
 v35:=Tryz.zeroValue228
 t36:=Tryz.underlying229
 a36:=Tryz.isAgg229
 z36:=Tryz.sizeOf229
 v36:=Tryz.zeroValue229
 t41:=Tryz.underlying111
 a41:=Tryz.isAgg111
 z41:=Tryz.sizeOf111
 v41:=Tryz.zeroValue111
 t44:=Tryz.underlying157
 a44:=Tryz.isAgg157
 z44:=Tryz.sizeOf157
 v44:=Tryz.zeroValue157
 t46:=Tryz.underlying43
 a46:=Tryz.isAgg43
 z46:=Tryz.sizeOf43
 v46:=Tryz.zeroValue43
 t53:=Tryz.underlying261
 a53:=Tryz.isAgg261
 z53:=Tryz.sizeOf261
 v53:=Tryz.zeroValue261
 t57:=Tryz.underlying264
 a57:=Tryz.isAgg264
 z57:=Tryz.sizeOf264
 v57:=Tryz.zeroValue264
 t63:=Tryz.underlying279
 a63:=Tryz.isAgg279
 z63:=Tryz.sizeOf279
 v63:=Tryz.zeroValue279
 t64:=Tryz.underlying31
 a64:=Tryz.isAgg31
 z64:=Tryz.sizeOf31
 v64:=Tryz.zeroValue31}
open Go.RowKit Go.Maps Go.Sort Go.Shelf
theorem Tryz.Va (m:Nat):AnyZI.SortsIn Tryz.prog Tryz.yD Fence.wide m:=
 ⟨fun blk off cap ss W hH hblk hsz=>callsIn_wide.2 (AnyM.slices_Sort_int Tryz.Ta blk off cap ss W hH hblk hsz),
  fun p cap W=>callsIn_wide.2 (AnyM.slices_Sort_int_none Tryz.Ta p cap W)⟩
theorem Tryz.Q8 (mb:Option Nat) (W:World):Calls Tryz.prog 141 #[.map mb] W fun e w'=>e= .returned (.func (.func 178) #[] #[.pointer (some ⟨W.heap.size,0,none⟩)])∧w'=W.alloc (.cells #[.map mb] 101):=
 callsIn_wide.1 (AnyZI.keys_in Tryz.S_ Fence.wide 5 trivial rfl mb W)
set_option maxHeartbeats 1000000 in
theorem Tryz.Ls {H:Type} (b nn:Nat) (D0:DataW H) (R:Value→Option (DataW H×List MemPlace)) (w:World) (hown:w.ownsMap Tryz.prog 3 R b nn D0) (hmax:Maps.size D0≤maxLen) (hbytes:Maps.size D0*8≤140737488355328):
  Calls Tryz.prog 140 #[.func (.func 178) #[] #[.pointer (some ⟨w.heap.size,0,none⟩)]] (w.alloc (.cells #[.map (some b)] 101)) fun e w'=>∃(v:Value) (ss:List Int),e= .returned v∧ss.Perm (intKeys D0)∧
   w'.ownsRow (w.alloc (.cells #[.map (some b)] 101)).heap.size 3 1 v ss.length ((ss.mergeSort (fun x y=>decide (x≤y))).map encZ)∧(v= .slice none 0 0↔ss=[])∧Below (w.alloc (.cells #[.map (some b)] 101)).heap.size (w.alloc (.cells #[.map (some b)] 101)) w':=by
 have hbl:=hown.lt
 have hseq:SeqGives Fence.wide 2 Tryz.prog 178 #[.pointer (some ⟨w.heap.size,0,none⟩)] encZ (fun ss=>ss.Perm (intKeys D0)) (Maps.size D0) (w.alloc (.cells #[.map (some b)] 101)):=
  AnyZI.keys_gives (ρ:=Tryz.Di) {Tryz.S_ with} Fence.wide _ trivial rfl (by omega) w.heap.size b nn D0 _ (by simp) (by simp) (by
   obtain⟨es,clock,hb,Ft,hs,hD⟩:=hown
   exact⟨es,clock,(Below.heap_alloc _ _ b hbl).trans hb,Ft,hs,hD⟩)
 exact callsIn_wide.1 (AnyZI.sorted_in Tryz.Q7 Fence.wide 5 trivial trivial trivial trivial rfl (by omega) (Tryz.Va _) (enters_of Tryz.func177 (by kernel_rfl) rfl) 178 #[.pointer (some ⟨w.heap.size,0,none⟩)] trivial (enters_of Tryz.func178 (by kernel_rfl) rfl) _ _ hmax hbytes _ hseq)
end Go.Proofs
namespace Go.Proofs.YtmabllemjkcobaaGreat
open Go.ChangeShapes Go.WideShapes Go.ChangeAt Go.RowKit
set_option linter.unusedVariables false
set_option linter.unusedSimpArgs false
theorem F3 (l:List (Int×Value)):intKeys (vk bC l)=l.map (·.1):=by
 unfold intKeys vk
 simp only[List.map_map]
 rfl
theorem F4 {α:Type} {l:List (Int×α)} (hl:aS (fun a b:Int=>decide (a<b)) l) {ss:List Int} (hp:ss.Perm (l.map (·.1))):ss.mergeSort (fun x y=>decide (x≤y))=l.map (·.1):=by
 have h1:(ss.mergeSort (fun x y=>decide (x≤y))).Pairwise (fun a b=>decide (a≤b)=true):=List.pairwise_mergeSort (fun a b c h1 h2=>by simp at*;omega) (fun a b=>by simp;omega) ss
 have h2:(l.map (·.1)).Pairwise (fun a b=>decide (a≤b)=true):=by
  rw[List.pairwise_map]
  exact hl.imp fun{a b} h=>by simp at*;omega
 exact((List.mergeSort_perm ss _).trans hp).eq_of_pairwise (fun a b _ _ h1 h2=>by simp at*;omega) h1 h2
def Q9 (w:World) (zs:List Int) (e:Ending) (w':World):Prop:=
 ∃a cap,e= .returned (.slice a zs.length cap)∧zs.length≤cap∧aC (fun x=>w.heap.size≤x∧x<w'.heap.size) w' a zs.length (zs.map (Value.int .i64))∧Below w.heap.size w w'
def Ap (T:aG):List Int:=T.map (·.1)
section
variable {g:Nat→Own} {D:Nat→Prop} {p mb:Nat} {ib nb:Int→Nat} {T:aG}
set_option maxRecDepth 100000 in
set_option maxHeartbeats 1000000 in
theorem Q_ (w:World) (h:aO g D w p mb ib nb T) (hl:T.length≤100000):Calls Tryz.prog 88 #[ptr p] w (Q9 w (Ap T)):=by
 obtain⟨hc0,hpw,hmw⟩:=h.cell
 have hsz:(T.map fun q=>(q.1,ptr (ib q.1))).length=T.length:=List.length_map _
 have hkk:(T.map fun q=>(q.1,ptr (ib q.1))).map (·.1)=Ap T:=by unfold Ap;rw[List.map_map];rfl
 have hso:=h.map.sorted.1
 have hk:=Tryz.Q8 (some mb) w
 have hs:=Tryz.Ls mb (T.map fun q:Int×bW=>(q.1,ptr (ib q.1))).length (vk bC (T.map fun q:Int×bW=>(q.1,ptr (ib q.1)))) mI w h.map (by rw[kL,hsz];unfold maxLen;omega) (by rw[kL,hsz];omega)
 have Vb:=Lib.hid hso
 have HKK:=Lib.hid hkk
 clear h hso hkk hsz
 go_enter Tryz.func88,Tryz.ntmps88
 go_wp2_with (first|(go_at_call 141;refine hk.mono ?_;rintro e w' ⟨rfl,rfl⟩)|(go_at_call 140;refine hs.mono ?_;rintro e w' ⟨v,ss,rfl,hp,hown,hnil,hB⟩))
 go_ret
 rw[F3]at hp
 rw[F4 Vb.out hp,HKK.out]at hown
 have hlen:ss.length=(Ap T).length:=by
  have:=hp.length_eq
  rw[HKK.out]at this
  exact this
 have hB2:Below w.heap.size w w':=((Below.refl _ _).alloc (Nat.le_refl _) _).trans (hB.mono (by simp))
 have hs1:=hB.size
 rw[World.size_alloc]at hs1
 obtain⟨h1,h2⟩:=hown
 simp only[List.length_map]at h1
 rcases h2 with⟨rfl,h0⟩|⟨g,cap,cur,rfl,hg,hcur,hc1,hc2,hcs,htk⟩
 ·have h00:(Ap T).length=0:=by omega
  have:Ap T=[]:=List.eq_nil_of_length_eq_zero h00
  rw[this]
  exact⟨none,0,rfl,Nat.le_refl _,aC.nil _ _ _,hB2⟩
 ·have hgw:=(Array.getElem?_eq_some_iff.1 hcur).1
  rw[World.size_alloc]at hg
  refine⟨some ⟨g,0,none⟩,cap,by rw[←hlen];rfl,by omega,⟨by simp,by omega,fun h0=>⟨g,0,rfl,⟨by omega,hgw⟩,hgw,fun i hi=> ?_⟩⟩,hB2⟩
  simp only[World.cell?,hcur,Nat.zero_add]
  rw[show(Ap T).map (Value.int .i64)=(Ap T).map encZ from rfl]
  rw[←htk,List.getElem?_take,if_pos (show i<ss.length*1 by rw[hlen];omega)]
  simp
end
theorem kQ {w w':World} {B:Nat} {e:TypeId} {size:Nat} {v:Value} {n:Nat} {xs:List Value} (h:w.ownsRow B e size v n xs) (hk:∀b,v.ownBlock=some b→b<w.heap.size→w'.heap[b]? =w.heap[b]?):w'.ownsRow B e size v n xs:=by
 refine⟨h.1,?_⟩
 rcases h.2 with h1|⟨g,cap,cur,rfl,hg,hcur,rest⟩
 ·exact .inl h1
 ·exact .inr ⟨g,cap,cur,rfl,hg,(hk g rfl (Array.getElem?_eq_some_iff.1 hcur).1).trans hcur,rest⟩
theorem mU {w:World} {B:Nat} {e:TypeId} {size:Nat} {v:Value} {n:Nat} {xs:List Value} (h:w.ownsRow B e size v n xs):∀b,v.ownBlock=some b→b<w.heap.size:=by
 intro b hb
 rcases h.2 with⟨rfl,_⟩|⟨g,cap,cur,rfl,hg,hcur,rest⟩
 ·cases hb
 ·cases hb
  exact(Array.getElem?_eq_some_iff.1 hcur).1
end Go.Proofs.YtmabllemjkcobaaGreat
