/- DERIVED: THE SHELF's CONTRACTS AT THIS DUMP, IN PLAIN WORDS (tools/lay-plain.mjs out of 'YtmabllemjkcobaaGreatLaypKeysLayS.lean', which tools/lay-shelf.mjs wrote): THE SAME DECLARATIONS UNDER THE SAME NAMES: 'import', 'namespace', 'open', 'def', 'theorem' AND NOTHING ELSE: no command of the shelf's: FOR A HAND-IN. Each laying: the table of numbers ('.._ren') and one theorem, a field a fact of the dump's own or the kernel's comparison; each contract: ONE APPLICATION. slices.Sorted(maps.Keys(m)) of a directory's names, rising. tree: List. The reference's tree in memory; at, Node, entry. The reference: Node, entry. slices.Equal of texts; path.Within. What chapter 7's reference says: Good, Within. -/
import Derived.Test.YtmabllemjkcobaaGreatProg
import Derived.Shelf.SlIter.Nil
import Derived.Shelf.SlIter.Sorted
import Derived.Shelf.SortM.Plain
import Derived.Shelf.SortM.SortNone
import Derived.Ground.GgzProg
import Derived.Ground.SlgmProg
import Derived.Test.YtmabllemjkcobaaGreatM04
import Derived.Test.YtmabllemjkcobaaGreatM18
import Derived.Test.YtmabllemjkcobaaGreatM10
namespace Go.Proofs
open Go.Shelf
def Tryz.xu:Go.Shelf.Ren:=⟨fun|7=>92|10=>146|n=>n,fun|23=>112|26=>9|3=>3|28=>141|0=>0|27=>140|33=>184|4=>4|n=>n,fun|n=>n⟩
theorem Tryz.Nt:Go.Proofs.SlLaysZ.n7 Tryz.prog Tryz.xu:={
 mixed:=by kernel_rfl
 f7:=⟨Tryz.f92.name,by decide,Tryz.func92.trans (congrArg some (by kernel_rfl))⟩
 f10:=⟨Tryz.f146.name,by decide,Tryz.func146.trans (congrArg some (by kernel_rfl))⟩
 t0:=Tryz.underlying0
 a0:=Tryz.isAgg0
 z0:=Tryz.sizeOf0
 v0:=Tryz.zeroValue0
 t4:=Tryz.underlying4
 a4:=Tryz.isAgg4
 z4:=Tryz.sizeOf4
 v4:=Tryz.zeroValue4
 t23:=Tryz.underlying112
 a23:=Tryz.isAgg112
 z23:=Tryz.sizeOf112
 v23:=Tryz.zeroValue112
 t26:=Tryz.underlying9
 a26:=Tryz.isAgg9
 z26:=Tryz.sizeOf9
 v26:=Tryz.zeroValue9
 t27:=Tryz.underlying140
 a27:=Tryz.isAgg140
 z27:=Tryz.sizeOf140
 v27:=Tryz.zeroValue140
 t28:=Tryz.underlying141
 a28:=Tryz.isAgg141
 z28:=Tryz.sizeOf141
 v28:=Tryz.zeroValue141
 t33:=Tryz.underlying184
 a33:=Tryz.isAgg184
 z33:=Tryz.sizeOf184
 v33:=Tryz.zeroValue184}
def Tryz.yh:Go.Shelf.Ren:=⟨fun|6=>91|8=>144|9=>145|11=>179|13=>171|12=>180|23=>197|24=>198|14=>206|15=>207|16=>208|17=>209|18=>210|19=>211|20=>212|21=>213|22=>214|25=>235|26=>220|27=>221|28=>236|29=>237|30=>238|31=>248|n=>n,fun|26=>9|28=>141|24=>26|0=>0|3=>3|37=>156|48=>157|50=>43|4=>4|40=>229|39=>228|45=>111|5=>5|9=>9|51=>261|55=>264|57=>279|58=>31|33=>184|n=>n,fun|n=>n⟩
theorem Tryz.J5:Go.Proofs.SlLaysZ.n6 Tryz.prog Tryz.yh:={
 mixed:=by kernel_rfl
 f6:=⟨Tryz.f91.name,by decide,Tryz.func91.trans (congrArg some (by kernel_rfl))⟩
 f8:=⟨Tryz.f144.name,by decide,Tryz.func144.trans (congrArg some (by kernel_rfl))⟩
 f11:=⟨Tryz.f179.name,by decide,Tryz.func179.trans (congrArg some (by kernel_rfl))⟩
 t0:=Tryz.underlying0
 a0:=Tryz.isAgg0
 z0:=Tryz.sizeOf0
 v0:=Tryz.zeroValue0
 t24:=Tryz.underlying26
 a24:=Tryz.isAgg26
 z24:=Tryz.sizeOf26
 v24:=Tryz.zeroValue26
 t26:=Tryz.underlying9
 a26:=Tryz.isAgg9
 z26:=Tryz.sizeOf9
 v26:=Tryz.zeroValue9
 t28:=Tryz.underlying141
 a28:=Tryz.isAgg141
 z28:=Tryz.sizeOf141
 v28:=Tryz.zeroValue141
 i26:=by kernel_rfl}
def Tryz.KY:Go.Shelf.Ren:=⟨fun|6=>145|8=>171|9=>180|19=>197|20=>198|21=>206|22=>207|23=>208|24=>209|25=>210|26=>211|27=>212|28=>213|29=>214|36=>235|31=>220|32=>221|37=>236|38=>237|39=>238|41=>248|n=>n,fun|27=>26|29=>9|3=>3|32=>156|26=>26|0=>0|44=>157|46=>43|4=>4|36=>229|35=>228|41=>111|5=>5|9=>9|53=>261|57=>264|63=>279|64=>31|n=>n,fun|n=>n⟩
theorem Tryz.SL:Go.Proofs.SlLaysM.n6 Tryz.prog Tryz.KY:={
 mixed:=by kernel_rfl
 f6:=⟨Tryz.f145.name,by decide,Tryz.func145.trans (congrArg some (by kernel_rfl))⟩
 f8:=Tryz.func171.trans (congrArg some (by kernel_rfl))
 f9:=⟨Tryz.f180.name,by decide,Tryz.func180.trans (congrArg some (by kernel_rfl))⟩
 f19:=Tryz.func197.trans (congrArg some (by kernel_rfl))
 f20:=Tryz.func198.trans (congrArg some (by kernel_rfl))
 f21:=⟨Tryz.f206.name,by decide,Tryz.func206.trans (congrArg some (by kernel_rfl))⟩
 f22:=⟨Tryz.f207.name,by decide,Tryz.func207.trans (congrArg some (by kernel_rfl))⟩
 f23:=⟨Tryz.f208.name,by decide,Tryz.func208.trans (congrArg some (by kernel_rfl))⟩
 f24:=⟨Tryz.f209.name,by decide,Tryz.func209.trans (congrArg some (by kernel_rfl))⟩
 f25:=⟨Tryz.f210.name,by decide,Tryz.func210.trans (congrArg some (by kernel_rfl))⟩
 f26:=⟨Tryz.f211.name,by decide,Tryz.func211.trans (congrArg some (by kernel_rfl))⟩
 f27:=⟨Tryz.f212.name,by decide,Tryz.func212.trans (congrArg some (by kernel_rfl))⟩
 f28:=⟨Tryz.f213.name,by decide,Tryz.func213.trans (congrArg some (by kernel_rfl))⟩
 f29:=⟨Tryz.f214.name,by decide,Tryz.func214.trans (congrArg some (by kernel_rfl))⟩
 f31:=Tryz.func220.trans (congrArg some (by kernel_rfl))
 f32:=Tryz.func221.trans (congrArg some (by kernel_rfl))
 f36:=⟨Tryz.f235.name,by decide,Tryz.func235.trans (congrArg some (by kernel_rfl))⟩
 f37:=⟨Tryz.f236.name,by decide,Tryz.func236.trans (congrArg some (by kernel_rfl))⟩
 f38:=⟨Tryz.f237.name,by decide,Tryz.func237.trans (congrArg some (by kernel_rfl))⟩
 f39:=⟨Tryz.f238.name,by decide,Tryz.func238.trans (congrArg some (by kernel_rfl))⟩
 f41:=⟨Tryz.f248.name,by decide,Tryz.func248.trans (congrArg some (by kernel_rfl))⟩
 t0:=Tryz.underlying0
 a0:=Tryz.isAgg0
 z0:=Tryz.sizeOf0
 v0:=Tryz.zeroValue0
 t3:=Tryz.underlying3
 a3:=Tryz.isAgg3
 z3:=Tryz.sizeOf3
 v3:=Tryz.zeroValue3
 t4:=Tryz.underlying4
 a4:=Tryz.isAgg4
 z4:=Tryz.sizeOf4
 v4:=Tryz.zeroValue4
 t5:=Tryz.underlying5
 a5:=Tryz.isAgg5
 z5:=Tryz.sizeOf5
 v5:=Tryz.zeroValue5
 t9:=Tryz.underlying9
 a9:=Tryz.isAgg9
 z9:=Tryz.sizeOf9
 v9:=Tryz.zeroValue9
 t26:=Tryz.underlying26
 a26:=Tryz.isAgg26
 z26:=Tryz.sizeOf26
 v26:=Tryz.zeroValue26
 t27:=Tryz.underlying26
 a27:=Tryz.isAgg26
 z27:=Tryz.sizeOf26
 v27:=Tryz.zeroValue26
 t29:=Tryz.underlying9
 a29:=Tryz.isAgg9
 z29:=Tryz.sizeOf9
 v29:=Tryz.zeroValue9
 t32:=Tryz.underlying156
 a32:=Tryz.isAgg156
 z32:=Tryz.sizeOf156
 v32:=Tryz.zeroValue156
 t35:=Tryz.underlying228
 a35:=Tryz.isAgg228
 z35:=Tryz.sizeOf228
 v35:=Tryz.zeroValue228
 t36:=Tryz.underlying229
 a36:=Tryz.isAgg229
 z36:=Tryz.sizeOf229
 v36:=Tryz.zeroValue229
 t41:=Tryz.underlying111
 a41:=Tryz.isAgg111
 z41:=Tryz.sizeOf111
 v41:=Tryz.zeroValue111
 t44:=Tryz.underlying157
 a44:=Tryz.isAgg157
 z44:=Tryz.sizeOf157
 v44:=Tryz.zeroValue157
 t46:=Tryz.underlying43
 a46:=Tryz.isAgg43
 z46:=Tryz.sizeOf43
 v46:=Tryz.zeroValue43
 t53:=Tryz.underlying261
 a53:=Tryz.isAgg261
 z53:=Tryz.sizeOf261
 v53:=Tryz.zeroValue261
 t57:=Tryz.underlying264
 a57:=Tryz.isAgg264
 z57:=Tryz.sizeOf264
 v57:=Tryz.zeroValue264
 t63:=Tryz.underlying279
 a63:=Tryz.isAgg279
 z63:=Tryz.sizeOf279
 v63:=Tryz.zeroValue279
 t64:=Tryz.underlying31
 a64:=Tryz.isAgg31
 z64:=Tryz.sizeOf31
 v64:=Tryz.zeroValue31}
open Go.RowKit Go.Maps Go.Sort Go.Shelf
theorem Tryz.Nu (m:Nat):AnyZ.SortsIn Tryz.prog Tryz.yh Fence.wide m:=
 ⟨fun blk off cap ss W hH hblk hsz=>callsIn_wide.2 (AnyM.slices_Sort_string Tryz.SL blk off cap ss W hH hblk hsz),
  fun p cap W=>callsIn_wide.2 (AnyM.slices_Sort_string_none Tryz.SL p cap W)⟩
theorem Tryz.Ed (mb:Option Nat) (W:World):Calls Tryz.prog 92 #[.map mb] W fun e w'=>e= .returned (.func (.func 146) #[] #[.pointer (some ⟨W.heap.size,0,none⟩)])∧w'=W.alloc (.cells #[.map mb] 112):=
 callsIn_wide.1 (AnyZ.keys_in Tryz.Nt Fence.wide 5 trivial rfl mb W)
set_option maxHeartbeats 1000000 in
theorem Tryz.CJ {H:Type} (b nn:Nat) (D0:DataW H) (R:Value→Option (DataW H×List MemPlace)) (w:World) (hown:w.ownsMap Tryz.prog 9 R b nn D0) (hmax:Maps.size D0≤maxLen) (hbytes:Maps.size D0*16≤140737488355328):
  Calls Tryz.prog 91 #[.func (.func 146) #[] #[.pointer (some ⟨w.heap.size,0,none⟩)]] (w.alloc (.cells #[.map (some b)] 112)) fun e w'=>∃(v:Value) (ss:List (List UInt8)),e= .returned v∧ss.Perm (strKeys D0)∧
   w'.ownsRow (w.alloc (.cells #[.map (some b)] 112)).heap.size 9 1 v ss.length ((ss.mergeSort (fun x y=>decide (x≤y))).map encStr)∧(v= .slice none 0 0↔ss=[])∧Below (w.alloc (.cells #[.map (some b)] 112)).heap.size (w.alloc (.cells #[.map (some b)] 112)) w':=by
 have hbl:=hown.lt
 have hseq:SeqGives Fence.wide 2 Tryz.prog 146 #[.pointer (some ⟨w.heap.size,0,none⟩)] encStr (fun ss=>ss.Perm (strKeys D0)) (Maps.size D0) (w.alloc (.cells #[.map (some b)] 112)):=
  AnyZ.keys_gives (ρ:=Tryz.xu) {Tryz.Nt with} Fence.wide _ trivial rfl (by omega) w.heap.size b nn D0 _ (by simp) (by simp) (by
   obtain⟨es,clock,hb,Ft,hs,hD⟩:=hown
   exact⟨es,clock,(Below.heap_alloc _ _ b hbl).trans hb,Ft,hs,hD⟩)
 exact callsIn_wide.1 (AnyZ.sorted_in Tryz.J5 Fence.wide 5 trivial trivial trivial trivial rfl (by omega) (Tryz.Nu _) (enters_of Tryz.func145 (by kernel_rfl) rfl) 146 #[.pointer (some ⟨w.heap.size,0,none⟩)] trivial (enters_of Tryz.func146 (by kernel_rfl) rfl) _ _ hmax hbytes _ hseq)
end Go.Proofs
namespace Go.Proofs.YtmabllemjkcobaaGreat
open Go.ChangeShapes Go.WideShapes Go.ChangeAt Go.RowKit
set_option linter.unusedVariables false
set_option linter.unusedSimpArgs false
theorem yj (l:List (Nm×Value)):strKeys (vk dN l)=l.map (·.1):=by
 unfold strKeys vk
 simp only[List.map_map]
 rfl
theorem SN:∀{a b:List UInt8},bytesBefore a b=true→a<b
 |[],[],h=>by cases h
 |[],_::_,_=>List.nil_lt_cons _ _
 |_::_,[],h=>by cases h
 |x::r,y::s,h=>by
  rw[List.cons_lt_cons_iff]
  simp only[bytesBefore,Bool.or_eq_true,Bool.and_eq_true,decide_eq_true_eq,beq_iff_eq]at h
  rcases h with h|⟨h1,h2⟩
  ·exact .inl h
  ·exact .inr ⟨h1,SN h2⟩
theorem vM {α:Type} {l:List (Nm×α)} (hl:aS bytesBefore l) {ss:List Nm} (hp:ss.Perm (l.map (·.1))):ss.mergeSort (fun x y=>decide (x≤y))=l.map (·.1):=by
 have h1:(ss.mergeSort (fun x y=>decide (x≤y))).Pairwise (fun a b=>decide (a≤b)=true):=List.pairwise_mergeSort (fun a b c h1 h2=>by simp only[decide_eq_true_eq]at*;exact List.le_trans h1 h2) (fun a b=>by simp only[Bool.or_eq_true,decide_eq_true_eq];exact List.le_total a b) ss
 have h2:(l.map (·.1)).Pairwise (fun a b=>decide (a≤b)=true):=by
  rw[List.pairwise_map]
  exact hl.imp fun{a b} h=>by simp only[decide_eq_true_eq];exact List.le_of_lt (SN h)
 exact((List.mergeSort_perm ss _).trans hp).eq_of_pairwise (fun a b _ _ h1 h2=>by simp only[decide_eq_true_eq]at h1 h2;exact List.le_antisymm h1 h2) h1 h2
def mX (T:aG) (id:Int):List Nm×Int:=match aj id T with
 |none=>([],20)
 |some x=>if x.kind=2 then(x.names.map (·.1),0)else([],23)
def vN (w:World) (q:List Nm×Int) (e:Ending) (w':World):Prop:=
 ∃a c,e= .returned (.tuple #[.slice a q.1.length c, .int .i64 q.2])∧q.1.length≤c∧aK (fun x=>w.heap.size≤x∧x<w'.heap.size) w' a q.1.length (q.1.map strOf)∧Below w.heap.size w w'
section
variable {g:Nat→Own} {D:Nat→Prop} {p mb:Nat} {ib nb:Int→Nat} {T:aG}
set_option maxRecDepth 100000 in
set_option maxHeartbeats 2000000 in
theorem J6 (id:Int) (w:World) (h:aO g D w p mb ib nb T) (hT:dX T) (hid:(Lit.int .i64 id).wf=true):Calls Tryz.prog 120 #[ptr p, .int .i64 id] w (vN w (mX T id)):=by
 obtain⟨hc0,hpw,hmw⟩:=h.cell
 have hok:bC.ok id:=hid
 have gG:=Lib.hid h.map
 have HT:=Lib.hid hT
 cases hx:aj id T with
 |none=>
  have HG:Hid (aj id (T.map fun q=>(q.1,ptr (ib q.1)))=none):=by rw[dR,hx];rfl
  have HL:Hid (mX T id=([],20)):=by unfold mX;rw[hx];exact rfl
  clear hx h hT hid
  go_enter Tryz.func120,Tryz.ntmps120
  go_wp2_with (first|(at_lookup;refine aJ bC rfl _ _ 101 99 rfl Tryz.underlying101 (Tryz.bA _) rfl gG.out id rfl hok ?_;rw[HG.out]))
  go_ret2
  rw[HL.out]
  exact⟨none,0,rfl,Nat.le_refl _,⟨aC.nil _ _ _,by simp⟩,Below.refl _ _⟩
 |some x=>
  have HG:Hid (aj id (T.map fun q=>(q.1,ptr (ib q.1)))=some (ptr (ib id))):=by rw[dR,hx];rfl
  obtain⟨c0,c1,c2,c3,c4,c5,c7,hiw⟩:=(h.item id x hx).cell
  have O1:=Lib.hid (hT.each id x hx)
  have vH:=hT.few hx
  by_cases hk:x.kind=2
  ·have HL:Hid (mX T id=(x.names.map (·.1),0)):=by unfold mX;rw[hx];simp only[if_pos hk];first|exact rfl|exact trivial
   have e2:gF x (nb id)= .map (some (nb id)):=if_pos hk
   rw[e2]at c7
   rw[hk]at c1
   have hM:=(h.item id x hx).names hk
   have hsz:(cO x).length=x.names.length:=List.length_map _
   have hkk:=Tryz.Ed (some (nb id)) w
   have hs:=Tryz.CJ (nb id) (cO x).length (vk dN (cO x)) mI w hM (by rw[kL,hsz];unfold maxLen;omega) (by rw[kL,hsz];omega)
   clear hx h hT hid hk e2 hM hsz
   go_enter Tryz.func120,Tryz.ntmps120
   go_wp2_with (first|(at_lookup;refine aJ bC rfl _ _ 101 99 rfl Tryz.underlying101 (Tryz.bA _) rfl gG.out id rfl hok ?_;rw[HG.out])|(go_at_call 92;refine hkk.mono ?_;rintro e w' ⟨rfl,rfl⟩)|(go_at_call 91;refine hs.mono ?_;rintro e w' ⟨v,ss,rfl,hp,hown,hnil,hB⟩))
   go_ret2
   rw[HL.out]
   rw[yj]at hp
   have hml:(cO x).map (·.1)=x.names.map (·.1):=by unfold cO;rw[List.map_map];rfl
   rw[hml]at hp
   rw[vM O1.out.sorted hp]at hown
   have hlen:ss.length=(x.names.map (·.1)).length:=hp.length_eq
   have hB2:Below w.heap.size w w':=((Below.refl _ _).alloc (Nat.le_refl _) _).trans (hB.mono (by simp))
   have hs1:=hB.size
   rw[World.size_alloc]at hs1
   have hgood:∀s∈(x.names.map (·.1)).map strOf,s.size≤maxLen:=by
    intro s hs
    obtain⟨l,hl,rfl⟩:=List.mem_map.1 hs
    obtain⟨e,he,rfl⟩:=List.mem_map.1 hl
    have:=n_ _ (O1.out.good e he)
    rw[fV];unfold maxLen;omega
   have hll:(x.names.map (·.1)).length≤4096:=by rw[List.length_map];exact vH
   obtain⟨h1,h2⟩:=hown
   simp only[List.length_map]at h1
   generalize x.names.map (·.1)=L at*
   rcases h2 with⟨rfl,h0⟩|⟨g,cap,cur,rfl,hg,hcur,hc1,hc2,hcs,htk⟩
   ·have:L=[]:=List.eq_nil_of_length_eq_zero (by omega)
    subst this
    exact⟨none,0,rfl,Nat.le_refl _,⟨aC.nil _ _ _,by simp⟩,hB2⟩
   ·have hgw:=(Array.getElem?_eq_some_iff.1 hcur).1
    rw[World.size_alloc]at hg
    refine⟨some ⟨g,0,none⟩,cap,by rw[←hlen];rfl,by simp only;omega,⟨⟨by simp,by simp only;unfold maxLen;omega,fun h0=>⟨g,0,rfl,⟨by omega,hgw⟩,hgw,fun i hi=> ?_⟩⟩,hgood⟩,hB2⟩
    simp only[World.cell?,hcur,Nat.zero_add]
    rw[List.map_map,show L.map (Value.string∘strOf)=L.map Go.Proofs.encStr from rfl]
    rw[←htk,List.getElem?_take,if_pos (show i<ss.length*1 by rw[hlen];simp only at hi;omega)]
    simp
  ·have HL:Hid (mX T id=([],23)):=by unfold mX;rw[hx];simp only[if_neg hk];first|exact rfl|exact trivial
   have hkk:(x.kind==2)=false:=by simpa using hk
   have hkn:(x.kind !=2)=true:=by simpa using hk
   clear hx h hT hid hk c7
   go_enter Tryz.func120,Tryz.ntmps120
   go_wp2_with (first|(at_lookup;refine aJ bC rfl _ _ 101 99 rfl Tryz.underlying101 (Tryz.bA _) rfl gG.out id rfl hok ?_;rw[HG.out]))
   go_ret2
   rw[HL.out]
   exact⟨none,0,rfl,Nat.le_refl _,⟨aC.nil _ _ _,by simp⟩,Below.refl _ _⟩
end
theorem flat_get {α β:Type} (f:α→List β) (k:Nat) (hk:∀x,(f x).length=k):∀(L:List α) (i j:Nat) (x:α),L[i]? =some x→j<k→(L.flatMap f)[i*k+j]? =(f x)[j]?
 |[],i,j,x,h,_=>by simp at h
 |y::r,0,j,x,h,hj=>by
  simp only[List.getElem?_cons_zero,Option.some.injEq]at h
  subst h
  rw[List.flatMap_cons,Nat.zero_mul,Nat.zero_add,List.getElem?_append_left (by rw[hk];exact hj)]
 |y::r,i+1,j,x,h,hj=>by
  rw[List.flatMap_cons,List.getElem?_append_right (by rw[hk,Nat.add_mul];omega),hk,show(i+1)*k+j-k=i*k+j by rw[Nat.add_mul];omega]
  exact flat_get f k hk r i j x (by simpa using h) hj
abbrev iT:=Int×Nm×Int
def dI (q:Int×bW):List Value:=[.int .i64 q.1, .int .i64 q.2.kind, .int .i64 q.2.links, .int .i64 q.2.b.length, .int .u64 q.2.aQ, .bool q.2.closed]
def fH (e:iT):List Value:=[.int .i64 e.1, .string (strOf e.2.1), .int .i64 e.2.2]
def jQ (q:Int×bW):List iT:=q.2.names.map fun e=>(q.1,e.1,e.2)
def aT (T:aG):List iT:=T.flatMap jQ
def BytesAt (F:Nat→Prop) (w:World) (a:Option Addr) (bs:List (List UInt8)):Prop:=
 ∃vs:List Value,aC F w a bs.length vs∧∀(i:Nat) (b:List UInt8),bs[i]? =some b→∃(a:Option Addr) (c:Nat),vs[i]? =some (.slice a b.length c)∧mg b.length c∧aC F w a b.length (b.map bv)
theorem BytesAt.move {F F':Nat→Prop} {w w':World} {a:Option Addr} {bs:List (List UInt8)} (h:BytesAt F w a bs) (hs:w.heap.size≤w'.heap.size) (hk:∀b,F b→b<w.heap.size→F' b∧w'.heap[b]? =w.heap[b]?):BytesAt F' w' a bs:=by
 obtain⟨vs,h1,h2⟩:=h
 refine⟨vs,h1.move hs hk,fun i b hb=> ?_⟩
 obtain⟨a,c,h3,h4,h5⟩:=h2 i b hb
 exact⟨a,c,h3,h4,h5.move hs hk⟩
def sl (a:Option Addr) (n c:Nat):Value:= .slice a n c
def Base (a:Option Addr) (c:Nat):Prop:=(a=none∧c=0)∨∃b,a=some ⟨b,0,none⟩
def Off (F:Nat→Prop) (r:Nat):Nat→Prop:=fun b=>F b∧b≠r
structure gY (F:Nat→Prop) (w:World) (r:Nat) (T:aG) (D:List (List UInt8)) (E:List iT):Prop where
 head:∃aN cN aD cD aE cE,w.heap[r]? =some (.cells #[.slice aN T.length cN, .slice aD D.length cD, .slice aE E.length cE] 107 (0,0))∧T.length≤cN∧D.length≤cD∧E.length≤cE∧
  aC (Off F r) w aN (T.length*6) (T.flatMap dI)∧BytesAt (Off F r) w aD D∧aC (Off F r) w aE (E.length*3) (E.flatMap fH)∧Base aE cE
 own:F r
 low:∀b,F b→b<w.heap.size
abbrev iq (F:Nat→Prop) (w:World) (r:Nat) (T:aG):Prop:=gY F w r T (T.map fun q=>q.2.b) (aT T)
theorem gY.keeps {F fp:Nat→Prop} {w w':World} {r:Nat} {T:aG} {D:List (List UInt8)} {E:List iT} (h:gY F w r T D E) (hK:Keeps fp w w') (hn:∀b,F b→¬fp b):gY F w' r T D E:=by
 have hk:∀b,Off F r b→b<w.heap.size→Off F r b∧w'.heap[b]? =w.heap[b]? :=fun b hb hbw=>⟨hb,hK.block b hbw (hn b hb.1)⟩
 obtain⟨aN,cN,aD,cD,aE,cE,h1,h2,h3,h4,h8,h9,h10,h11⟩:=h.head
 exact⟨⟨aN,cN,aD,cD,aE,cE,(hK.block r (h.low r h.own) (hn r h.own)).trans h1,h2,h3,h4,h8.move hK.size hk,h9.move hK.size hk,h10.move hK.size hk,h11⟩,h.own,fun b hb=>Nat.lt_of_lt_of_le (h.low b hb) hK.size⟩
theorem gY.below {F:Nat→Prop} {w w':World} {B r:Nat} {T:aG} {D:List (List UInt8)} {E:List iT} (h:gY F w r T D E) (hb:Below B w w') (hB:w.heap.size≤B):gY F w' r T D E:=
 h.keeps (fp:=fun x=>B≤x) (Keeps.below hb) fun x hx hf=>by have:=h.low x hx;omega
theorem fu (q:Int×bW):(dI q).length=6:=rfl
theorem iN (e:iT):(fH e).length=3:=rfl
theorem aC.wide {α:Type} {F:Nat→Prop} {w:World} {a:Option Addr} {n k:Nat} {f:α→List Value} {L:List α} (h:aC F w a (n*k) (L.flatMap f)) (hk:∀x,(f x).length=k) (hn:L.length=n) {i:Nat} {x:α} (hx:L[i]? =some x) (hk0:0<k):
  ∃b off,a=some ⟨b,off,none⟩∧F b∧b<w.heap.size∧i<n∧∀j,j<k→w.cell? ⟨b,off+i*k+j,none⟩=(f x)[j]? :=by
 have hi:i<n:=by rw[←hn];exact(List.getElem?_eq_some_iff.1 hx).1
 have hik:i*k+k≤n*k:=by rw[←Nat.succ_mul];exact Nat.mul_le_mul_right k hi
 obtain⟨b,off,e,hF,hb,hc⟩:=h.at_ (by omega)
 refine⟨b,off,e,hF,hb,hi,fun j hj=> ?_⟩
 rw[Nat.add_assoc,hc (i*k+j) (by omega),flat_get f k hk L i j x hx hj]
section
variable {F:Nat→Prop} {r:Nat} {T:aG} {D:List (List UInt8)} {E:List iT}
def oL (id:Int) (q:Int×bW):Bool:=decide (q.1=id)
set_option maxHeartbeats 1000000 in
theorem tN (id:Int) (w:World) (h:gY F w r T D E) (hl:T.length≤64):Calls Tryz.prog 69 #[ptr r, .int .i64 id] w fun e w'=>e= .returned (.int .i64 (pG (oL id) T))∧w=w':=by
 obtain⟨aN,cN,aD,cD,aE,cE,h1,-,-,-,hN,-,-,-⟩:=h.head
 have hr0:=h.low r h.own
 have hc0:w.cell? ⟨r,0,none⟩=some (.slice aN T.length cN):=by simp[World.cell?,h1]
 have HN:=Lib.hid hN
 obtain⟨n,hn⟩:∃n,n=T.length:=⟨_,rfl⟩
 rw[←hn]at hc0 hl HN
 have HL:=Lib.hid hn
 clear h h1 hN hn
 go_enter Tryz.func69,Tryz.ntmps69
 go_wp2
 go_loop [5] (fun i=>∃k:Nat,k≤n∧i= .int .i64 k∧(T.take k).any (oL id)=false) (fun i=>n-(intOf i).toNat)
 case atStart=>exact⟨0,by omega,rfl,by simp⟩
 case round=>
  obtain⟨k,hk,rfl,hany⟩:=hrel
  have HA:=Lib.hid hany
  clear hany
  by_cases hlt:k<n
  ·have hx:T[k]? =some (T[k]'(by have:=HL.out;omega)):=List.getElem?_eq_getElem _
   obtain⟨q,hq⟩:∃q,q=T[k]'(by have:=HL.out;omega):=⟨_,rfl⟩
   rw[←hq]at hx
   have HX:=Lib.hid hx
   obtain⟨b,off,rfl,hF,hb,hi,hc⟩:=HN.out.wide fu HL.out.symm hx (by omega)
   have c0:w.cell? ⟨b,off+k*6,none⟩=some (.int .i64 q.1):=hc 0 (by omega)
   clear hx hq hc
   have i0:(0:Int)≤k:=by omega
   have i1:(k:Int)<n:=by omega
   by_cases hp:q.1=id
   ·have hpp:(q.1==id)=true:=by simpa using hp
    have HP:Hid (oL id q=true):=by show oL id q=true;simp[oL,hp]
    clear hp
    go_wp2
    go_ret
    exact⟨gV (wS HA.out HX.out HP.out).symm,rfl⟩
   ·have hpp:(q.1==id)=false:=by simpa using hp
    have HP:Hid (oL id q=false):=by show oL id q=false;simp[oL,hp]
    clear hp
    go_wp2
    go_round
    case rel=>exact⟨k+1,by omega,by go_num,any_take_succ HA.out HX.out HP.out⟩
    case measure=>simp[intOf];omega
  ·go_wp2
   go_ret
   exact⟨gV (nM (by have:=HA.out;rwa [List.take_of_length_le (by have:=HL.out;omega)]at this)).symm,rfl⟩
end
theorem vO {T:aG} {id:Int} (h:aj id T=none):pG (oL id) T= -1:=by
 refine nM ?_
 rw[List.any_eq_false]
 intro q hq
 have:=iX.1 h q hq
 simpa[oL]using this
theorem jF {T:aG} (hs:aS g_ T) {id:Int} {x:bW} (h:aj id T=some x):∃k:Nat,pG (oL id) T=k∧T[k]? =some (id,x):=by
 cases hf:T.findIdx? (oL id)with
 |none=>
  rw[List.findIdx?_eq_none_iff]at hf
  have:=hf _ (bP h)
  simp[oL]at this
 |some k=>
  refine⟨k,by simp[pG,hf],?_⟩
  rw[List.findIdx?_eq_some_iff_getElem]at hf
  obtain⟨hk,hp,_⟩:=hf
  have h1:T[k]? =some T[k]:=List.getElem?_eq_getElem hk
  have h2:T[k].1=id:=by simpa[oL]using hp
  have h3:=bf dU hs (List.getElem_mem hk)
  rw[h2,h]at h3
  rw[h1]
  congr 1
  exact Prod.ext h2 (Option.some.inj h3).symm
def gP (d:Int) (n:Nm) (e:iT):Bool:=decide (e.1=d∧e.2.1=n)
section
variable {F:Nat→Prop} {r:Nat} {T:aG} {D:List (List UInt8)} {E:List iT}
theorem gY.node {w:World} (h:gY F w r T D E) {k:Nat} {q:Int×bW} (hq:T[k]? =some q):∃b off c,w.cell? ⟨r,0,none⟩=some (.slice (some ⟨b,off,none⟩) T.length c)∧Off F r b∧b<w.heap.size∧k<T.length∧w.cell? ⟨b,off+k*6,none⟩=some (.int .i64 q.1)∧w.cell? ⟨b,off+k*6+1,none⟩=some (.int .i64 q.2.kind)∧w.cell? ⟨b,off+k*6+2,none⟩=some (.int .i64 q.2.links)∧w.cell? ⟨b,off+k*6+3,none⟩=some (.int .i64 q.2.b.length)∧w.cell? ⟨b,off+k*6+4,none⟩=some (.int .u64 q.2.aQ)∧w.cell? ⟨b,off+k*6+5,none⟩=some (.bool q.2.closed):=by
 obtain⟨aN,cN,aD,cD,aE,cE,h1,-,-,-,hN,-,-,-⟩:=h.head
 obtain⟨b,off,rfl,hF,hb,hi,hc⟩:=hN.wide fu rfl hq (by omega)
 exact⟨b,off,cN,by simp[World.cell?,h1],hF,hb,hi,hc 0 (by omega),hc 1 (by omega),hc 2 (by omega),hc 3 (by omega),hc 4 (by omega),hc 5 (by omega)⟩
theorem gY.data {w:World} (h:gY F w r T D E) {k:Nat} {d:List UInt8} (hq:D[k]? =some d):∃b off c a c',w.cell? ⟨r,1,none⟩=some (.slice (some ⟨b,off,none⟩) D.length c)∧Off F r b∧b<w.heap.size∧w.cell? ⟨b,off+k,none⟩=some (.slice a d.length c')∧mg d.length c'∧aC (Off F r) w a d.length (d.map bv):=by
 obtain⟨aN,cN,aD,cD,aE,cE,h1,-,-,-,-,hD,-,-⟩:=h.head
 obtain⟨vs,hv,hrow⟩:=hD
 have hk:k<D.length:=(List.getElem?_eq_some_iff.1 hq).1
 obtain⟨b,off,rfl,hF,hb,hc⟩:=hv.at_ (by omega)
 obtain⟨a,c',h3,h4,h5⟩:=hrow k d hq
 exact⟨b,off,cD,a,c',by simp[World.cell?,h1],hF,hb,by rw[hc k hk];exact h3,h4,h5⟩
theorem gY.ent {w:World} (h:gY F w r T D E):∃a c,w.cell? ⟨r,2,none⟩=some (.slice a E.length c)∧E.length≤c∧aC (Off F r) w a (E.length*3) (E.flatMap fH)∧Base a c:=by
 obtain⟨aN,cN,aD,cD,aE,cE,h1,-,-,h4,-,-,hE,hz⟩:=h.head
 exact⟨aE,cE,by simp[World.cell?,h1],h4,hE,hz⟩
theorem gY.nodes {w:World} (h:gY F w r T D E):∃a c,w.cell? ⟨r,0,none⟩=some (.slice a T.length c)∧T.length≤c:=by
 obtain⟨aN,cN,aD,cD,aE,cE,h1,h4,-,-,-,-,-,-⟩:=h.head
 exact⟨aN,cN,by simp[World.cell?,h1],h4⟩
set_option maxHeartbeats 1000000 in
theorem jA (id:Int) (w:World) (h:gY F w r T D E) (hT:yQ T):Calls Tryz.prog 57 #[ptr r, .int .i64 id] w fun e w'=>e= .returned (.tuple #[jf T id, .bool (aj id T).isSome])∧Below w.heap.size w w':=by
 have hlen:=hT.len
 have HR:=Lib.hid (fun o=>tN id (w.alloc o) (h.below (wall w o) (Nat.le_refl _)) hlen)
 have hr0:=h.low r h.own
 unfold jf
 cases hx:aj id T with
 |none=>
  rw[vO hx]at HR
  clear h hx hT
  go_enter Tryz.func57,Tryz.ntmps57
  go_wp2_with fail
  (with_reducible refine(HR.out _).mono ?_)
  rintro e w1 ⟨rfl,rfl⟩
  go_wp2_with fail
  exact bodyPost_ret (v:= .tuple #[.agg #[.int .i64 0, .int .i64 0, .int .i64 0, .int .i64 0, .int .u64 0, .bool false], .bool false]) (by simp[results,Tryz.results57,go_sem]) rfl ⟨rfl,wall w _⟩
 |some x=>
  obtain⟨k,hk,hq⟩:=jF hT.sorted hx
  rw[hk]at HR
  obtain⟨b,off,c,hc0,hF,hb,hkl,c0,c1,c2,c3,c4,c5⟩:=h.node hq
  have i0:(0:Int)≤k:=by omega
  have i1:(k:Int)<T.length:=by omega
  have i2:¬(k:Int)<0:=by omega
  simp only at c0 c1 c2 c3 c4 c5
  clear h hx hk hq hT
  unfold jE
  go_enter Tryz.func57,Tryz.ntmps57
  go_wp2_with fail
  (with_reducible refine(HR.out _).mono ?_)
  rintro e w1 ⟨rfl,rfl⟩
  go_wp2_with fail
  exact bodyPost_ret (v:= .tuple #[.agg #[.int .i64 id, .int .i64 x.kind, .int .i64 x.links, .int .i64 x.b.length, .int .u64 x.aQ, .bool x.closed], .bool true]) (by simp[results,Tryz.results57,go_sem]) rfl ⟨rfl,wall w _⟩
set_option maxHeartbeats 1000000 in
theorem jG (d:Int) (nm:Nm) (w:World) (h:gY F w r T D E) (hl:E.length≤1000000):Calls Tryz.prog 68 #[ptr r, .int .i64 d, .string (strOf nm)] w fun e w'=>e= .returned (.int .i64 (pG (gP d nm) E))∧w=w':=by
 obtain⟨aE,cE,hc0,-,hE,-⟩:=h.ent
 have hr0:=h.low r h.own
 have HN:=Lib.hid hE
 obtain⟨n,hn⟩:∃n,n=E.length:=⟨_,rfl⟩
 rw[←hn]at hc0 hl HN
 have HL:=Lib.hid hn
 clear h hE hn
 go_enter Tryz.func68,Tryz.ntmps68
 go_wp2
 go_loop [7] (fun i=>∃k:Nat,k≤n∧i= .int .i64 k∧(E.take k).any (gP d nm)=false) (fun i=>n-(intOf i).toNat)
 case atStart=>exact⟨0,by omega,rfl,by simp⟩
 case round=>
  obtain⟨k,hk,rfl,hany⟩:=hrel
  have HA:=Lib.hid hany
  clear hany
  by_cases hlt:k<n
  ·have hx:E[k]? =some (E[k]'(by have:=HL.out;omega)):=List.getElem?_eq_getElem _
   obtain⟨q,hq⟩:∃q,q=E[k]'(by have:=HL.out;omega):=⟨_,rfl⟩
   rw[←hq]at hx
   have HX:=Lib.hid hx
   obtain⟨b,off,rfl,hF,hb,hi,hc⟩:=HN.out.wide iN HL.out.symm hx (by omega)
   have c0:w.cell? ⟨b,off+k*3,none⟩=some (.int .i64 q.1):=hc 0 (by omega)
   have c1:w.cell? ⟨b,off+k*3+1,none⟩=some (.string (strOf q.2.1)):=hc 1 (by omega)
   clear hx hq hc
   have i0:(0:Int)≤k:=by omega
   have i1:(k:Int)<n:=by omega
   by_cases hp:q.1=d
   ·have hpp:(q.1==d)=true:=by simpa using hp
    by_cases hp2:q.2.1=nm
    ·have HP:Hid (gP d nm q=true):=by show gP d nm q=true;simp[gP,hp,hp2]
     rw[hp2]at c1
     clear hp hp2
     go_wp2
     go_ret
     exact⟨gV (wS HA.out HX.out HP.out).symm,rfl⟩
    ·have HP:Hid (gP d nm q=false):=by show gP d nm q=false;simp[gP,hp,hp2]
     obtain⟨hs1,hs2⟩:=MP hp2
     clear hp hp2
     go_wp2
     go_round
     case rel=>exact⟨k+1,by omega,by go_num,any_take_succ HA.out HX.out HP.out⟩
     case measure=>simp[intOf];omega
   ·have hpp:(q.1==d)=false:=by simpa using hp
    have HP:Hid (gP d nm q=false):=by show gP d nm q=false;simp[gP,hp]
    clear hp
    go_wp2
    go_round
    case rel=>exact⟨k+1,by omega,by go_num,any_take_succ HA.out HX.out HP.out⟩
    case measure=>simp[intOf];omega
  ·go_wp2
   go_ret
   exact⟨gV (nM (by have:=HA.out;rwa [List.take_of_length_le (by have:=HL.out;omega)]at this)).symm,rfl⟩
end
theorem CK {S S':Nat→Prop} (a a':Option Addr) (len cap len' cap':Nat) (ss ss':List ByteArray) (w:World) (h:aK S w a len ss) (h':aK S' w a' len' ss'):
  Calls Tryz.prog 181 #[.slice a len cap, .slice a' len' cap'] w fun e w'=>e= .returned (.bool (decide (ss=ss')))∧Below w.heap.size w w':=by
 have hl:=h.length
 have hl':=h'.length
 have hm:=h.row.small
 have hm':=h'.row.small
 unfold maxLen at hm hm'
 by_cases hne:len=len'
 ·subst hne
  by_cases h0:len=0
  ·subst h0
   refine(Tryz.slices_Equal_string_empty a a' cap 0 cap' w (by omega)).mono ?_
   rintro e w' ⟨rfl,rfl⟩
   obtain rfl:ss=[]:=by simpa using hl
   obtain rfl:ss'=[]:=by simpa using hl'
   exact⟨rfl,Below.refl _ _⟩
  ·obtain⟨b,off,rfl,_,_,_⟩:=h.row.at_ (by omega)
   obtain⟨b',off',rfl,_,_,_⟩:=h'.row.at_ (by omega)
   refine(Tryz.slices_Equal_string b off len cap b' off' len cap' ss ss' w (by omega) (by omega) (by omega) (by omega) (fun j hj=>p8 h j hj) (fun j hj=>p8 h' j hj)).mono ?_
   rintro e w' ⟨rfl,q,rfl⟩
   rw[List.take_of_length_le (by omega),List.take_of_length_le (by omega)]
   exact⟨rfl,⟨rfl,rfl,rfl,Nat.le_refl _,fun _ _=>rfl⟩⟩
 ·refine(Tryz.slices_Equal_string_lens a a' len cap len' cap' w hne).mono ?_
  rintro e w' ⟨rfl,rfl⟩
  have:ss≠ss':=fun e=>hne (by rw[←hl,←hl',e])
  exact⟨by simp[this],Below.refl _ _⟩
def j5 (ss ss':List ByteArray):Bool:=decide (ss.take ss'.length=ss')
theorem Fw {S S':Nat→Prop} (a a':Option Addr) (len cap len' cap':Nat) (ss ss':List ByteArray) (w:World) (h:aK S w a len ss) (h':aK S' w a' len' ss') (hcap:len≤cap):
  Calls Tryz.prog 150 #[.slice a len cap, .slice a' len' cap'] w fun e w'=>e= .returned (.bool (j5 ss ss'))∧Below w.heap.size w w':=by
 have hl:=h.length
 have hl':=h'.length
 have hm:=h.row.small
 unfold maxLen at hm
 by_cases hle:len'≤len
 ·have hT:=h.take len' hle
  have hp:decide (ss.take len'=ss')=j5 ss ss':=by
   unfold j5;rw[hl']
  have HP:=Lib.hid hp
  clear hp hl hl'
  have e5:len'≤cap:=by omega
  cases a with
  |none=>
   have h0:len'=0:=by
    rcases Nat.eq_zero_or_pos len' with h0|h0
    ·exact h0
    ·obtain⟨b,off,e,_⟩:=h.row.at_ (by omega)
     cases e
   subst h0
   go_enter Tryz.func150,Tryz.ntmps150
   go_wp2_with fail
   refine(CK _ _ _ _ _ _ _ _ _ hT h').mono ?_
   rintro e w1 ⟨rfl,hb⟩
   rw[HP.out]
   go_wp2_with fail
   go_ret
   exact⟨rfl,hb⟩
  |some ad=>
   go_enter Tryz.func150,Tryz.ntmps150
   go_wp2_with fail
   refine(CK _ _ _ _ _ _ _ _ _ hT h').mono ?_
   rintro e w1 ⟨rfl,hb⟩
   rw[HP.out]
   go_wp2_with fail
   go_ret
   exact⟨rfl,hb⟩
 ·have hp:j5 ss ss'=false:=by
   unfold j5
   rw[decide_eq_false_iff_not]
   intro hh
   have:=congrArg List.length hh
   simp at this
   omega
  have HP:=Lib.hid hp
  clear hp hl hl'
  go_enter Tryz.func150,Tryz.ntmps150
  go_wp2_with fail
  go_ret
  exact⟨iH HP.out.symm,Below.refl _ _⟩
theorem uD {α:Type} {l l':List α} {k:Nat} {x y:α} (hx:l[k]? =some x) (hy:l'[k]? =some y) (h:x≠y):l≠l':=by
 intro e;rw[e,hy]at hx;exact h (Option.some.inj hx).symm
theorem vP {α:Type} {l l':List α} {k:Nat} {x:α} (h:l.take k=l'.take k) (hx:l[k]? =some x) (hy:l'[k]? =some x):l.take (k+1)=l'.take (k+1):=by
 rw[List.take_add_one,List.take_add_one,h,hx,hy]
theorem CO {x y:ByteArray} (h:x≠y):(x.toList==y.toList)=false:=by
 rw[beq_eq_false_iff_ne,ByteArray.toList_eq,ByteArray.toList_eq]
 intro e
 exact h (WideShapes.bytes_inj e)
theorem Nv (s:ByteArray) (k:Nat) (h:k<s.size):s[k]=s.data.toList.getD k 0:=by
 have h2:k<s.data.toList.length:=by simpa using h
 simp only[List.getD,List.getElem?_eq_getElem h2,Option.getD_some]
 rfl
set_option maxHeartbeats 1000000 in
theorem KZ (s:ByteArray) (w:World) (hs:s.size≤maxLen):
  Calls Tryz.prog 137 #[.string s] w fun e w'=>e= .returned (.bool (dw s.data.toList))∧Below w.heap.size w w':=by
 unfold maxLen at hs
 have hb:=Below.refl w.heap.size w
 go_enter Tryz.func137,Tryz.ntmps137
 go_wp2
 go_loop [3] (fun i=>∃k:Nat,k≤s.size∧i= .int .i64 k∧(s.data.toList.take k).all iF=true) (fun i=>s.size-(intOf i).toNat)
 case atStart=>exact⟨0,by omega,rfl,rfl⟩
 case round=>
  obtain⟨k,hk,rfl,ha⟩:=hrel
  have HA:=Lib.hid ha
  clear ha
  by_cases hlt:k<s.size
  ·obtain⟨c,hcc⟩:∃c,c=s.data.toList.getD k 0:=⟨_,rfl⟩
   have hix:=Nv s k hlt
   rw[←hcc]at hix
   have hsn:=EO iF s.data.toList k (by simpa using hlt)
   rw[←hcc]at hsn
   have HS:=Lib.hid hsn
   have HG:Hid (iF c=false→dw s.data.toList=false):=fun h=>by
    have:=EP iF s.data.toList k (by simpa using hlt)
    rw[←hcc]at this
    simp[dw,this h]
   clear hsn hcc
   have hbd:=JH c
   rcases JG c with⟨ho,h1,h2⟩|⟨ho,h1,h2,h3⟩|⟨ho,h1⟩|⟨ho,h1⟩|⟨ho,h1⟩|⟨ho,h1,h2,h3,h4,h5,h6⟩|⟨ho,h1,h2,h3,h4,h5,h6⟩|⟨ho,h1,h2,h3,h4,h5⟩
   iterate 5
    ·have HO:=Lib.hid ho
     clear ho HG
     go_wp2
     go_round
     case rel=>exact⟨k+1,by omega,by go_num,by rw[HS.out,HA.out,HO.out];rfl⟩
     case measure=>simp[intOf];omega
   iterate 3
    ·have HO:=Lib.hid ho
     clear ho
     go_wp2
     go_ret
     exact⟨iH (HG.out HO.out).symm,hb⟩
  ·have hk':k=s.size:=by omega
   have HA2:s.data.toList.all iF=true:=by
    have:=HA.out
    rw[hk',List.take_of_length_le (by simp)]at this
    exact this
   have hl:s.data.toList.length=s.size:=by simp
   have he:=ByteArray.toList_eq s
   have ways:(s.toList=[]∧s.toList.isEmpty=true∧dw s.data.toList=false)∨
     (¬s.toList=[]∧s.toList.isEmpty=false∧16<s.size∧dw s.data.toList=false)∨
     (¬s.toList=[]∧s.toList.isEmpty=false∧s.size≤16∧s.toList=[46]∧(s.toList==[46])=true∧dw s.data.toList=false)∨
     (¬s.toList=[]∧s.toList.isEmpty=false∧s.size≤16∧¬s.toList=[46]∧(s.toList==[46])=false∧s.toList=[46,46]∧(s.toList==[46,46])=true∧dw s.data.toList=false)∨
     (¬s.toList=[]∧s.toList.isEmpty=false∧s.size≤16∧¬s.toList=[46]∧(s.toList==[46])=false∧¬s.toList=[46,46]∧(s.toList==[46,46])=false∧dw s.data.toList=true):=by
    rw[he]
    generalize s.data.toList=l at HA2 hl
    rw[←hl]
    exact Cg l HA2
   have hz1:Hid (s.toList=[]→s.size<1):=fun h=>by rw[he]at h;rw[h]at hl;simp at hl;omega
   have hz2:Hid (¬s.toList=[]→1≤s.size):=fun h=>by
    rw[he]at h
    have:=List.length_pos_iff.2 h
    omega
   clear HA2 hl he HA hk'
   rcases ways with⟨h1,h2,hg⟩|⟨h1,h2,h3,hg⟩|⟨h1,h2,h3,h4,h5,hg⟩|⟨h1,h2,h3,h4,h5,h6,h7,hg⟩|⟨h1,h2,h3,h4,h5,h6,h7,hg⟩
   ·have hz:=hz1.out h1
    have HG:=Lib.hid hg
    clear hg
    go_wp2
    go_ret
    exact⟨iH HG.out.symm,hb⟩
   all_goals
    have hz:=hz2.out h1
    have HG:=Lib.hid hg
    clear hg
    go_wp2
    go_ret
    exact⟨iH HG.out.symm,hb⟩
theorem Fx {S S':Nat→Prop} (a a':Option Addr) (len cap len' cap':Nat) (ss ss':List ByteArray) (w:World) (h:aK S w a len ss) (h':aK S' w a' len' ss'):
  Calls Tryz.prog 152 #[.slice a len cap, .slice a' len' cap'] w fun e w'=>e= .returned (.bool (j5 ss ss'))∧Below w.heap.size w w':=by
 have hl:=h.length
 have hl':=h'.length
 have hm:=h.row.small
 have hm':=h'.row.small
 unfold maxLen at hm hm'
 by_cases hle:len'≤len
 ·have HL:=Lib.hid hl
  have WW:=Lib.hid hl'
  clear hl hl'
  go_enter Tryz.func152,Tryz.ntmps152
  go_wp2
  go_loopw [5] (fun i wr=>∃k:Nat,k≤len'∧i= .int .i64 k∧ss.take k=ss'.take k∧Below w.heap.size w wr) (fun i _=>len'-(intOf i).toNat)
  case atStart=>exact⟨0,by omega,rfl,rfl,Below.refl _ _⟩
  case round=>
   obtain⟨k,hk,rfl,ht,hb⟩:=hrel
   have HT:=Lib.hid ht
   clear ht
   by_cases hlt:k<len'
   ·obtain⟨b,off,x,rfl,_,_,hx,_,hc⟩:=(h.below hb (Nat.le_refl _)).cell k (by omega)
    obtain⟨b',off',y,rfl,_,_,hy,_,hc'⟩:=(h'.below hb (Nat.le_refl _)).cell k hlt
    have HX:=Lib.hid hx
    have HY:=Lib.hid hy
    clear hx hy h h'
    have hk0:(0:Int)≤(k:Int):=by omega
    have hk1:(k:Int)<(len:Int):=by omega
    have hk2:(k:Int)<(len':Int):=by omega
    by_cases hxy:x=y
    ·subst hxy
     go_wp2
     go_quiet (fail)
     go_wp2
     go_roundw
     case rel=>exact⟨k+1,by omega,by go_num,vP HT.out HX.out HY.out,hb.trans ⟨rfl,rfl,rfl,Nat.le_refl _,fun _ _=>rfl⟩⟩
     case measure=>simp[intOf];omega
    ·have hxl:=CO hxy
     have HN:=Lib.hid hxy
     clear hxy
     go_wp2
     go_quiet (fail)
     go_wp2
     go_ret
     refine⟨iH ?_,hb.trans ⟨rfl,rfl,rfl,Nat.le_refl _,fun _ _=>rfl⟩⟩
     symm
     unfold j5
     rw[decide_eq_false_iff_not]
     refine uD (k:=k) ?_ HY.out HN.out
     rw[List.getElem?_take,if_pos (by have:=WW.out;omega)]
     exact HX.out
   ·have hk':k=len':=by omega
    have HK:=Lib.hid hk'
    clear hk'
    go_wp2
    go_ret
    refine⟨iH ?_,hb⟩
    have:=HT.out
    rw[HK.out]at this
    unfold j5
    rw[WW.out,this,List.take_of_length_le (by have:=WW.out;omega)]
    simp
 ·have hp:j5 ss ss'=false:=by
   unfold j5
   rw[decide_eq_false_iff_not]
   intro hh
   have:=congrArg List.length hh
   simp at this
   omega
  have HP:=Lib.hid hp
  clear hp hl hl'
  go_enter Tryz.func152,Tryz.ntmps152
  go_wp2
  go_ret
  exact⟨iH HP.out.symm,Below.refl _ _⟩
end Go.Proofs.YtmabllemjkcobaaGreat
