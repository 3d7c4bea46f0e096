/- DERIVED: THE SHELF's CONTRACTS AT THIS DUMP, IN PLAIN WORDS (tools/lay-plain.mjs out of 'YtohpcppeajijnaaGreatLaypKeysLayS.lean', which tools/lay-shelf.mjs wrote): THE SAME DECLARATIONS UNDER THE SAME NAMES: 'import', 'namespace', 'open', 'def', 'theorem' AND NOTHING ELSE: no command of the shelf's: FOR A HAND-IN. Each laying: the table of numbers ('.._ren') and one theorem, a field a fact of the dump's own or the kernel's comparison; each contract: ONE APPLICATION. slices.Sorted(maps.Keys(m)) of a directory's names, rising. tree: List. The reference's tree in memory; at, Node, entry. The reference: Node, entry. slices.Equal of texts; path.Within. What chapter 7's reference says: Good, Within. -/
import Derived.Test.YtohpcppeajijnaaGreatProg
import Derived.Shelf.SlIter.Nil
import Derived.Shelf.SlIter.Sorted
import Derived.Shelf.SortM.Plain
import Derived.Shelf.SortM.SortNone
import Derived.Ground.GgzProg
import Derived.Ground.SlgmProg
import Derived.Test.YtohpcppeajijnaaGreatM04
import Derived.Test.YtohpcppeajijnaaGreatM17
import Derived.Test.YtohpcppeajijnaaGreatM09
namespace Go.Proofs
open Go.Shelf
def Tryz.ug:Go.Shelf.Ren:=⟨fun|7=>88|10=>138|n=>n,fun|23=>107|26=>9|3=>3|28=>138|0=>0|27=>137|33=>179|4=>4|n=>n,fun|n=>n⟩
theorem Tryz.Im:Go.Proofs.SlLaysZ.n7 Tryz.prog Tryz.ug:={
 mixed:=by kernel_rfl
 f7:=⟨Tryz.f88.name,by decide,Tryz.func88.trans (congrArg some (by kernel_rfl))⟩
 f10:=⟨Tryz.f138.name,by decide,Tryz.func138.trans (congrArg some (by kernel_rfl))⟩
 t0:=Tryz.underlying0
 a0:=Tryz.isAgg0
 z0:=Tryz.sizeOf0
 v0:=Tryz.zeroValue0
 t4:=Tryz.underlying4
 a4:=Tryz.isAgg4
 z4:=Tryz.sizeOf4
 v4:=Tryz.zeroValue4
 t23:=Tryz.underlying107
 a23:=Tryz.isAgg107
 z23:=Tryz.sizeOf107
 v23:=Tryz.zeroValue107
 t26:=Tryz.underlying9
 a26:=Tryz.isAgg9
 z26:=Tryz.sizeOf9
 v26:=Tryz.zeroValue9
 t27:=Tryz.underlying137
 a27:=Tryz.isAgg137
 z27:=Tryz.sizeOf137
 v27:=Tryz.zeroValue137
 t28:=Tryz.underlying138
 a28:=Tryz.isAgg138
 z28:=Tryz.sizeOf138
 v28:=Tryz.zeroValue138
 t33:=Tryz.underlying179
 a33:=Tryz.isAgg179
 z33:=Tryz.sizeOf179
 v33:=Tryz.zeroValue179}
def Tryz.uL:Go.Shelf.Ren:=⟨fun|6=>87|8=>136|9=>137|11=>172|13=>174|12=>173|23=>198|24=>199|14=>189|15=>190|16=>191|17=>192|18=>193|19=>194|20=>195|21=>196|22=>197|25=>225|26=>226|27=>227|28=>228|29=>229|30=>230|31=>242|n=>n,fun|26=>9|28=>138|24=>26|0=>0|3=>3|37=>153|48=>154|50=>43|4=>4|40=>231|39=>230|45=>106|5=>5|9=>9|51=>266|55=>269|57=>280|58=>31|33=>179|n=>n,fun|n=>n⟩
theorem Tryz.EA:Go.Proofs.SlLaysZ.n6 Tryz.prog Tryz.uL:={
 mixed:=by kernel_rfl
 f6:=⟨Tryz.f87.name,by decide,Tryz.func87.trans (congrArg some (by kernel_rfl))⟩
 f8:=⟨Tryz.f136.name,by decide,Tryz.func136.trans (congrArg some (by kernel_rfl))⟩
 f11:=⟨Tryz.f172.name,by decide,Tryz.func172.trans (congrArg some (by kernel_rfl))⟩
 t0:=Tryz.underlying0
 a0:=Tryz.isAgg0
 z0:=Tryz.sizeOf0
 v0:=Tryz.zeroValue0
 t24:=Tryz.underlying26
 a24:=Tryz.isAgg26
 z24:=Tryz.sizeOf26
 v24:=Tryz.zeroValue26
 t26:=Tryz.underlying9
 a26:=Tryz.isAgg9
 z26:=Tryz.sizeOf9
 v26:=Tryz.zeroValue9
 t28:=Tryz.underlying138
 a28:=Tryz.isAgg138
 z28:=Tryz.sizeOf138
 v28:=Tryz.zeroValue138
 i26:=by kernel_rfl}
def Tryz.FD:Go.Shelf.Ren:=⟨fun|6=>137|8=>174|9=>173|19=>198|20=>199|21=>189|22=>190|23=>191|24=>192|25=>193|26=>194|27=>195|28=>196|29=>197|36=>225|31=>226|32=>227|37=>228|38=>229|39=>230|41=>242|n=>n,fun|27=>26|29=>9|3=>3|32=>153|26=>26|0=>0|44=>154|46=>43|4=>4|36=>231|35=>230|41=>106|5=>5|9=>9|53=>266|57=>269|63=>280|64=>31|n=>n,fun|n=>n⟩
theorem Tryz.Ml:Go.Proofs.SlLaysM.n6 Tryz.prog Tryz.FD:={
 mixed:=by kernel_rfl
 f6:=⟨Tryz.f137.name,by decide,Tryz.func137.trans (congrArg some (by kernel_rfl))⟩
 f8:=Tryz.func174.trans (congrArg some (by kernel_rfl))
 f9:=⟨Tryz.f173.name,by decide,Tryz.func173.trans (congrArg some (by kernel_rfl))⟩
 f19:=Tryz.func198.trans (congrArg some (by kernel_rfl))
 f20:=Tryz.func199.trans (congrArg some (by kernel_rfl))
 f21:=⟨Tryz.f189.name,by decide,Tryz.func189.trans (congrArg some (by kernel_rfl))⟩
 f22:=⟨Tryz.f190.name,by decide,Tryz.func190.trans (congrArg some (by kernel_rfl))⟩
 f23:=⟨Tryz.f191.name,by decide,Tryz.func191.trans (congrArg some (by kernel_rfl))⟩
 f24:=⟨Tryz.f192.name,by decide,Tryz.func192.trans (congrArg some (by kernel_rfl))⟩
 f25:=⟨Tryz.f193.name,by decide,Tryz.func193.trans (congrArg some (by kernel_rfl))⟩
 f26:=⟨Tryz.f194.name,by decide,Tryz.func194.trans (congrArg some (by kernel_rfl))⟩
 f27:=⟨Tryz.f195.name,by decide,Tryz.func195.trans (congrArg some (by kernel_rfl))⟩
 f28:=⟨Tryz.f196.name,by decide,Tryz.func196.trans (congrArg some (by kernel_rfl))⟩
 f29:=⟨Tryz.f197.name,by decide,Tryz.func197.trans (congrArg some (by kernel_rfl))⟩
 f31:=Tryz.func226.trans (congrArg some (by kernel_rfl))
 f32:=Tryz.func227.trans (congrArg some (by kernel_rfl))
 f36:=⟨Tryz.f225.name,by decide,Tryz.func225.trans (congrArg some (by kernel_rfl))⟩
 f37:=⟨Tryz.f228.name,by decide,Tryz.func228.trans (congrArg some (by kernel_rfl))⟩
 f38:=⟨Tryz.f229.name,by decide,Tryz.func229.trans (congrArg some (by kernel_rfl))⟩
 f39:=⟨Tryz.f230.name,by decide,Tryz.func230.trans (congrArg some (by kernel_rfl))⟩
 f41:=⟨Tryz.f242.name,by decide,Tryz.func242.trans (congrArg some (by kernel_rfl))⟩
 t0:=Tryz.underlying0
 a0:=Tryz.isAgg0
 z0:=Tryz.sizeOf0
 v0:=Tryz.zeroValue0
 t3:=Tryz.underlying3
 a3:=Tryz.isAgg3
 z3:=Tryz.sizeOf3
 v3:=Tryz.zeroValue3
 t4:=Tryz.underlying4
 a4:=Tryz.isAgg4
 z4:=Tryz.sizeOf4
 v4:=Tryz.zeroValue4
 t5:=Tryz.underlying5
 a5:=Tryz.isAgg5
 z5:=Tryz.sizeOf5
 v5:=Tryz.zeroValue5
 t9:=Tryz.underlying9
 a9:=Tryz.isAgg9
 z9:=Tryz.sizeOf9
 v9:=Tryz.zeroValue9
 t26:=Tryz.underlying26
 a26:=Tryz.isAgg26
 z26:=Tryz.sizeOf26
 v26:=Tryz.zeroValue26
 t27:=Tryz.underlying26
 a27:=Tryz.isAgg26
 z27:=Tryz.sizeOf26
 v27:=Tryz.zeroValue26
 t29:=Tryz.underlying9
 a29:=Tryz.isAgg9
 z29:=Tryz.sizeOf9
 v29:=Tryz.zeroValue9
 t32:=Tryz.underlying153
 a32:=Tryz.isAgg153
 z32:=Tryz.sizeOf153
 v32:=Tryz.zeroValue153
 t35:=Tryz.underlying230
 a35:=Tryz.isAgg230
 z35:=Tryz.sizeOf230
 v35:=Tryz.zeroValue230
 t36:=Tryz.underlying231
 a36:=Tryz.isAgg231
 z36:=Tryz.sizeOf231
 v36:=Tryz.zeroValue231
 t41:=Tryz.underlying106
 a41:=Tryz.isAgg106
 z41:=Tryz.sizeOf106
 v41:=Tryz.zeroValue106
 t44:=Tryz.underlying154
 a44:=Tryz.isAgg154
 z44:=Tryz.sizeOf154
 v44:=Tryz.zeroValue154
 t46:=Tryz.underlying43
 a46:=Tryz.isAgg43
 z46:=Tryz.sizeOf43
 v46:=Tryz.zeroValue43
 t53:=Tryz.underlying266
 a53:=Tryz.isAgg266
 z53:=Tryz.sizeOf266
 v53:=Tryz.zeroValue266
 t57:=Tryz.underlying269
 a57:=Tryz.isAgg269
 z57:=Tryz.sizeOf269
 v57:=Tryz.zeroValue269
 t63:=Tryz.underlying280
 a63:=Tryz.isAgg280
 z63:=Tryz.sizeOf280
 v63:=Tryz.zeroValue280
 t64:=Tryz.underlying31
 a64:=Tryz.isAgg31
 z64:=Tryz.sizeOf31
 v64:=Tryz.zeroValue31}
open Go.RowKit Go.Maps Go.Sort Go.Shelf
theorem Tryz.Io (m:Nat):AnyZ.SortsIn Tryz.prog Tryz.uL Fence.wide m:=
 ⟨fun blk off cap ss W hH hblk hsz=>callsIn_wide.2 (AnyM.slices_Sort_string Tryz.Ml blk off cap ss W hH hblk hsz),
  fun p cap W=>callsIn_wide.2 (AnyM.slices_Sort_string_none Tryz.Ml p cap W)⟩
theorem Tryz.Af (mb:Option Nat) (W:World):Calls Tryz.prog 88 #[.map mb] W fun e w'=>e= .returned (.func (.func 138) #[] #[.pointer (some ⟨W.heap.size,0,none⟩)])∧w'=W.alloc (.cells #[.map mb] 107):=
 callsIn_wide.1 (AnyZ.keys_in Tryz.Im Fence.wide 5 trivial rfl mb W)
set_option maxHeartbeats 1000000 in
theorem Tryz.yS {H:Type} (b nn:Nat) (D0:DataW H) (R:Value→Option (DataW H×List MemPlace)) (w:World) (hown:w.ownsMap Tryz.prog 9 R b nn D0) (hmax:Maps.size D0≤maxLen) (hbytes:Maps.size D0*16≤140737488355328):
  Calls Tryz.prog 87 #[.func (.func 138) #[] #[.pointer (some ⟨w.heap.size,0,none⟩)]] (w.alloc (.cells #[.map (some b)] 107)) fun e w'=>∃(v:Value) (ss:List (List UInt8)),e= .returned v∧ss.Perm (strKeys D0)∧
   w'.ownsRow (w.alloc (.cells #[.map (some b)] 107)).heap.size 9 1 v ss.length ((ss.mergeSort (fun x y=>decide (x≤y))).map encStr)∧(v= .slice none 0 0↔ss=[])∧Below (w.alloc (.cells #[.map (some b)] 107)).heap.size (w.alloc (.cells #[.map (some b)] 107)) w':=by
 have hbl:=hown.lt
 have hseq:SeqGives Fence.wide 2 Tryz.prog 138 #[.pointer (some ⟨w.heap.size,0,none⟩)] encStr (fun ss=>ss.Perm (strKeys D0)) (Maps.size D0) (w.alloc (.cells #[.map (some b)] 107)):=
  AnyZ.keys_gives (ρ:=Tryz.ug) {Tryz.Im with} Fence.wide _ trivial rfl (by omega) w.heap.size b nn D0 _ (by simp) (by simp) (by
   obtain⟨es,clock,hb,Ft,hs,hD⟩:=hown
   exact⟨es,clock,(Below.heap_alloc _ _ b hbl).trans hb,Ft,hs,hD⟩)
 exact callsIn_wide.1 (AnyZ.sorted_in Tryz.EA Fence.wide 5 trivial trivial trivial trivial rfl (by omega) (Tryz.Io _) (enters_of Tryz.func137 (by kernel_rfl) rfl) 138 #[.pointer (some ⟨w.heap.size,0,none⟩)] trivial (enters_of Tryz.func138 (by kernel_rfl) rfl) _ _ hmax hbytes _ hseq)
end Go.Proofs
namespace Go.Proofs.YtohpcppeajijnaaGreat
open Go.ChangeShapes Go.WideShapes Go.ChangeAt Go.RowKit
set_option linter.unusedVariables false
set_option linter.unusedSimpArgs false
theorem uM (l:List (Nm×Value)):strKeys (rP cK l)=l.map (·.1):=by
 unfold strKeys rP
 simp only[List.map_map]
 rfl
theorem Mq:∀{a b:List UInt8},bytesBefore a b=true→a<b
 |[],[],h=>by cases h
 |[],_::_,_=>List.nil_lt_cons _ _
 |_::_,[],h=>by cases h
 |x::r,y::s,h=>by
  rw[List.cons_lt_cons_iff]
  simp only[bytesBefore,Bool.or_eq_true,Bool.and_eq_true,decide_eq_true_eq,beq_iff_eq]at h
  rcases h with h|⟨h1,h2⟩
  ·exact .inl h
  ·exact .inr ⟨h1,Mq h2⟩
theorem su {α:Type} {l:List (Nm×α)} (hl:aI bytesBefore l) {ss:List Nm} (hp:ss.Perm (l.map (·.1))):ss.mergeSort (fun x y=>decide (x≤y))=l.map (·.1):=by
 have h1:(ss.mergeSort (fun x y=>decide (x≤y))).Pairwise (fun a b=>decide (a≤b)=true):=List.pairwise_mergeSort (fun a b c h1 h2=>by simp only[decide_eq_true_eq]at*;exact List.le_trans h1 h2) (fun a b=>by simp only[Bool.or_eq_true,decide_eq_true_eq];exact List.le_total a b) ss
 have h2:(l.map (·.1)).Pairwise (fun a b=>decide (a≤b)=true):=by
  rw[List.pairwise_map]
  exact hl.imp fun{a b} h=>by simp only[decide_eq_true_eq];exact List.le_of_lt (Mq h)
 exact((List.mergeSort_perm ss _).trans hp).eq_of_pairwise (fun a b _ _ h1 h2=>by simp only[decide_eq_true_eq]at h1 h2;exact List.le_antisymm h1 h2) h1 h2
def kT (T:aF) (id:Int):List Nm×Int:=match aj id T with
 |none=>([],20)
 |some x=>if x.kind=2 then(x.names.map (·.1),0)else([],23)
def sw (w:World) (q:List Nm×Int) (e:Ending) (w':World):Prop:=
 ∃a c,e= .returned (.tuple #[.slice a q.1.length c, .int .i64 q.2])∧q.1.length≤c∧aH (fun x=>w.heap.size≤x∧x<w'.heap.size) w' a q.1.length (q.1.map strOf)∧Below w.heap.size w w'
section
variable {g:Nat→Own} {D:Nat→Prop} {p mb:Nat} {ib nb:Int→Nat} {T:aF}
set_option maxRecDepth 100000 in
set_option maxHeartbeats 2000000 in
theorem EB (id:Int) (w:World) (h:aJ g D w p mb ib nb T) (hT:dG T) (hid:(Lit.int .i64 id).wf=true):Calls Tryz.prog 116 #[ptr p, .int .i64 id] w (sw w (kT T id)):=by
 obtain⟨hc0,hpw,hmw⟩:=h.cell
 have hok:aW.ok id:=hid
 have fM:=Lib.hid h.map
 have HT:=Lib.hid hT
 cases hx:aj id T with
 |none=>
  have HG:Hid (aj id (T.map fun q=>(q.1,ptr (ib q.1)))=none):=by rw[dw,hx];rfl
  have HL:Hid (kT T id=([],20)):=by unfold kT;rw[hx];exact rfl
  clear hx h hT hid
  go_enter Tryz.func116,Tryz.ntmps116
  go_wp2_with (first|(at_lookup;refine aG aW rfl _ _ 94 92 rfl Tryz.underlying94 (Tryz.aU _) rfl fM.out id rfl hok ?_;rw[HG.out]))
  go_ret2
  rw[HL.out]
  exact⟨none,0,rfl,Nat.le_refl _,⟨av.nil _ _ _,by simp⟩,Below.refl _ _⟩
 |some x=>
  have HG:Hid (aj id (T.map fun q=>(q.1,ptr (ib q.1)))=some (ptr (ib id))):=by rw[dw,hx];rfl
  obtain⟨c0,c1,c2,c3,c4,c5,c7,hiw⟩:=(h.item id x hx).cell
  have O1:=Lib.hid (hT.each id x hx)
  have rZ:=hT.few hx
  by_cases hk:x.kind=2
  ·have HL:Hid (kT T id=(x.names.map (·.1),0)):=by unfold kT;rw[hx];simp only[if_pos hk];first|exact rfl|exact trivial
   have e2:fJ x (nb id)= .map (some (nb id)):=if_pos hk
   rw[e2]at c7
   rw[hk]at c1
   have hM:=(h.item id x hx).names hk
   have hsz:(bO x).length=x.names.length:=List.length_map _
   have hkk:=Tryz.Af (some (nb id)) w
   have hs:=Tryz.yS (nb id) (bO x).length (rP cK (bO x)) kP w hM (by rw[jM,hsz];unfold maxLen;omega) (by rw[jM,hsz];omega)
   clear hx h hT hid hk e2 hM hsz
   go_enter Tryz.func116,Tryz.ntmps116
   go_wp2_with (first|(at_lookup;refine aG aW rfl _ _ 94 92 rfl Tryz.underlying94 (Tryz.aU _) rfl fM.out id rfl hok ?_;rw[HG.out])|(go_at_call 88;refine hkk.mono ?_;rintro e w' ⟨rfl,rfl⟩)|(go_at_call 87;refine hs.mono ?_;rintro e w' ⟨v,ss,rfl,hp,hown,hnil,hB⟩))
   go_ret2
   rw[HL.out]
   rw[uM]at hp
   have hml:(bO x).map (·.1)=x.names.map (·.1):=by unfold bO;rw[List.map_map];rfl
   rw[hml]at hp
   rw[su O1.out.sorted hp]at hown
   have hlen:ss.length=(x.names.map (·.1)).length:=hp.length_eq
   have hB2:Below w.heap.size w w':=((Below.refl _ _).alloc (Nat.le_refl _) _).trans (hB.mono (by simp))
   have hs1:=hB.size
   rw[World.size_alloc]at hs1
   have hgood:∀s∈(x.names.map (·.1)).map strOf,s.size≤maxLen:=by
    intro s hs
    obtain⟨l,hl,rfl⟩:=List.mem_map.1 hs
    obtain⟨e,he,rfl⟩:=List.mem_map.1 hl
    have:=nC _ (O1.out.good e he)
    rw[fF];unfold maxLen;omega
   have hll:(x.names.map (·.1)).length≤4096:=by rw[List.length_map];exact rZ
   obtain⟨h1,h2⟩:=hown
   simp only[List.length_map]at h1
   generalize x.names.map (·.1)=L at*
   rcases h2 with⟨rfl,h0⟩|⟨g,cap,cur,rfl,hg,hcur,hc1,hc2,hcs,htk⟩
   ·have:L=[]:=List.eq_nil_of_length_eq_zero (by omega)
    subst this
    exact⟨none,0,rfl,Nat.le_refl _,⟨av.nil _ _ _,by simp⟩,hB2⟩
   ·have hgw:=(Array.getElem?_eq_some_iff.1 hcur).1
    rw[World.size_alloc]at hg
    refine⟨some ⟨g,0,none⟩,cap,by rw[←hlen];rfl,by simp only;omega,⟨⟨by simp,by simp only;unfold maxLen;omega,fun h0=>⟨g,0,rfl,⟨by omega,hgw⟩,hgw,fun i hi=> ?_⟩⟩,hgood⟩,hB2⟩
    simp only[World.cell?,hcur,Nat.zero_add]
    rw[List.map_map,show L.map (Value.string∘strOf)=L.map Go.Proofs.encStr from rfl]
    rw[←htk,List.getElem?_take,if_pos (show i<ss.length*1 by rw[hlen];simp only at hi;omega)]
    simp
  ·have HL:Hid (kT T id=([],23)):=by unfold kT;rw[hx];simp only[if_neg hk];first|exact rfl|exact trivial
   have hkk:(x.kind==2)=false:=by simpa using hk
   have hkn:(x.kind !=2)=true:=by simpa using hk
   clear hx h hT hid hk c7
   go_enter Tryz.func116,Tryz.ntmps116
   go_wp2_with (first|(at_lookup;refine aG aW rfl _ _ 94 92 rfl Tryz.underlying94 (Tryz.aU _) rfl fM.out id rfl hok ?_;rw[HG.out]))
   go_ret2
   rw[HL.out]
   exact⟨none,0,rfl,Nat.le_refl _,⟨av.nil _ _ _,by simp⟩,Below.refl _ _⟩
end
theorem flat_get {α β:Type} (f:α→List β) (k:Nat) (hk:∀x,(f x).length=k):∀(L:List α) (i j:Nat) (x:α),L[i]? =some x→j<k→(L.flatMap f)[i*k+j]? =(f x)[j]?
 |[],i,j,x,h,_=>by simp at h
 |y::r,0,j,x,h,hj=>by
  simp only[List.getElem?_cons_zero,Option.some.injEq]at h
  subst h
  rw[List.flatMap_cons,Nat.zero_mul,Nat.zero_add,List.getElem?_append_left (by rw[hk];exact hj)]
 |y::r,i+1,j,x,h,hj=>by
  rw[List.flatMap_cons,List.getElem?_append_right (by rw[hk,Nat.add_mul];omega),hk,show(i+1)*k+j-k=i*k+j by rw[Nat.add_mul];omega]
  exact flat_get f k hk r i j x (by simpa using h) hj
abbrev jc:=Int×Nm×Int
def bX (q:Int×bF):List Value:=[.int .i64 q.1, .int .i64 q.2.kind, .int .i64 q.2.links, .int .i64 q.2.b.length, .int .u64 q.2.aK, .bool q.2.closed]
def eu (e:jc):List Value:=[.int .i64 e.1, .string (strOf e.2.1), .int .i64 e.2.2]
def jy (q:Int×bF):List jc:=q.2.names.map fun e=>(q.1,e.1,e.2)
def aV (T:aF):List jc:=T.flatMap jy
def BytesAt (F:Nat→Prop) (w:World) (a:Option Addr) (bs:List (List UInt8)):Prop:=
 ∃vs:List Value,av F w a bs.length vs∧∀(i:Nat) (b:List UInt8),bs[i]? =some b→∃(a:Option Addr) (c:Nat),vs[i]? =some (.slice a b.length c)∧kH b.length c∧av F w a b.length (b.map bv)
theorem BytesAt.move {F F':Nat→Prop} {w w':World} {a:Option Addr} {bs:List (List UInt8)} (h:BytesAt F w a bs) (hs:w.heap.size≤w'.heap.size) (hk:∀b,F b→b<w.heap.size→F' b∧w'.heap[b]? =w.heap[b]?):BytesAt F' w' a bs:=by
 obtain⟨vs,h1,h2⟩:=h
 refine⟨vs,h1.move hs hk,fun i b hb=> ?_⟩
 obtain⟨a,c,h3,h4,h5⟩:=h2 i b hb
 exact⟨a,c,h3,h4,h5.move hs hk⟩
def sl (a:Option Addr) (n c:Nat):Value:= .slice a n c
def Base (a:Option Addr) (c:Nat):Prop:=(a=none∧c=0)∨∃b,a=some ⟨b,0,none⟩
def Off (F:Nat→Prop) (r:Nat):Nat→Prop:=fun b=>F b∧b≠r
structure fO (F:Nat→Prop) (w:World) (r:Nat) (T:aF) (D:List (List UInt8)) (E:List jc):Prop where
 head:∃aN cN aD cD aE cE,w.heap[r]? =some (.cells #[.slice aN T.length cN, .slice aD D.length cD, .slice aE E.length cE] 102 (0,0))∧T.length≤cN∧D.length≤cD∧E.length≤cE∧
  av (Off F r) w aN (T.length*6) (T.flatMap bX)∧BytesAt (Off F r) w aD D∧av (Off F r) w aE (E.length*3) (E.flatMap eu)∧Base aE cE
 own:F r
 low:∀b,F b→b<w.heap.size
abbrev gX (F:Nat→Prop) (w:World) (r:Nat) (T:aF):Prop:=fO F w r T (T.map fun q=>q.2.b) (aV T)
theorem fO.keeps {F fp:Nat→Prop} {w w':World} {r:Nat} {T:aF} {D:List (List UInt8)} {E:List jc} (h:fO F w r T D E) (hK:Keeps fp w w') (hn:∀b,F b→¬fp b):fO F w' r T D E:=by
 have hk:∀b,Off F r b→b<w.heap.size→Off F r b∧w'.heap[b]? =w.heap[b]? :=fun b hb hbw=>⟨hb,hK.block b hbw (hn b hb.1)⟩
 obtain⟨aN,cN,aD,cD,aE,cE,h1,h2,h3,h4,h8,h9,h10,h11⟩:=h.head
 exact⟨⟨aN,cN,aD,cD,aE,cE,(hK.block r (h.low r h.own) (hn r h.own)).trans h1,h2,h3,h4,h8.move hK.size hk,h9.move hK.size hk,h10.move hK.size hk,h11⟩,h.own,fun b hb=>Nat.lt_of_lt_of_le (h.low b hb) hK.size⟩
theorem fO.below {F:Nat→Prop} {w w':World} {B r:Nat} {T:aF} {D:List (List UInt8)} {E:List jc} (h:fO F w r T D E) (hb:Below B w w') (hB:w.heap.size≤B):fO F w' r T D E:=
 h.keeps (fp:=fun x=>B≤x) (Keeps.below hb) fun x hx hf=>by have:=h.low x hx;omega
theorem dW (q:Int×bF):(bX q).length=6:=rfl
theorem iD (e:jc):(eu e).length=3:=rfl
theorem av.wide {α:Type} {F:Nat→Prop} {w:World} {a:Option Addr} {n k:Nat} {f:α→List Value} {L:List α} (h:av F w a (n*k) (L.flatMap f)) (hk:∀x,(f x).length=k) (hn:L.length=n) {i:Nat} {x:α} (hx:L[i]? =some x) (hk0:0<k):
  ∃b off,a=some ⟨b,off,none⟩∧F b∧b<w.heap.size∧i<n∧∀j,j<k→w.cell? ⟨b,off+i*k+j,none⟩=(f x)[j]? :=by
 have hi:i<n:=by rw[←hn];exact(List.getElem?_eq_some_iff.1 hx).1
 have hik:i*k+k≤n*k:=by rw[←Nat.succ_mul];exact Nat.mul_le_mul_right k hi
 obtain⟨b,off,e,hF,hb,hc⟩:=h.at_ (by omega)
 refine⟨b,off,e,hF,hb,hi,fun j hj=> ?_⟩
 rw[Nat.add_assoc,hc (i*k+j) (by omega),flat_get f k hk L i j x hx hj]
section
variable {F:Nat→Prop} {r:Nat} {T:aF} {D:List (List UInt8)} {E:List jc}
def mF (id:Int) (q:Int×bF):Bool:=decide (q.1=id)
set_option maxHeartbeats 1000000 in
theorem qz (id:Int) (w:World) (h:fO F w r T D E) (hl:T.length≤64):Calls Tryz.prog 64 #[ptr r, .int .i64 id] w fun e w'=>e= .returned (.int .i64 (mX (mF id) T))∧w=w':=by
 obtain⟨aN,cN,aD,cD,aE,cE,h1,-,-,-,hN,-,-,-⟩:=h.head
 have hr0:=h.low r h.own
 have hc0:w.cell? ⟨r,0,none⟩=some (.slice aN T.length cN):=by simp[World.cell?,h1]
 have HN:=Lib.hid hN
 obtain⟨n,hn⟩:∃n,n=T.length:=⟨_,rfl⟩
 rw[←hn]at hc0 hl HN
 have HL:=Lib.hid hn
 clear h h1 hN hn
 go_enter Tryz.func64,Tryz.ntmps64
 go_wp2
 go_loop [5] (fun i=>∃k:Nat,k≤n∧i= .int .i64 k∧(T.take k).any (mF id)=false) (fun i=>n-(intOf i).toNat)
 case atStart=>exact⟨0,by omega,rfl,by simp⟩
 case round=>
  obtain⟨k,hk,rfl,hany⟩:=hrel
  have HA:=Lib.hid hany
  clear hany
  by_cases hlt:k<n
  ·have hx:T[k]? =some (T[k]'(by have:=HL.out;omega)):=List.getElem?_eq_getElem _
   obtain⟨q,hq⟩:∃q,q=T[k]'(by have:=HL.out;omega):=⟨_,rfl⟩
   rw[←hq]at hx
   have HX:=Lib.hid hx
   obtain⟨b,off,rfl,hF,hb,hi,hc⟩:=HN.out.wide dW HL.out.symm hx (by omega)
   have c0:w.cell? ⟨b,off+k*6,none⟩=some (.int .i64 q.1):=hc 0 (by omega)
   clear hx hq hc
   have i0:(0:Int)≤k:=by omega
   have i1:(k:Int)<n:=by omega
   by_cases hp:q.1=id
   ·have hpp:(q.1==id)=true:=by simpa using hp
    have HP:Hid (mF id q=true):=by show mF id q=true;simp[mF,hp]
    clear hp
    go_wp2
    go_ret
    exact⟨fI (tH HA.out HX.out HP.out).symm,rfl⟩
   ·have hpp:(q.1==id)=false:=by simpa using hp
    have HP:Hid (mF id q=false):=by show mF id q=false;simp[mF,hp]
    clear hp
    go_wp2
    go_round
    case rel=>exact⟨k+1,by omega,by go_num,any_take_succ HA.out HX.out HP.out⟩
    case measure=>simp[intOf];omega
  ·go_wp2
   go_ret
   exact⟨fI (lJ (by have:=HA.out;rwa [List.take_of_length_le (by have:=HL.out;omega)]at this)).symm,rfl⟩
end
theorem sD {T:aF} {id:Int} (h:aj id T=none):mX (mF id) T= -1:=by
 refine lJ ?_
 rw[List.any_eq_false]
 intro q hq
 have:=gZ.1 h q hq
 simpa[mF]using this
theorem iM {T:aF} (hs:aI fT T) {id:Int} {x:bF} (h:aj id T=some x):∃k:Nat,mX (mF id) T=k∧T[k]? =some (id,x):=by
 cases hf:T.findIdx? (mF id)with
 |none=>
  rw[List.findIdx?_eq_none_iff]at hf
  have:=hf _ (bR h)
  simp[mF]at this
 |some k=>
  refine⟨k,by simp[mX,hf],?_⟩
  rw[List.findIdx?_eq_some_iff_getElem]at hf
  obtain⟨hk,hp,_⟩:=hf
  have h1:T[k]? =some T[k]:=List.getElem?_eq_getElem hk
  have h2:T[k].1=id:=by simpa[mF]using hp
  have h3:=aY dB hs (List.getElem_mem hk)
  rw[h2,h]at h3
  rw[h1]
  congr 1
  exact Prod.ext h2 (Option.some.inj h3).symm
def fZ (d:Int) (n:Nm) (e:jc):Bool:=decide (e.1=d∧e.2.1=n)
section
variable {F:Nat→Prop} {r:Nat} {T:aF} {D:List (List UInt8)} {E:List jc}
theorem fO.node {w:World} (h:fO F w r T D E) {k:Nat} {q:Int×bF} (hq:T[k]? =some q):∃b off c,w.cell? ⟨r,0,none⟩=some (.slice (some ⟨b,off,none⟩) T.length c)∧Off F r b∧b<w.heap.size∧k<T.length∧w.cell? ⟨b,off+k*6,none⟩=some (.int .i64 q.1)∧w.cell? ⟨b,off+k*6+1,none⟩=some (.int .i64 q.2.kind)∧w.cell? ⟨b,off+k*6+2,none⟩=some (.int .i64 q.2.links)∧w.cell? ⟨b,off+k*6+3,none⟩=some (.int .i64 q.2.b.length)∧w.cell? ⟨b,off+k*6+4,none⟩=some (.int .u64 q.2.aK)∧w.cell? ⟨b,off+k*6+5,none⟩=some (.bool q.2.closed):=by
 obtain⟨aN,cN,aD,cD,aE,cE,h1,-,-,-,hN,-,-,-⟩:=h.head
 obtain⟨b,off,rfl,hF,hb,hi,hc⟩:=hN.wide dW rfl hq (by omega)
 exact⟨b,off,cN,by simp[World.cell?,h1],hF,hb,hi,hc 0 (by omega),hc 1 (by omega),hc 2 (by omega),hc 3 (by omega),hc 4 (by omega),hc 5 (by omega)⟩
theorem fO.data {w:World} (h:fO F w r T D E) {k:Nat} {d:List UInt8} (hq:D[k]? =some d):∃b off c a c',w.cell? ⟨r,1,none⟩=some (.slice (some ⟨b,off,none⟩) D.length c)∧Off F r b∧b<w.heap.size∧w.cell? ⟨b,off+k,none⟩=some (.slice a d.length c')∧kH d.length c'∧av (Off F r) w a d.length (d.map bv):=by
 obtain⟨aN,cN,aD,cD,aE,cE,h1,-,-,-,-,hD,-,-⟩:=h.head
 obtain⟨vs,hv,hrow⟩:=hD
 have hk:k<D.length:=(List.getElem?_eq_some_iff.1 hq).1
 obtain⟨b,off,rfl,hF,hb,hc⟩:=hv.at_ (by omega)
 obtain⟨a,c',h3,h4,h5⟩:=hrow k d hq
 exact⟨b,off,cD,a,c',by simp[World.cell?,h1],hF,hb,by rw[hc k hk];exact h3,h4,h5⟩
theorem fO.ent {w:World} (h:fO F w r T D E):∃a c,w.cell? ⟨r,2,none⟩=some (.slice a E.length c)∧E.length≤c∧av (Off F r) w a (E.length*3) (E.flatMap eu)∧Base a c:=by
 obtain⟨aN,cN,aD,cD,aE,cE,h1,-,-,h4,-,-,hE,hz⟩:=h.head
 exact⟨aE,cE,by simp[World.cell?,h1],h4,hE,hz⟩
theorem fO.nodes {w:World} (h:fO F w r T D E):∃a c,w.cell? ⟨r,0,none⟩=some (.slice a T.length c)∧T.length≤c:=by
 obtain⟨aN,cN,aD,cD,aE,cE,h1,h4,-,-,-,-,-,-⟩:=h.head
 exact⟨aN,cN,by simp[World.cell?,h1],h4⟩
set_option maxHeartbeats 1000000 in
theorem iV (id:Int) (w:World) (h:fO F w r T D E) (hT:vw T):Calls Tryz.prog 73 #[ptr r, .int .i64 id] w fun e w'=>e= .returned (.tuple #[iI T id, .bool (aj id T).isSome])∧Below w.heap.size w w':=by
 have hlen:=hT.len
 have HR:=Lib.hid (fun o=>qz id (w.alloc o) (h.below (wall w o) (Nat.le_refl _)) hlen)
 have hr0:=h.low r h.own
 unfold iI
 cases hx:aj id T with
 |none=>
  rw[sD hx]at HR
  clear h hx hT
  go_enter Tryz.func73,Tryz.ntmps73
  go_wp2_with fail
  (with_reducible refine(HR.out _).mono ?_)
  rintro e w1 ⟨rfl,rfl⟩
  go_wp2_with fail
  exact bodyPost_ret (v:= .tuple #[.agg #[.int .i64 0, .int .i64 0, .int .i64 0, .int .i64 0, .int .u64 0, .bool false], .bool false]) (by simp[results,Tryz.results73,go_sem]) rfl ⟨rfl,wall w _⟩
 |some x=>
  obtain⟨k,hk,hq⟩:=iM hT.sorted hx
  rw[hk]at HR
  obtain⟨b,off,c,hc0,hF,hb,hkl,c0,c1,c2,c3,c4,c5⟩:=h.node hq
  have i0:(0:Int)≤k:=by omega
  have i1:(k:Int)<T.length:=by omega
  have i2:¬(k:Int)<0:=by omega
  simp only at c0 c1 c2 c3 c4 c5
  clear h hx hk hq hT
  unfold jg
  go_enter Tryz.func73,Tryz.ntmps73
  go_wp2_with fail
  (with_reducible refine(HR.out _).mono ?_)
  rintro e w1 ⟨rfl,rfl⟩
  go_wp2_with fail
  exact bodyPost_ret (v:= .tuple #[.agg #[.int .i64 id, .int .i64 x.kind, .int .i64 x.links, .int .i64 x.b.length, .int .u64 x.aK, .bool x.closed], .bool true]) (by simp[results,Tryz.results73,go_sem]) rfl ⟨rfl,wall w _⟩
set_option maxHeartbeats 1000000 in
theorem iN (d:Int) (nm:Nm) (w:World) (h:fO F w r T D E) (hl:E.length≤1000000):Calls Tryz.prog 63 #[ptr r, .int .i64 d, .string (strOf nm)] w fun e w'=>e= .returned (.int .i64 (mX (fZ d nm) E))∧w=w':=by
 obtain⟨aE,cE,hc0,-,hE,-⟩:=h.ent
 have hr0:=h.low r h.own
 have HN:=Lib.hid hE
 obtain⟨n,hn⟩:∃n,n=E.length:=⟨_,rfl⟩
 rw[←hn]at hc0 hl HN
 have HL:=Lib.hid hn
 clear h hE hn
 go_enter Tryz.func63,Tryz.ntmps63
 go_wp2
 go_loop [7] (fun i=>∃k:Nat,k≤n∧i= .int .i64 k∧(E.take k).any (fZ d nm)=false) (fun i=>n-(intOf i).toNat)
 case atStart=>exact⟨0,by omega,rfl,by simp⟩
 case round=>
  obtain⟨k,hk,rfl,hany⟩:=hrel
  have HA:=Lib.hid hany
  clear hany
  by_cases hlt:k<n
  ·have hx:E[k]? =some (E[k]'(by have:=HL.out;omega)):=List.getElem?_eq_getElem _
   obtain⟨q,hq⟩:∃q,q=E[k]'(by have:=HL.out;omega):=⟨_,rfl⟩
   rw[←hq]at hx
   have HX:=Lib.hid hx
   obtain⟨b,off,rfl,hF,hb,hi,hc⟩:=HN.out.wide iD HL.out.symm hx (by omega)
   have c0:w.cell? ⟨b,off+k*3,none⟩=some (.int .i64 q.1):=hc 0 (by omega)
   have c1:w.cell? ⟨b,off+k*3+1,none⟩=some (.string (strOf q.2.1)):=hc 1 (by omega)
   clear hx hq hc
   have i0:(0:Int)≤k:=by omega
   have i1:(k:Int)<n:=by omega
   by_cases hp:q.1=d
   ·have hpp:(q.1==d)=true:=by simpa using hp
    by_cases hp2:q.2.1=nm
    ·have HP:Hid (fZ d nm q=true):=by show fZ d nm q=true;simp[fZ,hp,hp2]
     rw[hp2]at c1
     clear hp hp2
     go_wp2
     go_ret
     exact⟨fI (tH HA.out HX.out HP.out).symm,rfl⟩
    ·have HP:Hid (fZ d nm q=false):=by show fZ d nm q=false;simp[fZ,hp,hp2]
     obtain⟨hs1,hs2⟩:=G5 hp2
     clear hp hp2
     go_wp2
     go_round
     case rel=>exact⟨k+1,by omega,by go_num,any_take_succ HA.out HX.out HP.out⟩
     case measure=>simp[intOf];omega
   ·have hpp:(q.1==d)=false:=by simpa using hp
    have HP:Hid (fZ d nm q=false):=by show fZ d nm q=false;simp[fZ,hp]
    clear hp
    go_wp2
    go_round
    case rel=>exact⟨k+1,by omega,by go_num,any_take_succ HA.out HX.out HP.out⟩
    case measure=>simp[intOf];omega
  ·go_wp2
   go_ret
   exact⟨fI (lJ (by have:=HA.out;rwa [List.take_of_length_le (by have:=HL.out;omega)]at this)).symm,rfl⟩
end
theorem yT {S S':Nat→Prop} (a a':Option Addr) (len cap len' cap':Nat) (ss ss':List ByteArray) (w:World) (h:aH S w a len ss) (h':aH S' w a' len' ss'):
  Calls Tryz.prog 175 #[.slice a len cap, .slice a' len' cap'] w fun e w'=>e= .returned (.bool (decide (ss=ss')))∧Below w.heap.size w w':=by
 have hl:=h.length
 have hl':=h'.length
 have hm:=h.row.small
 have hm':=h'.row.small
 unfold maxLen at hm hm'
 by_cases hne:len=len'
 ·subst hne
  by_cases h0:len=0
  ·subst h0
   refine(Tryz.slices_Equal_string_empty a a' cap 0 cap' w (by omega)).mono ?_
   rintro e w' ⟨rfl,rfl⟩
   obtain rfl:ss=[]:=by simpa using hl
   obtain rfl:ss'=[]:=by simpa using hl'
   exact⟨rfl,Below.refl _ _⟩
  ·obtain⟨b,off,rfl,_,_,_⟩:=h.row.at_ (by omega)
   obtain⟨b',off',rfl,_,_,_⟩:=h'.row.at_ (by omega)
   refine(Tryz.slices_Equal_string b off len cap b' off' len cap' ss ss' w (by omega) (by omega) (by omega) (by omega) (fun j hj=>tV h j hj) (fun j hj=>tV h' j hj)).mono ?_
   rintro e w' ⟨rfl,q,rfl⟩
   rw[List.take_of_length_le (by omega),List.take_of_length_le (by omega)]
   exact⟨rfl,⟨rfl,rfl,rfl,Nat.le_refl _,fun _ _=>rfl⟩⟩
 ·refine(Tryz.slices_Equal_string_lens a a' len cap len' cap' w hne).mono ?_
  rintro e w' ⟨rfl,rfl⟩
  have:ss≠ss':=fun e=>hne (by rw[←hl,←hl',e])
  exact⟨by simp[this],Below.refl _ _⟩
def jq (ss ss':List ByteArray):Bool:=decide (ss.take ss'.length=ss')
theorem Br {S S':Nat→Prop} (a a':Option Addr) (len cap len' cap':Nat) (ss ss':List ByteArray) (w:World) (h:aH S w a len ss) (h':aH S' w a' len' ss') (hcap:len≤cap):
  Calls Tryz.prog 142 #[.slice a len cap, .slice a' len' cap'] w fun e w'=>e= .returned (.bool (jq ss ss'))∧Below w.heap.size w w':=by
 have hl:=h.length
 have hl':=h'.length
 have hm:=h.row.small
 unfold maxLen at hm
 by_cases hle:len'≤len
 ·have hT:=h.take len' hle
  have hp:decide (ss.take len'=ss')=jq ss ss':=by
   unfold jq;rw[hl']
  have HP:=Lib.hid hp
  clear hp hl hl'
  have e5:len'≤cap:=by omega
  cases a with
  |none=>
   have h0:len'=0:=by
    rcases Nat.eq_zero_or_pos len' with h0|h0
    ·exact h0
    ·obtain⟨b,off,e,_⟩:=h.row.at_ (by omega)
     cases e
   subst h0
   go_enter Tryz.func142,Tryz.ntmps142
   go_wp2_with fail
   refine(yT _ _ _ _ _ _ _ _ _ hT h').mono ?_
   rintro e w1 ⟨rfl,hb⟩
   rw[HP.out]
   go_wp2_with fail
   go_ret
   exact⟨rfl,hb⟩
  |some ad=>
   go_enter Tryz.func142,Tryz.ntmps142
   go_wp2_with fail
   refine(yT _ _ _ _ _ _ _ _ _ hT h').mono ?_
   rintro e w1 ⟨rfl,hb⟩
   rw[HP.out]
   go_wp2_with fail
   go_ret
   exact⟨rfl,hb⟩
 ·have hp:jq ss ss'=false:=by
   unfold jq
   rw[decide_eq_false_iff_not]
   intro hh
   have:=congrArg List.length hh
   simp at this
   omega
  have HP:=Lib.hid hp
  clear hp hl hl'
  go_enter Tryz.func142,Tryz.ntmps142
  go_wp2_with fail
  go_ret
  exact⟨gG HP.out.symm,Below.refl _ _⟩
theorem qX {α:Type} {l l':List α} {k:Nat} {x y:α} (hx:l[k]? =some x) (hy:l'[k]? =some y) (h:x≠y):l≠l':=by
 intro e;rw[e,hy]at hx;exact h (Option.some.inj hx).symm
theorem sF {α:Type} {l l':List α} {k:Nat} {x:α} (h:l.take k=l'.take k) (hx:l[k]? =some x) (hy:l'[k]? =some x):l.take (k+1)=l'.take (k+1):=by
 rw[List.take_add_one,List.take_add_one,h,hx,hy]
theorem yU {x y:ByteArray} (h:x≠y):(x.toList==y.toList)=false:=by
 rw[beq_eq_false_iff_ne,ByteArray.toList_eq,ByteArray.toList_eq]
 intro e
 exact h (WideShapes.bytes_inj e)
theorem Ip (s:ByteArray) (k:Nat) (h:k<s.size):s[k]=s.data.toList.getD k 0:=by
 have h2:k<s.data.toList.length:=by simpa using h
 simp only[List.getD,List.getElem?_eq_getElem h2,Option.getD_some]
 rfl
set_option maxHeartbeats 1000000 in
theorem FE (s:ByteArray) (w:World) (hs:s.size≤maxLen):
  Calls Tryz.prog 129 #[.string s] w fun e w'=>e= .returned (.bool (bZ s.data.toList))∧Below w.heap.size w w':=by
 unfold maxLen at hs
 have hb:=Below.refl w.heap.size w
 go_enter Tryz.func129,Tryz.ntmps129
 go_wp2
 go_loop [3] (fun i=>∃k:Nat,k≤s.size∧i= .int .i64 k∧(s.data.toList.take k).all gB=true) (fun i=>s.size-(intOf i).toNat)
 case atStart=>exact⟨0,by omega,rfl,rfl⟩
 case round=>
  obtain⟨k,hk,rfl,ha⟩:=hrel
  have HA:=Lib.hid ha
  clear ha
  by_cases hlt:k<s.size
  ·obtain⟨c,hcc⟩:∃c,c=s.data.toList.getD k 0:=⟨_,rfl⟩
   have hix:=Ip s k hlt
   rw[←hcc]at hix
   have hsn:=AP gB s.data.toList k (by simpa using hlt)
   rw[←hcc]at hsn
   have HS:=Lib.hid hsn
   have HG:Hid (gB c=false→bZ s.data.toList=false):=fun h=>by
    have:=AQ gB s.data.toList k (by simpa using hlt)
    rw[←hcc]at this
    simp[bZ,this h]
   clear hsn hcc
   have hbd:=Ei c
   rcases Eh c with⟨ho,h1,h2⟩|⟨ho,h1,h2,h3⟩|⟨ho,h1⟩|⟨ho,h1⟩|⟨ho,h1⟩|⟨ho,h1,h2,h3,h4,h5,h6⟩|⟨ho,h1,h2,h3,h4,h5,h6⟩|⟨ho,h1,h2,h3,h4,h5⟩
   iterate 5
    ·have HO:=Lib.hid ho
     clear ho HG
     go_wp2
     go_round
     case rel=>exact⟨k+1,by omega,by go_num,by rw[HS.out,HA.out,HO.out];rfl⟩
     case measure=>simp[intOf];omega
   iterate 3
    ·have HO:=Lib.hid ho
     clear ho
     go_wp2
     go_ret
     exact⟨gG (HG.out HO.out).symm,hb⟩
  ·have hk':k=s.size:=by omega
   have HA2:s.data.toList.all gB=true:=by
    have:=HA.out
    rw[hk',List.take_of_length_le (by simp)]at this
    exact this
   have hl:s.data.toList.length=s.size:=by simp
   have he:=ByteArray.toList_eq s
   have ways:(s.toList=[]∧s.toList.isEmpty=true∧bZ s.data.toList=false)∨
     (¬s.toList=[]∧s.toList.isEmpty=false∧16<s.size∧bZ s.data.toList=false)∨
     (¬s.toList=[]∧s.toList.isEmpty=false∧s.size≤16∧s.toList=[46]∧(s.toList==[46])=true∧bZ s.data.toList=false)∨
     (¬s.toList=[]∧s.toList.isEmpty=false∧s.size≤16∧¬s.toList=[46]∧(s.toList==[46])=false∧s.toList=[46,46]∧(s.toList==[46,46])=true∧bZ s.data.toList=false)∨
     (¬s.toList=[]∧s.toList.isEmpty=false∧s.size≤16∧¬s.toList=[46]∧(s.toList==[46])=false∧¬s.toList=[46,46]∧(s.toList==[46,46])=false∧bZ s.data.toList=true):=by
    rw[he]
    generalize s.data.toList=l at HA2 hl
    rw[←hl]
    exact yx l HA2
   have hz1:Hid (s.toList=[]→s.size<1):=fun h=>by rw[he]at h;rw[h]at hl;simp at hl;omega
   have hz2:Hid (¬s.toList=[]→1≤s.size):=fun h=>by
    rw[he]at h
    have:=List.length_pos_iff.2 h
    omega
   clear HA2 hl he HA hk'
   rcases ways with⟨h1,h2,hg⟩|⟨h1,h2,h3,hg⟩|⟨h1,h2,h3,h4,h5,hg⟩|⟨h1,h2,h3,h4,h5,h6,h7,hg⟩|⟨h1,h2,h3,h4,h5,h6,h7,hg⟩
   ·have hz:=hz1.out h1
    have HG:=Lib.hid hg
    clear hg
    go_wp2
    go_ret
    exact⟨gG HG.out.symm,hb⟩
   all_goals
    have hz:=hz2.out h1
    have HG:=Lib.hid hg
    clear hg
    go_wp2
    go_ret
    exact⟨gG HG.out.symm,hb⟩
theorem Bt {S S':Nat→Prop} (a a':Option Addr) (len cap len' cap':Nat) (ss ss':List ByteArray) (w:World) (h:aH S w a len ss) (h':aH S' w a' len' ss'):
  Calls Tryz.prog 144 #[.slice a len cap, .slice a' len' cap'] w fun e w'=>e= .returned (.bool (jq ss ss'))∧Below w.heap.size w w':=by
 have hl:=h.length
 have hl':=h'.length
 have hm:=h.row.small
 have hm':=h'.row.small
 unfold maxLen at hm hm'
 by_cases hle:len'≤len
 ·have HL:=Lib.hid hl
  have PX:=Lib.hid hl'
  clear hl hl'
  go_enter Tryz.func144,Tryz.ntmps144
  go_wp2
  go_loopw [5] (fun i wr=>∃k:Nat,k≤len'∧i= .int .i64 k∧ss.take k=ss'.take k∧Below w.heap.size w wr) (fun i _=>len'-(intOf i).toNat)
  case atStart=>exact⟨0,by omega,rfl,rfl,Below.refl _ _⟩
  case round=>
   obtain⟨k,hk,rfl,ht,hb⟩:=hrel
   have HT:=Lib.hid ht
   clear ht
   by_cases hlt:k<len'
   ·obtain⟨b,off,x,rfl,_,_,hx,_,hc⟩:=(h.below hb (Nat.le_refl _)).cell k (by omega)
    obtain⟨b',off',y,rfl,_,_,hy,_,hc'⟩:=(h'.below hb (Nat.le_refl _)).cell k hlt
    have HX:=Lib.hid hx
    have HY:=Lib.hid hy
    clear hx hy h h'
    have hk0:(0:Int)≤(k:Int):=by omega
    have hk1:(k:Int)<(len:Int):=by omega
    have hk2:(k:Int)<(len':Int):=by omega
    by_cases hxy:x=y
    ·subst hxy
     go_wp2
     go_quiet (fail)
     go_wp2
     go_roundw
     case rel=>exact⟨k+1,by omega,by go_num,sF HT.out HX.out HY.out,hb.trans ⟨rfl,rfl,rfl,Nat.le_refl _,fun _ _=>rfl⟩⟩
     case measure=>simp[intOf];omega
    ·have hxl:=yU hxy
     have HN:=Lib.hid hxy
     clear hxy
     go_wp2
     go_quiet (fail)
     go_wp2
     go_ret
     refine⟨gG ?_,hb.trans ⟨rfl,rfl,rfl,Nat.le_refl _,fun _ _=>rfl⟩⟩
     symm
     unfold jq
     rw[decide_eq_false_iff_not]
     refine qX (k:=k) ?_ HY.out HN.out
     rw[List.getElem?_take,if_pos (by have:=PX.out;omega)]
     exact HX.out
   ·have hk':k=len':=by omega
    have HK:=Lib.hid hk'
    clear hk'
    go_wp2
    go_ret
    refine⟨gG ?_,hb⟩
    have:=HT.out
    rw[HK.out]at this
    unfold jq
    rw[PX.out,this,List.take_of_length_le (by have:=PX.out;omega)]
    simp
 ·have hp:jq ss ss'=false:=by
   unfold jq
   rw[decide_eq_false_iff_not]
   intro hh
   have:=congrArg List.length hh
   simp at this
   omega
  have HP:=Lib.hid hp
  clear hp hl hl'
  go_enter Tryz.func144,Tryz.ntmps144
  go_wp2
  go_ret
  exact⟨gG HP.out.symm,Below.refl _ _⟩
end Go.Proofs.YtohpcppeajijnaaGreat
