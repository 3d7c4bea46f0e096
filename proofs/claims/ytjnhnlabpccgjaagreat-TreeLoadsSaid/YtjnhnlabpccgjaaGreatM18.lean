/- DERIVED: THE SHELF's CONTRACTS AT THIS DUMP, IN PLAIN WORDS (tools/lay-plain.mjs out of 'YtjnhnlabpccgjaaGreatLaypKeysLayS.lean', which tools/lay-shelf.mjs wrote): THE SAME DECLARATIONS UNDER THE SAME NAMES: 'import', 'namespace', 'open', 'def', 'theorem' AND NOTHING ELSE: no command of the shelf's: FOR A HAND-IN. Each laying: the table of numbers ('.._ren') and one theorem, a field a fact of the dump's own or the kernel's comparison; each contract: ONE APPLICATION. slices.Sorted(maps.Keys(m)) of a directory's names, rising. tree: List. A law's own tree: Look, Unlink, Rmdir, Rename, Drop, List. (*tree.Tree).Names. permafrostlaw11.sound. -/
import Derived.Test.YtjnhnlabpccgjaaGreatProg
import Derived.Shelf.SlIter.Nil
import Derived.Shelf.SlIter.Sorted
import Derived.Shelf.SortM.Plain
import Derived.Shelf.SortM.SortNone
import Derived.Ground.GgzProg
import Derived.Ground.SlgmProg
import Derived.Test.YtjnhnlabpccgjaaGreatM02
import Derived.Test.YtjnhnlabpccgjaaGreatM17
import Derived.Test.YtjnhnlabpccgjaaGreatM16
import Derived.Test.YtjnhnlabpccgjaaGreatM15
import Derived.Test.YtjnhnlabpccgjaaGreatM14
namespace Go.Proofs
open Go.Shelf
def Tryz.vS:Go.Shelf.Ren:=⟨fun|7=>63|10=>128|n=>n,fun|23=>110|26=>9|3=>3|28=>118|0=>0|27=>117|33=>176|4=>4|n=>n,fun|n=>n⟩
theorem Tryz.Mk:Go.Proofs.SlLaysZ.n7 Tryz.prog Tryz.vS:={
 mixed:=by kernel_rfl
 f7:=⟨Tryz.f63.name,by decide,Tryz.func63.trans (congrArg some (by kernel_rfl))⟩
 f10:=⟨Tryz.f128.name,by decide,Tryz.func128.trans (congrArg some (by kernel_rfl))⟩
 t0:=Tryz.underlying0
 a0:=Tryz.isAgg0
 z0:=Tryz.sizeOf0
 v0:=Tryz.zeroValue0
 t4:=Tryz.underlying4
 a4:=Tryz.isAgg4
 z4:=Tryz.sizeOf4
 v4:=Tryz.zeroValue4
 t23:=Tryz.underlying110
 a23:=Tryz.isAgg110
 z23:=Tryz.sizeOf110
 v23:=Tryz.zeroValue110
 t26:=Tryz.underlying9
 a26:=Tryz.isAgg9
 z26:=Tryz.sizeOf9
 v26:=Tryz.zeroValue9
 t27:=Tryz.underlying117
 a27:=Tryz.isAgg117
 z27:=Tryz.sizeOf117
 v27:=Tryz.zeroValue117
 t28:=Tryz.underlying118
 a28:=Tryz.isAgg118
 z28:=Tryz.sizeOf118
 v28:=Tryz.zeroValue118
 t33:=Tryz.underlying176
 a33:=Tryz.isAgg176
 z33:=Tryz.sizeOf176
 v33:=Tryz.zeroValue176}
def Tryz.wO:Go.Shelf.Ren:=⟨fun|6=>62|8=>126|9=>127|11=>160|13=>162|12=>161|23=>186|24=>187|14=>177|15=>178|16=>179|17=>180|18=>181|19=>182|20=>183|21=>184|22=>185|25=>214|26=>215|27=>216|28=>217|29=>218|30=>219|31=>231|n=>n,fun|26=>9|28=>118|24=>61|0=>0|3=>3|37=>171|48=>192|50=>27|4=>4|40=>222|39=>221|45=>133|5=>5|9=>9|51=>258|55=>261|57=>272|58=>65|33=>176|n=>n,fun|n=>n⟩
theorem Tryz.Ih:Go.Proofs.SlLaysZ.n6 Tryz.prog Tryz.wO:={
 mixed:=by kernel_rfl
 f6:=⟨Tryz.f62.name,by decide,Tryz.func62.trans (congrArg some (by kernel_rfl))⟩
 f8:=⟨Tryz.f126.name,by decide,Tryz.func126.trans (congrArg some (by kernel_rfl))⟩
 f11:=⟨Tryz.f160.name,by decide,Tryz.func160.trans (congrArg some (by kernel_rfl))⟩
 t0:=Tryz.underlying0
 a0:=Tryz.isAgg0
 z0:=Tryz.sizeOf0
 v0:=Tryz.zeroValue0
 t24:=Tryz.underlying61
 a24:=Tryz.isAgg61
 z24:=Tryz.sizeOf61
 v24:=Tryz.zeroValue61
 t26:=Tryz.underlying9
 a26:=Tryz.isAgg9
 z26:=Tryz.sizeOf9
 v26:=Tryz.zeroValue9
 t28:=Tryz.underlying118
 a28:=Tryz.isAgg118
 z28:=Tryz.sizeOf118
 v28:=Tryz.zeroValue118
 i26:=by kernel_rfl}
def Tryz.Ju:Go.Shelf.Ren:=⟨fun|6=>127|8=>162|9=>161|19=>186|20=>187|21=>177|22=>178|23=>179|24=>180|25=>181|26=>182|27=>183|28=>184|29=>185|36=>214|31=>215|32=>216|37=>217|38=>218|39=>219|41=>231|n=>n,fun|27=>61|29=>9|3=>3|32=>171|26=>61|0=>0|44=>192|46=>27|4=>4|36=>222|35=>221|41=>133|5=>5|9=>9|53=>258|57=>261|63=>272|64=>65|n=>n,fun|n=>n⟩
theorem Tryz.QA:Go.Proofs.SlLaysM.n6 Tryz.prog Tryz.Ju:={
 mixed:=by kernel_rfl
 f6:=⟨Tryz.f127.name,by decide,Tryz.func127.trans (congrArg some (by kernel_rfl))⟩
 f8:=Tryz.func162.trans (congrArg some (by kernel_rfl))
 f9:=⟨Tryz.f161.name,by decide,Tryz.func161.trans (congrArg some (by kernel_rfl))⟩
 f19:=Tryz.func186.trans (congrArg some (by kernel_rfl))
 f20:=Tryz.func187.trans (congrArg some (by kernel_rfl))
 f21:=⟨Tryz.f177.name,by decide,Tryz.func177.trans (congrArg some (by kernel_rfl))⟩
 f22:=⟨Tryz.f178.name,by decide,Tryz.func178.trans (congrArg some (by kernel_rfl))⟩
 f23:=⟨Tryz.f179.name,by decide,Tryz.func179.trans (congrArg some (by kernel_rfl))⟩
 f24:=⟨Tryz.f180.name,by decide,Tryz.func180.trans (congrArg some (by kernel_rfl))⟩
 f25:=⟨Tryz.f181.name,by decide,Tryz.func181.trans (congrArg some (by kernel_rfl))⟩
 f26:=⟨Tryz.f182.name,by decide,Tryz.func182.trans (congrArg some (by kernel_rfl))⟩
 f27:=⟨Tryz.f183.name,by decide,Tryz.func183.trans (congrArg some (by kernel_rfl))⟩
 f28:=⟨Tryz.f184.name,by decide,Tryz.func184.trans (congrArg some (by kernel_rfl))⟩
 f29:=⟨Tryz.f185.name,by decide,Tryz.func185.trans (congrArg some (by kernel_rfl))⟩
 f31:=Tryz.func215.trans (congrArg some (by kernel_rfl))
 f32:=Tryz.func216.trans (congrArg some (by kernel_rfl))
 f36:=⟨Tryz.f214.name,by decide,Tryz.func214.trans (congrArg some (by kernel_rfl))⟩
 f37:=⟨Tryz.f217.name,by decide,Tryz.func217.trans (congrArg some (by kernel_rfl))⟩
 f38:=⟨Tryz.f218.name,by decide,Tryz.func218.trans (congrArg some (by kernel_rfl))⟩
 f39:=⟨Tryz.f219.name,by decide,Tryz.func219.trans (congrArg some (by kernel_rfl))⟩
 f41:=⟨Tryz.f231.name,by decide,Tryz.func231.trans (congrArg some (by kernel_rfl))⟩
 t0:=Tryz.underlying0
 a0:=Tryz.isAgg0
 z0:=Tryz.sizeOf0
 v0:=Tryz.zeroValue0
 t3:=Tryz.underlying3
 a3:=Tryz.isAgg3
 z3:=Tryz.sizeOf3
 v3:=Tryz.zeroValue3
 t4:=Tryz.underlying4
 a4:=Tryz.isAgg4
 z4:=Tryz.sizeOf4
 v4:=Tryz.zeroValue4
 t5:=Tryz.underlying5
 a5:=Tryz.isAgg5
 z5:=Tryz.sizeOf5
 v5:=Tryz.zeroValue5
 t9:=Tryz.underlying9
 a9:=Tryz.isAgg9
 z9:=Tryz.sizeOf9
 v9:=Tryz.zeroValue9
 t26:=Tryz.underlying61
 a26:=Tryz.isAgg61
 z26:=Tryz.sizeOf61
 v26:=Tryz.zeroValue61
 t27:=Tryz.underlying61
 a27:=Tryz.isAgg61
 z27:=Tryz.sizeOf61
 v27:=Tryz.zeroValue61
 t29:=Tryz.underlying9
 a29:=Tryz.isAgg9
 z29:=Tryz.sizeOf9
 v29:=Tryz.zeroValue9
 t32:=Tryz.underlying171
 a32:=Tryz.isAgg171
 z32:=Tryz.sizeOf171
 v32:=Tryz.zeroValue171
 t35:=Tryz.underlying221
 a35:=Tryz.isAgg221
 z35:=Tryz.sizeOf221
 v35:=Tryz.zeroValue221
 t36:=Tryz.underlying222
 a36:=Tryz.isAgg222
 z36:=Tryz.sizeOf222
 v36:=Tryz.zeroValue222
 t41:=Tryz.underlying133
 a41:=Tryz.isAgg133
 z41:=Tryz.sizeOf133
 v41:=Tryz.zeroValue133
 t44:=Tryz.underlying192
 a44:=Tryz.isAgg192
 z44:=Tryz.sizeOf192
 v44:=Tryz.zeroValue192
 t46:=Tryz.underlying27
 a46:=Tryz.isAgg27
 z46:=Tryz.sizeOf27
 v46:=Tryz.zeroValue27
 t53:=Tryz.underlying258
 a53:=Tryz.isAgg258
 z53:=Tryz.sizeOf258
 v53:=Tryz.zeroValue258
 t57:=Tryz.underlying261
 a57:=Tryz.isAgg261
 z57:=Tryz.sizeOf261
 v57:=Tryz.zeroValue261
 t63:=Tryz.underlying272
 a63:=Tryz.isAgg272
 z63:=Tryz.sizeOf272
 v63:=Tryz.zeroValue272
 t64:=Tryz.underlying65
 a64:=Tryz.isAgg65
 z64:=Tryz.sizeOf65
 v64:=Tryz.zeroValue65}
open Go.RowKit Go.Maps Go.Sort Go.Shelf
theorem Tryz.Ml (m:Nat):AnyZ.SortsIn Tryz.prog Tryz.wO Fence.wide m:=
 ⟨fun blk off cap ss W hH hblk hsz=>callsIn_wide.2 (AnyM.slices_Sort_string Tryz.QA blk off cap ss W hH hblk hsz),
  fun p cap W=>callsIn_wide.2 (AnyM.slices_Sort_string_none Tryz.QA p cap W)⟩
theorem Tryz.Cr (mb:Option Nat) (W:World):Calls Tryz.prog 63 #[.map mb] W fun e w'=>e= .returned (.func (.func 128) #[] #[.pointer (some ⟨W.heap.size,0,none⟩)])∧w'=W.alloc (.cells #[.map mb] 110):=
 callsIn_wide.1 (AnyZ.keys_in Tryz.Mk Fence.wide 5 trivial rfl mb W)
set_option maxHeartbeats 1000000 in
theorem Tryz.Ba {H:Type} (b nn:Nat) (D0:DataW H) (R:Value→Option (DataW H×List MemPlace)) (w:World) (hown:w.ownsMap Tryz.prog 9 R b nn D0) (hmax:Maps.size D0≤maxLen) (hbytes:Maps.size D0*16≤140737488355328):
  Calls Tryz.prog 62 #[.func (.func 128) #[] #[.pointer (some ⟨w.heap.size,0,none⟩)]] (w.alloc (.cells #[.map (some b)] 110)) fun e w'=>∃(v:Value) (ss:List (List UInt8)),e= .returned v∧ss.Perm (strKeys D0)∧
   w'.ownsRow (w.alloc (.cells #[.map (some b)] 110)).heap.size 9 1 v ss.length ((ss.mergeSort (fun x y=>decide (x≤y))).map encStr)∧(v= .slice none 0 0↔ss=[])∧Below (w.alloc (.cells #[.map (some b)] 110)).heap.size (w.alloc (.cells #[.map (some b)] 110)) w':=by
 have hbl:=hown.lt
 have hseq:SeqGives Fence.wide 2 Tryz.prog 128 #[.pointer (some ⟨w.heap.size,0,none⟩)] encStr (fun ss=>ss.Perm (strKeys D0)) (Maps.size D0) (w.alloc (.cells #[.map (some b)] 110)):=
  AnyZ.keys_gives (ρ:=Tryz.vS) {Tryz.Mk with} Fence.wide _ trivial rfl (by omega) w.heap.size b nn D0 _ (by simp) (by simp) (by
   obtain⟨es,clock,hb,Ft,hs,hD⟩:=hown
   exact⟨es,clock,(Below.heap_alloc _ _ b hbl).trans hb,Ft,hs,hD⟩)
 exact callsIn_wide.1 (AnyZ.sorted_in Tryz.Ih Fence.wide 5 trivial trivial trivial trivial rfl (by omega) (Tryz.Ml _) (enters_of Tryz.func127 (by kernel_rfl) rfl) 128 #[.pointer (some ⟨w.heap.size,0,none⟩)] trivial (enters_of Tryz.func128 (by kernel_rfl) rfl) _ _ hmax hbytes _ hseq)
end Go.Proofs
namespace Go.Proofs.YtjnhnlabpccgjaaGreat
open Go.ChangeShapes Go.WideShapes Go.ChangeAt Go.RowKit
set_option linter.unusedVariables false
set_option linter.unusedSimpArgs false
theorem wP (l:List (Nm×Value)):strKeys (tL cK l)=l.map (·.1):=by
 unfold strKeys tL
 simp only[List.map_map]
 rfl
theorem QB:∀{a b:List UInt8},bytesBefore a b=true→a<b
 |[],[],h=>by cases h
 |[],_::_,_=>List.nil_lt_cons _ _
 |_::_,[],h=>by cases h
 |x::r,y::s,h=>by
  rw[List.cons_lt_cons_iff]
  simp only[bytesBefore,Bool.or_eq_true,Bool.and_eq_true,decide_eq_true_eq,beq_iff_eq]at h
  rcases h with h|⟨h1,h2⟩
  ·exact .inl h
  ·exact .inr ⟨h1,QB h2⟩
theorem uH {α:Type} {l:List (Nm×α)} (hl:aI bytesBefore l) {ss:List Nm} (hp:ss.Perm (l.map (·.1))):ss.mergeSort (fun x y=>decide (x≤y))=l.map (·.1):=by
 have h1:(ss.mergeSort (fun x y=>decide (x≤y))).Pairwise (fun a b=>decide (a≤b)=true):=List.pairwise_mergeSort (fun a b c h1 h2=>by simp only[decide_eq_true_eq]at*;exact List.le_trans h1 h2) (fun a b=>by simp only[Bool.or_eq_true,decide_eq_true_eq];exact List.le_total a b) ss
 have h2:(l.map (·.1)).Pairwise (fun a b=>decide (a≤b)=true):=by
  rw[List.pairwise_map]
  exact hl.imp fun{a b} h=>by simp only[decide_eq_true_eq];exact List.le_of_lt (QB h)
 exact((List.mergeSort_perm ss _).trans hp).eq_of_pairwise (fun a b _ _ h1 h2=>by simp only[decide_eq_true_eq]at h1 h2;exact List.le_antisymm h1 h2) h1 h2
def oh (T:aF) (id:Int):List Nm×Int:=match ah id T with
 |none=>([],20)
 |some x=>if x.kind=2 then(x.names.map (·.1),0)else([],23)
def xC (w:World) (q:List Nm×Int) (e:Ending) (w':World):Prop:=
 ∃a c,e= .returned (.tuple #[.slice a q.1.length c, .int .i64 q.2])∧q.1.length≤c∧aP (fun x=>w.heap.size≤x∧x<w'.heap.size) w' a q.1.length (q.1.map strOf)∧Below w.heap.size w w'
section
variable {g:Nat→Own} {D:Nat→Prop} {p mb:Nat} {ib nb:Int→Nat} {T:aF}
set_option maxRecDepth 100000 in
set_option maxHeartbeats 2000000 in
theorem OT (id:Int) (w:World) (h:aH g D w p mb ib nb T) (hT:fB T) (hid:(Lit.int .i64 id).wf=true):Calls Tryz.prog 113 #[ptr p, .int .i64 id] w (xC w (oh T id)):=by
 obtain⟨hc0,hpw,hmw⟩:=h.cell
 have hok:aV.ok id:=hid
 have fE:=Lib.hid h.map
 have HT:=Lib.hid hT
 cases hx:ah id T with
 |none=>
  have HG:Hid (ah id (T.map fun q=>(q.1,ptr (ib q.1)))=none):=by rw[dh,hx];rfl
  have HL:Hid (oh T id=([],20)):=by unfold oh;rw[hx];exact rfl
  clear hx h hT hid
  go_enter Tryz.func113,Tryz.ntmps113
  go_wp2_with (first|(at_lookup;refine aG aV rfl _ _ 104 107 rfl Tryz.underlying104 (Tryz.aT _) rfl fE.out id rfl hok ?_;rw[HG.out]))
  go_ret2
  rw[HL.out]
  exact⟨none,0,rfl,Nat.le_refl _,⟨aj.nil _ _ _,by simp⟩,Below.refl _ _⟩
 |some x=>
  have HG:Hid (ah id (T.map fun q=>(q.1,ptr (ib q.1)))=some (ptr (ib id))):=by rw[dh,hx];rfl
  obtain⟨c0,c1,c2,c3,c4,c5,c7,hiw⟩:=(h.item id x hx).cell
  have O1:=Lib.hid (hT.each id x hx)
  have ug:=hT.few hx
  by_cases hk:x.kind=2
  ·have HL:Hid (oh T id=(x.names.map (·.1),0)):=by unfold oh;rw[hx];simp only[if_pos hk];first|exact rfl|exact trivial
   have e2:fD x (nb id)= .map (some (nb id)):=if_pos hk
   rw[e2]at c7
   rw[hk]at c1
   have hM:=(h.item id x hx).names hk
   have hsz:(bL x).length=x.names.length:=List.length_map _
   have hkk:=Tryz.Cr (some (nb id)) w
   have hs:=Tryz.Ba (nb id) (bL x).length (tL cK (bL x)) lM w hM (by rw[jY,hsz];unfold maxLen;omega) (by rw[jY,hsz];omega)
   clear hx h hT hid hk e2 hM hsz
   go_enter Tryz.func113,Tryz.ntmps113
   go_wp2_with (first|(at_lookup;refine aG aV rfl _ _ 104 107 rfl Tryz.underlying104 (Tryz.aT _) rfl fE.out id rfl hok ?_;rw[HG.out])|(go_at_call 63;refine hkk.mono ?_;rintro e w' ⟨rfl,rfl⟩)|(go_at_call 62;refine hs.mono ?_;rintro e w' ⟨v,ss,rfl,hp,hown,hnil,hB⟩))
   go_ret2
   rw[HL.out]
   rw[wP]at hp
   have hml:(bL x).map (·.1)=x.names.map (·.1):=by unfold bL;rw[List.map_map];rfl
   rw[hml]at hp
   rw[uH O1.out.sorted hp]at hown
   have hlen:ss.length=(x.names.map (·.1)).length:=hp.length_eq
   have hB2:Below w.heap.size w w':=((Below.refl _ _).alloc (Nat.le_refl _) _).trans (hB.mono (by simp))
   have hs1:=hB.size
   rw[World.size_alloc]at hs1
   have hgood:∀s∈(x.names.map (·.1)).map strOf,s.size≤maxLen:=by
    intro s hs
    obtain⟨l,hl,rfl⟩:=List.mem_map.1 hs
    obtain⟨e,he,rfl⟩:=List.mem_map.1 hl
    have:=nT _ (O1.out.good e he)
    rw[eT];unfold maxLen;omega
   have hll:(x.names.map (·.1)).length≤4096:=by rw[List.length_map];exact ug
   obtain⟨h1,h2⟩:=hown
   simp only[List.length_map]at h1
   generalize x.names.map (·.1)=L at*
   rcases h2 with⟨rfl,h0⟩|⟨g,cap,cur,rfl,hg,hcur,hc1,hc2,hcs,htk⟩
   ·have:L=[]:=List.eq_nil_of_length_eq_zero (by omega)
    subst this
    exact⟨none,0,rfl,Nat.le_refl _,⟨aj.nil _ _ _,by simp⟩,hB2⟩
   ·have hgw:=(Array.getElem?_eq_some_iff.1 hcur).1
    rw[World.size_alloc]at hg
    refine⟨some ⟨g,0,none⟩,cap,by rw[←hlen];rfl,by simp only;omega,⟨⟨by simp,by simp only;unfold maxLen;omega,fun h0=>⟨g,0,rfl,⟨by omega,hgw⟩,hgw,fun i hi=> ?_⟩⟩,hgood⟩,hB2⟩
    simp only[World.cell?,hcur,Nat.zero_add]
    rw[List.map_map,show L.map (Value.string∘strOf)=L.map Go.Proofs.encStr from rfl]
    rw[←htk,List.getElem?_take,if_pos (show i<ss.length*1 by rw[hlen];simp only at hi;omega)]
    simp
  ·have HL:Hid (oh T id=([],23)):=by unfold oh;rw[hx];simp only[if_neg hk];first|exact rfl|exact trivial
   have hkk:(x.kind==2)=false:=by simpa using hk
   have hkn:(x.kind !=2)=true:=by simpa using hk
   clear hx h hT hid hk c7
   go_enter Tryz.func113,Tryz.ntmps113
   go_wp2_with (first|(at_lookup;refine aG aV rfl _ _ 104 107 rfl Tryz.underlying104 (Tryz.aT _) rfl fE.out id rfl hok ?_;rw[HG.out]))
   go_ret2
   rw[HL.out]
   exact⟨none,0,rfl,Nat.le_refl _,⟨aj.nil _ _ _,by simp⟩,Below.refl _ _⟩
end
section
variable {W w:World} {P:Nat→Prop} {p:Nat} {T:aF}
theorem Bb {S:Nat→Prop} (h:jf W P w p T) (a:Option Addr) (n c:Nat) (ls:List Nm) (hS:aP S w a n (ls.map strOf)):
  Calls Tryz.prog 67 #[ptr p, .slice a n c] w fun e w'=>e= .returned (.tuple #[.int .i64 (dY T ls).1, .int .i64 (dY T ls).2])∧Below w.heap.size w w':=by
 obtain⟨g,D,mb,ib,nb,hA,hF⟩:=h.at_
 exact OE a n c ls w hA h.ok hS
theorem OU {S:Nat→Prop} (h:cO W P w p T) (a:Option Addr) (n c:Nat) (ls:List Nm) (hS:aP S w a n (ls.map strOf)):
  Calls Tryz.prog 67 #[ptr p, .slice a n c] w fun e w'=>e= .returned (.tuple #[.int .i64 (dY T ls).1, .int .i64 (dY T ls).2])∧Below w.heap.size w w':=Bb h.w a n c ls hS
theorem Jv {S:Nat→Prop} (h:cO W P w p T) (a:Option Addr) (n c:Nat) (ls:List Nm) (hS:aP S w a n (ls.map strOf)) (hc:n≤c) (oP:n≤1000000):
  Calls Tryz.prog 33 #[ptr p, .slice a n c] w (dR W P w p (b_ T ls).2 (.int .i64 (b_ T ls).1)):=by
 obtain⟨g,D,mb,ib,nb,hA,hF⟩:=h.at_
 exact(Jf a n c ls w hA h.ok hS hc oP).mono fun e w' ht=>cO.lZ hF h.below h.low ht (h.ok.b_ _)
theorem Mq {S:Nat→Prop} (h:cO W P w p T) (a:Option Addr) (n c:Nat) (ls:List Nm) (hS:aP S w a n (ls.map strOf)) (hc:n≤c) (oP:n≤1000000):
  Calls Tryz.prog 103 #[ptr p, .slice a n c] w (dR W P w p (dF T ls).2 (.int .i64 (dF T ls).1)):=by
 obtain⟨g,D,mb,ib,nb,hA,hF⟩:=h.at_
 exact(Lx a n c ls w hA h.ok hS hc oP).mono fun e w' ht=>cO.lZ hF h.below h.low ht (h.ok.dF _)
theorem Jw {S S':Nat→Prop} (h:cO W P w p T) (hO:gI T) (a:Option Addr) (n c:Nat) (ls:List Nm) (a':Option Addr) (n' c':Nat) (ls':List Nm) (hS:aP S w a n (ls.map strOf)) (hS':aP S' w a' n' (ls'.map strOf)) (hc:n≤c) (oP:n≤1000000) (hc':n'≤c') (F3:n'≤1000000):
  Calls Tryz.prog 105 #[ptr p, .slice a n c, .slice a' n' c'] w (dR W P w p (bg T ls ls').2 (.int .i64 (bg T ls ls').1)):=by
 obtain⟨g,D,mb,ib,nb,hA,hF⟩:=h.at_
 exact(Jr a n c ls a' n' c' ls' w hA hO hS hS' hc oP hc' F3).mono fun e w' ht=>cO.lZ hF h.below h.low ht (hO.bg _ _).1
theorem OV (h:cO W P w p T) (id:Int) (hid:(Lit.int .i64 id).wf=true):
  Calls Tryz.prog 111 #[ptr p, .int .i64 id] w (dR W P w p (eD T id).2 (.int .i64 (eD T id).1)):=by
 obtain⟨g,D,mb,ib,nb,hA,hF⟩:=h.at_
 exact(drop_at id h.ok.w w hA hid).mono fun e w' ht=>cO.lZ hF h.below h.low ht (h.ok.eD _)
theorem OW (h:cO W P w p T) (id:Int) (hid:(Lit.int .i64 id).wf=true):Calls Tryz.prog 113 #[ptr p, .int .i64 id] w (xC w (oh T id)):=by
 obtain⟨g,D,mb,ib,nb,hA,hF⟩:=h.at_
 exact OT id w hA h.ok hid
end
def Mr (w:World) (L:List (List Nm)) (e:Ending) (w':World):Prop:=
 ∃a c vals l,e= .returned (.slice a l.length c)∧l.length≤c∧l.Perm L∧jm (fun b=>w.heap.size≤b∧b<w'.heap.size) w' vals l∧aj (fun b=>w.heap.size≤b∧b<w'.heap.size) w' a l.length vals∧Below w.heap.size w w'
def Jy (w:World) (L:List (List Nm)) (e:Ending) (w':World):Prop:=
 ∃a c vals l,e= .returned (.slice a l.length c)∧l.length≤c∧l.Perm L∧jm (fun b=>w.heap.size≤b∧b<w'.heap.size) w' vals l∧aj (fun b=>w.heap.size≤b∧b<w'.heap.size) w' a l.length vals∧Below w.heap.size w w'∧LW l
theorem Ga {T:aF} (hO:mU T) {id:Int} {q:List Nm} (h:q∈nZ T id):Small q:=by
 obtain⟨h1,h2,_,_⟩:=AU hO ((qG hO).1 h)
 exact⟨by omega,fun n hn=>vR (h2 n hn)⟩
section
variable {W w:World} {P:Nat→Prop} {p:Nat} {T:aF}
set_option maxHeartbeats 2000000 in
theorem D6 (h:jf W P w p T) (hO:mU T) (id:Int):Calls Tryz.prog 66 #[ptr p, .int .i64 id] w (Jy w (nZ T id)):=by
 obtain⟨g,D,mb,ib,nb,hA,hF⟩:=h.at_
 have hO2:=hO
 obtain⟨hT,dep,hd⟩:=hO2
 have hle:=Ie hO id
 have HN:=Lib.hid (rZ hT 8 w.heap.size id 0 [] w (.slice none 0 0) (.slice none 0 0) 0 [] hA (dH hT) (hd.Ia hT 0) (Nat.le_refl _) (fun b hb=>hb.elim (hA.low b) (hA.oO b)) ⟨rfl, .inl ⟨rfl,rfl⟩⟩ (AZ _ _) (fun k hk=>by simp at hk) (by simp) (by have h9:(fP T id 8 0 []).length≤65535:=hle;omega))
 have Ma:Hid (∀q∈nZ T id,Small q):=fun q hq=>Ga hO hq
 obtain⟨L,hL⟩:∃L,L=nZ T id:=⟨_,rfl⟩
 change Hid (kX p w.heap.size w id 0 _ _ 0 [] (nZ T id))at HN
 rw[←hL]at HN Ma⊢
 rw[←hL]at hle
 have WS:Hid (Calls Tryz.prog 129 #[ptr p, .int .i64 id, .int .i64 0, .slice none 0 0, .slice none 0 0] w fun e w'=>∃v',e= .returned v'∧bC w.heap.size w (.slice none 0 0) 0 [] L v' w'):=HN.out
 clear hL hA hF hT hd h hO HN
 go_enter Tryz.func66,Tryz.ntmps66
 go_wp2_with fail
 (with_reducible refine WS.out.mono ?_)
 rintro e w1 ⟨v1,rfl,vals,l,hp,ho,hv,hK,hb⟩
 have hB1:Below w.heap.size w w1:=hK.iU (Nat.le_refl _) fun x _ hx=>by cases hx
 have hs1:=hB1.size
 rw[Nat.zero_add,List.nil_append]at ho
 have hlen:l.length≤65535:=by rw[hp.length_eq];exact hle
 have hsm:∀q∈l,Small q:=fun q hq=>Ma.out q (hp.mem_iff.1 hq)
 have hform:=ho.2
 rcases hform with⟨hv0,hn0⟩|⟨gb,cap,cur,hv0,hg,_,hcap,_,_⟩
 ·subst hv0
  have HV:=Lib.hid hv
  have HP:=Lib.hid hp
  have HO:=Lib.hid ho
  have HB1:=Lib.hid hB1
  obtain⟨hvl,hvv⟩:=hv
  obtain rfl:l=[]:=List.eq_nil_of_length_eq_zero hn0
  obtain rfl:vals=[]:=List.eq_nil_of_length_eq_zero hvl
  clear ho hp hB1 hvl hvv hb hsm hK WS
  go_wp2_with fail
  (with_reducible refine(Jo _ _).mono ?_)
  rintro e w2 ⟨rfl,rfl⟩
  go_wp2_with fail
  go_ret
  exact⟨none,0,[],[],rfl,Nat.le_refl _,HP.out,⟨rfl,fun i q hq=>by simp at hq⟩,aj.nil _ _ _,HB1.out,List.Pairwise.nil⟩
 ·subst hv0
  have Zc:=Lib.hid (FY (S:=fun b=>w.heap.size≤b) w1 gb l.length cap vals l (by omega) ho (hv.move (Nat.le_refl _) fun b hb hbw=>⟨⟨fun he=>hb.2.2 (by rw[he];rfl),hb.1⟩,rfl⟩) hsm)
  have HV:=Lib.hid hv
  have HP:=Lib.hid hp
  have HB1:=Lib.hid hB1
  have hgw:=lQ ho gb rfl
  clear ho hp hB1 hb hsm hK WS hv
  obtain⟨n,hn⟩:∃n,n=l.length:=⟨_,rfl⟩
  have nV:=Lib.hid hn
  rw[←hn]at Zc hcap hlen⊢
  clear hn
  go_wp2_with fail
  (with_reducible refine Zc.out.mono ?_)
  rintro e w2 ⟨rfl,vals',l',hp',hv',hr',hK',hwk⟩
  have HWK:=Lib.hid hwk
  have HV2:=Lib.hid hv'
  have Tx:=Lib.hid hp'
  have HR2:=Lib.hid hr'
  have BZ:=Lib.hid hK'
  clear hv' hp' hr' hK' hwk
  go_wp2_with fail
  go_ret
  have hs2:=BZ.out.size
  have hln:l'.length=n:=by rw[nV.out];exact Tx.out.length_eq
  refine⟨some ⟨gb,0,none⟩,cap,vals',l',by rw[hln];rfl,by omega,Tx.out.trans HP.out,?_,?_,?_,HWK.out⟩
  ·exact HV2.out.move (Nat.le_refl _) fun b hb hbw=>⟨⟨hb.2.2,hbw⟩,rfl⟩
  ·rw[hln]
   exact HR2.out.move (Nat.le_refl _) fun b hb hbw=>⟨⟨by rw[hb];exact hg,hbw⟩,rfl⟩
  ·exact HB1.out.trans (BZ.out.iU HB1.out.size fun x hx he=>by rw[he]at hx;omega)
theorem Gb (h:jf W P w p T) (hO:mU T) (id:Int):Calls Tryz.prog 66 #[ptr p, .int .i64 id] w (Mr w (nZ T id)):=
 (D6 h hO id).mono fun _ _ ⟨a,c,vals,l,h1,h2,h3,h4,h5,h6,_⟩=>⟨a,c,vals,l,h1,h2,h3,h4,h5,h6⟩
end
theorem yN {k:Nat} (h:k<65536):65536-(intOf (.int .i64 ((k:Int)+1))).toNat<65536-(intOf (.int .i64 (k:Int))).toNat:=by
 simp only[intOf]
 omega
theorem Ms (T:aF) (id:Int):∃(v0 v1 v2 v3 v4:Int) (v5:Bool),iD T id= .agg #[.int .i64 v0, .int .i64 v1, .int .i64 v2, .int .i64 v3, .int .u64 v4, .bool v5]:=by
 unfold iD
 cases ah id T with
 |none=>exact⟨_,_,_,_,_,_,rfl⟩
 |some y=>exact⟨_,_,_,_,_,_,rfl⟩
section
variable {W w:World} {P:Nat→Prop} {p:Nat} {T:aF}
set_option maxRecDepth 100000 in
set_option maxHeartbeats 4000000 in
theorem D7 (h:jf W P w p T) (hO:mU T):Calls Tryz.prog 20 #[ptr p] w fun e w'=>e= .returned (.bool true)∧Below w.heap.size w w':=by
 have HT:=Lib.hid h
 have HO:=Lib.hid hO
 have hlen:=hO.1.len
 obtain⟨N,hN⟩:∃N,N=T.length:=⟨_,rfl⟩
 have HC:Hid (∀w',Below w.heap.size w w'→Calls Tryz.prog 64 #[ptr p] w' fun e w''=>e= .returned (.int .i64 N)∧w'=w''):=fun w' hb=>by rw[hN];exact yt (h.grow hb)
 have nV:=Lib.hid hN
 rw[←hN]at hlen
 clear h hO hN
 go_enter Tryz.func20,Tryz.ntmps20
 go_wp2_with fail
 go_loopw [3,4] (fun nv iv wr=>∃k:Nat,k≤65536∧iv= .int .i64 k∧nv= .int .i64 (below_ T k)∧Below w.heap.size w wr) (fun _ iv _=>65536-(intOf iv).toNat)
 case atStart=>exact⟨0,by omega,rfl,by rw[FQ HO.out.1];rfl,Below.refl _ _⟩
 case round=>
  obtain⟨k,hk,rfl,rfl,hB⟩:=hrel
  have HB:=Lib.hid hB
  have Ii:=hB.size
  have hat:=LK HO.out.1 k
  have hle1:=below_le T (k+1)
  have hle:=below_le T k
  obtain⟨m,hm⟩:∃m,m=below_ T k:=⟨_,rfl⟩
  rw[←hm]at hat hle⊢
  rw[←nV.out]at hle hle1
  have HM:=Lib.hid hm
  have Az:=Lib.hid hle
  have HLE1:=Lib.hid hle1
  clear hB hm hle1
  by_cases hlt:k<65536
  ·have hd1:decide ((k:Int)<65536)=true:=by simp;omega
   have Tz:=Lib.hid (HC.out _ HB.out)
   have hiw:(Lit.int .i64 (k:Int)).wf=true:=by simp[Lit.wf,IntKind.min,IntKind.max,IntKind.signed,IntKind.bits];omega
   by_cases hmn:m<N
   ·have hd2:decide ((m:Int)<(N:Int))=true:=by simpa using hmn
    have e2:IntKind.i64.wrap ((k:Int)+1)=(k:Int)+1:=IntWalk.i64_in _ (by omega)
    have e1:IntKind.i64.wrap ((m:Int)+1)=(m:Int)+1:=IntWalk.i64_in _ (by omega)
    have vg:=Lib.hid (AA (HT.out.grow HB.out) (k:Int) hiw)
    cases hx:ah (k:Int) T with
    |none=>
     obtain⟨n0,n1,n2,n3,n4,n5,hnd⟩:=Ms T (k:Int)
     rw[hnd,hx]at vg
     rw[hx]at hat
     simp only[Option.isSome_none,Bool.false_eq_true,if_false,Nat.add_zero]at vg hat
     have HAT:=Lib.hid hat
     have QC:=Lib.hid hlt
     clear hx hnd hiw hat hlt hk
     go_wp2_with fail
     (with_reducible refine Tz.out.mono ?_)
     rintro e w2 ⟨rfl,rfl⟩
     go_wp2_with fail
     (with_reducible refine vg.out.mono ?_)
     rintro e w3 ⟨rfl,hb3⟩
     have HB3:=Lib.hid (HB.out.trans (hb3.mono Ii))
     clear hb3
     go_wp2_with fail
     go_roundw
     case rel=>exact⟨k+1,QC.out,rfl,by rw[HAT.out],HB3.out.trans ((wall w3 _).mono HB3.out.size)⟩
     case measure=>exact yN QC.out
    |some x=>
     have hln:=yC HO.out hx
     have hmem:∀q∈nZ T (k:Int),dY T q=((k:Int),0)∧q.length≤8:=fun q hq=>by
      obtain⟨h1,_,_,h2⟩:=AU HO.out ((qG HO.out).1 hq)
      exact⟨h2,h1⟩
     have Un:=Lib.hid (fun(w':World) (hb:Below w.heap.size w w')=>Gb (HT.out.grow hb) HO.out (k:Int))
     have QD:iD T (k:Int)=iJ (k:Int) x:=by unfold iD;rw[hx]
     rw[QD,hx]at vg
     unfold iJ at vg
     rw[hx]at hat
     simp only[Option.isSome_some,if_true]at vg hat
     obtain⟨AL,hal⟩:∃AL,AL=nZ T (k:Int):=⟨_,rfl⟩
     rw[←hal]at hln hmem Un
     obtain⟨n,hn⟩:∃n,n=AL.length:=⟨_,rfl⟩
     rw[←hn]at hln
     have hn64:n≤65535:=by rw[hn,hal];exact Ie HO.out _
     rw[←hln]at vg
     have HAT:=Lib.hid hat
     have DV:=Lib.hid hmem
     have Tm:=Lib.hid hn
     have QC:=Lib.hid hlt
     clear hx QD hiw hat hal hln hmem hn hlt hk
     go_wp2_with fail
     (with_reducible refine Tz.out.mono ?_)
     rintro e w2 ⟨rfl,rfl⟩
     go_wp2_with fail
     (with_reducible refine vg.out.mono ?_)
     rintro e w3 ⟨rfl,hb3⟩
     have HB3:=Lib.hid (HB.out.trans (hb3.mono Ii))
     clear hb3
     go_wp2_with fail
     have hs3:=HB3.out.size
     have dS:=Lib.hid (HB3.out.alloc hs3 (.cells #[.int .i64 (k:Int), .int .i64 x.kind, .int .i64 (n:Int), .int .i64 (x.b.length:Int), .int .u64 x.aO, .bool x.closed] 101))
     (with_reducible refine(Un.out _ dS.out).mono ?_)
     rintro e w5 ⟨a5,c5,vals,l,rfl,hlc,hp,hv,hr,hb5⟩
     have hll:l.length=n:=by rw[hp.length_eq,Tm.out]
     rw[hll]at hr hlc⊢
     obtain⟨w4,hw4⟩:∃w4,w4=w3.alloc (.cells #[.int .i64 (k:Int), .int .i64 x.kind, .int .i64 (n:Int), .int .i64 (x.b.length:Int), .int .u64 x.aO, .bool x.closed] 101):=⟨_,rfl⟩
     have hcell:∀j v,(#[.int .i64 (k:Int), .int .i64 x.kind, .int .i64 (n:Int), .int .i64 (x.b.length:Int), .int .u64 x.aO, .bool x.closed]:Array Value)[j]? =some v→w5.cell? ⟨w3.heap.size,j,none⟩=some v:=fun j v hj=>by
      rw[hb5.cell (p:=⟨w3.heap.size,j,none⟩) (by simp)]
      simp only[World.cell?,(MapKept.heap_alloc w3 _).1]
      simpa using hj
     have q0:w5.cell? ⟨w3.heap.size,0,none⟩=some (.int .i64 (k:Int)):=hcell 0 _ rfl
     have q2:w5.cell? ⟨w3.heap.size,2,none⟩=some (.int .i64 (n:Int)):=hcell 2 _ rfl
     have q5:w5.cell? ⟨w3.heap.size,5,none⟩=some (.bool x.closed):=hcell 5 _ rfl
     rw[←hw4]at hb5 dS hv hr
     have hs4:w3.heap.size<w4.heap.size:=by rw[hw4];simp
     have iQ:=Lib.hid (dS.out.trans (hb5.mono (by omega)))
     have hs5:=hb5.size
     have HV:=Lib.hid hv
     have HR:=Lib.hid hr
     have HP:=Lib.hid hp
     have CW:=Lib.hid hll
     clear hv hr hp hb5 hcell hw4 hll
     go_wp2_with fail
     go_loopw [8] (fun i wr2=>∃j:Nat,j≤n∧i= .int .i64 j∧Below w5.heap.size w5 wr2) (fun i _=>n-(intOf i).toNat)
     case atStart=>exact⟨0,by omega,rfl,Below.refl _ _⟩
     case round=>
      obtain⟨j,hj,rfl,WT⟩:=hrel
      have OX:=Lib.hid WT
      have hsj:=WT.size
      clear WT
      by_cases hjn:j<n
      ·have hd3:decide ((j:Int)<(n:Int))=true:=by simpa using hjn
       obtain⟨q,hq⟩:∃q,l[j]? =some q:=⟨_,List.getElem?_eq_getElem (by have:=CW.out;omega)⟩
       obtain⟨u,hu,a6,c6,rfl,hc6,hst⟩:=HV.out.2 j q hq
       obtain⟨b5,OY,rfl,hbS,WU,hcc⟩:=HR.out.at_ (by omega)
       have z0:wr.cell? ⟨b5,OY+j,none⟩=some (.slice a6 q.length c6):=by
        rw[OX.out.cell (p:=⟨b5,OY+j,none⟩) WU,hcc j hjn,hu]
       have hqm:=DV.out q (HP.out.mem_iff.1 (List.mem_iff_getElem?.2 ⟨j,hq⟩))
       have lJ:=Lib.hid (Bb (HT.out.grow (iQ.out.trans (OX.out.mono iQ.out.size))) a6 q.length c6 q ⟨hst.row.move OX.out.size (fun b hb hbw=>⟨hb,OX.out.block b hbw⟩),hst.short⟩)
       rw[hqm.1]at lJ
       have hd8:decide ((8:Int)<(q.length:Int))=false:=by have:=hqm.2;simp;omega
       clear hq hu hcc hqm hst
       go_wp2_with fail
       (with_reducible refine lJ.out.mono ?_)
       rintro e w7 ⟨rfl,OZ⟩
       have vk:=Lib.hid (OX.out.trans (OZ.mono hsj))
       have z1:w7.cell? ⟨b5,OY+j,none⟩=some (.slice a6 q.length c6):=(OZ.cell (p:=⟨b5,OY+j,none⟩) (by simp only;omega)).trans z0
       clear OZ
       go_wp2_with fail
       go_roundw
       case rel=>exact⟨j+1,by omega,by go_num,vk.out⟩
       case measure=>simp[intOf];omega
      ·go_wp2_with fail
       go_roundw
       case rel=>exact⟨k+1,QC.out,rfl,by rw[HAT.out];rfl,iQ.out.trans (OX.out.mono iQ.out.size)⟩
       case measure=>exact yN QC.out
   ·obtain rfl:m=N:=by omega
    have hd2:decide ((m:Int)<(m:Int))=false:=by simp
    clear hiw hat hlt hk hle hmn
    go_wp2_with fail
    (with_reducible refine Tz.out.mono ?_)
    rintro e w2 ⟨rfl,rfl⟩
    go_wp2_with fail
    (with_reducible refine Tz.out.mono ?_)
    rintro e w2 ⟨rfl,rfl⟩
    go_wp2_with fail
    go_ret
    exact⟨by simp,HB.out⟩
  ·have hd1:decide ((k:Int)<65536)=false:=by simp;omega
   have Tz:=Lib.hid (HC.out _ HB.out)
   obtain rfl:m=N:=by
    have h1:=HM.out
    rw[show k=65536 by omega,Jk HO.out.1,←nV.out]at h1
    exact h1
   clear hat hlt hk hle
   go_wp2_with fail
   (with_reducible refine Tz.out.mono ?_)
   rintro e w2 ⟨rfl,rfl⟩
   go_wp2_with fail
   go_ret
   exact⟨by simp,HB.out⟩
end
end Go.Proofs.YtjnhnlabpccgjaaGreat
