/- DERIVED: THE SHELF's CONTRACTS AT THIS DUMP, IN PLAIN WORDS (tools/lay-plain.mjs out of 'YtohpcppeajijnaaGreatLaypKeysLayT.lean', which tools/lay-shelf.mjs wrote): THE SAME DECLARATIONS UNDER THE SAME NAMES: 'import', 'namespace', 'open', 'def', 'theorem' AND NOTHING ELSE: no command of the shelf's: FOR A HAND-IN. Each laying: the table of numbers ('.._ren') and one theorem, a field a fact of the dump's own or the kernel's comparison; each contract: ONE APPLICATION. slices.Sorted(maps.Keys(m)) of a tree's nodes: the IDs, rising. tree: IDs. A tree is copied: one item more. A row of one's own, kept. A drawn region whose last operation is a store: the condition S is asked behind each operation but that one. -/
import Derived.Test.YtohpcppeajijnaaGreatProg
import Derived.Shelf.SlIterI.Nil
import Derived.Shelf.SlIterI.Sorted
import Derived.Shelf.SortM.Plain
import Derived.Shelf.SortM.SortNone
import Derived.Ground.GgzProg
import Derived.Ground.SlgmProg
import Derived.Test.YtohpcppeajijnaaGreatM02
import Derived.Test.YtohpcppeajijnaaGreatM11
import Derived.Test.YtohpcppeajijnaaGreatM12
import Derived.Test.YtohpcppeajijnaaGreatM10
import Derived.Test.YtohpcppeajijnaaGreatM01
import Derived.Deep.RegionHeld3
namespace Go.Proofs
open Go.Shelf
def Tryz.xX:Go.Shelf.Ren:=⟨fun|7=>133|10=>171|n=>n,fun|23=>94|26=>3|3=>92|28=>185|0=>0|27=>184|33=>214|4=>4|n=>n,fun|n=>n⟩
theorem Tryz.Oa:Go.Proofs.SlLaysZI.n7 Tryz.prog Tryz.xX:={
 mixed:=by kernel_rfl
 f7:=⟨Tryz.f133.name,by decide,Tryz.func133.trans (congrArg some (by kernel_rfl))⟩
 f10:=⟨Tryz.f171.name,by decide,Tryz.func171.trans (congrArg some (by kernel_rfl))⟩
 t0:=Tryz.underlying0
 a0:=Tryz.isAgg0
 z0:=Tryz.sizeOf0
 v0:=Tryz.zeroValue0
 t4:=Tryz.underlying4
 a4:=Tryz.isAgg4
 z4:=Tryz.sizeOf4
 v4:=Tryz.zeroValue4
 t23:=Tryz.underlying94
 a23:=Tryz.isAgg94
 z23:=Tryz.sizeOf94
 v23:=Tryz.zeroValue94
 t26:=Tryz.underlying3
 a26:=Tryz.isAgg3
 z26:=Tryz.sizeOf3
 v26:=Tryz.zeroValue3
 t27:=Tryz.underlying184
 a27:=Tryz.isAgg184
 z27:=Tryz.sizeOf184
 v27:=Tryz.zeroValue184
 t28:=Tryz.underlying185
 a28:=Tryz.isAgg185
 z28:=Tryz.sizeOf185
 v28:=Tryz.zeroValue185
 t33:=Tryz.underlying214
 a33:=Tryz.isAgg214
 z33:=Tryz.sizeOf214
 v33:=Tryz.zeroValue214}
def Tryz.tQ:Go.Shelf.Ren:=⟨fun|6=>132|8=>169|9=>170|11=>187|13=>174|12=>188|23=>198|24=>199|14=>216|15=>217|16=>218|17=>219|18=>220|19=>221|20=>222|21=>223|22=>224|25=>238|26=>226|27=>227|28=>239|29=>240|30=>241|31=>246|n=>n,fun|26=>3|28=>185|24=>37|0=>0|3=>3|37=>153|48=>154|50=>43|4=>4|40=>231|39=>230|45=>106|5=>5|9=>9|51=>266|55=>269|57=>280|58=>31|33=>214|n=>n,fun|n=>n⟩
theorem Tryz.Mq:Go.Proofs.SlLaysZI.n6 Tryz.prog Tryz.tQ:={
 mixed:=by kernel_rfl
 f6:=⟨Tryz.f132.name,by decide,Tryz.func132.trans (congrArg some (by kernel_rfl))⟩
 f8:=⟨Tryz.f169.name,by decide,Tryz.func169.trans (congrArg some (by kernel_rfl))⟩
 f11:=⟨Tryz.f187.name,by decide,Tryz.func187.trans (congrArg some (by kernel_rfl))⟩
 t0:=Tryz.underlying0
 a0:=Tryz.isAgg0
 z0:=Tryz.sizeOf0
 v0:=Tryz.zeroValue0
 t24:=Tryz.underlying37
 a24:=Tryz.isAgg37
 z24:=Tryz.sizeOf37
 v24:=Tryz.zeroValue37
 t26:=Tryz.underlying3
 a26:=Tryz.isAgg3
 z26:=Tryz.sizeOf3
 v26:=Tryz.zeroValue3
 t28:=Tryz.underlying185
 a28:=Tryz.isAgg185
 z28:=Tryz.sizeOf185
 v28:=Tryz.zeroValue185
 i26:=by kernel_rfl}
def Tryz.Fa:Go.Shelf.Ren:=⟨fun|5=>170|8=>174|7=>188|19=>198|20=>199|10=>216|11=>217|12=>218|13=>219|14=>220|15=>221|16=>222|17=>223|18=>224|30=>238|31=>226|32=>227|33=>239|34=>240|35=>241|40=>246|n=>n,fun|23=>37|25=>3|3=>3|32=>153|22=>37|0=>0|44=>154|46=>43|4=>4|36=>231|35=>230|41=>106|5=>5|9=>9|53=>266|57=>269|63=>280|64=>31|n=>n,fun|n=>n⟩
theorem Tryz.Ob:Go.Proofs.SlLaysM.n5 Tryz.prog Tryz.Fa:={
 mixed:=by kernel_rfl
 f5:=⟨Tryz.f170.name,by decide,Tryz.func170.trans (congrArg some (by kernel_rfl))⟩
 f7:=⟨Tryz.f188.name,by decide,Tryz.func188.trans (congrArg some (by kernel_rfl))⟩
 f8:=Tryz.func174.trans (congrArg some (by kernel_rfl))
 f10:=⟨Tryz.f216.name,by decide,Tryz.func216.trans (congrArg some (by kernel_rfl))⟩
 f11:=⟨Tryz.f217.name,by decide,Tryz.func217.trans (congrArg some (by kernel_rfl))⟩
 f12:=⟨Tryz.f218.name,by decide,Tryz.func218.trans (congrArg some (by kernel_rfl))⟩
 f13:=⟨Tryz.f219.name,by decide,Tryz.func219.trans (congrArg some (by kernel_rfl))⟩
 f14:=⟨Tryz.f220.name,by decide,Tryz.func220.trans (congrArg some (by kernel_rfl))⟩
 f15:=⟨Tryz.f221.name,by decide,Tryz.func221.trans (congrArg some (by kernel_rfl))⟩
 f16:=⟨Tryz.f222.name,by decide,Tryz.func222.trans (congrArg some (by kernel_rfl))⟩
 f17:=⟨Tryz.f223.name,by decide,Tryz.func223.trans (congrArg some (by kernel_rfl))⟩
 f18:=⟨Tryz.f224.name,by decide,Tryz.func224.trans (congrArg some (by kernel_rfl))⟩
 f19:=Tryz.func198.trans (congrArg some (by kernel_rfl))
 f20:=Tryz.func199.trans (congrArg some (by kernel_rfl))
 f30:=⟨Tryz.f238.name,by decide,Tryz.func238.trans (congrArg some (by kernel_rfl))⟩
 f31:=Tryz.func226.trans (congrArg some (by kernel_rfl))
 f32:=Tryz.func227.trans (congrArg some (by kernel_rfl))
 f33:=⟨Tryz.f239.name,by decide,Tryz.func239.trans (congrArg some (by kernel_rfl))⟩
 f34:=⟨Tryz.f240.name,by decide,Tryz.func240.trans (congrArg some (by kernel_rfl))⟩
 f35:=⟨Tryz.f241.name,by decide,Tryz.func241.trans (congrArg some (by kernel_rfl))⟩
 f40:=⟨Tryz.f246.name,by decide,Tryz.func246.trans (congrArg some (by kernel_rfl))⟩
 t0:=Tryz.underlying0
 a0:=Tryz.isAgg0
 z0:=Tryz.sizeOf0
 v0:=Tryz.zeroValue0
 t3:=Tryz.underlying3
 a3:=Tryz.isAgg3
 z3:=Tryz.sizeOf3
 v3:=Tryz.zeroValue3
 t4:=Tryz.underlying4
 a4:=Tryz.isAgg4
 z4:=Tryz.sizeOf4
 v4:=Tryz.zeroValue4
 t5:=Tryz.underlying5
 a5:=Tryz.isAgg5
 z5:=Tryz.sizeOf5
 v5:=Tryz.zeroValue5
 t9:=Tryz.underlying9
 a9:=Tryz.isAgg9
 z9:=Tryz.sizeOf9
 v9:=Tryz.zeroValue9
 t22:=Tryz.underlying37
 a22:=Tryz.isAgg37
 z22:=Tryz.sizeOf37
 v22:=Tryz.zeroValue37
 t23:=Tryz.underlying37
 a23:=Tryz.isAgg37
 z23:=Tryz.sizeOf37
 v23:=Tryz.zeroValue37
 t25:=Tryz.underlying3
 a25:=Tryz.isAgg3
 z25:=Tryz.sizeOf3
 v25:=Tryz.zeroValue3
 t32:=Tryz.underlying153
 a32:=Tryz.isAgg153
 z32:=Tryz.sizeOf153
 v32:=Tryz.zeroValue153
 t35:=Tryz.underlying230
 a35:=Tryz.isAgg230
 z35:=Tryz.sizeOf230
 v35:=Tryz.zeroValue230
 t36:=Tryz.underlying231
 a36:=Tryz.isAgg231
 z36:=Tryz.sizeOf231
 v36:=Tryz.zeroValue231
 t41:=Tryz.underlying106
 a41:=Tryz.isAgg106
 z41:=Tryz.sizeOf106
 v41:=Tryz.zeroValue106
 t44:=Tryz.underlying154
 a44:=Tryz.isAgg154
 z44:=Tryz.sizeOf154
 v44:=Tryz.zeroValue154
 t46:=Tryz.underlying43
 a46:=Tryz.isAgg43
 z46:=Tryz.sizeOf43
 v46:=Tryz.zeroValue43
 t53:=Tryz.underlying266
 a53:=Tryz.isAgg266
 z53:=Tryz.sizeOf266
 v53:=Tryz.zeroValue266
 t57:=Tryz.underlying269
 a57:=Tryz.isAgg269
 z57:=Tryz.sizeOf269
 v57:=Tryz.zeroValue269
 t63:=Tryz.underlying280
 a63:=Tryz.isAgg280
 z63:=Tryz.sizeOf280
 v63:=Tryz.zeroValue280
 t64:=Tryz.underlying31
 a64:=Tryz.isAgg31
 z64:=Tryz.sizeOf31
 v64:=Tryz.zeroValue31}
open Go.RowKit Go.Maps Go.Sort Go.Shelf
theorem Tryz.OX (m:Nat):AnyZI.SortsIn Tryz.prog Tryz.tQ Fence.wide m:=
 ⟨fun blk off cap ss W hH hblk hsz=>callsIn_wide.2 (AnyM.slices_Sort_int Tryz.Ob blk off cap ss W hH hblk hsz),
  fun p cap W=>callsIn_wide.2 (AnyM.slices_Sort_int_none Tryz.Ob p cap W)⟩
theorem Tryz.Mr (mb:Option Nat) (W:World):Calls Tryz.prog 133 #[.map mb] W fun e w'=>e= .returned (.func (.func 171) #[] #[.pointer (some ⟨W.heap.size,0,none⟩)])∧w'=W.alloc (.cells #[.map mb] 94):=
 callsIn_wide.1 (AnyZI.keys_in Tryz.Oa Fence.wide 5 trivial rfl mb W)
set_option maxHeartbeats 1000000 in
theorem Tryz.Fb {H:Type} (b nn:Nat) (D0:DataW H) (R:Value→Option (DataW H×List MemPlace)) (w:World) (hown:w.ownsMap Tryz.prog 3 R b nn D0) (hmax:Maps.size D0≤maxLen) (hbytes:Maps.size D0*8≤140737488355328):
  Calls Tryz.prog 132 #[.func (.func 171) #[] #[.pointer (some ⟨w.heap.size,0,none⟩)]] (w.alloc (.cells #[.map (some b)] 94)) fun e w'=>∃(v:Value) (ss:List Int),e= .returned v∧ss.Perm (intKeys D0)∧
   w'.ownsRow (w.alloc (.cells #[.map (some b)] 94)).heap.size 3 1 v ss.length ((ss.mergeSort (fun x y=>decide (x≤y))).map encZ)∧(v= .slice none 0 0↔ss=[])∧Below (w.alloc (.cells #[.map (some b)] 94)).heap.size (w.alloc (.cells #[.map (some b)] 94)) w':=by
 have hbl:=hown.lt
 have hseq:SeqGives Fence.wide 2 Tryz.prog 171 #[.pointer (some ⟨w.heap.size,0,none⟩)] encZ (fun ss=>ss.Perm (intKeys D0)) (Maps.size D0) (w.alloc (.cells #[.map (some b)] 94)):=
  AnyZI.keys_gives (ρ:=Tryz.xX) {Tryz.Oa with} Fence.wide _ trivial rfl (by omega) w.heap.size b nn D0 _ (by simp) (by simp) (by
   obtain⟨es,clock,hb,Ft,hs,hD⟩:=hown
   exact⟨es,clock,(Below.heap_alloc _ _ b hbl).trans hb,Ft,hs,hD⟩)
 exact callsIn_wide.1 (AnyZI.sorted_in Tryz.Mq Fence.wide 5 trivial trivial trivial trivial rfl (by omega) (Tryz.OX _) (enters_of Tryz.func170 (by kernel_rfl) rfl) 171 #[.pointer (some ⟨w.heap.size,0,none⟩)] trivial (enters_of Tryz.func171 (by kernel_rfl) rfl) _ _ hmax hbytes _ hseq)
end Go.Proofs
namespace Go.Proofs.YtohpcppeajijnaaGreat
open Go.ChangeShapes Go.WideShapes Go.ChangeAt Go.RowKit
set_option linter.unusedVariables false
set_option linter.unusedSimpArgs false
theorem Ao (l:List (Int×Value)):intKeys (qL b_ l)=l.map (·.1):=by
 unfold intKeys qL
 simp only[List.map_map]
 rfl
theorem Ap {α:Type} {l:List (Int×α)} (hl:aJ (fun a b:Int=>decide (a<b)) l) {ss:List Int} (hp:ss.Perm (l.map (·.1))):ss.mergeSort (fun x y=>decide (x≤y))=l.map (·.1):=by
 have h1:(ss.mergeSort (fun x y=>decide (x≤y))).Pairwise (fun a b=>decide (a≤b)=true):=List.pairwise_mergeSort (fun a b c h1 h2=>by simp at*;omega) (fun a b=>by simp;omega) ss
 have h2:(l.map (·.1)).Pairwise (fun a b=>decide (a≤b)=true):=by
  rw[List.pairwise_map]
  exact hl.imp fun{a b} h=>by simp at*;omega
 exact((List.mergeSort_perm ss _).trans hp).eq_of_pairwise (fun a b _ _ h1 h2=>by simp at*;omega) h1 h2
def qX (w:World) (zs:List Int) (e:Ending) (w':World):Prop:=
 ∃a cap,e= .returned (.slice a zs.length cap)∧zs.length≤cap∧ak (fun x=>w.heap.size≤x∧x<w'.heap.size) w' a zs.length (zs.map (Value.int .i64))∧Below w.heap.size w w'
def iV (T:aI):List Int:=T.map (·.1)
section
variable {g:Nat→Own} {D:Nat→Prop} {p mb:Nat} {ib nb:Int→Nat} {T:aI}
set_option maxRecDepth 100000 in
set_option maxHeartbeats 1000000 in
theorem yU (w:World) (h:aK g D w p mb ib nb T) (hl:T.length≤100000):Calls Tryz.prog 84 #[ptr p] w (qX w (iV T)):=by
 obtain⟨hc0,hpw,hmw⟩:=h.cell
 have hsz:(T.map fun q=>(q.1,ptr (ib q.1))).length=T.length:=List.length_map _
 have hkk:(T.map fun q=>(q.1,ptr (ib q.1))).map (·.1)=iV T:=by unfold iV;rw[List.map_map];rfl
 have hso:=h.map.sorted.1
 have hk:=Tryz.Mr (some mb) w
 have hs:=Tryz.Fb mb (T.map fun q:Int×bf=>(q.1,ptr (ib q.1))).length (qL b_ (T.map fun q:Int×bf=>(q.1,ptr (ib q.1)))) kL w h.map (by rw[lg,hsz];unfold maxLen;omega) (by rw[lg,hsz];omega)
 have OY:=Lib.hid hso
 have HKK:=Lib.hid hkk
 clear h hso hkk hsz
 go_enter Tryz.func84,Tryz.ntmps84
 go_wp2_with (first|(go_at_call 133;refine hk.mono ?_;rintro e w' ⟨rfl,rfl⟩)|(go_at_call 132;refine hs.mono ?_;rintro e w' ⟨v,ss,rfl,hp,hown,hnil,hB⟩))
 go_ret
 rw[Ao]at hp
 rw[Ap OY.out hp,HKK.out]at hown
 have hlen:ss.length=(iV T).length:=by
  have:=hp.length_eq
  rw[HKK.out]at this
  exact this
 have hB2:Below w.heap.size w w':=((Below.refl _ _).alloc (Nat.le_refl _) _).trans (hB.mono (by simp))
 have hs1:=hB.size
 rw[World.size_alloc]at hs1
 obtain⟨h1,h2⟩:=hown
 simp only[List.length_map]at h1
 rcases h2 with⟨rfl,h0⟩|⟨g,cap,cur,rfl,hg,hcur,hc1,hc2,hcs,htk⟩
 ·have h00:(iV T).length=0:=by omega
  have:iV T=[]:=List.eq_nil_of_length_eq_zero h00
  rw[this]
  exact⟨none,0,rfl,Nat.le_refl _,ak.nil _ _ _,hB2⟩
 ·have hgw:=(Array.getElem?_eq_some_iff.1 hcur).1
  rw[World.size_alloc]at hg
  refine⟨some ⟨g,0,none⟩,cap,by rw[←hlen];rfl,by omega,⟨by simp,by omega,fun h0=>⟨g,0,rfl,⟨by omega,hgw⟩,hgw,fun i hi=> ?_⟩⟩,hB2⟩
  simp only[World.cell?,hcur,Nat.zero_add]
  rw[show(iV T).map (Value.int .i64)=(iV T).map encZ from rfl]
  rw[←htk,List.getElem?_take,if_pos (show i<ss.length*1 by rw[hlen];omega)]
  simp
end
theorem aK.Wj {g:Nat→Own} {D:Nat→Prop} {w w':World} {p mb:Nat} {ib nb:Int→Nat} {T:aI} (h:aK g D w p mb ib nb T) {k:Int} {x:bf} {i n:Nat} (hi0:w.heap.size≤i) (hn0:w.heap.size≤n) (hin:i≠n) (hiw:i<w'.heap.size) (hnw:x.kind=2→n<w'.heap.size) (hx0:aF k T=none)
  (hm:MapAt b_ w' mb (bP gL k (ptr i) (T.map fun q=>(q.1,ptr (ib q.1))))) (hsz:w.heap.size≤w'.heap.size) (hb:∀b,b<w.heap.size→b≠mb→w'.heap[b]? =w.heap[b]?) (hi:gU D w' k i n x):
  aK (fun b=>if b=i then .item k else if b=n∧x.kind=2 then .names k else g b) D w' p mb (fun j=>if j=k then i else ib j) (fun j=>if j=k then n else nb j) (bP gL k x T):=by
 have hgl:∀b,g b≠ .none→b≠i∧b≠n:=fun b hb=>by have:=h.low b hb;omega
 have hgg:∀b,g b≠ .none→(if b=i then Own.item k else if b=n∧x.kind=2 then .names k else g b)=g b:=fun b hb=>by
  obtain⟨h1,h2⟩:=hgl b hb
  rw[if_neg h1,if_neg (fun h=>h2 h.1)]
 have hp:g p≠ .none:=by rw[h.nX];simp
 have hmm:g mb≠ .none:=by rw[h.iJ];simp
 refine⟨(hb p (h.low p hp) (fun e=>by have:=h.nX;rw[e,h.iJ]at this;cases this)).trans h.head,?_,?_,(hgg p hp).trans h.nX,(hgg mb hmm).trans h.iJ,?_,?_,?_,?_,fun b hb=>Nat.lt_of_lt_of_le (h.lN b hb) hsz⟩
 ·have e1:(bP gL k x T).map (fun q=>(q.1,ptr ((fun j=>if j=k then i else ib j) q.1)))=bP gL k (ptr i) (T.map fun q=>(q.1,ptr (ib q.1))):=by
   rw[rY gL (fun j _=>ptr ((fun j=>if j=k then i else ib j) j))]
   simp only[if_pos]
   congr 1
   apply List.map_congr_left
   intro q hq
   have:q.1≠k:=iZ.1 hx0 q hq
   rw[if_neg this]
  rw[e1]
  exact hm
 ·intro j y hy
  rw[dV]at hy
  by_cases hj:j=k
  ·subst hj
   rw[if_pos rfl]at hy
   cases hy
   simp only[if_pos]
   exact hi
  ·rw[if_neg hj]at hy
   simp only[if_neg hj]
   have t1:=h.mX j y hy
   refine(h.item j y hy).move hsz (hb _ (h.low _ (by rw[t1];simp)) (fun e=>by rw[e,h.iJ]at t1;cases t1)) (fun hk=>hb _ (h.low _ (by rw[h.lq j y hy hk];simp)) (fun e=>by have t2:=h.lq j y hy hk;rw[e,h.iJ]at t2;cases t2)) ?_
   intro b Af hbw
   exact⟨Af,hb b hbw (fun e=>by have:=h.data b Af;rw[e,h.iJ]at this;cases this)⟩
 ·intro j y hy
  rw[dV]at hy
  by_cases hj:j=k
  ·subst hj;simp
  ·rw[if_neg hj]at hy
   have t1:=h.mX j y hy
   simp only[if_neg hj]
   rw[hgg _ (by rw[t1];simp)]
   exact t1
 ·intro j y hy hk
  rw[dV]at hy
  by_cases hj:j=k
  ·subst hj
   rw[if_pos rfl]at hy
   cases hy
   simp only[if_pos]
   rw[if_neg (Ne.symm hin),if_pos ⟨trivial,hk⟩]
  ·rw[if_neg hj]at hy
   have t1:=h.lq j y hy hk
   simp only[if_neg hj]
   rw[hgg _ (by rw[t1];simp)]
   exact t1
 ·intro b Af
  have:=h.lN b Af
  rw[if_neg (by omega),if_neg (by omega)]
  exact h.data b Af
 ·intro b hbn
  by_cases h1:b=i
  ·omega
  ·by_cases h2:b=n∧x.kind=2
   ·have:=hnw h2.2;omega
   ·simp only[if_neg h1,if_neg h2]at hbn
    exact Nat.lt_of_lt_of_le (h.low b hbn) hsz
def lV (left:Int→Bool) (T:aI):aI:=T.filter fun q=> !left q.1
theorem sH (left:Int→Bool) (T:aI) (k:Int):aF k (lV left T)=if left k=true then none else aF k T:=by
 unfold lV
 induction T with
 |nil=>simp[aF]
 |cons y r ih=>
  rw[List.filter_cons,eP]
  by_cases hl:left y.1=true
  ·simp only[hl,Bool.not_true,Bool.false_eq_true,if_false]
   rw[ih]
   by_cases hk:y.1=k
   ·subst hk;rw[if_pos hl,if_pos hl]
   ·rw[if_neg hk]
  ·simp only[hl,Bool.not_false,if_true]
   rw[eP,ih]
   by_cases hk:y.1=k
   ·subst hk;rw[if_pos rfl,if_neg hl,if_pos rfl]
   ·rw[if_neg hk,if_neg hk]
theorem qY {T:aI} (h:aJ gL T) (left:Int→Bool):aJ gL (lV left T):=List.Pairwise.filter _ h
theorem Aq {left:Int→Bool} {T:aI} (h:∀q∈T,left q.1=true):lV left T=[]:=by
 unfold lV
 rw[List.filter_eq_nil_iff]
 intro q hq
 simp[h q hq]
theorem Fe {left:Int→Bool} {T:aI} (h:∀k,left k=false):lV left T=T:=by
 unfold lV
 rw[List.filter_eq_self]
 intro q _
 simp[h q.1]
theorem Cm {left:Int→Bool} {T:aI} (hs:aJ gL T) {k:Int} {x:bf} (hx:aF k T=some x) (h:left k=true):bP gL k x (lV left T)=lV (fun z=>left z&& !decide (z=k)) T:=by
 refine Aa dD ((qY hs left).bP dD k x) (qY hs _) fun j=> ?_
 rw[dV,sH,sH]
 by_cases hj:j=k
 ·subst hj
  rw[if_pos rfl,hx]
  simp
 ·rw[if_neg hj]
  simp[hj]
def bM (T:aI):aI:=(iV T).foldl (fun S id=>(eu S id).2) T
theorem bY {w w':World} {B:Nat} {e:TypeId} {size:Nat} {v:Value} {n:Nat} {xs:List Value} (h:w.ownsRow B e size v n xs) (hk:∀b,v.ownBlock=some b→b<w.heap.size→w'.heap[b]? =w.heap[b]?):w'.ownsRow B e size v n xs:=by
 refine⟨h.1,?_⟩
 rcases h.2 with h1|⟨g,cap,cur,rfl,hg,hcur,rest⟩
 ·exact .inl h1
 ·exact .inr ⟨g,cap,cur,rfl,hg,(hk g rfl (Array.getElem?_eq_some_iff.1 hcur).1).trans hcur,rest⟩
theorem jF {w:World} {B:Nat} {e:TypeId} {size:Nat} {v:Value} {n:Nat} {xs:List Value} (h:w.ownsRow B e size v n xs):∀b,v.ownBlock=some b→b<w.heap.size:=by
 intro b hb
 rcases h.2 with⟨rfl,_⟩|⟨g,cap,cur,rfl,hg,hcur,rest⟩
 ·cases hb
 ·cases hb
  exact(Array.getElem?_eq_some_iff.1 hcur).1
open Go
section
variable {P:Program} {ops:Array Oper} {Q:Exit→Act→World→Prop} {md:Region.Mode} {S:World→Prop} {last:Nat}
def wpAnyL (P:Program) (md:Region.Mode) (ops:Array Oper) (Q:Exit→Act→World→Prop) (S:World→Prop) (last:Nat):Nat→Array Bool→Act→World→Prop
 |0,listed,a,w=>Region.ready md ops listed=[]∧Q .normal a w
 |fuel+1,listed,a,w=>
  (Region.ready md ops listed=[]→Q .normal a w)∧
  ∀i∈Region.ready md ops listed,wpOp P ops Q i (fun a' w'=>(i≠last→S w')∧wpAnyL P md ops Q S last fuel (listed.setIfInBounds i true) a' w') a w
theorem vG:∀(fuel:Nat) (listed:Array Bool) (a:Act) (w:World),wpAnyL P md ops Q S last fuel listed a w→wpAny P md ops Q fuel listed a w
 |0,_,_,_,h=>h
 |fuel+1,_,_,_,h=>⟨h.1,fun i hi=>wpOp_mono (fun a' w' h'=>vG fuel _ a' w' h'.2) (h.2 i hi)⟩
def Closed (md:Region.Mode) (ops:Array Oper) (listed:Array Bool):Prop:=∀j o,ops[j]? =some o→listed.getD j false=true→∀e∈o.after,Region.binds md e=true→listed.getD e.on false=true
def reach (md:Region.Mode) (ops:Array Oper) (i:Nat):Nat→Nat→Bool
 |0,_=>false
 |f+1,j=>match ops[j]? with
  |none=>false
  |some o=>o.after.any fun e=>Region.binds md e&&(e.on==i||reach md ops i f e.on)
theorem vH {listed:Array Bool} {i:Nat} (h:listed.getD i true=false) (h1:listed.getD i false=true):False:=by
 rcases Nat.lt_or_ge i listed.size with h'|h'
 ·simp[h']at h h1;rw[h]at h1;cases h1
 ·simp[Array.getElem?_eq_none h']at h1
theorem xY {listed:Array Bool} (hc:Closed md ops listed) {i:Nat} (hi:listed.getD i true=false):∀(f j:Nat),reach md ops i f j=true→j∉Region.ready md ops listed∧¬listed.getD j false=true
 |0,_,h=>by cases h
 |f+1,j,h=>by
  unfold reach at h
  cases ho:ops[j]? with
  |none=>rw[ho]at h;cases h
  |some o=>
   rw[ho]at h
   simp only[Array.any_eq_true']at h
   obtain⟨e,he,h2⟩:=h
   simp only[Bool.and_eq_true,Bool.or_eq_true,beq_iff_eq]at h2
   have key:¬listed.getD e.on false=true:=fun h3=>by
    rcases h2.2 with h4|h4
    ·rw[h4]at h3;exact vH hi h3
    ·exact(xY hc hi f e.on h4).2 h3
   refine⟨fun hr=> ?_,fun hl=>key (hc j o ho hl e he h2.1)⟩
   obtain⟨_,o',ho',hall⟩:=mem_ready.1 hr
   rw[ho]at ho'
   cases ho'
   exact key (hall e he h2.1)
theorem Ar {listed:Array Bool} (hc:Closed md ops listed) {i:Nat} (hi:i∈Region.ready md ops listed):Closed md ops (listed.setIfInBounds i true):=by
 intro j o ho hl e he hb
 by_cases hji:i=j
 ·subst hji
  obtain⟨_,o',ho',hall⟩:=mem_ready.1 hi
  rw[ho]at ho'
  cases ho'
  exact getD_set_true (hall e he hb)
 ·rw[getD_set_ne false hji]at hl
  exact getD_set_true (hc j o ho hl e he hb)
theorem wpAnyL_first {i:Nat} {oi:Oper} {v:Value} (hi:ops[i]? =some oi) (hsel:∀(j:Nat) (o:Oper) cs b,ops[j]? =some o→o.op≠ .select cs b)
  (hQ:∀c a w,Q (.panic c) (a.put oi.dst v) w→Q (.panic c) a w) {f:Nat} (hre:reach md ops i f last=true):
  ∀(fuel:Nat) (listed:Array Bool) (a:Act) (w:World),Closed md ops listed→
   (∀j oj,ops[j]? =some oj→j≠i→listed.getD j true=false→(∀e∈oj.after,Region.binds md e=true→e.on≠i)→oi.apart ops oj=true)→
   i∈Region.ready md ops listed→YieldsIf P ops S oi v a→S w→
   wpAnyL P md ops Q S last fuel (listed.setIfInBounds i true) (a.put oi.dst v) w→wpAnyL P md ops Q S last (fuel+1) listed a w:=by
 intro fuel
 induction fuel with
 |zero=>
  intro listed a w _ _ hr hy hS H
  refine⟨fun h=>(by rw[h]at hr;cases hr),fun j hj=> ?_⟩
  by_cases hji:j=i
  ·subst hji;exact hy.wpOp hi hS ⟨fun _=>hS,H⟩
  ·have:=ready_mono hj hji
   rw[H.1]at this
   cases this
 |succ fuel ih=>
  intro listed a w hcl hfree hr hy hS H
  refine⟨fun h=>(by rw[h]at hr;cases hr),fun j hj=> ?_⟩
  by_cases hji:j=i
  ·subst hji;exact hy.wpOp hi hS ⟨fun _=>hS,H⟩
  ·have hjl:j≠last:=fun e=>(xY hcl (mem_ready.1 hr).1 f last hre).1 (e▸hj)
   have h1:=H.2 j (ready_mono hj hji)
   obtain⟨hjun,oj,hoj,hall⟩:=mem_ready.1 hj
   have hnot:∀e∈oj.after,Region.binds md e=true→e.on≠i:=fun e he hb heq=>by
    have h1:=hall e he hb
    rw[heq]at h1
    exact vH (mem_ready.1 hr).1 h1
   have h2:=wpOp_putIf hoj (hfree j oj hoj hji hjun hnot) (fun cs b=>hsel i oi cs b hi) (fun cs b=>hsel j oj cs b hoj) hQ hy h1
   have hfree':∀k ok,ops[k]? =some ok→k≠i→(listed.setIfInBounds j true).getD k true=false→
     (∀e∈ok.after,Region.binds md e=true→e.on≠i)→oi.apart ops ok=true:=fun k ok hk hki hun hno=>by
    refine hfree k ok hk hki ?_ hno
    by_cases hjk:j=k
    ·subst hjk;exact hjun
    ·rw[getD_set_ne true hjk]at hun;exact hun
   refine wpOp_mono (fun a' w' h3=>⟨fun _=>h3.2.1 hjl,ih (listed.setIfInBounds j true) a' w' (Ar hcl hj) hfree' (ready_mono hr (Ne.symm hji)) h3.1 (h3.2.1 hjl) ?_⟩) h2
   rw[Array.setIfInBounds_comm _ _ hji]
   exact h3.2.2
def uP (md:Region.Mode) (ops:Array Oper) (listed:Array Bool):Bool:=
 (List.range ops.size).all fun j=> !listed.getD j false||match ops[j]? with
  |none=>true
  |some o=>o.after.all fun e=> !Region.binds md e||listed.getD e.on false
theorem Fg {listed:Array Bool} (h:uP md ops listed=true):Closed md ops listed:=by
 intro j o ho hl e he hb
 have hj:j<ops.size:=(Array.getElem?_eq_some_iff.1 ho).1
 unfold uP at h
 rw[List.all_eq_true]at h
 have h1:=h j (List.mem_range.2 hj)
 rw[hl,ho]at h1
 simp only[Bool.not_true,Bool.false_or,Array.all_eq_true']at h1
 have h2:=h1 e he
 rw[hb]at h2
 simpa using h2
theorem Au {i:Nat} {oi:Oper} {v:Value} {fuel:Nat} {listed:Array Bool} {a:Act} {w:World} (hi:ops[i]? =some oi)
  (hs:Region.noSelect ops=true) (hf:Region.free md ops listed i=true) (hr:(Region.ready md ops listed).contains i=true) (hcl:uP md ops listed=true) (hre:reach md ops i ops.size last=true)
  (hQ:∀c a w,Q (.panic c) (a.put oi.dst v) w→Q (.panic c) a w) (hy:YieldsIf P ops S oi v a) (hS:S w)
  (h:wpAnyL P md ops Q S last fuel (listed.setIfInBounds i true) (a.put oi.dst v) w):wpAnyL P md ops Q S last (fuel+1) listed a w:=
 wpAnyL_first hi (Region.noSelect_spec hs) hQ hre fuel listed a w (Fg hcl) (Region.free_spec hi hf) (by simpa using hr) hy hS h
theorem aG {listed:Array Bool} {a:Act} {w:World} (hr:Region.ready md ops listed=[]) (h:Q .normal a w):
  ∀fuel,wpAnyL P md ops Q S last fuel listed a w
 |0=>⟨hr,h⟩
 |_+1=>⟨fun _=>h,by rw[hr];simp⟩
def ah (P:Program) (md:Region.Mode) (ops:Array Oper) (Q:Exit→Act→World→Prop) (S:World→Prop) (last:Nat) (fuel:Nat) (listed:Array Bool) (a:Act) (w:World) (rs:List Nat):Prop:=
 ∀i∈rs,wpOp P ops Q i (fun a' w'=>(i≠last→S w')∧wpAnyL P md ops Q S last fuel (listed.setIfInBounds i true) a' w') a w
theorem ah.nil {fuel:Nat} {listed:Array Bool} {a:Act} {w:World}:ah P md ops Q S last fuel listed a w []:=fun _ h=>by cases h
theorem ah.cons {fuel:Nat} {listed:Array Bool} {a:Act} {w:World} {i:Nat} {o:Oper} {rs:List Nat} (ho:ops[i]? =some o)
  (h:∀K':Act→World→Prop,Shut (∀a w,(i≠last→S w)→((i≠last→S w)→wpAnyL P md ops Q S last fuel (listed.setIfInBounds i true) a w)→K' a w)→if Region.wanted o (yielded ops a.tmps)=true then Oper.wp P o a w K' Q else K' (a.put o.dst undef) w)
  (hs:ah P md ops Q S last fuel listed a w rs):ah P md ops Q S last fuel listed a w (i::rs):=fun j hj=>by
 rcases List.mem_cons.1 hj with rfl|hj
 ·exact wpOp_step ho (fun K' hK=>h K' (fun a w hS hW=>hK a w ⟨hS,hW hS⟩))
 ·exact hs j hj
theorem aj {rs:List Nat} {fuel:Nat} {listed:Array Bool} {a:Act} {w:World} (hr:Region.ready md ops listed=rs) (hne:rs≠[])
  (h:ah P md ops Q S last fuel listed a w rs):wpAnyL P md ops Q S last (fuel+1) listed a w:=⟨fun h0=>absurd (hr▸h0) hne,hr▸h⟩
theorem aH {id:Nat} {a:Act} {w:World} (hm:P.follows .mixedOrders=true) (hS:S w.drew)
  (h:S w.drew→wpAnyL P .any ops Q S last ops.size (Array.replicate ops.size false) a w.drew):(Code.region id ops true).wp P Q a w:=
 wp_region_any hm (vG _ _ _ _ (h hS))
theorem aC (i:Nat) {oi:Oper} {v:Value} {fuel:Nat} {listed l':Array Bool} {a a':Act} {w:World}
  (hi:ops[i]? =some oi:=by simp only[List.getElem?_toArray,List.getElem?_cons_succ,List.getElem?_cons_zero];rfl)
  (hs:Region.noSelect ops=true:=by kernel_rfl) (hf:Region.free md ops listed i=true:=by kernel_rfl) (hr:(Region.ready md ops listed).contains i=true:=by kernel_rfl) (hcl:uP md ops listed=true:=by kernel_rfl) (hre:reach md ops i ops.size last=true:=by kernel_rfl)
  (hQ:∀c a w,Q (.panic c) (a.put oi.dst v) w→Q (.panic c) a w:=by exact fun _ _ _ h=>h)
  (hw:Region.wanted oi (yielded ops a.tmps)=true:=by rfl)
  (hy:∀w,S w→(execOp a.eval oi).run P w= .ok (.value v) w:=by intro w hSw;(try dsimp only at hSw);go_simp;(try with_reducible rfl))
  (hl:listed.setIfInBounds i true=l':=by(try simp only[List.setIfInBounds_toArray,List.set_cons_zero,List.set_cons_succ]);rfl)
  (ha:a.put oi.dst v=a':=by(try simp only[Act.put,List.setIfInBounds_toArray,List.set_cons_zero,List.set_cons_succ]);rfl)
  (hS:S w) (h:wpAnyL P md ops Q S last fuel l' a' w):wpAnyL P md ops Q S last (fuel+1) listed a w:=
 Au hi hs hf hr hcl hre hQ (Or.inl ⟨hw,hy⟩) hS (by rw[hl,ha];exact h)
theorem dh (i:Nat) {o:Oper} {fuel:Nat} {listed:Array Bool} {a:Act} {w:World}
  (ho:ops[i]? =some o:=by simp only[List.getElem?_toArray,List.getElem?_cons_succ,List.getElem?_cons_zero];rfl) (hr:Region.ready md ops listed=[i]:=by kernel_rfl)
  (h:∀K':Act→World→Prop,Shut (∀a w,(i≠last→S w)→((i≠last→S w)→wpAnyL P md ops Q S last fuel (listed.setIfInBounds i true) a w)→K' a w)→if Region.wanted o (yielded ops a.tmps)=true then Oper.wp P o a w K' Q else K' (a.put o.dst undef) w):wpAnyL P md ops Q S last (fuel+1) listed a w:=
 aj hr (by simp) (ah.cons ho h ah.nil)
end
end Go.Proofs.YtohpcppeajijnaaGreat
