/- DERIVED: THE SHELF's CONTRACTS AT THIS DUMP, IN PLAIN WORDS (tools/lay-plain.mjs out of 'YtjnhnlabpccgjaaGreatLaypKeysLayT.lean', which tools/lay-shelf.mjs wrote): THE SAME DECLARATIONS UNDER THE SAME NAMES: 'import', 'namespace', 'open', 'def', 'theorem' AND NOTHING ELSE: no command of the shelf's: FOR A HAND-IN. Each laying: the table of numbers ('.._ren') and one theorem, a field a fact of the dump's own or the kernel's comparison; each contract: ONE APPLICATION. slices.Sorted(maps.Keys(m)) of a tree's nodes: the IDs, rising. tree: IDs. A tree is copied: one item more. A row of one's own, kept. A drawn region whose last operation is a store: the condition S is asked behind each operation but that one. -/
import Derived.Test.YtjnhnlabpccgjaaGreatProg
import Derived.Shelf.SlIterI.Nil
import Derived.Shelf.SlIterI.Sorted
import Derived.Shelf.SortM.Plain
import Derived.Shelf.SortM.SortNone
import Derived.Ground.GgzProg
import Derived.Ground.SlgmProg
import Derived.Test.YtjnhnlabpccgjaaGreatM02
import Derived.Test.YtjnhnlabpccgjaaGreatM11
import Derived.Test.YtjnhnlabpccgjaaGreatM10
import Derived.Test.YtjnhnlabpccgjaaGreatM01
import Derived.Deep.RegionHeld3
namespace Go.Proofs
open Go.Shelf
def Tryz.BK:Go.Shelf.Ren:=⟨fun|7=>123|10=>159|n=>n,fun|23=>104|26=>3|3=>107|28=>181|0=>0|27=>180|33=>206|4=>4|n=>n,fun|n=>n⟩
theorem Tryz.TN:Go.Proofs.SlLaysZI.n7 Tryz.prog Tryz.BK:={
 mixed:=by kernel_rfl
 f7:=⟨Tryz.f123.name,by decide,Tryz.func123.trans (congrArg some (by kernel_rfl))⟩
 f10:=⟨Tryz.f159.name,by decide,Tryz.func159.trans (congrArg some (by kernel_rfl))⟩
 t0:=Tryz.underlying0
 a0:=Tryz.isAgg0
 z0:=Tryz.sizeOf0
 v0:=Tryz.zeroValue0
 t4:=Tryz.underlying4
 a4:=Tryz.isAgg4
 z4:=Tryz.sizeOf4
 v4:=Tryz.zeroValue4
 t23:=Tryz.underlying104
 a23:=Tryz.isAgg104
 z23:=Tryz.sizeOf104
 v23:=Tryz.zeroValue104
 t26:=Tryz.underlying3
 a26:=Tryz.isAgg3
 z26:=Tryz.sizeOf3
 v26:=Tryz.zeroValue3
 t27:=Tryz.underlying180
 a27:=Tryz.isAgg180
 z27:=Tryz.sizeOf180
 v27:=Tryz.zeroValue180
 t28:=Tryz.underlying181
 a28:=Tryz.isAgg181
 z28:=Tryz.sizeOf181
 v28:=Tryz.zeroValue181
 t33:=Tryz.underlying206
 a33:=Tryz.isAgg206
 z33:=Tryz.sizeOf206
 v33:=Tryz.zeroValue206}
def Tryz.wR:Go.Shelf.Ren:=⟨fun|6=>122|8=>157|9=>158|11=>175|13=>162|12=>176|23=>186|24=>187|14=>205|15=>206|16=>207|17=>208|18=>209|19=>210|20=>211|21=>212|22=>213|25=>227|26=>215|27=>216|28=>228|29=>229|30=>230|31=>235|n=>n,fun|26=>3|28=>181|24=>41|0=>0|3=>3|37=>171|48=>192|50=>27|4=>4|40=>222|39=>221|45=>133|5=>5|9=>9|51=>258|55=>261|57=>272|58=>65|33=>206|n=>n,fun|n=>n⟩
theorem Tryz.Q6:Go.Proofs.SlLaysZI.n6 Tryz.prog Tryz.wR:={
 mixed:=by kernel_rfl
 f6:=⟨Tryz.f122.name,by decide,Tryz.func122.trans (congrArg some (by kernel_rfl))⟩
 f8:=⟨Tryz.f157.name,by decide,Tryz.func157.trans (congrArg some (by kernel_rfl))⟩
 f11:=⟨Tryz.f175.name,by decide,Tryz.func175.trans (congrArg some (by kernel_rfl))⟩
 t0:=Tryz.underlying0
 a0:=Tryz.isAgg0
 z0:=Tryz.sizeOf0
 v0:=Tryz.zeroValue0
 t24:=Tryz.underlying41
 a24:=Tryz.isAgg41
 z24:=Tryz.sizeOf41
 v24:=Tryz.zeroValue41
 t26:=Tryz.underlying3
 a26:=Tryz.isAgg3
 z26:=Tryz.sizeOf3
 v26:=Tryz.zeroValue3
 t28:=Tryz.underlying181
 a28:=Tryz.isAgg181
 z28:=Tryz.sizeOf181
 v28:=Tryz.zeroValue181
 i26:=by kernel_rfl}
def Tryz.Kk:Go.Shelf.Ren:=⟨fun|5=>158|8=>162|7=>176|19=>186|20=>187|10=>205|11=>206|12=>207|13=>208|14=>209|15=>210|16=>211|17=>212|18=>213|30=>227|31=>215|32=>216|33=>228|34=>229|35=>230|40=>235|n=>n,fun|23=>41|25=>3|3=>3|32=>171|22=>41|0=>0|44=>192|46=>27|4=>4|36=>222|35=>221|41=>133|5=>5|9=>9|53=>258|57=>261|63=>272|64=>65|n=>n,fun|n=>n⟩
theorem Tryz.TP:Go.Proofs.SlLaysM.n5 Tryz.prog Tryz.Kk:={
 mixed:=by kernel_rfl
 f5:=⟨Tryz.f158.name,by decide,Tryz.func158.trans (congrArg some (by kernel_rfl))⟩
 f7:=⟨Tryz.f176.name,by decide,Tryz.func176.trans (congrArg some (by kernel_rfl))⟩
 f8:=Tryz.func162.trans (congrArg some (by kernel_rfl))
 f10:=⟨Tryz.f205.name,by decide,Tryz.func205.trans (congrArg some (by kernel_rfl))⟩
 f11:=⟨Tryz.f206.name,by decide,Tryz.func206.trans (congrArg some (by kernel_rfl))⟩
 f12:=⟨Tryz.f207.name,by decide,Tryz.func207.trans (congrArg some (by kernel_rfl))⟩
 f13:=⟨Tryz.f208.name,by decide,Tryz.func208.trans (congrArg some (by kernel_rfl))⟩
 f14:=⟨Tryz.f209.name,by decide,Tryz.func209.trans (congrArg some (by kernel_rfl))⟩
 f15:=⟨Tryz.f210.name,by decide,Tryz.func210.trans (congrArg some (by kernel_rfl))⟩
 f16:=⟨Tryz.f211.name,by decide,Tryz.func211.trans (congrArg some (by kernel_rfl))⟩
 f17:=⟨Tryz.f212.name,by decide,Tryz.func212.trans (congrArg some (by kernel_rfl))⟩
 f18:=⟨Tryz.f213.name,by decide,Tryz.func213.trans (congrArg some (by kernel_rfl))⟩
 f19:=Tryz.func186.trans (congrArg some (by kernel_rfl))
 f20:=Tryz.func187.trans (congrArg some (by kernel_rfl))
 f30:=⟨Tryz.f227.name,by decide,Tryz.func227.trans (congrArg some (by kernel_rfl))⟩
 f31:=Tryz.func215.trans (congrArg some (by kernel_rfl))
 f32:=Tryz.func216.trans (congrArg some (by kernel_rfl))
 f33:=⟨Tryz.f228.name,by decide,Tryz.func228.trans (congrArg some (by kernel_rfl))⟩
 f34:=⟨Tryz.f229.name,by decide,Tryz.func229.trans (congrArg some (by kernel_rfl))⟩
 f35:=⟨Tryz.f230.name,by decide,Tryz.func230.trans (congrArg some (by kernel_rfl))⟩
 f40:=⟨Tryz.f235.name,by decide,Tryz.func235.trans (congrArg some (by kernel_rfl))⟩
 t0:=Tryz.underlying0
 a0:=Tryz.isAgg0
 z0:=Tryz.sizeOf0
 v0:=Tryz.zeroValue0
 t3:=Tryz.underlying3
 a3:=Tryz.isAgg3
 z3:=Tryz.sizeOf3
 v3:=Tryz.zeroValue3
 t4:=Tryz.underlying4
 a4:=Tryz.isAgg4
 z4:=Tryz.sizeOf4
 v4:=Tryz.zeroValue4
 t5:=Tryz.underlying5
 a5:=Tryz.isAgg5
 z5:=Tryz.sizeOf5
 v5:=Tryz.zeroValue5
 t9:=Tryz.underlying9
 a9:=Tryz.isAgg9
 z9:=Tryz.sizeOf9
 v9:=Tryz.zeroValue9
 t22:=Tryz.underlying41
 a22:=Tryz.isAgg41
 z22:=Tryz.sizeOf41
 v22:=Tryz.zeroValue41
 t23:=Tryz.underlying41
 a23:=Tryz.isAgg41
 z23:=Tryz.sizeOf41
 v23:=Tryz.zeroValue41
 t25:=Tryz.underlying3
 a25:=Tryz.isAgg3
 z25:=Tryz.sizeOf3
 v25:=Tryz.zeroValue3
 t32:=Tryz.underlying171
 a32:=Tryz.isAgg171
 z32:=Tryz.sizeOf171
 v32:=Tryz.zeroValue171
 t35:=Tryz.underlying221
 a35:=Tryz.isAgg221
 z35:=Tryz.sizeOf221
 v35:=Tryz.zeroValue221
 t36:=Tryz.underlying222
 a36:=Tryz.isAgg222
 z36:=Tryz.sizeOf222
 v36:=Tryz.zeroValue222
 t41:=Tryz.underlying133
 a41:=Tryz.isAgg133
 z41:=Tryz.sizeOf133
 v41:=Tryz.zeroValue133
 t44:=Tryz.underlying192
 a44:=Tryz.isAgg192
 z44:=Tryz.sizeOf192
 v44:=Tryz.zeroValue192
 t46:=Tryz.underlying27
 a46:=Tryz.isAgg27
 z46:=Tryz.sizeOf27
 v46:=Tryz.zeroValue27
 t53:=Tryz.underlying258
 a53:=Tryz.isAgg258
 z53:=Tryz.sizeOf258
 v53:=Tryz.zeroValue258
 t57:=Tryz.underlying261
 a57:=Tryz.isAgg261
 z57:=Tryz.sizeOf261
 v57:=Tryz.zeroValue261
 t63:=Tryz.underlying272
 a63:=Tryz.isAgg272
 z63:=Tryz.sizeOf272
 v63:=Tryz.zeroValue272
 t64:=Tryz.underlying65
 a64:=Tryz.isAgg65
 z64:=Tryz.sizeOf65
 v64:=Tryz.zeroValue65}
open Go.RowKit Go.Maps Go.Sort Go.Shelf
theorem Tryz.U1 (m:Nat):AnyZI.SortsIn Tryz.prog Tryz.wR Fence.wide m:=
 ⟨fun blk off cap ss W hH hblk hsz=>callsIn_wide.2 (AnyM.slices_Sort_int Tryz.TP blk off cap ss W hH hblk hsz),
  fun p cap W=>callsIn_wide.2 (AnyM.slices_Sort_int_none Tryz.TP p cap W)⟩
theorem Tryz.Q7 (mb:Option Nat) (W:World):Calls Tryz.prog 123 #[.map mb] W fun e w'=>e= .returned (.func (.func 159) #[] #[.pointer (some ⟨W.heap.size,0,none⟩)])∧w'=W.alloc (.cells #[.map mb] 104):=
 callsIn_wide.1 (AnyZI.keys_in Tryz.TN Fence.wide 5 trivial rfl mb W)
set_option maxHeartbeats 1000000 in
theorem Tryz.Kl {H:Type} (b nn:Nat) (D0:DataW H) (R:Value→Option (DataW H×List MemPlace)) (w:World) (hown:w.ownsMap Tryz.prog 3 R b nn D0) (hmax:Maps.size D0≤maxLen) (hbytes:Maps.size D0*8≤140737488355328):
  Calls Tryz.prog 122 #[.func (.func 159) #[] #[.pointer (some ⟨w.heap.size,0,none⟩)]] (w.alloc (.cells #[.map (some b)] 104)) fun e w'=>∃(v:Value) (ss:List Int),e= .returned v∧ss.Perm (intKeys D0)∧
   w'.ownsRow (w.alloc (.cells #[.map (some b)] 104)).heap.size 3 1 v ss.length ((ss.mergeSort (fun x y=>decide (x≤y))).map encZ)∧(v= .slice none 0 0↔ss=[])∧Below (w.alloc (.cells #[.map (some b)] 104)).heap.size (w.alloc (.cells #[.map (some b)] 104)) w':=by
 have hbl:=hown.lt
 have hseq:SeqGives Fence.wide 2 Tryz.prog 159 #[.pointer (some ⟨w.heap.size,0,none⟩)] encZ (fun ss=>ss.Perm (intKeys D0)) (Maps.size D0) (w.alloc (.cells #[.map (some b)] 104)):=
  AnyZI.keys_gives (ρ:=Tryz.BK) {Tryz.TN with} Fence.wide _ trivial rfl (by omega) w.heap.size b nn D0 _ (by simp) (by simp) (by
   obtain⟨es,clock,hb,Ft,hs,hD⟩:=hown
   exact⟨es,clock,(Below.heap_alloc _ _ b hbl).trans hb,Ft,hs,hD⟩)
 exact callsIn_wide.1 (AnyZI.sorted_in Tryz.Q6 Fence.wide 5 trivial trivial trivial trivial rfl (by omega) (Tryz.U1 _) (enters_of Tryz.func158 (by kernel_rfl) rfl) 159 #[.pointer (some ⟨w.heap.size,0,none⟩)] trivial (enters_of Tryz.func159 (by kernel_rfl) rfl) _ _ hmax hbytes _ hseq)
end Go.Proofs
namespace Go.Proofs.YtjnhnlabpccgjaaGreat
open Go.ChangeShapes Go.WideShapes Go.ChangeAt Go.RowKit
set_option linter.unusedVariables false
set_option linter.unusedSimpArgs false
theorem Ef (l:List (Int×Value)):intKeys (uf aW l)=l.map (·.1):=by
 unfold intKeys uf
 simp only[List.map_map]
 rfl
theorem Eh {α:Type} {l:List (Int×α)} (hl:aC (fun a b:Int=>decide (a<b)) l) {ss:List Int} (hp:ss.Perm (l.map (·.1))):ss.mergeSort (fun x y=>decide (x≤y))=l.map (·.1):=by
 have h1:(ss.mergeSort (fun x y=>decide (x≤y))).Pairwise (fun a b=>decide (a≤b)=true):=List.pairwise_mergeSort (fun a b c h1 h2=>by simp at*;omega) (fun a b=>by simp;omega) ss
 have h2:(l.map (·.1)).Pairwise (fun a b=>decide (a≤b)=true):=by
  rw[List.pairwise_map]
  exact hl.imp fun{a b} h=>by simp at*;omega
 exact((List.mergeSort_perm ss _).trans hp).eq_of_pairwise (fun a b _ _ h1 h2=>by simp at*;omega) h1 h2
def pR (w:World) (zs:List Int) (e:Ending) (w':World):Prop:=
 ∃a cap,e= .returned (.slice a zs.length cap)∧zs.length≤cap∧ah (fun x=>w.heap.size≤x∧x<w'.heap.size) w' a zs.length (zs.map (Value.int .i64))∧Below w.heap.size w w'
def iW (T:aA):List Int:=T.map (·.1)
section
variable {g:Nat→Own} {D:Nat→Prop} {p mb:Nat} {ib nb:Int→Nat} {T:aA}
set_option maxRecDepth 100000 in
set_option maxHeartbeats 1000000 in
theorem CP (w:World) (h:aH g D w p mb ib nb T) (hl:T.length≤100000):Calls Tryz.prog 60 #[ptr p] w (pR w (iW T)):=by
 obtain⟨hc0,hpw,hmw⟩:=h.cell
 have hsz:(T.map fun q=>(q.1,ptr (ib q.1))).length=T.length:=List.length_map _
 have hkk:(T.map fun q=>(q.1,ptr (ib q.1))).map (·.1)=iW T:=by unfold iW;rw[List.map_map];rfl
 have hso:=h.map.sorted.1
 have hk:=Tryz.Q7 (some mb) w
 have hs:=Tryz.Kl mb (T.map fun q:Int×bq=>(q.1,ptr (ib q.1))).length (uf aW (T.map fun q:Int×bq=>(q.1,ptr (ib q.1)))) mg w h.map (by rw[m_,hsz];unfold maxLen;omega) (by rw[m_,hsz];omega)
 have U2:=Lib.hid hso
 have HKK:=Lib.hid hkk
 clear h hso hkk hsz
 go_enter Tryz.func60,Tryz.ntmps60
 go_wp2_with (first|(go_at_call 123;refine hk.mono ?_;rintro e w' ⟨rfl,rfl⟩)|(go_at_call 122;refine hs.mono ?_;rintro e w' ⟨v,ss,rfl,hp,hown,hnil,hB⟩))
 go_ret
 rw[Ef]at hp
 rw[Eh U2.out hp,HKK.out]at hown
 have hlen:ss.length=(iW T).length:=by
  have:=hp.length_eq
  rw[HKK.out]at this
  exact this
 have hB2:Below w.heap.size w w':=((Below.refl _ _).alloc (Nat.le_refl _) _).trans (hB.mono (by simp))
 have hs1:=hB.size
 rw[World.size_alloc]at hs1
 obtain⟨h1,h2⟩:=hown
 simp only[List.length_map]at h1
 rcases h2 with⟨rfl,h0⟩|⟨g,cap,cur,rfl,hg,hcur,hc1,hc2,hcs,htk⟩
 ·have h00:(iW T).length=0:=by omega
  have:iW T=[]:=List.eq_nil_of_length_eq_zero h00
  rw[this]
  exact⟨none,0,rfl,Nat.le_refl _,ah.nil _ _ _,hB2⟩
 ·have hgw:=(Array.getElem?_eq_some_iff.1 hcur).1
  rw[World.size_alloc]at hg
  refine⟨some ⟨g,0,none⟩,cap,by rw[←hlen];rfl,by omega,⟨by simp,by omega,fun h0=>⟨g,0,rfl,⟨by omega,hgw⟩,hgw,fun i hi=> ?_⟩⟩,hB2⟩
  simp only[World.cell?,hcur,Nat.zero_add]
  rw[show(iW T).map (Value.int .i64)=(iW T).map encZ from rfl]
  rw[←htk,List.getElem?_take,if_pos (show i<ss.length*1 by rw[hlen];omega)]
  simp
end
theorem aH.addD {g:Nat→Own} {D:Nat→Prop} {w w':World} {p mb:Nat} {ib nb:Int→Nat} {T:aA} (h:aH g D w p mb ib nb T) {k:Int} {x:bq} {i n:Nat} (hi0:w.heap.size≤i) (hn0:w.heap.size≤n) (hin:i≠n) (hiw:i<w'.heap.size) (hnw:x.kind=2→n<w'.heap.size) (hx0:aj k T=none)
  (hm:MapAt aW w' mb (bM fQ k (ptr i) (T.map fun q=>(q.1,ptr (ib q.1))))) (hsz:w.heap.size≤w'.heap.size) (hb:∀b,b<w.heap.size→b≠mb→w'.heap[b]? =w.heap[b]?) (hi:iq D w' k i n x):
  aH (fun b=>if b=i then .item k else if b=n∧x.kind=2 then .names k else g b) D w' p mb (fun j=>if j=k then i else ib j) (fun j=>if j=k then n else nb j) (bM fQ k x T):=by
 have hgl:∀b,g b≠ .none→b≠i∧b≠n:=fun b hb=>by have:=h.low b hb;omega
 have hgg:∀b,g b≠ .none→(if b=i then Own.item k else if b=n∧x.kind=2 then .names k else g b)=g b:=fun b hb=>by
  obtain⟨h1,h2⟩:=hgl b hb
  rw[if_neg h1,if_neg (fun h=>h2 h.1)]
 have hp:g p≠ .none:=by rw[h.nS];simp
 have hmm:g mb≠ .none:=by rw[h.iH];simp
 refine⟨(hb p (h.low p hp) (fun e=>by have:=h.nS;rw[e,h.iH]at this;cases this)).trans h.head,?_,?_,(hgg p hp).trans h.nS,(hgg mb hmm).trans h.iH,?_,?_,?_,?_,fun b hb=>Nat.lt_of_lt_of_le (h.mh b hb) hsz⟩
 ·have e1:(bM fQ k x T).map (fun q=>(q.1,ptr ((fun j=>if j=k then i else ib j) q.1)))=bM fQ k (ptr i) (T.map fun q=>(q.1,ptr (ib q.1))):=by
   rw[rU fQ (fun j _=>ptr ((fun j=>if j=k then i else ib j) j))]
   simp only[if_pos]
   congr 1
   apply List.map_congr_left
   intro q hq
   have:q.1≠k:=f_.1 hx0 q hq
   rw[if_neg this]
  rw[e1]
  exact hm
 ·intro j y hy
  rw[dL]at hy
  by_cases hj:j=k
  ·subst hj
   rw[if_pos rfl]at hy
   cases hy
   simp only[if_pos]
   exact hi
  ·rw[if_neg hj]at hy
   simp only[if_neg hj]
   have t1:=h.nk j y hy
   refine(h.item j y hy).move hsz (hb _ (h.low _ (by rw[t1];simp)) (fun e=>by rw[e,h.iH]at t1;cases t1)) (fun hk=>hb _ (h.low _ (by rw[h.kZ j y hy hk];simp)) (fun e=>by have t2:=h.kZ j y hy hk;rw[e,h.iH]at t2;cases t2)) ?_
   intro b qW hbw
   exact⟨qW,hb b hbw (fun e=>by have:=h.data b qW;rw[e,h.iH]at this;cases this)⟩
 ·intro j y hy
  rw[dL]at hy
  by_cases hj:j=k
  ·subst hj;simp
  ·rw[if_neg hj]at hy
   have t1:=h.nk j y hy
   simp only[if_neg hj]
   rw[hgg _ (by rw[t1];simp)]
   exact t1
 ·intro j y hy hk
  rw[dL]at hy
  by_cases hj:j=k
  ·subst hj
   rw[if_pos rfl]at hy
   cases hy
   simp only[if_pos]
   rw[if_neg (Ne.symm hin),if_pos ⟨trivial,hk⟩]
  ·rw[if_neg hj]at hy
   have t1:=h.kZ j y hy hk
   simp only[if_neg hj]
   rw[hgg _ (by rw[t1];simp)]
   exact t1
 ·intro b qW
  have:=h.mh b qW
  rw[if_neg (by omega),if_neg (by omega)]
  exact h.data b qW
 ·intro b hbn
  by_cases h1:b=i
  ·omega
  ·by_cases h2:b=n∧x.kind=2
   ·have:=hnw h2.2;omega
   ·simp only[if_neg h1,if_neg h2]at hbn
    exact Nat.lt_of_lt_of_le (h.low b hbn) hsz
def nX (left:Int→Bool) (T:aA):aA:=T.filter fun q=> !left q.1
theorem vI (left:Int→Bool) (T:aA) (k:Int):aj k (nX left T)=if left k=true then none else aj k T:=by
 unfold nX
 induction T with
 |nil=>simp[aj]
 |cons y r ih=>
  rw[List.filter_cons,dZ]
  by_cases hl:left y.1=true
  ·simp only[hl,Bool.not_true,Bool.false_eq_true,if_false]
   rw[ih]
   by_cases hk:y.1=k
   ·subst hk;rw[if_pos hl,if_pos hl]
   ·rw[if_neg hk]
  ·simp only[hl,Bool.not_false,if_true]
   rw[dZ,ih]
   by_cases hk:y.1=k
   ·subst hk;rw[if_pos rfl,if_neg hl,if_pos rfl]
   ·rw[if_neg hk,if_neg hk]
theorem uD {T:aA} (h:aC fQ T) (left:Int→Bool):aC fQ (nX left T):=List.Pairwise.filter _ h
theorem Ei {left:Int→Bool} {T:aA} (h:∀q∈T,left q.1=true):nX left T=[]:=by
 unfold nX
 rw[List.filter_eq_nil_iff]
 intro q hq
 simp[h q hq]
theorem Km {left:Int→Bool} {T:aA} (h:∀k,left k=false):nX left T=T:=by
 unfold nX
 rw[List.filter_eq_self]
 intro q _
 simp[h q.1]
theorem Gv {left:Int→Bool} {T:aA} (hs:aC fQ T) {k:Int} {x:bq} (hx:aj k T=some x) (h:left k=true):bM fQ k x (nX left T)=nX (fun z=>left z&& !decide (z=k)) T:=by
 refine D6 bH ((uD hs left).bM bH k x) (uD hs _) fun j=> ?_
 rw[dL,vI,vI]
 by_cases hj:j=k
 ·subst hj
  rw[if_pos rfl,hx]
  simp
 ·rw[if_neg hj]
  simp[hj]
def bf (T:aA):aA:=(iW T).foldl (fun S id=>(cu S id).2) T
theorem dh {w w':World} {B:Nat} {e:TypeId} {size:Nat} {v:Value} {n:Nat} {xs:List Value} (h:w.ownsRow B e size v n xs) (hk:∀b,v.ownBlock=some b→b<w.heap.size→w'.heap[b]? =w.heap[b]?):w'.ownsRow B e size v n xs:=by
 refine⟨h.1,?_⟩
 rcases h.2 with h1|⟨g,cap,cur,rfl,hg,hcur,rest⟩
 ·exact .inl h1
 ·exact .inr ⟨g,cap,cur,rfl,hg,(hk g rfl (Array.getElem?_eq_some_iff.1 hcur).1).trans hcur,rest⟩
theorem kJ {w:World} {B:Nat} {e:TypeId} {size:Nat} {v:Value} {n:Nat} {xs:List Value} (h:w.ownsRow B e size v n xs):∀b,v.ownBlock=some b→b<w.heap.size:=by
 intro b hb
 rcases h.2 with⟨rfl,_⟩|⟨g,cap,cur,rfl,hg,hcur,rest⟩
 ·cases hb
 ·cases hb
  exact(Array.getElem?_eq_some_iff.1 hcur).1
open Go
section
variable {P:Program} {ops:Array Oper} {Q:Exit→Act→World→Prop} {md:Region.Mode} {S:World→Prop} {last:Nat}
def wpAnyL (P:Program) (md:Region.Mode) (ops:Array Oper) (Q:Exit→Act→World→Prop) (S:World→Prop) (last:Nat):Nat→Array Bool→Act→World→Prop
 |0,listed,a,w=>Region.ready md ops listed=[]∧Q .normal a w
 |fuel+1,listed,a,w=>
  (Region.ready md ops listed=[]→Q .normal a w)∧
  ∀i∈Region.ready md ops listed,wpOp P ops Q i (fun a' w'=>(i≠last→S w')∧wpAnyL P md ops Q S last fuel (listed.setIfInBounds i true) a' w') a w
theorem yU:∀(fuel:Nat) (listed:Array Bool) (a:Act) (w:World),wpAnyL P md ops Q S last fuel listed a w→wpAny P md ops Q fuel listed a w
 |0,_,_,_,h=>h
 |fuel+1,_,_,_,h=>⟨h.1,fun i hi=>wpOp_mono (fun a' w' h'=>yU fuel _ a' w' h'.2) (h.2 i hi)⟩
def Closed (md:Region.Mode) (ops:Array Oper) (listed:Array Bool):Prop:=∀j o,ops[j]? =some o→listed.getD j false=true→∀e∈o.after,Region.binds md e=true→listed.getD e.on false=true
def reach (md:Region.Mode) (ops:Array Oper) (i:Nat):Nat→Nat→Bool
 |0,_=>false
 |f+1,j=>match ops[j]? with
  |none=>false
  |some o=>o.after.any fun e=>Region.binds md e&&(e.on==i||reach md ops i f e.on)
theorem yV {listed:Array Bool} {i:Nat} (h:listed.getD i true=false) (h1:listed.getD i false=true):False:=by
 rcases Nat.lt_or_ge i listed.size with h'|h'
 ·simp[h']at h h1;rw[h]at h1;cases h1
 ·simp[Array.getElem?_eq_none h']at h1
theorem BL {listed:Array Bool} (hc:Closed md ops listed) {i:Nat} (hi:listed.getD i true=false):∀(f j:Nat),reach md ops i f j=true→j∉Region.ready md ops listed∧¬listed.getD j false=true
 |0,_,h=>by cases h
 |f+1,j,h=>by
  unfold reach at h
  cases ho:ops[j]? with
  |none=>rw[ho]at h;cases h
  |some o=>
   rw[ho]at h
   simp only[Array.any_eq_true']at h
   obtain⟨e,he,h2⟩:=h
   simp only[Bool.and_eq_true,Bool.or_eq_true,beq_iff_eq]at h2
   have key:¬listed.getD e.on false=true:=fun h3=>by
    rcases h2.2 with h4|h4
    ·rw[h4]at h3;exact yV hi h3
    ·exact(BL hc hi f e.on h4).2 h3
   refine⟨fun hr=> ?_,fun hl=>key (hc j o ho hl e he h2.1)⟩
   obtain⟨_,o',ho',hall⟩:=mem_ready.1 hr
   rw[ho]at ho'
   cases ho'
   exact key (hall e he h2.1)
theorem Ej {listed:Array Bool} (hc:Closed md ops listed) {i:Nat} (hi:i∈Region.ready md ops listed):Closed md ops (listed.setIfInBounds i true):=by
 intro j o ho hl e he hb
 by_cases hji:i=j
 ·subst hji
  obtain⟨_,o',ho',hall⟩:=mem_ready.1 hi
  rw[ho]at ho'
  cases ho'
  exact getD_set_true (hall e he hb)
 ·rw[getD_set_ne false hji]at hl
  exact getD_set_true (hc j o ho hl e he hb)
theorem wpAnyL_first {i:Nat} {oi:Oper} {v:Value} (hi:ops[i]? =some oi) (hsel:∀(j:Nat) (o:Oper) cs b,ops[j]? =some o→o.op≠ .select cs b)
  (hQ:∀c a w,Q (.panic c) (a.put oi.dst v) w→Q (.panic c) a w) {f:Nat} (hre:reach md ops i f last=true):
  ∀(fuel:Nat) (listed:Array Bool) (a:Act) (w:World),Closed md ops listed→
   (∀j oj,ops[j]? =some oj→j≠i→listed.getD j true=false→(∀e∈oj.after,Region.binds md e=true→e.on≠i)→oi.apart ops oj=true)→
   i∈Region.ready md ops listed→YieldsIf P ops S oi v a→S w→
   wpAnyL P md ops Q S last fuel (listed.setIfInBounds i true) (a.put oi.dst v) w→wpAnyL P md ops Q S last (fuel+1) listed a w:=by
 intro fuel
 induction fuel with
 |zero=>
  intro listed a w _ _ hr hy hS H
  refine⟨fun h=>(by rw[h]at hr;cases hr),fun j hj=> ?_⟩
  by_cases hji:j=i
  ·subst hji;exact hy.wpOp hi hS ⟨fun _=>hS,H⟩
  ·have:=ready_mono hj hji
   rw[H.1]at this
   cases this
 |succ fuel ih=>
  intro listed a w hcl hfree hr hy hS H
  refine⟨fun h=>(by rw[h]at hr;cases hr),fun j hj=> ?_⟩
  by_cases hji:j=i
  ·subst hji;exact hy.wpOp hi hS ⟨fun _=>hS,H⟩
  ·have hjl:j≠last:=fun e=>(BL hcl (mem_ready.1 hr).1 f last hre).1 (e▸hj)
   have h1:=H.2 j (ready_mono hj hji)
   obtain⟨hjun,oj,hoj,hall⟩:=mem_ready.1 hj
   have hnot:∀e∈oj.after,Region.binds md e=true→e.on≠i:=fun e he hb heq=>by
    have h1:=hall e he hb
    rw[heq]at h1
    exact yV (mem_ready.1 hr).1 h1
   have h2:=wpOp_putIf hoj (hfree j oj hoj hji hjun hnot) (fun cs b=>hsel i oi cs b hi) (fun cs b=>hsel j oj cs b hoj) hQ hy h1
   have hfree':∀k ok,ops[k]? =some ok→k≠i→(listed.setIfInBounds j true).getD k true=false→
     (∀e∈ok.after,Region.binds md e=true→e.on≠i)→oi.apart ops ok=true:=fun k ok hk hki hun hno=>by
    refine hfree k ok hk hki ?_ hno
    by_cases hjk:j=k
    ·subst hjk;exact hjun
    ·rw[getD_set_ne true hjk]at hun;exact hun
   refine wpOp_mono (fun a' w' h3=>⟨fun _=>h3.2.1 hjl,ih (listed.setIfInBounds j true) a' w' (Ej hcl hj) hfree' (ready_mono hr (Ne.symm hji)) h3.1 (h3.2.1 hjl) ?_⟩) h2
   rw[Array.setIfInBounds_comm _ _ hji]
   exact h3.2.2
def xY (md:Region.Mode) (ops:Array Oper) (listed:Array Bool):Bool:=
 (List.range ops.size).all fun j=> !listed.getD j false||match ops[j]? with
  |none=>true
  |some o=>o.after.all fun e=> !Region.binds md e||listed.getD e.on false
theorem Kn {listed:Array Bool} (h:xY md ops listed=true):Closed md ops listed:=by
 intro j o ho hl e he hb
 have hj:j<ops.size:=(Array.getElem?_eq_some_iff.1 ho).1
 unfold xY at h
 rw[List.all_eq_true]at h
 have h1:=h j (List.mem_range.2 hj)
 rw[hl,ho]at h1
 simp only[Bool.not_true,Bool.false_or,Array.all_eq_true']at h1
 have h2:=h1 e he
 rw[hb]at h2
 simpa using h2
theorem El {i:Nat} {oi:Oper} {v:Value} {fuel:Nat} {listed:Array Bool} {a:Act} {w:World} (hi:ops[i]? =some oi)
  (hs:Region.noSelect ops=true) (hf:Region.free md ops listed i=true) (hr:(Region.ready md ops listed).contains i=true) (hcl:xY md ops listed=true) (hre:reach md ops i ops.size last=true)
  (hQ:∀c a w,Q (.panic c) (a.put oi.dst v) w→Q (.panic c) a w) (hy:YieldsIf P ops S oi v a) (hS:S w)
  (h:wpAnyL P md ops Q S last fuel (listed.setIfInBounds i true) (a.put oi.dst v) w):wpAnyL P md ops Q S last (fuel+1) listed a w:=
 wpAnyL_first hi (Region.noSelect_spec hs) hQ hre fuel listed a w (Kn hcl) (Region.free_spec hi hf) (by simpa using hr) hy hS h
theorem Em {listed:Array Bool} {a:Act} {w:World} (hr:Region.ready md ops listed=[]) (h:Q .normal a w):
  ∀fuel,wpAnyL P md ops Q S last fuel listed a w
 |0=>⟨hr,h⟩
 |_+1=>⟨fun _=>h,by rw[hr];simp⟩
def dx (P:Program) (md:Region.Mode) (ops:Array Oper) (Q:Exit→Act→World→Prop) (S:World→Prop) (last:Nat) (fuel:Nat) (listed:Array Bool) (a:Act) (w:World) (rs:List Nat):Prop:=
 ∀i∈rs,wpOp P ops Q i (fun a' w'=>(i≠last→S w')∧wpAnyL P md ops Q S last fuel (listed.setIfInBounds i true) a' w') a w
theorem dx.nil {fuel:Nat} {listed:Array Bool} {a:Act} {w:World}:dx P md ops Q S last fuel listed a w []:=fun _ h=>by cases h
theorem dx.cons {fuel:Nat} {listed:Array Bool} {a:Act} {w:World} {i:Nat} {o:Oper} {rs:List Nat} (ho:ops[i]? =some o)
  (h:∀K':Act→World→Prop,Shut (∀a w,(i≠last→S w)→((i≠last→S w)→wpAnyL P md ops Q S last fuel (listed.setIfInBounds i true) a w)→K' a w)→if Region.wanted o (yielded ops a.tmps)=true then Oper.wp P o a w K' Q else K' (a.put o.dst undef) w)
  (hs:dx P md ops Q S last fuel listed a w rs):dx P md ops Q S last fuel listed a w (i::rs):=fun j hj=>by
 rcases List.mem_cons.1 hj with rfl|hj
 ·exact wpOp_step ho (fun K' hK=>h K' (fun a w hS hW=>hK a w ⟨hS,hW hS⟩))
 ·exact hs j hj
theorem kK {rs:List Nat} {fuel:Nat} {listed:Array Bool} {a:Act} {w:World} (hr:Region.ready md ops listed=rs) (hne:rs≠[])
  (h:dx P md ops Q S last fuel listed a w rs):wpAnyL P md ops Q S last (fuel+1) listed a w:=⟨fun h0=>absurd (hr▸h0) hne,hr▸h⟩
theorem En {id:Nat} {a:Act} {w:World} (hm:P.follows .mixedOrders=true) (hS:S w.drew)
  (h:S w.drew→wpAnyL P .any ops Q S last ops.size (Array.replicate ops.size false) a w.drew):(Code.region id ops true).wp P Q a w:=
 wp_region_any hm (yU _ _ _ _ (h hS))
theorem ak (i:Nat) {oi:Oper} {v:Value} {fuel:Nat} {listed l':Array Bool} {a a':Act} {w:World}
  (hS:S w) (h:wpAnyL P md ops Q S last fuel l' a' w)
  (hi:ops[i]? =some oi:=by simp only[List.getElem?_toArray,List.getElem?_cons_succ,List.getElem?_cons_zero];rfl)
  (hs:Region.noSelect ops=true:=by kernel_rfl) (hf:Region.free md ops listed i=true:=by kernel_rfl) (hr:(Region.ready md ops listed).contains i=true:=by kernel_rfl) (hcl:xY md ops listed=true:=by kernel_rfl) (hre:reach md ops i ops.size last=true:=by kernel_rfl)
  (hQ:∀c a w,Q (.panic c) (a.put oi.dst v) w→Q (.panic c) a w:=by exact fun _ _ _ h=>h)
  (hw:Region.wanted oi (yielded ops a.tmps)=true:=by rfl)
  (hy:∀w,S w→(execOp a.eval oi).run P w= .ok (.value v) w:=by intro w hSw;(try dsimp only at hSw);go_simp;(try with_reducible rfl))
  (hl:listed.setIfInBounds i true=l':=by(try simp only[List.setIfInBounds_toArray,List.set_cons_zero,List.set_cons_succ]);rfl)
  (ha:a.put oi.dst v=a':=by(try simp only[Act.put,List.setIfInBounds_toArray,List.set_cons_zero,List.set_cons_succ]);rfl)
  :wpAnyL P md ops Q S last (fuel+1) listed a w:=
 El hi hs hf hr hcl hre hQ (Or.inl ⟨hw,hy⟩) hS (by rw[hl,ha];exact h)
theorem bK (i:Nat) {o:Oper} {fuel:Nat} {listed:Array Bool} {a:Act} {w:World}
  (h:∀K':Act→World→Prop,Shut (∀a w,(i≠last→S w)→((i≠last→S w)→wpAnyL P md ops Q S last fuel (listed.setIfInBounds i true) a w)→K' a w)→if Region.wanted o (yielded ops a.tmps)=true then Oper.wp P o a w K' Q else K' (a.put o.dst undef) w)
  (ho:ops[i]? =some o:=by simp only[List.getElem?_toArray,List.getElem?_cons_succ,List.getElem?_cons_zero];rfl) (hr:Region.ready md ops listed=[i]:=by kernel_rfl):wpAnyL P md ops Q S last (fuel+1) listed a w:=
 kK hr (by simp) (dx.cons ho h dx.nil)
theorem qN (i j:Nat) {o1 o2:Oper} {fuel:Nat} {listed:Array Bool} {a:Act} {w:World}
  (h1:∀K':Act→World→Prop,Shut (∀a w,(i≠last→S w)→((i≠last→S w)→wpAnyL P md ops Q S last fuel (listed.setIfInBounds i true) a w)→K' a w)→if Region.wanted o1 (yielded ops a.tmps)=true then Oper.wp P o1 a w K' Q else K' (a.put o1.dst undef) w)
  (h2:∀K':Act→World→Prop,Shut (∀a w,(j≠last→S w)→((j≠last→S w)→wpAnyL P md ops Q S last fuel (listed.setIfInBounds j true) a w)→K' a w)→if Region.wanted o2 (yielded ops a.tmps)=true then Oper.wp P o2 a w K' Q else K' (a.put o2.dst undef) w)
  (ho1:ops[i]? =some o1:=by simp only[List.getElem?_toArray,List.getElem?_cons_succ,List.getElem?_cons_zero];rfl) (ho2:ops[j]? =some o2:=by simp only[List.getElem?_toArray,List.getElem?_cons_succ,List.getElem?_cons_zero];rfl) (hr:Region.ready md ops listed=[i,j]:=by kernel_rfl):wpAnyL P md ops Q S last (fuel+1) listed a w:=
 kK hr (by simp) (dx.cons ho1 h1 (dx.cons ho2 h2 dx.nil))
theorem X5 (i j k:Nat) {o1 o2 o3:Oper} {fuel:Nat} {listed:Array Bool} {a:Act} {w:World}
  (h1:∀K':Act→World→Prop,Shut (∀a w,(i≠last→S w)→((i≠last→S w)→wpAnyL P md ops Q S last fuel (listed.setIfInBounds i true) a w)→K' a w)→if Region.wanted o1 (yielded ops a.tmps)=true then Oper.wp P o1 a w K' Q else K' (a.put o1.dst undef) w)
  (h2:∀K':Act→World→Prop,Shut (∀a w,(j≠last→S w)→((j≠last→S w)→wpAnyL P md ops Q S last fuel (listed.setIfInBounds j true) a w)→K' a w)→if Region.wanted o2 (yielded ops a.tmps)=true then Oper.wp P o2 a w K' Q else K' (a.put o2.dst undef) w)
  (h3:∀K':Act→World→Prop,Shut (∀a w,(k≠last→S w)→((k≠last→S w)→wpAnyL P md ops Q S last fuel (listed.setIfInBounds k true) a w)→K' a w)→if Region.wanted o3 (yielded ops a.tmps)=true then Oper.wp P o3 a w K' Q else K' (a.put o3.dst undef) w)
  (ho1:ops[i]? =some o1:=by simp only[List.getElem?_toArray,List.getElem?_cons_succ,List.getElem?_cons_zero];rfl) (ho2:ops[j]? =some o2:=by simp only[List.getElem?_toArray,List.getElem?_cons_succ,List.getElem?_cons_zero];rfl) (ho3:ops[k]? =some o3:=by simp only[List.getElem?_toArray,List.getElem?_cons_succ,List.getElem?_cons_zero];rfl) (hr:Region.ready md ops listed=[i,j,k]:=by kernel_rfl):wpAnyL P md ops Q S last (fuel+1) listed a w:=
 kK hr (by simp) (dx.cons ho1 h1 (dx.cons ho2 h2 (dx.cons ho3 h3 dx.nil)))
theorem bR {i:Nat} {fuel:Nat} {listed l':Array Bool} {a a':Act} {w:World} {K:Act→World→Prop}
  (hK:Shut (∀a w,(i≠last→S w)→((i≠last→S w)→wpAnyL P md ops Q S last fuel (listed.setIfInBounds i true) a w)→K a w)) (hS:S w) (h:S w→wpAnyL P md ops Q S last fuel l' a' w)
  (hl:listed.setIfInBounds i true=l':=by(try simp only[List.setIfInBounds_toArray,List.set_cons_zero,List.set_cons_succ]);rfl)
  (ha:a=a':=by(try simp only[Act.put,List.setIfInBounds_toArray,List.set_cons_zero,List.set_cons_succ]);rfl):K a w:=by
 subst hl ha
 exact hK a w (fun _=>hS) fun _=>h hS
theorem j_ {i:Nat} {fuel:Nat} {listed:Array Bool} {a a':Act} {w:World} {K:Act→World→Prop}
  (hK:Shut (∀a w,(i≠last→S w)→((i≠last→S w)→wpAnyL P md ops (NoPanic Q) S last fuel (listed.setIfInBounds i true) a w)→K a w)) (h:Q .normal a' w)
  (hi:i=last:=by rfl) (hr:Region.ready md ops (listed.setIfInBounds i true)=[]:=by kernel_rfl)
  (ha:a=a':=by(try simp only[Act.put,List.setIfInBounds_toArray,List.set_cons_zero,List.set_cons_succ]);rfl):K a w:=by
 subst ha
 exact hK a w (fun h0=>absurd hi h0) fun _=>Em hr (NoPanic.normal h) _
theorem qF (last:Nat) (S:World→Prop) {id:Nat} {a:Act} {w:World} (hS:S w.drew)
  (h:S w.drew→wpAnyL P .any ops (NoPanic Q) S last ops.size (Array.replicate ops.size false) a w.drew) (hm:P.follows .mixedOrders=true:=by kernel_rfl):(Code.region id ops true).wp P Q a w:=
 wp_region_noPanic (En hm hS h)
end
end Go.Proofs.YtjnhnlabpccgjaaGreat
