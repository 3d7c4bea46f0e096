/- DERIVED -/
import Derived.Test.YtjnhnlabpccgjaaGreatDoorProg
import Derived.Shelf.SlIterI.Nil
import Derived.Shelf.SlIterI.Sorted
import Derived.Shelf.SortM.Plain
import Derived.Shelf.SortM.SortNone
import Derived.Ground.GgzProg
import Derived.Ground.SlgmProg
import Derived.Test.YtjnhnlabpccgjaaGreatDoorM02
import Derived.Test.YtjnhnlabpccgjaaGreatDoorM11
import Derived.Test.YtjnhnlabpccgjaaGreatDoorM10
import Derived.Test.YtjnhnlabpccgjaaGreatDoorM01
import Derived.Deep.RegionHeld3
set_option maxRecDepth 100000
set_option maxHeartbeats 64000000
set_option linter.all false
namespace Go.Proofs
open Go.Shelf
def Tryz.FP:Go.Shelf.Ren:=⟨fun|7=>166|10=>203|n=>n,fun|23=>104|26=>3|3=>102|28=>209|0=>0|27=>208|33=>70|4=>4|n=>n,fun|n=>n⟩
theorem Tryz.Zy:Go.Proofs.SlLaysZI.n7 Tryz.prog Tryz.FP:={
 mixed:=by kernel_rfl
 f7:=⟨Tryz.f166.name,by decide,Tryz.func166.trans (congrArg some (by kernel_rfl))⟩
 f10:=⟨Tryz.f203.name,by decide,Tryz.func203.trans (congrArg some (by kernel_rfl))⟩
 t0:=Tryz.underlying0
 a0:=Tryz.isAgg0
 z0:=Tryz.sizeOf0
 v0:=Tryz.zeroValue0
 t4:=Tryz.underlying4
 a4:=Tryz.isAgg4
 z4:=Tryz.sizeOf4
 v4:=Tryz.zeroValue4
 t23:=Tryz.underlying104
 a23:=Tryz.isAgg104
 z23:=Tryz.sizeOf104
 v23:=Tryz.zeroValue104
 t26:=Tryz.underlying3
 a26:=Tryz.isAgg3
 z26:=Tryz.sizeOf3
 v26:=Tryz.zeroValue3
 t27:=Tryz.underlying208
 a27:=Tryz.isAgg208
 z27:=Tryz.sizeOf208
 v27:=Tryz.zeroValue208
 t28:=Tryz.underlying209
 a28:=Tryz.isAgg209
 z28:=Tryz.sizeOf209
 v28:=Tryz.zeroValue209
 t33:=Tryz.underlying70
 a33:=Tryz.isAgg70
 z33:=Tryz.sizeOf70
 v33:=Tryz.zeroValue70}
def Tryz.Bd:Go.Shelf.Ren:=⟨fun|6=>165|8=>201|9=>202|11=>216|13=>206|12=>217|23=>227|24=>228|14=>237|15=>238|16=>239|17=>240|18=>241|19=>242|20=>243|21=>244|22=>245|25=>258|26=>247|27=>248|28=>259|29=>260|30=>261|31=>268|n=>n,fun|26=>3|28=>209|24=>71|0=>0|3=>3|37=>171|48=>216|50=>27|4=>4|40=>256|39=>255|45=>190|5=>5|9=>9|51=>280|55=>283|57=>295|58=>83|33=>70|n=>n,fun|n=>n⟩
theorem Tryz.Xj:Go.Proofs.SlLaysZI.n6 Tryz.prog Tryz.Bd:={
 mixed:=by kernel_rfl
 f6:=⟨Tryz.f165.name,by decide,Tryz.func165.trans (congrArg some (by kernel_rfl))⟩
 f8:=⟨Tryz.f201.name,by decide,Tryz.func201.trans (congrArg some (by kernel_rfl))⟩
 f11:=⟨Tryz.f216.name,by decide,Tryz.func216.trans (congrArg some (by kernel_rfl))⟩
 t0:=Tryz.underlying0
 a0:=Tryz.isAgg0
 z0:=Tryz.sizeOf0
 v0:=Tryz.zeroValue0
 t24:=Tryz.underlying71
 a24:=Tryz.isAgg71
 z24:=Tryz.sizeOf71
 v24:=Tryz.zeroValue71
 t26:=Tryz.underlying3
 a26:=Tryz.isAgg3
 z26:=Tryz.sizeOf3
 v26:=Tryz.zeroValue3
 t28:=Tryz.underlying209
 a28:=Tryz.isAgg209
 z28:=Tryz.sizeOf209
 v28:=Tryz.zeroValue209
 i26:=by kernel_rfl}
def Tryz.P8:Go.Shelf.Ren:=⟨fun|5=>202|8=>206|7=>217|19=>227|20=>228|10=>237|11=>238|12=>239|13=>240|14=>241|15=>242|16=>243|17=>244|18=>245|30=>258|31=>247|32=>248|33=>259|34=>260|35=>261|40=>268|n=>n,fun|23=>71|25=>3|3=>3|32=>171|22=>71|0=>0|44=>216|46=>27|4=>4|36=>256|35=>255|41=>190|5=>5|9=>9|53=>280|57=>283|63=>295|64=>83|n=>n,fun|n=>n⟩
theorem Tryz.Zz:Go.Proofs.SlLaysM.n5 Tryz.prog Tryz.P8:={
 mixed:=by kernel_rfl
 f5:=⟨Tryz.f202.name,by decide,Tryz.func202.trans (congrArg some (by kernel_rfl))⟩
 f7:=⟨Tryz.f217.name,by decide,Tryz.func217.trans (congrArg some (by kernel_rfl))⟩
 f8:=Tryz.func206.trans (congrArg some (by kernel_rfl))
 f10:=⟨Tryz.f237.name,by decide,Tryz.func237.trans (congrArg some (by kernel_rfl))⟩
 f11:=⟨Tryz.f238.name,by decide,Tryz.func238.trans (congrArg some (by kernel_rfl))⟩
 f12:=⟨Tryz.f239.name,by decide,Tryz.func239.trans (congrArg some (by kernel_rfl))⟩
 f13:=⟨Tryz.f240.name,by decide,Tryz.func240.trans (congrArg some (by kernel_rfl))⟩
 f14:=⟨Tryz.f241.name,by decide,Tryz.func241.trans (congrArg some (by kernel_rfl))⟩
 f15:=⟨Tryz.f242.name,by decide,Tryz.func242.trans (congrArg some (by kernel_rfl))⟩
 f16:=⟨Tryz.f243.name,by decide,Tryz.func243.trans (congrArg some (by kernel_rfl))⟩
 f17:=⟨Tryz.f244.name,by decide,Tryz.func244.trans (congrArg some (by kernel_rfl))⟩
 f18:=⟨Tryz.f245.name,by decide,Tryz.func245.trans (congrArg some (by kernel_rfl))⟩
 f19:=Tryz.func227.trans (congrArg some (by kernel_rfl))
 f20:=Tryz.func228.trans (congrArg some (by kernel_rfl))
 f30:=⟨Tryz.f258.name,by decide,Tryz.func258.trans (congrArg some (by kernel_rfl))⟩
 f31:=Tryz.func247.trans (congrArg some (by kernel_rfl))
 f32:=Tryz.func248.trans (congrArg some (by kernel_rfl))
 f33:=⟨Tryz.f259.name,by decide,Tryz.func259.trans (congrArg some (by kernel_rfl))⟩
 f34:=⟨Tryz.f260.name,by decide,Tryz.func260.trans (congrArg some (by kernel_rfl))⟩
 f35:=⟨Tryz.f261.name,by decide,Tryz.func261.trans (congrArg some (by kernel_rfl))⟩
 f40:=⟨Tryz.f268.name,by decide,Tryz.func268.trans (congrArg some (by kernel_rfl))⟩
 t0:=Tryz.underlying0
 a0:=Tryz.isAgg0
 z0:=Tryz.sizeOf0
 v0:=Tryz.zeroValue0
 t3:=Tryz.underlying3
 a3:=Tryz.isAgg3
 z3:=Tryz.sizeOf3
 v3:=Tryz.zeroValue3
 t4:=Tryz.underlying4
 a4:=Tryz.isAgg4
 z4:=Tryz.sizeOf4
 v4:=Tryz.zeroValue4
 t5:=Tryz.underlying5
 a5:=Tryz.isAgg5
 z5:=Tryz.sizeOf5
 v5:=Tryz.zeroValue5
 t9:=Tryz.underlying9
 a9:=Tryz.isAgg9
 z9:=Tryz.sizeOf9
 v9:=Tryz.zeroValue9
 t22:=Tryz.underlying71
 a22:=Tryz.isAgg71
 z22:=Tryz.sizeOf71
 v22:=Tryz.zeroValue71
 t23:=Tryz.underlying71
 a23:=Tryz.isAgg71
 z23:=Tryz.sizeOf71
 v23:=Tryz.zeroValue71
 t25:=Tryz.underlying3
 a25:=Tryz.isAgg3
 z25:=Tryz.sizeOf3
 v25:=Tryz.zeroValue3
 t32:=Tryz.underlying171
 a32:=Tryz.isAgg171
 z32:=Tryz.sizeOf171
 v32:=Tryz.zeroValue171
 t35:=Tryz.underlying255
 a35:=Tryz.isAgg255
 z35:=Tryz.sizeOf255
 v35:=Tryz.zeroValue255
 t36:=Tryz.underlying256
 a36:=Tryz.isAgg256
 z36:=Tryz.sizeOf256
 v36:=Tryz.zeroValue256
 t41:=Tryz.underlying190
 a41:=Tryz.isAgg190
 z41:=Tryz.sizeOf190
 v41:=Tryz.zeroValue190
 t44:=Tryz.underlying216
 a44:=Tryz.isAgg216
 z44:=Tryz.sizeOf216
 v44:=Tryz.zeroValue216
 t46:=Tryz.underlying27
 a46:=Tryz.isAgg27
 z46:=Tryz.sizeOf27
 v46:=Tryz.zeroValue27
 t53:=Tryz.underlying280
 a53:=Tryz.isAgg280
 z53:=Tryz.sizeOf280
 v53:=Tryz.zeroValue280
 t57:=Tryz.underlying283
 a57:=Tryz.isAgg283
 z57:=Tryz.sizeOf283
 v57:=Tryz.zeroValue283
 t63:=Tryz.underlying295
 a63:=Tryz.isAgg295
 z63:=Tryz.sizeOf295
 v63:=Tryz.zeroValue295
 t64:=Tryz.underlying83
 a64:=Tryz.isAgg83
 z64:=Tryz.sizeOf83
 v64:=Tryz.zeroValue83}
open Go.RowKit Go.Maps Go.Sort Go.Shelf
theorem Tryz.sortsT(m:Nat):AnyZI.SortsIn Tryz.prog Tryz.Bd Fence.wide m:=
 ⟨fun blk off cap ss W hH hblk hsz=>callsIn_wide.2 (AnyM.slices_Sort_int Tryz.Zz blk off cap ss W hH hblk hsz),
  fun p cap W=>callsIn_wide.2 (AnyM.slices_Sort_int_none Tryz.Zz p cap W)⟩
theorem Tryz.Xk(mb:Option Nat)(W:World):Calls Tryz.prog 166 #[.map mb] W fun e w'=>e= .returned (.func (.func 203) #[] #[.pointer (some ⟨W.heap.size,0,none⟩)])∧w'=W.alloc (.cells #[.map mb] 104):=
 callsIn_wide.1 (AnyZI.keys_in Tryz.Zy Fence.wide 5 trivial rfl mb W)
theorem Tryz.P9{H:Type}(b nn:Nat)(D0:DataW H)(R:Value→Option (DataW H×List MemPlace))(w:World)(hown:w.ownsMap Tryz.prog 3 R b nn D0)(hmax:Maps.size D0≤maxLen)(hbytes:Maps.size D0*8≤140737488355328):
  Calls Tryz.prog 165 #[.func (.func 203) #[] #[.pointer (some ⟨w.heap.size,0,none⟩)]] (w.alloc (.cells #[.map (some b)] 104)) fun e w'=>∃(v:Value) (ss:List Int),e= .returned v∧ss.Perm (intKeys D0)∧
   w'.ownsRow (w.alloc (.cells #[.map (some b)] 104)).heap.size 3 1 v ss.length ((ss.mergeSort (fun x y=>decide (x≤y))).map encZ)∧(v= .slice none 0 0↔ss=[])∧Below (w.alloc (.cells #[.map (some b)] 104)).heap.size (w.alloc (.cells #[.map (some b)] 104)) w':=by
 have hbl:=hown.lt
 have hseq:SeqGives Fence.wide 2 Tryz.prog 203 #[.pointer (some ⟨w.heap.size,0,none⟩)] encZ (fun ss=>ss.Perm (intKeys D0)) (Maps.size D0) (w.alloc (.cells #[.map (some b)] 104)):=
  AnyZI.keys_gives (ρ:=Tryz.FP) {Tryz.Zy with} Fence.wide _ trivial rfl (by omega) w.heap.size b nn D0 _ (by simp) (by simp) (by
   obtain⟨es,clock,hb,Ft,hs,hD⟩:=hown;exact⟨es,clock,(Below.heap_alloc _ _ b hbl).trans hb,Ft,hs,hD⟩)
 exact callsIn_wide.1 (AnyZI.sorted_in Tryz.Xj Fence.wide 5 trivial trivial trivial trivial rfl (by omega) (Tryz.sortsT _) (enters_of Tryz.func202 (by kernel_rfl) rfl) 203 #[.pointer (some ⟨w.heap.size,0,none⟩)] trivial (enters_of Tryz.func203 (by kernel_rfl) rfl) _ _ hmax hbytes _ hseq)
end Go.Proofs
namespace Go.Proofs.YtjnhnlabpccgjaaGreatDoor
open Go.ChangeShapes Go.WideShapes Go.ChangeAt Go.RowKit
theorem Je(l:List (Int×Value)):intKeys (yE bK l)=l.map (·.1):=by
 unfold intKeys yE;simp only[List.map_map];rfl
theorem Jf{α:Type}{l:List (Int×α)}(hl:aI (fun a b:Int=>decide (a<b)) l){ss:List Int}(hp:ss.Perm (l.map (·.1))):ss.mergeSort (fun x y=>decide (x≤y))=l.map (·.1):=by
 have h1:(ss.mergeSort (fun x y=>decide (x≤y))).Pairwise (fun a b=>decide (a≤b)=true):=List.pairwise_mergeSort (fun a b c h1 h2=>by simp at*;omega) (fun a b=>by simp;omega) ss;have h2:(l.map (·.1)).Pairwise (fun a b=>decide (a≤b)=true):=by
  rw[abk];exact hl.imp fun{a b} h=>by simp at*;omega
 exact((List.mergeSort_perm ss _).trans hp).eq_of_pairwise (fun a b _ _ h1 h2=>by simp at*;omega) h1 h2
def Oa(w:World)(zs:List Int)(e:Ending)(w':World):Prop:=
 ∃a cap,e= .returned (.slice a zs.length cap)∧zs.length≤cap∧ah (fun x=>w.heap.size≤x∧x<w'.heap.size) w' a zs.length (zs.map (Value.int .i64))∧Below w.heap.size w w'
def kX(T:aA):List Int:=T.map (·.1)
section
variable{g:Nat→Own}{D:Nat→Prop}{p mb:Nat}{ib nb:Int→Nat}{T:aA}
theorem Ob(w:World)(h:aP g D w p mb ib nb T)(hl:T.length≤100000):Calls Tryz.prog 89 #[ptr p] w (Oa w (kX T)):=by
 obtain⟨hc0,hpw,hmw⟩:=h.cell;have hsz:(T.map fun q=>(q.1,ptr (ib q.1))).length=T.length:=List.length_map _;have hkk:(T.map fun q=>(q.1,ptr (ib q.1))).map (·.1)=kX T:=by unfold kX;rw[List.map_map];rfl
 have hso:=h.map.sorted.1;have hk:=Tryz.Xk (some mb) w;have hs:=Tryz.P9 mb (T.map fun q:Int×bJ=>(q.1,ptr (ib q.1))).length (yE bK (T.map fun q:Int×bJ=>(q.1,ptr (ib q.1)))) oH w h.map (by rw[qc,hsz];unfold maxLen;omega) (by rw[qc,hsz];omega);have HSO:=acr hso;have HKK:=acr hkk;clear h hso hkk hsz;go_enter Tryz.func89,Tryz.ntmps89;go_wp2_with (first|(go_at_call 166;refine hk.mono ?_;rintro e w' ⟨rfl,rfl⟩)|(go_at_call 165;refine hs.mono ?_;rintro e w' ⟨v,ss,rfl,hp,hown,hnil,hB⟩));go_ret;rw[Je]at hp;rw[Jf HSO.o hp,HKK.o]at hown;have hlen:ss.length=(kX T).length:=by
  have:=hp.length_eq;rw[HKK.o]at this;exact this
 have hB2:Below w.heap.size w w':=(acv.alloc acu _).trans (hB.mono (by simp));have hs1:=hB.size;rw[Pe]at hs1;obtain⟨h1,h2⟩:=hown;simp only[List.length_map]at h1;rcases h2 with⟨rfl,h0⟩|⟨g,cap,cur,rfl,hg,hcur,hc1,hc2,hcs,htk⟩
 ·have h00:(kX T).length=0:=by omega
  have:kX T=[]:=aad h00;rw[this];exact⟨none,0,rfl,Nat.le_refl _,ah.nil _ _ _,hB2⟩
 ·have hgw:=(iL.1 hcur).1;rw[Pe]at hg;refine⟨some ⟨g,0,none⟩,cap,by rw[←hlen];rfl,by omega,⟨by simp,by omega,fun h0=>⟨g,0,rfl,⟨by omega,hgw⟩,hgw,fun i hi=> ?_⟩⟩,hB2⟩;simp only[World.cell?,hcur,Nat.zero_add];rw[show(kX T).map (Value.int .i64)=(kX T).map encZ from rfl];rw[←htk,aaD,if_pos (show i<ss.length*1 by rw[hlen];omega)];simp
end
theorem aP.addD{g:Nat→Own}{D:Nat→Prop}{w w':World}{p mb:Nat}{ib nb:Int→Nat}{T:aA}(h:aP g D w p mb ib nb T){k:Int}{x:bJ}{i n:Nat}(hi0:w.heap.size≤i)(hn0:w.heap.size≤n)(hin:i≠n)(hiw:i<w'.heap.size)(hnw:x.kind=2→n<w'.heap.size)(hx0:aj k T=none)
  (hm:MapAt bK w' mb (b_ iA k (ptr i) (T.map fun q=>(q.1,ptr (ib q.1)))))(hsz:w.heap.size≤w'.heap.size)(hb:∀b,b<w.heap.size→b≠mb→w'.heap[b]? =w.heap[b]?)(hi:jD D w' k i n x):
  aP (fun b=>if b=i then .item k else if b=n∧x.kind=2 then .names k else g b) D w' p mb (fun j=>if j=k then i else ib j) (fun j=>if j=k then n else nb j) (b_ iA k x T):=by
 have hgl:∀b,g b≠ .none→b≠i∧b≠n:=fun b hb=>by have:=h.low b hb;omega
 have hgg:∀b,g b≠ .none→(if b=i then Own.item k else if b=n∧x.kind=2 then .names k else g b)=g b:=fun b hb=>by
  obtain⟨h1,h2⟩:=hgl b hb;rw[if_neg h1,if_neg (fun h=>h2 h.1)]
 have hp:g p≠ .none:=by rw[h.qO];simp
 have hmm:g mb≠ .none:=by rw[h.jQ];simp
 refine⟨(hb p (h.low p hp) (fun e=>by have:=h.qO;rw[e,h.jQ]at this;cases this)).trans h.head,?_,?_,(hgg p hp).trans h.qO,(hgg mb hmm).trans h.jQ,?_,?_,?_,?_,fun b hb=>Nat.lt_of_lt_of_le (h.o_ b hb) hsz⟩
 ·have e1:(b_ iA k x T).map (fun q=>(q.1,ptr ((fun j=>if j=k then i else ib j) q.1)))=b_ iA k (ptr i) (T.map fun q=>(q.1,ptr (ib q.1))):=by
   rw[wh iA (fun j _=>ptr ((fun j=>if j=k then i else ib j) j))];simp only[if_pos];congr 1;apply aaz;intro q hq;have:q.1≠k:=iP.1 hx0 q hq;rw[if_neg this]
  rw[e1];exact hm
 ·intro j y hy;rw[eO]at hy;by_cases hj:j=k
  ·subst hj;rw[if_pos rfl]at hy;cases hy;simp only[if_pos];exact hi
  ·rw[if_neg hj]at hy;simp only[if_neg hj];have t1:=h.qg j y hy;refine(h.item j y hy).move hsz (hb _ (h.low _ (by rw[t1];simp)) (fun e=>by rw[e,h.jQ]at t1;cases t1)) (fun hk=>hb _ (h.low _ (by rw[h.nG j y hy hk];simp)) (fun e=>by have t2:=h.nG j y hy hk;rw[e,h.jQ]at t2;cases t2)) ?_;intro b vk hbw;exact⟨vk,hb b hbw (fun e=>by have:=h.data b vk;rw[e,h.jQ]at this;cases this)⟩
 ·intro j y hy;rw[eO]at hy;by_cases hj:j=k
  ·subst hj;simp
  ·rw[if_neg hj]at hy;have t1:=h.qg j y hy;simp only[if_neg hj];rw[hgg _ (by rw[t1];simp)];exact t1
 ·intro j y hy hk;rw[eO]at hy;by_cases hj:j=k
  ·subst hj;rw[if_pos rfl]at hy;cases hy;simp only[if_pos];rw[if_neg (aaT hin),if_pos ⟨trivial,hk⟩]
  ·rw[if_neg hj]at hy;have t1:=h.nG j y hy hk;simp only[if_neg hj];rw[hgg _ (by rw[t1];simp)];exact t1
 ·intro b vk;have:=h.o_ b vk;rw[if_neg (by omega),if_neg (by omega)];exact h.data b vk
 ·intro b hbn;by_cases h1:b=i
  ·omega
  ·by_cases h2:b=n∧x.kind=2
   ·have:=hnw h2.2;omega
   ·simp only[if_neg h1,if_neg h2]at hbn;exact Nat.lt_of_lt_of_le (h.low b hbn) hsz
def qY(left:Int→Bool)(T:aA):aA:=T.filter fun q=> !left q.1
theorem Aa(left:Int→Bool)(T:aA)(k:Int):aj k (qY left T)=if left k=true then none else aj k T:=by
 unfold qY
 induction T with
 |nil=>simp[aj]
 |cons y r ih=>
  rw[List.filter_cons,fF];by_cases hl:left y.1=true
  ·simp only[hl,Bool.not_true,abe,if_false];rw[ih];by_cases hk:y.1=k
   ·subst hk;rw[if_pos hl,if_pos hl]
   ·rw[if_neg hk]
  ·simp only[hl,Bool.not_false,abC];rw[fF,ih];by_cases hk:y.1=k
   ·subst hk;rw[if_pos rfl,if_neg hl,if_pos rfl]
   ·rw[if_neg hk,if_neg hk]
theorem yQ{T:aA}(h:aI iA T)(left:Int→Bool):aI iA (qY left T):=abL _ h
theorem Jg{left:Int→Bool}{T:aA}(h:∀q∈T,left q.1=true):qY left T=[]:=by
 unfold qY;rw[abY];intro q hq;simp[h q hq]
theorem P_{left:Int→Bool}{T:aA}(h:∀k,left k=false):qY left T=T:=by
 unfold qY;rw[aa0];intro q _;simp[h q.1]
theorem LH{left:Int→Bool}{T:aA}(hs:aI iA T){k:Int}{x:bJ}(hx:aj k T=some x)(h:left k=true):b_ iA k x (qY left T)=qY (fun z=>left z&& !decide (z=k)) T:=by
 refine IX bY ((yQ hs left).b_ bY k x) (yQ hs _) fun j=> ?_;rw[eO,Aa,Aa];by_cases hj:j=k
 ·subst hj;rw[if_pos rfl,hx];simp
 ·rw[if_neg hj];simp[hj]
def aV(T:aA):aA:=(kX T).foldl (fun S id=>(dO S id).2) T
theorem fG{w w':World}{B:Nat}{e:TypeId}{size:Nat}{v:Value}{n:Nat}{xs:List Value}(h:w.ownsRow B e size v n xs)(hk:∀b,v.ownBlock=some b→b<w.heap.size→w'.heap[b]? =w.heap[b]?):w'.ownsRow B e size v n xs:=by
 refine⟨h.1,?_⟩;rcases h.2 with h1|⟨g,cap,cur,rfl,hg,hcur,rest⟩
 ·exact .inl h1
 ·exact .inr ⟨g,cap,cur,rfl,hg,(hk g rfl (iL.1 hcur).1).trans hcur,rest⟩
theorem lK{w:World}{B:Nat}{e:TypeId}{size:Nat}{v:Value}{n:Nat}{xs:List Value}(h:w.ownsRow B e size v n xs):∀b,v.ownBlock=some b→b<w.heap.size:=by
 intro b hb;rcases h.2 with⟨rfl,_⟩|⟨g,cap,cur,rfl,hg,hcur,rest⟩
 ·cases hb
 ·cases hb;exact(iL.1 hcur).1
open Go
section
variable{P:Program}{ops:Array Oper}{Q:Exit→Act→World→Prop}{md:Region.Mode}{S:World→Prop}{last:Nat}
def wpAnyL(P:Program)(md:Region.Mode)(ops:Array Oper)(Q:Exit→Act→World→Prop)(S:World→Prop)(last:Nat):Nat→Array Bool→Act→World→Prop
 |0,listed,a,w=>Region.ready md ops listed=[]∧Q .normal a w
 |fuel+1,listed,a,w=>
  (Region.ready md ops listed=[]→Q .normal a w)∧
  ∀i∈Region.ready md ops listed,wpOp P ops Q i (fun a' w'=>(i≠last→S w')∧wpAnyL P md ops Q S last fuel (listed.setIfInBounds i true) a' w') a w
theorem Dh:∀(fuel:Nat) (listed:Array Bool) (a:Act) (w:World),wpAnyL P md ops Q S last fuel listed a w→wpAny P md ops Q fuel listed a w
 |0,_,_,_,h=>h
 |fuel+1,_,_,_,h=>⟨h.1,fun i hi=>wpOp_mono (fun a' w' h'=>Dh fuel _ a' w' h'.2) (h.2 i hi)⟩
def Closed(md:Region.Mode)(ops:Array Oper)(listed:Array Bool):Prop:=∀j o,ops[j]? =some o→listed.getD j false=true→∀e∈o.after,Region.binds md e=true→listed.getD e.on false=true
def reach(md:Region.Mode)(ops:Array Oper)(i:Nat):Nat→Nat→Bool
 |0,_=>false
 |f+1,j=>match ops[j]? with
  |none=>false
  |some o=>o.after.any fun e=>Region.binds md e&&(e.on==i||reach md ops i f e.on)
theorem Di{listed:Array Bool}{i:Nat}(h:listed.getD i true=false)(h1:listed.getD i false=true):False:=by
 rcases Nat.lt_or_ge i listed.size with h'|h'
 ·simp[h']at h h1;rw[h]at h1;cases h1
 ·simp[Array.getElem?_eq_none h']at h1
theorem FQ{listed:Array Bool}(hc:Closed md ops listed){i:Nat}(hi:listed.getD i true=false):∀(f j:Nat),reach md ops i f j=true→j∉Region.ready md ops listed∧¬listed.getD j false=true
 |0,_,h=>by cases h
 |f+1,j,h=>by
  unfold reach at h;cases ho:ops[j]? with
  |none=>rw[ho]at h;cases h
  |some o=>
   rw[ho]at h;simp only[Array.any_eq_true']at h;obtain⟨e,he,h2⟩:=h;simp only[aaW,abX,beq_iff_eq]at h2;have key:¬listed.getD e.on false=true:=fun h3=>by
    rcases h2.2 with h4|h4
    ·rw[h4]at h3;exact Di hi h3
    ·exact(FQ hc hi f e.on h4).2 h3
   refine⟨fun hr=> ?_,fun hl=>key (hc j o ho hl e he h2.1)⟩;obtain⟨_,o',ho',hall⟩:=mem_ready.1 hr;rw[ho]at ho';cases ho';exact key (hall e he h2.1)
theorem Jh{listed:Array Bool}(hc:Closed md ops listed){i:Nat}(hi:i∈Region.ready md ops listed):Closed md ops (listed.setIfInBounds i true):=by
 intro j o ho hl e he hb;by_cases hji:i=j
 ·subst hji;obtain⟨_,o',ho',hall⟩:=mem_ready.1 hi;rw[ho]at ho';cases ho';exact getD_set_true (hall e he hb)
 ·rw[getD_set_ne false hji]at hl;exact getD_set_true (hc j o ho hl e he hb)
theorem wpAnyL_first{i:Nat}{oi:Oper}{v:Value}(hi:ops[i]? =some oi)(hsel:∀(j:Nat) (o:Oper) cs b,ops[j]? =some o→o.op≠ .select cs b)
  (hQ:∀c a w,Q (.panic c) (a.put oi.dst v) w→Q (.panic c) a w){f:Nat}(hre:reach md ops i f last=true):
  ∀(fuel:Nat) (listed:Array Bool) (a:Act) (w:World),Closed md ops listed→
   (∀j oj,ops[j]? =some oj→j≠i→listed.getD j true=false→(∀e∈oj.after,Region.binds md e=true→e.on≠i)→oi.apart ops oj=true)→
   i∈Region.ready md ops listed→YieldsIf P ops S oi v a→S w→
   wpAnyL P md ops Q S last fuel (listed.setIfInBounds i true) (a.put oi.dst v) w→wpAnyL P md ops Q S last (fuel+1) listed a w:=by
 intro fuel
 induction fuel with
 |zero=>
  intro listed a w _ _ hr hy hS H;refine⟨fun h=>(by rw[h]at hr;cases hr),fun j hj=> ?_⟩;by_cases hji:j=i
  ·subst hji;exact hy.wpOp hi hS ⟨fun _=>hS,H⟩
  ·have:=ready_mono hj hji;rw[H.1]at this;cases this
 |succ fuel ih=>
  intro listed a w hcl hfree hr hy hS H;refine⟨fun h=>(by rw[h]at hr;cases hr),fun j hj=> ?_⟩;by_cases hji:j=i
  ·subst hji;exact hy.wpOp hi hS ⟨fun _=>hS,H⟩
  ·have hjl:j≠last:=fun e=>(FQ hcl (mem_ready.1 hr).1 f last hre).1 (e▸hj);have h1:=H.2 j (ready_mono hj hji);obtain⟨hjun,oj,hoj,hall⟩:=mem_ready.1 hj;have hnot:∀e∈oj.after,Region.binds md e=true→e.on≠i:=fun e he hb heq=>by
    have h1:=hall e he hb;rw[heq]at h1;exact Di (mem_ready.1 hr).1 h1
   have h2:=wpOp_putIf hoj (hfree j oj hoj hji hjun hnot) (fun cs b=>hsel i oi cs b hi) (fun cs b=>hsel j oj cs b hoj) hQ hy h1
   have hfree':∀k ok,ops[k]? =some ok→k≠i→(listed.setIfInBounds j true).getD k true=false→
     (∀e∈ok.after,Region.binds md e=true→e.on≠i)→oi.apart ops ok=true:=fun k ok hk hki hun hno=>by
    refine hfree k ok hk hki ?_ hno;by_cases hjk:j=k
    ·subst hjk;exact hjun
    ·rw[getD_set_ne true hjk]at hun;exact hun
   refine wpOp_mono (fun a' w' h3=>⟨fun _=>h3.2.1 hjl,ih (listed.setIfInBounds j true) a' w' (Jh hcl hj) hfree' (ready_mono hr (aaT hji)) h3.1 (h3.2.1 hjl) ?_⟩) h2;rw[Array.setIfInBounds_comm _ _ hji];exact h3.2.2
def Cj(md:Region.Mode)(ops:Array Oper)(listed:Array Bool):Bool:=
 (List.range ops.size).all fun j=> !listed.getD j false||match ops[j]? with
  |none=>true
  |some o=>o.after.all fun e=> !Region.binds md e||listed.getD e.on false
theorem Qa{listed:Array Bool}(h:Cj md ops listed=true):Closed md ops listed:=by
 intro j o ho hl e he hb;have hj:j<ops.size:=(iL.1 ho).1;unfold Cj at h;rw[List.all_eq_true]at h;have h1:=h j (ab2.2 hj);rw[hl,ho]at h1;simp only[Bool.not_true,Bool.false_or,Array.all_eq_true']at h1;have h2:=h1 e he;rw[hb]at h2;simpa using h2
theorem Ji{i:Nat}{oi:Oper}{v:Value}{fuel:Nat}{listed:Array Bool}{a:Act}{w:World}(hi:ops[i]? =some oi)
  (hs:Region.noSelect ops=true)(hf:Region.free md ops listed i=true)(hr:(Region.ready md ops listed).contains i=true)(hcl:Cj md ops listed=true)(hre:reach md ops i ops.size last=true)
  (hQ:∀c a w,Q (.panic c) (a.put oi.dst v) w→Q (.panic c) a w)(hy:YieldsIf P ops S oi v a)(hS:S w)
  (h:wpAnyL P md ops Q S last fuel (listed.setIfInBounds i true) (a.put oi.dst v) w):wpAnyL P md ops Q S last (fuel+1) listed a w:=
 wpAnyL_first hi (Region.noSelect_spec hs) hQ hre fuel listed a w (Qa hcl) (Region.free_spec hi hf) (by simpa using hr) hy hS h
theorem Jj{listed:Array Bool}{a:Act}{w:World}(hr:Region.ready md ops listed=[])(h:Q .normal a w):
  ∀fuel,wpAnyL P md ops Q S last fuel listed a w
 |0=>⟨hr,h⟩
 |_+1=>⟨fun _=>h,by rw[hr];simp⟩
def dW(P:Program)(md:Region.Mode)(ops:Array Oper)(Q:Exit→Act→World→Prop)(S:World→Prop)(last:Nat)(fuel:Nat)(listed:Array Bool)(a:Act)(w:World)(rs:List Nat):Prop:=
 ∀i∈rs,wpOp P ops Q i (fun a' w'=>(i≠last→S w')∧wpAnyL P md ops Q S last fuel (listed.setIfInBounds i true) a' w') a w
theorem dW.nil{fuel:Nat}{listed:Array Bool}{a:Act}{w:World}:dW P md ops Q S last fuel listed a w []:=fun _ h=>by cases h
theorem dW.cons{fuel:Nat}{listed:Array Bool}{a:Act}{w:World}{i:Nat}{o:Oper}{rs:List Nat}(ho:ops[i]? =some o)
  (h:∀K':Act→World→Prop,Shut (∀a w,(i≠last→S w)→((i≠last→S w)→wpAnyL P md ops Q S last fuel (listed.setIfInBounds i true) a w)→K' a w)→if Region.wanted o (yielded ops a.tmps)=true then Oper.wp P o a w K' Q else K' (a.put o.dst undef) w)
  (hs:dW P md ops Q S last fuel listed a w rs):dW P md ops Q S last fuel listed a w (i::rs):=fun j hj=>by
 rcases aan.1 hj with rfl|hj
 ·exact wpOp_step ho (fun K' hK=>h K' (fun a w hS hW=>hK a w ⟨hS,hW hS⟩))
 ·exact hs j hj
theorem mU{rs:List Nat}{fuel:Nat}{listed:Array Bool}{a:Act}{w:World}(hr:Region.ready md ops listed=rs)(hne:rs≠[])
  (h:dW P md ops Q S last fuel listed a w rs):wpAnyL P md ops Q S last (fuel+1) listed a w:=⟨fun h0=>absurd (hr▸h0) hne,hr▸h⟩
theorem Jk{id:Nat}{a:Act}{w:World}(hm:P.follows .mixedOrders=true)(hS:S w.drew)
  (h:S w.drew→wpAnyL P .any ops Q S last ops.size (Array.replicate ops.size false) a w.drew):(Code.region id ops true).wp P Q a w:=
 wp_region_any hm (Dh _ _ _ _ (h hS))
theorem aC(i:Nat){oi:Oper}{v:Value}{fuel:Nat}{listed l':Array Bool}{a a':Act}{w:World}
  (hS:S w)(h:wpAnyL P md ops Q S last fuel l' a' w)
  (hi:ops[i]? =some oi:=by simp only[aaq,aas,aai];rfl)
  (hs:Region.noSelect ops=true:=by kernel_rfl)(hf:Region.free md ops listed i=true:=by kernel_rfl)(hr:(Region.ready md ops listed).contains i=true:=by kernel_rfl)(hcl:Cj md ops listed=true:=by kernel_rfl)(hre:reach md ops i ops.size last=true:=by kernel_rfl)
  (hQ:∀c a w,Q (.panic c) (a.put oi.dst v) w→Q (.panic c) a w:=by exact fun _ _ _ h=>h)
  (hw:Region.wanted oi (yielded ops a.tmps)=true:=by rfl)
  (hy:∀w,S w→(execOp a.eval oi).run P w= .ok (.value v) w:=by intro w hSw;(try dsimp only at hSw);go_simp;(try with_reducible rfl))
  (hl:listed.setIfInBounds i true=l':=by(try simp only[aav,aaJ,aaP]);rfl)
  (ha:a.put oi.dst v=a':=by(try simp only[Act.put,aav,aaJ,aaP]);rfl)
  :wpAnyL P md ops Q S last (fuel+1) listed a w:=
 Ji hi hs hf hr hcl hre hQ (Or.inl ⟨hw,hy⟩) hS (by rw[hl,ha];exact h)
theorem bU(i:Nat){o:Oper}{fuel:Nat}{listed:Array Bool}{a:Act}{w:World}
  (h:∀K':Act→World→Prop,Shut (∀a w,(i≠last→S w)→((i≠last→S w)→wpAnyL P md ops Q S last fuel (listed.setIfInBounds i true) a w)→K' a w)→if Region.wanted o (yielded ops a.tmps)=true then Oper.wp P o a w K' Q else K' (a.put o.dst undef) w)
  (ho:ops[i]? =some o:=by simp only[aaq,aas,aai];rfl)(hr:Region.ready md ops listed=[i]:=by kernel_rfl):wpAnyL P md ops Q S last (fuel+1) listed a w:=
 mU hr (by simp) (dW.cons ho h dW.nil)
theorem oI(i j:Nat){o1 o2:Oper}{fuel:Nat}{listed:Array Bool}{a:Act}{w:World}
  (h1:∀K':Act→World→Prop,Shut (∀a w,(i≠last→S w)→((i≠last→S w)→wpAnyL P md ops Q S last fuel (listed.setIfInBounds i true) a w)→K' a w)→if Region.wanted o1 (yielded ops a.tmps)=true then Oper.wp P o1 a w K' Q else K' (a.put o1.dst undef) w)
  (h2:∀K':Act→World→Prop,Shut (∀a w,(j≠last→S w)→((j≠last→S w)→wpAnyL P md ops Q S last fuel (listed.setIfInBounds j true) a w)→K' a w)→if Region.wanted o2 (yielded ops a.tmps)=true then Oper.wp P o2 a w K' Q else K' (a.put o2.dst undef) w)
  (ho1:ops[i]? =some o1:=by simp only[aaq,aas,aai];rfl)(ho2:ops[j]? =some o2:=by simp only[aaq,aas,aai];rfl)(hr:Region.ready md ops listed=[i,j]:=by kernel_rfl):wpAnyL P md ops Q S last (fuel+1) listed a w:=
 mU hr (by simp) (dW.cons ho1 h1 (dW.cons ho2 h2 dW.nil))
theorem rdL3(i j k:Nat){o1 o2 o3:Oper}{fuel:Nat}{listed:Array Bool}{a:Act}{w:World}
  (h1:∀K':Act→World→Prop,Shut (∀a w,(i≠last→S w)→((i≠last→S w)→wpAnyL P md ops Q S last fuel (listed.setIfInBounds i true) a w)→K' a w)→if Region.wanted o1 (yielded ops a.tmps)=true then Oper.wp P o1 a w K' Q else K' (a.put o1.dst undef) w)
  (h2:∀K':Act→World→Prop,Shut (∀a w,(j≠last→S w)→((j≠last→S w)→wpAnyL P md ops Q S last fuel (listed.setIfInBounds j true) a w)→K' a w)→if Region.wanted o2 (yielded ops a.tmps)=true then Oper.wp P o2 a w K' Q else K' (a.put o2.dst undef) w)
  (h3:∀K':Act→World→Prop,Shut (∀a w,(k≠last→S w)→((k≠last→S w)→wpAnyL P md ops Q S last fuel (listed.setIfInBounds k true) a w)→K' a w)→if Region.wanted o3 (yielded ops a.tmps)=true then Oper.wp P o3 a w K' Q else K' (a.put o3.dst undef) w)
  (ho1:ops[i]? =some o1:=by simp only[aaq,aas,aai];rfl)(ho2:ops[j]? =some o2:=by simp only[aaq,aas,aai];rfl)(ho3:ops[k]? =some o3:=by simp only[aaq,aas,aai];rfl)(hr:Region.ready md ops listed=[i,j,k]:=by kernel_rfl):wpAnyL P md ops Q S last (fuel+1) listed a w:=
 mU hr (by simp) (dW.cons ho1 h1 (dW.cons ho2 h2 (dW.cons ho3 h3 dW.nil)))
theorem bV{i:Nat}{fuel:Nat}{listed l':Array Bool}{a a':Act}{w:World}{K:Act→World→Prop}
  (hK:Shut (∀a w,(i≠last→S w)→((i≠last→S w)→wpAnyL P md ops Q S last fuel (listed.setIfInBounds i true) a w)→K a w))(hS:S w)(h:S w→wpAnyL P md ops Q S last fuel l' a' w)
  (hl:listed.setIfInBounds i true=l':=by(try simp only[aav,aaJ,aaP]);rfl)
  (ha:a=a':=by(try simp only[Act.put,aav,aaJ,aaP]);rfl):K a w:=by
 subst hl ha;exact hK a w (fun _=>hS) fun _=>h hS
theorem nk{i:Nat}{fuel:Nat}{listed:Array Bool}{a a':Act}{w:World}{K:Act→World→Prop}
  (hK:Shut (∀a w,(i≠last→S w)→((i≠last→S w)→wpAnyL P md ops (NoPanic Q) S last fuel (listed.setIfInBounds i true) a w)→K a w))(h:Q .normal a' w)
  (hi:i=last:=by rfl)(hr:Region.ready md ops (listed.setIfInBounds i true)=[]:=by kernel_rfl)
  (ha:a=a':=by(try simp only[Act.put,aav,aaJ,aaP]);rfl):K a w:=by
 subst ha;exact hK a w (fun h0=>absurd hi h0) fun _=>Jj hr (NoPanic.normal h) _
theorem wQ(last:Nat)(S:World→Prop){id:Nat}{a:Act}{w:World}(hS:S w.drew)
  (h:S w.drew→wpAnyL P .any ops (NoPanic Q) S last ops.size (Array.replicate ops.size false) a w.drew)(hm:P.follows .mixedOrders=true:=by kernel_rfl):(Code.region id ops true).wp P Q a w:=
 wp_region_noPanic (Jk hm hS h)
end
end Go.Proofs.YtjnhnlabpccgjaaGreatDoor
