/- DERIVED -/
import Derived.Test.YtmflaonodghbcaaGreatDoorProg
import Derived.Shelf.SlIterI.Nil
import Derived.Shelf.SlIterI.Sorted
import Derived.Shelf.SortM.Plain
import Derived.Shelf.SortM.SortNone
import Derived.Ground.GgzProg
import Derived.Ground.SlgmProg
import Derived.Test.YtmflaonodghbcaaGreatDoorM08
import Derived.Test.YtmflaonodghbcaaGreatDoorM05
import Derived.Test.YtmflaonodghbcaaGreatDoorM02
import Derived.Test.YtmflaonodghbcaaGreatDoorM13
import Derived.BigQuiet
import Derived.Deep.QuietTactic
set_option maxRecDepth 100000
set_option maxHeartbeats 64000000
set_option linter.all false
namespace Go.Proofs
open Go.Shelf
def Tryz.Ig:Go.Shelf.Ren:=⟨fun|7=>84|10=>155|n=>n,fun|23=>76|26=>3|3=>32|28=>150|0=>0|27=>149|33=>63|4=>4|n=>n,fun|n=>n⟩
theorem Tryz.keysD:Go.Proofs.SlLaysZI.n7 Tryz.prog Tryz.Ig:={
 mixed:=by kernel_rfl
 f7:=⟨Tryz.f84.name,by decide,Tryz.func84.trans (congrArg some (by kernel_rfl))⟩
 f10:=⟨Tryz.f155.name,by decide,Tryz.func155.trans (congrArg some (by kernel_rfl))⟩
 t0:=Tryz.underlying0
 a0:=Tryz.isAgg0
 z0:=Tryz.sizeOf0
 v0:=Tryz.zeroValue0
 t4:=Tryz.underlying4
 a4:=Tryz.isAgg4
 z4:=Tryz.sizeOf4
 v4:=Tryz.zeroValue4
 t23:=Tryz.underlying76
 a23:=Tryz.isAgg76
 z23:=Tryz.sizeOf76
 v23:=Tryz.zeroValue76
 t26:=Tryz.underlying3
 a26:=Tryz.isAgg3
 z26:=Tryz.sizeOf3
 v26:=Tryz.zeroValue3
 t27:=Tryz.underlying149
 a27:=Tryz.isAgg149
 z27:=Tryz.sizeOf149
 v27:=Tryz.zeroValue149
 t28:=Tryz.underlying150
 a28:=Tryz.isAgg150
 z28:=Tryz.sizeOf150
 v28:=Tryz.zeroValue150
 t33:=Tryz.underlying63
 a33:=Tryz.isAgg63
 z33:=Tryz.sizeOf63
 v33:=Tryz.zeroValue63}
def Tryz.Ci:Go.Shelf.Ren:=⟨fun|6=>83|8=>153|9=>154|11=>206|13=>208|12=>207|23=>251|24=>252|14=>242|15=>243|16=>244|17=>245|18=>246|19=>247|20=>248|21=>249|22=>250|25=>269|26=>270|27=>271|28=>272|29=>273|30=>274|31=>293|n=>n,fun|26=>3|28=>150|24=>71|0=>0|3=>3|37=>167|48=>165|50=>29|4=>4|40=>330|39=>329|45=>207|5=>5|9=>9|51=>356|55=>359|57=>378|58=>321|33=>63|n=>n,fun|n=>n⟩
theorem Tryz.sortedD:Go.Proofs.SlLaysZI.n6 Tryz.prog Tryz.Ci:={
 mixed:=by kernel_rfl
 f6:=⟨Tryz.f83.name,by decide,Tryz.func83.trans (congrArg some (by kernel_rfl))⟩
 f8:=⟨Tryz.f153.name,by decide,Tryz.func153.trans (congrArg some (by kernel_rfl))⟩
 f11:=⟨Tryz.f206.name,by decide,Tryz.func206.trans (congrArg some (by kernel_rfl))⟩
 t0:=Tryz.underlying0
 a0:=Tryz.isAgg0
 z0:=Tryz.sizeOf0
 v0:=Tryz.zeroValue0
 t24:=Tryz.underlying71
 a24:=Tryz.isAgg71
 z24:=Tryz.sizeOf71
 v24:=Tryz.zeroValue71
 t26:=Tryz.underlying3
 a26:=Tryz.isAgg3
 z26:=Tryz.sizeOf3
 v26:=Tryz.zeroValue3
 t28:=Tryz.underlying150
 a28:=Tryz.isAgg150
 z28:=Tryz.sizeOf150
 v28:=Tryz.zeroValue150
 i26:=by kernel_rfl}
def Tryz.Tk:Go.Shelf.Ren:=⟨fun|5=>154|8=>208|7=>207|19=>251|20=>252|10=>242|11=>243|12=>244|13=>245|14=>246|15=>247|16=>248|17=>249|18=>250|30=>269|31=>270|32=>271|33=>272|34=>273|35=>274|40=>293|n=>n,fun|23=>71|25=>3|3=>3|32=>167|22=>71|0=>0|44=>165|46=>29|4=>4|36=>330|35=>329|41=>207|5=>5|9=>9|53=>356|57=>359|63=>378|64=>321|n=>n,fun|n=>n⟩
theorem Tryz.sortD:Go.Proofs.SlLaysM.n5 Tryz.prog Tryz.Tk:={
 mixed:=by kernel_rfl
 f5:=⟨Tryz.f154.name,by decide,Tryz.func154.trans (congrArg some (by kernel_rfl))⟩
 f7:=⟨Tryz.f207.name,by decide,Tryz.func207.trans (congrArg some (by kernel_rfl))⟩
 f8:=Tryz.func208.trans (congrArg some (by kernel_rfl))
 f10:=⟨Tryz.f242.name,by decide,Tryz.func242.trans (congrArg some (by kernel_rfl))⟩
 f11:=⟨Tryz.f243.name,by decide,Tryz.func243.trans (congrArg some (by kernel_rfl))⟩
 f12:=⟨Tryz.f244.name,by decide,Tryz.func244.trans (congrArg some (by kernel_rfl))⟩
 f13:=⟨Tryz.f245.name,by decide,Tryz.func245.trans (congrArg some (by kernel_rfl))⟩
 f14:=⟨Tryz.f246.name,by decide,Tryz.func246.trans (congrArg some (by kernel_rfl))⟩
 f15:=⟨Tryz.f247.name,by decide,Tryz.func247.trans (congrArg some (by kernel_rfl))⟩
 f16:=⟨Tryz.f248.name,by decide,Tryz.func248.trans (congrArg some (by kernel_rfl))⟩
 f17:=⟨Tryz.f249.name,by decide,Tryz.func249.trans (congrArg some (by kernel_rfl))⟩
 f18:=⟨Tryz.f250.name,by decide,Tryz.func250.trans (congrArg some (by kernel_rfl))⟩
 f19:=Tryz.func251.trans (congrArg some (by kernel_rfl))
 f20:=Tryz.func252.trans (congrArg some (by kernel_rfl))
 f30:=⟨Tryz.f269.name,by decide,Tryz.func269.trans (congrArg some (by kernel_rfl))⟩
 f31:=Tryz.func270.trans (congrArg some (by kernel_rfl))
 f32:=Tryz.func271.trans (congrArg some (by kernel_rfl))
 f33:=⟨Tryz.f272.name,by decide,Tryz.func272.trans (congrArg some (by kernel_rfl))⟩
 f34:=⟨Tryz.f273.name,by decide,Tryz.func273.trans (congrArg some (by kernel_rfl))⟩
 f35:=⟨Tryz.f274.name,by decide,Tryz.func274.trans (congrArg some (by kernel_rfl))⟩
 f40:=⟨Tryz.f293.name,by decide,Tryz.func293.trans (congrArg some (by kernel_rfl))⟩
 t0:=Tryz.underlying0
 a0:=Tryz.isAgg0
 z0:=Tryz.sizeOf0
 v0:=Tryz.zeroValue0
 t3:=Tryz.underlying3
 a3:=Tryz.isAgg3
 z3:=Tryz.sizeOf3
 v3:=Tryz.zeroValue3
 t4:=Tryz.underlying4
 a4:=Tryz.isAgg4
 z4:=Tryz.sizeOf4
 v4:=Tryz.zeroValue4
 t5:=Tryz.underlying5
 a5:=Tryz.isAgg5
 z5:=Tryz.sizeOf5
 v5:=Tryz.zeroValue5
 t9:=Tryz.underlying9
 a9:=Tryz.isAgg9
 z9:=Tryz.sizeOf9
 v9:=Tryz.zeroValue9
 t22:=Tryz.underlying71
 a22:=Tryz.isAgg71
 z22:=Tryz.sizeOf71
 v22:=Tryz.zeroValue71
 t23:=Tryz.underlying71
 a23:=Tryz.isAgg71
 z23:=Tryz.sizeOf71
 v23:=Tryz.zeroValue71
 t25:=Tryz.underlying3
 a25:=Tryz.isAgg3
 z25:=Tryz.sizeOf3
 v25:=Tryz.zeroValue3
 t32:=Tryz.underlying167
 a32:=Tryz.isAgg167
 z32:=Tryz.sizeOf167
 v32:=Tryz.zeroValue167
 t35:=Tryz.underlying329
 a35:=Tryz.isAgg329
 z35:=Tryz.sizeOf329
 v35:=Tryz.zeroValue329
 t36:=Tryz.underlying330
 a36:=Tryz.isAgg330
 z36:=Tryz.sizeOf330
 v36:=Tryz.zeroValue330
 t41:=Tryz.underlying207
 a41:=Tryz.isAgg207
 z41:=Tryz.sizeOf207
 v41:=Tryz.zeroValue207
 t44:=Tryz.underlying165
 a44:=Tryz.isAgg165
 z44:=Tryz.sizeOf165
 v44:=Tryz.zeroValue165
 t46:=Tryz.underlying29
 a46:=Tryz.isAgg29
 z46:=Tryz.sizeOf29
 v46:=Tryz.zeroValue29
 t53:=Tryz.underlying356
 a53:=Tryz.isAgg356
 z53:=Tryz.sizeOf356
 v53:=Tryz.zeroValue356
 t57:=Tryz.underlying359
 a57:=Tryz.isAgg359
 z57:=Tryz.sizeOf359
 v57:=Tryz.zeroValue359
 t63:=Tryz.underlying378
 a63:=Tryz.isAgg378
 z63:=Tryz.sizeOf378
 v63:=Tryz.zeroValue378
 t64:=Tryz.underlying321
 a64:=Tryz.isAgg321
 z64:=Tryz.sizeOf321
 v64:=Tryz.zeroValue321}
open Go.RowKit Go.Maps Go.Sort Go.Shelf
theorem Tryz.sortsD(m:Nat):AnyZI.SortsIn Tryz.prog Tryz.Ci Fence.wide m:=
 ⟨fun blk off cap ss W hH hblk hsz=>callsIn_wide.2 (AnyM.slices_Sort_int Tryz.sortD blk off cap ss W hH hblk hsz),
  fun p cap W=>callsIn_wide.2 (AnyM.slices_Sort_int_none Tryz.sortD p cap W)⟩
theorem Tryz.keysOfD(mb:Option Nat)(W:World):Calls Tryz.prog 84 #[.map mb] W fun e w'=>e= .returned (.func (.func 155) #[] #[.pointer (some ⟨W.heap.size,0,none⟩)])∧w'=W.alloc (.cells #[.map mb] 76):=
 callsIn_wide.1 (AnyZI.keys_in Tryz.keysD Fence.wide 5 trivial rfl mb W)
theorem Tryz.Tm{H:Type}(b nn:Nat)(D0:DataW H)(R:Value→Option (DataW H×List MemPlace))(w:World)(hown:w.ownsMap Tryz.prog 3 R b nn D0)(hmax:Maps.size D0≤maxLen)(hbytes:Maps.size D0*8≤140737488355328):
  Calls Tryz.prog 83 #[.func (.func 155) #[] #[.pointer (some ⟨w.heap.size,0,none⟩)]] (w.alloc (.cells #[.map (some b)] 76)) fun e w'=>∃(v:Value) (ss:List Int),e= .returned v∧ss.Perm (intKeys D0)∧
   w'.ownsRow (w.alloc (.cells #[.map (some b)] 76)).heap.size 3 1 v ss.length ((ss.mergeSort (fun x y=>decide (x≤y))).map encZ)∧(v= .slice none 0 0↔ss=[])∧Below (w.alloc (.cells #[.map (some b)] 76)).heap.size (w.alloc (.cells #[.map (some b)] 76)) w':=by
 have hbl:=hown.lt
 have hseq:SeqGives Fence.wide 2 Tryz.prog 155 #[.pointer (some ⟨w.heap.size,0,none⟩)] encZ (fun ss=>ss.Perm (intKeys D0)) (Maps.size D0) (w.alloc (.cells #[.map (some b)] 76)):=
  AnyZI.keys_gives (ρ:=Tryz.Ig) {Tryz.keysD with} Fence.wide _ trivial rfl (by omega) w.heap.size b nn D0 _ (by simp) (by simp) (by
   obtain⟨es,clock,hb,Ft,hs,hD⟩:=hown;exact⟨es,clock,(Below.heap_alloc _ _ b hbl).trans hb,Ft,hs,hD⟩)
 exact callsIn_wide.1 (AnyZI.sorted_in Tryz.sortedD Fence.wide 5 trivial trivial trivial trivial rfl (by omega) (Tryz.sortsD _) (enters_of Tryz.func154 (by kernel_rfl) rfl) 155 #[.pointer (some ⟨w.heap.size,0,none⟩)] trivial (enters_of Tryz.func155 (by kernel_rfl) rfl) _ _ hmax hbytes _ hseq)
end Go.Proofs
namespace Go.Proofs.YtmflaonodghbcaaGreatDoor
open Go.ChangeShapes Go.WideShapes Go.ChangeAt Go.RowKit
structure dA where
 safe:List UInt8
 dirty:List (Int×List UInt8)
 writes:Int
structure bO(F:Nat→Prop)(w:World)(d sb mb:Nat)(l:List (Int×Value))(M:dA):Prop where
 head:w.heap[d]? =some (.cells #[.slice (some ⟨sb,0,none⟩) M.safe.length M.safe.length,.map (some mb),.int .i64 M.writes] 78 (0,0))
 safe:w.heap[sb]? =some (.cells (M.safe.map bv).toArray 5 (0,0))
 len:M.safe.length≤524288∧8192≤M.safe.length∧M.safe.length%128=0
 map:MapAt aU w mb l
 sorted:aO (fun a b:Int=>decide (a<b)) M.dirty
 rows:∀k:Int,xP (Kg (fun x=>F x∧x≠d∧x≠sb∧x≠mb) w 128) (aj k l) (aj k M.dirty)
 range:∀q∈M.dirty,0≤q.1∧q.1*128<M.safe.length
 own:F d∧F sb∧F mb
 apart:d≠sb∧d≠mb∧sb≠mb
 low:∀x,F x→x<w.heap.size
 writes: -9223372036854775808≤M.writes∧M.writes≤4611686018427387904
def RetNew(w:World)(n:Nat)(e:Ending)(w':World):Prop:=
 ∃F d sb mb,e= .returned (.tuple #[.pointer (some ⟨d,0,none⟩),.int .i64 0])∧bO F w' d sb mb [] ⟨List.replicate (n*128) 0,[],0⟩∧(∀x,F x→w.heap.size≤x)∧Below w.heap.size w w'
theorem WX(n:Nat)(h1:64≤n)(h2:n≤4096)(w:World):
  Calls Tryz.prog 10 #[.int .i64 n] w (RetNew w n):=by
 obtain⟨i0,hi,hz0,hz1,hz2⟩:=aay Tryz.uP;have e1:decide ((n:Int)<64)=false:=by simp;omega
 have e2:decide ((4096:Int)<n)=false:=by simp;omega
 have e3:IntKind.i64.wrap ((n:Int)*128)=(n:Int)*128:=aah _ (by omega);have hmm:= @abT Tryz.prog;go_enter Tryz.func10,Tryz.ntmps10;go_wp2_with (at_make;refine wpList_make_full _ rfl _ _ 32 rfl w.heap.size 5 i0 (.int .u8 0) 1 Tryz.underlying32 hi hz0 hz1 .i64 .i64 ((n:Int)*128) ((n:Int)*128) (n*128) rfl rfl (by omega) (by omega) (by rw[hz2];omega) (by unfold maxLen;omega) ace ?_;intro w2 hown2 hgrow2)
 go_ret2
 have hl:=hown2.1;rw[show Value.cells (.int .u8 0)= #[.int .u8 0]from rfl,toList_madeCells_one]at hown2;obtain⟨_,hown2⟩:=hown2;rcases hown2 with⟨hx,_⟩|⟨g,cap,cur,hx,hbg,hcur,_,_,hcs,htake⟩
 ·cases hx
 ·simp only[aaJ,aag,Addr.mk.injEq,and_true,true_and]at hx;obtain⟨rfl,_,rfl⟩:=hx;have hcl:cur=((List.replicate (n*128) (0:UInt8)).map bv).toArray:=by
   rw[List.take_of_length_le (by simp;omega)]at htake;apply Array.toList_inj.1;rw[htake];simp
  have hs2:=hgrow2.size;have hB2:Below w.heap.size w w2:=⟨hgrow2.os,hgrow2.tape,hgrow2.output,hgrow2.size,fun i hi=>hgrow2.block i hi (by simp)⟩;have hgs:w.heap.size<w2.heap.size:=(uh.1 hcur).1;refine⟨fun x=>w.heap.size≤x∧x<w2.heap.size+2,w2.heap.size+1,w.heap.size,w2.heap.size,by simp,?_,fun x hx=>hx.1,?_⟩
  ·constructor
   ·have h:=(MapKept.heap_alloc (w2.alloc (.map #[] 0)) (.cells #[.slice (some ⟨w.heap.size,0,none⟩) (n*128) (n*128),.map (some w2.heap.size),.int .i64 0] 78)).1;rw[Pd]at h;simpa only[aa1]using h
   ·rw[Below.heap_alloc _ _ _ (by simp;omega),Below.heap_alloc _ _ _ (by omega),hcur,hcl]
   ·simp;omega
   ·exact(MapAt.made (F:=aU) w2).kept (Below.heap_alloc _ _ _ (by simp))
   ·simp[aO]
   ·intro k;simp[aj,xP]
   ·simp
   ·exact⟨by omega,by omega,by omega⟩
   ·exact⟨by omega,by omega,by omega⟩
   ·intro x hx;simp;omega
   ·simp
  ·exact(hB2.alloc (by omega) _).alloc (by simp;omega) _
theorem lC{F:Nat→Prop}{w:World}{d sb mb:Nat}{l:List (Int×Value)}{M:dA}(h:bO F w d sb mb l M):
  w.cell? ⟨d,0,none⟩=some (.slice (some ⟨sb,0,none⟩) M.safe.length M.safe.length)∧w.cell? ⟨d,1,none⟩=some (.map (some mb))∧w.cell? ⟨d,2,none⟩=some (.int .i64 M.writes):=by
 have:=h.head;simp[World.cell?,this]
theorem zX{F:Nat→Prop}{d sb mb:Nat}{l:List (Int×Value)}{M:dA}(w:World)(h:bO F w d sb mb l M):
  Calls Tryz.prog 32 #[.pointer (some ⟨d,0,none⟩)] w fun e w'=>e= .returned (.int .i64 ((M.safe.length/128:Nat):Int))∧w=w':=by
 obtain⟨hc0,_,_⟩:=lC h;have hl:=h.len;obtain⟨N,hN⟩:∃N,N=M.safe.length:=⟨_,rfl⟩;rw[←hN]at hc0 hl⊢;have e1:IntKind.i64.wrap (Int.tdiv (N:Int) 128)=((N/128:Nat):Int):=by rw[Int.tdiv_eq_ediv_of_nonneg (by omega)];exact aah _ (by omega)
 clear h hN;go_enter Tryz.func32,Tryz.ntmps32;go_wp2;go_ret;exact⟨gW (by omega),rfl⟩
theorem Dj{F:Nat→Prop}{d sb mb:Nat}{l:List (Int×Value)}{M:dA}(i:Int)(w:World)(h:bO F w d sb mb l M):
  Calls Tryz.prog 172 #[.pointer (some ⟨d,0,none⟩),.int .i64 i] w fun e w'=>e= .returned (.bool (decide (0≤i∧i<((M.safe.length/128:Nat):Int))))∧w=w':=by
 by_cases h0:0≤i
 ·go_enter Tryz.func172,Tryz.ntmps172;go_wp2_with (go_at_call 32;refine(zX _ h).mono ?_;rintro e w' ⟨rfl,rfl⟩);go_ret;exact⟨lW (by simp[h0]),rfl⟩
 ·have e1:decide (0≤i)=false:=by simpa using h0
  go_enter Tryz.func172,Tryz.ntmps172;go_wp2;go_ret;exact⟨lW (by simp),rfl⟩
theorem dat_any{F:Nat→Prop}{d sb mb:Nat}{l:List (Int×Value)}{M:dA}(i:Nat)(hi:i*128<M.safe.length)(w:World)(h:bO F w d sb mb l M):
  Calls Tryz.prog 28 #[.pointer (some ⟨d,0,none⟩),.int .i64 i] w fun e w'=>e= .returned (.slice (some ⟨sb,i*128,none⟩) 128 (M.safe.length-i*128))∧w=w':=by
 obtain⟨hc0,_,_⟩:=lC h;have hl:=h.len;obtain⟨N,hN⟩:∃N,N=M.safe.length:=⟨_,rfl⟩;rw[←hN]at hc0 hl hi⊢;have e1:IntKind.i64.wrap ((i:Int)*128)=(i:Int)*128:=aah _ (by omega);have e2:IntKind.i64.wrap ((i:Int)+1)=(i:Int)+1:=aah _ (by omega);have e3:IntKind.i64.wrap (((i:Int)+1)*128)=((i:Int)+1)*128:=aah _ (by omega);clear h hN;go_enter Tryz.func28,Tryz.ntmps28;go_wp2;go_ret;refine⟨?_,rfl⟩;show Ending.returned (Value.slice (some ⟨sb,i*128,none⟩) ((i+1)*128-i*128) (N-i*128))=_;rw[show(i+1)*128-i*128=128 by omega]
def rowsOf(s:List UInt8)(i:Nat):List UInt8:=(s.drop (i*128)).take 128
def fA(M:dA)(i:Int):List UInt8:=(aj i M.dirty).getD (rowsOf M.safe i.toNat)
def oM(M:dA)(i:Int):Prop:=0≤i∧i<((M.safe.length/128:Nat):Int)
theorem Tryz.Bq(w:World):(zeroValue 32).run Tryz.prog w= .ok (.slice none 0 0) w:=by kernel_rfl
theorem OI{F:Nat→Prop}{d sb mb:Nat}{l:List (Int×Value)}{M:dA}(i:Int)(hi:¬oM M i)(w:World)(h:bO F w d sb mb l M):
  Calls Tryz.prog 156 #[.pointer (some ⟨d,0,none⟩),.int .i64 i] w fun e w'=>e= .returned (.tuple #[.slice none 0 0,.int .i64 1])∧w=w':=by
 have e1:decide (0≤i∧i<((M.safe.length/128:Nat):Int))=false:=aaf hi;have hd:=Dj i w h;rw[e1]at hd;clear h e1 hi;go_enter Tryz.func156,Tryz.ntmps156;go_wp2_with (go_at_call 172;refine hd.mono ?_;rintro e w' ⟨rfl,rfl⟩)
 go_ret2
 exact⟨rfl,rfl⟩
theorem OJ{F:Nat→Prop}{d sb mb:Nat}{l:List (Int×Value)}{M:dA}(i:Nat)(hi:oM M i)(w:World)(h:bO F w d sb mb l M):
  Calls Tryz.prog 156 #[.pointer (some ⟨d,0,none⟩),.int .i64 i] w fun e w'=>∃v,e= .returned (.tuple #[v,.int .i64 0])∧Kg (fun x=>w.heap.size≤x∧x<w'.heap.size) w' 128 v (fA M i)∧Below w.heap.size w w':=by
 have e1:decide (0≤(i:Int)∧(i:Int)<((M.safe.length/128:Nat):Int))=true:=aal hi;have hd:=Dj (i:Int) w h;rw[e1]at hd;have hlen:=h.len;have hib:i*128<M.safe.length:=by
  have:=hi.2;omega
 have hat:=dat_any i hib w h;obtain⟨_,hc1,_⟩:=lC h;have hok:(Lit.int .i64 (i:Int)).wf=true:=by simp[Lit.wf,IntKind.min,IntKind.max,IntKind.signed,IntKind.bits];omega
 have hrel:=h.rows (i:Int);rcases ab2 (aj (i:Int) M.dirty)with h2|⟨row,h2⟩
 ·have h1:=Ro hrel h2;clear hrel;have hr:fA M i=rowsOf M.safe i:=by simp[fA,h2]
  rw[hr];have hM:=ab9 h;clear h;have hmap:=hM.o.map;go_enter Tryz.func156,Tryz.ntmps156;go_wp2_with (first|(go_at_call 172;refine hd.mono ?_;rintro e w' ⟨rfl,rfl⟩)|(at_lookup;refine aS aU rfl _ _ 76 32 rfl Tryz.underlying76 (Tryz.Bq _) rfl hmap (i:Int) rfl hok ?_;rw[h1])|(go_at_call 28;refine hat.mono ?_;rintro e w' ⟨rfl,rfl⟩));refine(xW sb (i*128) 128 _ (rowsOf M.safe i) w (by omega) (by simp[rowsOf];omega) (by omega) ?_ ?_).mono ?_
  ·intro j u hu;rw[add_plain];have hs:=hM.o.safe;simp only[World.cell?,hs];simp only[rowsOf,List.getElem?_map,aat,aby]at hu;split at hu
   ·simpa using hu
   ·simp at hu
  ·exact hM.o.low _ hM.o.own.2.1
  rintro e w1 ⟨v,rfl,hv,hB⟩;go_wp2
  go_ret2
  exact⟨v,rfl,hv,hB⟩
 ·obtain⟨p2,h3,hR⟩:=Al hrel h2;clear hrel;have hr:fA M i=row:=by simp[fA,h2]
  rw[hr];obtain⟨hl,b,cap,cur,rfl,hF,hcur,htk,hc1',hc2',hcs⟩:=hR;have hblt:=h.low _ hF.1;have hcell:∀j u,(row.map bv)[j]? =some u→w.cell? ((⟨b,0,none⟩:Addr).add j)=some u:=by
   intro j u hu;rw[add_plain,←htk]at*;simp only[World.cell?,hcur,Nat.zero_add];rw[aat]at hu;split at hu
   ·simpa using hu
   ·simp at hu
  have hmap:=h.map;clear h htk hcur hc1' hc2' hcs hF h2;go_enter Tryz.func156,Tryz.ntmps156;go_wp2_with (first|(go_at_call 172;refine hd.mono ?_;rintro e w' ⟨rfl,rfl⟩)|(at_lookup;refine aS aU rfl _ _ 76 32 rfl Tryz.underlying76 (Tryz.Bq _) rfl hmap (i:Int) rfl hok ?_;rw[h3]));refine(xW b 0 128 _ row w (by omega) hl (by omega) hcell hblt).mono ?_;rintro e w1 ⟨v,rfl,hv,hB⟩;go_wp2
  go_ret2
  exact⟨v,rfl,hv,hB⟩
theorem LQ{F:Nat→Prop}{d sb mb:Nat}{l:List (Int×Value)}{M:dA}(i:Int)(a:Option Addr)(n cap:Nat)(hi:¬(oM M i∧n=128))(w:World)(h:bO F w d sb mb l M):
  Calls Tryz.prog 97 #[.pointer (some ⟨d,0,none⟩),.int .i64 i,.slice a n cap] w fun e w'=>e= .returned (.int .i64 1)∧w=w':=by
 have hd:=Dj i w h;clear h;by_cases h1:oM M i
 ·have e1:decide (0≤i∧i<((M.safe.length/128:Nat):Int))=true:=aal h1;rw[e1]at hd;have e2:((n:Int) !=128)=true:=by simp;intro h;exact hi ⟨h1,by omega⟩
  clear hi h1 e1;go_enter Tryz.func97,Tryz.ntmps97;go_wp2_with (go_at_call 172;refine hd.mono ?_;rintro e w' ⟨rfl,rfl⟩);go_ret;exact⟨rfl,rfl⟩
 ·have e1:decide (0≤i∧i<((M.safe.length/128:Nat):Int))=false:=aaf h1;rw[e1]at hd;clear hi h1 e1;go_enter Tryz.func97,Tryz.ntmps97;go_wp2_with (go_at_call 172;refine hd.mono ?_;rintro e w' ⟨rfl,rfl⟩);go_ret;exact⟨rfl,rfl⟩
end Go.Proofs.YtmflaonodghbcaaGreatDoor
