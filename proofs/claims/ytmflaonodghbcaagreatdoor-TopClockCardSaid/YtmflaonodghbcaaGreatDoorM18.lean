/- DERIVED -/
import Derived.Test.YtmflaonodghbcaaGreatDoorProg
import Derived.Shelf.SlIterI.Nil
import Derived.Shelf.SlIterI.Sorted
import Derived.Shelf.SortM.Plain
import Derived.Shelf.SortM.SortNone
import Derived.Ground.GgzProg
import Derived.Ground.SlgmProg
import Derived.Test.YtmflaonodghbcaaGreatDoorM05
import Derived.Test.YtmflaonodghbcaaGreatDoorM14
import Derived.Test.YtmflaonodghbcaaGreatDoorM13
import Derived.Test.YtmflaonodghbcaaGreatDoorM17
import Derived.WalkLawsBesides
import Derived.Test.YtmflaonodghbcaaGreatDoorM02
import Derived.Laws.Tables
import Derived.Laws.Rows
import Derived.Test.YtmflaonodghbcaaGreatDoorM01
import Derived.Deep.RegionHeld3
set_option maxRecDepth 100000
set_option maxHeartbeats 64000000
set_option linter.all false
namespace Go.Proofs
open Go.Shelf
def Tryz.G6:Go.Shelf.Ren:=⟨fun|7=>222|10=>260|n=>n,fun|23=>186|26=>3|3=>189|28=>150|0=>0|27=>149|33=>63|4=>4|n=>n,fun|n=>n⟩
theorem Tryz.keysT:Go.Proofs.SlLaysZI.n7 Tryz.prog Tryz.G6:={
 mixed:=by kernel_rfl
 f7:=⟨Tryz.f222.name,by decide,Tryz.func222.trans (congrArg some (by kernel_rfl))⟩
 f10:=⟨Tryz.f260.name,by decide,Tryz.func260.trans (congrArg some (by kernel_rfl))⟩
 t0:=Tryz.underlying0
 a0:=Tryz.isAgg0
 z0:=Tryz.sizeOf0
 v0:=Tryz.zeroValue0
 t4:=Tryz.underlying4
 a4:=Tryz.isAgg4
 z4:=Tryz.sizeOf4
 v4:=Tryz.zeroValue4
 t23:=Tryz.underlying186
 a23:=Tryz.isAgg186
 z23:=Tryz.sizeOf186
 v23:=Tryz.zeroValue186
 t26:=Tryz.underlying3
 a26:=Tryz.isAgg3
 z26:=Tryz.sizeOf3
 v26:=Tryz.zeroValue3
 t27:=Tryz.underlying149
 a27:=Tryz.isAgg149
 z27:=Tryz.sizeOf149
 v27:=Tryz.zeroValue149
 t28:=Tryz.underlying150
 a28:=Tryz.isAgg150
 z28:=Tryz.sizeOf150
 v28:=Tryz.zeroValue150
 t33:=Tryz.underlying63
 a33:=Tryz.isAgg63
 z33:=Tryz.sizeOf63
 v33:=Tryz.zeroValue63}
def Tryz.BP:Go.Shelf.Ren:=⟨fun|6=>83|8=>153|9=>154|11=>206|13=>208|12=>207|23=>251|24=>252|14=>242|15=>243|16=>244|17=>245|18=>246|19=>247|20=>248|21=>249|22=>250|25=>269|26=>270|27=>271|28=>272|29=>273|30=>274|31=>293|n=>n,fun|26=>3|28=>150|24=>71|0=>0|3=>3|37=>167|48=>165|50=>29|4=>4|40=>330|39=>329|45=>207|5=>5|9=>9|51=>356|55=>359|57=>378|58=>321|33=>63|n=>n,fun|n=>n⟩
theorem Tryz.Zl:Go.Proofs.SlLaysZI.n6 Tryz.prog Tryz.BP:={
 mixed:=by kernel_rfl
 f6:=⟨Tryz.f83.name,by decide,Tryz.func83.trans (congrArg some (by kernel_rfl))⟩
 f8:=⟨Tryz.f153.name,by decide,Tryz.func153.trans (congrArg some (by kernel_rfl))⟩
 f11:=⟨Tryz.f206.name,by decide,Tryz.func206.trans (congrArg some (by kernel_rfl))⟩
 t0:=Tryz.underlying0
 a0:=Tryz.isAgg0
 z0:=Tryz.sizeOf0
 v0:=Tryz.zeroValue0
 t24:=Tryz.underlying71
 a24:=Tryz.isAgg71
 z24:=Tryz.sizeOf71
 v24:=Tryz.zeroValue71
 t26:=Tryz.underlying3
 a26:=Tryz.isAgg3
 z26:=Tryz.sizeOf3
 v26:=Tryz.zeroValue3
 t28:=Tryz.underlying150
 a28:=Tryz.isAgg150
 z28:=Tryz.sizeOf150
 v28:=Tryz.zeroValue150
 i26:=by kernel_rfl}
def Tryz.RU:Go.Shelf.Ren:=⟨fun|5=>154|8=>208|7=>207|19=>251|20=>252|10=>242|11=>243|12=>244|13=>245|14=>246|15=>247|16=>248|17=>249|18=>250|30=>269|31=>270|32=>271|33=>272|34=>273|35=>274|40=>293|n=>n,fun|23=>71|25=>3|3=>3|32=>167|22=>71|0=>0|44=>165|46=>29|4=>4|36=>330|35=>329|41=>207|5=>5|9=>9|53=>356|57=>359|63=>378|64=>321|n=>n,fun|n=>n⟩
theorem Tryz.sortT:Go.Proofs.SlLaysM.n5 Tryz.prog Tryz.RU:={
 mixed:=by kernel_rfl
 f5:=⟨Tryz.f154.name,by decide,Tryz.func154.trans (congrArg some (by kernel_rfl))⟩
 f7:=⟨Tryz.f207.name,by decide,Tryz.func207.trans (congrArg some (by kernel_rfl))⟩
 f8:=Tryz.func208.trans (congrArg some (by kernel_rfl))
 f10:=⟨Tryz.f242.name,by decide,Tryz.func242.trans (congrArg some (by kernel_rfl))⟩
 f11:=⟨Tryz.f243.name,by decide,Tryz.func243.trans (congrArg some (by kernel_rfl))⟩
 f12:=⟨Tryz.f244.name,by decide,Tryz.func244.trans (congrArg some (by kernel_rfl))⟩
 f13:=⟨Tryz.f245.name,by decide,Tryz.func245.trans (congrArg some (by kernel_rfl))⟩
 f14:=⟨Tryz.f246.name,by decide,Tryz.func246.trans (congrArg some (by kernel_rfl))⟩
 f15:=⟨Tryz.f247.name,by decide,Tryz.func247.trans (congrArg some (by kernel_rfl))⟩
 f16:=⟨Tryz.f248.name,by decide,Tryz.func248.trans (congrArg some (by kernel_rfl))⟩
 f17:=⟨Tryz.f249.name,by decide,Tryz.func249.trans (congrArg some (by kernel_rfl))⟩
 f18:=⟨Tryz.f250.name,by decide,Tryz.func250.trans (congrArg some (by kernel_rfl))⟩
 f19:=Tryz.func251.trans (congrArg some (by kernel_rfl))
 f20:=Tryz.func252.trans (congrArg some (by kernel_rfl))
 f30:=⟨Tryz.f269.name,by decide,Tryz.func269.trans (congrArg some (by kernel_rfl))⟩
 f31:=Tryz.func270.trans (congrArg some (by kernel_rfl))
 f32:=Tryz.func271.trans (congrArg some (by kernel_rfl))
 f33:=⟨Tryz.f272.name,by decide,Tryz.func272.trans (congrArg some (by kernel_rfl))⟩
 f34:=⟨Tryz.f273.name,by decide,Tryz.func273.trans (congrArg some (by kernel_rfl))⟩
 f35:=⟨Tryz.f274.name,by decide,Tryz.func274.trans (congrArg some (by kernel_rfl))⟩
 f40:=⟨Tryz.f293.name,by decide,Tryz.func293.trans (congrArg some (by kernel_rfl))⟩
 t0:=Tryz.underlying0
 a0:=Tryz.isAgg0
 z0:=Tryz.sizeOf0
 v0:=Tryz.zeroValue0
 t3:=Tryz.underlying3
 a3:=Tryz.isAgg3
 z3:=Tryz.sizeOf3
 v3:=Tryz.zeroValue3
 t4:=Tryz.underlying4
 a4:=Tryz.isAgg4
 z4:=Tryz.sizeOf4
 v4:=Tryz.zeroValue4
 t5:=Tryz.underlying5
 a5:=Tryz.isAgg5
 z5:=Tryz.sizeOf5
 v5:=Tryz.zeroValue5
 t9:=Tryz.underlying9
 a9:=Tryz.isAgg9
 z9:=Tryz.sizeOf9
 v9:=Tryz.zeroValue9
 t22:=Tryz.underlying71
 a22:=Tryz.isAgg71
 z22:=Tryz.sizeOf71
 v22:=Tryz.zeroValue71
 t23:=Tryz.underlying71
 a23:=Tryz.isAgg71
 z23:=Tryz.sizeOf71
 v23:=Tryz.zeroValue71
 t25:=Tryz.underlying3
 a25:=Tryz.isAgg3
 z25:=Tryz.sizeOf3
 v25:=Tryz.zeroValue3
 t32:=Tryz.underlying167
 a32:=Tryz.isAgg167
 z32:=Tryz.sizeOf167
 v32:=Tryz.zeroValue167
 t35:=Tryz.underlying329
 a35:=Tryz.isAgg329
 z35:=Tryz.sizeOf329
 v35:=Tryz.zeroValue329
 t36:=Tryz.underlying330
 a36:=Tryz.isAgg330
 z36:=Tryz.sizeOf330
 v36:=Tryz.zeroValue330
 t41:=Tryz.underlying207
 a41:=Tryz.isAgg207
 z41:=Tryz.sizeOf207
 v41:=Tryz.zeroValue207
 t44:=Tryz.underlying165
 a44:=Tryz.isAgg165
 z44:=Tryz.sizeOf165
 v44:=Tryz.zeroValue165
 t46:=Tryz.underlying29
 a46:=Tryz.isAgg29
 z46:=Tryz.sizeOf29
 v46:=Tryz.zeroValue29
 t53:=Tryz.underlying356
 a53:=Tryz.isAgg356
 z53:=Tryz.sizeOf356
 v53:=Tryz.zeroValue356
 t57:=Tryz.underlying359
 a57:=Tryz.isAgg359
 z57:=Tryz.sizeOf359
 v57:=Tryz.zeroValue359
 t63:=Tryz.underlying378
 a63:=Tryz.isAgg378
 z63:=Tryz.sizeOf378
 v63:=Tryz.zeroValue378
 t64:=Tryz.underlying321
 a64:=Tryz.isAgg321
 z64:=Tryz.sizeOf321
 v64:=Tryz.zeroValue321}
open Go.RowKit Go.Maps Go.Sort Go.Shelf
theorem Tryz.sortsT(m:Nat):AnyZI.SortsIn Tryz.prog Tryz.BP Fence.wide m:=
 ⟨fun blk off cap ss W hH hblk hsz=>callsIn_wide.2 (AnyM.slices_Sort_int Tryz.sortT blk off cap ss W hH hblk hsz),
  fun p cap W=>callsIn_wide.2 (AnyM.slices_Sort_int_none Tryz.sortT p cap W)⟩
theorem Tryz.Zm(mb:Option Nat)(W:World):Calls Tryz.prog 222 #[.map mb] W fun e w'=>e= .returned (.func (.func 260) #[] #[.pointer (some ⟨W.heap.size,0,none⟩)])∧w'=W.alloc (.cells #[.map mb] 186):=
 callsIn_wide.1 (AnyZI.keys_in Tryz.keysT Fence.wide 5 trivial rfl mb W)
theorem Tryz.RV{H:Type}(b nn:Nat)(D0:DataW H)(R:Value→Option (DataW H×List MemPlace))(w:World)(hown:w.ownsMap Tryz.prog 3 R b nn D0)(hmax:Maps.size D0≤maxLen)(hbytes:Maps.size D0*8≤140737488355328):
  Calls Tryz.prog 83 #[.func (.func 260) #[] #[.pointer (some ⟨w.heap.size,0,none⟩)]] (w.alloc (.cells #[.map (some b)] 186)) fun e w'=>∃(v:Value) (ss:List Int),e= .returned v∧ss.Perm (intKeys D0)∧
   w'.ownsRow (w.alloc (.cells #[.map (some b)] 186)).heap.size 3 1 v ss.length ((ss.mergeSort (fun x y=>decide (x≤y))).map encZ)∧(v= .slice none 0 0↔ss=[])∧Below (w.alloc (.cells #[.map (some b)] 186)).heap.size (w.alloc (.cells #[.map (some b)] 186)) w':=by
 have hbl:=hown.lt
 have hseq:SeqGives Fence.wide 2 Tryz.prog 260 #[.pointer (some ⟨w.heap.size,0,none⟩)] encZ (fun ss=>ss.Perm (intKeys D0)) (Maps.size D0) (w.alloc (.cells #[.map (some b)] 186)):=
  AnyZI.keys_gives (ρ:=Tryz.G6) {Tryz.keysT with} Fence.wide _ trivial rfl (by omega) w.heap.size b nn D0 _ (by simp) (by simp) (by
   obtain⟨es,clock,hb,Ft,hs,hD⟩:=hown;exact⟨es,clock,(Below.heap_alloc _ _ b hbl).trans hb,Ft,hs,hD⟩)
 exact callsIn_wide.1 (AnyZI.sorted_in Tryz.Zl Fence.wide 5 trivial trivial trivial trivial rfl (by omega) (Tryz.sortsT _) (enters_of Tryz.func154 (by kernel_rfl) rfl) 260 #[.pointer (some ⟨w.heap.size,0,none⟩)] trivial (enters_of Tryz.func260 (by kernel_rfl) rfl) _ _ hmax hbytes _ hseq)
end Go.Proofs
namespace Go.Proofs.YtmflaonodghbcaaGreatDoor
open Go.ChangeShapes Go.WideShapes Go.ChangeAt Go.RowKit
theorem KV(l:List (Int×Value)):intKeys (wP aU l)=l.map (·.1):=by
 unfold intKeys wP;simp only[List.map_map];rfl
theorem KW{α:Type}{l:List (Int×α)}(hl:aO (fun a b:Int=>decide (a<b)) l){ss:List Int}(hp:ss.Perm (l.map (·.1))):ss.mergeSort (fun x y=>decide (x≤y))=l.map (·.1):=by
 have h1:(ss.mergeSort (fun x y=>decide (x≤y))).Pairwise (fun a b=>decide (a≤b)=true):=List.pairwise_mergeSort (fun a b c h1 h2=>by simp at*;omega) (fun a b=>by simp;omega) ss;have h2:(l.map (·.1)).Pairwise (fun a b=>decide (a≤b)=true):=by
  rw[List.pairwise_map];exact hl.imp fun{a b} h=>by simp at*;omega
 exact((List.mergeSort_perm ss _).trans hp).eq_of_pairwise (fun a b _ _ h1 h2=>by simp at*;omega) h1 h2
def CY(w:World)(zs:List Int)(e:Ending)(w':World):Prop:=
 ∃a cap,e= .returned (.slice a zs.length cap)∧zs.length≤cap∧ah (fun x=>w.heap.size≤x∧x<w'.heap.size) w' a zs.length (zs.map (Value.int .i64))∧Below w.heap.size w w'
def mO(T:aI):List Int:=T.map (·.1)
section
variable{g:Nat→Own}{D:Nat→Prop}{p mb:Nat}{ib nb:Int→Nat}{T:aI}
theorem Qy(w:World)(h:aM g D w p mb ib nb T)(hl:T.length≤100000):Calls Tryz.prog 177 #[ptr p] w (CY w (mO T)):=by
 obtain⟨hc0,hpw,hmw⟩:=h.cell;have hsz:(T.map fun q=>(q.1,ptr (ib q.1))).length=T.length:=List.length_map _;have hkk:(T.map fun q=>(q.1,ptr (ib q.1))).map (·.1)=mO T:=by unfold mO;rw[List.map_map];rfl
 have hso:=h.map.sorted.1;have hk:=Tryz.Zm (some mb) w;have hs:=Tryz.RV mb (T.map fun q:Int×eG=>(q.1,ptr (ib q.1))).length (wP aU (T.map fun q:Int×eG=>(q.1,ptr (ib q.1)))) mV w h.map (by rw[jL,hsz];unfold maxLen;omega) (by rw[jL,hsz];omega);have Zn:=ab9 hso;have HKK:=ab9 hkk;clear h hso hkk hsz;go_enter Tryz.func177,Tryz.ntmps177;go_wp2_with (first|(go_at_call 222;refine hk.mono ?_;rintro e w' ⟨rfl,rfl⟩)|(go_at_call 83;refine hs.mono ?_;rintro e w' ⟨v,ss,rfl,hp,hown,hnil,hB⟩));go_ret;rw[KV]at hp;rw[KW Zn.o hp,HKK.o]at hown;have hlen:ss.length=(mO T).length:=by
  have:=hp.length_eq;rw[HKK.o]at this;exact this
 have hB2:Below w.heap.size w w':=(acf.alloc ace _).trans (hB.mono (by simp));have hs1:=hB.size;rw[Pd]at hs1;obtain⟨h1,h2⟩:=hown;simp only[List.length_map]at h1;rcases h2 with⟨rfl,h0⟩|⟨g,cap,cur,rfl,hg,hcur,hc1,hc2,hcs,htk⟩
 ·have h00:(mO T).length=0:=by omega
  have:mO T=[]:=Pe h00;rw[this];exact⟨none,0,rfl,Nat.le_refl _,ah.nil _ _ _,hB2⟩
 ·have hgw:=(uh.1 hcur).1;rw[Pd]at hg;refine⟨some ⟨g,0,none⟩,cap,by rw[←hlen];rfl,by omega,⟨by simp,by omega,fun h0=>⟨g,0,rfl,⟨by omega,hgw⟩,hgw,fun i hi=> ?_⟩⟩,hB2⟩;simp only[World.cell?,hcur,Nat.zero_add];rw[show(mO T).map (Value.int .i64)=(mO T).map encZ from rfl];rw[←htk,aat,if_pos (show i<ss.length*1 by rw[hlen];omega)];simp
end
def oO(l:List UInt8):List UInt8:=bA l.length 2++l
def MQ(e:Nm×Int):List UInt8:=oO e.1++bA e.2 2
def kJ(k:Int)(x:eG):List UInt8:=oO (uI k x)++oO x.b++bA x.names.length 2++x.names.flatMap MQ
def f_(T:aI):List UInt8:=bA T.length 2++T.flatMap fun q=>kJ q.1 q.2
theorem nU{n:Nm}(h:dO n=true):n.length≤16:=by
 unfold dO at h;simp only[aa2,aar]at h;exact h.1.1.2
theorem vo(l:List UInt8):(oO l).length=2+l.length:=by unfold oO;rw[List.length_append,ay]
theorem CZ:∀(l:List (Nm×Int)),(∀e∈l,e.1.length≤16)→(l.flatMap MQ).length≤20*l.length
 |[],_=>by simp
 |e::r,h=>by
  have h1:=h e (by simp);have h2:=CZ r fun y hy=>h y (by simp[hy]);simp only[aaY,List.length_append,List.length_cons,MQ,vo,ay];omega
theorem Vr{k:Int}{x:eG}(h:Qm x)(hf:x.names.length≤4096):(kJ k x).length≤90000:=by
 have h1:=CZ x.names fun e he=>nU (h.good e he);have h2:=h.size;unfold kJ;simp only[List.length_append,vo,ay,mD];omega
theorem AP{T:aI}(hT:fu T):∀(l:aI),(∀q∈l,q∈T)→(l.flatMap fun q=>kJ q.1 q.2).length≤90000*l.length
 |[],_=>by simp
 |q::r,h=>by
  have hq:=bI dU hT.sorted (h q (by simp));have h1:=Vr (k:=q.1) (hT.each _ _ hq) (hT.few hq);have h2:=AP hT r fun y hy=>h y (by simp[hy]);simp only[aaY,List.length_append,List.length_cons];omega
theorem RX{k:Int}{x:eG}(h:M9 x)(hf:x.names.length≤65535):(kJ k x).length≤1315000:=by
 have h1:=CZ x.names fun e he=>nU (h.good e he);have h2:=h.size;unfold kJ;simp only[List.length_append,vo,ay,mD];omega
theorem sV{T:aI}(hT:OkW T)(hf:∀k x,aj k T=some x→x.names.length≤65535):∀(l:aI),(∀q∈l,q∈T)→(l.flatMap fun q=>kJ q.1 q.2).length≤1315000*l.length
 |[],_=>by simp
 |q::r,h=>by
  have hq:=bI dU hT.sorted (h q (by simp));have h1:=RX (k:=q.1) (hT.each _ _ hq) (hf _ _ hq);have h2:=sV hT hf r fun y hy=>h y (by simp[hy]);simp only[aaY,List.length_append,List.length_cons];omega
theorem RY{T:aI}(hT:OkW T)(hf:∀k x,aj k T=some x→x.names.length≤65535):(f_ T).length≤84160002:=by
 have h1:=sV hT hf T fun q hq=>hq;have h2:=hT.len;unfold f_;rw[List.length_append,ay];omega
def rQ(l:List UInt8):Int:=l.foldl (fun n c=>n*256+(c.toNat:Int)) 0
theorem zy(l:List UInt8)(c:UInt8):rQ (l++[c])=rQ l*256+(c.toNat:Int):=by unfold rQ;rw[List.foldl_append];rfl
theorem Vs:rQ []=0:=rfl
theorem G7{α:Type}(l:List α)(k:Nat)(h:l.length=k+1):∃l' c,l=l'++[c]∧l'.length=k:=by
 have hne:l≠[]:=fun e=>by rw[e]at h;cases h
 exact⟨l.dropLast,l.getLast hne,(List.dropLast_concat_getLast hne).symm,by rw[abq];omega⟩
theorem sW:∀(k:Nat) (l:List UInt8),l.length=k→0≤rQ l∧rQ l<256^k
 |0,l,h=>by rw[Pe h];simp[rQ]
 |k+1,l,h=>by
  obtain⟨l',c,rfl,h'⟩:=G7 l k h;obtain⟨h1,h2⟩:=sW k l' h';have hc:(c.toNat:Int)≤255:=by have:=c.toNat_lt;omega
  rw[zy,Int.pow_succ];generalize (256:Int)^k=P at*;omega
theorem Ee:∀(k:Nat) (n:Int),0≤n→bA n (k+1)=bA (n/256) k++[UInt8.ofNat ((n%256).toNat)]
 |0,n,h0=>by
  show[UInt8.ofNat ((n/2^(8*0)).toNat%256)]=[UInt8.ofNat ((n%256).toNat)];congr 2;simp;omega
 |k+1,n,h0=>by
  have h:=Ee k n h0;rw[bA,h];show _=(UInt8.ofNat ((n/256/2^(8*k)).toNat%256)::bA (n/256) k)++_;rw[abR];congr 4;rw[Int.ediv_ediv_of_nonneg (by decide),show(2:Int)^(8*(k+1))=256*2^(8*k)by rw[Nat.mul_add,Int.pow_add,Int.mul_comm];rfl]
theorem I8:∀(k:Nat) (n:Int),0≤n→n<256^k→rQ (bA n k)=n
 |0,n,h0,h1=>by simp only[Int.pow_zero]at h1;simp only[bA,Vs];omega
 |k+1,n,h0,h1=>by
  rw[Ee k n h0,zy,I8 k (n/256) (by omega) (by rw[Int.pow_succ]at h1;generalize (256:Int)^k=P at*;omega)];have:(UInt8.ofNat (n%256).toNat).toNat=(n%256).toNat:=by simp;omega
  rw[this];omega
theorem Qz:∀(k:Nat) (l:List UInt8),l.length=k→bA (rQ l) k=l
 |0,l,h=>(Pe h).symm
 |k+1,l,h=>by
  obtain⟨l',c,rfl,h'⟩:=G7 l k h;obtain⟨h1,h2⟩:=sW k l' h';have hc:(c.toNat:Int)≤255:=by have:=c.toNat_lt;omega
  rw[zy,Ee _ _ (by omega),show(rQ l'*256+(c.toNat:Int))/256=rQ l' by omega,Qz k l' h',show((rQ l'*256+(c.toNat:Int))%256).toNat=c.toNat by omega];simp
abbrev Rd:=List UInt8×Int
def jJ(s:Rd)(n:Int):List UInt8×Rd:=
 if s.2≠0 then([],s)else if (s.1.length:Int)<n then([],(s.1,10))else if n<1 then([],s)else(s.1.take n.toNat,(s.1.drop n.toNat,0))
def bB(s:Rd)(k:Nat):Int×Rd:=(rQ (jJ s k).1,(jJ s k).2)
def uw(s:Rd):Bool×Rd:=(decide ((bB s 1).1=1),if 1<(bB s 1).1 then((bB s 1).2.1,12)else(bB s 1).2)
def aP(s:Rd):List UInt8×Rd:=jJ (bB s 2).2 (bB s 2).1
def lJ(s:Rd):Nat:=if s.2≠0 then 0 else s.1.length
def qF(s:Rd):Int:=if s.2=0∧0<s.1.length then 11 else s.2
theorem G8{s:Rd}(h:s.2≠0)(n:Int):jJ s n=([],s):=by unfold jJ;rw[if_pos h]
theorem QA{s:Rd}{n:Int}(h0:0≤n)(h:(jJ s n).2.2=0):s.2=0∧s.1=(jJ s n).1++(jJ s n).2.1∧((jJ s n).1.length:Int)=n:=by
 by_cases h1:s.2≠0
 ·rw[G8 h1]at h;exact absurd h h1
 ·have h1:s.2=0:=Decidable.not_not.1 h1;unfold jJ at h⊢;rw[if_neg (by simp[h1])]at h⊢;by_cases h2:(s.1.length:Int)<n
  ·rw[if_pos h2]at h;cases h
  ·rw[if_neg h2]at h⊢;by_cases h3:n<1
   ·rw[if_pos h3];exact⟨h1,rfl,by simp;omega⟩
   ·rw[if_neg h3];refine⟨h1,(aaQ _ _).symm,?_⟩;simp only[List.length_take];omega
theorem rR(l r:List UInt8)(n:Int)(hn:n=l.length):jJ (l++r,0) n=(l,(r,0)):=by
 subst hn;unfold jJ;rw[if_neg (by simp),if_neg (by simp only[List.length_append];omega)];by_cases h:(l.length:Int)<1
 ·have:l=[]:=Pe (by omega);subst this;rw[if_pos (by simp)];rfl
 ·rw[if_neg h];simp
theorem kS{s:Rd}{k:Nat}(h:(bB s k).2.2=0):s.2=0∧s.1=bA (bB s k).1 k++(bB s k).2.1∧0≤(bB s k).1∧(bB s k).1<256^k:=by
 obtain⟨h1,h2,h3⟩:=QA (s:=s) (n:=k) (by omega) h;have h4:(jJ s k).1.length=k:=by omega
 refine⟨h1,?_,sW k _ h4⟩;unfold bB;rw[Qz k _ h4];exact h2
theorem eT(k:Nat)(n:Int)(r:List UInt8)(h0:0≤n)(h1:n<256^k):bB (bA n k++r,0) k=(n,(r,0)):=by
 unfold bB;rw[rR (bA n k) r k (by rw[ay]),I8 k n h0 h1]
theorem fQ(s:Rd)(k:Nat):0≤(bB s k).1∧(bB s k).1<256^k:=by
 by_cases h:(bB s k).2.2=0
 ·exact(kS h).2.2
 ·have hp:(0:Int)<256^k:=Int.pow_pos (by decide);have:(jJ s k).1=[]:=by
   unfold bB at h;unfold jJ at h⊢;split
   ·rfl
   ·rename_i h1;rw[if_neg h1]at h;split
    ·rfl
    ·rename_i h2;rw[if_neg h2]at h;split
     ·rfl
     ·rename_i h3;rw[if_neg h3]at h;exact absurd rfl h
  unfold bB;rw[this];exact⟨Int.le_refl _,hp⟩
theorem Vt{s:Rd}(h:(uw s).2.2=0):s.2=0∧s.1=uo (uw s).1++(uw s).2.1:=by
 unfold uw at h⊢;by_cases h1:1<(bB s 1).1
 ·rw[if_pos h1]at h;cases h
 ·rw[if_neg h1]at h⊢;obtain⟨e1,e2,e3,e4⟩:=kS h;refine⟨e1,?_⟩;unfold uo;by_cases h2:(bB s 1).1=1
  ·rw[h2]at e2;simp only[h2,decide_true,if_true];exact e2
  ·have h3:(bB s 1).1=0:=by omega
   rw[h3]at e2;simp only[h3];exact e2
theorem RZ(f:Bool)(r:List UInt8):uw (uo f++r,0)=(f,(r,0)):=by
 unfold uw uo;cases f
 ·rw[eT 1 _ r (by decide) (by decide)];rfl
 ·rw[eT 1 _ r (by decide) (by decide)];rfl
theorem rT{s:Rd}(h:(aP s).2.2=0):s.2=0∧s.1=oO (aP s).1++(aP s).2.1∧(aP s).1.length≤65535:=by
 have hr:=fQ s 2;unfold aP at h⊢;obtain⟨h1,h2,h3⟩:=QA hr.1 h;obtain⟨h4,h5,h6,h7⟩:=kS h1;refine⟨h4,?_,by have:(256:Int)^2=65536:=rfl;omega⟩;unfold oO;rw[h3,List.append_assoc,←h2];exact h5
theorem m_(l r:List UInt8)(h:l.length≤65535):aP (oO l++r,0)=(l,(r,0)):=by
 unfold aP oO;rw[List.append_assoc,eT 2 _ _ (by omega) (by have:(256:Int)^2=65536:=rfl;omega)];exact rR l r _ rfl
structure bg(D:Nat→Prop)(w:World)(x:Nat)(s:Rd):Prop where
 head:∃a c,w.heap[x]? =some (.cells #[.slice a s.1.length c,.int .i64 s.2] 296 (0,0))∧oI s.1.length c∧ah D w a s.1.length (s.1.map bv)
 apart:¬D x
 small:s.1.length≤100000000
 why:0≤s.2∧s.2≤100
 low:∀b,D b→b<w.heap.size
def KX(D:Nat→Prop)(w:World)(x:Nat)(bs:List UInt8)(s':Rd)(e:Ending)(w':World):Prop:=
 ∃a c,e= .returned (.slice a bs.length c)∧oI bs.length c∧ah (fun b=>w.heap.size≤b∧b<w'.heap.size) w' a bs.length (bs.map bv)∧bg D w' x s'∧Keeps (fun b=>b=x) w w'
def zD(D:Nat→Prop)(w:World)(x:Nat)(v:Value)(s':Rd)(e:Ending)(w':World):Prop:=
 e= .returned v∧bg D w' x s'∧Keeps (fun b=>b=x) w w'
section
variable{D:Nat→Prop}{x:Nat}{w w1 w2:World}{s s1 s2:Rd}
theorem bg.lt(h:bg D w x s):x<w.heap.size:=by
 obtain⟨a,c,h1,_⟩:=h.head;exact(uh.1 h1).1
theorem bg.kept(h:bg D w x s)(hs:w.heap.size≤w1.heap.size)(hx:w1.heap[x]? =w.heap[x]?)(hD:∀b,D b→b<w.heap.size→w1.heap[b]? =w.heap[b]?):bg D w1 x s:=by
 obtain⟨⟨a,c,h1,h2,h3⟩,h4,h5,h6,h7⟩:=h;exact⟨⟨a,c,hx.trans h1,h2,h3.kept hs hD⟩,h4,h5,h6,fun b hb=>Nat.lt_of_lt_of_le (h7 b hb) hs⟩
theorem bg.below{B:Nat}(h:bg D w x s)(hb:Below B w w1)(hB:w.heap.size≤B):bg D w1 x s:=
 h.kept hb.size (hb.block x (by have:=h.lt;omega)) fun b _ hb'=>hb.block b (by omega)
end
theorem Zo{w:World}{base:Nat}{e:TypeId}{a:Option Addr}{m c n:Nat}{xs:List Value}(h:w.ownsRow base e 1 (.slice a m c) n xs):oI n c:=by
 obtain⟨h0,h⟩:=h;rcases h with⟨h1,rfl⟩|⟨g,cap,cur,h1,_,_,h3,h4,_⟩
 ·simp only[aaJ]at h1;obtain⟨_,_,rfl⟩:=h1;exact⟨Nat.zero_le _,Nat.zero_le _⟩
 ·simp only[aaJ]at h1;obtain⟨_,_,rfl⟩:=h1;exact⟨h3,h4⟩
def QB(w:World)(bs:List UInt8)(e:Ending)(w':World):Prop:=
 ∃a c,e= .returned (.slice a bs.length c)∧oI bs.length c∧ah (fun x=>w.heap.size≤x∧x<w'.heap.size) w' a bs.length (bs.map bv)∧Below w.heap.size w w'
theorem Ef{S:Nat→Prop}(a:Option Addr)(n cap:Nat)(bs:List UInt8)(w:World)(hm:n≤1000000000)(hr:ah S w a n (bs.map bv)):
  Calls Tryz.prog 75 #[.slice a n cap] w (QB w bs):=by
 obtain⟨i0,hi,hz0,hz1,hz2⟩:=aay Tryz.uP;have hll:bs.length=n:=by have:=hr.length;simpa using this
 have heq:=fun w=>Lib.run_eql_slice_nil (P:=Tryz.prog) w 32 5 a n cap 0 0 Tryz.underlying32;have HR:=ab9 hr;have HL:=ab9 hll;clear hr hll;cases a with
 |none=>
  have h0:n=0:=by
   rcases aaF n with h0|h0
   ·exact h0
   ·obtain⟨_,_,e,_⟩:=HR.o.at_ h0;cases e
  subst h0;have hb0:bs=[]:=Pe HL.o;subst hb0;go_enter abC,abu;go_wp2;go_ret;exact⟨none,0,rfl,⟨Nat.le_refl _,Nat.zero_le _⟩,ah.nil _ _ _,Below.refl _ _⟩
 |some ad=>
  have hsz:(w.alloc (.cells #[] 5)).heap.size=w.heap.size+1:=by simp
  have HS:=ab9 (HR.o.below (wall w (.cells #[] 5)) ace);go_enter abC,abu;go_wp2_with ((at_builtin;refine bV (by rfl) _ _ 32 (by rfl) w.heap.size 5 i0 (.int .u8 0) 1 Tryz.underlying32 hi hz0 hz1 hz2 rfl _ 0 [] (by rfl) ⟨rfl,.inr ⟨w.heap.size,0,#[],rfl,Nat.le_refl _,(MapKept.heap_alloc w _).1,Nat.le_refl _,Nat.zero_le _,rfl,rfl⟩⟩ (some ad) n cap (bs.map bv) (by rfl) HS.o (iU bs) (by unfold maxLen;omega) (by omega) (by simp) ?_;intro A' c' w2 hown2 hgrow2 _ _));go_ret;have hB2:Below w.heap.size w w2:=(wall w _).grown hgrow2 (by simp) (fun k hk=>by cases hk;exact Nat.le_refl _);have hcap:=Zo hown2;have hro:=(ah.mU hown2).2;rw[List.nil_append]at hro;simp only[Nat.zero_add]at hro hcap;have hl:=HL.o;subst hl;exact⟨_,c',by simp only[Nat.zero_add];rfl,hcap,hro,hB2⟩
section
variable{D:Nat→Prop}{x:Nat}{w:World}{s:Rd}
theorem nI{S:Nat→Prop}(a:Option Addr)(n c:Nat)(bs:List UInt8)(w:World)(hm:n≤100000000)(hr:ah S w a n (bs.map bv)):
  Calls Tryz.prog 146 #[.slice a n c] w fun e w'=>∃x,e= .returned (ptr x)∧w.heap.size≤x∧bg (fun b=>w.heap.size≤b∧b<x) w' x (bs,0)∧Below w.heap.size w w':=by
 have hl:bs.length=n:=by simpa using hr.length
 have HC:=ab9 (Ef a n c bs w (by omega) hr);have hl2:bs.length≤100000000:=by omega
 clear hr hl;go_enter Tryz.func146,Tryz.ntmps146;go_wp2_with fail;refine HC.o.mono ?_;rintro e w1 ⟨a1,c1,rfl,hc1,hr1,hb1⟩;have HR1:=ab9 hr1;have HB1:=ab9 hb1;have CB:=ab9 hc1;clear hr1 hb1 hc1 HC;go_wp2_with fail;go_ret;refine⟨_,rfl,HB1.o.size,⟨⟨a1,c1,(MapKept.heap_alloc w1 _).1,CB.o,?_⟩,fun h=>by omega,hl2,by simp,fun b hb=>by rw[Pd];omega⟩,HB1.o.trans ((wall w1 _).mono HB1.o.size)⟩;exact HR1.o.move (wall w1 _).size fun b hb hbw=>⟨hb,(wall w1 _).block b hbw⟩
theorem row0{D:Nat→Prop}{w w':World}{x:Nat}{s':Rd}(h:bg D w' x s')(hk:Keeps (fun b=>b=x) w w'):KX D w x [] s' (.returned (.slice none 0 0)) w':=
 ⟨none,0,rfl,⟨Nat.le_refl _,Nat.zero_le _⟩,ah.nil _ _ _,h,hk⟩
theorem I9(h:bg D w x s)(n:Int)(hn0:0≤n)(hn1:n≤9223372036854775807):Calls Tryz.prog 149 #[ptr x,.int .i64 n] w (KX D w x (jJ s n).1 (jJ s n).2):=by
 obtain⟨l,y⟩:=s;obtain⟨a,c,h1,h2,h3⟩:=h.head;have c0:w.cell? ⟨x,0,none⟩=some (.slice a l.length c):=by simp[World.cell?,h1]
 have c1:w.cell? ⟨x,1,none⟩=some (.int .i64 y):=by simp[World.cell?,h1]
 have f0:w.frozen? ⟨x,0,none⟩=false:=by simp[World.frozen?,h1]
 have f1:w.frozen? ⟨x,1,none⟩=false:=by simp[World.frozen?,h1]
 have hxw:=h.lt;have hyy:=h.why;have hls:l.length≤100000000:=h.small;dsimp only at hyy;by_cases hy:y=0
 ·subst hy;by_cases hlt:(l.length:Int)<n
  ·have e1:jJ (l,0) n=([],(l,10)):=by unfold jJ;rw[if_neg (by simp),if_pos hlt]
   rw[e1];have HE:acd (bg D (w.setCell ⟨x,1,none⟩ (.int .i64 10)) x (l,10)):=by
    refine⟨⟨a,c,?_,h2,?_⟩,h.apart,h.small,by simp,fun b hb=>by rw[size_set];exact h.low b hb⟩
    ·rw[aK h1];rfl
    ·exact h3.kept (by rw[size_set];exact Nat.le_refl _) fun b hb _=>aL w _ _ _ (fun(e:b=x)=>h.apart (e▸hb))
   clear h h1 h2 h3 e1 hyy;go_enter Tryz.func149,Tryz.ntmps149;go_wp2
   all_goals (first|(go_ret;exact row0 HE.o (Keeps.kX w ⟨x,1,none⟩ _))|((try simp only[Exit.inBlock,Exit.then]);refine aap (by rfl) rfl ?_;exact row0 HE.o (Keeps.kX w ⟨x,1,none⟩ _)))
  ·have hge:¬((l.length:Int)<n):=hlt;have hgb:decide ((l.length:Int)<n)=false:=by simpa using hlt
   by_cases h0:n<1
   ·have e1:jJ (l,0) n=([],(l,0)):=by unfold jJ;rw[if_neg (by simp),if_neg hlt,if_pos h0]
    rw[e1];have HE:=ab9 h;clear h h1 h2 h3 e1 hyy hlt;go_enter Tryz.func149,Tryz.ntmps149;go_wp2
    all_goals (first|(go_ret;exact row0 HE.o (Keeps.refl _ _))|((try simp only[Exit.inBlock,Exit.then]);refine aap (by rfl) rfl ?_;exact row0 HE.o (Keeps.refl _ _)))
   ·obtain⟨k,rfl⟩:∃k:Nat,n=(k:Int):=⟨n.toNat,by omega⟩;have e1:jJ (l,0) (k:Int)=(l.take k,(l.drop k,0)):=by unfold jJ;rw[if_neg (by simp),if_neg hlt,if_neg h0];rfl
    rw[e1];have hk1:1≤k:=by omega
    have hkl:k≤l.length:=by omega
    obtain⟨L,hL⟩:∃L,L=l.length:=⟨_,rfl⟩;rw[←hL]at c0 h1 h2 h3 hlt hge hgb hkl hls;obtain⟨b,off,rfl,uX,hbw,-⟩:=h3.at_ (by omega);have hLc:=h2.1;have hcm:=h2.2;unfold maxLen at hcm;have hbx:b≠x:=fun e=>h.apart (e▸uX);have htk:ah D w (some ⟨b,off,none⟩) k ((l.take k).map bv):=by
     have:=h3.take k;rw[aaO]
     rwa [aa4 hkl]at this
    have zF:=ab9 (Ef (some ⟨b,off,none⟩) k c (l.take k) w (by omega) htk);have Zp:acd ((l.take k).length=k):=by show _=_;rw[List.length_take];omega
    have NI:acd ((l.drop k).length=L-k):=by show _=_;rw[List.length_drop,hL]
    have CF:∀(w1:World) (A:Option Addr) (C:Nat),QB w (l.take k) (.returned (.slice A k C)) w1→∀(R:Option Addr) (rc:Nat),oI (L-k) rc→(0<L-k→R=some ⟨b,off+k,none⟩)→
      KX D w x (l.take k) (l.drop k,0) (.returned (.slice A k C)) (w1.setCell ⟨x,0,none⟩ (.slice R (L-k) rc)):=by
     intro w1 A C hret R rc hrc hR;obtain⟨a1,cc,he,hc1,hr1,hb1⟩:=hret;rw[Zp.o]at he hc1 hr1;cases he;have hx1:=(hb1.block x hxw).trans h1;refine⟨A,C,by rw[Zp.o],by rw[Zp.o];exact hc1,?_,⟨⟨R,rc,?_,?_,?_⟩,h.apart,?_,by simp,fun z hz=>by rw[size_set];exact Nat.lt_of_lt_of_le (h.low z hz) hb1.size⟩,?_⟩
     ·rw[Zp.o];refine hr1.move (by rw[size_set];exact Nat.le_refl _) fun z hz hzw=>⟨⟨hz.1,by rw[size_set];exact hz.2⟩,aL w1 _ _ _ (fun e=> ?_)⟩;have e':z=x:=e;omega
     ·rw[aK hx1];simp only[NI.o];rfl
     ·rw[NI.o];exact hrc
     ·simp only[NI.o];have hdr:ah D w1 (some ⟨b,off+k,none⟩) (L-k) ((l.drop k).map bv):=by
       have:=(h3.drop k).below hb1 ace
       rwa [←aaR]at this
      have hdr2:ah D w1 R (L-k) ((l.drop k).map bv):=by
       by_cases hz:0<L-k
       ·rw[hR hz];exact hdr
       ·exact ah.zero R _ _ (by omega) (by rw[Pe (l:=l.drop k) (by rw[NI.o];omega)];rfl)
      exact hdr2.kept (by rw[size_set];exact Nat.le_refl _) fun z hz _=>aL w1 _ _ _ (fun(e:z=x)=>h.apart (e▸hz))
     ·show(l.drop k).length≤_;rw[NI.o];omega
     ·exact((Keeps.below hb1).mono (fp':=fun z=>z=x) fun z hz hz'=>by omega).trans (Keeps.kX w1 ⟨x,0,none⟩ _) fun z _ hz=>hz
    have HENDH:=ab9 CF;clear CF h h1 h2 h3 e1 hyy hlt htk hL h0;have b1:(1:Int)≤(k:Int):=by omega
    have b0:(0:Int)≤(k:Int):=by omega
    have b2:(k:Int)≤(c:Int):=by omega
    have b3:(k:Int)≤(L:Int):=by omega
    have d1:decide ((k:Int)<1)=false:=by simp;omega
    by_cases hcap:c=k
    ·obtain rfl:k=c:=hcap.symm;go_enter Tryz.func149,Tryz.ntmps149;go_wp2_with fail;refine zF.o.mono ?_;rintro e w1 hret;obtain⟨A,C,rfl⟩:∃A C,e= .returned (.slice A k C):=by
      obtain⟨A,C,he,-⟩:=hret;exact⟨A,C,by rw[he,Zp.o]⟩
     have HRET:=ab9 hret;have hb1:Below w.heap.size w w1:=by
      obtain⟨_,_,_,_,_,hb⟩:=hret;exact hb
     have q0:w1.cell? ⟨x,0,none⟩=some (.slice (some ⟨b,off,none⟩) L k):=(hb1.cell (p:=⟨x,0,none⟩) hxw).trans c0;have g0:w1.frozen? ⟨x,0,none⟩=false:=(hb1.frozen (p:=⟨x,0,none⟩) hxw).trans f0;clear hret hb1 zF;go_wp2_with fail;go_ret;have hfin:=HENDH.o w1 A C HRET.o (some ⟨b,off,none⟩) 0 ⟨by omega,Nat.zero_le _⟩ (fun hz=>by omega);rw[show L-k=0 by omega]at hfin;exact hfin
    ·go_enter Tryz.func149,Tryz.ntmps149;go_wp2_with fail;refine zF.o.mono ?_;rintro e w1 hret;obtain⟨A,C,rfl⟩:∃A C,e= .returned (.slice A k C):=by
      obtain⟨A,C,he,-⟩:=hret;exact⟨A,C,by rw[he,Zp.o]⟩
     have HRET:=ab9 hret;have hb1:Below w.heap.size w w1:=by
      obtain⟨_,_,_,_,_,hb⟩:=hret;exact hb
     have q0:w1.cell? ⟨x,0,none⟩=some (.slice (some ⟨b,off,none⟩) L c):=(hb1.cell (p:=⟨x,0,none⟩) hxw).trans c0;have g0:w1.frozen? ⟨x,0,none⟩=false:=(hb1.frozen (p:=⟨x,0,none⟩) hxw).trans f0;clear hret hb1 zF;go_wp2_with fail;go_ret;exact HENDH.o w1 A C HRET.o _ _ ⟨by omega,by unfold maxLen;omega⟩ (fun hz=>by first|rfl|omega)
 ·have e1:jJ (l,y) n=([],(l,y)):=G8 (s:=(l,y)) hy n;rw[e1];have d1:(y==0)=false:=by simpa using hy
  have d2:(y !=0)=true:=by simpa using hy
  have HE:=ab9 h;clear h h1 h2 h3 e1 hy;go_enter Tryz.func149,Tryz.ntmps149;go_wp2
  all_goals (first|(go_ret;exact row0 HE.o (Keeps.refl _ _))|((try simp only[Exit.inBlock,Exit.then]);refine aap (by rfl) rfl ?_;exact row0 HE.o (Keeps.refl _ _)))
theorem u64_or(n c:Int)(h0:0≤n)(h1:n<72057594037927936)(c0:0≤c)(c1:c<256):bits .or .u64 (n*256) c=n*256+c:=by
 obtain⟨a,rfl⟩:=Int.eq_ofNat_of_zero_le h0;obtain⟨b,rfl⟩:=Int.eq_ofNat_of_zero_le c0;have h:=bits_or_u64_nat (a*256) b (by omega) (by omega);rw[show((a:Int)*256)=((a*256:Nat):Int)by omega,h,nat_join8 _ _ (by omega) (by omega)];omega
theorem QC(s:Rd)(k:Nat):(jJ s k).1.length≤k:=by
 unfold jJ;split
 ·simp
 ·split
  ·simp
  ·split
   ·simp
   ·simp only[List.length_take];omega
theorem NJ{l:List UInt8}(h:l.length≤8)(j:Nat)(hj:j<l.length):0≤rQ (l.take j)∧rQ (l.take j)<72057594037927936:=by
 obtain⟨h1,h2⟩:=sW j (l.take j) (by rw[List.length_take];omega);refine⟨h1,Int.lt_of_lt_of_le h2 ?_⟩;have h3:j≤7:=by omega
 have:j=0∨j=1∨j=2∨j=3∨j=4∨j=5∨j=6∨j=7:=by omega
 rcases this with h|h|h|h|h|h|h|h<;>subst h<;>decide
theorem NK(h:bg D w x s)(k:Nat)(hk:k≤8):Calls Tryz.prog 203 #[ptr x,.int .i64 k] w (zD D w x (.int .u64 (bB s k).1) (bB s k).2):=by
 have HR:=ab9 (I9 h (k:Int) (by omega) (by omega));have hlen:=QC s k;unfold bB;obtain⟨bs,hbs⟩:∃bs,bs=(jJ s k).1:=⟨_,rfl⟩;obtain⟨s',hs'⟩:∃s',s'=(jJ s k).2:=⟨_,rfl⟩;rw[←hbs,←hs']at HR;rw[←hbs]at hlen;rw[←hbs,←hs'];have I_:bs.length≤8:=by omega
 clear h hbs hs' hlen;go_enter Tryz.func203,Tryz.ntmps203;go_wp2_with fail;refine HR.o.mono ?_;rintro e w1 ⟨a,c,rfl,hc1,hr1,kR,hK1⟩;have HRW:=ab9 hr1;have CF:acd (bg D w1 x s'∧Keeps (fun b=>b=x) w w1):=⟨kR,hK1⟩;obtain⟨L,hL⟩:∃L,L=bs.length:=⟨_,rfl⟩;have J7:=ab9 hL;rw[←hL]at I_ HRW;rw[←hL];clear hc1 hr1 kR hK1 HR hL;go_wp2_with fail
 go_loop [5,12] (fun n i=>∃j:Nat,j≤L∧i= .int .i64 j∧n= .int .u64 (rQ (bs.take j))) (fun _ i=>L-(intOf i).toNat)
 case atStart=>exact⟨0,Nat.zero_le _,rfl,rfl⟩
 case round=>
  obtain⟨j,hj,rfl,rfl⟩:=hrel;by_cases hlt:j<L
  ·obtain⟨b,off,rfl,_,hbw,hcc⟩:=HRW.o.at_ (by omega);have hll:=J7.o;obtain⟨v0,v1⟩:=NJ (l:=bs) (by omega) j (by omega);have hget:bs[j]? =some (bs[j]'(by omega)):=List.getElem?_eq_getElem (by omega);have htk:bs.take (j+1)=bs.take j++[bs[j]'(by omega)]:=aai (by omega);obtain⟨cb,hcb⟩:∃cb,cb=bs[j]'(by omega):=⟨_,rfl⟩;rw[←hcb]at hget htk;have q:=hcc j hlt;rw[List.getElem?_map,hget]at q;have q1:w1.cell? ⟨b,off+j,none⟩=some (.int .u8 (cb.toNat:Int)):=q;have HV:acd (rQ (bs.take (j+1))=rQ (bs.take j)*256+(cb.toNat:Int)):=by
    show _=_;rw[htk,zy]
   have hc2:(cb.toNat:Int)<256:=by have:=cb.toNat_lt;omega
   obtain⟨v,hv⟩:∃v,v=rQ (bs.take j):=⟨_,rfl⟩;rw[←hv]at v0 v1 HV⊢;have HO:acd (bits .or .u64 (v*256) (cb.toNat:Int)=v*256+(cb.toNat:Int)):=u64_or v _ v0 v1 (by omega) hc2;clear hll hget htk hcb q hcc hv;go_wp2
   go_round
   case rel=>exact⟨j+1,by omega,by go_num,by rw[HV.o,←HO.o]⟩
   case measure=>simp[intOf];omega
  ·obtain rfl:j=L:=by omega
   have hall:bs.take j=bs:=by rw[List.take_of_length_le (by have:=J7.o;omega)]
   rw[hall];clear hall;go_wp2;go_ret;exact⟨rfl,CF.o⟩
theorem nV(h:bg D w x s):Calls Tryz.prog 147 #[ptr x] w (zD D w x (.int .i64 (bB s 2).1) (bB s 2).2):=by
 have HG:acd (Calls Tryz.prog 203 #[ptr x,.int .i64 2] w (zD D w x (.int .u64 (bB s 2).1) (bB s 2).2)):=NK h 2 (by omega);obtain⟨n0,n1⟩:=fQ s 2;have e1:IntKind.i64.wrap (bB s 2).1=(bB s 2).1:=aah _ (by have:(256:Int)^2=65536:=rfl;omega);generalize (bB s 2).1=v at*;generalize (bB s 2).2=s' at*;clear h n1;go_enter Tryz.func147,Tryz.ntmps147;go_wp2_with fail;refine HG.o.mono ?_;rintro e w1 ⟨rfl,kR⟩;have HR1:=ab9 kR;clear kR;go_wp2_with fail;go_ret;exact⟨rfl,HR1.o⟩
theorem C8(h:bg D w x s):Calls Tryz.prog 212 #[ptr x] w (zD D w x (.int .i64 (bB s 1).1) (bB s 1).2):=by
 have HG:acd (Calls Tryz.prog 203 #[ptr x,.int .i64 1] w (zD D w x (.int .u64 (bB s 1).1) (bB s 1).2)):=NK h 1 (by omega);obtain⟨n0,n1⟩:=fQ s 1;have e1:IntKind.i64.wrap (bB s 1).1=(bB s 1).1:=aah _ (by have:(256:Int)^1=256:=rfl;omega);generalize (bB s 1).1=v at*;generalize (bB s 1).2=s' at*;clear h n1;go_enter Tryz.func212,Tryz.ntmps212;go_wp2_with fail;refine HG.o.mono ?_;rintro e w1 ⟨rfl,kR⟩;have HR1:=ab9 kR;clear kR;go_wp2_with fail;go_ret;exact⟨rfl,HR1.o⟩
theorem Ja(h:bg D w x s):Calls Tryz.prog 148 #[ptr x] w (zD D w x (.int .u64 (bB s 8).1) (bB s 8).2):=by
 have HG:acd (Calls Tryz.prog 203 #[ptr x,.int .i64 8] w (zD D w x (.int .u64 (bB s 8).1) (bB s 8).2)):=NK h 8 (by omega);generalize (bB s 8).1=v at*;generalize (bB s 8).2=s' at*;clear h;go_enter Tryz.func148,Tryz.ntmps148;go_wp2_with fail;refine HG.o.mono ?_;rintro e w1 ⟨rfl,kR⟩;have HR1:=ab9 kR;clear kR;go_wp2_with fail;go_ret;exact⟨rfl,HR1.o⟩
theorem vw(h:bg D w x s):Calls Tryz.prog 213 #[ptr x] w (KX D w x (aP s).1 (aP s).2):=by
 have HS:=ab9 (nV h);obtain⟨n0,n1⟩:=fQ s 2;have n2:(bB s 2).1≤9223372036854775807:=by have:(256:Int)^2=65536:=rfl;omega
 unfold aP;generalize (bB s 2).1=v at*;generalize (bB s 2).2=s1 at*;clear h n1;go_enter Tryz.func213,Tryz.ntmps213;go_wp2_with fail;refine HS.o.mono ?_;rintro e w1 ⟨rfl,kR,hK1⟩;have HR:=ab9 (I9 kR v n0 n2);have HK:=ab9 hK1;clear kR hK1;go_wp2_with fail;refine HR.o.mono ?_;rintro e w2 ⟨a,c,rfl,hc2,hr2,hR2,hK2⟩;have HR2:acd (oI (jJ s1 v).1.length c∧ah (fun b=>w1.heap.size≤b∧b<w2.heap.size) w2 a (jJ s1 v).1.length ((jJ s1 v).1.map bv)∧bg D w2 x (jJ s1 v).2∧Keeps (fun b=>b=x) w1 w2):=⟨hc2,hr2,hR2,hK2⟩;clear hc2 hr2 hR2 hK2;go_wp2_with fail;go_ret;obtain⟨g1,g2,g3,g4⟩:=HR2.o;exact⟨a,c,rfl,g1,g2.mono fun b hb=>⟨Nat.le_trans HK.o.size hb.1,hb.2⟩,g3,HK.o.trans g4 fun b _ hb=>hb⟩
theorem Jb(h:bg D w x s):Calls Tryz.prog 240 #[ptr x] w fun e w'=>e= .returned (.int .i64 (lJ s:Int))∧w=w':=by
 obtain⟨l,y⟩:=s;obtain⟨a,c,h1,h2,h3⟩:=h.head;have c0:w.cell? ⟨x,0,none⟩=some (.slice a l.length c):=by simp[World.cell?,h1]
 have c1:w.cell? ⟨x,1,none⟩=some (.int .i64 y):=by simp[World.cell?,h1]
 by_cases hy:y=0
 ·subst hy;have e1:lJ (l,0)=l.length:=by unfold lJ;rw[if_neg (by simp)]
  rw[e1];clear h h1 h2 h3 e1;go_enter Tryz.func240,Tryz.ntmps240;go_wp2;go_ret;exact⟨rfl,rfl⟩
 ·have e1:lJ (l,y)=0:=by unfold lJ;rw[if_pos hy]
  rw[e1];have d1:(y !=0)=true:=by simpa using hy
  clear h h1 h2 h3 e1 hy;go_enter Tryz.func240,Tryz.ntmps240;go_wp2;go_ret;exact⟨rfl,rfl⟩
theorem Jc(h:bg D w x s):Calls Tryz.prog 214 #[ptr x] w fun e w'=>e= .returned (.int .i64 (qF s))∧w=w':=by
 obtain⟨l,y⟩:=s;obtain⟨a,c,h1,h2,h3⟩:=h.head;have c0:w.cell? ⟨x,0,none⟩=some (.slice a l.length c):=by simp[World.cell?,h1]
 have c1:w.cell? ⟨x,1,none⟩=some (.int .i64 y):=by simp[World.cell?,h1]
 by_cases hy:y=0
 ·subst hy;by_cases hl:0<l.length
  ·have e1:qF (l,0)=11:=by unfold qF;rw[if_pos ⟨rfl,hl⟩]
   rw[e1];have d1:decide ((0:Int)<(l.length:Int))=true:=by simp;omega
   clear h h1 h2 h3 e1;go_enter Tryz.func214,Tryz.ntmps214;go_wp2;go_ret;exact⟨rfl,rfl⟩
  ·obtain rfl:l=[]:=Pe (by omega);have e1:qF ([],0)=0:=rfl;rw[e1];clear h h1 h2 h3 e1;go_enter Tryz.func214,Tryz.ntmps214;go_wp2;go_ret;exact⟨rfl,rfl⟩
 ·have e1:qF (l,y)=y:=by unfold qF;rw[if_neg (fun hh=>hy hh.1)]
  rw[e1];have d1:(y==0)=false:=by simpa using hy
  clear h h1 h2 h3 e1 hy;go_enter Tryz.func214,Tryz.ntmps214;go_wp2;go_ret;exact⟨rfl,rfl⟩
theorem Zq(h:bg D w x s):Calls Tryz.prog 305 #[ptr x] w (zD D w x (.bool (uw s).1) (uw s).2):=by
 have HB:=ab9 (C8 h);obtain⟨n0,n1⟩:=fQ s 1;unfold uw;generalize (bB s 1).1=v at*;generalize (bB s 1).2=s1 at*;clear h n1;by_cases h1:1<v
 ·rw[if_pos h1];have e1:decide (v=1)=false:=by simp;omega
  have e2:(v==1)=false:=by simp;omega
  rw[e1];clear e1;go_enter Tryz.func305,Tryz.ntmps305;go_wp2_with fail;refine HB.o.mono ?_;rintro e w1 ⟨rfl,kR,hK1⟩;obtain⟨l,y⟩:=s1;obtain⟨a,c,q1,q2,q3⟩:=kR.head;have f1:w1.frozen? ⟨x,1,none⟩=false:=by simp[World.frozen?,q1]
  have c1:w1.cell? ⟨x,1,none⟩=some (.int .i64 y):=by simp[World.cell?,q1]
  have HE:acd (bg D (w1.setCell ⟨x,1,none⟩ (.int .i64 12)) x (l,12)):=by
   refine⟨⟨a,c,?_,q2,?_⟩,kR.apart,kR.small,by simp,fun b hb=>by rw[size_set];exact kR.low b hb⟩
   ·rw[aK q1];rfl
   ·exact q3.kept (by rw[size_set];exact Nat.le_refl _) fun b hb _=>aL w1 _ _ _ (fun(e:b=x)=>kR.apart (e▸hb))
  have HK:=ab9 hK1;clear kR hK1 q1 q2 q3 HB;go_wp2_with fail;go_ret;exact⟨rfl,HE.o,HK.o.trans (Keeps.kX w1 ⟨x,1,none⟩ _) fun b _ hb=>hb⟩
 ·rw[if_neg h1];have e0:decide (v=1)=(v==1):=by by_cases hv:v=1<;>simp[hv]
  rw[e0];clear e0;go_enter Tryz.func305,Tryz.ntmps305;go_wp2_with fail;refine HB.o.mono ?_;rintro e w1 ⟨rfl,kR,hK1⟩;have HE:acd (bg D w1 x s1∧Keeps (fun b=>b=x) w w1):=⟨kR,hK1⟩;clear kR hK1 HB;go_wp2_with fail;go_ret;exact⟨rfl,HE.o⟩
end
structure MR(w0 w:World)(x:Nat)(s:List UInt8):Prop where
 new:w0.heap.size≤x
 at_:bg (fun b=>w0.heap.size≤b∧b<x) w x (s,0)
 below:Below w0.heap.size w0 w
theorem Eh{w0 w w':World}{x:Nat}(hb:Below w0.heap.size w0 w)(hx:w0.heap.size≤x)(hk:Keeps (fun b=>b=x) w w'):Below w0.heap.size w0 w':=hb.trans (hk.bQ hb.size fun y hy (e:y=x)=>by omega)
theorem MR.grow{w0 w w':World}{x:Nat}{s:List UInt8}(h:MR w0 w x s)(hb:Below w.heap.size w w'):MR w0 w' x s:=
 ⟨h.new,h.at_.kept hb.size (hb.block x h.at_.lt) fun b hb' hbw=>hb.block b hbw,h.below.trans (hb.mono h.below.size)⟩
def QD(w0 w:World)(x:Nat)(v:Value)(r:List UInt8)(e:Ending)(w':World):Prop:=e= .returned v∧MR w0 w' x r∧Keeps (fun b=>b=x) w w'
def vG(w0 w:World)(x:Nat)(l r:List UInt8)(e:Ending)(w':World):Prop:=
 ∃a c,e= .returned (.slice a l.length c)∧oI l.length c∧ah (fun b=>w.heap.size≤b∧b<w'.heap.size) w' a l.length (l.map bv)∧MR w0 w' x r∧Keeps (fun b=>b=x) w w'
section
variable{w0 w:World}{x:Nat}{s r l:List UInt8}
theorem Jd{S:Nat→Prop}(w0 w:World)(h0:Below w0.heap.size w0 w)(a:Option Addr)(n c:Nat)(bs:List UInt8)(hm:n≤100000000)(hr:ah S w a n (bs.map bv)):Calls Tryz.prog 146 #[.slice a n c] w fun e w'=>∃x,e= .returned (ptr x)∧w.heap.size≤x∧MR w0 w' x bs∧Below w.heap.size w w':=by
 refine(nI a n c bs w hm hr).mono ?_;rintro e w' ⟨x,rfl,hx,hR,hb⟩;have hs:=h0.size;exact⟨x,rfl,hx,⟨by omega,⟨hR.head.imp fun a h=>h.imp fun c h=>⟨h.1,h.2.1,h.2.2.mono fun b hb=>⟨by omega,hb.2⟩⟩,fun h=>by have:=h.2;omega,hR.small,hR.why,fun b hb=>by have:=hR.lt;have:=hb.2;omega⟩,h0.trans (hb.mono hs)⟩,hb⟩
theorem MR.val(h:MR w0 w x s){v:Value}{e:Ending}{w':World}(hv:zD (fun b=>w0.heap.size≤b∧b<x) w x v (r,0) e w'):QD w0 w x v r e w':=⟨hv.1,⟨h.new,hv.2.1,Eh h.below h.new hv.2.2⟩,hv.2.2⟩
theorem Zr(h:MR w0 w x s)(n:Int)(hs:s=bA n 1++r)(h0:0≤n)(h1:n<256):Calls Tryz.prog 212 #[ptr x] w (QD w0 w x (.int .i64 n) r):=by
 refine(C8 h.at_).mono fun e w' hv=> ?_;rw[hs,eT 1 n r h0 h1]at hv;exact h.val hv
theorem nW(h:MR w0 w x s)(n:Int)(hs:s=bA n 2++r)(h0:0≤n)(h1:n<65536):Calls Tryz.prog 147 #[ptr x] w (QD w0 w x (.int .i64 n) r):=by
 refine(nV h.at_).mono fun e w' hv=> ?_;rw[hs,eT 2 n r h0 h1]at hv;exact h.val hv
theorem zG(h:MR w0 w x s)(n:Int)(hs:s=bA n 8++r)(h0:0≤n)(h1:n<18446744073709551616):Calls Tryz.prog 148 #[ptr x] w (QD w0 w x (.int .u64 n) r):=by
 refine(Ja h.at_).mono fun e w' hv=> ?_;rw[hs,eT 8 n r h0 h1]at hv;exact h.val hv
theorem MR.row(h:MR w0 w x s){e:Ending}{w':World}(hv:KX (fun b=>w0.heap.size≤b∧b<x) w x l (r,0) e w'):vG w0 w x l r e w':=by
 obtain⟨a,c,h1,h2,h3,h4,h5⟩:=hv;exact⟨a,c,h1,h2,h3,⟨h.new,h4,Eh h.below h.new h5⟩,h5⟩
theorem Vu(h:MR w0 w x s)(hs:s=oO l++r)(hl:l.length≤65535):Calls Tryz.prog 213 #[ptr x] w (vG w0 w x l r):=by
 refine(vw h.at_).mono fun e w' hv=> ?_;rw[hs,m_ l r hl]at hv;exact h.row hv
theorem vH(h:MR w0 w x s)(n:Nat)(hs:s=l++r)(hn:n=l.length)(hl:l.length≤100000000):Calls Tryz.prog 149 #[ptr x,.int .i64 n] w (vG w0 w x l r):=by
 refine(I9 h.at_ (n:Int) (by omega) (by omega)).mono fun e w' hv=> ?_;rw[hs,rR l r n (by rw[hn])]at hv;exact h.row hv
theorem Zt(h:MR w0 w x s):Calls Tryz.prog 240 #[ptr x] w fun e w'=>e= .returned (.int .i64 (s.length:Int))∧w=w':=by
 have h1:=Jb h.at_
 rwa [show lJ (s,0)=s.length by unfold lJ;rw[if_neg (by simp)]]at h1
end
def mE(w:World)(g:Nat)(cs:Array Value)(t:TypeId)(w':World):Prop:=w'.heap[g]? =some (.cells cs t (0,0))∧Keeps (fun b=>b=g) w w'∧w'.heap.size=w.heap.size
theorem xZ(w:World)(g:Nat)(old cs:Array Value)(t:TypeId)(hg:w.heap[g]? =some (.cells old t (0,0))):mE w g cs t (w.setRow g cs):=by
 have hz:(w.setRow g cs).heap.size=w.heap.size:=by simp[World.setRow]
 exact⟨setRow_heap w g old cs t _ hg,⟨rfl,rfl,rfl,by omega,fun b _ hb=>setRow_other w g b cs hb⟩,hz⟩
theorem au{P:Program}{ops:Array Oper}{rest:List Oper}{o:Oper}{a:Act}{w:World}{Q:Exit→Act→World→Prop}(hgd:o.guard=none)(ty:TypeId)(x y:Operand)(ho:o.op= .store ty x y)
  (g:Nat)(cells:Array Value)(hx:a.eval x= .pointer (some ⟨g,0,none⟩))(hy:a.eval y= .agg cells)
  (old:Array Value)(hg:w.heap[g]? =some (.cells old ty (0,0)))(hi:(P.info? ty).map (·.size)=some cells.size)
  (hold:old.size=cells.size)(h1:cells.all (·.oneCell')=true)
  (h:∀w',mE w g cells ty w'→wpList P ops Q rest (a.put o.dst undef) w'):wpList P ops Q (o::rest) a w:=
 wpList_store_row hgd ty x y ho g cells hx hy ty old hg hi hold h1 (h _ (xZ w g old cells ty hg))
theorem mE.below{w0 w w':World}{g:Nat}{cs:Array Value}{t:TypeId}(h:mE w g cs t w')(hb:Below w0.heap.size w0 w)(hg:w0.heap.size≤g):Below w0.heap.size w0 w':=by
 obtain⟨_,h2,h3⟩:=h;exact⟨h2.os.trans hb.os,h2.tape.trans hb.tape,h2.output.trans hb.output,Nat.le_trans hb.size h2.size,fun b hb'=>(h2.block b (Nat.lt_of_lt_of_le hb' hb.size) (fun e:b=g=>by omega)).trans (hb.block b hb')⟩
theorem jB{P:Program}{fn:Func}{a b:Nat}{t:TypeId}{tmps:Array Value}{ad:Addr}{v:Value}{w:World}(h:fn.results= #[.cell a t,.tmp b])(ha:tmps.getD a undef= .pointer (some ad))(hl:(loadVar t ad).run P w= .ok v w):(results fn tmps).run P w= .ok (.tuple #[v,tmps.getD b undef]) w:=by
 have ha2:tmps[a]?.getD undef= .pointer (some ad):=by simpa using ha
 simp[results,h,asAddr,ha2,hl]
theorem qb:(Tryz.prog.info? 35).map (·.size)=some 6:=by kernel_rfl
def jO:Array Value:= #[.int .i64 0,.int .i64 0,.int .i64 0,.int .i64 0,.int .u64 0,.bool false]
theorem rU{fn:Func}{sl b':Nat}{Q:Ending→World→Prop}{a:Act}{w:World}{b:Nat}{cs:Array Value}{z:Value}(hf:fn.results= #[.cell sl 35,.tmp b'])(hs:a.tmps.getD sl undef= .pointer (some ⟨b,0,none⟩))(hz:a.tmps.getD b' undef=z)(hd:a.defers=[])(hg:w.heap[b]? =some (.cells cs 35 (0,0)))(h6:cs.size=6)(hQ:Q (.returned (.tuple #[.agg cs,z])) w):
  bodyPost Tryz.prog fn Q .ret a w:=by
 subst hz;exact aap (v:= .tuple #[.agg cs,a.tmps.getD b' undef]) (jB hf hs (aaT w b 35 35 _ (0,0) _ hg Tryz.underlying35 rfl (by rw[h6];exact qb))) hd hQ
theorem BQ{P:Program}{md:Region.Mode}{ops:Array Oper}{Q:Exit→Act→World→Prop}{S S':World→Prop}(h:∀w,S' w→S w):
  ∀(fuel:Nat) (listed:Array Bool) (a:Act) (w:World),wpAnyH P md ops Q S' fuel listed a w→wpAnyH P md ops Q S fuel listed a w
 |0,_,_,_,hw=>hw
 |fuel+1,_,_,_,hw=>⟨hw.1,fun i hi=>wpOp_mono (fun _ _ h'=>⟨h _ h'.1,BQ h fuel _ _ _ h'.2⟩) (hw.2 i hi)⟩
open Go
theorem aR{P:Program}{ops:Array Oper}{Q:Exit→Act→World→Prop}{md:Region.Mode}{S:World→Prop}(i:Nat){oi:Oper}{v:Value}{fuel:Nat}{listed l':Array Bool}{a a':Act}{w:World}
  (hS:S w)(h:wpAnyH P md ops Q S fuel l' a' w)
  (hi:ops[i]? =some oi:=by simp only[aan,aaA,aav];rfl)
  (hs:Region.noSelect ops=true:=by kernel_rfl)(hf:Region.free md ops listed i=true:=by kernel_rfl)(hr:(Region.ready md ops listed).contains i=true:=by kernel_rfl)
  (hQ:∀c a w,Q (.panic c) (a.put oi.dst v) w→Q (.panic c) a w:=by exact fun _ _ _ h=>h)
  (hw:Region.wanted oi (yielded ops a.tmps)=true:=by rfl)
  (hy:∀w,S w→(execOp a.eval oi).run P w= .ok (.value v) w:=by intro w hSw;(try dsimp only at hSw);go_simp;(try with_reducible rfl))
  (hl:listed.setIfInBounds i true=l':=by(try simp only[aao,aaL,aaM]);rfl)
  (ha:a.put oi.dst v=a':=by(try simp only[Act.put,aao,aaL,aaM]);rfl)
  :wpAnyH P md ops Q S (fuel+1) listed a w:=
 wpAnyH_take hi hs hf hr hQ (Or.inl ⟨hw,hy⟩) hS (by rw[hl,ha];exact h)
theorem nK{P:Program}{ops:Array Oper}{Q:Exit→Act→World→Prop}{md:Region.Mode}{S:World→Prop}(i:Nat){o:Oper}{fuel:Nat}{listed:Array Bool}{a:Act}{w:World}
  (h:∀K':Act→World→Prop,Shut (∀a w,S w→(S w→wpAnyH P md ops Q S fuel (listed.setIfInBounds i true) a w)→K' a w)→if Region.wanted o (yielded ops a.tmps)=true then Oper.wp P o a w K' Q else K' (a.put o.dst undef) w)
  (ho:ops[i]? =some o:=by simp only[aan,aaA,aav];rfl)(hr:Region.ready md ops listed=[i]:=by kernel_rfl):wpAnyH P md ops Q S (fuel+1) listed a w:=
 wpAnyH_ready hr (by simp) (AllReadyH.cons ho h AllReadyH.nil)
theorem mQ{P:Program}{ops:Array Oper}{Q:Exit→Act→World→Prop}{md:Region.Mode}{S:World→Prop}{i:Nat}{fuel:Nat}{listed l':Array Bool}{a a':Act}{w:World}{K:Act→World→Prop}
  (hK:Shut (∀a w,S w→(S w→wpAnyH P md ops Q S fuel (listed.setIfInBounds i true) a w)→K a w))(hS:S w)(h:S w→wpAnyH P md ops Q S fuel l' a' w)
  (hl:listed.setIfInBounds i true=l':=by(try simp only[aao,aaL,aaM]);rfl)
  (ha:a=a':=by(try simp only[Act.put,aao,aaL,aaM]);rfl):K a w:=by
 subst hl ha;exact hK a w hS h
theorem wQ{P:Program}{ops:Array Oper}{Q:Exit→Act→World→Prop}{md:Region.Mode}{S:World→Prop}{fuel:Nat}{listed:Array Bool}{a:Act}{w:World}(h:Q .normal a w)(hr:Region.ready md ops listed=[]:=by kernel_rfl):wpAnyH P md ops (NoPanic Q) S fuel listed a w:=
 wpAnyH_done hr (NoPanic.normal h) _
theorem xG{P:Program}{ops:Array Oper}{Q:Exit→Act→World→Prop}(S:World→Prop){id:Nat}{a:Act}{w:World}(hS:S w.drew)
  (h:S w.drew→wpAnyH P .any ops (NoPanic Q) S ops.size (Array.replicate ops.size false) a w.drew)(hm:P.follows .mixedOrders=true:=by kernel_rfl):(Code.region id ops true).wp P Q a w:=
 wp_region_noPanic (wp_region_held_drew hm hS h)
end Go.Proofs.YtmflaonodghbcaaGreatDoor
