/- DERIVED -/
import Derived.Test.YtjnhnlabpccgjaaGreatDoorProg
import Derived.Shelf.SlIter.Nil
import Derived.Shelf.SlIter.Sorted
import Derived.Shelf.SortM.Plain
import Derived.Shelf.SortM.SortNone
import Derived.Ground.GgzProg
import Derived.Ground.SlgmProg
import Derived.Test.YtjnhnlabpccgjaaGreatDoorM02
import Derived.Test.YtjnhnlabpccgjaaGreatDoorM15
import Derived.Test.YtjnhnlabpccgjaaGreatDoorM13
import Derived.Test.YtjnhnlabpccgjaaGreatDoorM12
import Derived.Test.YtjnhnlabpccgjaaGreatDoorM10
set_option maxRecDepth 100000
set_option maxHeartbeats 64000000
set_option linter.all false
namespace Go.Proofs
open Go.Shelf
def Tryz.Ae:Go.Shelf.Ren:=⟨fun|7=>93|10=>171|n=>n,fun|23=>136|26=>9|3=>3|28=>141|0=>0|27=>140|33=>151|4=>4|n=>n,fun|n=>n⟩
theorem Tryz.TS:Go.Proofs.SlLaysZ.n7 Tryz.prog Tryz.Ae:={
 mixed:=by kernel_rfl
 f7:=⟨Tryz.f93.name,by decide,Tryz.func93.trans (congrArg some (by kernel_rfl))⟩
 f10:=⟨Tryz.f171.name,by decide,Tryz.func171.trans (congrArg some (by kernel_rfl))⟩
 t0:=Tryz.underlying0
 a0:=Tryz.isAgg0
 z0:=Tryz.sizeOf0
 v0:=Tryz.zeroValue0
 t4:=Tryz.underlying4
 a4:=Tryz.isAgg4
 z4:=Tryz.sizeOf4
 v4:=Tryz.zeroValue4
 t23:=Tryz.underlying136
 a23:=Tryz.isAgg136
 z23:=Tryz.sizeOf136
 v23:=Tryz.zeroValue136
 t26:=Tryz.underlying9
 a26:=Tryz.isAgg9
 z26:=Tryz.sizeOf9
 v26:=Tryz.zeroValue9
 t27:=Tryz.underlying140
 a27:=Tryz.isAgg140
 z27:=Tryz.sizeOf140
 v27:=Tryz.zeroValue140
 t28:=Tryz.underlying141
 a28:=Tryz.isAgg141
 z28:=Tryz.sizeOf141
 v28:=Tryz.zeroValue141
 t33:=Tryz.underlying151
 a33:=Tryz.isAgg151
 z33:=Tryz.sizeOf151
 v33:=Tryz.zeroValue151}
def Tryz.Bf:Go.Shelf.Ren:=⟨fun|6=>92|8=>169|9=>170|11=>204|13=>206|12=>205|23=>227|24=>228|14=>218|15=>219|16=>220|17=>221|18=>222|19=>223|20=>224|21=>225|22=>226|25=>246|26=>247|27=>248|28=>249|29=>250|30=>251|31=>262|n=>n,fun|26=>9|28=>141|24=>26|0=>0|3=>3|37=>171|48=>216|50=>27|4=>4|40=>256|39=>255|45=>190|5=>5|9=>9|51=>280|55=>283|57=>295|58=>83|33=>151|n=>n,fun|n=>n⟩
theorem Tryz.Oi:Go.Proofs.SlLaysZ.n6 Tryz.prog Tryz.Bf:={
 mixed:=by kernel_rfl
 f6:=⟨Tryz.f92.name,by decide,Tryz.func92.trans (congrArg some (by kernel_rfl))⟩
 f8:=⟨Tryz.f169.name,by decide,Tryz.func169.trans (congrArg some (by kernel_rfl))⟩
 f11:=⟨Tryz.f204.name,by decide,Tryz.func204.trans (congrArg some (by kernel_rfl))⟩
 t0:=Tryz.underlying0
 a0:=Tryz.isAgg0
 z0:=Tryz.sizeOf0
 v0:=Tryz.zeroValue0
 t24:=Tryz.underlying26
 a24:=Tryz.isAgg26
 z24:=Tryz.sizeOf26
 v24:=Tryz.zeroValue26
 t26:=Tryz.underlying9
 a26:=Tryz.isAgg9
 z26:=Tryz.sizeOf9
 v26:=Tryz.zeroValue9
 t28:=Tryz.underlying141
 a28:=Tryz.isAgg141
 z28:=Tryz.sizeOf141
 v28:=Tryz.zeroValue141
 i26:=by kernel_rfl}
def Tryz.Qg:Go.Shelf.Ren:=⟨fun|6=>170|8=>206|9=>205|19=>227|20=>228|21=>218|22=>219|23=>220|24=>221|25=>222|26=>223|27=>224|28=>225|29=>226|36=>246|31=>247|32=>248|37=>249|38=>250|39=>251|41=>262|n=>n,fun|27=>26|29=>9|3=>3|32=>171|26=>26|0=>0|44=>216|46=>27|4=>4|36=>256|35=>255|41=>190|5=>5|9=>9|53=>280|57=>283|63=>295|64=>83|n=>n,fun|n=>n⟩
theorem Tryz.ZE:Go.Proofs.SlLaysM.n6 Tryz.prog Tryz.Qg:={
 mixed:=by kernel_rfl
 f6:=⟨Tryz.f170.name,by decide,Tryz.func170.trans (congrArg some (by kernel_rfl))⟩
 f8:=Tryz.func206.trans (congrArg some (by kernel_rfl))
 f9:=⟨Tryz.f205.name,by decide,Tryz.func205.trans (congrArg some (by kernel_rfl))⟩
 f19:=Tryz.func227.trans (congrArg some (by kernel_rfl))
 f20:=Tryz.func228.trans (congrArg some (by kernel_rfl))
 f21:=⟨Tryz.f218.name,by decide,Tryz.func218.trans (congrArg some (by kernel_rfl))⟩
 f22:=⟨Tryz.f219.name,by decide,Tryz.func219.trans (congrArg some (by kernel_rfl))⟩
 f23:=⟨Tryz.f220.name,by decide,Tryz.func220.trans (congrArg some (by kernel_rfl))⟩
 f24:=⟨Tryz.f221.name,by decide,Tryz.func221.trans (congrArg some (by kernel_rfl))⟩
 f25:=⟨Tryz.f222.name,by decide,Tryz.func222.trans (congrArg some (by kernel_rfl))⟩
 f26:=⟨Tryz.f223.name,by decide,Tryz.func223.trans (congrArg some (by kernel_rfl))⟩
 f27:=⟨Tryz.f224.name,by decide,Tryz.func224.trans (congrArg some (by kernel_rfl))⟩
 f28:=⟨Tryz.f225.name,by decide,Tryz.func225.trans (congrArg some (by kernel_rfl))⟩
 f29:=⟨Tryz.f226.name,by decide,Tryz.func226.trans (congrArg some (by kernel_rfl))⟩
 f31:=Tryz.func247.trans (congrArg some (by kernel_rfl))
 f32:=Tryz.func248.trans (congrArg some (by kernel_rfl))
 f36:=⟨Tryz.f246.name,by decide,Tryz.func246.trans (congrArg some (by kernel_rfl))⟩
 f37:=⟨Tryz.f249.name,by decide,Tryz.func249.trans (congrArg some (by kernel_rfl))⟩
 f38:=⟨Tryz.f250.name,by decide,Tryz.func250.trans (congrArg some (by kernel_rfl))⟩
 f39:=⟨Tryz.f251.name,by decide,Tryz.func251.trans (congrArg some (by kernel_rfl))⟩
 f41:=⟨Tryz.f262.name,by decide,Tryz.func262.trans (congrArg some (by kernel_rfl))⟩
 t0:=Tryz.underlying0
 a0:=Tryz.isAgg0
 z0:=Tryz.sizeOf0
 v0:=Tryz.zeroValue0
 t3:=Tryz.underlying3
 a3:=Tryz.isAgg3
 z3:=Tryz.sizeOf3
 v3:=Tryz.zeroValue3
 t4:=Tryz.underlying4
 a4:=Tryz.isAgg4
 z4:=Tryz.sizeOf4
 v4:=Tryz.zeroValue4
 t5:=Tryz.underlying5
 a5:=Tryz.isAgg5
 z5:=Tryz.sizeOf5
 v5:=Tryz.zeroValue5
 t9:=Tryz.underlying9
 a9:=Tryz.isAgg9
 z9:=Tryz.sizeOf9
 v9:=Tryz.zeroValue9
 t26:=Tryz.underlying26
 a26:=Tryz.isAgg26
 z26:=Tryz.sizeOf26
 v26:=Tryz.zeroValue26
 t27:=Tryz.underlying26
 a27:=Tryz.isAgg26
 z27:=Tryz.sizeOf26
 v27:=Tryz.zeroValue26
 t29:=Tryz.underlying9
 a29:=Tryz.isAgg9
 z29:=Tryz.sizeOf9
 v29:=Tryz.zeroValue9
 t32:=Tryz.underlying171
 a32:=Tryz.isAgg171
 z32:=Tryz.sizeOf171
 v32:=Tryz.zeroValue171
 t35:=Tryz.underlying255
 a35:=Tryz.isAgg255
 z35:=Tryz.sizeOf255
 v35:=Tryz.zeroValue255
 t36:=Tryz.underlying256
 a36:=Tryz.isAgg256
 z36:=Tryz.sizeOf256
 v36:=Tryz.zeroValue256
 t41:=Tryz.underlying190
 a41:=Tryz.isAgg190
 z41:=Tryz.sizeOf190
 v41:=Tryz.zeroValue190
 t44:=Tryz.underlying216
 a44:=Tryz.isAgg216
 z44:=Tryz.sizeOf216
 v44:=Tryz.zeroValue216
 t46:=Tryz.underlying27
 a46:=Tryz.isAgg27
 z46:=Tryz.sizeOf27
 v46:=Tryz.zeroValue27
 t53:=Tryz.underlying280
 a53:=Tryz.isAgg280
 z53:=Tryz.sizeOf280
 v53:=Tryz.zeroValue280
 t57:=Tryz.underlying283
 a57:=Tryz.isAgg283
 z57:=Tryz.sizeOf283
 v57:=Tryz.zeroValue283
 t63:=Tryz.underlying295
 a63:=Tryz.isAgg295
 z63:=Tryz.sizeOf295
 v63:=Tryz.zeroValue295
 t64:=Tryz.underlying83
 a64:=Tryz.isAgg83
 z64:=Tryz.sizeOf83
 v64:=Tryz.zeroValue83}
open Go.RowKit Go.Maps Go.Sort Go.Shelf
theorem Tryz.TT(m:Nat):AnyZ.SortsIn Tryz.prog Tryz.Bf Fence.wide m:=
 ⟨fun blk off cap ss W hH hblk hsz=>callsIn_wide.2 (AnyM.slices_Sort_string Tryz.ZE blk off cap ss W hH hblk hsz),
  fun p cap W=>callsIn_wide.2 (AnyM.slices_Sort_string_none Tryz.ZE p cap W)⟩
theorem Tryz.Oj(mb:Option Nat)(W:World):Calls Tryz.prog 93 #[.map mb] W fun e w'=>e= .returned (.func (.func 171) #[] #[.pointer (some ⟨W.heap.size,0,none⟩)])∧w'=W.alloc (.cells #[.map mb] 136):=
 callsIn_wide.1 (AnyZ.keys_in Tryz.TS Fence.wide 5 trivial rfl mb W)
theorem Tryz.Qh{H:Type}(b nn:Nat)(D0:DataW H)(R:Value→Option (DataW H×List MemPlace))(w:World)(hown:w.ownsMap Tryz.prog 9 R b nn D0)(hmax:Maps.size D0≤maxLen)(hbytes:Maps.size D0*16≤140737488355328):
  Calls Tryz.prog 92 #[.func (.func 171) #[] #[.pointer (some ⟨w.heap.size,0,none⟩)]] (w.alloc (.cells #[.map (some b)] 136)) fun e w'=>∃(v:Value) (ss:List (List UInt8)),e= .returned v∧ss.Perm (strKeys D0)∧
   w'.ownsRow (w.alloc (.cells #[.map (some b)] 136)).heap.size 9 1 v ss.length ((ss.mergeSort (fun x y=>decide (x≤y))).map encStr)∧(v= .slice none 0 0↔ss=[])∧Below (w.alloc (.cells #[.map (some b)] 136)).heap.size (w.alloc (.cells #[.map (some b)] 136)) w':=by
 have hbl:=hown.lt
 have hseq:SeqGives Fence.wide 2 Tryz.prog 171 #[.pointer (some ⟨w.heap.size,0,none⟩)] encStr (fun ss=>ss.Perm (strKeys D0)) (Maps.size D0) (w.alloc (.cells #[.map (some b)] 136)):=
  AnyZ.keys_gives (ρ:=Tryz.Ae) {Tryz.TS with} Fence.wide _ trivial rfl (by omega) w.heap.size b nn D0 _ (by simp) (by simp) (by
   obtain⟨es,clock,hb,Ft,hs,hD⟩:=hown;exact⟨es,clock,(Below.heap_alloc _ _ b hbl).trans hb,Ft,hs,hD⟩)
 exact callsIn_wide.1 (AnyZ.sorted_in Tryz.Oi Fence.wide 5 trivial trivial trivial trivial rfl (by omega) (Tryz.TT _) (enters_of Tryz.func170 (by kernel_rfl) rfl) 171 #[.pointer (some ⟨w.heap.size,0,none⟩)] trivial (enters_of Tryz.func171 (by kernel_rfl) rfl) _ _ hmax hbytes _ hseq)
end Go.Proofs
namespace Go.Proofs.YtjnhnlabpccgjaaGreatDoor
open Go.ChangeShapes Go.WideShapes Go.ChangeAt Go.RowKit
theorem Ju(l:List (Nm×Value)):strKeys (yE iq l)=l.map (·.1):=by
 unfold strKeys yE;simp only[List.map_map];rfl
theorem ZF:∀{a b:List UInt8},bytesBefore a b=true→a<b
 |[],[],h=>by cases h
 |[],_::_,_=>List.nil_lt_cons _ _
 |_::_,[],h=>by cases h
 |x::r,y::s,h=>by
  rw[List.cons_lt_cons_iff];simp only[bytesBefore,abX,aaW,aah,beq_iff_eq]at h;rcases h with h|⟨h1,h2⟩
  ·exact .inl h
  ·exact .inr ⟨h1,ZF h2⟩
theorem Hg{α:Type}{l:List (Nm×α)}(hl:aI bytesBefore l){ss:List Nm}(hp:ss.Perm (l.map (·.1))):ss.mergeSort (fun x y=>decide (x≤y))=l.map (·.1):=by
 have h1:(ss.mergeSort (fun x y=>decide (x≤y))).Pairwise (fun a b=>decide (a≤b)=true):=List.pairwise_mergeSort (fun a b c h1 h2=>by simp only[aah]at*;exact List.le_trans h1 h2) (fun a b=>by simp only[abX,aah];exact List.le_total a b) ss;have h2:(l.map (·.1)).Pairwise (fun a b=>decide (a≤b)=true):=by
  rw[abk];exact hl.imp fun{a b} h=>by simp only[aah];exact List.le_of_lt (ZF h)
 exact((List.mergeSort_perm ss _).trans hp).eq_of_pairwise (fun a b _ _ h1 h2=>by simp only[aah]at h1 h2;exact List.le_antisymm h1 h2) h1 h2
def uE(T:aA)(id:Int):List Nm×Int:=match aj id T with
 |none=>([],20)
 |some x=>if x.kind=2 then(x.names.map (·.1),0)else([],23)
def Hl(w:World)(q:List Nm×Int)(e:Ending)(w':World):Prop:=
 ∃a c,e= .returned (.tuple #[.slice a q.1.length c,.int .i64 q.2])∧q.1.length≤c∧aT (fun x=>w.heap.size≤x∧x<w'.heap.size) w' a q.1.length (q.1.map strOf)∧Below w.heap.size w w'
section
variable{g:Nat→Own}{D:Nat→Prop}{p mb:Nat}{ib nb:Int→Nat}{T:aA}
end
end Go.Proofs.YtjnhnlabpccgjaaGreatDoor
namespace Go.Proofs
open Go.RowKit Go.Maps Go.Sort Go.Shelf
theorem Tryz.LY(w:World):Calls Tryz.prog 92 #[.func (.func 171) #[] #[.pointer (some ⟨w.heap.size,0,none⟩)]] (w.alloc (.cells #[.map none] 136)) fun e w'=>e= .returned (.slice none 0 0)∧Below (w.alloc (.cells #[.map none] 136)).heap.size (w.alloc (.cells #[.map none] 136)) w':=by
 have hseq:SeqGives Fence.wide 2 Tryz.prog 171 #[.pointer (some ⟨w.heap.size,0,none⟩)] encStr (fun ss:List (List UInt8)=>ss=[]) 0 (w.alloc (.cells #[.map none] 136)):=
  AnyZ.keys_gives_nil (ρ:=Tryz.Ae) {Tryz.TS with} Fence.wide _ trivial rfl w.heap.size _ (by simp) (by simp)
 have h:=callsIn_wide.1 (AnyZ.sorted_in Tryz.Oi Fence.wide 5 trivial trivial trivial trivial rfl (by omega) (Tryz.TT _) (enters_of Tryz.func170 (by kernel_rfl) rfl) 171 #[.pointer (some ⟨w.heap.size,0,none⟩)] trivial (enters_of Tryz.func171 (by kernel_rfl) rfl) _ 0 (Nat.zero_le _) (by omega) _ hseq);refine h.mono ?_;rintro e w' ⟨v,ss,rfl,rfl,hrow,hnil,hb⟩;obtain rfl:v= .slice none 0 0:=hnil.2 rfl;exact⟨rfl,hb⟩
end Go.Proofs
namespace Go.Proofs.YtjnhnlabpccgjaaGreatDoor
open Go.ChangeShapes Go.WideShapes Go.ChangeAt Go.RowKit
def Xt(w:World)(L:List Nm)(e:Ending)(w':World):Prop:=
 ∃a c,e= .returned (.slice a L.length c)∧L.length≤c∧aT (fun x=>w.heap.size≤x∧x<w'.heap.size) w' a L.length (L.map strOf)∧Below w.heap.size w w'
section
variable{g:Nat→Own}{D:Nat→Prop}{p mb:Nat}{ib nb:Int→Nat}{T:aA}
theorem sorted_at(k:Int)(x:bJ)(w:World)(h:aP g D w p mb ib nb T)(hT:OkW T)(hx:aj k T=some x)(Jv:x.names.length≤65535):
  Calls Tryz.prog 92 #[.func (.func 171) #[] #[.pointer (some ⟨w.heap.size,0,none⟩)]] (w.alloc (.cells #[fu x (nb k)] 136)) (Xt (w.alloc (.cells #[fu x (nb k)] 136)) (x.names.map (·.1))):=by
 have O1:=hT.each k x hx;by_cases hk:x.kind=2
 ·have e2:fu x (nb k)= .map (some (nb k)):=if_pos hk;rw[e2];have hM:=(h.item k x hx).names hk;have hsz:(fA x).length=x.names.length:=List.length_map _;refine(Tryz.Qh (nb k) (fA x).length (yE iq (fA x)) oH w hM (by rw[qc,hsz];unfold maxLen;omega) (by rw[qc,hsz];omega)).mono ?_;rintro e w' ⟨v,ss,rfl,hp,hown,hnil,hB⟩;rw[Ju]at hp;have hml:(fA x).map (·.1)=x.names.map (·.1):=by unfold fA;rw[List.map_map];rfl
  rw[hml]at hp;rw[Hg O1.sorted hp]at hown;have hlen:ss.length=(x.names.map (·.1)).length:=hp.length_eq;have hgood:∀s∈(x.names.map (·.1)).map strOf,s.size≤maxLen:=by
   intro s hs;obtain⟨l,hl,rfl⟩:=List.mem_map.1 hs;obtain⟨e,he,rfl⟩:=List.mem_map.1 hl;have:=yK _ (O1.good e he);rw[fK];unfold maxLen;omega
  obtain⟨a,c,rfl,hc⟩:=fM hown;obtain⟨_,hr⟩:=ah.mR hown;rw[hlen]at hr hc;have hr2:ah (fun x_1=>(w.alloc (.cells #[.map (some (nb k))] 136)).heap.size≤x_1∧x_1<w'.heap.size) w' a (x.names.map (·.1)).length (((x.names.map (·.1)).map strOf).map .string):=by
   rw[List.map_map];exact hr
  exact⟨a,c,by rw[hlen],hc,⟨hr2,hgood⟩,hB⟩
 ·have e2:fu x (nb k)= .map none:=if_neg hk;have hnil:x.names=[]:=O1.file (O1.kind.resolve_right hk);rw[e2,hnil];refine(Tryz.LY w).mono ?_;rintro e w' ⟨rfl,hB⟩;exact⟨none,0,rfl,Nat.le_refl _,⟨ah.nil _ _ _,by simp⟩,hB⟩
end
def mG(l:List UInt8):List UInt8:=eB l.length 2++l
def Jw(e:Nm×Int):List UInt8:=mG e.1++eB e.2 2
def ku(k:Int)(x:bJ):List UInt8:=mG (rJ k x)++mG x.b++eB x.names.length 2++x.names.flatMap Jw
def dw(T:aA):List UInt8:=eB T.length 2++T.flatMap fun q=>ku q.1 q.2
theorem lX{n:Nm}(h:bT n=true):n.length≤16:=by
 unfold bT at h;simp only[aaW,aah]at h;exact h.1.1.2
theorem kZ(l:List UInt8):(mG l).length=2+l.length:=by unfold mG;rw[List.length_append,bB]
theorem Cr:∀(l:List (Nm×Int)),(∀e∈l,e.1.length≤16)→(l.flatMap Jw).length≤20*l.length
 |[],_=>by simp
 |e::r,h=>by
  have h1:=h e (by simp);have h2:=Cr r fun y hy=>h y (by simp[hy]);simp only[List.flatMap_cons,List.length_append,List.length_cons,Jw,kZ,bB];omega
theorem TU{k:Int}{x:bJ}(h:Lp x)(hf:x.names.length≤4096):(ku k x).length≤90000:=by
 have h1:=Cr x.names fun e he=>lX (h.good e he);have h2:=h.size;unfold ku;simp only[List.length_append,kZ,bB,kY];omega
theorem wC{T:aA}(hT:dZ T):∀(l:aA),(∀q∈l,q∈T)→(l.flatMap fun q=>ku q.1 q.2).length≤90000*l.length
 |[],_=>by simp
 |q::r,h=>by
  have hq:=aS bY hT.sorted (h q (by simp));have h1:=TU (k:=q.1) (hT.each _ _ hq) (hT.few hq);have h2:=wC hT r fun y hy=>h y (by simp[hy]);simp only[List.flatMap_cons,List.length_append,List.length_cons];omega
theorem Qi{k:Int}{x:bJ}(h:Lr x)(hf:x.names.length≤65535):(ku k x).length≤1315000:=by
 have h1:=Cr x.names fun e he=>lX (h.good e he);have h2:=h.size;unfold ku;simp only[List.length_append,kZ,bB,kY];omega
theorem sW{T:aA}(hT:OkW T)(hf:∀k x,aj k T=some x→x.names.length≤65535):∀(l:aA),(∀q∈l,q∈T)→(l.flatMap fun q=>ku q.1 q.2).length≤1315000*l.length
 |[],_=>by simp
 |q::r,h=>by
  have hq:=aS bY hT.sorted (h q (by simp));have h1:=Qi (k:=q.1) (hT.each _ _ hq) (hf _ _ hq);have h2:=sW hT hf r fun y hy=>h y (by simp[hy]);simp only[List.flatMap_cons,List.length_append,List.length_cons];omega
theorem Qj{T:aA}(hT:OkW T)(hf:∀k x,aj k T=some x→x.names.length≤65535):(dw T).length≤84160002:=by
 have h1:=sW hT hf T fun q hq=>hq;have h2:=hT.len;unfold dw;rw[List.length_append,bB];omega
theorem qo{w:World}{base g:Nat}{e:TypeId}{k:Nat}(hg:w.heap[g]? =some (.cells #[] e))(hb:base≤g):w.ownsRow base e k (.slice (some ⟨g,0,none⟩) 0 0) 0 []:=by
 refine⟨by simp,.inr ⟨g,0,#[],rfl,hb,hg,Nat.le_refl _,Nat.zero_le _,by simp,by simp⟩⟩
theorem ah.Ol{w:World}{base:Nat}{e:TypeId}{k:Nat}{a:Option Addr}{m n c:Nat}{xs:List Value}(h:w.ownsRow base e k (.slice a m c) n xs)(hs:n*k≤maxLen):m=n∧n≤c∧ah (fun x=>base≤x∧x<w.heap.size) w a (n*k) xs:=by
 obtain⟨h1,h2⟩:=h;rcases h2 with⟨h2,rfl⟩|⟨g,cap,cur,h2,hg,hcur,h3,h4,h5,h6⟩
 ·simp only[aak]at h2;obtain⟨rfl,rfl,rfl⟩:=h2;have:xs=[]:=aad (by omega);subst this;rw[abG];exact⟨rfl,Nat.le_refl _,ah.nil _ _ _⟩
 ·simp only[aak]at h2;obtain⟨rfl,rfl,rfl⟩:=h2;have hgw:=(iL.1 hcur).1;refine⟨rfl,h3,h1,hs,fun h0=>⟨g,0,rfl,⟨hg,hgw⟩,hgw,fun i hi=> ?_⟩⟩;simp only[World.cell?,hcur,Nat.zero_add];rw[←h6,aaD,if_pos hi];simp
theorem oJ{P:Program}{S:Nat→Prop}{w:World}(base:Nat)(t ty e:TypeId)(i:TypeInfo)(z:Value)(k bytes:Nat)(ht:P.underlying t=some (.slice e))(hi:P.info? e=some i)(hz:i.zero=some z)
  (hsize:i.size=k)(hby:i.bytes=bytes)(hzs:z.cells.size=k)(hk:0<k)(v:Value)(n:Nat)(xs:List Value)(hown:w.ownsRow base e k v n xs)
  (A:Option Addr)(m c:Nat)(news:List Value)(hr:ah S w A (m*k) news)(h1:∀u∈news,u.oneCell'=true)(h63:n+m≤maxLen)(hbytes:(n+m)*bytes≤140737488355328)(hbase:base≤w.heap.size):
  ∃A' c' w',(Builtin.append_ #[t,t] ty #[v,.slice A m c]).run P w= .ok (.slice A' (n+m) c') w'∧w'.ownsRow base e k (.slice A' (n+m) c') (n+m) (xs++news)∧w.grownBy w' v.ownBlock∧
   ((Value.slice A' (n+m) c').ownBlock=v.ownBlock∨(Value.slice A' (n+m) c').ownBlock=some w.heap.size):=by
 rcases A with _|ad
 ·have hm:m=0:=by
   rcases abv m with h0|h0
   ·exact h0
   ·obtain⟨_,_,h,_⟩:=hr.at_ (Nat.mul_pos h0 hk);cases h
  subst hm;have hn:news=[]:=aad (by rw[hr.length];omega);subst hn;obtain⟨A',c',rfl,_⟩:=fM hown;refine⟨A',c',w,?_,by simpa using hown,⟨rfl,rfl,rfl,Nat.le_refl _,fun _ _ _=>rfl⟩,Or.inl rfl⟩;rcases hown.2 with⟨h2,rfl⟩|⟨g,cap,cur,h2,_,_,hnc,_⟩
  ·simp only[aak]at h2;obtain⟨rfl,_,rfl⟩:=h2;simp[Builtin.append_,abP ht,sizeOf,typeInfo,hi,Builtin.lenOf,Builtin.firstCells]
  ·simp only[aak]at h2;obtain⟨rfl,_,rfl⟩:=h2;simp[Builtin.append_,abP ht,sizeOf,typeInfo,hi,Builtin.lenOf,Builtin.firstCells,hnc,storeCells]
 ·obtain⟨v',w',hr',h2,h3,h4,h5⟩:=run_append_own_at (P:=P) w base t ty e i z k bytes ht hi hz hsize hby hzs hk v n xs hown ad m c news hr.length hr.cells h1 h63 hbytes hbase;obtain⟨A',c',rfl,_⟩:=fM h2;exact⟨A',c',w',hr',h2,h3,h5⟩
theorem xG{P:Program}{S:Nat→Prop}{w:World}{ops:Array Oper}{rest:List Oper}{o:Oper}{a:Act}{Q:Exit→Act→World→Prop}(hgd:o.guard=none)(s x:Operand)(t:TypeId)
  (ho:o.op= .call {callee:= .builtin .append,args:= #[s,x],argTypes:= #[t,t]})
  (base:Nat)(e:TypeId)(i:TypeInfo)(z:Value)(k bytes:Nat)(ht:P.underlying t=some (.slice e))(hi:P.info? e=some i)(hz:i.zero=some z)
  (hsize:i.size=k)(hby:i.bytes=bytes)(hzs:z.cells.size=k)(hk:0<k)(v:Value)(n:Nat)(xs:List Value)(hs:a.eval s=v)(hown:w.ownsRow base e k v n xs)
  (A:Option Addr)(m c:Nat)(news:List Value)(hx:a.eval x= .slice A m c)(hr:ah S w A (m*k) news)(h1:∀u∈news,u.oneCell'=true)(h63:n+m≤maxLen)(hbytes:(n+m)*bytes≤140737488355328)(hbase:base≤w.heap.size)
  (h:∀A' c' w',w'.ownsRow base e k (.slice A' (n+m) c') (n+m) (xs++news)→w.grownBy w' v.ownBlock→((Value.slice A' (n+m) c').ownBlock=v.ownBlock∨(Value.slice A' (n+m) c').ownBlock=some w.heap.size)→wpList P ops Q rest (a.put o.dst (.slice A' (n+m) c')) w'):
  wpList P ops Q (o::rest) a w:=by
 refine abS hgd fun K hK=> ?_;obtain⟨A',c',w',hr,h2,h3,h4⟩:=oJ (P:=P) base t o.type e i z k bytes ht hi hz hsize hby hzs hk v n xs hown A m c news hr h1 h63 hbytes hbase;unfold Oper.wp execOp;simp only[ho,resolve,invoke,builtin,abz,abF,abl,abt,List.map_cons,abg,hs,hx,hr];exact hK _ _ (h A' c' w' h2 h3 h4)
theorem dF{P:Program}{S:Nat→Prop}{ops:Array Oper}{o:Oper}{a:Act}{w:World}{K:Act→World→Prop}{Q:Exit→Act→World→Prop}{E:Prop}(hgd:o.guard=none)(s x:Operand)(t:TypeId)
  (ho:o.op= .call {callee:= .builtin .append,args:= #[s,x],argTypes:= #[t,t]})
  (base:Nat)(e:TypeId)(i:TypeInfo)(z:Value)(k bytes:Nat)(ht:P.underlying t=some (.slice e))(hi:P.info? e=some i)(hz:i.zero=some z)
  (hsize:i.size=k)(hby:i.bytes=bytes)(hzs:z.cells.size=k)(hk:0<k)(v:Value)(n:Nat)(xs:List Value)(hs:a.eval s=v)(hown:w.ownsRow base e k v n xs)
  (A:Option Addr)(m c:Nat)(news:List Value)(hx:a.eval x= .slice A m c)(hr:ah S w A (m*k) news)(h1:∀u∈news,u.oneCell'=true)(h63:n+m≤maxLen)(hbytes:(n+m)*bytes≤140737488355328)(hbase:base≤w.heap.size)
  (h:∀A' c' w',w'.ownsRow base e k (.slice A' (n+m) c') (n+m) (xs++news)→w.grownBy w' v.ownBlock→((Value.slice A' (n+m) c').ownBlock=v.ownBlock∨(Value.slice A' (n+m) c').ownBlock=some w.heap.size)→K (a.put o.dst (.slice A' (n+m) c')) w'):
  if Region.wanted o (yielded ops a.tmps)=true then Oper.wp P o a w K Q else E:=by
 have hw:Region.wanted o (yielded ops a.tmps)=true:=by simp[Region.wanted,hgd]
 rw[if_pos hw];obtain⟨A',c',w',hr,h2,h3,h4⟩:=oJ (P:=P) base t o.type e i z k bytes ht hi hz hsize hby hzs hk v n xs hown A m c news hr h1 h63 hbytes hbase;unfold Oper.wp execOp;simp only[ho,resolve,invoke,builtin,abz,abF,abl,abt,List.map_cons,abg,hs,hx,hr];exact h A' c' w' h2 h3 h4
theorem lM{P:Program}{S:Nat→Prop}{w:World}{ops:Array Oper}{rest:List Oper}{o:Oper}{a:Act}{Q:Exit→Act→World→Prop}(hgd:o.guard=none)(s x:Operand)(t:TypeId)
  (ho:o.op= .call {callee:= .builtin .append,args:= #[s,x],argTypes:= #[t,t]})
  (base:Nat)(e:TypeId)(i:TypeInfo)(z:Value)(k bytes:Nat)(ht:P.underlying t=some (.slice e))(hi:P.info? e=some i)(hz:i.zero=some z)
  (hsize:i.size=k)(hby:i.bytes=bytes)(hzs:z.cells.size=k)(hk:0<k)(v:Value)(n:Nat)(xs:List Value)(hs:a.eval s=v)(hown:w.ownsRow base e k v n xs)
  (A:Option Addr)(m c:Nat)(news:List Value)(hx:a.eval x= .slice A m c)(hr:ah S w A (m*k) news)(h1:∀u∈news,u.oneCell'=true)(h63:n+m≤maxLen)(hbytes:(n+m)*bytes≤140737488355328)(hbase:base≤w.heap.size)
  (h:∀A' c' w',w'.ownsRow base e k (.slice A' (n+m) c') (n+m) (xs++news)→Below base w w'→wpList P ops Q rest (a.put o.dst (.slice A' (n+m) c')) w'):
  wpList P ops Q (o::rest) a w:=by
 refine abS hgd fun K hK=> ?_;obtain⟨A',c',w',hr,h2,h3,h4⟩:=oJ (P:=P) base t o.type e i z k bytes ht hi hz hsize hby hzs hk v n xs hown A m c news hr h1 h63 hbytes hbase;unfold Oper.wp execOp;simp only[ho,resolve,invoke,builtin,abz,abF,abl,abt,List.map_cons,abg,hs,hx,hr];exact hK _ _ (h A' c' w' h2 ⟨h3.os,h3.tape,h3.output,h3.size,fun b hb=>h3.block b (by omega) (fun e=>by have:=dA hown b e.symm;omega)⟩)
structure iw where
 id:Int
 hash:List UInt8
 t:aA
structure lN where
 l:List iw
 next:Int
 last:List UInt8
def Jy:lN:=⟨[],1,[]⟩
def Af(K:aA→Prop)(o:Mark)(w:World)(vs:List Value)(x:iw):Prop:=
 ∃a c q,vs=[.int .i64 x.id,.slice a x.hash.length c,ptr q]∧x.hash.length≤c∧ah (fun b=>o b=0∧b<w.heap.size) w a x.hash.length (x.hash.map bv)∧gZ o 0 w q x.t∧K x.t
def jE(K:aA→Prop)(o:Mark)(w:World):List Value→List iw→Prop
 |vs,[]=>vs=[]
 |vs,x::r=>∃v1 v2,vs=v1++v2∧Af K o w v1 x∧jE K o w v2 r
structure jS(K:aA→Prop)(o:Mark)(i:Nat)(w:World)(s:Nat)(S:lN):Prop where
 at_:∃v la lc vals,w.heap[s]? =some (.cells #[v,.int .i64 S.next,.slice la S.last.length lc] 109 (0,0))∧o s=i∧s<w.heap.size∧
  w.ownsRow 0 148 3 v S.l.length vals∧(∀b,v.ownBlock=some b→o b=i∧b≠s∧b<w.heap.size)∧jE K o w vals S.l∧
  S.last.length≤lc∧ah (fun b=>o b=0∧b<w.heap.size) w la S.last.length (S.last.map bv)
abbrev LZ:=jS dZ
theorem Af.step{K:aA→Prop}{o o':Mark}{I:Nat→Prop}{w w':World}{vs:List Value}{x:iw}(h:Af K o w vs x)(hi:¬I 0)(hs:Step o I w o' w'):Af K o' w' vs x:=by
 obtain⟨a,c,q,h1,h2,h3,h4,h5⟩:=h;exact⟨a,c,q,h1,h2,h3.move hs.keep.size fun b hb hbw=>⟨⟨(hs.old b hb.2).trans hb.1,Nat.lt_of_lt_of_le hb.2 hs.keep.size⟩,hs.block hb.2 (by rw[hb.1];exact hi)⟩,h4.step hi hi hs,h5⟩
theorem jE.step{K:aA→Prop}{o o':Mark}{I:Nat→Prop}{w w':World}(hi:¬I 0)(hs:Step o I w o' w'):∀{vs:List Value} {l:List iw},jE K o w vs l→jE K o' w' vs l
 |_,[],h=>h
 |_,x::r,⟨v1,v2,h1,h2,h3⟩=>⟨v1,v2,h1,h2.step hi hs,jE.step hi hs h3⟩
theorem Af.grow{K:aA→Prop}{o:Mark}{w w':World}{vs:List Value}{x:iw}(h:Af K o w vs x)(hb:Below w.heap.size w w'):Af K o w' vs x:=by
 obtain⟨a,c,q,h1,h2,h3,h4,h5⟩:=h;exact⟨a,c,q,h1,h2,h3.move hb.size fun b hb' hbw=>⟨⟨hb'.1,Nat.lt_of_lt_of_le hb'.2 hb.size⟩,hb.block b hbw⟩,h4.grow hb,h5⟩
theorem jE.grow{K:aA→Prop}{o:Mark}{w w':World}(hb:Below w.heap.size w w'):∀{vs:List Value} {l:List iw},jE K o w vs l→jE K o w' vs l
 |_,[],h=>h
 |_,x::r,⟨v1,v2,h1,h2,h3⟩=>⟨v1,v2,h1,h2.grow hb,jE.grow hb h3⟩
theorem Af.len{K:aA→Prop}{o:Mark}{w:World}{vs:List Value}{x:iw}(h:Af K o w vs x):vs.length=3:=by
 obtain⟨a,c,q,h1,_⟩:=h;rw[h1];rfl
theorem jE.len{K:aA→Prop}{o:Mark}{w:World}:∀{vs:List Value} {l:List iw},jE K o w vs l→vs.length=l.length*3
 |_,[],h=>by have h1:_=[]:=h;rw[h1];rfl
 |_,x::r,⟨v1,v2,h1,h2,h3⟩=>by
  rw[h1,List.length_append,h2.len,h3.len,List.length_cons];omega
theorem jE.append{K:aA→Prop}{o:Mark}{w:World}:∀{vs us:List Value} {l m:List iw},jE K o w vs l→jE K o w us m→jE K o w (vs++us) (l++m)
 |_,_,[],_,h,k=>by have h1:_=[]:=h;rw[h1];exact k
 |_,_,x::r,_,⟨v1,v2,h1,h2,h3⟩,k=>⟨v1,v2++_,by rw[h1,TK],h2,h3.append k⟩
theorem jE.at_{K:aA→Prop}{o:Mark}{w:World}:∀{vs:List Value} {l:List iw} {k:Nat} {x:iw},jE K o w vs l→l[k]? =some x→∃a c q,vs[k*3]? =some (.int .i64 x.id)∧vs[k*3+1]? =some (.slice a x.hash.length c)∧vs[k*3+2]? =some (ptr q)∧x.hash.length≤c∧ah (fun b=>o b=0∧b<w.heap.size) w a x.hash.length (x.hash.map bv)∧gZ o 0 w q x.t∧K x.t
 |_,[],k,x,_,hx=>by simp at hx
 |_,y::r,0,x,⟨v1,v2,h1,h2,h3⟩,hx=>by
  have hyx:y=x:=aaH hx;subst hyx;obtain⟨a,c,q,e1,e2,e3,e4,e5⟩:=h2;subst e1 h1;exact⟨a,c,q,rfl,rfl,rfl,e2,e3,e4,e5⟩
 |_,y::r,k+1,x,⟨v1,v2,h1,h2,h3⟩,hx=>by
  obtain⟨a,c,q,e1,e2,e3,e4⟩:=jE.at_ h3 (k:=k) (x:=x) (by simpa using hx);have hl:=h2.len;subst h1;refine⟨a,c,q,?_,?_,?_,e4⟩
  ·rw[aaw (by omega),←e1];congr 1;omega
  ·rw[aaw (by omega),←e2];congr 1;omega
  ·rw[aaw (by omega),←e3];congr 1;omega
theorem jE.take{K:aA→Prop}{o:Mark}{w:World}:∀{vs:List Value} {l:List iw} (k:Nat),jE K o w vs l→jE K o w (vs.take (k*3)) (l.take k)
 |_,[],k,h=>by have h1:_=[]:=h;rw[h1];simp;exact rfl
 |_,y::r,0,_=>by simp;exact rfl
 |_,y::r,k+1,⟨v1,v2,h1,h2,h3⟩=>by
  subst h1;have hl:=h2.len;refine⟨v1,v2.take (k*3),?_,h2,h3.take k⟩;rw[List.take_append,List.take_of_length_le (by omega)];congr 2;omega
theorem jS.step{K:aA→Prop}{o o':Mark}{I:Nat→Prop}{j:Nat}{w w':World}{s:Nat}{S:lN}(h:jS K o j w s S)(hi:¬I 0)(hj:¬I j)(hs:Step o I w o' w'):jS K o' j w' s S:=by
 obtain⟨v,la,lc,vals,h1,h2,h3,h4,h5,h6,h7,h8⟩:=h.at_;refine⟨v,la,lc,vals,(hs.block h3 (by rw[h2];exact hj)).trans h1,(hs.old s h3).trans h2,Nat.lt_of_lt_of_le h3 hs.keep.size,?_,fun b hb=> ?_,h6.step hi hs,h7,h8.move hs.keep.size fun b hb hbw=>⟨⟨(hs.old b hb.2).trans hb.1,Nat.lt_of_lt_of_le hb.2 hs.keep.size⟩,hs.block hb.2 (by rw[hb.1];exact hi)⟩⟩
 ·obtain⟨k1,k2⟩:=h4;refine⟨k1,?_⟩;rcases k2 with k2|⟨g,cap,cur,e1,e2,e3,e4⟩
  ·exact .inl k2
  ·have h9:=h5 g (by rw[e1];rfl);exact .inr ⟨g,cap,cur,e1,e2,(hs.block h9.2.2 (by rw[h9.1];exact hj)).trans e3,e4⟩
 ·obtain⟨k1,k2,k3⟩:=h5 b hb;exact⟨(hs.old b k3).trans k1,k2,Nat.lt_of_lt_of_le k3 hs.keep.size⟩
end Go.Proofs.YtjnhnlabpccgjaaGreatDoor
