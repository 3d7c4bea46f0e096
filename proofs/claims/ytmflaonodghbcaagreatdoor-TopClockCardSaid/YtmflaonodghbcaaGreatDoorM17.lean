/- DERIVED -/
import Derived.Test.YtmflaonodghbcaaGreatDoorProg
import Derived.Shelf.SlIter.Nil
import Derived.Shelf.SlIter.Sorted
import Derived.Shelf.SortM.Plain
import Derived.Shelf.SortM.SortNone
import Derived.Ground.GgzProg
import Derived.Ground.SlgmProg
import Derived.Test.YtmflaonodghbcaaGreatDoorM05
import Derived.Test.YtmflaonodghbcaaGreatDoorM16
set_option maxRecDepth 100000
set_option maxHeartbeats 64000000
set_option linter.all false
namespace Go.Proofs
open Go.Shelf
def Tryz.AO:Go.Shelf.Ren:=⟨fun|7=>181|10=>229|n=>n,fun|23=>190|26=>9|3=>3|28=>265|0=>0|27=>264|33=>320|4=>4|n=>n,fun|n=>n⟩
theorem Tryz.Vp:Go.Proofs.SlLaysZ.n7 Tryz.prog Tryz.AO:={
 mixed:=by kernel_rfl
 f7:=⟨Tryz.f181.name,by decide,Tryz.func181.trans (congrArg some (by kernel_rfl))⟩
 f10:=⟨Tryz.f229.name,by decide,Tryz.func229.trans (congrArg some (by kernel_rfl))⟩
 t0:=Tryz.underlying0
 a0:=Tryz.isAgg0
 z0:=Tryz.sizeOf0
 v0:=Tryz.zeroValue0
 t4:=Tryz.underlying4
 a4:=Tryz.isAgg4
 z4:=Tryz.sizeOf4
 v4:=Tryz.zeroValue4
 t23:=Tryz.underlying190
 a23:=Tryz.isAgg190
 z23:=Tryz.sizeOf190
 v23:=Tryz.zeroValue190
 t26:=Tryz.underlying9
 a26:=Tryz.isAgg9
 z26:=Tryz.sizeOf9
 v26:=Tryz.zeroValue9
 t27:=Tryz.underlying264
 a27:=Tryz.isAgg264
 z27:=Tryz.sizeOf264
 v27:=Tryz.zeroValue264
 t28:=Tryz.underlying265
 a28:=Tryz.isAgg265
 z28:=Tryz.sizeOf265
 v28:=Tryz.zeroValue265
 t33:=Tryz.underlying320
 a33:=Tryz.isAgg320
 z33:=Tryz.sizeOf320
 v33:=Tryz.zeroValue320}
def Tryz.BN:Go.Shelf.Ren:=⟨fun|6=>180|8=>227|9=>228|11=>261|13=>208|12=>262|23=>251|24=>252|14=>280|15=>281|16=>282|17=>283|18=>284|19=>285|20=>286|21=>287|22=>288|25=>296|26=>270|27=>271|28=>297|29=>298|30=>299|31=>306|n=>n,fun|26=>9|28=>265|24=>33|0=>0|3=>3|37=>167|48=>165|50=>29|4=>4|40=>330|39=>329|45=>207|5=>5|9=>9|51=>356|55=>359|57=>378|58=>321|33=>320|n=>n,fun|n=>n⟩
theorem Tryz.Qw:Go.Proofs.SlLaysZ.n6 Tryz.prog Tryz.BN:={
 mixed:=by kernel_rfl
 f6:=⟨Tryz.f180.name,by decide,Tryz.func180.trans (congrArg some (by kernel_rfl))⟩
 f8:=⟨Tryz.f227.name,by decide,Tryz.func227.trans (congrArg some (by kernel_rfl))⟩
 f11:=⟨Tryz.f261.name,by decide,Tryz.func261.trans (congrArg some (by kernel_rfl))⟩
 t0:=Tryz.underlying0
 a0:=Tryz.isAgg0
 z0:=Tryz.sizeOf0
 v0:=Tryz.zeroValue0
 t24:=Tryz.underlying33
 a24:=Tryz.isAgg33
 z24:=Tryz.sizeOf33
 v24:=Tryz.zeroValue33
 t26:=Tryz.underlying9
 a26:=Tryz.isAgg9
 z26:=Tryz.sizeOf9
 v26:=Tryz.zeroValue9
 t28:=Tryz.underlying265
 a28:=Tryz.isAgg265
 z28:=Tryz.sizeOf265
 v28:=Tryz.zeroValue265
 i26:=by kernel_rfl}
def Tryz.RS:Go.Shelf.Ren:=⟨fun|6=>228|8=>208|9=>262|19=>251|20=>252|21=>280|22=>281|23=>282|24=>283|25=>284|26=>285|27=>286|28=>287|29=>288|36=>296|31=>270|32=>271|37=>297|38=>298|39=>299|41=>306|n=>n,fun|27=>33|29=>9|3=>3|32=>167|26=>33|0=>0|44=>165|46=>29|4=>4|36=>330|35=>329|41=>207|5=>5|9=>9|53=>356|57=>359|63=>378|64=>321|n=>n,fun|n=>n⟩
theorem Tryz.sortS:Go.Proofs.SlLaysM.n6 Tryz.prog Tryz.RS:={
 mixed:=by kernel_rfl
 f6:=⟨Tryz.f228.name,by decide,Tryz.func228.trans (congrArg some (by kernel_rfl))⟩
 f8:=Tryz.func208.trans (congrArg some (by kernel_rfl))
 f9:=⟨Tryz.f262.name,by decide,Tryz.func262.trans (congrArg some (by kernel_rfl))⟩
 f19:=Tryz.func251.trans (congrArg some (by kernel_rfl))
 f20:=Tryz.func252.trans (congrArg some (by kernel_rfl))
 f21:=⟨Tryz.f280.name,by decide,Tryz.func280.trans (congrArg some (by kernel_rfl))⟩
 f22:=⟨Tryz.f281.name,by decide,Tryz.func281.trans (congrArg some (by kernel_rfl))⟩
 f23:=⟨Tryz.f282.name,by decide,Tryz.func282.trans (congrArg some (by kernel_rfl))⟩
 f24:=⟨Tryz.f283.name,by decide,Tryz.func283.trans (congrArg some (by kernel_rfl))⟩
 f25:=⟨Tryz.f284.name,by decide,Tryz.func284.trans (congrArg some (by kernel_rfl))⟩
 f26:=⟨Tryz.f285.name,by decide,Tryz.func285.trans (congrArg some (by kernel_rfl))⟩
 f27:=⟨Tryz.f286.name,by decide,Tryz.func286.trans (congrArg some (by kernel_rfl))⟩
 f28:=⟨Tryz.f287.name,by decide,Tryz.func287.trans (congrArg some (by kernel_rfl))⟩
 f29:=⟨Tryz.f288.name,by decide,Tryz.func288.trans (congrArg some (by kernel_rfl))⟩
 f31:=Tryz.func270.trans (congrArg some (by kernel_rfl))
 f32:=Tryz.func271.trans (congrArg some (by kernel_rfl))
 f36:=⟨Tryz.f296.name,by decide,Tryz.func296.trans (congrArg some (by kernel_rfl))⟩
 f37:=⟨Tryz.f297.name,by decide,Tryz.func297.trans (congrArg some (by kernel_rfl))⟩
 f38:=⟨Tryz.f298.name,by decide,Tryz.func298.trans (congrArg some (by kernel_rfl))⟩
 f39:=⟨Tryz.f299.name,by decide,Tryz.func299.trans (congrArg some (by kernel_rfl))⟩
 f41:=⟨Tryz.f306.name,by decide,Tryz.func306.trans (congrArg some (by kernel_rfl))⟩
 t0:=Tryz.underlying0
 a0:=Tryz.isAgg0
 z0:=Tryz.sizeOf0
 v0:=Tryz.zeroValue0
 t3:=Tryz.underlying3
 a3:=Tryz.isAgg3
 z3:=Tryz.sizeOf3
 v3:=Tryz.zeroValue3
 t4:=Tryz.underlying4
 a4:=Tryz.isAgg4
 z4:=Tryz.sizeOf4
 v4:=Tryz.zeroValue4
 t5:=Tryz.underlying5
 a5:=Tryz.isAgg5
 z5:=Tryz.sizeOf5
 v5:=Tryz.zeroValue5
 t9:=Tryz.underlying9
 a9:=Tryz.isAgg9
 z9:=Tryz.sizeOf9
 v9:=Tryz.zeroValue9
 t26:=Tryz.underlying33
 a26:=Tryz.isAgg33
 z26:=Tryz.sizeOf33
 v26:=Tryz.zeroValue33
 t27:=Tryz.underlying33
 a27:=Tryz.isAgg33
 z27:=Tryz.sizeOf33
 v27:=Tryz.zeroValue33
 t29:=Tryz.underlying9
 a29:=Tryz.isAgg9
 z29:=Tryz.sizeOf9
 v29:=Tryz.zeroValue9
 t32:=Tryz.underlying167
 a32:=Tryz.isAgg167
 z32:=Tryz.sizeOf167
 v32:=Tryz.zeroValue167
 t35:=Tryz.underlying329
 a35:=Tryz.isAgg329
 z35:=Tryz.sizeOf329
 v35:=Tryz.zeroValue329
 t36:=Tryz.underlying330
 a36:=Tryz.isAgg330
 z36:=Tryz.sizeOf330
 v36:=Tryz.zeroValue330
 t41:=Tryz.underlying207
 a41:=Tryz.isAgg207
 z41:=Tryz.sizeOf207
 v41:=Tryz.zeroValue207
 t44:=Tryz.underlying165
 a44:=Tryz.isAgg165
 z44:=Tryz.sizeOf165
 v44:=Tryz.zeroValue165
 t46:=Tryz.underlying29
 a46:=Tryz.isAgg29
 z46:=Tryz.sizeOf29
 v46:=Tryz.zeroValue29
 t53:=Tryz.underlying356
 a53:=Tryz.isAgg356
 z53:=Tryz.sizeOf356
 v53:=Tryz.zeroValue356
 t57:=Tryz.underlying359
 a57:=Tryz.isAgg359
 z57:=Tryz.sizeOf359
 v57:=Tryz.zeroValue359
 t63:=Tryz.underlying378
 a63:=Tryz.isAgg378
 z63:=Tryz.sizeOf378
 v63:=Tryz.zeroValue378
 t64:=Tryz.underlying321
 a64:=Tryz.isAgg321
 z64:=Tryz.sizeOf321
 v64:=Tryz.zeroValue321}
open Go.RowKit Go.Maps Go.Sort Go.Shelf
theorem Tryz.Vq(m:Nat):AnyZ.SortsIn Tryz.prog Tryz.BN Fence.wide m:=
 ⟨fun blk off cap ss W hH hblk hsz=>callsIn_wide.2 (AnyM.slices_Sort_string Tryz.sortS blk off cap ss W hH hblk hsz),
  fun p cap W=>callsIn_wide.2 (AnyM.slices_Sort_string_none Tryz.sortS p cap W)⟩
theorem Tryz.I7(mb:Option Nat)(W:World):Calls Tryz.prog 181 #[.map mb] W fun e w'=>e= .returned (.func (.func 229) #[] #[.pointer (some ⟨W.heap.size,0,none⟩)])∧w'=W.alloc (.cells #[.map mb] 190):=
 callsIn_wide.1 (AnyZ.keys_in Tryz.Vp Fence.wide 5 trivial rfl mb W)
theorem Tryz.G5{H:Type}(b nn:Nat)(D0:DataW H)(R:Value→Option (DataW H×List MemPlace))(w:World)(hown:w.ownsMap Tryz.prog 9 R b nn D0)(hmax:Maps.size D0≤maxLen)(hbytes:Maps.size D0*16≤140737488355328):
  Calls Tryz.prog 180 #[.func (.func 229) #[] #[.pointer (some ⟨w.heap.size,0,none⟩)]] (w.alloc (.cells #[.map (some b)] 190)) fun e w'=>∃(v:Value) (ss:List (List UInt8)),e= .returned v∧ss.Perm (strKeys D0)∧
   w'.ownsRow (w.alloc (.cells #[.map (some b)] 190)).heap.size 9 1 v ss.length ((ss.mergeSort (fun x y=>decide (x≤y))).map encStr)∧(v= .slice none 0 0↔ss=[])∧Below (w.alloc (.cells #[.map (some b)] 190)).heap.size (w.alloc (.cells #[.map (some b)] 190)) w':=by
 have hbl:=hown.lt
 have hseq:SeqGives Fence.wide 2 Tryz.prog 229 #[.pointer (some ⟨w.heap.size,0,none⟩)] encStr (fun ss=>ss.Perm (strKeys D0)) (Maps.size D0) (w.alloc (.cells #[.map (some b)] 190)):=
  AnyZ.keys_gives (ρ:=Tryz.AO) {Tryz.Vp with} Fence.wide _ trivial rfl (by omega) w.heap.size b nn D0 _ (by simp) (by simp) (by
   obtain⟨es,clock,hb,Ft,hs,hD⟩:=hown;exact⟨es,clock,(Below.heap_alloc _ _ b hbl).trans hb,Ft,hs,hD⟩)
 exact callsIn_wide.1 (AnyZ.sorted_in Tryz.Qw Fence.wide 5 trivial trivial trivial trivial rfl (by omega) (Tryz.Vq _) (enters_of Tryz.func228 (by kernel_rfl) rfl) 229 #[.pointer (some ⟨w.heap.size,0,none⟩)] trivial (enters_of Tryz.func229 (by kernel_rfl) rfl) _ _ hmax hbytes _ hseq)
end Go.Proofs
namespace Go.Proofs.YtmflaonodghbcaaGreatDoor
open Go.ChangeShapes Go.WideShapes Go.ChangeAt Go.RowKit
theorem BO(l:List (Nm×Value)):strKeys (wP fT l)=l.map (·.1):=by
 unfold strKeys wP;simp only[List.map_map];rfl
theorem bb_lt:∀{a b:List UInt8},bytesBefore a b=true→a<b
 |[],[],h=>by cases h
 |[],_::_,_=>List.nil_lt_cons _ _
 |_::_,[],h=>by cases h
 |x::r,y::s,h=>by
  rw[List.cons_lt_cons_iff];simp only[bytesBefore,abz,aa2,aar,beq_iff_eq]at h;rcases h with h|⟨h1,h2⟩
  ·exact .inl h
  ·exact .inr ⟨h1,bb_lt h2⟩
theorem zx{α:Type}{l:List (Nm×α)}(hl:aO bytesBefore l){ss:List Nm}(hp:ss.Perm (l.map (·.1))):ss.mergeSort (fun x y=>decide (x≤y))=l.map (·.1):=by
 have h1:(ss.mergeSort (fun x y=>decide (x≤y))).Pairwise (fun a b=>decide (a≤b)=true):=List.pairwise_mergeSort (fun a b c h1 h2=>by simp only[aar]at*;exact List.le_trans h1 h2) (fun a b=>by simp only[abz,aar];exact List.le_total a b) ss;have h2:(l.map (·.1)).Pairwise (fun a b=>decide (a≤b)=true):=by
  rw[List.pairwise_map];exact hl.imp fun{a b} h=>by simp only[aar];exact List.le_of_lt (bb_lt h)
 exact((List.mergeSort_perm ss _).trans hp).eq_of_pairwise (fun a b _ _ h1 h2=>by simp only[aar]at h1 h2;exact List.le_antisymm h1 h2) h1 h2
def uq(T:aI)(id:Int):List Nm×Int:=match aj id T with
 |none=>([],20)
 |some x=>if x.kind=2 then(x.names.map (·.1),0)else([],23)
def Qx(w:World)(q:List Nm×Int)(e:Ending)(w':World):Prop:=
 ∃a c,e= .returned (.tuple #[.slice a q.1.length c,.int .i64 q.2])∧q.1.length≤c∧bH (fun x=>w.heap.size≤x∧x<w'.heap.size) w' a q.1.length (q.1.map strOf)∧Below w.heap.size w w'
section
variable{g:Nat→Own}{D:Nat→Prop}{p mb:Nat}{ib nb:Int→Nat}{T:aI}
theorem Zj(id:Int)(w:World)(h:aM g D w p mb ib nb T)(hT:fu T)(hid:(Lit.int .i64 id).wf=true):Calls Tryz.prog 132 #[ptr p,.int .i64 id] w (Qx w (uq T id)):=by
 obtain⟨hc0,hpw,hmw⟩:=h.cell;have hok:aU.ok id:=hid;have lT:=ab9 h.map;have HT:=ab9 hT;cases hx:aj id T with
 |none=>
  have HG:acd (aj id (T.map fun q=>(q.1,ptr (ib q.1)))=none):=by rw[dH,hx];rfl
  have HL:acd (uq T id=([],20)):=by unfold uq;rw[hx];exact rfl
  clear hx h hT hid;go_enter Tryz.func132,Tryz.ntmps132;go_wp2_with (first|(at_lookup;refine aS aU rfl _ _ 186 189 rfl Tryz.underlying186 (Tryz.bW _) rfl lT.o id rfl hok ?_;rw[HG.o]))
  go_ret2
  rw[HL.o];exact⟨none,0,rfl,Nat.le_refl _,⟨ah.nil _ _ _,by simp⟩,Below.refl _ _⟩
 |some x=>
  have HG:acd (aj id (T.map fun q=>(q.1,ptr (ib q.1)))=some (ptr (ib id))):=by rw[dH,hx];rfl
  obtain⟨c0,c1,c2,c3,c4,c5,c7,hiw⟩:=(h.item id x hx).cell;have O1:=ab9 (hT.each id x hx);have Ed:=hT.few hx;by_cases hk:x.kind=2
  ·have HL:acd (uq T id=(x.names.map (·.1),0)):=by unfold uq;rw[hx];simp only[if_pos hk];first|exact rfl|exact trivial
   have e2:eu x (nb id)= .map (some (nb id)):=if_pos hk;rw[e2]at c7;rw[hk]at c1;have hM:=(h.item id x hx).names hk;have hsz:(dJ x).length=x.names.length:=List.length_map _;have hkk:=Tryz.I7 (some (nb id)) w;have hs:=Tryz.G5 (nb id) (dJ x).length (wP fT (dJ x)) mV w hM (by rw[jL,hsz];unfold maxLen;omega) (by rw[jL,hsz];omega);clear hx h hT hid hk e2 hM hsz;go_enter Tryz.func132,Tryz.ntmps132;go_wp2_with (first|(at_lookup;refine aS aU rfl _ _ 186 189 rfl Tryz.underlying186 (Tryz.bW _) rfl lT.o id rfl hok ?_;rw[HG.o])|(go_at_call 181;refine hkk.mono ?_;rintro e w' ⟨rfl,rfl⟩)|(go_at_call 180;refine hs.mono ?_;rintro e w' ⟨v,ss,rfl,hp,hown,hnil,hB⟩))
   go_ret2
   rw[HL.o];rw[BO]at hp;have hml:(dJ x).map (·.1)=x.names.map (·.1):=by unfold dJ;rw[List.map_map];rfl
   rw[hml]at hp;rw[zx O1.o.sorted hp]at hown;have hlen:ss.length=(x.names.map (·.1)).length:=hp.length_eq;have hB2:Below w.heap.size w w':=(acf.alloc ace _).trans (hB.mono (by simp));have hs1:=hB.size;rw[Pd]at hs1;have hgood:∀s∈(x.names.map (·.1)).map strOf,s.size≤maxLen:=by
    intro s hs;obtain⟨l,hl,rfl⟩:=List.mem_map.1 hs;obtain⟨e,he,rfl⟩:=List.mem_map.1 hl;have:=zf _ (O1.o.good e he);rw[iJ];unfold maxLen;omega
   have hll:(x.names.map (·.1)).length≤4096:=by rw[List.length_map];exact Ed
   obtain⟨h1,h2⟩:=hown;simp only[List.length_map]at h1;generalize x.names.map (·.1)=L at*;rcases h2 with⟨rfl,h0⟩|⟨g,cap,cur,rfl,hg,hcur,hc1,hc2,hcs,htk⟩
   ·have:L=[]:=Pe (by omega);subst this;exact⟨none,0,rfl,Nat.le_refl _,⟨ah.nil _ _ _,by simp⟩,hB2⟩
   ·have hgw:=(uh.1 hcur).1;rw[Pd]at hg;refine⟨some ⟨g,0,none⟩,cap,by rw[←hlen];rfl,by simp only;omega,⟨⟨by simp,by simp only;unfold maxLen;omega,fun h0=>⟨g,0,rfl,⟨by omega,hgw⟩,hgw,fun i hi=> ?_⟩⟩,hgood⟩,hB2⟩;simp only[World.cell?,hcur,Nat.zero_add];rw[List.map_map,show L.map (Value.string∘strOf)=L.map Go.Proofs.encStr from rfl];rw[←htk,aat,if_pos (show i<ss.length*1 by rw[hlen];simp only at hi;omega)];simp
  ·have HL:acd (uq T id=([],23)):=by unfold uq;rw[hx];simp only[if_neg hk];first|exact rfl|exact trivial
   have hkk:(x.kind==2)=false:=by simpa using hk
   have hkn:(x.kind !=2)=true:=by simpa using hk
   clear hx h hT hid hk c7;go_enter Tryz.func132,Tryz.ntmps132;go_wp2_with (first|(at_lookup;refine aS aU rfl _ _ 186 189 rfl Tryz.underlying186 (Tryz.bW _) rfl lT.o id rfl hok ?_;rw[HG.o]))
   go_ret2
   rw[HL.o];exact⟨none,0,rfl,Nat.le_refl _,⟨ah.nil _ _ _,by simp⟩,Below.refl _ _⟩
end
end Go.Proofs.YtmflaonodghbcaaGreatDoor
namespace Go.Proofs
open Go.RowKit Go.Maps Go.Sort Go.Shelf
theorem Tryz.NH(w:World):Calls Tryz.prog 180 #[.func (.func 229) #[] #[.pointer (some ⟨w.heap.size,0,none⟩)]] (w.alloc (.cells #[.map none] 190)) fun e w'=>e= .returned (.slice none 0 0)∧Below (w.alloc (.cells #[.map none] 190)).heap.size (w.alloc (.cells #[.map none] 190)) w':=by
 have hseq:SeqGives Fence.wide 2 Tryz.prog 229 #[.pointer (some ⟨w.heap.size,0,none⟩)] encStr (fun ss:List (List UInt8)=>ss=[]) 0 (w.alloc (.cells #[.map none] 190)):=
  AnyZ.keys_gives_nil (ρ:=Tryz.AO) {Tryz.Vp with} Fence.wide _ trivial rfl w.heap.size _ (by simp) (by simp)
 have h:=callsIn_wide.1 (AnyZ.sorted_in Tryz.Qw Fence.wide 5 trivial trivial trivial trivial rfl (by omega) (Tryz.Vq _) (enters_of Tryz.func228 (by kernel_rfl) rfl) 229 #[.pointer (some ⟨w.heap.size,0,none⟩)] trivial (enters_of Tryz.func229 (by kernel_rfl) rfl) _ 0 (Nat.zero_le _) (by omega) _ hseq);refine h.mono ?_;rintro e w' ⟨v,ss,rfl,rfl,hrow,hnil,hb⟩;obtain rfl:v= .slice none 0 0:=hnil.2 rfl;exact⟨rfl,hb⟩
end Go.Proofs
namespace Go.Proofs.YtmflaonodghbcaaGreatDoor
open Go.ChangeShapes Go.WideShapes Go.ChangeAt Go.RowKit
def Zk(w:World)(L:List Nm)(e:Ending)(w':World):Prop:=
 ∃a c,e= .returned (.slice a L.length c)∧L.length≤c∧bH (fun x=>w.heap.size≤x∧x<w'.heap.size) w' a L.length (L.map strOf)∧Below w.heap.size w w'
section
variable{g:Nat→Own}{D:Nat→Prop}{p mb:Nat}{ib nb:Int→Nat}{T:aI}
theorem sorted_at(k:Int)(x:eG)(w:World)(h:aM g D w p mb ib nb T)(hT:OkW T)(hx:aj k T=some x)(Ed:x.names.length≤65535):
  Calls Tryz.prog 180 #[.func (.func 229) #[] #[.pointer (some ⟨w.heap.size,0,none⟩)]] (w.alloc (.cells #[eu x (nb k)] 190)) (Zk (w.alloc (.cells #[eu x (nb k)] 190)) (x.names.map (·.1))):=by
 have O1:=hT.each k x hx;by_cases hk:x.kind=2
 ·have e2:eu x (nb k)= .map (some (nb k)):=if_pos hk;rw[e2];have hM:=(h.item k x hx).names hk;have hsz:(dJ x).length=x.names.length:=List.length_map _;refine(Tryz.G5 (nb k) (dJ x).length (wP fT (dJ x)) mV w hM (by rw[jL,hsz];unfold maxLen;omega) (by rw[jL,hsz];omega)).mono ?_;rintro e w' ⟨v,ss,rfl,hp,hown,hnil,hB⟩;rw[BO]at hp;have hml:(dJ x).map (·.1)=x.names.map (·.1):=by unfold dJ;rw[List.map_map];rfl
  rw[hml]at hp;rw[zx O1.sorted hp]at hown;have hlen:ss.length=(x.names.map (·.1)).length:=hp.length_eq;have hgood:∀s∈(x.names.map (·.1)).map strOf,s.size≤maxLen:=by
   intro s hs;obtain⟨l,hl,rfl⟩:=List.mem_map.1 hs;obtain⟨e,he,rfl⟩:=List.mem_map.1 hl;have:=zf _ (O1.good e he);rw[iJ];unfold maxLen;omega
  obtain⟨a,c,rfl,hc⟩:=bG hown;obtain⟨_,hr⟩:=ah.mU hown;rw[hlen]at hr hc;have hr2:ah (fun x_1=>(w.alloc (.cells #[.map (some (nb k))] 190)).heap.size≤x_1∧x_1<w'.heap.size) w' a (x.names.map (·.1)).length (((x.names.map (·.1)).map strOf).map .string):=by
   rw[List.map_map];exact hr
  exact⟨a,c,by rw[hlen],hc,⟨hr2,hgood⟩,hB⟩
 ·have e2:eu x (nb k)= .map none:=if_neg hk;have hnil:x.names=[]:=O1.file (O1.kind.resolve_right hk);rw[e2,hnil];refine(Tryz.NH w).mono ?_;rintro e w' ⟨rfl,hB⟩;exact⟨none,0,rfl,Nat.le_refl _,⟨ah.nil _ _ _,by simp⟩,hB⟩
end
end Go.Proofs.YtmflaonodghbcaaGreatDoor
