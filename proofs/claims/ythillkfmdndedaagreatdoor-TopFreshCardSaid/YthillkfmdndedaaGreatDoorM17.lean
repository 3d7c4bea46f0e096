/- DERIVED -/
import Derived.Shelf.SlIter.Nil
import Derived.Shelf.SlIter.Sorted
import Derived.Ground.GgzProg
import Derived.Test.YthillkfmdndedaaGreatDoorM16
set_option maxRecDepth 100000
set_option maxHeartbeats 64000000
set_option linter.all false
namespace Go.Proofs
open Go.Shelf
def Tryz.Bt:Go.Shelf.Ren:=⟨λ|7=>170|10=>219|n=>n,λ|23=>194|26=>9|3=>3|28=>250|0=>0|27=>249|33=>311|4=>4|n=>n,λ|n=>n⟩
theorem Tryz.WE:Go.Proofs.SlLaysZ.n7 Tryz.prog Tryz.Bt:={
 mixed:=by kernel_rfl
 f7:=⟨Tryz.f170.name,by decide,FR Tryz.func170 (by kernel_rfl)⟩
 f10:=⟨Tryz.f219.name,by decide,FR Tryz.func219 (by kernel_rfl)⟩
 t0:=Tryz.underlying0
 a0:=Tryz.isAgg0
 z0:=Tryz.sizeOf0
 v0:=Tryz.zeroValue0
 t4:=Tryz.underlying4
 a4:=Tryz.isAgg4
 z4:=Tryz.sizeOf4
 v4:=Tryz.zeroValue4
 t23:=Tryz.underlying194
 a23:=Tryz.isAgg194
 z23:=Tryz.sizeOf194
 v23:=Tryz.zeroValue194
 t26:=Tryz.underlying9
 a26:=Tryz.isAgg9
 z26:=Tryz.sizeOf9
 v26:=Tryz.zeroValue9
 t27:=Tryz.underlying249
 a27:=Tryz.isAgg249
 z27:=Tryz.sizeOf249
 v27:=Tryz.zeroValue249
 t28:=Tryz.underlying250
 a28:=Tryz.isAgg250
 z28:=Tryz.sizeOf250
 v28:=Tryz.zeroValue250
 t33:=Tryz.underlying311
 a33:=Tryz.isAgg311
 z33:=Tryz.sizeOf311
 v33:=Tryz.zeroValue311}
def Tryz.CJ:Go.Shelf.Ren:=⟨λ|6=>169|8=>217|9=>218|11=>248|13=>250|12=>249|23=>274|24=>275|14=>265|15=>266|16=>267|17=>268|18=>269|19=>270|20=>271|21=>272|22=>273|25=>292|26=>293|27=>294|28=>295|29=>296|30=>297|31=>309|n=>n,λ|26=>9|28=>250|24=>34|0=>0|3=>3|37=>156|48=>154|50=>29|4=>4|40=>355|39=>354|45=>211|5=>5|9=>9|51=>377|55=>380|57=>387|58=>321|33=>311|n=>n,λ|n=>n⟩
theorem Tryz.QS:Go.Proofs.SlLaysZ.n6 Tryz.prog Tryz.CJ:={
 mixed:=by kernel_rfl
 f6:=⟨Tryz.f169.name,by decide,FR Tryz.func169 (by kernel_rfl)⟩
 f8:=⟨Tryz.f217.name,by decide,FR Tryz.func217 (by kernel_rfl)⟩
 f11:=⟨Tryz.f248.name,by decide,FR Tryz.func248 (by kernel_rfl)⟩
 t0:=Tryz.underlying0
 a0:=Tryz.isAgg0
 z0:=Tryz.sizeOf0
 v0:=Tryz.zeroValue0
 t24:=Tryz.underlying34
 a24:=Tryz.isAgg34
 z24:=Tryz.sizeOf34
 v24:=Tryz.zeroValue34
 t26:=Tryz.underlying9
 a26:=Tryz.isAgg9
 z26:=Tryz.sizeOf9
 v26:=Tryz.zeroValue9
 t28:=Tryz.underlying250
 a28:=Tryz.isAgg250
 z28:=Tryz.sizeOf250
 v28:=Tryz.zeroValue250
 i26:=by kernel_rfl}
def Tryz.SL:Go.Shelf.Ren:=⟨λ|6=>218|8=>250|9=>249|19=>274|20=>275|21=>265|22=>266|23=>267|24=>268|25=>269|26=>270|27=>271|28=>272|29=>273|36=>292|31=>293|32=>294|37=>295|38=>296|39=>297|41=>309|n=>n,λ|27=>34|29=>9|3=>3|32=>156|26=>34|0=>0|44=>154|46=>29|4=>4|36=>355|35=>354|41=>211|5=>5|9=>9|53=>377|57=>380|63=>387|64=>321|n=>n,λ|n=>n⟩
theorem Tryz.sortS:Go.Proofs.SlLaysM.n6 Tryz.prog Tryz.SL:={
 mixed:=by kernel_rfl
 f6:=⟨Tryz.f218.name,by decide,FR Tryz.func218 (by kernel_rfl)⟩
 f8:=FR Tryz.func250 (by kernel_rfl)
 f9:=⟨Tryz.f249.name,by decide,FR Tryz.func249 (by kernel_rfl)⟩
 f19:=FR Tryz.func274 (by kernel_rfl)
 f20:=FR Tryz.func275 (by kernel_rfl)
 f21:=⟨Tryz.f265.name,by decide,FR Tryz.func265 (by kernel_rfl)⟩
 f22:=⟨Tryz.f266.name,by decide,FR Tryz.func266 (by kernel_rfl)⟩
 f23:=⟨Tryz.f267.name,by decide,FR Tryz.func267 (by kernel_rfl)⟩
 f24:=⟨Tryz.f268.name,by decide,FR Tryz.func268 (by kernel_rfl)⟩
 f25:=⟨Tryz.f269.name,by decide,FR Tryz.func269 (by kernel_rfl)⟩
 f26:=⟨Tryz.f270.name,by decide,FR Tryz.func270 (by kernel_rfl)⟩
 f27:=⟨Tryz.f271.name,by decide,FR Tryz.func271 (by kernel_rfl)⟩
 f28:=⟨Tryz.f272.name,by decide,FR Tryz.func272 (by kernel_rfl)⟩
 f29:=⟨Tryz.f273.name,by decide,FR Tryz.func273 (by kernel_rfl)⟩
 f31:=FR Tryz.func293 (by kernel_rfl)
 f32:=FR Tryz.func294 (by kernel_rfl)
 f36:=⟨Tryz.f292.name,by decide,FR Tryz.func292 (by kernel_rfl)⟩
 f37:=⟨Tryz.f295.name,by decide,FR Tryz.func295 (by kernel_rfl)⟩
 f38:=⟨Tryz.f296.name,by decide,FR Tryz.func296 (by kernel_rfl)⟩
 f39:=⟨Tryz.f297.name,by decide,FR Tryz.func297 (by kernel_rfl)⟩
 f41:=⟨Tryz.f309.name,by decide,FR Tryz.func309 (by kernel_rfl)⟩
 t0:=Tryz.underlying0
 a0:=Tryz.isAgg0
 z0:=Tryz.sizeOf0
 v0:=Tryz.zeroValue0
 t3:=Tryz.underlying3
 a3:=Tryz.isAgg3
 z3:=Tryz.sizeOf3
 v3:=Tryz.zeroValue3
 t4:=Tryz.underlying4
 a4:=Tryz.isAgg4
 z4:=Tryz.sizeOf4
 v4:=Tryz.zeroValue4
 t5:=Tryz.underlying5
 a5:=Tryz.isAgg5
 z5:=Tryz.sizeOf5
 v5:=Tryz.zeroValue5
 t9:=Tryz.underlying9
 a9:=Tryz.isAgg9
 z9:=Tryz.sizeOf9
 v9:=Tryz.zeroValue9
 t26:=Tryz.underlying34
 a26:=Tryz.isAgg34
 z26:=Tryz.sizeOf34
 v26:=Tryz.zeroValue34
 t27:=Tryz.underlying34
 a27:=Tryz.isAgg34
 z27:=Tryz.sizeOf34
 v27:=Tryz.zeroValue34
 t29:=Tryz.underlying9
 a29:=Tryz.isAgg9
 z29:=Tryz.sizeOf9
 v29:=Tryz.zeroValue9
 t32:=Tryz.underlying156
 a32:=Tryz.isAgg156
 z32:=Tryz.sizeOf156
 v32:=Tryz.zeroValue156
 t35:=Tryz.underlying354
 a35:=Tryz.isAgg354
 z35:=Tryz.sizeOf354
 v35:=Tryz.zeroValue354
 t36:=Tryz.underlying355
 a36:=Tryz.isAgg355
 z36:=Tryz.sizeOf355
 v36:=Tryz.zeroValue355
 t41:=Tryz.underlying211
 a41:=Tryz.isAgg211
 z41:=Tryz.sizeOf211
 v41:=Tryz.zeroValue211
 t44:=Tryz.underlying154
 a44:=Tryz.isAgg154
 z44:=Tryz.sizeOf154
 v44:=Tryz.zeroValue154
 t46:=Tryz.underlying29
 a46:=Tryz.isAgg29
 z46:=Tryz.sizeOf29
 v46:=Tryz.zeroValue29
 t53:=Tryz.underlying377
 a53:=Tryz.isAgg377
 z53:=Tryz.sizeOf377
 v53:=Tryz.zeroValue377
 t57:=Tryz.underlying380
 a57:=Tryz.isAgg380
 z57:=Tryz.sizeOf380
 v57:=Tryz.zeroValue380
 t63:=Tryz.underlying387
 a63:=Tryz.isAgg387
 z63:=Tryz.sizeOf387
 v63:=Tryz.zeroValue387
 t64:=Tryz.underlying321
 a64:=Tryz.isAgg321
 z64:=Tryz.sizeOf321
 v64:=Tryz.zeroValue321}
open Go.RowKit Go.Maps Go.Sort Go.Shelf
theorem Tryz.WG(m:Nat):AnyZ.SortsIn Tryz.prog Tryz.CJ Fence.wide m:=
 ⟨λ B A u ss W C y z=>callsIn_wide.2 (AnyM.slices_Sort_string Tryz.sortS B A u ss W C y z),
  λ p u W=>callsIn_wide.2 (AnyM.slices_Sort_string_none Tryz.sortS p u W)⟩
theorem Tryz.Jw(m:Option Nat)(W:World):Dy 170 #[.map m] W λ e w'=>e= .returned (.func (.func 219) #[] #[.pointer (some ⟨W.heap.size,0,none⟩)])/\w'=W.alloc (.cells #[.map m] 194):=
 callsIn_wide.1 (AnyZ.keys_in Tryz.WE Fence.wide 5 trivial rfl m W)
theorem Tryz.Ie{H:Type}(b E:Nat)(A:DataW H)(R:Value->Option (DataW H×List MemPlace))(w:World)(u:w.ownsMap Tryz.prog 9 R b E A)(C:Maps.size A<=maxLen)(m:Maps.size A*16<=140737488355328):
  Dy 169 #[.func (.func 219) #[] #[.pointer (some ⟨w.heap.size,0,none⟩)]] (w.alloc (.cells #[.map (some b)] 194)) λ e w'=>∃(v:Value) (ss:List (I8)),e= .returned v/\ss.Perm (strKeys A)/\
   w'.ownsRow (w.alloc (.cells #[.map (some b)] 194)).heap.size 9 1 v ss.length ((ss.mergeSort (λ x y=>decide (x<=y))).map encStr)/\(v= .slice none 0 0↔ss=[])/\Below (w.alloc (.cells #[.map (some b)] 194)).heap.size (w.alloc (.cells #[.map (some b)] 194)) w':=by
 have D:=u.lt
 have B:SeqGives Fence.wide 2 Tryz.prog 219 #[.pointer (some ⟨w.heap.size,0,none⟩)] encStr (λ ss=>ss.Perm (strKeys A)) (Maps.size A) (w.alloc (.cells #[.map (some b)] 194)):=
  AnyZ.keys_gives (ρ:=Tryz.Bt) {Tryz.WE with} Fence.wide _ trivial rfl (by omega) w.heap.size b E A _ (by simp) (by simp) (by
   obtain⟨K,z,G,J,F,I⟩:=u;exact⟨K,z,(Below.heap_alloc _ _ b D).trans G,J,F,I⟩)
 exact callsIn_wide.1 (AnyZ.sorted_in Tryz.QS Fence.wide 5 trivial trivial trivial trivial rfl (by omega) (Tryz.WG _) (enters_of Tryz.func218 (by kernel_rfl) rfl) 219 #[.pointer (some ⟨w.heap.size,0,none⟩)] trivial (enters_of Tryz.func219 (by kernel_rfl) rfl) _ _ C m _ B)
end Go.Proofs
namespace Go.Proofs.YthillkfmdndedaaGreatDoor
open Go.ChangeShapes Go.WideShapes Go.ChangeAt Go.RowKit
theorem CK(l:List (Nm×Value)):strKeys (zA dD l)=l.map (·.1):=by
 unfold strKeys zA;simp only[List.map_map];rfl
theorem bb_lt:∀{a b:I8},bytesBefore a b=true->a<b
 |[],[],h=>by cases h
 |[],_::_,_=>List.nil_lt_cons _ _
 |_::_,[],h=>by cases h
 |x::r,y::s,h=>by
  rw[List.cons_lt_cons_iff];simp only[bytesBefore,abH,aaW,aap,beq_iff_eq]at h;rcases h with h|⟨u,m⟩
  ·exact .inl h
  ·exact .inr ⟨u,bb_lt m⟩
theorem zW{α:Type}{l:List (Nm×α)}(A:bA bytesBefore l){ss:List Nm}(z:ss.Perm (l.map (·.1))):ss.mergeSort (λ x y=>decide (x<=y))=l.map (·.1):=by
 have u:(ss.mergeSort (λ x y=>decide (x<=y))).Pairwise (λ a b=>decide (a<=b)=true):=List.pairwise_mergeSort (λ a b c u m=>by simp only[aap]at*;exact List.le_trans u m) (λ a b=>by simp only[abH,aap];exact List.le_total a b) ss;have m:(l.map (·.1)).Pairwise (λ a b=>decide (a<=b)=true):=by
  rw[abQ];exact A.imp λ{a b} h=>by simp only[aap];exact List.le_of_lt (bb_lt h)
 exact((List.mergeSort_perm ss _).trans z).eq_of_pairwise (λ a b _ _ u m=>by simp only[aap]at u m;exact List.le_antisymm u m) u m
def uN(T:aS)(id:Int):List Nm×Int:=match au id T with
 |none=>([],20)
 |some x=>if x.kind=2 then(x.names.map (·.1),0)else([],23)
def QT(w:World)(q:List Nm×Int)(e:Ending)(w':World):Prop:=
 ∃a c,e= .returned (.tuple #[.slice a q.1.length c,.int .i64 q.2])/\q.1.length<=c/\aW (λ x=>w.heap.size<=x/\x<w'.heap.size) w' a q.1.length (q.1.map strOf)/\Below w.heap.size w w'
section
variable{g:Nat->Own}{D:Nat->Prop}{p mb:Nat}{ib nb:Int->Nat}{T:aS}
theorem list_at(id:Int)(w:World)(h:aK g D w p mb ib nb T)(G:fA T)(y:(Lit.int .i64 id).wf=true):Dy 138 #[ptr p,.int .i64 id] w (QT w (uN T id)):=by
 obtain⟨aL,aD,aJ⟩:=h.cell;have C:aY.ok id:=y;have O:=acp h.map;have HT:=acp G;cases m:au id T with
 |none=>
  have N:acr (au id (T.map λ q=>(q.1,ptr (ib q.1)))=none):=by rw[eH,m];rfl
  have K:acr (uN T id=([],20)):=by unfold uN;rw[m];exact rfl
  clear m h G y;go_enter Tryz.func138,Tryz.ntmps138;go_wp2_with (first|(at_lookup;refine aR aY rfl _ _ 190 193 rfl Tryz.underlying190 (Tryz.bD _) rfl O.o id rfl C ?_;rw[N.o]))
  go_ret2
  rw[K.o];exact⟨none,0,rfl,Nat.le_refl _,⟨ah.nil _ _ _,by simp⟩,Below.refl _ _⟩
 |some x=>
  have N:acr (au id (T.map λ q=>(q.1,ptr (ib q.1)))=some (ptr (ib id))):=by rw[eH,m];rfl
  obtain⟨c0,c1,c2,c3,c4,c5,c7,aC⟩:=(h.item id x m).cell;have Z:=acp (G.each id x m);have tH:=G.few m;by_cases u:x.kind=2
  ·have K:acr (uN T id=(x.names.map (·.1),0)):=by unfold uN;rw[m];simp only[if_pos u];first|exact rfl|exact trivial
   have Y:dS x (nb id)= .map (some (nb id)):=if_pos u;rw[Y]at c7;rw[u]at c1;have W:=(h.item id x m).names u;have E:(bJ x).length=x.names.length:=List.length_map _;have J:=Tryz.Jw (some (nb id)) w;have U:=Tryz.Ie (nb id) (bJ x).length (zA dD (bJ x)) ou w W (by rw[mV,E];unfold maxLen;omega) (by rw[mV,E];omega);clear m h G y u Y W E;go_enter Tryz.func138,Tryz.ntmps138;go_wp2_with (first|(at_lookup;refine aR aY rfl _ _ 190 193 rfl Tryz.underlying190 (Tryz.bD _) rfl O.o id rfl C ?_;rw[N.o])|(go_at_call 170;refine J.mono ?_;rintro e w' ⟨rfl,rfl⟩)|(go_at_call 169;refine U.mono ?_;rintro e w' ⟨v,ss,rfl,M,z,X,V⟩))
   go_ret2
   rw[K.o];rw[CK]at M;have R:(bJ x).map (·.1)=x.names.map (·.1):=by unfold bJ;rw[List.map_map];rfl
   rw[R]at M;rw[zW Z.o.sorted M]at z;have B:ss.length=(x.names.map (·.1)).length:=M.length_eq;have H:Below w.heap.size w w':=(acu.alloc acs _).trans (V.mono (by simp));have S:=V.size;rw[Pe]at S;have F:∀s∈(x.names.map (·.1)).map strOf,s.size<=maxLen:=by
    intro s U;obtain⟨l,hl,rfl⟩:=List.mem_map.1 U;obtain⟨e,he,rfl⟩:=List.mem_map.1 hl;have:=vR _ (Z.o.good e he);rw[jf];unfold maxLen;omega
   have ak:(x.names.map (·.1)).length<=4096:=by rw[List.length_map];exact tH
   obtain⟨h1,h2⟩:=z;simp only[List.length_map]at h1;generalize x.names.map (·.1)=L at*;rcases h2 with⟨rfl,h0⟩|⟨g,P,aB,rfl,hg,A,aA,aF,aH,Q⟩
   ·have:L=[]:=aac (by omega);subst this;exact⟨none,0,rfl,Nat.le_refl _,⟨ah.nil _ _ _,by simp⟩,H⟩
   ·have I:=(qW.1 A).1;rw[Pe]at hg;refine⟨some ⟨g,0,none⟩,P,by rw[<-B];rfl,by simp only;omega,⟨⟨by simp,by simp only;unfold maxLen;omega,λ h0=>⟨g,0,rfl,⟨by omega,I⟩,I,λ i hi=> ?_⟩⟩,F⟩,H⟩;simp only[World.cell?,A,Nat.zero_add];rw[List.map_map,show L.map (Value.string∘strOf)=L.map Go.Proofs.encStr from rfl];rw[<-Q,aaB,if_pos (show i<ss.length*1 by rw[B];simp only at hi;omega)];simp
  ·have K:acr (uN T id=([],23)):=by unfold uN;rw[m];simp only[if_neg u];first|exact rfl|exact trivial
   have J:(x.kind==2)=false:=by simpa using u
   have av:(x.kind !=2)=true:=by simpa using u
   clear m h G y u c7;go_enter Tryz.func138,Tryz.ntmps138;go_wp2_with (first|(at_lookup;refine aR aY rfl _ _ 190 193 rfl Tryz.underlying190 (Tryz.bD _) rfl O.o id rfl C ?_;rw[N.o]))
   go_ret2
   rw[K.o];exact⟨none,0,rfl,Nat.le_refl _,⟨ah.nil _ _ _,by simp⟩,Below.refl _ _⟩
end
end Go.Proofs.YthillkfmdndedaaGreatDoor
namespace Go.Proofs
open Go.RowKit Go.Maps Go.Sort Go.Shelf
theorem Tryz.Oq(w:World):Dy 169 #[.func (.func 219) #[] #[.pointer (some ⟨w.heap.size,0,none⟩)]] (w.alloc (.cells #[.map none] 194)) λ e w'=>e= .returned (.slice none 0 0)/\Below (w.alloc (.cells #[.map none] 194)).heap.size (w.alloc (.cells #[.map none] 194)) w':=by
 have m:SeqGives Fence.wide 2 Tryz.prog 219 #[.pointer (some ⟨w.heap.size,0,none⟩)] encStr (λ ss:List (I8)=>ss=[]) 0 (w.alloc (.cells #[.map none] 194)):=
  AnyZ.keys_gives_nil (ρ:=Tryz.Bt) {Tryz.WE with} Fence.wide _ trivial rfl w.heap.size _ (by simp) (by simp)
 have h:=callsIn_wide.1 (AnyZ.sorted_in Tryz.QS Fence.wide 5 trivial trivial trivial trivial rfl (by omega) (Tryz.WG _) (enters_of Tryz.func218 (by kernel_rfl) rfl) 219 #[.pointer (some ⟨w.heap.size,0,none⟩)] trivial (enters_of Tryz.func219 (by kernel_rfl) rfl) _ 0 (Nat.zero_le _) (by omega) _ m);refine h.mono ?_;rintro e w' ⟨v,ss,rfl,rfl,y,u,z⟩;obtain rfl:v= .slice none 0 0:=u.2 rfl;exact⟨rfl,z⟩
end Go.Proofs
namespace Go.Proofs.YthillkfmdndedaaGreatDoor
open Go.ChangeShapes Go.WideShapes Go.ChangeAt Go.RowKit
def KeysRow(w:World)(L:List Nm)(e:Ending)(w':World):Prop:=
 ∃a c,e= .returned (.slice a L.length c)/\L.length<=c/\aW (λ x=>w.heap.size<=x/\x<w'.heap.size) w' a L.length (L.map strOf)/\Below w.heap.size w w'
section
variable{g:Nat->Own}{D:Nat->Prop}{p mb:Nat}{ib nb:Int->Nat}{T:aS}
theorem sorted_at(k:Int)(x:fI)(w:World)(h:aK g D w p mb ib nb T)(S:OkW T)(N:au k T=some x)(U:x.names.length<=65535):
  Dy 169 #[.func (.func 219) #[] #[.pointer (some ⟨w.heap.size,0,none⟩)]] (w.alloc (.cells #[dS x (nb k)] 194)) (KeysRow (w.alloc (.cells #[dS x (nb k)] 194)) (x.names.map (·.1))):=by
 have E:=S.each k x N;by_cases F:x.kind=2
 ·have J:dS x (nb k)= .map (some (nb k)):=if_pos F;rw[J];have P:=(h.item k x N).names F;have B:(bJ x).length=x.names.length:=List.length_map _;refine(Tryz.Ie (nb k) (bJ x).length (zA dD (bJ x)) ou w P (by rw[mV,B];unfold maxLen;omega) (by rw[mV,B];omega)).mono ?_;rintro e w' ⟨v,ss,rfl,C,m,u,H⟩;rw[CK]at C;have G:(bJ x).map (·.1)=x.names.map (·.1):=by unfold bJ;rw[List.map_map];rfl
  rw[G]at C;rw[zW E.sorted C]at m;have y:ss.length=(x.names.map (·.1)).length:=C.length_eq;have z:∀s∈(x.names.map (·.1)).map strOf,s.size<=maxLen:=by
   intro s Q;obtain⟨l,O,rfl⟩:=List.mem_map.1 Q;obtain⟨e,R,rfl⟩:=List.mem_map.1 O;have:=vR _ (E.good e R);rw[jf];unfold maxLen;omega
  obtain⟨a,c,rfl,K⟩:=bg m;obtain⟨_,M⟩:=ah.mU m;rw[y]at M K;have I:ah (λ A=>(w.alloc (.cells #[.map (some (nb k))] 194)).heap.size<=A/\A<w'.heap.size) w' a (x.names.map (·.1)).length (((x.names.map (·.1)).map strOf).map .string):=by
   rw[List.map_map];exact M
  exact⟨a,c,by rw[y],K,⟨I,z⟩,H⟩
 ·have J:dS x (nb k)= .map none:=if_neg F;have u:x.names=[]:=E.file (E.kind.resolve_right F);rw[J,u];refine(Tryz.Oq w).mono ?_;rintro e w' ⟨rfl,H⟩;exact⟨none,0,rfl,Nat.le_refl _,⟨ah.nil _ _ _,by simp⟩,H⟩
end
