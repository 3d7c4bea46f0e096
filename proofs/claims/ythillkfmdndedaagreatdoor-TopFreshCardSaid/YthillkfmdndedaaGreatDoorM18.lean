/- DERIVED -/
import Derived.Shelf.SlIterI.Nil
import Derived.Shelf.SlIterI.Sorted
import Derived.Test.YthillkfmdndedaaGreatDoorM17
import Derived.Laws.Tables
import Derived.Laws.Rows
set_option maxRecDepth 100000
set_option maxHeartbeats 64000000
set_option linter.all false
namespace Go.Proofs
open Go.Shelf
def Tryz.Ig:Go.Shelf.Ren:=⟨λ|7=>212|10=>247|n=>n,λ|23=>190|26=>3|3=>193|28=>304|0=>0|27=>303|33=>64|4=>4|n=>n,λ|n=>n⟩
theorem Tryz.keysT:Go.Proofs.SlLaysZI.n7 Tryz.prog Tryz.Ig:={
 mixed:=by kernel_rfl
 f7:=⟨Tryz.f212.name,by decide,FR Tryz.func212 (by kernel_rfl)⟩
 f10:=⟨Tryz.f247.name,by decide,FR Tryz.func247 (by kernel_rfl)⟩
 t0:=Tryz.underlying0
 a0:=Tryz.isAgg0
 z0:=Tryz.sizeOf0
 v0:=Tryz.zeroValue0
 t4:=Tryz.underlying4
 a4:=Tryz.isAgg4
 z4:=Tryz.sizeOf4
 v4:=Tryz.zeroValue4
 t23:=Tryz.underlying190
 a23:=Tryz.isAgg190
 z23:=Tryz.sizeOf190
 v23:=Tryz.zeroValue190
 t26:=Tryz.underlying3
 a26:=Tryz.isAgg3
 z26:=Tryz.sizeOf3
 v26:=Tryz.zeroValue3
 t27:=Tryz.underlying303
 a27:=Tryz.isAgg303
 z27:=Tryz.sizeOf303
 v27:=Tryz.zeroValue303
 t28:=Tryz.underlying304
 a28:=Tryz.isAgg304
 z28:=Tryz.sizeOf304
 v28:=Tryz.zeroValue304
 t33:=Tryz.underlying64
 a33:=Tryz.isAgg64
 z33:=Tryz.sizeOf64
 v33:=Tryz.zeroValue64}
def Tryz.CO:Go.Shelf.Ren:=⟨λ|6=>211|8=>245|9=>246|11=>263|13=>250|12=>264|23=>274|24=>275|14=>283|15=>284|16=>285|17=>286|18=>287|19=>288|20=>289|21=>290|22=>291|25=>305|26=>293|27=>294|28=>306|29=>307|30=>308|31=>313|n=>n,λ|26=>3|28=>304|24=>73|0=>0|3=>3|37=>156|48=>154|50=>29|4=>4|40=>355|39=>354|45=>211|5=>5|9=>9|51=>377|55=>380|57=>387|58=>321|33=>64|n=>n,λ|n=>n⟩
theorem Tryz.sortedT:Go.Proofs.SlLaysZI.n6 Tryz.prog Tryz.CO:={
 mixed:=by kernel_rfl
 f6:=⟨Tryz.f211.name,by decide,FR Tryz.func211 (by kernel_rfl)⟩
 f8:=⟨Tryz.f245.name,by decide,FR Tryz.func245 (by kernel_rfl)⟩
 f11:=⟨Tryz.f263.name,by decide,FR Tryz.func263 (by kernel_rfl)⟩
 t0:=Tryz.underlying0
 a0:=Tryz.isAgg0
 z0:=Tryz.sizeOf0
 v0:=Tryz.zeroValue0
 t24:=Tryz.underlying73
 a24:=Tryz.isAgg73
 z24:=Tryz.sizeOf73
 v24:=Tryz.zeroValue73
 t26:=Tryz.underlying3
 a26:=Tryz.isAgg3
 z26:=Tryz.sizeOf3
 v26:=Tryz.zeroValue3
 t28:=Tryz.underlying304
 a28:=Tryz.isAgg304
 z28:=Tryz.sizeOf304
 v28:=Tryz.zeroValue304
 i26:=by kernel_rfl}
def Tryz.SN:Go.Shelf.Ren:=⟨λ|5=>246|8=>250|7=>264|19=>274|20=>275|10=>283|11=>284|12=>285|13=>286|14=>287|15=>288|16=>289|17=>290|18=>291|30=>305|31=>293|32=>294|33=>306|34=>307|35=>308|40=>313|n=>n,λ|23=>73|25=>3|3=>3|32=>156|22=>73|0=>0|44=>154|46=>29|4=>4|36=>355|35=>354|41=>211|5=>5|9=>9|53=>377|57=>380|63=>387|64=>321|n=>n,λ|n=>n⟩
theorem Tryz.sortT:Go.Proofs.SlLaysM.n5 Tryz.prog Tryz.SN:={
 mixed:=by kernel_rfl
 f5:=⟨Tryz.f246.name,by decide,FR Tryz.func246 (by kernel_rfl)⟩
 f7:=⟨Tryz.f264.name,by decide,FR Tryz.func264 (by kernel_rfl)⟩
 f8:=FR Tryz.func250 (by kernel_rfl)
 f10:=⟨Tryz.f283.name,by decide,FR Tryz.func283 (by kernel_rfl)⟩
 f11:=⟨Tryz.f284.name,by decide,FR Tryz.func284 (by kernel_rfl)⟩
 f12:=⟨Tryz.f285.name,by decide,FR Tryz.func285 (by kernel_rfl)⟩
 f13:=⟨Tryz.f286.name,by decide,FR Tryz.func286 (by kernel_rfl)⟩
 f14:=⟨Tryz.f287.name,by decide,FR Tryz.func287 (by kernel_rfl)⟩
 f15:=⟨Tryz.f288.name,by decide,FR Tryz.func288 (by kernel_rfl)⟩
 f16:=⟨Tryz.f289.name,by decide,FR Tryz.func289 (by kernel_rfl)⟩
 f17:=⟨Tryz.f290.name,by decide,FR Tryz.func290 (by kernel_rfl)⟩
 f18:=⟨Tryz.f291.name,by decide,FR Tryz.func291 (by kernel_rfl)⟩
 f19:=FR Tryz.func274 (by kernel_rfl)
 f20:=FR Tryz.func275 (by kernel_rfl)
 f30:=⟨Tryz.f305.name,by decide,FR Tryz.func305 (by kernel_rfl)⟩
 f31:=FR Tryz.func293 (by kernel_rfl)
 f32:=FR Tryz.func294 (by kernel_rfl)
 f33:=⟨Tryz.f306.name,by decide,FR Tryz.func306 (by kernel_rfl)⟩
 f34:=⟨Tryz.f307.name,by decide,FR Tryz.func307 (by kernel_rfl)⟩
 f35:=⟨Tryz.f308.name,by decide,FR Tryz.func308 (by kernel_rfl)⟩
 f40:=⟨Tryz.f313.name,by decide,FR Tryz.func313 (by kernel_rfl)⟩
 t0:=Tryz.underlying0
 a0:=Tryz.isAgg0
 z0:=Tryz.sizeOf0
 v0:=Tryz.zeroValue0
 t3:=Tryz.underlying3
 a3:=Tryz.isAgg3
 z3:=Tryz.sizeOf3
 v3:=Tryz.zeroValue3
 t4:=Tryz.underlying4
 a4:=Tryz.isAgg4
 z4:=Tryz.sizeOf4
 v4:=Tryz.zeroValue4
 t5:=Tryz.underlying5
 a5:=Tryz.isAgg5
 z5:=Tryz.sizeOf5
 v5:=Tryz.zeroValue5
 t9:=Tryz.underlying9
 a9:=Tryz.isAgg9
 z9:=Tryz.sizeOf9
 v9:=Tryz.zeroValue9
 t22:=Tryz.underlying73
 a22:=Tryz.isAgg73
 z22:=Tryz.sizeOf73
 v22:=Tryz.zeroValue73
 t23:=Tryz.underlying73
 a23:=Tryz.isAgg73
 z23:=Tryz.sizeOf73
 v23:=Tryz.zeroValue73
 t25:=Tryz.underlying3
 a25:=Tryz.isAgg3
 z25:=Tryz.sizeOf3
 v25:=Tryz.zeroValue3
 t32:=Tryz.underlying156
 a32:=Tryz.isAgg156
 z32:=Tryz.sizeOf156
 v32:=Tryz.zeroValue156
 t35:=Tryz.underlying354
 a35:=Tryz.isAgg354
 z35:=Tryz.sizeOf354
 v35:=Tryz.zeroValue354
 t36:=Tryz.underlying355
 a36:=Tryz.isAgg355
 z36:=Tryz.sizeOf355
 v36:=Tryz.zeroValue355
 t41:=Tryz.underlying211
 a41:=Tryz.isAgg211
 z41:=Tryz.sizeOf211
 v41:=Tryz.zeroValue211
 t44:=Tryz.underlying154
 a44:=Tryz.isAgg154
 z44:=Tryz.sizeOf154
 v44:=Tryz.zeroValue154
 t46:=Tryz.underlying29
 a46:=Tryz.isAgg29
 z46:=Tryz.sizeOf29
 v46:=Tryz.zeroValue29
 t53:=Tryz.underlying377
 a53:=Tryz.isAgg377
 z53:=Tryz.sizeOf377
 v53:=Tryz.zeroValue377
 t57:=Tryz.underlying380
 a57:=Tryz.isAgg380
 z57:=Tryz.sizeOf380
 v57:=Tryz.zeroValue380
 t63:=Tryz.underlying387
 a63:=Tryz.isAgg387
 z63:=Tryz.sizeOf387
 v63:=Tryz.zeroValue387
 t64:=Tryz.underlying321
 a64:=Tryz.isAgg321
 z64:=Tryz.sizeOf321
 v64:=Tryz.zeroValue321}
open Go.RowKit Go.Maps Go.Sort Go.Shelf
theorem Tryz.sortsT(m:Nat):AnyZI.SortsIn Tryz.prog Tryz.CO Fence.wide m:=
 ⟨λ B A u ss W C y z=>callsIn_wide.2 (AnyM.slices_Sort_int Tryz.sortT B A u ss W C y z),
  λ p u W=>callsIn_wide.2 (AnyM.slices_Sort_int_none Tryz.sortT p u W)⟩
theorem Tryz.keysOfT(m:Option Nat)(W:World):Dy 212 #[.map m] W λ e w'=>e= .returned (.func (.func 247) #[] #[.pointer (some ⟨W.heap.size,0,none⟩)])/\w'=W.alloc (.cells #[.map m] 190):=
 callsIn_wide.1 (AnyZI.keys_in Tryz.keysT Fence.wide 5 trivial rfl m W)
theorem Tryz.SQ{H:Type}(b E:Nat)(A:DataW H)(R:Value->Option (DataW H×List MemPlace))(w:World)(u:w.ownsMap Tryz.prog 3 R b E A)(C:Maps.size A<=maxLen)(m:Maps.size A*8<=140737488355328):
  Dy 211 #[.func (.func 247) #[] #[.pointer (some ⟨w.heap.size,0,none⟩)]] (w.alloc (.cells #[.map (some b)] 190)) λ e w'=>∃(v:Value) (ss:List Int),e= .returned v/\ss.Perm (intKeys A)/\
   w'.ownsRow (w.alloc (.cells #[.map (some b)] 190)).heap.size 3 1 v ss.length ((ss.mergeSort (λ x y=>decide (x<=y))).map encZ)/\(v= .slice none 0 0↔ss=[])/\Below (w.alloc (.cells #[.map (some b)] 190)).heap.size (w.alloc (.cells #[.map (some b)] 190)) w':=by
 have D:=u.lt
 have B:SeqGives Fence.wide 2 Tryz.prog 247 #[.pointer (some ⟨w.heap.size,0,none⟩)] encZ (λ ss=>ss.Perm (intKeys A)) (Maps.size A) (w.alloc (.cells #[.map (some b)] 190)):=
  AnyZI.keys_gives (ρ:=Tryz.Ig) {Tryz.keysT with} Fence.wide _ trivial rfl (by omega) w.heap.size b E A _ (by simp) (by simp) (by
   obtain⟨K,z,G,J,F,I⟩:=u;exact⟨K,z,(Below.heap_alloc _ _ b D).trans G,J,F,I⟩)
 exact callsIn_wide.1 (AnyZI.sorted_in Tryz.sortedT Fence.wide 5 trivial trivial trivial trivial rfl (by omega) (Tryz.sortsT _) (enters_of Tryz.func246 (by kernel_rfl) rfl) 247 #[.pointer (some ⟨w.heap.size,0,none⟩)] trivial (enters_of Tryz.func247 (by kernel_rfl) rfl) _ _ C m _ B)
end Go.Proofs
namespace Go.Proofs.YthillkfmdndedaaGreatDoor
open Go.ChangeShapes Go.WideShapes Go.ChangeAt Go.RowKit
theorem Lf(l:List (Int×Value)):intKeys (zA aY l)=l.map (·.1):=by
 unfold intKeys zA;simp only[List.map_map];rfl
theorem Lg{α:Type}{l:List (Int×α)}(A:bA (λ a b:Int=>decide (a<b)) l){ss:List Int}(z:ss.Perm (l.map (·.1))):ss.mergeSort (λ x y=>decide (x<=y))=l.map (·.1):=by
 have u:(ss.mergeSort (λ x y=>decide (x<=y))).Pairwise (λ a b=>decide (a<=b)=true):=List.pairwise_mergeSort (λ a b c u m=>by simp at*;omega) (λ a b=>by simp;omega) ss;have m:(l.map (·.1)).Pairwise (λ a b=>decide (a<=b)=true):=by
  rw[abQ];exact A.imp λ{a b} h=>by simp at*;omega
 exact((List.mergeSort_perm ss _).trans z).eq_of_pairwise (λ a b _ _ u m=>by simp at*;omega) u m
def zX(w:World)(u:List Int)(e:Ending)(w':World):Prop:=
 ∃a m,e= .returned (.slice a u.length m)/\u.length<=m/\ah (λ x=>w.heap.size<=x/\x<w'.heap.size) w' a u.length (u.map (Value.int .i64))/\Below w.heap.size w w'
def lT(T:aS):List Int:=T.map (·.1)
section
variable{g:Nat->Own}{D:Nat->Prop}{p mb:Nat}{ib nb:Int->Nat}{T:aS}
theorem Jy(w:World)(h:aK g D w p mb ib nb T)(hl:T.length<=100000):Dy 166 #[ptr p] w (zX w (lT T)):=by
 obtain⟨ak,P,Y⟩:=h.cell;have z:(T.map λ q=>(q.1,ptr (ib q.1))).length=T.length:=List.length_map _;have E:(T.map λ q=>(q.1,ptr (ib q.1))).map (·.1)=lT T:=by unfold lT;rw[List.map_map];rfl
 have F:=h.map.sorted.1;have R:=Tryz.keysOfT (some mb) w;have S:=Tryz.SQ mb (T.map λ q:Int×fI=>(q.1,ptr (ib q.1))).length (zA aY (T.map λ q:Int×fI=>(q.1,ptr (ib q.1)))) ou w h.map (by rw[mV,z];unfold maxLen;omega) (by rw[mV,z];omega);have I:=acp F;have B:=acp E;clear h F E z;go_enter Tryz.func166,Tryz.ntmps166;go_wp2_with (first|(go_at_call 212;refine R.mono ?_;rintro e w' ⟨rfl,rfl⟩)|(go_at_call 211;refine S.mono ?_;rintro e w' ⟨v,ss,rfl,G,m,O,N⟩));go_ret;rw[Lf]at G;rw[Lg I.o G,B.o]at m;have y:ss.length=(lT T).length:=by
  have:=G.length_eq;rw[B.o]at this;exact this
 have A:Below w.heap.size w w':=(acu.alloc acs _).trans (N.mono (by simp));have J:=N.size;rw[Pe]at J;obtain⟨Z,V⟩:=m;simp only[List.length_map]at Z;rcases V with⟨rfl,Q⟩|⟨g,H,aA,rfl,X,u,av,W,U,M⟩
 ·have K:(lT T).length=0:=by omega
  have:lT T=[]:=aac K;rw[this];exact⟨none,0,rfl,Nat.le_refl _,ah.nil _ _ _,A⟩
 ·have C:=(qW.1 u).1;rw[Pe]at X;refine⟨some ⟨g,0,none⟩,H,by rw[<-y];rfl,by omega,⟨by simp,by omega,λ Q=>⟨g,0,rfl,⟨by omega,C⟩,C,λ i hi=> ?_⟩⟩,A⟩;simp only[World.cell?,u,Nat.zero_add];rw[show(lT T).map (Value.int .i64)=(lT T).map encZ from rfl];rw[<-M,aaB,if_pos (show i<ss.length*1 by rw[y];omega)];simp
end
def qO(l:I8):List UInt8:=bF l.length 2++l
def nmB(e:Nm×Int):List UInt8:=qO e.1++bF e.2 2
def qZ(k:Int)(x:fI):List UInt8:=qO (zP k x)++qO x.b++bF x.names.length 2++x.names.flatMap nmB
def iA(T:aS):List UInt8:=bF T.length 2++T.flatMap λ q=>qZ q.1 q.2
theorem ru{n:Nm}(h:gF n=true):n.length<=16:=by
 unfold gF at h;simp only[aaW,aap]at h;exact h.1.1.2
theorem vX(l:I8):(qO l).length=2+l.length:=by unfold qO;rw[List.length_append,ay]
theorem DN:∀(l:List (Nm×Int)),(∀e∈l,e.1.length<=16)->(l.flatMap nmB).length<=20*l.length
 |[],_=>by simp
 |e::r,h=>by
  have z:=h e (by simp);have u:=DN r λ y m=>h y (by simp[m]);simp only[List.flatMap_cons,List.length_append,List.length_cons,nmB,vX,ay];omega
theorem WH{k:Int}{x:fI}(h:QJ x)(y:x.names.length<=4096):(qZ k x).length<=90000:=by
 have z:=DN x.names λ e m=>ru (h.good e m);have u:=h.size;unfold qZ;simp only[List.length_append,vX,ay,mZ];omega
theorem Bu{T:aS}(m:fA T):∀(l:aS),(∀q∈l,q∈T)->(l.flatMap λ q=>qZ q.1 q.2).length<=90000*l.length
 |[],_=>by simp
 |q::r,h=>by
  have u:=fq iR m.sorted (h q (by simp));have B:=WH (k:=q.1) (m.each _ _ u) (m.few u);have A:=Bu m r λ y z=>h y (by simp[z]);simp only[List.flatMap_cons,List.length_append,List.length_cons];omega
theorem SS{k:Int}{x:fI}(h:NT x)(y:x.names.length<=65535):(qZ k x).length<=1315000:=by
 have z:=DN x.names λ e m=>ru (h.good e m);have u:=h.size;unfold qZ;simp only[List.length_append,vX,ay,mZ];omega
theorem tK{T:aS}(m:OkW T)(z:∀k x,au k T=some x->x.names.length<=65535):∀(l:aS),(∀q∈l,q∈T)->(l.flatMap λ q=>qZ q.1 q.2).length<=1315000*l.length
 |[],_=>by simp
 |q::r,h=>by
  have u:=fq iR m.sorted (h q (by simp));have C:=SS (k:=q.1) (m.each _ _ u) (z _ _ u);have B:=tK m z r λ y A=>h y (by simp[A]);simp only[List.flatMap_cons,List.length_append,List.length_cons];omega
theorem SV{T:aS}(m:OkW T)(y:∀k x,au k T=some x->x.names.length<=65535):(iA T).length<=84160002:=by
 have A:=tK m y T λ q u=>u;have z:=m.len;unfold iA;rw[List.length_append,ay];omega
def r_(l:I8):Int:=l.foldl (λ n c=>n*256+(c.toNat:Int)) 0
theorem zY(l:I8)(c:UInt8):r_ (l++[c])=r_ l*256+(c.toNat:Int):=by unfold r_;rw[List.foldl_append];rfl
theorem WI:r_ []=0:=rfl
theorem Ih{α:Type}(l:List α)(k:Nat)(h:l.length=k+1):∃u c,l=u++[c]/\u.length=k:=by
 have m:l≠[]:=λ e=>by rw[e]at h;cases h
 exact⟨l.dropLast,l.getLast m,(List.dropLast_concat_getLast m).symm,by rw[abw];omega⟩
theorem tL:∀(k:Nat) (l:I8),l.length=k->0<=r_ l/\r_ l<256^k
 |0,l,h=>by rw[aac h];simp[r_]
 |k+1,l,h=>by
  obtain⟨m,c,rfl,u⟩:=Ih l k h;obtain⟨A,z⟩:=tL k m u;have y:(c.toNat:Int)<=255:=by have:=c.toNat_lt;omega
  rw[zY,Int.pow_succ];generalize (256:Int)^k=P at*;omega
theorem EA:∀(k:Nat) (n:Int),0<=n->bF n (k+1)=bF (n/256) k++[UInt8.ofNat ((n%256).toNat)]
 |0,n,m=>by
  show[UInt8.ofNat ((n/2^(8*0)).toNat%256)]=[UInt8.ofNat ((n%256).toNat)];congr 2;simp;omega
 |k+1,n,m=>by
  have h:=EA k n m;rw[bF,h];show _=(UInt8.ofNat ((n/256/2^(8*k)).toNat%256)::bF (n/256) k)++_;rw[ab2];congr 4;rw[Int.ediv_ediv_of_nonneg (by decide),show(2:Int)^(8*(k+1))=256*2^(8*k)by rw[Nat.mul_add,Int.pow_add,Int.mul_comm];rfl]
theorem Jz:∀(k:Nat) (n:Int),0<=n->n<256^k->r_ (bF n k)=n
 |0,n,u,m=>by simp only[Int.pow_zero]at m;simp only[bF,WI];omega
 |k+1,n,u,m=>by
  rw[EA k n u,zY,Jz k (n/256) (by omega) (by rw[Int.pow_succ]at m;generalize (256:Int)^k=P at*;omega)];have:(UInt8.ofNat (n%256).toNat).toNat=(n%256).toNat:=by simp;omega
  rw[this];omega
theorem QU:∀(k:Nat) (l:I8),l.length=k->bF (r_ l) k=l
 |0,l,h=>(aac h).symm
 |k+1,l,h=>by
  obtain⟨m,c,rfl,u⟩:=Ih l k h;obtain⟨A,z⟩:=tL k m u;have y:(c.toNat:Int)<=255:=by have:=c.toNat_lt;omega
  rw[zY,EA _ _ (by omega),show(r_ m*256+(c.toNat:Int))/256=r_ m by omega,QU k m u,show((r_ m*256+(c.toNat:Int))%256).toNat=c.toNat by omega];simp
abbrev Rd:=List UInt8×Int
def kJ(s:Rd)(n:Int):List UInt8×Rd:=
 if s.2≠0 then([],s)else if (s.1.length:Int)<n then([],(s.1,10))else if n<1 then([],s)else(s.1.take n.toNat,(s.1.drop n.toNat,0))
def fD(s:Rd)(k:Nat):Int×Rd:=(r_ (kJ s k).1,(kJ s k).2)
def Ii(s:Rd):Bool×Rd:=(decide ((fD s 1).1=1),if 1<(fD s 1).1 then((fD s 1).2.1,12)else(fD s 1).2)
def vY(s:Rd):List UInt8×Rd:=kJ (fD s 2).2 (fD s 2).1
def uO(s:Rd):Nat:=if s.2≠0 then 0 else s.1.length
def Lh(s:Rd):Int:=if s.2=0/\0<s.1.length then 11 else s.2
theorem Ij{s:Rd}(h:s.2≠0)(n:Int):kJ s n=([],s):=by unfold kJ;rw[if_pos h]
theorem raw_fwd{s:Rd}{n:Int}(z:0<=n)(h:(kJ s n).2.2=0):s.2=0/\s.1=(kJ s n).1++(kJ s n).2.1/\((kJ s n).1.length:Int)=n:=by
 by_cases m:s.2≠0
 ·rw[Ij m]at h;exact absurd h m
 ·have m:s.2=0:=Decidable.not_not.1 m;unfold kJ at h⊢;rw[if_neg (by simp[m])]at h⊢;by_cases u:(s.1.length:Int)<n
  ·rw[if_pos u]at h;cases h
  ·rw[if_neg u]at h⊢;by_cases y:n<1
   ·rw[if_pos y];exact⟨m,rfl,by simp;omega⟩
   ·rw[if_neg y];refine⟨m,(aaT _ _).symm,?_⟩;simp only[List.length_take];omega
theorem vZ(l r:I8)(n:Int)(m:n=l.length):kJ (l++r,0) n=(l,(r,0)):=by
 subst m;unfold kJ;rw[if_neg (by simp),if_neg (by simp only[List.length_append];omega)];by_cases h:(l.length:Int)<1
 ·have:l=[]:=aac (by omega);subst this;rw[if_pos (by simp)];rfl
 ·rw[if_neg h];simp
theorem num_fwd{s:Rd}{k:Nat}(h:(fD s k).2.2=0):s.2=0/\s.1=bF (fD s k).1 k++(fD s k).2.1/\0<=(fD s k).1/\(fD s k).1<256^k:=by
 obtain⟨y,u,z⟩:=raw_fwd (s:=s) (n:=k) (by omega) h;have m:(kJ s k).1.length=k:=by omega
 refine⟨y,?_,tL k _ m⟩;unfold fD;rw[QU k _ m];exact u
theorem qw(k:Nat)(n:Int)(r:I8)(m:0<=n)(u:n<256^k):fD (bF n k++r,0) k=(n,(r,0)):=by
 unfold fD;rw[vZ (bF n k) r k (by rw[ay]),Jz k n m u]
theorem xC(s:Rd)(k:Nat):0<=(fD s k).1/\(fD s k).1<256^k:=by
 by_cases h:(fD s k).2.2=0
 ·exact(num_fwd h).2.2
 ·have u:(0:Int)<256^k:=Int.pow_pos (by decide);have:(kJ s k).1=[]:=by
   unfold fD at h;unfold kJ at h⊢;split
   ·rfl
   ·rename_i z;rw[if_neg z]at h;split
    ·rfl
    ·rename_i m;rw[if_neg m]at h;split
     ·rfl
     ·rename_i y;rw[if_neg y]at h;exact absurd rfl h
  unfold fD;rw[this];exact⟨Int.le_refl _,u⟩
theorem Ot(l r:I8)(h:l.length<=65535):vY (qO l++r,0)=(l,(r,0)):=by
 unfold vY qO;rw[List.append_assoc,qw 2 _ _ (by omega) (by have:(256:Int)^2=65536:=rfl;omega)];exact vZ l r _ rfl
structure bW(D:Nat->Prop)(w:World)(x:Nat)(s:Rd):Prop where
 head:∃a c,w.heap[x]? =some (.cells #[.slice a s.1.length c,.int .i64 s.2] 296 (0,0))/\qj s.1.length c/\ah D w a s.1.length (s.1.map bv)
 apart:¬D x
 small:s.1.length<=100000000
 why:0<=s.2/\s.2<=100
 low:∀b,D b->b<w.heap.size
def Li(D:Nat->Prop)(w:World)(x:Nat)(m:I8)(u:Rd)(e:Ending)(w':World):Prop:=
 ∃a c,e= .returned (.slice a m.length c)/\qj m.length c/\ah (λ b=>w.heap.size<=b/\b<w'.heap.size) w' a m.length (m.map bv)/\bW D w' x u/\Keeps (λ b=>b=x) w w'
def zZ(D:Nat->Prop)(w:World)(x:Nat)(v:Value)(m:Rd)(e:Ending)(w':World):Prop:=
 e= .returned v/\bW D w' x m/\Keeps (λ b=>b=x) w w'
section
variable{D:Nat->Prop}{x:Nat}{w w1 w2:World}{s s1 s2:Rd}
theorem bW.lt(h:bW D w x s):x<w.heap.size:=by
 obtain⟨a,c,m,_⟩:=h.head;exact(qW.1 m).1
theorem bW.kept(h:bW D w x s)(m:w.heap.size<=w1.heap.size)(u:w1.heap[x]? =w.heap[x]?)(A:∀b,D b->b<w.heap.size->w1.heap[b]? =w.heap[b]?):bW D w1 x s:=by
 obtain⟨⟨a,c,H,B,G⟩,z,C,E,y⟩:=h;exact⟨⟨a,c,u.trans H,B,G.kept m A⟩,z,C,E,λ b F=>Pd (y b F) m⟩
theorem bW.below{B:Nat}(h:bW D w x s)(m:Below B w w1)(y:w.heap.size<=B):bW D w1 x s:=
 h.kept m.size (m.block x (by have:=h.lt;omega)) λ b _ u=>m.block b (by omega)
end
theorem own_cap{w:World}{y:Nat}{e:TypeId}{a:Mx}{m c n:Nat}{xs:List Value}(h:w.ownsRow y e 1 (.slice a m c) n xs):qj n c:=by
 obtain⟨D,h⟩:=h;rcases h with⟨u,rfl⟩|⟨g,A,B,u,_,_,C,z,_⟩
 ·simp only[aaH]at u;obtain⟨_,_,rfl⟩:=u;exact⟨Nat.zero_le _,Nat.zero_le _⟩
 ·simp only[aaH]at u;obtain⟨_,_,rfl⟩:=u;exact⟨C,z⟩
def QV(w:World)(m:I8)(e:Ending)(w':World):Prop:=
 ∃a c,e= .returned (.slice a m.length c)/\qj m.length c/\ah (λ x=>w.heap.size<=x/\x<w'.heap.size) w' a m.length (m.map bv)/\Below w.heap.size w w'
theorem EB{S:Nat->Prop}(a:Mx)(n z:Nat)(B:I8)(w:World)(Z:n<=1000000000)(F:ah S w a n (B.map bv)):
  Dy 44 #[.slice a n z] w (QV w B):=by
 obtain⟨Y,R,H,J,I⟩:=aaq Tryz.vL;have C:B.length=n:=by have:=F.length;simpa using this
 have O:=λ w=>Lib.run_eql_slice_nil (P:=Tryz.prog) w 30 5 a n z 0 0 Tryz.underlying30;have M:=acp F;have K:=acp C;clear F C;cases a with
 |none=>
  have D:n=0:=by
   rcases aaI n with D|D
   ·exact D
   ·obtain⟨_,_,e,_⟩:=M.o.at_ D;cases e
  subst D;have G:B=[]:=aac K.o;subst G;go_enter abL,abz;go_wp2;go_ret;exact⟨none,0,rfl,⟨Nat.le_refl _,Nat.zero_le _⟩,ah.nil _ _ _,Below.refl _ _⟩
 |some V=>
  have N:(w.alloc (.cells #[] 5)).heap.size=w.heap.size+1:=by simp
  have Q:=acp (M.o.below (wall w (.cells #[] 5)) acs);go_enter abL,abz;go_wp2_with ((at_builtin;refine bU (by rfl) _ _ 30 (by rfl) w.heap.size 5 Y (.int .u8 0) 1 Tryz.underlying30 R H J I rfl _ 0 [] (by rfl) ⟨rfl,.inr ⟨w.heap.size,0,#[],rfl,Nat.le_refl _,(MapKept.heap_alloc w _).1,Nat.le_refl _,Nat.zero_le _,rfl,rfl⟩⟩ (some V) n z (B.map bv) (by rfl) Q.o (jA B) (by unfold maxLen;omega) (by omega) (by simp) ?_;intro A' c' X m u _ _));go_ret;have E:Below w.heap.size w X:=(wall w _).grown u (by simp) (λ k W=>by cases W;exact Nat.le_refl _);have y:=own_cap m;have A:=(ah.mU m).2;rw[List.nil_append]at A;simp only[Nat.zero_add]at A y;have U:=K.o;subst U;exact⟨_,c',by simp only[Nat.zero_add];rfl,y,A,E⟩
section
variable{D:Nat->Prop}{x:Nat}{w:World}{s:Rd}
theorem yg{S:Nat->Prop}(a:Mx)(n c:Nat)(u:I8)(w:World)(N:n<=100000000)(C:ah S w a n (u.map bv)):
  Dy 152 #[.slice a n c] w λ e w'=>∃x,e= .returned (ptr x)/\w.heap.size<=x/\bW (λ b=>w.heap.size<=b/\b<x) w' x (u,0)/\Below w.heap.size w w':=by
 have K:u.length=n:=by simpa using C.length
 have H:=acp (EB a n c u w (by omega) C);have F:u.length<=100000000:=by omega
 clear C K;go_enter Tryz.func152,Tryz.ntmps152;go_wp2_with fail;refine H.o.mono ?_;rintro e B ⟨M,I,rfl,A,z,y⟩;have D:=acp z;have m:=acp y;have J:=acp A;clear z y A H;go_wp2_with fail;go_ret;refine⟨_,rfl,m.o.size,⟨⟨M,I,(MapKept.heap_alloc B _).1,J.o,?_⟩,λ h=>by omega,F,by simp,λ b G=>by rw[Pe];omega⟩,m.o.trans ((wall B _).mono m.o.size)⟩;exact D.o.move (wall B _).size λ b G E=>⟨G,(wall B _).block b E⟩
theorem row0{D:Nat->Prop}{w w':World}{x:Nat}{m:Rd}(h:bW D w' x m)(u:Keeps (λ b=>b=x) w w'):Li D w x [] m (.returned (.slice none 0 0)) w':=
 ⟨none,0,rfl,⟨Nat.le_refl _,Nat.zero_le _⟩,ah.nil _ _ _,h,u⟩
theorem JA(h:bW D w x s)(n:Int)(bD:0<=n)(bS:n<=9223372036854775807):Dy 155 #[ptr x,.int .i64 n] w (Li D w x (kJ s n).1 (kJ s n).2):=by
 obtain⟨l,y⟩:=s;obtain⟨a,c,K,Q,N⟩:=h.head;have c0:w.cell? ⟨x,0,none⟩=some (.slice a l.length c):=by simp[World.cell?,K]
 have c1:w.cell? ⟨x,1,none⟩=some (.int .i64 y):=by simp[World.cell?,K]
 have f0:w.frozen? ⟨x,0,none⟩=false:=by simp[World.frozen?,K]
 have f1:w.frozen? ⟨x,1,none⟩=false:=by simp[World.frozen?,K]
 have H:=h.lt;have O:=h.why;have aH:l.length<=100000000:=h.small;dsimp only at O;by_cases hy:y=0
 ·subst hy;by_cases E:(l.length:Int)<n
  ·have J:kJ (l,0) n=([],(l,10)):=by unfold kJ;rw[if_neg (by simp),if_pos E]
   rw[J];have P:acr (bW D (w.setCell ⟨x,1,none⟩ (.int .i64 10)) x (l,10)):=by
    refine⟨⟨a,c,?_,Q,?_⟩,h.apart,h.small,by simp,λ b U=>by rw[size_set];exact h.low b U⟩
    ·rw[aG K];rfl
    ·exact N.kept (by rw[size_set];exact Nat.le_refl _) λ b U _=>aI w _ _ _ (λ(e:b=x)=>h.apart (e▸U))
   clear h K Q N J O;go_enter Tryz.func155,Tryz.ntmps155;go_wp2
   all_goals (first|(go_ret;exact row0 P.o (Keeps.jy w ⟨x,1,none⟩ _))|((try simp only[Exit.inBlock,Exit.then]);refine aav (by rfl) rfl ?_;exact row0 P.o (Keeps.jy w ⟨x,1,none⟩ _)))
  ·have aC:¬((l.length:Int)<n):=E;have aF:decide ((l.length:Int)<n)=false:=by simpa using E
   by_cases h0:n<1
   ·have J:kJ (l,0) n=([],(l,0)):=by unfold kJ;rw[if_neg (by simp),if_neg E,if_pos h0]
    rw[J];have P:=acp h;clear h K Q N J O E;go_enter Tryz.func155,Tryz.ntmps155;go_wp2
    all_goals (first|(go_ret;exact row0 P.o (Keeps.refl _ _))|((try simp only[Exit.inBlock,Exit.then]);refine aav (by rfl) rfl ?_;exact row0 P.o (Keeps.refl _ _)))
   ·obtain⟨k,rfl⟩:∃k:Nat,n=(k:Int):=⟨n.toNat,by omega⟩;have J:kJ (l,0) (k:Int)=(l.take k,(l.drop k,0)):=by unfold kJ;rw[if_neg (by simp),if_neg E,if_neg h0];rfl
    rw[J];have bn:1<=k:=by omega
    have X:k<=l.length:=by omega
    obtain⟨L,hL⟩:∃L,L=l.length:=⟨_,rfl⟩;rw[<-hL]at c0 K Q N E aC aF X aH;obtain⟨b,F,rfl,Ji,cB,-⟩:=N.at_ (by omega);have bT:=Q.1;have aD:=Q.2;unfold maxLen at aD;have bf:b≠x:=λ e=>h.apart (e▸Ji);have ak:ah D w (some ⟨b,F,none⟩) k ((l.take k).map bv):=by
     have:=N.take k;rw[aaJ]
     rwa [aa3 X]at this
    have wm:=acp (EB (some ⟨b,F,none⟩) k c (l.take k) w (by omega) ak);have W:acr ((l.take k).length=k):=by show _=_;rw[List.length_take];omega
    have Ou:acr ((l.drop k).length=L-k):=by show _=_;rw[List.length_drop,hL]
    have uV:∀(B:World) (A:Mx) (C:Nat),QV w (l.take k) (.returned (.slice A k C)) B->∀(R:Mx) (rc:Nat),qj (L-k) rc->(0<L-k->R=some ⟨b,F+k,none⟩)->
      Li D w x (l.take k) (l.drop k,0) (.returned (.slice A k C)) (B.setCell ⟨x,0,none⟩ (.slice R (L-k) rc)):=by
     intro B A C m R rc aJ hR;obtain⟨a1,cc,V,Z,Y,u⟩:=m;rw[W.o]at V Z Y;cases V;have aL:=(u.block x H).trans K;refine⟨A,C,by rw[W.o],by rw[W.o];exact Z,?_,⟨⟨R,rc,?_,?_,?_⟩,h.apart,?_,by simp,λ z G=>by rw[size_set];exact Pd (h.low z G) u.size⟩,?_⟩
     ·rw[W.o];refine Y.move (by rw[size_set];exact Nat.le_refl _) λ z G aN=>⟨⟨G.1,by rw[size_set];exact G.2⟩,aI B _ _ _ (λ e=> ?_)⟩;have e':z=x:=e;omega
     ·rw[aG aL];simp only[Ou.o];rfl
     ·rw[Ou.o];exact aJ
     ·simp only[Ou.o];have aB:ah D B (some ⟨b,F+k,none⟩) (L-k) ((l.drop k).map bv):=by
       have:=(N.drop k).below u acs
       rwa [<-aaU]at this
      have av:ah D B R (L-k) ((l.drop k).map bv):=by
       by_cases G:0<L-k
       ·rw[hR G];exact aB
       ·exact ah.zero R _ _ (by omega) (by rw[aac (l:=l.drop k) (by rw[Ou.o];omega)];rfl)
      exact av.kept (by rw[size_set];exact Nat.le_refl _) λ z G _=>aI B _ _ _ (λ(e:z=x)=>h.apart (e▸G))
     ·show(l.drop k).length<=_;rw[Ou.o];omega
     ·exact((Keeps.below u).mono (fp':=λ z=>z=x) λ z G bq=>by omega).trans (Keeps.jy B ⟨x,0,none⟩ _) λ z _ G=>G
    have I:=acp uV;clear uV h K Q N J O E ak hL h0;have b1:(1:Int)<=(k:Int):=by omega
    have b0:(0:Int)<=(k:Int):=by omega
    have b2:(k:Int)<=(c:Int):=by omega
    have b3:(k:Int)<=(L:Int):=by omega
    have d1:decide ((k:Int)<1)=false:=by simp;omega
    by_cases aA:c=k
    ·obtain rfl:k=c:=aA.symm;go_enter Tryz.func155,Tryz.ntmps155;go_wp2_with fail;refine wm.o.mono ?_;rintro e B m;obtain⟨A,C,rfl⟩:∃A C,e= .returned (.slice A k C):=by
      obtain⟨A,C,V,-⟩:=m;exact⟨A,C,by rw[V,W.o]⟩
     have M:=acp m;have u:Below w.heap.size w B:=by
      obtain⟨_,_,_,_,_,U⟩:=m;exact U
     have q0:B.cell? ⟨x,0,none⟩=some (.slice (some ⟨b,F,none⟩) L k):=(u.cell (p:=⟨x,0,none⟩) H).trans c0;have g0:B.frozen? ⟨x,0,none⟩=false:=(u.frozen (p:=⟨x,0,none⟩) H).trans f0;clear m u wm;go_wp2_with fail;go_ret;have S:=I.o B A C M.o (some ⟨b,F,none⟩) 0 ⟨by omega,Nat.zero_le _⟩ (λ G=>by omega);rw[show L-k=0 by omega]at S;exact S
    ·go_enter Tryz.func155,Tryz.ntmps155;go_wp2_with fail;refine wm.o.mono ?_;rintro e B m;obtain⟨A,C,rfl⟩:∃A C,e= .returned (.slice A k C):=by
      obtain⟨A,C,V,-⟩:=m;exact⟨A,C,by rw[V,W.o]⟩
     have M:=acp m;have u:Below w.heap.size w B:=by
      obtain⟨_,_,_,_,_,U⟩:=m;exact U
     have q0:B.cell? ⟨x,0,none⟩=some (.slice (some ⟨b,F,none⟩) L c):=(u.cell (p:=⟨x,0,none⟩) H).trans c0;have g0:B.frozen? ⟨x,0,none⟩=false:=(u.frozen (p:=⟨x,0,none⟩) H).trans f0;clear m u wm;go_wp2_with fail;go_ret;exact I.o B A C M.o _ _ ⟨by omega,by unfold maxLen;omega⟩ (λ G=>by first|rfl|omega)
 ·have J:kJ (l,y) n=([],(l,y)):=Ij (s:=(l,y)) hy n;rw[J];have d1:(y==0)=false:=by simpa using hy
  have d2:(y !=0)=true:=by simpa using hy
  have P:=acp h;clear h K Q N J hy;go_enter Tryz.func155,Tryz.ntmps155;go_wp2
  all_goals (first|(go_ret;exact row0 P.o (Keeps.refl _ _))|((try simp only[Exit.inBlock,Exit.then]);refine aav (by rfl) rfl ?_;exact row0 P.o (Keeps.refl _ _)))
theorem u64_or(n c:Int)(m:0<=n)(z:n<72057594037927936)(u:0<=c)(y:c<256):bits .or .u64 (n*256) c=n*256+c:=by
 obtain⟨a,rfl⟩:=Int.eq_ofNat_of_zero_le m;obtain⟨b,rfl⟩:=Int.eq_ofNat_of_zero_le u;have h:=bits_or_u64_nat (a*256) b (by omega) (by omega);rw[show((a:Int)*256)=((a*256:Nat):Int)by omega,h,nat_join8 _ _ (by omega) (by omega)];omega
theorem raw_len(s:Rd)(k:Nat):(kJ s k).1.length<=k:=by
 unfold kJ;split
 ·simp
 ·split
  ·simp
  ·split
   ·simp
   ·simp only[List.length_take];omega
theorem Ov{l:I8}(h:l.length<=8)(j:Nat)(y:j<l.length):0<=r_ (l.take j)/\r_ (l.take j)<72057594037927936:=by
 obtain⟨u,m⟩:=tL j (l.take j) (by rw[List.length_take];omega);refine⟨u,Int.lt_of_lt_of_le m ?_⟩;have z:j<=7:=by omega
 have:j=0\/j=1\/j=2\/j=3\/j=4\/j=5\/j=6\/j=7:=by omega
 rcases this with h|h|h|h|h|h|h|h<;>subst h<;>decide
theorem Ow(h:bW D w x s)(k:Nat)(hk:k<=8):Dy 205 #[ptr x,.int .i64 k] w (zZ D w x (.int .u64 (fD s k).1) (fD s k).2):=by
 have R:=acp (JA h (k:Int) (by omega) (by omega));have B:=raw_len s k;unfold fD;obtain⟨m,y⟩:∃m,m=(kJ s k).1:=⟨_,rfl⟩;obtain⟨O,C⟩:∃O,O=(kJ s k).2:=⟨_,rfl⟩;rw[<-y,<-C]at R;rw[<-y]at B;rw[<-y,<-C];have Bv:m.length<=8:=by omega
 clear h y C B;go_enter Tryz.func205,Tryz.ntmps205;go_wp2_with fail;refine R.o.mono ?_;rintro e M ⟨a,c,rfl,U,J,X,G⟩;have I:=acp J;have uV:acr (bW D M x O/\Keeps (λ b=>b=x) w M):=⟨X,G⟩;obtain⟨L,K⟩:∃L,L=m.length:=⟨_,rfl⟩;have V:=acp K;rw[<-K]at Bv I;rw[<-K];clear U J X G R K;go_wp2_with fail
 go_loop [5,12] (λ n i=>∃j:Nat,j<=L/\i= .int .i64 j/\n= .int .u64 (r_ (m.take j))) (λ _ i=>L-(intOf i).toNat)
 case atStart=>exact⟨0,Nat.zero_le _,rfl,rfl⟩
 case round=>
  obtain⟨j,hj,rfl,rfl⟩:=hrel;by_cases S:j<L
  ·obtain⟨b,P,rfl,_,ak,F⟩:=I.o.at_ (by omega);have N:=V.o;obtain⟨v0,Y⟩:=Ov (l:=m) (by omega) j (by omega);have u:m[j]? =some (m[j]'(by omega)):=List.getElem?_eq_getElem (by omega);have E:m.take (j+1)=m.take j++[m[j]'(by omega)]:=aai (by omega);obtain⟨z,H⟩:∃z,z=m[j]'(by omega):=⟨_,rfl⟩;rw[<-H]at u E;have q:=F j S;rw[List.getElem?_map,u]at q;have q1:M.cell? ⟨b,P+j,none⟩=some (.int .u8 (z.toNat:Int)):=q;have W:acr (r_ (m.take (j+1))=r_ (m.take j)*256+(z.toNat:Int)):=by
    show _=_;rw[E,zY]
   have Q:(z.toNat:Int)<256:=by have:=z.toNat_lt;omega
   obtain⟨v,Z⟩:∃v,v=r_ (m.take j):=⟨_,rfl⟩;rw[<-Z]at v0 Y W⊢;have HO:acr (bits .or .u64 (v*256) (z.toNat:Int)=v*256+(z.toNat:Int)):=u64_or v _ v0 Y (by omega) Q;clear N u E H q F Z;go_wp2
   go_round
   case rel=>exact⟨j+1,by omega,by go_num,by rw[W.o,<-HO.o]⟩
   case measure=>simp[intOf];omega
  ·obtain rfl:j=L:=by omega
   have A:m.take j=m:=by rw[List.take_of_length_le (by have:=V.o;omega)]
   rw[A];clear A;go_wp2;go_ret;exact⟨rfl,uV.o⟩
theorem Lj(h:bW D w x s):Dy 153 #[ptr x] w (zZ D w x (.int .i64 (fD s 2).1) (fD s 2).2):=by
 have z:acr (Dy 205 #[ptr x,.int .i64 2] w (zZ D w x (.int .u64 (fD s 2).1) (fD s 2).2)):=Ow h 2 (by omega);obtain⟨A,y⟩:=xC s 2;have B:IntKind.i64.wrap (fD s 2).1=(fD s 2).1:=aaf _ (by have:(256:Int)^2=65536:=rfl;omega);generalize (fD s 2).1=v at*;generalize (fD s 2).2=E at*;clear h y;go_enter Tryz.func153,Tryz.ntmps153;go_wp2_with fail;refine z.o.mono ?_;rintro e C ⟨rfl,u⟩;have m:=acp u;clear u;go_wp2_with fail;go_ret;exact⟨rfl,m.o⟩
theorem QW(h:bW D w x s):Dy 223 #[ptr x] w (zZ D w x (.int .i64 (fD s 1).1) (fD s 1).2):=by
 have z:acr (Dy 205 #[ptr x,.int .i64 1] w (zZ D w x (.int .u64 (fD s 1).1) (fD s 1).2)):=Ow h 1 (by omega);obtain⟨A,y⟩:=xC s 1;have B:IntKind.i64.wrap (fD s 1).1=(fD s 1).1:=aaf _ (by have:(256:Int)^1=256:=rfl;omega);generalize (fD s 1).1=v at*;generalize (fD s 1).2=E at*;clear h y;go_enter Tryz.func223,Tryz.ntmps223;go_wp2_with fail;refine z.o.mono ?_;rintro e C ⟨rfl,u⟩;have m:=acp u;clear u;go_wp2_with fail;go_ret;exact⟨rfl,m.o⟩
theorem QX(h:bW D w x s):Dy 154 #[ptr x] w (zZ D w x (.int .u64 (fD s 8).1) (fD s 8).2):=by
 have y:acr (Dy 205 #[ptr x,.int .i64 8] w (zZ D w x (.int .u64 (fD s 8).1) (fD s 8).2)):=Ow h 8 (by omega);generalize (fD s 8).1=v at*;generalize (fD s 8).2=A at*;clear h;go_enter Tryz.func154,Tryz.ntmps154;go_wp2_with fail;refine y.o.mono ?_;rintro e z ⟨rfl,u⟩;have m:=acp u;clear u;go_wp2_with fail;go_ret;exact⟨rfl,m.o⟩
theorem WK(h:bW D w x s):Dy 224 #[ptr x] w (Li D w x (vY s).1 (vY s).2):=by
 have N:=acp (Lj h);obtain⟨J,O⟩:=xC s 2;have P:(fD s 2).1<=9223372036854775807:=by have:(256:Int)^2=65536:=rfl;omega
 unfold vY;generalize (fD s 2).1=v at*;generalize (fD s 2).2=E at*;clear h O;go_enter Tryz.func224,Tryz.ntmps224;go_wp2_with fail;refine N.o.mono ?_;rintro e G ⟨rfl,H,m⟩;have M:=acp (JA H v J P);have I:=acp m;clear H m;go_wp2_with fail;refine M.o.mono ?_;rintro e B ⟨a,c,rfl,y,A,u,z⟩;have F:acr (qj (kJ E v).1.length c/\ah (λ b=>G.heap.size<=b/\b<B.heap.size) B a (kJ E v).1.length ((kJ E v).1.map bv)/\bW D B x (kJ E v).2/\Keeps (λ b=>b=x) G B):=⟨y,A,u,z⟩;clear y A u z;go_wp2_with fail;go_ret;obtain⟨g1,K,g3,g4⟩:=F.o;exact⟨a,c,rfl,g1,K.mono λ b C=>⟨Nat.le_trans I.o.size C.1,C.2⟩,g3,I.o.trans g4 λ b _ C=>C⟩
theorem QY(h:bW D w x s):Dy 240 #[ptr x] w λ e w'=>e= .returned (.int .i64 (uO s:Int))/\w=w':=by
 obtain⟨l,y⟩:=s;obtain⟨a,c,u,A,B⟩:=h.head;have E:w.cell? ⟨x,0,none⟩=some (.slice a l.length c):=by simp[World.cell?,u]
 have F:w.cell? ⟨x,1,none⟩=some (.int .i64 y):=by simp[World.cell?,u]
 by_cases z:y=0
 ·subst z;have m:uO (l,0)=l.length:=by unfold uO;rw[if_neg (by simp)]
  rw[m];clear h u A B m;go_enter Tryz.func240,Tryz.ntmps240;go_wp2;go_ret;exact⟨rfl,rfl⟩
 ·have m:uO (l,y)=0:=by unfold uO;rw[if_pos z]
  rw[m];have C:(y !=0)=true:=by simpa using z
  clear h u A B m z;go_enter Tryz.func240,Tryz.ntmps240;go_wp2;go_ret;exact⟨rfl,rfl⟩
theorem rd_end(h:bW D w x s):Dy 225 #[ptr x] w λ e w'=>e= .returned (.int .i64 (Lh s))/\w=w':=by
 obtain⟨l,y⟩:=s;obtain⟨a,c,u,A,B⟩:=h.head;have G:w.cell? ⟨x,0,none⟩=some (.slice a l.length c):=by simp[World.cell?,u]
 have H:w.cell? ⟨x,1,none⟩=some (.int .i64 y):=by simp[World.cell?,u]
 by_cases z:y=0
 ·subst z;by_cases F:0<l.length
  ·have m:Lh (l,0)=11:=by unfold Lh;rw[if_pos ⟨rfl,F⟩]
   rw[m];have E:decide ((0:Int)<(l.length:Int))=true:=by simp;omega
   clear h u A B m;go_enter Tryz.func225,Tryz.ntmps225;go_wp2;go_ret;exact⟨rfl,rfl⟩
  ·obtain rfl:l=[]:=aac (by omega);have m:Lh ([],0)=0:=rfl;rw[m];clear h u A B m;go_enter Tryz.func225,Tryz.ntmps225;go_wp2;go_ret;exact⟨rfl,rfl⟩
 ·have m:Lh (l,y)=y:=by unfold Lh;rw[if_neg (λ C=>z C.1)]
  rw[m];have E:(y==0)=false:=by simpa using z
  clear h u A B m z;go_enter Tryz.func225,Tryz.ntmps225;go_wp2;go_ret;exact⟨rfl,rfl⟩
theorem rd_flag(h:bW D w x s):Dy 310 #[ptr x] w (zZ D w x (.bool (Ii s).1) (Ii s).2):=by
 have C:=acp (QW h);obtain⟨P,N⟩:=xC s 1;unfold Ii;generalize (fD s 1).1=v at*;generalize (fD s 1).2=K at*;clear h N;by_cases G:1<v
 ·rw[if_pos G];have I:decide (v=1)=false:=by simp;omega
  have S:(v==1)=false:=by simp;omega
  rw[I];clear I;go_enter Tryz.func310,Tryz.ntmps310;go_wp2_with fail;refine C.o.mono ?_;rintro e z ⟨rfl,u,m⟩;obtain⟨l,y⟩:=K;obtain⟨a,c,B,H,J⟩:=u.head;have R:z.frozen? ⟨x,1,none⟩=false:=by simp[World.frozen?,B]
  have Q:z.cell? ⟨x,1,none⟩=some (.int .i64 y):=by simp[World.cell?,B]
  have E:acr (bW D (z.setCell ⟨x,1,none⟩ (.int .i64 12)) x (l,12)):=by
   refine⟨⟨a,c,?_,H,?_⟩,u.apart,u.small,by simp,λ b A=>by rw[size_set];exact u.low b A⟩
   ·rw[aG B];rfl
   ·exact J.kept (by rw[size_set];exact Nat.le_refl _) λ b A _=>aI z _ _ _ (λ(e:b=x)=>u.apart (e▸A))
  have O:=acp m;clear u m B H J C;go_wp2_with fail;go_ret;exact⟨rfl,E.o,O.o.trans (Keeps.jy z ⟨x,1,none⟩ _) λ b _ A=>A⟩
 ·rw[if_neg G];have F:decide (v=1)=(v==1):=by by_cases M:v=1<;>simp[M]
  rw[F];clear F;go_enter Tryz.func310,Tryz.ntmps310;go_wp2_with fail;refine C.o.mono ?_;rintro e z ⟨rfl,u,m⟩;have E:acr (bW D z x K/\Keeps (λ b=>b=x) w z):=⟨u,m⟩;clear u m C;go_wp2_with fail;go_ret;exact⟨rfl,E.o⟩
end
structure EC(w0 w:World)(x:Nat)(s:I8):Prop where
 new:w0.heap.size<=x
 at_:bW (λ b=>w0.heap.size<=b/\b<x) w x (s,0)
 below:Below w0.heap.size w0 w
theorem ED{m w w':World}{x:Nat}(u:Below m.heap.size m w)(B:m.heap.size<=x)(z:Keeps (λ b=>b=x) w w'):Below m.heap.size m w':=u.trans (z.bS u.size λ y A (e:y=x)=>by omega)
theorem EC.grow{y w w':World}{x:Nat}{s:I8}(h:EC y w x s)(m:Below w.heap.size w w'):EC y w' x s:=
 ⟨h.new,h.at_.kept m.size (m.block x h.at_.lt) λ b z u=>m.block b u,h.below.trans (m.mono h.below.size)⟩
def Ll(m w:World)(x:Nat)(v:Value)(r:I8)(e:Ending)(w':World):Prop:=e= .returned v/\EC m w' x r/\Keeps (λ b=>b=x) w w'
def wo(m w:World)(x:Nat)(l r:I8)(e:Ending)(w':World):Prop:=
 ∃a c,e= .returned (.slice a l.length c)/\qj l.length c/\ah (λ b=>w.heap.size<=b/\b<w'.heap.size) w' a l.length (l.map bv)/\EC m w' x r/\Keeps (λ b=>b=x) w w'
section
variable{w0 w:World}{x:Nat}{s r l:I8}
theorem yI{S:Nat->Prop}(w0 w:World)(z:Below w0.heap.size w0 w)(a:Mx)(n c:Nat)(y:I8)(D:n<=100000000)(A:ah S w a n (y.map bv)):Dy 152 #[.slice a n c] w λ e w'=>∃x,e= .returned (ptr x)/\w.heap.size<=x/\EC w0 w' x y/\Below w.heap.size w w':=by
 refine(yg a n c y w D A).mono ?_;rintro e w' ⟨x,rfl,B,u,m⟩;have C:=z.size;exact⟨x,rfl,B,⟨by omega,⟨u.head.imp λ a h=>h.imp λ c h=>⟨h.1,h.2.1,h.2.2.mono λ b m=>⟨by omega,m.2⟩⟩,λ h=>by have:=h.2;omega,u.small,u.why,λ b m=>by have:=u.lt;have:=m.2;omega⟩,z.trans (m.mono C)⟩,m⟩
theorem EC.val(h:EC w0 w x s){v:Value}{e:Ending}{w':World}(m:zZ (λ b=>w0.heap.size<=b/\b<x) w x v (r,0) e w'):Ll w0 w x v r e w':=⟨m.1,⟨h.new,m.2.1,ED h.below h.new m.2.2⟩,m.2.2⟩
theorem JB(h:EC w0 w x s)(n:Int)(y:s=bF n 1++r)(u:0<=n)(z:n<256):Dy 223 #[ptr x] w (Ll w0 w x (.int .i64 n) r):=by
 refine(QW h.at_).mono λ e w' m=> ?_;rw[y,qw 1 n r u z]at m;exact h.val m
theorem jC(h:EC w0 w x s)(n:Int)(y:s=bF n 2++r)(u:0<=n)(z:n<65536):Dy 153 #[ptr x] w (Ll w0 w x (.int .i64 n) r):=by
 refine(Lj h.at_).mono λ e w' m=> ?_;rw[y,qw 2 n r u z]at m;exact h.val m
theorem tN(h:EC w0 w x s)(n:Int)(y:s=bF n 8++r)(u:0<=n)(z:n<18446744073709551616):Dy 154 #[ptr x] w (Ll w0 w x (.int .u64 n) r):=by
 refine(QX h.at_).mono λ e w' m=> ?_;rw[y,qw 8 n r u z]at m;exact h.val m
theorem EC.row(h:EC w0 w x s){e:Ending}{w':World}(u:Li (λ b=>w0.heap.size<=b/\b<x) w x l (r,0) e w'):wo w0 w x l r e w':=by
 obtain⟨a,c,B,z,A,y,m⟩:=u;exact⟨a,c,B,z,A,⟨h.new,y,ED h.below h.new m⟩,m⟩
theorem z_(h:EC w0 w x s)(u:s=qO l++r)(y:l.length<=65535):Dy 224 #[ptr x] w (wo w0 w x l r):=by
 refine(WK h.at_).mono λ e w' m=> ?_;rw[u,Ot l r y]at m;exact h.row m
theorem wu(h:EC w0 w x s)(n:Nat)(u:s=l++r)(y:n=l.length)(z:l.length<=100000000):Dy 155 #[ptr x,.int .i64 n] w (wo w0 w x l r):=by
 refine(JA h.at_ (n:Int) (by omega) (by omega)).mono λ e w' m=> ?_;rw[u,vZ l r n (by rw[y])]at m;exact h.row m
theorem rn_left(h:EC w0 w x s):Dy 240 #[ptr x] w λ e w'=>e= .returned (.int .i64 (s.length:Int))/\w=w':=by
 have m:=QY h.at_
 rwa [show uO (s,0)=s.length by unfold uO;rw[if_neg (by simp)]]at m
theorem Ox(h:EC w0 w x []):Dy 225 #[ptr x] w λ e w'=>e= .returned (.int .i64 0)/\w=w':=rd_end h.at_
end
def jK(w:World)(g:Nat)(m:Array Value)(t:TypeId)(w':World):Prop:=w'.heap[g]? =some (.cells m t (0,0))/\Keeps (λ b=>b=g) w w'/\w'.heap.size=w.heap.size
theorem yJ(w:World)(g:Nat)(m u:Array Value)(t:TypeId)(A:w.heap[g]? =some (.cells m t (0,0))):jK w g u t (w.setRow g u):=by
 have y:(w.setRow g u).heap.size=w.heap.size:=by simp[World.setRow]
 exact⟨setRow_heap w g m u t _ A,⟨rfl,rfl,rfl,by omega,λ b _ z=>setRow_other w g b u z⟩,y⟩
theorem aj{P:Program}{B:Array Oper}{rest:List Oper}{o:Oper}{a:Act}{w:World}{Q:Exit->Act->World->Prop}(C:o.guard=none)(z:TypeId)(x y:Operand)(H:o.op= .store z x y)
  (g:Nat)(m:Array Value)(E:a.eval x= .pointer (some ⟨g,0,none⟩))(G:a.eval y= .agg m)
  (u:Array Value)(D:w.heap[g]? =some (.cells u z (0,0)))(I:(P.info? z).map (·.size)=some m.size)
  (A:u.size=m.size)(F:m.all (·.oneCell')=true)
  (h:∀w',jK w g m z w'->wpList P B Q rest (a.put o.dst undef) w'):wpList P B Q (o::rest) a w:=
 wpList_store_row C z x y H g m E G z u D I A F (h _ (yJ w g u m z D))
theorem jK.below{z w w':World}{g:Nat}{A:Array Value}{t:TypeId}(h:jK w g A t w')(m:Below z.heap.size z w)(B:z.heap.size<=g):Below z.heap.size z w':=by
 obtain⟨_,y,C⟩:=h;exact⟨y.os.trans m.os,y.tape.trans m.tape,y.output.trans m.output,Nat.le_trans m.size y.size,λ b u=>(y.block b (Pd u m.size) (λ e:b=g=>by omega)).trans (m.block b u)⟩
theorem jX{P:Program}{z:Func}{a b:Nat}{t:TypeId}{m:Array Value}{y:Addr}{v:Value}{w:World}(h:z.results= #[.cell a t,.tmp b])(A:m.getD a undef= .pointer (some y))(B:(loadVar t y).run P w= .ok v w):(results z m).run P w= .ok (.tuple #[v,m.getD b undef]) w:=by
 have u:m[a]?.getD undef= .pointer (some y):=by simpa using A
 simp[results,h,asAddr,u,B]
theorem wz:(Tryz.prog.info? 36).map (·.size)=some 6:=by kernel_rfl
def m_:Array Value:= #[.int .i64 0,.int .i64 0,.int .i64 0,.int .i64 0,.int .u64 0,.bool false]
theorem Aa{y:Func}{A u:Nat}{Q:Ending->World->Prop}{a:Act}{w:World}{b:Nat}{m:Array Value}{z:Value}(H:y.results= #[.cell A 36,.tmp u])(D:a.tmps.getD A undef= .pointer (some ⟨b,0,none⟩))(B:a.tmps.getD u undef=z)(C:a.defers=[])(E:w.heap[b]? =some (.cells m 36 (0,0)))(G:m.size=6)(F:Q (.returned (.tuple #[.agg m,z])) w):
  bodyPost Tryz.prog y Q .ret a w:=by
 subst B;exact aav (v:= .tuple #[.agg m,a.tmps.getD u undef]) (jX H D (aaS w b 36 36 _ (0,0) _ E Tryz.underlying36 rfl (by rw[G];exact wz))) C F
abbrev yh:Array Value:= #[.int .i64 0,.int .i64 2,.int .i64 1,.int .i64 0,.int .u64 0,.bool true]
def Lm:List UInt8:=bF 0 2++(bF 2 1++(bF 1 2++(bF 0 2++(bF 0 8++(bF 1 1++[])))))
theorem rn_true{u w:World}{x:Nat}{s r:I8}(h:EC u w x s)(z:s=bF 1 1++r):Dy 310 #[ptr x] w (Ll u w x (.bool true) r):=by
 refine(rd_flag h.at_).mono λ e w' m=> ?_;have y:Ii (s,0)=(true,(r,0)):=by
  unfold Ii;rw[z,qw 1 1 r (by omega) (by omega)];rfl
 rw[y]at m;exact h.val m
theorem nright0(w:World):Dy 215 #[.agg yh] w λ e w'=>e= .returned (.bool true)/\Below w.heap.size w w':=by
 go_enter Tryz.func215,Tryz.ntmps215;go_wp2
 all_goals (first|(go_ret;exact⟨rfl,wall w _⟩)|((try simp only[Exit.inBlock,Exit.then]);refine aav (by rfl) rfl ?_;exact⟨rfl,wall w _⟩))
theorem ndec0{S:Nat->Prop}(a:Mx)(n c:Nat)(w:World)(hn:n<=1000)(X:ah S w a n (Lm.map bv)):
  Dy 298 #[.slice a n c] w λ e w'=>e= .returned (.tuple #[.agg yh,.int .i64 0])/\Below w.heap.size w w':=by
 obtain⟨A,y⟩:∃A,A=w.alloc (.cells m_ 36):=⟨_,rfl⟩;have C:Below w.heap.size w A:=by rw[y];exact wall w _
 have F:A.heap[w.heap.size]? =some (.cells m_ 36 (0,0)):=by rw[y];exact(MapKept.heap_alloc w _).1
 have ak:A.heap.size=w.heap.size+1:=by rw[y];simp
 have R:=acp (yI A A acu a n c Lm (by omega) (X.below C acs));have J:=acp y;have H:=acp C;have tO:=acp F;clear X C F y;go_enter Tryz.func298,Tryz.ntmps298;go_wp2_with fail;rw[show w.alloc (.cells #[.int .i64 0,.int .i64 0,.int .i64 0,.int .i64 0,.int .u64 0,.bool false] 36)=A from J.o.symm];refine R.o.mono ?_;rintro e w2 ⟨x,rfl,hx,u,K⟩;have V:=acp (jC u 0 rfl (by omega) (by omega));clear hx u K R;go_wp2_with fail;refine V.o.mono ?_;rintro e w3 ⟨rfl,u,-⟩;have Gx:=acp (JB u 2 rfl (by omega) (by omega));clear u V;go_wp2_with fail;refine Gx.o.mono ?_;rintro e w4 ⟨rfl,u,-⟩;have Q:=acp (jC u 1 rfl (by omega) (by omega));clear u Gx;go_wp2_with fail;refine Q.o.mono ?_;rintro e w5 ⟨rfl,u,-⟩;have U:=acp (jC u 0 rfl (by omega) (by omega));clear u Q;go_wp2_with fail;refine U.o.mono ?_;rintro e w6 ⟨rfl,u,-⟩;have E:=acp (tN u 0 rfl (by omega) (by omega));clear u U;go_wp2_with fail;refine E.o.mono ?_;rintro e w7 ⟨rfl,u,-⟩;have G:=acp (rn_true u rfl);clear u E;go_wp2_with fail;refine G.o.mono ?_;rintro e m ⟨rfl,u,-⟩;have dG:Below m.heap.size m (m.alloc (.cells yh 36)):=wall m _;have D:=u.grow dG;have HE:=acp (Ox D);have O:=acp D.below;clear u dG D G;go_wp2_with fail;refine HE.o.mono ?_;rintro e _ ⟨rfl,rfl⟩;clear HE;have M:=acp (nright0 (m.alloc (.cells yh 36)));obtain⟨z,P⟩:∃z,z=m.alloc (.cells yh 36):=⟨_,rfl⟩;have I:z.heap[m.heap.size]? =some (.cells yh 36 (0,0)):=by rw[P];exact(MapKept.heap_alloc m _).1
 rw[<-P]at M O⊢;obtain⟨g0,g1,g2,g3,g4,g5⟩:z.cell? ⟨m.heap.size,0,none⟩=some (.int .i64 0)/\z.cell? ⟨m.heap.size,1,none⟩=some (.int .i64 2)/\z.cell? ⟨m.heap.size,2,none⟩=some (.int .i64 1)/\z.cell? ⟨m.heap.size,3,none⟩=some (.int .i64 0)/\z.cell? ⟨m.heap.size,4,none⟩=some (.int .u64 0)/\z.cell? ⟨m.heap.size,5,none⟩=some (.bool true):=by
  refine⟨?_,?_,?_,?_,?_,?_⟩<;>simp[World.cell?,I]
 have CP:=acp I;clear P I;go_wp2_with fail;refine M.o.mono ?_;rintro e B ⟨rfl,N⟩;have W:B.heap[m.heap.size]? =some (.cells yh 36 (0,0)):=(N.block _ (qW.1 CP.o).1).trans CP.o;obtain⟨g0,g1,g2,g3,g4,g5⟩:B.cell? ⟨m.heap.size,0,none⟩=some (.int .i64 0)/\B.cell? ⟨m.heap.size,1,none⟩=some (.int .i64 2)/\B.cell? ⟨m.heap.size,2,none⟩=some (.int .i64 1)/\B.cell? ⟨m.heap.size,3,none⟩=some (.int .i64 0)/\B.cell? ⟨m.heap.size,4,none⟩=some (.int .u64 0)/\B.cell? ⟨m.heap.size,5,none⟩=some (.bool true):=by
  refine⟨?_,?_,?_,?_,?_,?_⟩<;>simp[World.cell?,W]
 have nR:=acp (O.o.trans (N.mono O.o.size));clear W N M;go_wp2_with (refine aj (by rfl) 36 _ _ (by rfl) w.heap.size yh (by rfl) (by rfl) _ ((nR.o.block _ (by omega)).trans tO.o) wz rfl (by simp[Value.oneCell']) ?_;intro wG Z;have Y:=acp Z;clear Z);refine Aa rfl rfl rfl rfl Y.o.1 rfl ?_;exact⟨rfl,Y.o.below (H.o.trans (nR.o.mono H.o.size)) acs⟩
