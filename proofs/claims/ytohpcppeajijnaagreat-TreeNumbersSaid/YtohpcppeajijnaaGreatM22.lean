/- The reference's tree in memory; at, Node, entry. The reference: Node, entry. slices.Equal of texts; path.Within. What chapter 7's reference says: Good, Within. The reference: right, look, Look, file. -/
import Derived.Test.YtohpcppeajijnaaGreatM20
import Derived.Test.YtohpcppeajijnaaGreatM10
namespace Go.Proofs.YtohpcppeajijnaaGreat
open Go.ChangeShapes Go.WideShapes Go.ChangeAt Go.RowKit
set_option linter.unusedVariables false
set_option linter.unusedSimpArgs false
theorem flat_get {α β:Type} (f:α→List β) (k:Nat) (hk:∀x,(f x).length=k):∀(L:List α) (i j:Nat) (x:α),L[i]? =some x→j<k→(L.flatMap f)[i*k+j]? =(f x)[j]?
 |[],i,j,x,h,_=>by simp at h
 |y::r,0,j,x,h,hj=>by
  simp only[List.getElem?_cons_zero,Option.some.injEq]at h
  subst h
  rw[List.flatMap_cons,Nat.zero_mul,Nat.zero_add,List.getElem?_append_left (by rw[hk];exact hj)]
 |y::r,i+1,j,x,h,hj=>by
  rw[List.flatMap_cons,List.getElem?_append_right (by rw[hk,Nat.add_mul];omega),hk,show(i+1)*k+j-k=i*k+j by rw[Nat.add_mul];omega]
  exact flat_get f k hk r i j x (by simpa using h) hj
abbrev iF:=Int×Nm×Int
def bV (q:Int×bF):List Value:=[.int .i64 q.1, .int .i64 q.2.kind, .int .i64 q.2.links, .int .i64 q.2.b.length, .int .u64 q.2.aQ, .bool q.2.closed]
def dV (e:iF):List Value:=[.int .i64 e.1, .string (strOf e.2.1), .int .i64 e.2.2]
def jh (q:Int×bF):List iF:=q.2.names.map fun e=>(q.1,e.1,e.2)
def aU (T:aH):List iF:=T.flatMap jh
def BytesAt (F:Nat→Prop) (w:World) (a:Option Addr) (bs:List (List UInt8)):Prop:=
 ∃vs:List Value,ak F w a bs.length vs∧∀(i:Nat) (b:List UInt8),bs[i]? =some b→∃(a:Option Addr) (c:Nat),vs[i]? =some (.slice a b.length c)∧qz b.length c∧ak F w a b.length (b.map bv)
theorem BytesAt.move {F F':Nat→Prop} {w w':World} {a:Option Addr} {bs:List (List UInt8)} (h:BytesAt F w a bs) (hs:w.heap.size≤w'.heap.size) (hk:∀b,F b→b<w.heap.size→F' b∧w'.heap[b]? =w.heap[b]?):BytesAt F' w' a bs:=by
 obtain⟨vs,h1,h2⟩:=h
 refine⟨vs,h1.move hs hk,fun i b hb=> ?_⟩
 obtain⟨a,c,h3,h4,h5⟩:=h2 i b hb
 exact⟨a,c,h3,h4,h5.move hs hk⟩
def Base (a:Option Addr) (c:Nat):Prop:=(a=none∧c=0)∨∃b,a=some ⟨b,0,none⟩
def Off (F:Nat→Prop) (r:Nat):Nat→Prop:=fun b=>F b∧b≠r
structure fT (F:Nat→Prop) (w:World) (r:Nat) (T:aH) (D:List (List UInt8)) (E:List iF):Prop where
 head:∃aN cN aD cD aE cE,w.heap[r]? =some (.cells #[.slice aN T.length cN, .slice aD D.length cD, .slice aE E.length cE] 102 (0,0))∧T.length≤cN∧D.length≤cD∧E.length≤cE∧
  ak (Off F r) w aN (T.length*6) (T.flatMap bV)∧BytesAt (Off F r) w aD D∧ak (Off F r) w aE (E.length*3) (E.flatMap dV)∧Base aE cE
 own:F r
 low:∀b,F b→b<w.heap.size
abbrev gU (F:Nat→Prop) (w:World) (r:Nat) (T:aH):Prop:=fT F w r T (T.map fun q=>q.2.b) (aU T)
theorem fT.keeps {F fp:Nat→Prop} {w w':World} {r:Nat} {T:aH} {D:List (List UInt8)} {E:List iF} (h:fT F w r T D E) (hK:Keeps fp w w') (hn:∀b,F b→¬fp b):fT F w' r T D E:=by
 have hk:∀b,Off F r b→b<w.heap.size→Off F r b∧w'.heap[b]? =w.heap[b]? :=fun b hb hbw=>⟨hb,hK.block b hbw (hn b hb.1)⟩
 obtain⟨aN,cN,aD,cD,aE,cE,h1,h2,h3,h4,h8,h9,h10,h11⟩:=h.head
 exact⟨⟨aN,cN,aD,cD,aE,cE,(hK.block r (h.low r h.own) (hn r h.own)).trans h1,h2,h3,h4,h8.move hK.size hk,h9.move hK.size hk,h10.move hK.size hk,h11⟩,h.own,fun b hb=>Nat.lt_of_lt_of_le (h.low b hb) hK.size⟩
theorem fT.below {F:Nat→Prop} {w w':World} {B r:Nat} {T:aH} {D:List (List UInt8)} {E:List iF} (h:fT F w r T D E) (hb:Below B w w') (hB:w.heap.size≤B):fT F w' r T D E:=
 h.keeps (fp:=fun x=>B≤x) (Keeps.below hb) fun x hx hf=>by have:=h.low x hx;omega
theorem dM (q:Int×bF):(bV q).length=6:=rfl
theorem gY (e:iF):(dV e).length=3:=rfl
theorem ak.wide {α:Type} {F:Nat→Prop} {w:World} {a:Option Addr} {n k:Nat} {f:α→List Value} {L:List α} (h:ak F w a (n*k) (L.flatMap f)) (hk:∀x,(f x).length=k) (hn:L.length=n) {i:Nat} {x:α} (hx:L[i]? =some x) (hk0:0<k):
  ∃b off,a=some ⟨b,off,none⟩∧F b∧b<w.heap.size∧i<n∧∀j,j<k→w.cell? ⟨b,off+i*k+j,none⟩=(f x)[j]? :=by
 have hi:i<n:=by rw[←hn];exact(List.getElem?_eq_some_iff.1 hx).1
 have hik:i*k+k≤n*k:=by rw[←Nat.succ_mul];exact Nat.mul_le_mul_right k hi
 obtain⟨b,off,e,hF,hb,hc⟩:=h.at_ (by omega)
 refine⟨b,off,e,hF,hb,hi,fun j hj=> ?_⟩
 rw[Nat.add_assoc,hc (i*k+j) (by omega),flat_get f k hk L i j x hx hj]
section
variable {F:Nat→Prop} {r:Nat} {T:aH} {D:List (List UInt8)} {E:List iF}
def lH (id:Int) (q:Int×bF):Bool:=decide (q.1=id)
set_option maxHeartbeats 1000000 in
theorem o_ (id:Int) (w:World) (h:fT F w r T D E) (hl:T.length≤64):Calls Tryz.prog 64 #[ptr r, .int .i64 id] w fun e w'=>e= .returned (.int .i64 (lU (lH id) T))∧w=w':=by
 obtain⟨aN,cN,aD,cD,aE,cE,h1,-,-,-,hN,-,-,-⟩:=h.head
 have hr0:=h.low r h.own
 have hc0:w.cell? ⟨r,0,none⟩=some (.slice aN T.length cN):=by simp[World.cell?,h1]
 have HN:=Lib.hid hN
 obtain⟨n,hn⟩:∃n,n=T.length:=⟨_,rfl⟩
 rw[←hn]at hc0 hl HN
 have HL:=Lib.hid hn
 clear h h1 hN hn
 go_enter Tryz.func64,Tryz.ntmps64
 go_wp2
 go_loop [5] (fun i=>∃k:Nat,k≤n∧i= .int .i64 k∧(T.take k).any (lH id)=false) (fun i=>n-(intOf i).toNat)
 case atStart=>exact⟨0,by omega,rfl,by simp⟩
 case round=>
  obtain⟨k,hk,rfl,hany⟩:=hrel
  have HA:=Lib.hid hany
  clear hany
  by_cases hlt:k<n
  ·have hx:T[k]? =some (T[k]'(by have:=HL.out;omega)):=List.getElem?_eq_getElem _
   obtain⟨q,hq⟩:∃q,q=T[k]'(by have:=HL.out;omega):=⟨_,rfl⟩
   rw[←hq]at hx
   have HX:=Lib.hid hx
   obtain⟨b,off,rfl,hF,hb,hi,hc⟩:=HN.out.wide dM HL.out.symm hx (by omega)
   have c0:w.cell? ⟨b,off+k*6,none⟩=some (.int .i64 q.1):=hc 0 (by omega)
   clear hx hq hc
   have i0:(0:Int)≤k:=by omega
   have i1:(k:Int)<n:=by omega
   by_cases hp:q.1=id
   ·have hpp:(q.1==id)=true:=by simpa using hp
    have HP:Hid (lH id q=true):=by show lH id q=true;simp[lH,hp]
    clear hp
    go_wp2
    go_ret
    exact⟨fM (rF HA.out HX.out HP.out).symm,rfl⟩
   ·have hpp:(q.1==id)=false:=by simpa using hp
    have HP:Hid (lH id q=false):=by show lH id q=false;simp[lH,hp]
    clear hp
    go_wp2
    go_round
    case rel=>exact⟨k+1,by omega,by go_num,any_take_succ HA.out HX.out HP.out⟩
    case measure=>simp[intOf];omega
  ·go_wp2
   go_ret
   exact⟨fM (kR (by have:=HA.out;rwa [List.take_of_length_le (by have:=HL.out;omega)]at this)).symm,rfl⟩
end
theorem qL {T:aH} {id:Int} (h:aj id T=none):lU (lH id) T= -1:=by
 refine kR ?_
 rw[List.any_eq_false]
 intro q hq
 have:=ji.1 h q hq
 simpa[lH]using this
theorem iO {T:aH} (hs:aP iC T) {id:Int} {x:bF} (h:aj id T=some x):∃k:Nat,lU (lH id) T=k∧T[k]? =some (id,x):=by
 cases hf:T.findIdx? (lH id)with
 |none=>
  rw[List.findIdx?_eq_none_iff]at hf
  have:=hf _ (cu h)
  simp[lH]at this
 |some k=>
  refine⟨k,by simp[lU,hf],?_⟩
  rw[List.findIdx?_eq_some_iff_getElem]at hf
  obtain⟨hk,hp,_⟩:=hf
  have h1:T[k]? =some T[k]:=List.getElem?_eq_getElem hk
  have h2:T[k].1=id:=by simpa[lH]using hp
  have h3:=bX dR hs (List.getElem_mem hk)
  rw[h2,h]at h3
  rw[h1]
  congr 1
  exact Prod.ext h2 (Option.some.inj h3).symm
def gB (d:Int) (n:Nm) (e:iF):Bool:=decide (e.1=d∧e.2.1=n)
section
variable {F:Nat→Prop} {r:Nat} {T:aH} {D:List (List UInt8)} {E:List iF}
theorem fT.node {w:World} (h:fT F w r T D E) {k:Nat} {q:Int×bF} (hq:T[k]? =some q):∃b off c,w.cell? ⟨r,0,none⟩=some (.slice (some ⟨b,off,none⟩) T.length c)∧Off F r b∧b<w.heap.size∧k<T.length∧w.cell? ⟨b,off+k*6,none⟩=some (.int .i64 q.1)∧w.cell? ⟨b,off+k*6+1,none⟩=some (.int .i64 q.2.kind)∧w.cell? ⟨b,off+k*6+2,none⟩=some (.int .i64 q.2.links)∧w.cell? ⟨b,off+k*6+3,none⟩=some (.int .i64 q.2.b.length)∧w.cell? ⟨b,off+k*6+4,none⟩=some (.int .u64 q.2.aQ)∧w.cell? ⟨b,off+k*6+5,none⟩=some (.bool q.2.closed):=by
 obtain⟨aN,cN,aD,cD,aE,cE,h1,-,-,-,hN,-,-,-⟩:=h.head
 obtain⟨b,off,rfl,hF,hb,hi,hc⟩:=hN.wide dM rfl hq (by omega)
 exact⟨b,off,cN,by simp[World.cell?,h1],hF,hb,hi,hc 0 (by omega),hc 1 (by omega),hc 2 (by omega),hc 3 (by omega),hc 4 (by omega),hc 5 (by omega)⟩
theorem fT.data {w:World} (h:fT F w r T D E) {k:Nat} {d:List UInt8} (hq:D[k]? =some d):∃b off c a c',w.cell? ⟨r,1,none⟩=some (.slice (some ⟨b,off,none⟩) D.length c)∧Off F r b∧b<w.heap.size∧w.cell? ⟨b,off+k,none⟩=some (.slice a d.length c')∧qz d.length c'∧ak (Off F r) w a d.length (d.map bv):=by
 obtain⟨aN,cN,aD,cD,aE,cE,h1,-,-,-,-,hD,-,-⟩:=h.head
 obtain⟨vs,hv,hrow⟩:=hD
 have hk:k<D.length:=(List.getElem?_eq_some_iff.1 hq).1
 obtain⟨b,off,rfl,hF,hb,hc⟩:=hv.at_ (by omega)
 obtain⟨a,c',h3,h4,h5⟩:=hrow k d hq
 exact⟨b,off,cD,a,c',by simp[World.cell?,h1],hF,hb,by rw[hc k hk];exact h3,h4,h5⟩
theorem fT.ent {w:World} (h:fT F w r T D E):∃a c,w.cell? ⟨r,2,none⟩=some (.slice a E.length c)∧E.length≤c∧ak (Off F r) w a (E.length*3) (E.flatMap dV)∧Base a c:=by
 obtain⟨aN,cN,aD,cD,aE,cE,h1,-,-,h4,-,-,hE,hz⟩:=h.head
 exact⟨aE,cE,by simp[World.cell?,h1],h4,hE,hz⟩
theorem fT.nodes {w:World} (h:fT F w r T D E):∃a c,w.cell? ⟨r,0,none⟩=some (.slice a T.length c)∧T.length≤c:=by
 obtain⟨aN,cN,aD,cD,aE,cE,h1,h4,-,-,-,-,-,-⟩:=h.head
 exact⟨aN,cN,by simp[World.cell?,h1],h4⟩
set_option maxHeartbeats 1000000 in
theorem jO (id:Int) (w:World) (h:fT F w r T D E) (hT:tF T):Calls Tryz.prog 73 #[ptr r, .int .i64 id] w fun e w'=>e= .returned (.tuple #[jy T id, .bool (aj id T).isSome])∧Below w.heap.size w w':=by
 have hlen:=hT.len
 have HR:=Lib.hid (fun o=>o_ id (w.alloc o) (h.below (wall w o) (Nat.le_refl _)) hlen)
 have hr0:=h.low r h.own
 unfold jy
 cases hx:aj id T with
 |none=>
  rw[qL hx]at HR
  clear h hx hT
  go_enter Tryz.func73,Tryz.ntmps73
  go_wp2_with fail
  (with_reducible refine(HR.out _).mono ?_)
  rintro e w1 ⟨rfl,rfl⟩
  go_wp2_with fail
  exact bodyPost_ret (v:= .tuple #[.agg #[.int .i64 0, .int .i64 0, .int .i64 0, .int .i64 0, .int .u64 0, .bool false], .bool false]) (by simp[results,Tryz.results73,go_sem]) rfl ⟨rfl,wall w _⟩
 |some x=>
  obtain⟨k,hk,hq⟩:=iO hT.sorted hx
  rw[hk]at HR
  obtain⟨b,off,c,hc0,hF,hb,hkl,c0,c1,c2,c3,c4,c5⟩:=h.node hq
  have i0:(0:Int)≤k:=by omega
  have i1:(k:Int)<T.length:=by omega
  have i2:¬(k:Int)<0:=by omega
  simp only at c0 c1 c2 c3 c4 c5
  clear h hx hk hq hT
  unfold iM
  go_enter Tryz.func73,Tryz.ntmps73
  go_wp2_with fail
  (with_reducible refine(HR.out _).mono ?_)
  rintro e w1 ⟨rfl,rfl⟩
  go_wp2_with fail
  exact bodyPost_ret (v:= .tuple #[.agg #[.int .i64 id, .int .i64 x.kind, .int .i64 x.links, .int .i64 x.b.length, .int .u64 x.aQ, .bool x.closed], .bool true]) (by simp[results,Tryz.results73,go_sem]) rfl ⟨rfl,wall w _⟩
set_option maxHeartbeats 1000000 in
theorem iP (d:Int) (nm:Nm) (w:World) (h:fT F w r T D E) (hl:E.length≤1000000):Calls Tryz.prog 63 #[ptr r, .int .i64 d, .string (strOf nm)] w fun e w'=>e= .returned (.int .i64 (lU (gB d nm) E))∧w=w':=by
 obtain⟨aE,cE,hc0,-,hE,-⟩:=h.ent
 have hr0:=h.low r h.own
 have HN:=Lib.hid hE
 obtain⟨n,hn⟩:∃n,n=E.length:=⟨_,rfl⟩
 rw[←hn]at hc0 hl HN
 have HL:=Lib.hid hn
 clear h hE hn
 go_enter Tryz.func63,Tryz.ntmps63
 go_wp2
 go_loop [7] (fun i=>∃k:Nat,k≤n∧i= .int .i64 k∧(E.take k).any (gB d nm)=false) (fun i=>n-(intOf i).toNat)
 case atStart=>exact⟨0,by omega,rfl,by simp⟩
 case round=>
  obtain⟨k,hk,rfl,hany⟩:=hrel
  have HA:=Lib.hid hany
  clear hany
  by_cases hlt:k<n
  ·have hx:E[k]? =some (E[k]'(by have:=HL.out;omega)):=List.getElem?_eq_getElem _
   obtain⟨q,hq⟩:∃q,q=E[k]'(by have:=HL.out;omega):=⟨_,rfl⟩
   rw[←hq]at hx
   have HX:=Lib.hid hx
   obtain⟨b,off,rfl,hF,hb,hi,hc⟩:=HN.out.wide gY HL.out.symm hx (by omega)
   have c0:w.cell? ⟨b,off+k*3,none⟩=some (.int .i64 q.1):=hc 0 (by omega)
   have c1:w.cell? ⟨b,off+k*3+1,none⟩=some (.string (strOf q.2.1)):=hc 1 (by omega)
   clear hx hq hc
   have i0:(0:Int)≤k:=by omega
   have i1:(k:Int)<n:=by omega
   by_cases hp:q.1=d
   ·have hpp:(q.1==d)=true:=by simpa using hp
    by_cases hp2:q.2.1=nm
    ·have HP:Hid (gB d nm q=true):=by show gB d nm q=true;simp[gB,hp,hp2]
     rw[hp2]at c1
     clear hp hp2
     go_wp2
     go_ret
     exact⟨fM (rF HA.out HX.out HP.out).symm,rfl⟩
    ·have HP:Hid (gB d nm q=false):=by show gB d nm q=false;simp[gB,hp,hp2]
     obtain⟨hs1,hs2⟩:=Fv hp2
     clear hp hp2
     go_wp2
     go_round
     case rel=>exact⟨k+1,by omega,by go_num,any_take_succ HA.out HX.out HP.out⟩
     case measure=>simp[intOf];omega
   ·have hpp:(q.1==d)=false:=by simpa using hp
    have HP:Hid (gB d nm q=false):=by show gB d nm q=false;simp[gB,hp]
    clear hp
    go_wp2
    go_round
    case rel=>exact⟨k+1,by omega,by go_num,any_take_succ HA.out HX.out HP.out⟩
    case measure=>simp[intOf];omega
  ·go_wp2
   go_ret
   exact⟨fM (kR (by have:=HA.out;rwa [List.take_of_length_le (by have:=HL.out;omega)]at this)).symm,rfl⟩
end
theorem xq {S S':Nat→Prop} (a a':Option Addr) (len cap len' cap':Nat) (ss ss':List ByteArray) (w:World) (h:aG S w a len ss) (h':aG S' w a' len' ss'):
  Calls Tryz.prog 175 #[.slice a len cap, .slice a' len' cap'] w fun e w'=>e= .returned (.bool (decide (ss=ss')))∧Below w.heap.size w w':=by
 have hl:=h.length
 have hl':=h'.length
 have hm:=h.row.small
 have hm':=h'.row.small
 unfold maxLen at hm hm'
 by_cases hne:len=len'
 ·subst hne
  by_cases h0:len=0
  ·subst h0
   refine(Tryz.slices_Equal_string_empty a a' cap 0 cap' w (by omega)).mono ?_
   rintro e w' ⟨rfl,rfl⟩
   obtain rfl:ss=[]:=by simpa using hl
   obtain rfl:ss'=[]:=by simpa using hl'
   exact⟨rfl,Below.refl _ _⟩
  ·obtain⟨b,off,rfl,_,_,_⟩:=h.row.at_ (by omega)
   obtain⟨b',off',rfl,_,_,_⟩:=h'.row.at_ (by omega)
   refine(Tryz.slices_Equal_string b off len cap b' off' len cap' ss ss' w (by omega) (by omega) (by omega) (by omega) (fun j hj=>rP h j hj) (fun j hj=>rP h' j hj)).mono ?_
   rintro e w' ⟨rfl,q,rfl⟩
   rw[List.take_of_length_le (by omega),List.take_of_length_le (by omega)]
   exact⟨rfl,⟨rfl,rfl,rfl,Nat.le_refl _,fun _ _=>rfl⟩⟩
 ·refine(Tryz.slices_Equal_string_lens a a' len cap len' cap' w hne).mono ?_
  rintro e w' ⟨rfl,rfl⟩
  have:ss≠ss':=fun e=>hne (by rw[←hl,←hl',e])
  exact⟨by simp[this],Below.refl _ _⟩
def je (ss ss':List ByteArray):Bool:=decide (ss.take ss'.length=ss')
theorem zw {S S':Nat→Prop} (a a':Option Addr) (len cap len' cap':Nat) (ss ss':List ByteArray) (w:World) (h:aG S w a len ss) (h':aG S' w a' len' ss') (hcap:len≤cap):
  Calls Tryz.prog 142 #[.slice a len cap, .slice a' len' cap'] w fun e w'=>e= .returned (.bool (je ss ss'))∧Below w.heap.size w w':=by
 have hl:=h.length
 have hl':=h'.length
 have hm:=h.row.small
 unfold maxLen at hm
 by_cases hle:len'≤len
 ·have hT:=h.take len' hle
  have hp:decide (ss.take len'=ss')=je ss ss':=by
   unfold je;rw[hl']
  have HP:=Lib.hid hp
  clear hp hl hl'
  have e5:len'≤cap:=by omega
  cases a with
  |none=>
   have h0:len'=0:=by
    rcases Nat.eq_zero_or_pos len' with h0|h0
    ·exact h0
    ·obtain⟨b,off,e,_⟩:=h.row.at_ (by omega)
     cases e
   subst h0
   go_enter Tryz.func142,Tryz.ntmps142
   go_wp2_with fail
   refine(xq _ _ _ _ _ _ _ _ _ hT h').mono ?_
   rintro e w1 ⟨rfl,hb⟩
   rw[HP.out]
   go_wp2_with fail
   go_ret
   exact⟨rfl,hb⟩
  |some ad=>
   go_enter Tryz.func142,Tryz.ntmps142
   go_wp2_with fail
   refine(xq _ _ _ _ _ _ _ _ _ hT h').mono ?_
   rintro e w1 ⟨rfl,hb⟩
   rw[HP.out]
   go_wp2_with fail
   go_ret
   exact⟨rfl,hb⟩
 ·have hp:je ss ss'=false:=by
   unfold je
   rw[decide_eq_false_iff_not]
   intro hh
   have:=congrArg List.length hh
   simp at this
   omega
  have HP:=Lib.hid hp
  clear hp hl hl'
  go_enter Tryz.func142,Tryz.ntmps142
  go_wp2_with fail
  go_ret
  exact⟨iI HP.out.symm,Below.refl _ _⟩
theorem wE {α:Type} {l l':List α} {k:Nat} {x y:α} (hx:l[k]? =some x) (hy:l'[k]? =some y) (h:x≠y):l≠l':=by
 intro e;rw[e,hy]at hx;exact h (Option.some.inj hx).symm
theorem xZ {α:Type} {l l':List α} {k:Nat} {x:α} (h:l.take k=l'.take k) (hx:l[k]? =some x) (hy:l'[k]? =some x):l.take (k+1)=l'.take (k+1):=by
 rw[List.take_add_one,List.take_add_one,h,hx,hy]
theorem DX {x y:ByteArray} (h:x≠y):(x.toList==y.toList)=false:=by
 rw[beq_eq_false_iff_ne,ByteArray.toList_eq,ByteArray.toList_eq]
 intro e
 exact h (WideShapes.bytes_inj e)
theorem Gu (s:ByteArray) (k:Nat) (h:k<s.size):s[k]=s.data.toList.getD k 0:=by
 have h2:k<s.data.toList.length:=by simpa using h
 simp only[List.getD,List.getElem?_eq_getElem h2,Option.getD_some]
 rfl
set_option maxHeartbeats 1000000 in
theorem DY (s:ByteArray) (w:World) (hs:s.size≤maxLen):
  Calls Tryz.prog 129 #[.string s] w fun e w'=>e= .returned (.bool (dG s.data.toList))∧Below w.heap.size w w':=by
 unfold maxLen at hs
 have hb:=Below.refl w.heap.size w
 go_enter Tryz.func129,Tryz.ntmps129
 go_wp2
 go_loop [3] (fun i=>∃k:Nat,k≤s.size∧i= .int .i64 k∧(s.data.toList.take k).all gG=true) (fun i=>s.size-(intOf i).toNat)
 case atStart=>exact⟨0,by omega,rfl,rfl⟩
 case round=>
  obtain⟨k,hk,rfl,ha⟩:=hrel
  have HA:=Lib.hid ha
  clear ha
  by_cases hlt:k<s.size
  ·obtain⟨c,hcc⟩:∃c,c=s.data.toList.getD k 0:=⟨_,rfl⟩
   have hix:=Gu s k hlt
   rw[←hcc]at hix
   have hsn:=yL gG s.data.toList k (by simpa using hlt)
   rw[←hcc]at hsn
   have HS:=Lib.hid hsn
   have HG:Hid (gG c=false→dG s.data.toList=false):=fun h=>by
    have:=yM gG s.data.toList k (by simpa using hlt)
    rw[←hcc]at this
    simp[dG,this h]
   clear hsn hcc
   have hbd:=Ch c
   rcases Cg c with⟨ho,h1,h2⟩|⟨ho,h1,h2,h3⟩|⟨ho,h1⟩|⟨ho,h1⟩|⟨ho,h1⟩|⟨ho,h1,h2,h3,h4,h5,h6⟩|⟨ho,h1,h2,h3,h4,h5,h6⟩|⟨ho,h1,h2,h3,h4,h5⟩
   iterate 5
    ·have HO:=Lib.hid ho
     clear ho HG
     go_wp2
     go_round
     case rel=>exact⟨k+1,by omega,by go_num,by rw[HS.out,HA.out,HO.out];rfl⟩
     case measure=>simp[intOf];omega
   iterate 3
    ·have HO:=Lib.hid ho
     clear ho
     go_wp2
     go_ret
     exact⟨iI (HG.out HO.out).symm,hb⟩
  ·have hk':k=s.size:=by omega
   have HA2:s.data.toList.all gG=true:=by
    have:=HA.out
    rw[hk',List.take_of_length_le (by simp)]at this
    exact this
   have hl:s.data.toList.length=s.size:=by simp
   have he:=ByteArray.toList_eq s
   have ways:(s.toList=[]∧s.toList.isEmpty=true∧dG s.data.toList=false)∨
     (¬s.toList=[]∧s.toList.isEmpty=false∧16<s.size∧dG s.data.toList=false)∨
     (¬s.toList=[]∧s.toList.isEmpty=false∧s.size≤16∧s.toList=[46]∧(s.toList==[46])=true∧dG s.data.toList=false)∨
     (¬s.toList=[]∧s.toList.isEmpty=false∧s.size≤16∧¬s.toList=[46]∧(s.toList==[46])=false∧s.toList=[46,46]∧(s.toList==[46,46])=true∧dG s.data.toList=false)∨
     (¬s.toList=[]∧s.toList.isEmpty=false∧s.size≤16∧¬s.toList=[46]∧(s.toList==[46])=false∧¬s.toList=[46,46]∧(s.toList==[46,46])=false∧dG s.data.toList=true):=by
    rw[he]
    generalize s.data.toList=l at HA2 hl
    rw[←hl]
    exact wM l HA2
   have hz1:Hid (s.toList=[]→s.size<1):=fun h=>by rw[he]at h;rw[h]at hl;simp at hl;omega
   have hz2:Hid (¬s.toList=[]→1≤s.size):=fun h=>by
    rw[he]at h
    have:=List.length_pos_iff.2 h
    omega
   clear HA2 hl he HA hk'
   rcases ways with⟨h1,h2,hg⟩|⟨h1,h2,h3,hg⟩|⟨h1,h2,h3,h4,h5,hg⟩|⟨h1,h2,h3,h4,h5,h6,h7,hg⟩|⟨h1,h2,h3,h4,h5,h6,h7,hg⟩
   ·have hz:=hz1.out h1
    have HG:=Lib.hid hg
    clear hg
    go_wp2
    go_ret
    exact⟨iI HG.out.symm,hb⟩
   all_goals
    have hz:=hz2.out h1
    have HG:=Lib.hid hg
    clear hg
    go_wp2
    go_ret
    exact⟨iI HG.out.symm,hb⟩
theorem zx {S S':Nat→Prop} (a a':Option Addr) (len cap len' cap':Nat) (ss ss':List ByteArray) (w:World) (h:aG S w a len ss) (h':aG S' w a' len' ss'):
  Calls Tryz.prog 144 #[.slice a len cap, .slice a' len' cap'] w fun e w'=>e= .returned (.bool (je ss ss'))∧Below w.heap.size w w':=by
 have hl:=h.length
 have hl':=h'.length
 have hm:=h.row.small
 have hm':=h'.row.small
 unfold maxLen at hm hm'
 by_cases hle:len'≤len
 ·have HL:=Lib.hid hl
  have R7:=Lib.hid hl'
  clear hl hl'
  go_enter Tryz.func144,Tryz.ntmps144
  go_wp2
  go_loopw [5] (fun i wr=>∃k:Nat,k≤len'∧i= .int .i64 k∧ss.take k=ss'.take k∧Below w.heap.size w wr) (fun i _=>len'-(intOf i).toNat)
  case atStart=>exact⟨0,by omega,rfl,rfl,Below.refl _ _⟩
  case round=>
   obtain⟨k,hk,rfl,ht,hb⟩:=hrel
   have HT:=Lib.hid ht
   clear ht
   by_cases hlt:k<len'
   ·obtain⟨b,off,x,rfl,_,_,hx,_,hc⟩:=(h.below hb (Nat.le_refl _)).cell k (by omega)
    obtain⟨b',off',y,rfl,_,_,hy,_,hc'⟩:=(h'.below hb (Nat.le_refl _)).cell k hlt
    have HX:=Lib.hid hx
    have HY:=Lib.hid hy
    clear hx hy h h'
    have hk0:(0:Int)≤(k:Int):=by omega
    have hk1:(k:Int)<(len:Int):=by omega
    have hk2:(k:Int)<(len':Int):=by omega
    by_cases hxy:x=y
    ·subst hxy
     go_wp2
     go_quiet (fail)
     go_wp2
     go_roundw
     case rel=>exact⟨k+1,by omega,by go_num,xZ HT.out HX.out HY.out,hb.trans ⟨rfl,rfl,rfl,Nat.le_refl _,fun _ _=>rfl⟩⟩
     case measure=>simp[intOf];omega
    ·have hxl:=DX hxy
     have HN:=Lib.hid hxy
     clear hxy
     go_wp2
     go_quiet (fail)
     go_wp2
     go_ret
     refine⟨iI ?_,hb.trans ⟨rfl,rfl,rfl,Nat.le_refl _,fun _ _=>rfl⟩⟩
     symm
     unfold je
     rw[decide_eq_false_iff_not]
     refine wE (k:=k) ?_ HY.out HN.out
     rw[List.getElem?_take,if_pos (by have:=R7.out;omega)]
     exact HX.out
   ·have hk':k=len':=by omega
    have HK:=Lib.hid hk'
    clear hk'
    go_wp2
    go_ret
    refine⟨iI ?_,hb⟩
    have:=HT.out
    rw[HK.out]at this
    unfold je
    rw[R7.out,this,List.take_of_length_le (by have:=R7.out;omega)]
    simp
 ·have hp:je ss ss'=false:=by
   unfold je
   rw[decide_eq_false_iff_not]
   intro hh
   have:=congrArg List.length hh
   simp at this
   omega
  have HP:=Lib.hid hp
  clear hp hl hl'
  go_enter Tryz.func144,Tryz.ntmps144
  go_wp2
  go_ret
  exact⟨iI HP.out.symm,Below.refl _ _⟩
theorem iZ {T:aH} (hs:aP iC T) {e:iF}:e∈aU T↔∃x,aj e.1 T=some x∧e.2∈x.names:=by
 unfold aU
 rw[List.mem_flatMap]
 constructor
 ·rintro ⟨q,hq,he⟩
  obtain⟨y,hy,rfl⟩:=List.mem_map.1 he
  exact⟨q.2,bX dR hs hq,hy⟩
 ·rintro ⟨x,hx,he⟩
  exact⟨(e.1,x),cu hx,List.mem_map.2 ⟨e.2,he,rfl⟩⟩
theorem oH {T:aH} (hs:aP iC T) {id:Int} {x:bF} {nm:Nm} (hx:aj id T=some x) (hn:aj nm x.names=none):lU (gB id nm) (aU T)= -1:=by
 refine kR ?_
 rw[List.any_eq_false]
 intro e he h
 obtain⟨y,hy,hm⟩:=(iZ hs).1 he
 simp only[gB,decide_eq_true_eq]at h
 rw[h.1,hx]at hy
 cases hy
 exact ji.1 hn _ hm h.2
theorem mK {T:aH} (hT:tF T) {id j:Int} {x:bF} {nm:Nm} (hx:aj id T=some x) (hn:aj nm x.names=some j):∃k:Nat,lU (gB id nm) (aU T)=k∧(aU T)[k]? =some (id,nm,j):=by
 have hmem:((id,nm,j):iF)∈aU T:=(iZ hT.sorted).2 ⟨x,hx,cu hn⟩
 cases hf:(aU T).findIdx? (gB id nm)with
 |none=>
  rw[List.findIdx?_eq_none_iff]at hf
  have:=hf _ hmem
  simp[gB]at this
 |some k=>
  refine⟨k,by simp[lU,hf],?_⟩
  rw[List.findIdx?_eq_some_iff_getElem]at hf
  obtain⟨hk,hp,_⟩:=hf
  have h1:(aU T)[k]? =some (aU T)[k]:=List.getElem?_eq_getElem hk
  obtain⟨e,he⟩:∃e,e=(aU T)[k]:=⟨_,rfl⟩
  have hm:=List.getElem_mem hk
  rw[←he]at h1 hp hm
  simp only[gB,decide_eq_true_eq]at hp
  obtain⟨y,hy,hm2⟩:=(iZ hT.sorted).1 hm
  rw[hp.1,hx]at hy
  cases hy
  have h3:=bX uD (hT.each id x hx).sorted hm2
  rw[hp.2,hn]at h3
  rw[h1]
  congr 1
  exact Prod.ext hp.1 (Prod.ext hp.2 (Option.some.inj h3).symm)
theorem vw {S:Nat→Prop} {w:World} {a:Option Addr} {n:Nat} {ls:List Nm} (h:aG S w a n (ls.map strOf)) (k:Nat) (hk:k<n):∃b off nm,a=some ⟨b,off,none⟩∧S b∧b<w.heap.size∧ls[k]? =some nm∧nm.length≤maxLen∧w.cell? ⟨b,off+k,none⟩=some (.string (strOf nm)):=by
 obtain⟨b,off,s,e,hS,hb,hs,hsz,hc⟩:=h.cell k hk
 rw[List.getElem?_map]at hs
 cases hq:ls[k]? with
 |none=>rw[hq]at hs;cases hs
 |some nm=>
  rw[hq]at hs
  have:strOf nm=s:=by simpa using hs
  subst this
  rw[dF]at hsz
  exact⟨b,off,nm,e,hS,hb,rfl,hsz,hc⟩
theorem DZ {ls:List Nm} (h:ls.any (fun x=> !dG x)=true):bO ls=12:=by unfold bO;rw[if_pos h]
theorem Gv {ls:List Nm} (h:ls.any (fun x=> !dG x)=false):bO ls=if 8<ls.length then 3 else 0:=by unfold bO;rw[if_neg (by rw[h];decide)]
set_option maxHeartbeats 1000000 in
theorem nk {S:Nat→Prop} (a:Option Addr) (n c:Nat) (ls:List Nm) (w:World) (hS:aG S w a n (ls.map strOf)):
  Calls Tryz.prog 61 #[.slice a n c] w fun e w'=>e= .returned (.int .i64 (bO ls))∧Below w.heap.size w w':=by
 have hln:ls.length=n:=by have:=hS.length;simpa using this
 have hnm:=hS.row.small
 unfold maxLen at hnm
 have HS:=Lib.hid (fun w1 (hb:Below w.heap.size w w1)=>hS.below hb (Nat.le_refl _))
 have HL:=Lib.hid hln
 clear hS hln
 go_enter Tryz.func61,Tryz.ntmps61
 go_wp2
 go_loopw [3] (fun i wr=>∃k:Nat,k≤n∧i= .int .i64 k∧(ls.take k).any (fun x=> !dG x)=false∧Below w.heap.size w wr) (fun i _=>n-(intOf i).toNat)
 case atStart=>exact⟨0,by omega,rfl,by simp,Below.refl _ _⟩
 case round=>
  obtain⟨k,hk,rfl,hany,hB⟩:=hrel
  have HA:=Lib.hid hany
  have HB:=Lib.hid hB
  clear hany hB
  by_cases hlt:k<n
  ·obtain⟨b,off,nm,rfl,_,hbw,hx,hsz,hc⟩:=vw (HS.out wr HB.out) k hlt
   have HX:=Lib.hid hx
   have HG:=Lib.hid (DY (strOf nm) wr (by rw[dF];exact hsz))
   have e0:(strOf nm).data.toList=nm:=by simp[strOf]
   rw[e0]at HG
   clear hx hsz e0
   have i0:(0:Int)≤k:=by omega
   have i1:(k:Int)<n:=by omega
   cases hp:dG nm with
   |true=>
    rw[hp]at HG
    have HP:Hid ((fun x:Nm=> !dG x) nm=false):=by show(!dG nm)=false;rw[hp];rfl
    clear hp
    go_wp2_with fail
    (with_reducible refine HG.out.mono ?_)
    rintro e w1 ⟨rfl,hb1⟩
    go_wp2_with fail
    go_roundw
    case rel=>exact⟨k+1,by omega,by go_num,any_take_succ HA.out HX.out HP.out,HB.out.trans (hb1.mono HB.out.size)⟩
    case measure=>simp[intOf];omega
   |false=>
    rw[hp]at HG
    have HP:Hid (ls.any (fun x=> !dG x)=true):=by
     show ls.any _=true
     rw[List.any_eq_true]
     exact⟨nm,List.mem_of_getElem? HX.out,by rw[hp];rfl⟩
    clear hp
    go_wp2_with fail
    (with_reducible refine HG.out.mono ?_)
    rintro e w1 ⟨rfl,hb1⟩
    go_wp2_with fail
    go_ret
    exact⟨fM (DZ HP.out).symm,HB.out.trans (hb1.mono HB.out.size)⟩
  ·have HF:Hid (bO ls=if 8<n then 3 else 0):=by
    have:=HA.out
    rw[List.take_of_length_le (by have:=HL.out;omega)]at this
    have h2:=Gv this
    rw[HL.out]at h2
    exact h2
   by_cases h8:8<n
   ·have hd:decide ((8:Int)<(n:Int))=true:=by simp only[decide_eq_true_eq];omega
    rw[if_pos h8]at HF
    clear h8
    go_wp2
    go_ret
    exact⟨fM HF.out.symm,HB.out⟩
   ·have hd:decide ((8:Int)<(n:Int))=false:=by simp only[decide_eq_false_iff_not];omega
    rw[if_neg h8]at HF
    clear h8
    go_wp2
    go_ret
    exact⟨fM HF.out.symm,HB.out⟩
section
variable {F:Nat→Prop} {r:Nat} {T:aH}
set_option maxHeartbeats 2000000 in
theorem pq {S:Nat→Prop} (a:Option Addr) (n c:Nat) (ls:List Nm) (w:World) (h:gU F w r T) (hT:dA T) (hE:(aU T).length≤1000000) (hS:aG S w a n (ls.map strOf)):
  Calls Tryz.prog 72 #[ptr r, .slice a n c] w fun e w'=>e= .returned (.tuple #[.int .i64 (aF T 0 ls).1, .int .i64 (aF T 0 ls).2])∧Below w.heap.size w w':=by
 have hln:ls.length=n:=by have:=hS.length;simpa using this
 have hnm:=hS.row.small
 unfold maxLen at hnm
 have HS:=Lib.hid (fun w1 (hb:Below w.heap.size w w1)=>hS.below hb (Nat.le_refl _))
 have HH:=Lib.hid (fun w1 (hb:Below w.heap.size w w1)=>h.below hb (Nat.le_refl _))
 have hr0:=h.low r h.own
 have HT:=Lib.hid hT
 have HL:=Lib.hid hln
 have HE:=Lib.hid hE
 clear hS hln h hT hE
 go_enter Tryz.func72,Tryz.ntmps72
 go_wp2
 go_loopw [6,7] (fun s i wr=>∃(k:Nat) (id:Int),k≤n∧i= .int .i64 k∧s= .int .i64 id∧(aj id T).isSome=true∧aF T id (ls.drop k)=aF T 0 ls∧Below w.heap.size w wr) (fun _ i _=>n-(intOf i).toNat)
 case atStart=>exact⟨0,0,by omega,rfl,rfl,dW HT.out,by simp,Below.refl _ _⟩
 case round=>
  obtain⟨k,id,hk,rfl,rfl,hid,hlk,hB⟩:=hrel
  obtain⟨x,hx⟩:=Option.isSome_iff_exists.1 hid
  have kK:=Lib.hid hlk
  have HX:=Lib.hid hx
  have HB:=Lib.hid hB
  have HSZ:=Lib.hid hB.size
  clear hlk hid hx hB
  by_cases hlt:k<n
  ·obtain⟨b,off,nm,rfl,_,hbw,hn,hsz,hc⟩:=vw (HS.out wr HB.out) k hlt
   have HN:=Lib.hid hn
   have zX:=Lib.hid (jO id wr (HH.out wr HB.out) HT.out.totF)
   have hnd:jy T id=iM id x:=by unfold jy;rw[HX.out]
   rw[hnd]at zX
   unfold iM at zX
   have i0:(0:Int)≤k:=by omega
   have i1:(k:Int)<n:=by omega
   clear hn hnd hsz
   by_cases hk2:x.kind=2
   ·rw[hk2]at zX
    cases hj:aj nm x.names with
    |none=>
     have hfin:=Lib.hid (uL HX.out hk2 HN.out hj)
     have Jf:=Lib.hid (fun w1 (hb:Below w.heap.size w w1)=>iP id nm w1 (HH.out w1 hb) HE.out)
     rw[oH HT.out.sorted HX.out hj]at Jf
     clear hj hk2
     go_wp2_with fail
     (with_reducible refine zX.out.mono ?_)
     rintro e w1 ⟨rfl,hb1⟩
     have HB1:=Lib.hid (HB.out.trans (hb1.mono HB.out.size))
     have hcb:b<w1.heap.size:=Nat.lt_of_lt_of_le hbw hb1.size
     have hc1:w1.cell? ⟨b,off+k,none⟩=some (.string (strOf nm)):=by rw[hb1.cell (p:=⟨b,off+k,none⟩) hbw];exact hc
     have hr1:r<w1.heap.size:=Nat.lt_of_lt_of_le hr0 HB1.out.size
     clear hb1
     go_wp2_with fail
     (with_reducible refine(Jf.out _ (HB1.out.trans ((wall w1 _).mono HB1.out.size))).mono ?_)
     rintro e w2 ⟨rfl,rfl⟩
     go_wp2_with fail
     go_ret2
     exact⟨mD (by rw[←kK.out,hfin.out]),HB1.out.trans ((wall w1 _).mono HB1.out.size)⟩
    |some j=>
     have hfin:=Lib.hid (uJ HX.out hk2 HN.out hj)
     have HJ:=Lib.hid ((HT.out.leads id x HX.out _ (cu hj)).1)
     have Jf:=Lib.hid (fun w1 (hb:Below w.heap.size w w1)=>iP id nm w1 (HH.out w1 hb) HE.out)
     obtain⟨m,hm1,hm2⟩:=mK HT.out.totF HX.out hj
     rw[hm1]at Jf
     have F7:=Lib.hid hm2
     clear hj hk2 hm1 hm2
     go_wp2_with fail
     (with_reducible refine zX.out.mono ?_)
     rintro e w1 ⟨rfl,hb1⟩
     have HB1:=Lib.hid (HB.out.trans (hb1.mono HB.out.size))
     have hcb:b<w1.heap.size:=Nat.lt_of_lt_of_le hbw hb1.size
     have hc1:w1.cell? ⟨b,off+k,none⟩=some (.string (strOf nm)):=by rw[hb1.cell (p:=⟨b,off+k,none⟩) hbw];exact hc
     have hr1:r<w1.heap.size:=Nat.lt_of_lt_of_le hr0 HB1.out.size
     obtain⟨aE,cE,q2,-,hrow,-⟩:=(HH.out w1 HB1.out).ent
     obtain⟨b2,off2,rfl,-,hb2,hml,hc2⟩:=hrow.wide gY rfl F7.out (by omega)
     have q3:w1.cell? ⟨b2,off2+m*3+2,none⟩=some (.int .i64 j):=hc2 2 (by omega)
     have m0:(0:Int)≤m:=by omega
     have m1:(m:Int)<(aU T).length:=by omega
     have m2:¬(m:Int)<0:=by omega
     clear hb1 hrow hc2
     go_wp2_with fail
     (with_reducible refine(Jf.out _ (HB1.out.trans ((wall w1 _).mono HB1.out.size))).mono ?_)
     rintro e w2 ⟨rfl,rfl⟩
     go_wp2_with fail
     go_roundw
     case rel=>exact⟨k+1,j,by omega,by go_num,rfl,HJ.out,by rw[←hfin.out];exact kK.out,HB1.out.trans ((wall w1 _).mono HB1.out.size)⟩
     case measure=>simp[intOf];omega
   ·have e1:(x.kind==2)=false:=by simpa using hk2
    have e2:(x.kind !=2)=true:=by simpa using hk2
    have hfin:=Lib.hid (uK HX.out hk2 HN.out)
    clear hk2
    go_wp2_with fail
    (with_reducible refine zX.out.mono ?_)
    rintro e w1 ⟨rfl,hb1⟩
    have HB1:=Lib.hid (HB.out.trans (hb1.mono HB.out.size))
    clear hb1
    go_wp2_with fail
    go_ret2
    exact⟨mD (by rw[←kK.out,hfin.out]),HB1.out.trans ((wall w1 _).mono HB1.out.size)⟩
  ·go_wp2
   go_ret2
   exact⟨mD (by rw[←kK.out,List.drop_of_length_le (by have:=HL.out;omega)];rfl),HB.out⟩
end
end Go.Proofs.YtohpcppeajijnaaGreat
