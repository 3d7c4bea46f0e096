/- The reference in memory: what is turned, part by part. The reference: cut. -/
import Derived.Test.YtohpcppeajijnaaGreatM23
import Derived.Test.YtohpcppeajijnaaGreatM04
import Derived.BigRegion
import Derived.Deep.RegionHeld3
namespace Go.Proofs.YtohpcppeajijnaaGreat
open Go.ChangeShapes Go.WideShapes Go.ChangeAt Go.RowKit
set_option linter.unusedVariables false
set_option linter.unusedSimpArgs false
theorem jR {α β:Type} (f:α→List β) (k:Nat) (hk:∀x,(f x).length=k):∀(L:List α) (i:Nat),(L.flatMap f).take (i*k)=(L.take i).flatMap f
 |[],i=>by simp
 |y::r,0=>by simp
 |y::r,i+1=>by
  rw[List.flatMap_cons,List.take_succ_cons,List.flatMap_cons,Nat.add_mul,Nat.one_mul,Nat.add_comm,←hk y,List.take_length_add_append,hk y,jR f k hk r i]
theorem jS {α β:Type} (f:α→List β) (k:Nat) (hk:∀x,(f x).length=k):∀(L:List α) (i:Nat),(L.flatMap f).drop (i*k)=(L.drop i).flatMap f
 |[],i=>by simp
 |y::r,0=>by simp
 |y::r,i+1=>by
  rw[List.flatMap_cons,List.drop_succ_cons,Nat.add_mul,Nat.one_mul,Nat.add_comm,←hk y,List.drop_length_add_append,hk y,jS f k hk r i]
theorem su {α β:Type} (f:α→List β) (k:Nat) (hk:∀x,(f x).length=k) {j:Nat} {x x':α} {v:β} (hj:j<k) (hv:f x'=(f x).set j v):∀(L:List α) (i:Nat),L[i]? =some x→(L.flatMap f).set (i*k+j) v=(L.set i x').flatMap f
 |[],i,h=>by simp at h
 |y::r,0,h=>by
  simp only[List.getElem?_cons_zero,Option.some.injEq]at h
  subst h
  rw[List.flatMap_cons,Nat.zero_mul,Nat.zero_add,List.set_append_left _ _ (by rw[hk];exact hj),List.set_cons_zero,List.flatMap_cons,hv]
 |y::r,i+1,h=>by
  rw[List.flatMap_cons,List.set_append_right _ _ (by rw[hk,Nat.add_mul];omega),hk,show(i+1)*k+j-k=i*k+j by rw[Nat.add_mul];omega,su f k hk hj hv r i (by simpa using h)]
  rfl
theorem jY (E:List iF):∀u∈E.flatMap dV,u.oneCell'=true:=by
 intro u hu
 obtain⟨e,_,he⟩:=List.mem_flatMap.1 hu
 simp only[dV,List.mem_cons,List.not_mem_nil,or_false]at he
 rcases he with rfl|rfl|rfl<;>rfl
theorem dI (T:aH):∀u∈T.flatMap bV,u.oneCell'=true:=by
 intro u hu
 obtain⟨e,_,he⟩:=List.mem_flatMap.1 hu
 simp only[bV,List.mem_cons,List.not_mem_nil,or_false]at he
 rcases he with rfl|rfl|rfl|rfl|rfl|rfl<;>rfl
theorem yh:(Tryz.prog.info? 131).map (fun i=>(i.zero,i.size,i.bytes))=some (some (.agg #[.int .i64 0, .string ⟨#[]⟩, .int .i64 0]),3,32):=by kernel_rfl
theorem nodeInfo:(Tryz.prog.info? 98).map (fun i=>(i.zero,i.size,i.bytes))=some (some (.agg #[.int .i64 0, .int .i64 0, .int .i64 0, .int .i64 0, .int .u64 0, .bool false]),6,48):=by kernel_rfl
theorem qN:(Tryz.prog.info? 39).map (fun i=>(i.zero,i.size,i.bytes))=some (some (.slice none 0 0),1,24):=by kernel_rfl
theorem ak.gX {S:Nat→Prop} {w:World} {b off len:Nat} {vs:List Value} (h:ak S w (some ⟨b,off,none⟩) len vs) {j:Nat} (hj:j<len) (v:Value):ak S (w.setCell ⟨b,off+j,none⟩ v) (some ⟨b,off,none⟩) len (vs.set j v):=by
 obtain⟨b',off',e,hS,hb,hc⟩:=h.at_ (by omega)
 simp only[Option.some.injEq,Addr.mk.injEq,and_true]at e
 obtain⟨rfl,rfl⟩:=e
 have hl:=h.length
 refine⟨by simpa using hl,h.small,fun _=>⟨b,off,rfl,hS,by rw[size_set];exact hb,fun i hi=> ?_⟩⟩
 by_cases hij:i=j
 ·subst hij
  have h1:=hc i hi
  rw[List.getElem?_eq_getElem (by omega)]at h1
  rw[World.cell?_setCell_same _ _ _ h1,List.getElem?_set_self (by omega)]
 ·rw[World.cell?_setCell_other _ _ _ _ (fun e=>by
   simp only[Addr.mk.injEq,and_true,true_and]at e
   omega),hc i hi,List.getElem?_set_ne (Ne.symm hij)]
theorem ak.apart {S:Nat→Prop} {w:World} {a:Option Addr} {len:Nat} {vs:List Value} (h:ak S w a len vs) (q:Addr) (v:Value) (hq:∀b,S b→b≠q.block):ak S (w.setCell q v) a len vs:=
 h.kept (by rw[size_set];exact Nat.le_refl _) fun b hb _=>bg _ _ _ _ (hq b hb)
theorem ak.frozen {w:World} {q:Addr} {cs:Array Value} {t:TypeId} (h:w.heap[q.block]? =some (.cells cs t (0,0))) (hq:q.spot=none):w.frozen? q=false:=by
 obtain⟨b,o,s⟩:=q
 simp only at hq h
 subst hq
 simp[World.frozen?,h]
def New (w w':World):Nat→Prop:=fun x=>w.heap.size≤x∧x<w'.heap.size
def Grow (F:Nat→Prop) (w w':World):Nat→Prop:=fun x=>F x∨(w.heap.size≤x∧x<w'.heap.size)
def dh (F:Nat→Prop) (w:World) (r:Nat) (T:aH) (D:List (List UInt8)) (E:List iF) (v:Value) (e:Ending) (w':World):Prop:=
 e= .returned v∧Keeps (fun x=>x=r) w w'∧fT (Grow F w w') w' r T D E
abbrev bA (F:Nat→Prop) (w:World) (r:Nat) (T:aH) (v:Value) (e:Ending) (w':World):Prop:=dh F w r T (T.map fun q=>q.2.b) (aU T) v e w'
section
variable {F:Nat→Prop} {r:Nat} {T T':aH} {D D':List (List UInt8)} {E E':List iF} {w w' w2:World}
theorem fT.mono {F':Nat→Prop} (h:fT F w r T D E) (hs:∀b,F b→F' b) (hl:∀b,F' b→b<w.heap.size):fT F' w r T D E:=by
 obtain⟨aN,cN,aD,cD,aE,cE,h1,h2,h3,h4,h8,h9,h10,h11⟩:=h.head
 have hk:∀b,Off F r b→b<w.heap.size→Off F' r b∧w.heap[b]? =w.heap[b]? :=fun b hb _=>⟨⟨hs b hb.1,hb.2⟩,rfl⟩
 exact⟨⟨aN,cN,aD,cD,aE,cE,h1,h2,h3,h4,h8.move (Nat.le_refl _) hk,h9.move (Nat.le_refl _) hk,h10.move (Nat.le_refl _) hk,h11⟩,hs _ h.own,hl⟩
theorem fT.grow (h:fT F w r T D E) (hb:Below w.heap.size w w'):fT (Grow F w w') w' r T D E:=
 (h.below hb (Nat.le_refl _)).mono (fun b hb=> .inl hb) fun b hx=>by
  rcases hx with hx|hx
  ·have:=h.low b hx;have:=hb.size;omega
  ·exact hx.2
theorem dh.same {v:Value} (h:fT F w r T D E) (hb:Below w.heap.size w w'):dh F w r T D E v (.returned v) w':=
 ⟨rfl,Keeps.mono (Keeps.below hb) (fun x hx hf=>by omega),h.grow hb⟩
theorem dh.trans {T2:aH} {D2:List (List UInt8)} {E2:List iF} {v v2:Value} {e e2:Ending} (hw:∀b,F b→b<w.heap.size) (h:dh F w r T' D' E' v e w') (k:dh (Grow F w w') w' r T2 D2 E2 v2 e2 w2):dh F w r T2 D2 E2 v2 e2 w2:=by
 refine⟨k.1,h.2.1.trans k.2.1 (fun x _ hx=>hx),k.2.2.mono (fun b hb=> ?_) fun b hx=> ?_⟩
 ·rcases hb with(hb|hb)|hb
  ·exact .inl hb
  ·exact .inr ⟨hb.1,Nat.lt_of_lt_of_le hb.2 k.2.1.size⟩
  ·exact .inr ⟨Nat.le_trans h.2.1.size hb.1,hb.2⟩
 ·rcases hx with hx|hx
  ·have:=hw b hx
   have:=h.2.1.size
   have:=k.2.1.size
   omega
  ·exact hx.2
theorem dh.behind {v:Value} {e:Ending} (hw:∀b,F b→b<w.heap.size) (hb:Below w.heap.size w w') (k:dh F w' r T D E v e w2):dh F w r T D E v e w2:=by
 refine⟨k.1,(Keeps.mono (Keeps.below hb) (fun x hx hf=>by omega)).trans k.2.1 (fun x _ hx=>hx),k.2.2.mono (fun b hx=> ?_) fun b hx=> ?_⟩
 ·rcases hx with hx|hx
  ·exact .inl hx
  ·exact .inr ⟨Nat.le_trans hb.size hx.1,hx.2⟩
 ·rcases hx with hx|hx
  ·have:=hw b hx
   have:=hb.size
   have:=k.2.1.size
   omega
  ·exact hx.2
theorem dh.then_ {v:Value} {e:Ending} (k:dh F w r T D E v e w') (hw:∀b,F b→b<w.heap.size) (hb:Below w'.heap.size w' w2):dh F w r T D E v e w2:=by
 have h1:=k.2.2.below hb (Nat.le_refl _)
 refine⟨k.1,k.2.1.trans (fp':=fun x=>w'.heap.size≤x) (Keeps.below hb) (fun x hx hf=>by have:=k.2.1.size;omega),h1.mono (fun b hx=> ?_) fun b hx=> ?_⟩
 ·rcases hx with hx|hx
  ·exact .inl hx
  ·exact .inr ⟨hx.1,Nat.lt_of_lt_of_le hx.2 hb.size⟩
 ·rcases hx with hx|hx
  ·have:=hw b hx
   have:=hb.size
   have:=k.2.1.size
   omega
  ·exact hx.2
theorem lN {a:Option Addr} {n:Nat} {vs:List Value} (hK:Keeps (fun x=>x=r) w w') (h:ak (Off F r) w a n vs):ak (Off (Grow F w w') r) w' a n vs:=
 h.move hK.size fun b hb hbw=>⟨⟨.inl hb.1,hb.2⟩,hK.block b hbw hb.2⟩
theorem t_ {a:Option Addr} {n:Nat} {vs:List Value} (hr:r<w.heap.size) (h:ak (New w w') w' a n vs):ak (Off (Grow F w w') r) w' a n vs:=
 h.mono fun b hb=>⟨.inr hb,fun e=>by have:=hb.1;omega⟩
theorem Gx (hw:∀b,F b→b<w.heap.size) (hs:w.heap.size≤w'.heap.size):∀b,Grow F w w' b→b<w'.heap.size:=fun b hx=>by
 rcases hx with hx|hx
 ·have:=hw b hx;omega
 ·exact hx.2
theorem fT.turn (h:fT F w r T D E) (hK:Keeps (fun x=>x=r) w w') {aN aD aE:Option Addr} {cN cD cE:Nat} (hh:w'.heap[r]? =some (.cells #[.slice aN T'.length cN, .slice aD D'.length cD, .slice aE E'.length cE] 102 (0,0)))
  (h1:T'.length≤cN) (h2:D'.length≤cD) (h3:E'.length≤cE) (hN:ak (Off (Grow F w w') r) w' aN (T'.length*6) (T'.flatMap bV)) (hD:BytesAt (Off (Grow F w w') r) w' aD D') (hE:ak (Off (Grow F w w') r) w' aE (E'.length*3) (E'.flatMap dV)) (hB:Base aE cE):fT (Grow F w w') w' r T' D' E':=
 ⟨⟨aN,cN,aD,cD,aE,cE,hh,h1,h2,h3,hN,hD,hE,hB⟩, .inl h.own,Gx h.low hK.size⟩
theorem fT.names (h:fT F w r T D E) (hl:T'.length=T.length) (hn:T'.flatMap bV=T.flatMap bV):fT F w r T' D E:=by
 obtain⟨aN,cN,aD,cD,aE,cE,h1,h2,h3,h4,h8,h9,h10,h11⟩:=h.head
 exact⟨⟨aN,cN,aD,cD,aE,cE,by rw[hl];exact h1,by rw[hl];exact h2,h3,h4,by rw[hl,hn];exact h8,h9,h10,h11⟩,h.own,h.low⟩
end
def Plain (w:World) (a:Option Addr):Prop:=∀g off,a=some ⟨g,off,none⟩→∃cs t,w.heap[g]? =some (.cells cs t (0,0))
theorem Plain.kept {w w':World} {a:Option Addr} (h:Plain w a) (hk:∀g off,a=some ⟨g,off,none⟩→w'.heap[g]? =w.heap[g]?):Plain w' a:=fun g off e=>by
 obtain⟨cs,t,h1⟩:=h g off e
 exact⟨cs,t,(hk g off e).trans h1⟩
theorem Plain.gX {w:World} {a:Option Addr} (h:Plain w a) (q:Addr) (v:Value) (hq:q.spot=none):Plain (w.setCell q v) a:=fun g off e=>by
 obtain⟨cs,t,h1⟩:=h g off e
 obtain⟨b,o,sp⟩:=q
 simp only at hq
 subst hq
 by_cases hb:g=b
 ·subst hb
  exact⟨_,_,bJ h1⟩
 ·exact⟨cs,t,(bg _ _ _ _ hb).trans h1⟩
theorem Plain.frozen {w:World} {g off:Nat} (h:Plain w (some ⟨g,off,none⟩)) (j:Nat):w.frozen? ⟨g,j,none⟩=false:=by
 obtain⟨cs,t,h1⟩:=h g off rfl
 simp[World.frozen?,h1]
theorem jq {w:World} {base:Nat} {e:TypeId} {k:Nat} {a:Option Addr} {m n c:Nat} {xs:List Value} (h:w.ownsRow base e k (.slice a m c) n xs):Plain w a:=fun g off he=>by
 subst he
 obtain⟨_,h2⟩:=h
 rcases h2 with⟨h2,_⟩|⟨g',cap,cur,h2,hg,hcur,_⟩
 ·cases h2
 ·simp only[Value.slice.injEq,Option.some.injEq,Addr.mk.injEq,and_true]at h2
  obtain⟨⟨rfl,_⟩,_⟩:=h2
  exact⟨_,_,hcur⟩
def bL (w:World) (r:Nat) (x1 x2:Value) (T:aH) (wx:World):Prop:=
 Keeps (fun x=>x=r) w wx∧r<w.heap.size∧∃a c,wx.heap[r]? =some (.cells #[.slice a T.length c,x1,x2] 102 (0,0))∧T.length≤c∧ak (New w wx) wx a (T.length*6) (T.flatMap bV)∧Plain wx a
theorem kP {w w1 w2:World} {e:TypeId} {k:Nat} {a:Option Addr} {m n c:Nat} {xs:List Value} (h:w2.ownsRow w1.heap.size e k (.slice a m c) n xs) (hs:n*k≤maxLen) (hw:w.heap.size≤w1.heap.size):m=n∧n≤c∧Base a c∧ak (New w w2) w2 a (n*k) xs:=by
 obtain⟨h1,h2,h3,h4⟩:=ak.qM h hs
 exact⟨h1,h2,h3,h4.mono fun b hb=>⟨by omega,hb.2⟩⟩
theorem vF {w w1:World} {r j:Nat} {v:Value} {a:Option Addr} {n:Nat} {vs:List Value} (hr:r<w.heap.size) (h:ak (New w w1) w1 a n vs):ak (New w (w1.setCell ⟨r,j,none⟩ v)) (w1.setCell ⟨r,j,none⟩ v) a n vs:=
 (h.apart ⟨r,j,none⟩ v fun b hb=>by
  show b≠r
  have:=hb.1
  omega).mono fun b hb=>⟨hb.1,by rw[size_set];exact hb.2⟩
theorem bL.Mt {w w1:World} {r:Nat} {x0 x1 x2:Value} {T:aH} {a:Option Addr} {c:Nat} (hr:r<w.heap.size) (h1:w.heap[r]? =some (.cells #[x0,x1,x2] 102 (0,0))) (hb:Below w.heap.size w w1) (hc:T.length≤c) (hrow:ak (New w w1) w1 a (T.length*6) (T.flatMap bV)) (hp:Plain w1 a):bL w r x1 x2 T (w1.setCell ⟨r,0,none⟩ (.slice a T.length c)):=by
 refine⟨(Keeps.mono (Keeps.below hb) (fun x hx hf=>by omega)).trans (Keeps.gX _ _ _) fun x _ hx=>hx,hr,a,c,?_,hc,vF hr hrow,hp.gX _ _ rfl⟩
 rw[bJ ((hb.block r hr).trans h1)]
 rfl
theorem bL.gX {w wx:World} {r:Nat} {x1 x2:Value} {T:aH} (h:bL w r x1 x2 T wx) {g off c:Nat} (hc:wx.cell? ⟨r,0,none⟩=some (.slice (some ⟨g,off,none⟩) T.length c)) {k j:Nat} {q q':Int×bF} {v:Value} (hq:T[k]? =some q) (hj:j<6) (hv:bV q'=(bV q).set j v):bL w r x1 x2 (T.set k q') (wx.setCell ⟨g,off+(k*6+j),none⟩ v):=by
 obtain⟨hK,hr,a,c',h1,h2,h3,hp⟩:=h
 have hc':wx.cell? ⟨r,0,none⟩=some (.slice a T.length c'):=by simp[World.cell?,h1]
 rw[hc']at hc
 simp only[Option.some.injEq,Value.slice.injEq,true_and]at hc
 obtain⟨rfl,rfl⟩:=hc
 have hk:k<T.length:=(List.getElem?_eq_some_iff.1 hq).1
 obtain⟨b,o,e,hF,hb,-,-⟩:=h3.wide dM rfl hq (by omega)
 simp only[Option.some.injEq,Addr.mk.injEq,and_true]at e
 obtain⟨rfl,rfl⟩:=e
 have hgr:g≠r:=fun e=>by have:=hF.1;omega
 refine⟨hK.trans (fp':=fun x=>x=g) (Keeps.gX wx ⟨g,off+(k*6+j),none⟩ v) (fun x hx hf=>by have:=hF.1;omega),hr,some ⟨g,off,none⟩,c',?_,by rw[List.length_set];exact h2,?_,?_⟩
 ·rw[bg _ _ _ _ (Ne.symm hgr),List.length_set];exact h1
 ·have h4:=h3.gX (j:=k*6+j) (by omega) v
  rw[su bV 6 dM hj hv T k hq]at h4
  rw[List.length_set]
  exact h4.mono fun b hb=>⟨hb.1,by rw[size_set];exact hb.2⟩
 ·exact hp.gX _ _ rfl
theorem fT.nu {F:Nat→Prop} {w wx:World} {r:Nat} {T T':aH} {D:List (List UInt8)} {E:List iF} {x0 x1 x2:Value} (h:fT F w r T D E) (h1:w.heap[r]? =some (.cells #[x0,x1,x2] 102 (0,0))) (hm:bL w r x1 x2 T' wx) (v:Value):dh F w r T' D E v (.returned v) wx:=by
 obtain⟨hK,hr,a,c,h2,h3,h4,-⟩:=hm
 obtain⟨aN,cN,aD,cD,aE,cE,g1,-,g3,g4,-,g9,g10,g11⟩:=h.head
 rw[h1]at g1
 simp only[Option.some.injEq,Obj.cells.injEq,Array.mk.injEq,List.cons.injEq,and_true,true_and]at g1
 obtain⟨-,rfl,rfl⟩:=g1
 refine⟨rfl,hK,h.turn hK h2 h3 g3 g4 (t_ hr h4) ?_ (lN hK g10) g11⟩
 exact g9.move hK.size fun b hb2 hbw=>⟨⟨.inl hb2.1,hb2.2⟩,hK.block b hbw hb2.2⟩
def Each (F:Nat→Prop) (w:World) (vs:List Value) (bs:List (List UInt8)):Prop:=∀(i:Nat) (b:List UInt8),bs[i]? =some b→∃(a:Option Addr) (c:Nat),vs[i]? =some (.slice a b.length c)∧qz b.length c∧ak F w a b.length (b.map bv)
theorem Each.cut {F:Nat→Prop} {w:World} {vs:List Value} {bs:List (List UInt8)} (h:Each F w vs bs) (hl:vs.length=bs.length) (k:Nat) (hk:k<bs.length):Each F w (vs.take k++vs.drop (k+1)) (bs.take k++bs.drop (k+1)):=by
 intro i b hb
 by_cases hi:i<k
 ·rw[List.getElem?_append_left (by rw[List.length_take];omega),List.getElem?_take,if_pos hi]at hb⊢
  exact h i b hb
 ·rw[List.getElem?_append_right (by rw[List.length_take];omega),List.length_take,List.getElem?_drop]at hb⊢
  rw[hl]
  exact h _ b hb
theorem Each.one {F:Nat→Prop} {w:World} {vs:List Value} {bs:List (List UInt8)} (h:Each F w vs bs) (hl:vs.length=bs.length):∀u∈vs,u.oneCell'=true:=by
 intro u hu
 obtain⟨i,hi,rfl⟩:=List.mem_iff_getElem.1 hu
 obtain⟨a,c,h1,-⟩:=h i bs[i] (List.getElem?_eq_getElem (by omega))
 rw[List.getElem?_eq_getElem hi]at h1
 simp only[Option.some.injEq]at h1
 rw[h1]
 rfl
theorem Each.move {F F':Nat→Prop} {w w':World} {vs:List Value} {bs:List (List UInt8)} (h:Each F w vs bs) (hs:w.heap.size≤w'.heap.size) (hk:∀b,F b→b<w.heap.size→F' b∧w'.heap[b]? =w.heap[b]?):Each F' w' vs bs:=by
 intro i b hb
 obtain⟨a,c,h3,h4,h5⟩:=h i b hb
 exact⟨a,c,h3,h4,h5.move hs hk⟩
theorem fT.xC {F:Nat→Prop} {w w1 w2:World} {r:Nat} {T T':aH} {D D':List (List UInt8)} {E:List iF} {x0 x1 x2:Value} (h:fT F w r T D E) (h1:w.heap[r]? =some (.cells #[x0,x1,x2] 102 (0,0))) (hm:bL w r x1 x2 T' w1) (hb:Below w1.heap.size w1 w2) {a:Option Addr} {c:Nat} {vs:List Value} (hc:D'.length≤c) (hrow:ak (New w w2) w2 a D'.length vs) (he:Each (Off (Grow F w w2) r) w2 vs D') (v:Value):dh F w r T' D' E v (.returned v) (w2.setCell ⟨r,1,none⟩ (.slice a D'.length c)):=by
 obtain⟨hK,hr,aM,cM,h2,h3,h4,-⟩:=hm
 obtain⟨aN,cN,aD,cD,aE,cE,g1,-,g3,g4,-,g9,g10,g11⟩:=h.head
 rw[h1]at g1
 simp only[Option.some.injEq,Obj.cells.injEq,Array.mk.injEq,List.cons.injEq,and_true,true_and]at g1
 obtain⟨-,rfl,rfl⟩:=g1
 have hs1:=hK.size
 have hs2:=hb.size
 have hK2:Keeps (fun x=>x=r) w w2:=hK.trans (Keeps.below hb) (fun x hx hf=>by omega)
 have hK3:Keeps (fun x=>x=r) w (w2.setCell ⟨r,1,none⟩ (.slice a D'.length c)):=hK2.trans (Keeps.gX _ _ _) fun x _ hx=>hx
 have Rh:ak (New w w2) w2 aM (T'.length*6) (T'.flatMap bV):=(h4.below hb (Nat.le_refl _)).mono fun b hb=>⟨hb.1,Nat.lt_of_lt_of_le hb.2 hs2⟩
 refine⟨rfl,hK3,h.turn hK3 ?_ h3 hc g4 (t_ hr (vF hr Rh)) ⟨vs,t_ hr (vF hr hrow),?_⟩ (lN hK3 g10) g11⟩
 ·rw[bJ ((hb.block r (by omega)).trans h2)]
  rfl
 ·exact he.move (by rw[size_set];exact Nat.le_refl _) fun b hb2 _=>⟨⟨hb2.1.imp id fun h=>⟨h.1,by rw[size_set];exact h.2⟩,hb2.2⟩,bg _ _ _ _ hb2.2⟩
theorem bU {P:Program} {S:Nat→Prop} {ops:Array Oper} {o:Oper} {a:Act} {w:World} {K:Act→World→Prop} {Q:Exit→Act→World→Prop} {E:Prop} (hgd:o.guard=none) (s x:Operand) (t:TypeId)
  (ho:o.op= .call {callee:= .builtin .append,args:= #[s,x],argTypes:= #[t,t]})
  (base:Nat) (e:TypeId) (i:TypeInfo) (z:Value) (k bytes:Nat) (ht:P.underlying t=some (.slice e)) (hi:P.info? e=some i) (hz:i.zero=some z)
  (hsize:i.size=k) (hby:i.bytes=bytes) (hzs:z.cells.size=k) (hk:0<k) (v:Value) (n:Nat) (xs:List Value) (hs:a.eval s=v) (hown:w.ownsRow base e k v n xs)
  (A:Option Addr) (m c:Nat) (news:List Value) (hx:a.eval x= .slice A m c) (hr:ak S w A (m*k) news) (h1:∀u∈news,u.oneCell'=true) (h63:n+m≤maxLen) (hbytes:(n+m)*bytes≤140737488355328) (hbase:base≤w.heap.size)
  (h:∀A' c' w',w'.ownsRow base e k (.slice A' (n+m) c') (n+m) (xs++news)→Below base w w'→w.grownBy w' v.ownBlock→K (a.put o.dst (.slice A' (n+m) c')) w'):
  if Region.wanted o (yielded ops a.tmps)=true then Oper.wp P o a w K Q else E:=by
 have hw:Region.wanted o (yielded ops a.tmps)=true:=by simp[Region.wanted,hgd]
 rw[if_pos hw]
 obtain⟨A',c',w',hr,h2,h3,h4⟩:=kE (P:=P) base t o.type e i z k bytes ht hi hz hsize hby hzs hk v n xs hown A m c news hr h1 h63 hbytes hbase
 unfold Oper.wp execOp
 simp only[ho,resolve,invoke,builtin,Sem.run_bind,Sem.run_pure,Result.andThen_ok,List.map_toArray,List.map_cons,List.map_nil,hs,hx,hr]
 exact h A' c' w' h2 ⟨h3.os,h3.tape,h3.output,h3.size,fun b hb=>h3.block b (by omega) (fun e=>by have:=fO hown b e.symm;omega)⟩ h3
theorem ak.grown {S:Nat→Prop} {w w':World} {ob:Option Nat} {a:Option Addr} {n:Nat} {vs:List Value} (h:ak S w a n vs) (hg:w.grownBy w' ob) (hn:∀b,S b→b<w.heap.size→ob≠some b):ak S w' a n vs:=
 h.kept hg.size fun b hb hbw=>hg.block b hbw (fun e=>hn b hb hbw e.symm)
theorem eY {P:Program} {S:Nat→Prop} {w:World} {ops:Array Oper} {rest:List Oper} {o:Oper} {a:Act} {Q:Exit→Act→World→Prop} (hgd:o.guard=none) (s x:Operand) (t:TypeId)
  (ho:o.op= .call {callee:= .builtin .append,args:= #[s,x],argTypes:= #[t,t]})
  (base:Nat) (e:TypeId) (i:TypeInfo) (z:Value) (k bytes:Nat) (ht:P.underlying t=some (.slice e)) (hi:P.info? e=some i) (hz:i.zero=some z)
  (hsize:i.size=k) (hby:i.bytes=bytes) (hzs:z.cells.size=k) (hk:0<k) (v:Value) (n:Nat) (xs:List Value) (hs:a.eval s=v) (hown:w.ownsRow base e k v n xs)
  (A:Option Addr) (m c:Nat) (news:List Value) (hx:a.eval x= .slice A m c) (hr:ak S w A (m*k) news) (h1:∀u∈news,u.oneCell'=true) (h63:n+m≤maxLen) (hbytes:(n+m)*bytes≤140737488355328) (hbase:base≤w.heap.size)
  (h:∀A' c' w',w'.ownsRow base e k (.slice A' (n+m) c') (n+m) (xs++news)→Below base w w'→wpList P ops Q rest (a.put o.dst (.slice A' (n+m) c')) w'):
  wpList P ops Q (o::rest) a w:=by
 refine wpList_plain hgd fun K hK=> ?_
 obtain⟨A',c',w',hr,h2,h3,h4⟩:=kE (P:=P) base t o.type e i z k bytes ht hi hz hsize hby hzs hk v n xs hown A m c news hr h1 h63 hbytes hbase
 unfold Oper.wp execOp
 simp only[ho,resolve,invoke,builtin,Sem.run_bind,Sem.run_pure,Result.andThen_ok,List.map_toArray,List.map_cons,List.map_nil,hs,hx,hr]
 exact hK _ _ (h A' c' w' h2 ⟨h3.os,h3.tape,h3.output,h3.size,fun b hb=>h3.block b (by omega) (fun e=>by have:=fO hown b e.symm;omega)⟩)
def vG (w:World) (r:Nat) (E:List iF) (e:Ending) (w':World):Prop:=
 e= .returned (.tuple #[])∧∃a c w1,Below w.heap.size w w1∧w'=w1.setCell ⟨r,2,none⟩ (.slice a E.length c)∧E.length≤c∧Base a c∧ak (fun x=>w.heap.size≤x∧x<w1.heap.size) w1 a (E.length*3) (E.flatMap dV)
theorem vH {F:Nat→Prop} {w w':World} {r:Nat} {T:aH} {D:List (List UInt8)} {E E':List iF} {e:Ending} (h:fT F w r T D E) (hs:vG w r E' e w'):dh F w r T D E' (.tuple #[]) e w':=by
 obtain⟨rfl,a,c,w1,hb,rfl,hc,hz,hrow⟩:=hs
 obtain⟨aN,cN,aD,cD,aE,cE,h1,h2,h3,h4,h8,h9,h10,h11⟩:=h.head
 have hr:=h.low r h.own
 have hK:Keeps (fun x=>x=r) w (w1.setCell ⟨r,2,none⟩ (.slice a E'.length c)):=(Keeps.mono (Keeps.below hb) (fun x hx hf=>by omega)).trans (Keeps.gX _ _ _) fun x _ hx=>hx
 refine⟨rfl,hK,h.turn (aD:=aD) hK ?_ h2 h3 hc (lN hK h8) ?_ (t_ hr ?_) hz⟩
 ·rw[bJ ((hb.block r hr).trans h1)]
  rfl
 ·exact h9.move hK.size fun b hb2 hbw=>⟨⟨.inl hb2.1,hb2.2⟩,hK.block b hbw hb2.2⟩
 ·refine(hrow.apart ⟨r,2,none⟩ _ fun b hb2=> ?_).mono fun b hb2=>⟨hb2.1,by rw[size_set];exact hb2.2⟩
  show b≠r
  have:=hb2.1
  omega
section
variable {F:Nat→Prop} {r:Nat} {T:aH} {D:List (List UInt8)} {E:List iF}
set_option maxHeartbeats 2000000 in
theorem Gy (k:Nat) (w:World) (E:List iF) (b off n cE:Nat) (hc2:w.cell? ⟨r,2,none⟩=some (.slice (some ⟨b,off,none⟩) n cE)) (hrw:r<w.heap.size) (hfr:w.frozen? ⟨r,2,none⟩=false) (hn:E.length=n) (hcap:n≤cE) (OP:n≤1000000) (hrow:ak F w (some ⟨b,off,none⟩) (n*3) (E.flatMap dV)) (hk:k<n):
  Calls Tryz.prog 69 #[ptr r, .int .i64 k] w (vG w r (E.take k++E.drop (k+1))):=by
 obtain⟨i,hi,hz,h3,h32⟩:=info_parts yh
 have HI:=Lib.hid (And.intro hi (And.intro hz (And.intro h3 h32)))
 have pI:Hid (∀w1,Below w.heap.size w w1→ak F w1 (some ⟨b,off,none⟩) (k*3) ((E.take k).flatMap dV)∧ak F w1 (if cE=k+1 then some ⟨b,off,none⟩else some ⟨b,off+(k+1)*3,none⟩) ((n-(k+1))*3) ((E.drop (k+1)).flatMap dV)):=fun w1 hb=>by
  have h1:=hrow.below hb (Nat.le_refl _)
  have h2:=h1.take (k*3)
  rw[jR dV 3 gY,Nat.min_eq_right (by omega)]at h2
  have h4:=h1.drop ((k+1)*3)
  rw[jS dV 3 gY,←Nat.sub_mul]at h4
  refine⟨h2,?_⟩
  by_cases hce:cE=k+1
  ·rw[if_pos hce]
   exact ak.zero _ _ _ (by rw[show n-(k+1)=0 by omega,Nat.zero_mul]) (by rw[List.drop_of_length_le (by omega)];rfl)
  ·rw[if_neg hce];exact h4
 have i0:(0:Int)≤k:=by omega
 have i1:(k:Int)≤cE:=by omega
 have i2:(k:Int)+1≤n:=by omega
 have i3:(0:Int)≤(k:Int)+1:=by omega
 have i4:(n:Int)≤cE:=by omega
 have e1:IntKind.i64.wrap ((k:Int)+1)=(k:Int)+1:=IntWalk.i64_in _ (by omega)
 have hlt:(E.take k++E.drop (k+1)).length=k+(n-(k+1)):=by simp;omega
 have Cx:=Lib.hid hlt
 have jH:Hid (∀w1,Below w.heap.size w w1→w1.cell? ⟨r,2,none⟩=some (.slice (some ⟨b,off,none⟩) n cE)∧w1.frozen? ⟨r,2,none⟩=false):=fun w1 hb=>⟨by rw[hb.cell (p:=⟨r,2,none⟩) hrw];exact hc2,by rw[hb.frozen (p:=⟨r,2,none⟩) hrw];exact hfr⟩
 clear hi hz h3 h32 hrow hlt
 go_enter Tryz.func69,Tryz.ntmps69
 go_wp2
 refine wp_region_noPanic ?_
 refine bW (last:=19) (S:=(fun w'=>w'.cell? ⟨r,2,none⟩=some (.slice (some ⟨b,off,none⟩) n cE)∧w'.frozen? ⟨r,2,none⟩=false)) (by kernel_rfl) ?_ (fun hS=> ?_)
 ·exact jH.out _ (Below.refl _ _).drew
 refine aT 0 (hS:=hS) (h:= ?_)
 refine aT 2 (hS:=hS) (h:= ?_)
 refine aT 3 (hS:=hS) (h:= ?_)
 refine aT 4 (hS:=hS) (h:= ?_)
 refine aT 5 (hS:=hS) (h:= ?_)
 refine aT 6 (hS:=hS) (h:= ?_)
 refine aT 7 (hS:=hS) (h:= ?_)
 refine aT 9 (hS:=hS) (h:= ?_)
 refine aT 10 (hS:=hS) (h:= ?_)
 refine aT 11 (hS:=hS) (h:= ?_)
 refine aT 12 (hS:=hS) (h:= ?_)
 refine aT 13 (hS:=hS) (h:= ?_)
 refine aT 14 (hS:=hS) (h:= ?_)
 refine aT 15 (hS:=hS) (h:= ?_)
 refine jF 1 (h:=fun K hK=> ?_)
 go_simp
 refine hK.out _ _ (fun _=>jH.out _ ((Below.refl _ _).drew.alloc (Nat.le_refl _) _)) (fun hS=> ?_)
 replace hS:=hS (by decide)
 clear hK K
 try simp only[Act.put,List.setIfInBounds_toArray,List.set_cons_zero,List.set_cons_succ]
 refine au (rs:=[8]) (by kernel_rfl) (by simp) ?_
 refine ah.cons (o:= ?o1) ?ho1 (fun K hK=> ?_) ah.nil
 case ho1=>simp only[List.getElem?_toArray,List.getElem?_cons_succ,List.getElem?_cons_zero];rfl
 refine av (by rfl) (.tmp 5) (.tmp 11) 100 (by rfl) w.heap.size 131 i _ 3 32 Tryz.underlying100 HI.out.1 HI.out.2.1 HI.out.2.2.1 HI.out.2.2.2 rfl (by omega) _ 0 [] (by rfl) (dB (MapKept.heap_alloc w.drew _).1 (Nat.le_refl _)) _ k _ ((E.take k).flatMap dV) (by rfl) (pI.out _ ((Below.refl _ _).drew.alloc (Nat.le_refl _) _)).1 (jY _) (by unfold maxLen;omega) (by omega) (by simp) ?_
 intro A1 c1 w1 hown1 hb1
 have hB1:Below w.heap.size w w1:=((Below.refl _ _).drew.alloc (Nat.le_refl _) _).trans hb1
 refine hK.out _ _ (fun _=>jH.out _ hB1) (fun hS=> ?_)
 replace hS:=hS (by decide)
 clear hK K
 try simp only[Act.put,List.setIfInBounds_toArray,List.set_cons_zero,List.set_cons_succ]
 refine au (rs:=[16]) (by kernel_rfl) (by simp) ?_
 refine ah.cons (o:= ?o2) ?ho2 (fun K hK=> ?_) ah.nil
 case ho2=>simp only[List.getElem?_toArray,List.getElem?_cons_succ,List.getElem?_cons_zero];rfl
 refine av (by rfl) (.tmp 12) (.tmp 19) 100 (by rfl) w.heap.size 131 i _ 3 32 Tryz.underlying100 HI.out.1 HI.out.2.1 HI.out.2.2.1 HI.out.2.2.2 rfl (by omega) _ _ _ (by rfl) hown1 _ (n-(k+1)) _ ((E.drop (k+1)).flatMap dV) (by rfl) (pI.out _ hB1).2 (jY _) (by unfold maxLen;omega) (by omega) hB1.size ?_
 intro A2 c2 w2 hown2 hb2
 have hB2:Below w.heap.size w w2:=hB1.trans hb2
 refine hK.out _ _ (fun _=>jH.out _ hB2) (fun hS=> ?_)
 replace hS:=hS (by decide)
 clear hK K
 try simp only[Act.put,List.setIfInBounds_toArray,List.set_cons_zero,List.set_cons_succ]
 refine aT 17 (hS:=hS) (h:= ?_)
 refine aT 18 (hS:=hS) (h:= ?_)
 refine jF 19 (h:=fun K hK=> ?_)
 go_simp
 refine hK.out _ _ (fun h=>absurd rfl h) (fun hS=> ?_)
 clear hS hK K
 try simp only[Act.put,List.setIfInBounds_toArray,List.set_cons_zero,List.set_cons_succ]
 refine aV (by kernel_rfl) ?_ _
 refine NoPanic.normal ?_
 go_wp2
 all_goals (
  go_end0
  have hl:=Cx.out
  have e5:0+k+(n-(k+1))=(E.take k++E.drop (k+1)).length:=by omega
  obtain⟨-,hcc,hnz,hrow2⟩:=ak.qM hown2 (by unfold maxLen;omega)
  rw[List.nil_append,←List.flatMap_append,e5]at hrow2
  rw[e5]at hcc
  refine⟨rfl,A2,c2,w2,hB2,?_,hcc,hnz,hrow2⟩
  rw[hl])
theorem CQ (k:Nat) (w:World) (h:fT F w r T D E) (hk:k<E.length) (OP:E.length≤1000000):
  Calls Tryz.prog 69 #[ptr r, .int .i64 k] w (dh F w r T D (E.take k++E.drop (k+1)) (.tuple #[])):=by
 obtain⟨aN,cN,aD,cD,aE,cE,h1,h2,h3,h4,h8,h9,h10,h11⟩:=h.head
 obtain⟨b,off,rfl,hF,hb,hi,hc⟩:=h10.wide gY rfl (List.getElem?_eq_getElem hk) (by omega)
 exact(Gy k w E b off E.length cE (by simp[World.cell?,h1]) (h.low r h.own) (ak.frozen h1 rfl) rfl h4 OP h10 hk).mono fun e w' hs=>vH h hs
end
end Go.Proofs.YtohpcppeajijnaaGreat
