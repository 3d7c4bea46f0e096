/- The reference: add. -/
import Derived.Test.YtmabllemjkcobaaGreatM21
import Derived.WalkLawsBesides
import Derived.Deep.CutBlock
import Derived.Deep.DeepCutAuto
namespace Go.Proofs.YtmabllemjkcobaaGreat
open Go.ChangeShapes Go.WideShapes Go.ChangeAt Go.RowKit
set_option linter.unusedVariables false
set_option linter.unusedSimpArgs false
def Iy (E:List iT) (d:Int) (nm:Nm) (w:World) (v:Value) (wx:World):Prop:=
 ∃k:Nat,k≤E.length∧v= .int .i64 k∧pI E d nm=(fun id=>E.take k++(d,nm,id)::E.drop k)∧w=wx
theorem Iy.of {E:List iT} {d:Int} {nm:Nm} {w:World} {k:Nat} (hk:k≤E.length) (ha:(E.take k).all (kE d nm)=true) (hx:∀x,E[k]? =some x→kE d nm x=false):Iy E d nm w (.int .i64 k) w:=by
 refine⟨k,hk,rfl,?_,rfl⟩
 obtain⟨h1,h2⟩:=qP ha hx hk
 funext id
 unfold pI
 rw[h1,h2]
theorem pJ {α:Type} {p:α→Bool} {l:List α} {k:Nat} {x:α} (h:(l.take k).all p=true) (hx:l[k]? =some x) (hp:p x=true):(l.take (k+1)).all p=true:=by
 obtain⟨hk,e⟩:=List.getElem?_eq_some_iff.1 hx
 rw[List.take_succ_eq_append_getElem hk,List.all_append,h,e]
 simp[hp]
theorem ql (e:iT):∀u∈fH e,u.oneCell'=true:=by
 intro u hu
 simp only[fH,List.mem_cons,List.not_mem_nil,or_false]at hu
 rcases hu with rfl|rfl|rfl<;>rfl
theorem tT {w u:World} {r:Nat} {E:List iT} {d id:Int} {nm:Nm} {k m n c:Nat} {A:Option Addr} {ys:List Value} (hadd:pI E d nm=fun id=>E.take k++(d,nm,id)::E.drop k) (hl:E.length=n) (hk:k≤n) (hB:Below w.heap.size w u) (hmk:m=k) (hys:ys=(E.take k).flatMap fH)
  (hown:u.ownsRow w.heap.size 134 3 (.slice A (m+1+(n-k)) c) (m+1+(n-k)) ((ys++fH (d,nm,id))++(E.drop k).flatMap fH)) (hm:(m+1+(n-k))*3≤maxLen):
  zY w r (pI E d nm id) (.returned (.tuple #[])) (u.setCell ⟨r,2,none⟩ (.slice A (k+1+(n-k)) c)):=by
 subst hmk hys
 have hlen:(pI E d nm id).length=m+1+(n-m):=by rw[hadd];simp;omega
 have e5:m+1+(n-m)=(pI E d nm id).length:=by omega
 obtain⟨-,hcc,hnz,hrow2⟩:=aC.vQ hown hm
 rw[e5]at hcc hrow2
 refine⟨rfl,A,c,u,hB,by rw[hlen],hcc,hnz,?_⟩
 have e6:(pI E d nm id).flatMap fH=((E.take m).flatMap fH++fH (d,nm,id))++(E.drop m).flatMap fH:=by rw[hadd];simp
 rw[e6]
 exact hrow2
theorem gJ {w:World} {g:Nat} {vs:List Value} {t:TypeId} {z:Nat×Nat} (h:w.heap[g]? =some (.cells vs.toArray t z)) (hm:vs.length≤maxLen):aC (fun x=>x=g) w (some ⟨g,0,none⟩) vs.length vs:=by
 refine⟨rfl,hm,fun _=>⟨g,0,rfl,rfl,(Array.getElem?_eq_some_iff.1 h).1,fun i hi=> ?_⟩⟩
 simp[World.cell?,h]
theorem dM (w:World) (o o':Obj):((w.alloc o).alloc o').drew.heap[w.heap.size]? =some o∧((w.alloc o).alloc o').drew.heap[w.heap.size+1]? =some o':=by
 constructor
 ·have:=(MapKept.heap_alloc w o).1
  have h2:=Below.heap_alloc (w.alloc o) o' w.heap.size (by simp)
  exact h2.trans this
 ·have:=(MapKept.heap_alloc (w.alloc o) o').1
  have hs:(w.alloc o).heap.size=w.heap.size+1:=by simp
  rw[hs]at this
  exact this
section
variable {F:Nat→Prop} {r:Nat} {T:aG} {D:List (List UInt8)} {E:List iT}
set_option maxHeartbeats 4000000 in
theorem K6 (d:Int) (nm:Nm) (id:Int) (w:World) (b n cE:Nat) (hc2:w.cell? ⟨r,2,none⟩=some (.slice (some ⟨b,0,none⟩) n cE)) (hrw:r<w.heap.size) (hfr:w.frozen? ⟨r,2,none⟩=false) (hn:E.length=n) (hcap:n≤cE) (WZ:n≤1000000) (hrow:aC F w (some ⟨b,0,none⟩) (n*3) (E.flatMap fH)):
  Calls Tryz.prog 70 #[ptr r, .int .i64 d, .string (strOf nm), .int .i64 id] w (zY w r (pI E d nm id)):=by
 obtain⟨i,hi,hz,h3,h32⟩:=info_parts Eh
 have HI:=Lib.hid (And.intro hi (And.intro hz (And.intro h3 h32)))
 have HN:=Lib.hid hrow
 have HL:=Lib.hid hn
 have kU:Hid (∀w1,Below w.heap.size w w1→w1.cell? ⟨r,2,none⟩=some (.slice (some ⟨b,0,none⟩) n cE)∧w1.frozen? ⟨r,2,none⟩=false):=fun w1 hb=>⟨by rw[hb.cell (p:=⟨r,2,none⟩) hrw];exact hc2,by rw[hb.frozen (p:=⟨r,2,none⟩) hrw];exact hfr⟩
 clear hrow hn hi hz h3 h32
 go_enter Tryz.func70,Tryz.ntmps70
 go_upto_block 0 with(fail)
 go_cut [8]from 9 to 53 (fun i wx=>Iy E d nm w i wx)
 case first=>
  go_wp2_with fail
  go_loop [8] (fun i=>∃k:Nat,k≤n∧i= .int .i64 k∧(E.take k).all (kE d nm)=true) (fun i=>n-(intOf i).toNat)
  case atStart=>exact⟨0,by omega,rfl,by simp⟩
  case round=>
   obtain⟨k,hk,rfl,hall⟩:=hrel
   have HA:=Lib.hid hall
   clear hall
   by_cases hlt:k<n
   ·have hx:E[k]? =some (E[k]'(by have:=HL.out;omega)):=List.getElem?_eq_getElem _
    obtain⟨q,hq⟩:∃q,q=E[k]'(by have:=HL.out;omega):=⟨_,rfl⟩
    rw[←hq]at hx
    have HX:=Lib.hid hx
    obtain⟨b',off',e,hF,hb,hi,hc⟩:=HN.out.wide iN HL.out hx (by omega)
    simp only[Option.some.injEq,Addr.mk.injEq,and_true]at e
    obtain⟨rfl,rfl⟩:=e
    have c0:w.cell? ⟨b,k*3,none⟩=some (.int .i64 q.1):=by have:=hc 0 (by omega);rwa [Nat.zero_add]at this
    have c1:w.cell? ⟨b,k*3+1,none⟩=some (.string (strOf q.2.1)):=by have:=hc 1 (by omega);rwa [Nat.zero_add]at this
    clear hx hq hc
    have i0:(0:Int)≤k:=by omega
    have i1:(k:Int)<n:=by omega
    have hls:Op.bytesLess (strOf q.2.1).toList (strOf nm).toList=bytesBefore q.2.1 nm:=by rw[dV,dV,Ee]
    have HR:Hid (kE d nm q=true→(E.take (k+1)).all (kE d nm)=true):=fun h=>pJ HA.out HX.out h
    have HO:Hid (kE d nm q=false→Iy E d nm w (.int .i64 k) w):=fun h=>Iy.of (by have:=HL.out;omega) HA.out fun x hx=>by have:=HX.out;rw[this]at hx;cases hx;exact h
    by_cases hp:q.1<d
    ·have e1:decide (q.1<d)=true:=by simpa using hp
     replace HR:=Lib.hid (HR.out (by simp[kE,hp]))
     clear hp HO
     go_wp2
     go_round
     case rel=>exact⟨k+1,by omega,by go_num,HR.out⟩
     case measure=>simp[intOf];omega
    ·have e1:decide (q.1<d)=false:=by simpa using hp
     by_cases hp2:q.1=d
     ·have e2:(q.1==d)=true:=by simpa using hp2
      cases hp3:bytesBefore q.2.1 nm with
      |true=>
       rw[hp3]at hls
       replace HR:=Lib.hid (HR.out (by simp[kE,hp2,hp3]))
       clear hp hp2 hp3 HO
       go_wp2
       go_round
       case rel=>exact⟨k+1,by omega,by go_num,HR.out⟩
       case measure=>simp[intOf];omega
      |false=>
       rw[hp3]at hls
       replace HO:=Lib.hid (HO.out (by simp[kE,hp2,hp3]))
       clear hp hp2 hp3 HR
       go_wp2
       go_meet
       exact HO.out
     ·have e2:(q.1==d)=false:=by simpa using hp2
      replace HO:=Lib.hid (HO.out (by simp[kE,hp,hp2]))
      clear hp hp2 HR hls
      go_wp2
      go_meet
      exact HO.out
   ·have HO:Hid (Iy E d nm w (.int .i64 k) w):=Iy.of (by have:=HL.out;omega) HA.out fun x hx=>by
     have:=HL.out
     rw[List.getElem?_eq_none (by omega)]at hx
     cases hx
    go_wp2
    go_meet
    exact HO.out
 case rest=>
  obtain⟨k,hk,rfl,hadd,rfl⟩:=hcut
  have hkn:k≤n:=by have:=HL.out;omega
  have oq:Hid (∀w1,Below w.heap.size w w1→aC F w1 (some ⟨b,0,none⟩) (k*3) ((E.take k).flatMap fH)∧aC F w1 (if cE=k then some ⟨b,0,none⟩else some ⟨b,k*3,none⟩) ((n-k)*3) ((E.drop k).flatMap fH)):=fun w1 hb=>by
   have h1:=HN.out.below hb (Nat.le_refl _)
   have h2:=h1.take (k*3)
   rw[lG fH 3 iN,Nat.min_eq_right (by omega)]at h2
   have h4:=h1.drop (k*3)
   rw[lH fH 3 iN,←Nat.sub_mul,Nat.zero_add]at h4
   refine⟨h2,?_⟩
   by_cases hce:cE=k
   ·rw[if_pos hce]
    exact aC.zero _ _ _ (by rw[show n-k=0 by omega,Nat.zero_mul]) (by rw[List.drop_of_length_le (by have:=HL.out;omega)];rfl)
   ·rw[if_neg hce];exact h4
  have i0:(0:Int)≤k:=by omega
  have i1:(k:Int)≤cE:=by omega
  have i2:(k:Int)≤n:=by omega
  have i4:(n:Int)≤cE:=by omega
  have Uh:=Lib.hid hadd
  clear hadd hk
  go_wp2
  refine wp_region_noPanic ?_
  refine dZ (last:=24) (S:=(fun w'=>w'.cell? ⟨r,2,none⟩=some (.slice (some ⟨b,0,none⟩) n cE)∧w'.frozen? ⟨r,2,none⟩=false)) (by kernel_rfl) ?_ (fun hS=> ?_)
  ·exact kU.out _ (Below.refl _ _).drew
  refine bJ 0 (hS:=hS) (h:= ?_)
  refine bJ 2 (hS:=hS) (h:= ?_)
  refine bJ 3 (hS:=hS) (h:= ?_)
  refine bJ 4 (hS:=hS) (h:= ?_)
  refine bJ 5 (hS:=hS) (h:= ?_)
  refine bJ 6 (hS:=hS) (h:= ?_)
  refine bJ 7 (hS:=hS) (h:= ?_)
  refine bJ 9 (hS:=hS) (h:= ?_)
  refine bJ 10 (hS:=hS) (h:= ?_)
  refine bJ 11 (hS:=hS) (h:= ?_)
  refine bJ 12 (hS:=hS) (h:= ?_)
  refine bJ 15 (hS:=hS) (h:= ?_)
  refine bJ 16 (hS:=hS) (h:= ?_)
  refine bJ 17 (hS:=hS) (h:= ?_)
  refine bJ 18 (hS:=hS) (h:= ?_)
  refine bJ 19 (hS:=hS) (h:= ?_)
  refine bJ 20 (hS:=hS) (h:= ?_)
  refine ak (rs:=[1,13]) (by kernel_rfl) (by simp) ?_
  refine ah.cons (o:= ?o1) ?ho1 (fun K hK=> ?wa) (ah.cons (o:= ?o2) ?ho2 (fun K hK=> ?wb) ah.nil)
  case ho1=>simp only[List.getElem?_toArray,List.getElem?_cons_succ,List.getElem?_cons_zero];rfl
  case ho2=>simp only[List.getElem?_toArray,List.getElem?_cons_succ,List.getElem?_cons_zero];rfl
  case wa=>
   go_simp
   refine hK.out _ _ (fun _=>kU.out _ ((Below.refl _ _).drew.alloc (Nat.le_refl _) _)) (fun hS=> ?_)
   replace hS:=hS (by decide)
   clear hK K
   try simp only[Act.put,List.setIfInBounds_toArray,List.set_cons_zero,List.set_cons_succ]
   refine ak (rs:=[8,13]) (by kernel_rfl) (by simp) ?_
   refine ah.cons (o:= ?o3) ?ho3 (fun K hK=> ?FE) (ah.cons (o:= ?o4) ?MG (fun K hK=> ?FH) ah.nil)
   case ho3=>simp only[List.getElem?_toArray,List.getElem?_cons_succ,List.getElem?_cons_zero];rfl
   case MG=>simp only[List.getElem?_toArray,List.getElem?_cons_succ,List.getElem?_cons_zero];rfl
   case FE=>
    refine av (by rfl) (.tmp 55) (.tmp 61) 105 (by rfl) w.heap.size 134 i _ 3 32 Tryz.underlying105 HI.out.1 HI.out.2.1 HI.out.2.2.1 HI.out.2.2.2 rfl (by omega) _ 0 [] (by rfl) (dJ (MapKept.heap_alloc w.drew _).1 (Nat.le_refl _)) _ k _ ((E.take k).flatMap fH) (by rfl) (oq.out _ ((Below.refl _ _).drew.alloc (Nat.le_refl _) _)).1 (mo _) (by unfold maxLen;omega) (by omega) (by simp<;>omega) ?_
    intro A1 c1 u1 hown0 hb1
    have hB0:Below w.heap.size w u1:=((Below.refl _ _).drew.alloc (Nat.le_refl _) _).trans hb1
    refine hK.out _ _ (fun _=>kU.out _ hB0) (fun hS=> ?_)
    replace hS:=hS (by decide)
    clear hK K
    try simp only[Act.put,List.setIfInBounds_toArray,List.set_cons_zero,List.set_cons_succ]
    refine kP 13 (h:=fun K hK=> ?_)
    go_simp
    refine hK.out _ _ (fun _=>kU.out _ (hB0.alloc hB0.size _)) (fun hS=> ?_)
    replace hS:=hS (by decide)
    clear hK K
    try simp only[Act.put,List.setIfInBounds_toArray,List.set_cons_zero,List.set_cons_succ]
    rw[Nat.zero_add]at hown0
    have hown1:=own_below hown0 ((Below.refl _ _).alloc (Nat.le_refl _) (.cells (fH (d,nm,id)).toArray 134))
    have hrow:=ni (w:=u1) (fH (d,nm,id)) 134 (by simp[fH,maxLen])
    have hB1:Below w.heap.size w (u1.alloc (.cells (fH (d,nm,id)).toArray 134)):=hB0.alloc hB0.size _
    refine ak (rs:=[14]) (by kernel_rfl) (by simp) ?_
    refine ah.cons (o:= ?o5) ?QB (fun K hK=> ?_) ah.nil
    case QB=>simp only[List.getElem?_toArray,List.getElem?_cons_succ,List.getElem?_cons_zero];rfl
    refine av (by rfl) (.tmp 62) (.tmp 67) 105 (by rfl) w.heap.size 134 i _ 3 32 Tryz.underlying105 HI.out.1 HI.out.2.1 HI.out.2.2.1 HI.out.2.2.2 rfl (by omega) _ _ _ (by rfl) hown1 _ 1 _ (fH (d,nm,id)) (by rfl) hrow (ql _) (by unfold maxLen;omega) (by omega) hB1.size ?_
    intro A2 c2 u2 hown2 hb2
    have hB2:Below w.heap.size w u2:=hB1.trans hb2
    refine hK.out _ _ (fun _=>kU.out _ hB2) (fun hS=> ?_)
    replace hS:=hS (by decide)
    clear hK K
    try simp only[Act.put,List.setIfInBounds_toArray,List.set_cons_zero,List.set_cons_succ]
    refine ak (rs:=[21]) (by kernel_rfl) (by simp) ?_
    refine ah.cons (o:= ?o6) ?W9 (fun K hK=> ?_) ah.nil
    case W9=>simp only[List.getElem?_toArray,List.getElem?_cons_succ,List.getElem?_cons_zero];rfl
    refine av (by rfl) (.tmp 68) (.tmp 74) 105 (by rfl) w.heap.size 134 i _ 3 32 Tryz.underlying105 HI.out.1 HI.out.2.1 HI.out.2.2.1 HI.out.2.2.2 rfl (by omega) _ _ _ (by rfl) hown2 _ (n-k) _ ((E.drop k).flatMap fH) (by rfl) (oq.out _ hB2).2 (mo _) (by unfold maxLen;omega) (by omega) hB2.size ?_
    intro A3 c3 u3 hown3 hb3
    have hB3:Below w.heap.size w u3:=hB2.trans hb3
    refine hK.out _ _ (fun _=>kU.out _ hB3) (fun hS=> ?_)
    replace hS:=hS (by decide)
    clear hK K
    try simp only[Act.put,List.setIfInBounds_toArray,List.set_cons_zero,List.set_cons_succ]
    refine bJ 22 (hS:=hS) (h:= ?_)
    refine bJ 23 (hS:=hS) (h:= ?_)
    refine kP 24 (h:=fun K hK=> ?_)
    go_simp
    refine hK.out _ _ (fun h=>absurd rfl h) (fun hS=> ?_)
    clear hS hK K
    try simp only[Act.put,List.setIfInBounds_toArray,List.set_cons_zero,List.set_cons_succ]
    refine bg (by kernel_rfl) ?_ _
    refine NoPanic.normal ?_
    go_wp2
    all_goals (
     go_end0
     exact tT Uh.out HL.out hkn hB3 (by omega) (by simp) hown3 (by unfold maxLen;omega))
   case FH=>
    go_simp
    refine hK.out _ _ (fun _=>kU.out _ (((Below.refl _ _).drew.alloc (Nat.le_refl _) _).alloc (by simp<;>omega) _)) (fun hS=> ?_)
    replace hS:=hS (by decide)
    clear hK K
    try simp only[Act.put,List.setIfInBounds_toArray,List.set_cons_zero,List.set_cons_succ]
    refine ak (rs:=[8]) (by kernel_rfl) (by simp) ?_
    refine ah.cons (o:= ?o7) ?W_ (fun K hK=> ?_) ah.nil
    case W_=>simp only[List.getElem?_toArray,List.getElem?_cons_succ,List.getElem?_cons_zero];rfl
    refine bF (by rfl) (.tmp 55) (.tmp 61) 105 (by rfl) w.heap.size 134 i _ 3 32 Tryz.underlying105 HI.out.1 HI.out.2.1 HI.out.2.2.1 HI.out.2.2.2 rfl (by omega) _ 0 [] (by rfl) (dJ (dM w _ _).1 (Nat.le_refl _)) _ k _ ((E.take k).flatMap fH) (by rfl) (oq.out _ (((Below.refl _ _).drew.alloc (Nat.le_refl _) _).alloc (by simp<;>omega) _)).1 (mo _) (by unfold maxLen;omega) (by omega) (by simp<;>omega) ?_
    intro A1 c1 u1 hown1 hb1 hg1
    have hB1:Below w.heap.size w u1:=(((Below.refl _ _).drew.alloc (Nat.le_refl _) _).alloc (by simp<;>omega) _).trans hb1
    have hrow:=(gJ (vs:=fH (d,nm,id)) (dM w (.cells #[] 134) (.cells (fH (d,nm,id)).toArray 134)).2 (by simp[fH,maxLen])).grown hg1 (fun b hb hbw=>by subst hb;simp[Value.ownBlock])
    refine hK.out _ _ (fun _=>kU.out _ hB1) (fun hS=> ?_)
    replace hS:=hS (by decide)
    clear hK K
    try simp only[Act.put,List.setIfInBounds_toArray,List.set_cons_zero,List.set_cons_succ]
    refine ak (rs:=[14]) (by kernel_rfl) (by simp) ?_
    refine ah.cons (o:= ?o8) ?SQ (fun K hK=> ?_) ah.nil
    case SQ=>simp only[List.getElem?_toArray,List.getElem?_cons_succ,List.getElem?_cons_zero];rfl
    refine av (by rfl) (.tmp 62) (.tmp 67) 105 (by rfl) w.heap.size 134 i _ 3 32 Tryz.underlying105 HI.out.1 HI.out.2.1 HI.out.2.2.1 HI.out.2.2.2 rfl (by omega) _ _ _ (by rfl) hown1 _ 1 _ (fH (d,nm,id)) (by rfl) hrow (ql _) (by unfold maxLen;omega) (by omega) hB1.size ?_
    intro A2 c2 u2 hown2 hb2
    have hB2:Below w.heap.size w u2:=hB1.trans hb2
    refine hK.out _ _ (fun _=>kU.out _ hB2) (fun hS=> ?_)
    replace hS:=hS (by decide)
    clear hK K
    try simp only[Act.put,List.setIfInBounds_toArray,List.set_cons_zero,List.set_cons_succ]
    refine ak (rs:=[21]) (by kernel_rfl) (by simp) ?_
    refine ah.cons (o:= ?o9) ?Ui (fun K hK=> ?_) ah.nil
    case Ui=>simp only[List.getElem?_toArray,List.getElem?_cons_succ,List.getElem?_cons_zero];rfl
    refine av (by rfl) (.tmp 68) (.tmp 74) 105 (by rfl) w.heap.size 134 i _ 3 32 Tryz.underlying105 HI.out.1 HI.out.2.1 HI.out.2.2.1 HI.out.2.2.2 rfl (by omega) _ _ _ (by rfl) hown2 _ (n-k) _ ((E.drop k).flatMap fH) (by rfl) (oq.out _ hB2).2 (mo _) (by unfold maxLen;omega) (by omega) hB2.size ?_
    intro A3 c3 u3 hown3 hb3
    have hB3:Below w.heap.size w u3:=hB2.trans hb3
    refine hK.out _ _ (fun _=>kU.out _ hB3) (fun hS=> ?_)
    replace hS:=hS (by decide)
    clear hK K
    try simp only[Act.put,List.setIfInBounds_toArray,List.set_cons_zero,List.set_cons_succ]
    refine bJ 22 (hS:=hS) (h:= ?_)
    refine bJ 23 (hS:=hS) (h:= ?_)
    refine kP 24 (h:=fun K hK=> ?_)
    go_simp
    refine hK.out _ _ (fun h=>absurd rfl h) (fun hS=> ?_)
    clear hS hK K
    try simp only[Act.put,List.setIfInBounds_toArray,List.set_cons_zero,List.set_cons_succ]
    refine bg (by kernel_rfl) ?_ _
    refine NoPanic.normal ?_
    go_wp2
    all_goals (
     go_end0
     exact tT Uh.out HL.out hkn hB3 (by omega) (by simp) hown3 (by unfold maxLen;omega))
  case wb=>
   go_simp
   refine hK.out _ _ (fun _=>kU.out _ ((Below.refl _ _).drew.alloc (Nat.le_refl _) _)) (fun hS=> ?_)
   replace hS:=hS (by decide)
   clear hK K
   try simp only[Act.put,List.setIfInBounds_toArray,List.set_cons_zero,List.set_cons_succ]
   refine kP 1 (h:=fun K hK=> ?_)
   go_simp
   refine hK.out _ _ (fun _=>kU.out _ (((Below.refl _ _).drew.alloc (Nat.le_refl _) _).alloc (by simp<;>omega) _)) (fun hS=> ?_)
   replace hS:=hS (by decide)
   clear hK K
   try simp only[Act.put,List.setIfInBounds_toArray,List.set_cons_zero,List.set_cons_succ]
   refine ak (rs:=[8]) (by kernel_rfl) (by simp) ?_
   refine ah.cons (o:= ?o10) ?NC (fun K hK=> ?_) ah.nil
   case NC=>simp only[List.getElem?_toArray,List.getElem?_cons_succ,List.getElem?_cons_zero];rfl
   refine bF (by rfl) (.tmp 55) (.tmp 61) 105 (by rfl) w.heap.size 134 i _ 3 32 Tryz.underlying105 HI.out.1 HI.out.2.1 HI.out.2.2.1 HI.out.2.2.2 rfl (by omega) _ 0 [] (by rfl) (dJ (dM w _ _).2 (by omega)) _ k _ ((E.take k).flatMap fH) (by rfl) (oq.out _ (((Below.refl _ _).drew.alloc (Nat.le_refl _) _).alloc (by simp<;>omega) _)).1 (mo _) (by unfold maxLen;omega) (by omega) (by simp<;>omega) ?_
   intro A1 c1 u1 hown1 hb1 hg1
   have hB1:Below w.heap.size w u1:=(((Below.refl _ _).drew.alloc (Nat.le_refl _) _).alloc (by simp<;>omega) _).trans hb1
   have hrow:=(gJ (vs:=fH (d,nm,id)) (dM w (.cells (fH (d,nm,id)).toArray 134) (.cells #[] 134)).1 (by simp[fH,maxLen])).grown hg1 (fun b hb hbw=>by subst hb;simp[Value.ownBlock])
   refine hK.out _ _ (fun _=>kU.out _ hB1) (fun hS=> ?_)
   replace hS:=hS (by decide)
   clear hK K
   try simp only[Act.put,List.setIfInBounds_toArray,List.set_cons_zero,List.set_cons_succ]
   refine ak (rs:=[14]) (by kernel_rfl) (by simp) ?_
   refine ah.cons (o:= ?o11) ?ND (fun K hK=> ?_) ah.nil
   case ND=>simp only[List.getElem?_toArray,List.getElem?_cons_succ,List.getElem?_cons_zero];rfl
   refine av (by rfl) (.tmp 62) (.tmp 67) 105 (by rfl) w.heap.size 134 i _ 3 32 Tryz.underlying105 HI.out.1 HI.out.2.1 HI.out.2.2.1 HI.out.2.2.2 rfl (by omega) _ _ _ (by rfl) hown1 _ 1 _ (fH (d,nm,id)) (by rfl) hrow (ql _) (by unfold maxLen;omega) (by omega) hB1.size ?_
   intro A2 c2 u2 hown2 hb2
   have hB2:Below w.heap.size w u2:=hB1.trans hb2
   refine hK.out _ _ (fun _=>kU.out _ hB2) (fun hS=> ?_)
   replace hS:=hS (by decide)
   clear hK K
   try simp only[Act.put,List.setIfInBounds_toArray,List.set_cons_zero,List.set_cons_succ]
   refine ak (rs:=[21]) (by kernel_rfl) (by simp) ?_
   refine ah.cons (o:= ?o12) ?NG (fun K hK=> ?_) ah.nil
   case NG=>simp only[List.getElem?_toArray,List.getElem?_cons_succ,List.getElem?_cons_zero];rfl
   refine av (by rfl) (.tmp 68) (.tmp 74) 105 (by rfl) w.heap.size 134 i _ 3 32 Tryz.underlying105 HI.out.1 HI.out.2.1 HI.out.2.2.1 HI.out.2.2.2 rfl (by omega) _ _ _ (by rfl) hown2 _ (n-k) _ ((E.drop k).flatMap fH) (by rfl) (oq.out _ hB2).2 (mo _) (by unfold maxLen;omega) (by omega) hB2.size ?_
   intro A3 c3 u3 hown3 hb3
   have hB3:Below w.heap.size w u3:=hB2.trans hb3
   refine hK.out _ _ (fun _=>kU.out _ hB3) (fun hS=> ?_)
   replace hS:=hS (by decide)
   clear hK K
   try simp only[Act.put,List.setIfInBounds_toArray,List.set_cons_zero,List.set_cons_succ]
   refine bJ 22 (hS:=hS) (h:= ?_)
   refine bJ 23 (hS:=hS) (h:= ?_)
   refine kP 24 (h:=fun K hK=> ?_)
   go_simp
   refine hK.out _ _ (fun h=>absurd rfl h) (fun hS=> ?_)
   clear hS hK K
   try simp only[Act.put,List.setIfInBounds_toArray,List.set_cons_zero,List.set_cons_succ]
   refine bg (by kernel_rfl) ?_ _
   refine NoPanic.normal ?_
   go_wp2
   all_goals (
    go_end0
    exact tT Uh.out HL.out hkn hB3 (by omega) (by simp) hown3 (by unfold maxLen;omega))
set_option maxHeartbeats 4000000 in
theorem NH (d:Int) (nm:Nm) (id:Int) (w:World) (hc2:w.cell? ⟨r,2,none⟩=some (.slice none 0 0)) (hrw:r<w.heap.size) (hfr:w.frozen? ⟨r,2,none⟩=false):
  Calls Tryz.prog 70 #[ptr r, .int .i64 d, .string (strOf nm), .int .i64 id] w (zY w r (pI [] d nm id)):=by
 obtain⟨i,hi,hz,h3,h32⟩:=info_parts Eh
 have HI:=Lib.hid (And.intro hi (And.intro hz (And.intro h3 h32)))
 have kU:Hid (∀w1,Below w.heap.size w w1→w1.cell? ⟨r,2,none⟩=some (.slice none 0 0)∧w1.frozen? ⟨r,2,none⟩=false):=fun w1 hb=>⟨by rw[hb.cell (p:=⟨r,2,none⟩) hrw];exact hc2,by rw[hb.frozen (p:=⟨r,2,none⟩) hrw];exact hfr⟩
 have oq:Hid (∀w1:World,aC (fun _=>True) w1 none (0*3) []∧aC (fun _=>True) w1 none (0*3) []):=fun w1=>⟨aC.zero _ _ _ rfl rfl,aC.zero _ _ _ rfl rfl⟩
 clear hi hz h3 h32
 go_enter Tryz.func70,Tryz.ntmps70
 go_upto_block 0 with(fail)
 go_cut [8]from 9 to 53 (fun i wx=>i= .int .i64 0∧w=wx)
 case first=>
  go_wp2_with fail
  go_loop [8] (fun i=>i= .int .i64 0) (fun _=>0)
  case atStart=>rfl
  case round=>
   subst hrel
   go_wp2
   go_meet
   exact⟨rfl,rfl⟩
 case rest=>
  obtain⟨rfl,rfl⟩:=hcut
  go_wp2
  refine wp_region_noPanic ?_
  refine dZ (last:=24) (S:=(fun w'=>w'.cell? ⟨r,2,none⟩=some (.slice none 0 0)∧w'.frozen? ⟨r,2,none⟩=false)) (by kernel_rfl) ?_ (fun hS=> ?_)
  ·exact kU.out _ (Below.refl _ _).drew
  refine bJ 0 (hS:=hS) (h:= ?_)
  refine bJ 2 (hS:=hS) (h:= ?_)
  refine bJ 3 (hS:=hS) (h:= ?_)
  refine bJ 4 (hS:=hS) (h:= ?_)
  refine bJ 5 (hS:=hS) (h:= ?_)
  refine bJ 6 (hS:=hS) (h:= ?_)
  refine bJ 7 (hS:=hS) (h:= ?_)
  refine bJ 9 (hS:=hS) (h:= ?_)
  refine bJ 10 (hS:=hS) (h:= ?_)
  refine bJ 11 (hS:=hS) (h:= ?_)
  refine bJ 12 (hS:=hS) (h:= ?_)
  refine bJ 15 (hS:=hS) (h:= ?_)
  refine bJ 16 (hS:=hS) (h:= ?_)
  refine bJ 17 (hS:=hS) (h:= ?_)
  refine bJ 18 (hS:=hS) (h:= ?_)
  refine bJ 19 (hS:=hS) (h:= ?_)
  refine bJ 20 (hS:=hS) (h:= ?_)
  refine ak (rs:=[1,13]) (by kernel_rfl) (by simp) ?_
  refine ah.cons (o:= ?o13) ?NI (fun K hK=> ?wa) (ah.cons (o:= ?o14) ?NJ (fun K hK=> ?wb) ah.nil)
  case NI=>simp only[List.getElem?_toArray,List.getElem?_cons_succ,List.getElem?_cons_zero];rfl
  case NJ=>simp only[List.getElem?_toArray,List.getElem?_cons_succ,List.getElem?_cons_zero];rfl
  case wa=>
   go_simp
   refine hK.out _ _ (fun _=>kU.out _ ((Below.refl _ _).drew.alloc (Nat.le_refl _) _)) (fun hS=> ?_)
   replace hS:=hS (by decide)
   clear hK K
   try simp only[Act.put,List.setIfInBounds_toArray,List.set_cons_zero,List.set_cons_succ]
   refine ak (rs:=[8,13]) (by kernel_rfl) (by simp) ?_
   refine ah.cons (o:= ?o15) ?NK (fun K hK=> ?FE) (ah.cons (o:= ?o16) ?NM (fun K hK=> ?FH) ah.nil)
   case NK=>simp only[List.getElem?_toArray,List.getElem?_cons_succ,List.getElem?_cons_zero];rfl
   case NM=>simp only[List.getElem?_toArray,List.getElem?_cons_succ,List.getElem?_cons_zero];rfl
   case FE=>
    refine av (by rfl) (.tmp 55) (.tmp 61) 105 (by rfl) w.heap.size 134 i _ 3 32 Tryz.underlying105 HI.out.1 HI.out.2.1 HI.out.2.2.1 HI.out.2.2.2 rfl (by omega) _ 0 [] (by rfl) (dJ (MapKept.heap_alloc w.drew _).1 (Nat.le_refl _)) _ 0 _ [] (by rfl) (oq.out _).1 (fun u hu=>by cases hu) (by unfold maxLen;omega) (by omega) (by simp<;>omega) ?_
    intro A1 c1 u1 hown0 hb1
    have hB0:Below w.heap.size w u1:=((Below.refl _ _).drew.alloc (Nat.le_refl _) _).trans hb1
    refine hK.out _ _ (fun _=>kU.out _ hB0) (fun hS=> ?_)
    replace hS:=hS (by decide)
    clear hK K
    try simp only[Act.put,List.setIfInBounds_toArray,List.set_cons_zero,List.set_cons_succ]
    refine kP 13 (h:=fun K hK=> ?_)
    go_simp
    refine hK.out _ _ (fun _=>kU.out _ (hB0.alloc hB0.size _)) (fun hS=> ?_)
    replace hS:=hS (by decide)
    clear hK K
    try simp only[Act.put,List.setIfInBounds_toArray,List.set_cons_zero,List.set_cons_succ]
    have hown1:=own_below hown0 ((Below.refl _ _).alloc (Nat.le_refl _) (.cells (fH (d,nm,id)).toArray 134))
    have hrow:=ni (w:=u1) (fH (d,nm,id)) 134 (by simp[fH,maxLen])
    have hB1:Below w.heap.size w (u1.alloc (.cells (fH (d,nm,id)).toArray 134)):=hB0.alloc hB0.size _
    refine ak (rs:=[14]) (by kernel_rfl) (by simp) ?_
    refine ah.cons (o:= ?o17) ?NP (fun K hK=> ?_) ah.nil
    case NP=>simp only[List.getElem?_toArray,List.getElem?_cons_succ,List.getElem?_cons_zero];rfl
    refine av (by rfl) (.tmp 62) (.tmp 67) 105 (by rfl) w.heap.size 134 i _ 3 32 Tryz.underlying105 HI.out.1 HI.out.2.1 HI.out.2.2.1 HI.out.2.2.2 rfl (by omega) _ _ _ (by rfl) hown1 _ 1 _ (fH (d,nm,id)) (by rfl) hrow (ql _) (by unfold maxLen;omega) (by omega) hB1.size ?_
    intro A2 c2 u2 hown2 hb2
    have hB2:Below w.heap.size w u2:=hB1.trans hb2
    refine hK.out _ _ (fun _=>kU.out _ hB2) (fun hS=> ?_)
    replace hS:=hS (by decide)
    clear hK K
    try simp only[Act.put,List.setIfInBounds_toArray,List.set_cons_zero,List.set_cons_succ]
    refine ak (rs:=[21]) (by kernel_rfl) (by simp) ?_
    refine ah.cons (o:= ?o18) ?NQ (fun K hK=> ?_) ah.nil
    case NQ=>simp only[List.getElem?_toArray,List.getElem?_cons_succ,List.getElem?_cons_zero];rfl
    refine av (by rfl) (.tmp 68) (.tmp 74) 105 (by rfl) w.heap.size 134 i _ 3 32 Tryz.underlying105 HI.out.1 HI.out.2.1 HI.out.2.2.1 HI.out.2.2.2 rfl (by omega) _ _ _ (by rfl) hown2 _ 0 _ [] (by rfl) (oq.out _).2 (fun u hu=>by cases hu) (by unfold maxLen;omega) (by omega) hB2.size ?_
    intro A3 c3 u3 hown3 hb3
    have hB3:Below w.heap.size w u3:=hB2.trans hb3
    refine hK.out _ _ (fun _=>kU.out _ hB3) (fun hS=> ?_)
    replace hS:=hS (by decide)
    clear hK K
    try simp only[Act.put,List.setIfInBounds_toArray,List.set_cons_zero,List.set_cons_succ]
    refine bJ 22 (hS:=hS) (h:= ?_)
    refine bJ 23 (hS:=hS) (h:= ?_)
    refine kP 24 (h:=fun K hK=> ?_)
    go_simp
    refine hK.out _ _ (fun h=>absurd rfl h) (fun hS=> ?_)
    clear hS hK K
    try simp only[Act.put,List.setIfInBounds_toArray,List.set_cons_zero,List.set_cons_succ]
    refine bg (by kernel_rfl) ?_ _
    refine NoPanic.normal ?_
    go_wp2
    all_goals (
     go_end0
     exact tT (E:=[]) (k:=0) (m:=0) (n:=0) rfl rfl (Nat.le_refl _) hB3 rfl rfl hown3 (by unfold maxLen;omega))
   case FH=>
    go_simp
    refine hK.out _ _ (fun _=>kU.out _ (((Below.refl _ _).drew.alloc (Nat.le_refl _) _).alloc (by simp<;>omega) _)) (fun hS=> ?_)
    replace hS:=hS (by decide)
    clear hK K
    try simp only[Act.put,List.setIfInBounds_toArray,List.set_cons_zero,List.set_cons_succ]
    refine ak (rs:=[8]) (by kernel_rfl) (by simp) ?_
    refine ah.cons (o:= ?o19) ?NR (fun K hK=> ?_) ah.nil
    case NR=>simp only[List.getElem?_toArray,List.getElem?_cons_succ,List.getElem?_cons_zero];rfl
    refine bF (by rfl) (.tmp 55) (.tmp 61) 105 (by rfl) w.heap.size 134 i _ 3 32 Tryz.underlying105 HI.out.1 HI.out.2.1 HI.out.2.2.1 HI.out.2.2.2 rfl (by omega) _ 0 [] (by rfl) (dJ (dM w _ _).1 (Nat.le_refl _)) _ 0 _ [] (by rfl) (oq.out _).1 (fun u hu=>by cases hu) (by unfold maxLen;omega) (by omega) (by simp<;>omega) ?_
    intro A1 c1 u1 hown1 hb1 hg1
    have hB1:Below w.heap.size w u1:=(((Below.refl _ _).drew.alloc (Nat.le_refl _) _).alloc (by simp<;>omega) _).trans hb1
    have hrow:=(gJ (vs:=fH (d,nm,id)) (dM w (.cells #[] 134) (.cells (fH (d,nm,id)).toArray 134)).2 (by simp[fH,maxLen])).grown hg1 (fun b hb hbw=>by subst hb;simp[Value.ownBlock])
    refine hK.out _ _ (fun _=>kU.out _ hB1) (fun hS=> ?_)
    replace hS:=hS (by decide)
    clear hK K
    try simp only[Act.put,List.setIfInBounds_toArray,List.set_cons_zero,List.set_cons_succ]
    refine ak (rs:=[14]) (by kernel_rfl) (by simp) ?_
    refine ah.cons (o:= ?o20) ?NS (fun K hK=> ?_) ah.nil
    case NS=>simp only[List.getElem?_toArray,List.getElem?_cons_succ,List.getElem?_cons_zero];rfl
    refine av (by rfl) (.tmp 62) (.tmp 67) 105 (by rfl) w.heap.size 134 i _ 3 32 Tryz.underlying105 HI.out.1 HI.out.2.1 HI.out.2.2.1 HI.out.2.2.2 rfl (by omega) _ _ _ (by rfl) hown1 _ 1 _ (fH (d,nm,id)) (by rfl) hrow (ql _) (by unfold maxLen;omega) (by omega) hB1.size ?_
    intro A2 c2 u2 hown2 hb2
    have hB2:Below w.heap.size w u2:=hB1.trans hb2
    refine hK.out _ _ (fun _=>kU.out _ hB2) (fun hS=> ?_)
    replace hS:=hS (by decide)
    clear hK K
    try simp only[Act.put,List.setIfInBounds_toArray,List.set_cons_zero,List.set_cons_succ]
    refine ak (rs:=[21]) (by kernel_rfl) (by simp) ?_
    refine ah.cons (o:= ?o21) ?NT (fun K hK=> ?_) ah.nil
    case NT=>simp only[List.getElem?_toArray,List.getElem?_cons_succ,List.getElem?_cons_zero];rfl
    refine av (by rfl) (.tmp 68) (.tmp 74) 105 (by rfl) w.heap.size 134 i _ 3 32 Tryz.underlying105 HI.out.1 HI.out.2.1 HI.out.2.2.1 HI.out.2.2.2 rfl (by omega) _ _ _ (by rfl) hown2 _ 0 _ [] (by rfl) (oq.out _).2 (fun u hu=>by cases hu) (by unfold maxLen;omega) (by omega) hB2.size ?_
    intro A3 c3 u3 hown3 hb3
    have hB3:Below w.heap.size w u3:=hB2.trans hb3
    refine hK.out _ _ (fun _=>kU.out _ hB3) (fun hS=> ?_)
    replace hS:=hS (by decide)
    clear hK K
    try simp only[Act.put,List.setIfInBounds_toArray,List.set_cons_zero,List.set_cons_succ]
    refine bJ 22 (hS:=hS) (h:= ?_)
    refine bJ 23 (hS:=hS) (h:= ?_)
    refine kP 24 (h:=fun K hK=> ?_)
    go_simp
    refine hK.out _ _ (fun h=>absurd rfl h) (fun hS=> ?_)
    clear hS hK K
    try simp only[Act.put,List.setIfInBounds_toArray,List.set_cons_zero,List.set_cons_succ]
    refine bg (by kernel_rfl) ?_ _
    refine NoPanic.normal ?_
    go_wp2
    all_goals (
     go_end0
     exact tT (E:=[]) (k:=0) (m:=0) (n:=0) rfl rfl (Nat.le_refl _) hB3 rfl rfl hown3 (by unfold maxLen;omega))
  case wb=>
   go_simp
   refine hK.out _ _ (fun _=>kU.out _ ((Below.refl _ _).drew.alloc (Nat.le_refl _) _)) (fun hS=> ?_)
   replace hS:=hS (by decide)
   clear hK K
   try simp only[Act.put,List.setIfInBounds_toArray,List.set_cons_zero,List.set_cons_succ]
   refine kP 1 (h:=fun K hK=> ?_)
   go_simp
   refine hK.out _ _ (fun _=>kU.out _ (((Below.refl _ _).drew.alloc (Nat.le_refl _) _).alloc (by simp<;>omega) _)) (fun hS=> ?_)
   replace hS:=hS (by decide)
   clear hK K
   try simp only[Act.put,List.setIfInBounds_toArray,List.set_cons_zero,List.set_cons_succ]
   refine ak (rs:=[8]) (by kernel_rfl) (by simp) ?_
   refine ah.cons (o:= ?o22) ?NU (fun K hK=> ?_) ah.nil
   case NU=>simp only[List.getElem?_toArray,List.getElem?_cons_succ,List.getElem?_cons_zero];rfl
   refine bF (by rfl) (.tmp 55) (.tmp 61) 105 (by rfl) w.heap.size 134 i _ 3 32 Tryz.underlying105 HI.out.1 HI.out.2.1 HI.out.2.2.1 HI.out.2.2.2 rfl (by omega) _ 0 [] (by rfl) (dJ (dM w _ _).2 (by omega)) _ 0 _ [] (by rfl) (oq.out _).1 (fun u hu=>by cases hu) (by unfold maxLen;omega) (by omega) (by simp<;>omega) ?_
   intro A1 c1 u1 hown1 hb1 hg1
   have hB1:Below w.heap.size w u1:=(((Below.refl _ _).drew.alloc (Nat.le_refl _) _).alloc (by simp<;>omega) _).trans hb1
   have hrow:=(gJ (vs:=fH (d,nm,id)) (dM w (.cells (fH (d,nm,id)).toArray 134) (.cells #[] 134)).1 (by simp[fH,maxLen])).grown hg1 (fun b hb hbw=>by subst hb;simp[Value.ownBlock])
   refine hK.out _ _ (fun _=>kU.out _ hB1) (fun hS=> ?_)
   replace hS:=hS (by decide)
   clear hK K
   try simp only[Act.put,List.setIfInBounds_toArray,List.set_cons_zero,List.set_cons_succ]
   refine ak (rs:=[14]) (by kernel_rfl) (by simp) ?_
   refine ah.cons (o:= ?o23) ?NV (fun K hK=> ?_) ah.nil
   case NV=>simp only[List.getElem?_toArray,List.getElem?_cons_succ,List.getElem?_cons_zero];rfl
   refine av (by rfl) (.tmp 62) (.tmp 67) 105 (by rfl) w.heap.size 134 i _ 3 32 Tryz.underlying105 HI.out.1 HI.out.2.1 HI.out.2.2.1 HI.out.2.2.2 rfl (by omega) _ _ _ (by rfl) hown1 _ 1 _ (fH (d,nm,id)) (by rfl) hrow (ql _) (by unfold maxLen;omega) (by omega) hB1.size ?_
   intro A2 c2 u2 hown2 hb2
   have hB2:Below w.heap.size w u2:=hB1.trans hb2
   refine hK.out _ _ (fun _=>kU.out _ hB2) (fun hS=> ?_)
   replace hS:=hS (by decide)
   clear hK K
   try simp only[Act.put,List.setIfInBounds_toArray,List.set_cons_zero,List.set_cons_succ]
   refine ak (rs:=[21]) (by kernel_rfl) (by simp) ?_
   refine ah.cons (o:= ?o24) ?NW (fun K hK=> ?_) ah.nil
   case NW=>simp only[List.getElem?_toArray,List.getElem?_cons_succ,List.getElem?_cons_zero];rfl
   refine av (by rfl) (.tmp 68) (.tmp 74) 105 (by rfl) w.heap.size 134 i _ 3 32 Tryz.underlying105 HI.out.1 HI.out.2.1 HI.out.2.2.1 HI.out.2.2.2 rfl (by omega) _ _ _ (by rfl) hown2 _ 0 _ [] (by rfl) (oq.out _).2 (fun u hu=>by cases hu) (by unfold maxLen;omega) (by omega) hB2.size ?_
   intro A3 c3 u3 hown3 hb3
   have hB3:Below w.heap.size w u3:=hB2.trans hb3
   refine hK.out _ _ (fun _=>kU.out _ hB3) (fun hS=> ?_)
   replace hS:=hS (by decide)
   clear hK K
   try simp only[Act.put,List.setIfInBounds_toArray,List.set_cons_zero,List.set_cons_succ]
   refine bJ 22 (hS:=hS) (h:= ?_)
   refine bJ 23 (hS:=hS) (h:= ?_)
   refine kP 24 (h:=fun K hK=> ?_)
   go_simp
   refine hK.out _ _ (fun h=>absurd rfl h) (fun hS=> ?_)
   clear hS hK K
   try simp only[Act.put,List.setIfInBounds_toArray,List.set_cons_zero,List.set_cons_succ]
   refine bg (by kernel_rfl) ?_ _
   refine NoPanic.normal ?_
   go_wp2
   all_goals (
    go_end0
    exact tT (E:=[]) (k:=0) (m:=0) (n:=0) rfl rfl (Nat.le_refl _) hB3 rfl rfl hown3 (by unfold maxLen;omega))
theorem QC (d:Int) (nm:Nm) (id:Int) (w:World) (h:gY F w r T D E) (WZ:E.length≤1000000):
  Calls Tryz.prog 70 #[ptr r, .int .i64 d, .string (strOf nm), .int .i64 id] w (dY F w r T D (pI E d nm id) (.tuple #[])):=by
 obtain⟨aN,cN,aD,cD,aE,cE,h1,h2,h3,h4,h8,h9,h10,h11⟩:=h.head
 have hc:w.cell? ⟨r,2,none⟩=some (.slice aE E.length cE):=by simp[World.cell?,h1]
 rcases h11 with⟨rfl,rfl⟩|⟨b,rfl⟩
 ·have hE:E=[]:=List.eq_nil_of_length_eq_zero (by omega)
  rw[hE]at hc⊢
  exact(NH d nm id w hc (h.low r h.own) (aC.frozen h1 rfl)).mono fun e w' hs=>zZ h hs
 ·exact(K6 d nm id w b E.length cE hc (h.low r h.own) (aC.frozen h1 rfl) rfl h4 WZ h10).mono fun e w' hs=>zZ h hs
end
end Go.Proofs.YtmabllemjkcobaaGreat
