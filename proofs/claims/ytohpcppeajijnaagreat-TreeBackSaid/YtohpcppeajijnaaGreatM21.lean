/- The reference: add. -/
import Derived.Test.YtohpcppeajijnaaGreatM20
import Derived.WalkLawsBesides
import Derived.Deep.CutBlock
import Derived.Deep.DeepCutAuto
namespace Go.Proofs.YtohpcppeajijnaaGreat
open Go.ChangeShapes Go.WideShapes Go.ChangeAt Go.RowKit
set_option linter.unusedVariables false
set_option linter.unusedSimpArgs false
def Dl (E:List jc) (d:Int) (nm:Nm) (w:World) (v:Value) (wx:World):Prop:=
 ∃k:Nat,k≤E.length∧v= .int .i64 k∧mY E d nm=(fun id=>E.take k++(d,nm,id)::E.drop k)∧w=wx
theorem Dl.of {E:List jc} {d:Int} {nm:Nm} {w:World} {k:Nat} (hk:k≤E.length) (ha:(E.take k).all (jF d nm)=true) (hx:∀x,E[k]? =some x→jF d nm x=false):Dl E d nm w (.int .i64 k) w:=by
 refine⟨k,hk,rfl,?_,rfl⟩
 obtain⟨h1,h2⟩:=rA ha hx hk
 funext id
 unfold mY
 rw[h1,h2]
theorem mZ {α:Type} {p:α→Bool} {l:List α} {k:Nat} {x:α} (h:(l.take k).all p=true) (hx:l[k]? =some x) (hp:p x=true):(l.take (k+1)).all p=true:=by
 obtain⟨hk,e⟩:=List.getElem?_eq_some_iff.1 hx
 rw[List.take_succ_eq_append_getElem hk,List.all_append,h,e]
 simp[hp]
theorem nJ (e:jc):∀u∈eu e,u.oneCell'=true:=by
 intro u hu
 simp only[eu,List.mem_cons,List.not_mem_nil,or_false]at hu
 rcases hu with rfl|rfl|rfl<;>rfl
theorem qC {w u:World} {r:Nat} {E:List jc} {d id:Int} {nm:Nm} {k m n c:Nat} {A:Option Addr} {ys:List Value} (hadd:mY E d nm=fun id=>E.take k++(d,nm,id)::E.drop k) (hl:E.length=n) (hk:k≤n) (hB:Below w.heap.size w u) (hmk:m=k) (hys:ys=(E.take k).flatMap eu)
  (hown:u.ownsRow w.heap.size 131 3 (.slice A (m+1+(n-k)) c) (m+1+(n-k)) ((ys++eu (d,nm,id))++(E.drop k).flatMap eu)) (hm:(m+1+(n-k))*3≤maxLen):
  wM w r (mY E d nm id) (.returned (.tuple #[])) (u.setCell ⟨r,2,none⟩ (.slice A (k+1+(n-k)) c)):=by
 subst hmk hys
 have hlen:(mY E d nm id).length=m+1+(n-m):=by rw[hadd];simp;omega
 have e5:m+1+(n-m)=(mY E d nm id).length:=by omega
 obtain⟨-,hcc,hnz,hrow2⟩:=av.sG hown hm
 rw[e5]at hcc hrow2
 refine⟨rfl,A,c,u,hB,by rw[hlen],hcc,hnz,?_⟩
 have e6:(mY E d nm id).flatMap eu=((E.take m).flatMap eu++eu (d,nm,id))++(E.drop m).flatMap eu:=by rw[hadd];simp
 rw[e6]
 exact hrow2
theorem iJ {w:World} {g:Nat} {vs:List Value} {t:TypeId} {z:Nat×Nat} (h:w.heap[g]? =some (.cells vs.toArray t z)) (hm:vs.length≤maxLen):av (fun x=>x=g) w (some ⟨g,0,none⟩) vs.length vs:=by
 refine⟨rfl,hm,fun _=>⟨g,0,rfl,rfl,(Array.getElem?_eq_some_iff.1 h).1,fun i hi=> ?_⟩⟩
 simp[World.cell?,h]
theorem dZ (w:World) (o o':Obj):((w.alloc o).alloc o').drew.heap[w.heap.size]? =some o∧((w.alloc o).alloc o').drew.heap[w.heap.size+1]? =some o':=by
 constructor
 ·have:=(MapKept.heap_alloc w o).1
  have h2:=Below.heap_alloc (w.alloc o) o' w.heap.size (by simp)
  exact h2.trans this
 ·have:=(MapKept.heap_alloc (w.alloc o) o').1
  have hs:(w.alloc o).heap.size=w.heap.size+1:=by simp
  rw[hs]at this
  exact this
section
variable {F:Nat→Prop} {r:Nat} {T:aF} {D:List (List UInt8)} {E:List jc}
set_option maxHeartbeats 4000000 in
theorem FL (d:Int) (nm:Nm) (id:Int) (w:World) (b n cE:Nat) (hc2:w.cell? ⟨r,2,none⟩=some (.slice (some ⟨b,0,none⟩) n cE)) (hrw:r<w.heap.size) (hfr:w.frozen? ⟨r,2,none⟩=false) (hn:E.length=n) (hcap:n≤cE) (P5:n≤1000000) (hrow:av F w (some ⟨b,0,none⟩) (n*3) (E.flatMap eu)):
  Calls Tryz.prog 65 #[ptr r, .int .i64 d, .string (strOf nm), .int .i64 id] w (wM w r (mY E d nm id)):=by
 obtain⟨i,hi,hz,h3,h32⟩:=info_parts Ah
 have HI:=Lib.hid (And.intro hi (And.intro hz (And.intro h3 h32)))
 have HN:=Lib.hid hrow
 have HL:=Lib.hid hn
 have jR:Hid (∀w1,Below w.heap.size w w1→w1.cell? ⟨r,2,none⟩=some (.slice (some ⟨b,0,none⟩) n cE)∧w1.frozen? ⟨r,2,none⟩=false):=fun w1 hb=>⟨by rw[hb.cell (p:=⟨r,2,none⟩) hrw];exact hc2,by rw[hb.frozen (p:=⟨r,2,none⟩) hrw];exact hfr⟩
 clear hrow hn hi hz h3 h32
 go_enter Tryz.func65,Tryz.ntmps65
 go_upto_block 0 with(fail)
 go_cut [8]from 9 to 53 (fun i wx=>Dl E d nm w i wx)
 case first=>
  go_wp2_with fail
  go_loop [8] (fun i=>∃k:Nat,k≤n∧i= .int .i64 k∧(E.take k).all (jF d nm)=true) (fun i=>n-(intOf i).toNat)
  case atStart=>exact⟨0,by omega,rfl,by simp⟩
  case round=>
   obtain⟨k,hk,rfl,hall⟩:=hrel
   have HA:=Lib.hid hall
   clear hall
   by_cases hlt:k<n
   ·have hx:E[k]? =some (E[k]'(by have:=HL.out;omega)):=List.getElem?_eq_getElem _
    obtain⟨q,hq⟩:∃q,q=E[k]'(by have:=HL.out;omega):=⟨_,rfl⟩
    rw[←hq]at hx
    have HX:=Lib.hid hx
    obtain⟨b',off',e,hF,hb,hi,hc⟩:=HN.out.wide iD HL.out hx (by omega)
    simp only[Option.some.injEq,Addr.mk.injEq,and_true]at e
    obtain⟨rfl,rfl⟩:=e
    have c0:w.cell? ⟨b,k*3,none⟩=some (.int .i64 q.1):=by have:=hc 0 (by omega);rwa [Nat.zero_add]at this
    have c1:w.cell? ⟨b,k*3+1,none⟩=some (.string (strOf q.2.1)):=by have:=hc 1 (by omega);rwa [Nat.zero_add]at this
    clear hx hq hc
    have i0:(0:Int)≤k:=by omega
    have i1:(k:Int)<n:=by omega
    have hls:Op.bytesLess (strOf q.2.1).toList (strOf nm).toList=bytesBefore q.2.1 nm:=by rw[dA,dA,EC]
    have HR:Hid (jF d nm q=true→(E.take (k+1)).all (jF d nm)=true):=fun h=>mZ HA.out HX.out h
    have HO:Hid (jF d nm q=false→Dl E d nm w (.int .i64 k) w):=fun h=>Dl.of (by have:=HL.out;omega) HA.out fun x hx=>by have:=HX.out;rw[this]at hx;cases hx;exact h
    by_cases hp:q.1<d
    ·have e1:decide (q.1<d)=true:=by simpa using hp
     replace HR:=Lib.hid (HR.out (by simp[jF,hp]))
     clear hp HO
     go_wp2
     go_round
     case rel=>exact⟨k+1,by omega,by go_num,HR.out⟩
     case measure=>simp[intOf];omega
    ·have e1:decide (q.1<d)=false:=by simpa using hp
     by_cases hp2:q.1=d
     ·have e2:(q.1==d)=true:=by simpa using hp2
      cases hp3:bytesBefore q.2.1 nm with
      |true=>
       rw[hp3]at hls
       replace HR:=Lib.hid (HR.out (by simp[jF,hp2,hp3]))
       clear hp hp2 hp3 HO
       go_wp2
       go_round
       case rel=>exact⟨k+1,by omega,by go_num,HR.out⟩
       case measure=>simp[intOf];omega
      |false=>
       rw[hp3]at hls
       replace HO:=Lib.hid (HO.out (by simp[jF,hp2,hp3]))
       clear hp hp2 hp3 HR
       go_wp2
       go_meet
       exact HO.out
     ·have e2:(q.1==d)=false:=by simpa using hp2
      replace HO:=Lib.hid (HO.out (by simp[jF,hp,hp2]))
      clear hp hp2 HR hls
      go_wp2
      go_meet
      exact HO.out
   ·have HO:Hid (Dl E d nm w (.int .i64 k) w):=Dl.of (by have:=HL.out;omega) HA.out fun x hx=>by
     have:=HL.out
     rw[List.getElem?_eq_none (by omega)]at hx
     cases hx
    go_wp2
    go_meet
    exact HO.out
 case rest=>
  obtain⟨k,hk,rfl,hadd,rfl⟩:=hcut
  have hkn:k≤n:=by have:=HL.out;omega
  have qM:Hid (∀w1,Below w.heap.size w w1→av F w1 (some ⟨b,0,none⟩) (k*3) ((E.take k).flatMap eu)∧av F w1 (if cE=k then some ⟨b,0,none⟩else some ⟨b,k*3,none⟩) ((n-k)*3) ((E.drop k).flatMap eu)):=fun w1 hb=>by
   have h1:=HN.out.below hb (Nat.le_refl _)
   have h2:=h1.take (k*3)
   rw[j4 eu 3 iD,Nat.min_eq_right (by omega)]at h2
   have h4:=h1.drop (k*3)
   rw[j5 eu 3 iD,←Nat.sub_mul,Nat.zero_add]at h4
   refine⟨h2,?_⟩
   by_cases hce:cE=k
   ·rw[if_pos hce]
    exact av.zero _ _ _ (by rw[show n-k=0 by omega,Nat.zero_mul]) (by rw[List.drop_of_length_le (by have:=HL.out;omega)];rfl)
   ·rw[if_neg hce];exact h4
  have i0:(0:Int)≤k:=by omega
  have i1:(k:Int)≤cE:=by omega
  have i2:(k:Int)≤n:=by omega
  have i4:(n:Int)≤cE:=by omega
  have Nl:=Lib.hid hadd
  clear hadd hk
  go_wp2
  refine wp_region_noPanic ?_
  refine dQ (last:=24) (S:=(fun w'=>w'.cell? ⟨r,2,none⟩=some (.slice (some ⟨b,0,none⟩) n cE)∧w'.frozen? ⟨r,2,none⟩=false)) (by kernel_rfl) ?_ (fun hS=> ?_)
  ·exact jR.out _ (Below.refl _ _).drew
  refine bf 0 (hS:=hS) (h:= ?_)
  refine bf 2 (hS:=hS) (h:= ?_)
  refine bf 3 (hS:=hS) (h:= ?_)
  refine bf 4 (hS:=hS) (h:= ?_)
  refine bf 5 (hS:=hS) (h:= ?_)
  refine bf 6 (hS:=hS) (h:= ?_)
  refine bf 7 (hS:=hS) (h:= ?_)
  refine bf 9 (hS:=hS) (h:= ?_)
  refine bf 10 (hS:=hS) (h:= ?_)
  refine bf 11 (hS:=hS) (h:= ?_)
  refine bf 12 (hS:=hS) (h:= ?_)
  refine bf 15 (hS:=hS) (h:= ?_)
  refine bf 16 (hS:=hS) (h:= ?_)
  refine bf 17 (hS:=hS) (h:= ?_)
  refine bf 18 (hS:=hS) (h:= ?_)
  refine bf 19 (hS:=hS) (h:= ?_)
  refine bf 20 (hS:=hS) (h:= ?_)
  refine au (rs:=[1,13]) (by kernel_rfl) (by simp) ?_
  refine ah.cons (o:= ?o1) ?ho1 (fun K hK=> ?wa) (ah.cons (o:= ?o2) ?ho2 (fun K hK=> ?wb) ah.nil)
  case ho1=>simp only[List.getElem?_toArray,List.getElem?_cons_succ,List.getElem?_cons_zero];rfl
  case ho2=>simp only[List.getElem?_toArray,List.getElem?_cons_succ,List.getElem?_cons_zero];rfl
  case wa=>
   go_simp
   refine hK.out _ _ (fun _=>jR.out _ ((Below.refl _ _).drew.alloc (Nat.le_refl _) _)) (fun hS=> ?_)
   replace hS:=hS (by decide)
   clear hK K
   try simp only[Act.put,List.setIfInBounds_toArray,List.set_cons_zero,List.set_cons_succ]
   refine au (rs:=[8,13]) (by kernel_rfl) (by simp) ?_
   refine ah.cons (o:= ?o3) ?ho3 (fun K hK=> ?Iy) (ah.cons (o:= ?o4) ?P6 (fun K hK=> ?Iz) ah.nil)
   case ho3=>simp only[List.getElem?_toArray,List.getElem?_cons_succ,List.getElem?_cons_zero];rfl
   case P6=>simp only[List.getElem?_toArray,List.getElem?_cons_succ,List.getElem?_cons_zero];rfl
   case Iy=>
    refine ak (by rfl) (.tmp 55) (.tmp 61) 100 (by rfl) w.heap.size 131 i _ 3 32 Tryz.underlying100 HI.out.1 HI.out.2.1 HI.out.2.2.1 HI.out.2.2.2 rfl (by omega) _ 0 [] (by rfl) (dH (MapKept.heap_alloc w.drew _).1 (Nat.le_refl _)) _ k _ ((E.take k).flatMap eu) (by rfl) (qM.out _ ((Below.refl _ _).drew.alloc (Nat.le_refl _) _)).1 (kK _) (by unfold maxLen;omega) (by omega) (by simp<;>omega) ?_
    intro A1 c1 u1 hown0 hb1
    have hB0:Below w.heap.size w u1:=((Below.refl _ _).drew.alloc (Nat.le_refl _) _).trans hb1
    refine hK.out _ _ (fun _=>jR.out _ hB0) (fun hS=> ?_)
    replace hS:=hS (by decide)
    clear hK K
    try simp only[Act.put,List.setIfInBounds_toArray,List.set_cons_zero,List.set_cons_succ]
    refine mP 13 (h:=fun K hK=> ?_)
    go_simp
    refine hK.out _ _ (fun _=>jR.out _ (hB0.alloc hB0.size _)) (fun hS=> ?_)
    replace hS:=hS (by decide)
    clear hK K
    try simp only[Act.put,List.setIfInBounds_toArray,List.set_cons_zero,List.set_cons_succ]
    rw[Nat.zero_add]at hown0
    have hown1:=own_below hown0 ((Below.refl _ _).alloc (Nat.le_refl _) (.cells (eu (d,nm,id)).toArray 131))
    have hrow:=nY (w:=u1) (eu (d,nm,id)) 131 (by simp[eu,maxLen])
    have hB1:Below w.heap.size w (u1.alloc (.cells (eu (d,nm,id)).toArray 131)):=hB0.alloc hB0.size _
    refine au (rs:=[14]) (by kernel_rfl) (by simp) ?_
    refine ah.cons (o:= ?o5) ?Sg (fun K hK=> ?_) ah.nil
    case Sg=>simp only[List.getElem?_toArray,List.getElem?_cons_succ,List.getElem?_cons_zero];rfl
    refine ak (by rfl) (.tmp 62) (.tmp 67) 100 (by rfl) w.heap.size 131 i _ 3 32 Tryz.underlying100 HI.out.1 HI.out.2.1 HI.out.2.2.1 HI.out.2.2.2 rfl (by omega) _ _ _ (by rfl) hown1 _ 1 _ (eu (d,nm,id)) (by rfl) hrow (nJ _) (by unfold maxLen;omega) (by omega) hB1.size ?_
    intro A2 c2 u2 hown2 hb2
    have hB2:Below w.heap.size w u2:=hB1.trans hb2
    refine hK.out _ _ (fun _=>jR.out _ hB2) (fun hS=> ?_)
    replace hS:=hS (by decide)
    clear hK K
    try simp only[Act.put,List.setIfInBounds_toArray,List.set_cons_zero,List.set_cons_succ]
    refine au (rs:=[21]) (by kernel_rfl) (by simp) ?_
    refine ah.cons (o:= ?o6) ?Si (fun K hK=> ?_) ah.nil
    case Si=>simp only[List.getElem?_toArray,List.getElem?_cons_succ,List.getElem?_cons_zero];rfl
    refine ak (by rfl) (.tmp 68) (.tmp 74) 100 (by rfl) w.heap.size 131 i _ 3 32 Tryz.underlying100 HI.out.1 HI.out.2.1 HI.out.2.2.1 HI.out.2.2.2 rfl (by omega) _ _ _ (by rfl) hown2 _ (n-k) _ ((E.drop k).flatMap eu) (by rfl) (qM.out _ hB2).2 (kK _) (by unfold maxLen;omega) (by omega) hB2.size ?_
    intro A3 c3 u3 hown3 hb3
    have hB3:Below w.heap.size w u3:=hB2.trans hb3
    refine hK.out _ _ (fun _=>jR.out _ hB3) (fun hS=> ?_)
    replace hS:=hS (by decide)
    clear hK K
    try simp only[Act.put,List.setIfInBounds_toArray,List.set_cons_zero,List.set_cons_succ]
    refine bf 22 (hS:=hS) (h:= ?_)
    refine bf 23 (hS:=hS) (h:= ?_)
    refine mP 24 (h:=fun K hK=> ?_)
    go_simp
    refine hK.out _ _ (fun h=>absurd rfl h) (fun hS=> ?_)
    clear hS hK K
    try simp only[Act.put,List.setIfInBounds_toArray,List.set_cons_zero,List.set_cons_succ]
    refine bA (by kernel_rfl) ?_ _
    refine NoPanic.normal ?_
    go_wp2
    all_goals (
     go_end0
     exact qC Nl.out HL.out hkn hB3 (by omega) (by simp) hown3 (by unfold maxLen;omega))
   case Iz=>
    go_simp
    refine hK.out _ _ (fun _=>jR.out _ (((Below.refl _ _).drew.alloc (Nat.le_refl _) _).alloc (by simp<;>omega) _)) (fun hS=> ?_)
    replace hS:=hS (by decide)
    clear hK K
    try simp only[Act.put,List.setIfInBounds_toArray,List.set_cons_zero,List.set_cons_succ]
    refine au (rs:=[8]) (by kernel_rfl) (by simp) ?_
    refine ah.cons (o:= ?o7) ?Sj (fun K hK=> ?_) ah.nil
    case Sj=>simp only[List.getElem?_toArray,List.getElem?_cons_succ,List.getElem?_cons_zero];rfl
    refine bV (by rfl) (.tmp 55) (.tmp 61) 100 (by rfl) w.heap.size 131 i _ 3 32 Tryz.underlying100 HI.out.1 HI.out.2.1 HI.out.2.2.1 HI.out.2.2.2 rfl (by omega) _ 0 [] (by rfl) (dH (dZ w _ _).1 (Nat.le_refl _)) _ k _ ((E.take k).flatMap eu) (by rfl) (qM.out _ (((Below.refl _ _).drew.alloc (Nat.le_refl _) _).alloc (by simp<;>omega) _)).1 (kK _) (by unfold maxLen;omega) (by omega) (by simp<;>omega) ?_
    intro A1 c1 u1 hown1 hb1 hg1
    have hB1:Below w.heap.size w u1:=(((Below.refl _ _).drew.alloc (Nat.le_refl _) _).alloc (by simp<;>omega) _).trans hb1
    have hrow:=(iJ (vs:=eu (d,nm,id)) (dZ w (.cells #[] 131) (.cells (eu (d,nm,id)).toArray 131)).2 (by simp[eu,maxLen])).grown hg1 (fun b hb hbw=>by subst hb;simp[Value.ownBlock])
    refine hK.out _ _ (fun _=>jR.out _ hB1) (fun hS=> ?_)
    replace hS:=hS (by decide)
    clear hK K
    try simp only[Act.put,List.setIfInBounds_toArray,List.set_cons_zero,List.set_cons_succ]
    refine au (rs:=[14]) (by kernel_rfl) (by simp) ?_
    refine ah.cons (o:= ?o8) ?Pb (fun K hK=> ?_) ah.nil
    case Pb=>simp only[List.getElem?_toArray,List.getElem?_cons_succ,List.getElem?_cons_zero];rfl
    refine ak (by rfl) (.tmp 62) (.tmp 67) 100 (by rfl) w.heap.size 131 i _ 3 32 Tryz.underlying100 HI.out.1 HI.out.2.1 HI.out.2.2.1 HI.out.2.2.2 rfl (by omega) _ _ _ (by rfl) hown1 _ 1 _ (eu (d,nm,id)) (by rfl) hrow (nJ _) (by unfold maxLen;omega) (by omega) hB1.size ?_
    intro A2 c2 u2 hown2 hb2
    have hB2:Below w.heap.size w u2:=hB1.trans hb2
    refine hK.out _ _ (fun _=>jR.out _ hB2) (fun hS=> ?_)
    replace hS:=hS (by decide)
    clear hK K
    try simp only[Act.put,List.setIfInBounds_toArray,List.set_cons_zero,List.set_cons_succ]
    refine au (rs:=[21]) (by kernel_rfl) (by simp) ?_
    refine ah.cons (o:= ?o9) ?Sk (fun K hK=> ?_) ah.nil
    case Sk=>simp only[List.getElem?_toArray,List.getElem?_cons_succ,List.getElem?_cons_zero];rfl
    refine ak (by rfl) (.tmp 68) (.tmp 74) 100 (by rfl) w.heap.size 131 i _ 3 32 Tryz.underlying100 HI.out.1 HI.out.2.1 HI.out.2.2.1 HI.out.2.2.2 rfl (by omega) _ _ _ (by rfl) hown2 _ (n-k) _ ((E.drop k).flatMap eu) (by rfl) (qM.out _ hB2).2 (kK _) (by unfold maxLen;omega) (by omega) hB2.size ?_
    intro A3 c3 u3 hown3 hb3
    have hB3:Below w.heap.size w u3:=hB2.trans hb3
    refine hK.out _ _ (fun _=>jR.out _ hB3) (fun hS=> ?_)
    replace hS:=hS (by decide)
    clear hK K
    try simp only[Act.put,List.setIfInBounds_toArray,List.set_cons_zero,List.set_cons_succ]
    refine bf 22 (hS:=hS) (h:= ?_)
    refine bf 23 (hS:=hS) (h:= ?_)
    refine mP 24 (h:=fun K hK=> ?_)
    go_simp
    refine hK.out _ _ (fun h=>absurd rfl h) (fun hS=> ?_)
    clear hS hK K
    try simp only[Act.put,List.setIfInBounds_toArray,List.set_cons_zero,List.set_cons_succ]
    refine bA (by kernel_rfl) ?_ _
    refine NoPanic.normal ?_
    go_wp2
    all_goals (
     go_end0
     exact qC Nl.out HL.out hkn hB3 (by omega) (by simp) hown3 (by unfold maxLen;omega))
  case wb=>
   go_simp
   refine hK.out _ _ (fun _=>jR.out _ ((Below.refl _ _).drew.alloc (Nat.le_refl _) _)) (fun hS=> ?_)
   replace hS:=hS (by decide)
   clear hK K
   try simp only[Act.put,List.setIfInBounds_toArray,List.set_cons_zero,List.set_cons_succ]
   refine mP 1 (h:=fun K hK=> ?_)
   go_simp
   refine hK.out _ _ (fun _=>jR.out _ (((Below.refl _ _).drew.alloc (Nat.le_refl _) _).alloc (by simp<;>omega) _)) (fun hS=> ?_)
   replace hS:=hS (by decide)
   clear hK K
   try simp only[Act.put,List.setIfInBounds_toArray,List.set_cons_zero,List.set_cons_succ]
   refine au (rs:=[8]) (by kernel_rfl) (by simp) ?_
   refine ah.cons (o:= ?WV) ?Nn (fun K hK=> ?_) ah.nil
   case Nn=>simp only[List.getElem?_toArray,List.getElem?_cons_succ,List.getElem?_cons_zero];rfl
   refine bV (by rfl) (.tmp 55) (.tmp 61) 100 (by rfl) w.heap.size 131 i _ 3 32 Tryz.underlying100 HI.out.1 HI.out.2.1 HI.out.2.2.1 HI.out.2.2.2 rfl (by omega) _ 0 [] (by rfl) (dH (dZ w _ _).2 (by omega)) _ k _ ((E.take k).flatMap eu) (by rfl) (qM.out _ (((Below.refl _ _).drew.alloc (Nat.le_refl _) _).alloc (by simp<;>omega) _)).1 (kK _) (by unfold maxLen;omega) (by omega) (by simp<;>omega) ?_
   intro A1 c1 u1 hown1 hb1 hg1
   have hB1:Below w.heap.size w u1:=(((Below.refl _ _).drew.alloc (Nat.le_refl _) _).alloc (by simp<;>omega) _).trans hb1
   have hrow:=(iJ (vs:=eu (d,nm,id)) (dZ w (.cells (eu (d,nm,id)).toArray 131) (.cells #[] 131)).1 (by simp[eu,maxLen])).grown hg1 (fun b hb hbw=>by subst hb;simp[Value.ownBlock])
   refine hK.out _ _ (fun _=>jR.out _ hB1) (fun hS=> ?_)
   replace hS:=hS (by decide)
   clear hK K
   try simp only[Act.put,List.setIfInBounds_toArray,List.set_cons_zero,List.set_cons_succ]
   refine au (rs:=[14]) (by kernel_rfl) (by simp) ?_
   refine ah.cons (o:= ?WW) ?Np (fun K hK=> ?_) ah.nil
   case Np=>simp only[List.getElem?_toArray,List.getElem?_cons_succ,List.getElem?_cons_zero];rfl
   refine ak (by rfl) (.tmp 62) (.tmp 67) 100 (by rfl) w.heap.size 131 i _ 3 32 Tryz.underlying100 HI.out.1 HI.out.2.1 HI.out.2.2.1 HI.out.2.2.2 rfl (by omega) _ _ _ (by rfl) hown1 _ 1 _ (eu (d,nm,id)) (by rfl) hrow (nJ _) (by unfold maxLen;omega) (by omega) hB1.size ?_
   intro A2 c2 u2 hown2 hb2
   have hB2:Below w.heap.size w u2:=hB1.trans hb2
   refine hK.out _ _ (fun _=>jR.out _ hB2) (fun hS=> ?_)
   replace hS:=hS (by decide)
   clear hK K
   try simp only[Act.put,List.setIfInBounds_toArray,List.set_cons_zero,List.set_cons_succ]
   refine au (rs:=[21]) (by kernel_rfl) (by simp) ?_
   refine ah.cons (o:= ?WX) ?Nq (fun K hK=> ?_) ah.nil
   case Nq=>simp only[List.getElem?_toArray,List.getElem?_cons_succ,List.getElem?_cons_zero];rfl
   refine ak (by rfl) (.tmp 68) (.tmp 74) 100 (by rfl) w.heap.size 131 i _ 3 32 Tryz.underlying100 HI.out.1 HI.out.2.1 HI.out.2.2.1 HI.out.2.2.2 rfl (by omega) _ _ _ (by rfl) hown2 _ (n-k) _ ((E.drop k).flatMap eu) (by rfl) (qM.out _ hB2).2 (kK _) (by unfold maxLen;omega) (by omega) hB2.size ?_
   intro A3 c3 u3 hown3 hb3
   have hB3:Below w.heap.size w u3:=hB2.trans hb3
   refine hK.out _ _ (fun _=>jR.out _ hB3) (fun hS=> ?_)
   replace hS:=hS (by decide)
   clear hK K
   try simp only[Act.put,List.setIfInBounds_toArray,List.set_cons_zero,List.set_cons_succ]
   refine bf 22 (hS:=hS) (h:= ?_)
   refine bf 23 (hS:=hS) (h:= ?_)
   refine mP 24 (h:=fun K hK=> ?_)
   go_simp
   refine hK.out _ _ (fun h=>absurd rfl h) (fun hS=> ?_)
   clear hS hK K
   try simp only[Act.put,List.setIfInBounds_toArray,List.set_cons_zero,List.set_cons_succ]
   refine bA (by kernel_rfl) ?_ _
   refine NoPanic.normal ?_
   go_wp2
   all_goals (
    go_end0
    exact qC Nl.out HL.out hkn hB3 (by omega) (by simp) hown3 (by unfold maxLen;omega))
set_option maxHeartbeats 4000000 in
theorem IB (d:Int) (nm:Nm) (id:Int) (w:World) (hc2:w.cell? ⟨r,2,none⟩=some (.slice none 0 0)) (hrw:r<w.heap.size) (hfr:w.frozen? ⟨r,2,none⟩=false):
  Calls Tryz.prog 65 #[ptr r, .int .i64 d, .string (strOf nm), .int .i64 id] w (wM w r (mY [] d nm id)):=by
 obtain⟨i,hi,hz,h3,h32⟩:=info_parts Ah
 have HI:=Lib.hid (And.intro hi (And.intro hz (And.intro h3 h32)))
 have jR:Hid (∀w1,Below w.heap.size w w1→w1.cell? ⟨r,2,none⟩=some (.slice none 0 0)∧w1.frozen? ⟨r,2,none⟩=false):=fun w1 hb=>⟨by rw[hb.cell (p:=⟨r,2,none⟩) hrw];exact hc2,by rw[hb.frozen (p:=⟨r,2,none⟩) hrw];exact hfr⟩
 have qM:Hid (∀w1:World,av (fun _=>True) w1 none (0*3) []∧av (fun _=>True) w1 none (0*3) []):=fun w1=>⟨av.zero _ _ _ rfl rfl,av.zero _ _ _ rfl rfl⟩
 clear hi hz h3 h32
 go_enter Tryz.func65,Tryz.ntmps65
 go_upto_block 0 with(fail)
 go_cut [8]from 9 to 53 (fun i wx=>i= .int .i64 0∧w=wx)
 case first=>
  go_wp2_with fail
  go_loop [8] (fun i=>i= .int .i64 0) (fun _=>0)
  case atStart=>rfl
  case round=>
   subst hrel
   go_wp2
   go_meet
   exact⟨rfl,rfl⟩
 case rest=>
  obtain⟨rfl,rfl⟩:=hcut
  go_wp2
  refine wp_region_noPanic ?_
  refine dQ (last:=24) (S:=(fun w'=>w'.cell? ⟨r,2,none⟩=some (.slice none 0 0)∧w'.frozen? ⟨r,2,none⟩=false)) (by kernel_rfl) ?_ (fun hS=> ?_)
  ·exact jR.out _ (Below.refl _ _).drew
  refine bf 0 (hS:=hS) (h:= ?_)
  refine bf 2 (hS:=hS) (h:= ?_)
  refine bf 3 (hS:=hS) (h:= ?_)
  refine bf 4 (hS:=hS) (h:= ?_)
  refine bf 5 (hS:=hS) (h:= ?_)
  refine bf 6 (hS:=hS) (h:= ?_)
  refine bf 7 (hS:=hS) (h:= ?_)
  refine bf 9 (hS:=hS) (h:= ?_)
  refine bf 10 (hS:=hS) (h:= ?_)
  refine bf 11 (hS:=hS) (h:= ?_)
  refine bf 12 (hS:=hS) (h:= ?_)
  refine bf 15 (hS:=hS) (h:= ?_)
  refine bf 16 (hS:=hS) (h:= ?_)
  refine bf 17 (hS:=hS) (h:= ?_)
  refine bf 18 (hS:=hS) (h:= ?_)
  refine bf 19 (hS:=hS) (h:= ?_)
  refine bf 20 (hS:=hS) (h:= ?_)
  refine au (rs:=[1,13]) (by kernel_rfl) (by simp) ?_
  refine ah.cons (o:= ?WY) ?Nr (fun K hK=> ?wa) (ah.cons (o:= ?WZ) ?Ns (fun K hK=> ?wb) ah.nil)
  case Nr=>simp only[List.getElem?_toArray,List.getElem?_cons_succ,List.getElem?_cons_zero];rfl
  case Ns=>simp only[List.getElem?_toArray,List.getElem?_cons_succ,List.getElem?_cons_zero];rfl
  case wa=>
   go_simp
   refine hK.out _ _ (fun _=>jR.out _ ((Below.refl _ _).drew.alloc (Nat.le_refl _) _)) (fun hS=> ?_)
   replace hS:=hS (by decide)
   clear hK K
   try simp only[Act.put,List.setIfInBounds_toArray,List.set_cons_zero,List.set_cons_succ]
   refine au (rs:=[8,13]) (by kernel_rfl) (by simp) ?_
   refine ah.cons (o:= ?W9) ?Nt (fun K hK=> ?Iy) (ah.cons (o:= ?o16) ?Nu (fun K hK=> ?Iz) ah.nil)
   case Nt=>simp only[List.getElem?_toArray,List.getElem?_cons_succ,List.getElem?_cons_zero];rfl
   case Nu=>simp only[List.getElem?_toArray,List.getElem?_cons_succ,List.getElem?_cons_zero];rfl
   case Iy=>
    refine ak (by rfl) (.tmp 55) (.tmp 61) 100 (by rfl) w.heap.size 131 i _ 3 32 Tryz.underlying100 HI.out.1 HI.out.2.1 HI.out.2.2.1 HI.out.2.2.2 rfl (by omega) _ 0 [] (by rfl) (dH (MapKept.heap_alloc w.drew _).1 (Nat.le_refl _)) _ 0 _ [] (by rfl) (qM.out _).1 (fun u hu=>by cases hu) (by unfold maxLen;omega) (by omega) (by simp<;>omega) ?_
    intro A1 c1 u1 hown0 hb1
    have hB0:Below w.heap.size w u1:=((Below.refl _ _).drew.alloc (Nat.le_refl _) _).trans hb1
    refine hK.out _ _ (fun _=>jR.out _ hB0) (fun hS=> ?_)
    replace hS:=hS (by decide)
    clear hK K
    try simp only[Act.put,List.setIfInBounds_toArray,List.set_cons_zero,List.set_cons_succ]
    refine mP 13 (h:=fun K hK=> ?_)
    go_simp
    refine hK.out _ _ (fun _=>jR.out _ (hB0.alloc hB0.size _)) (fun hS=> ?_)
    replace hS:=hS (by decide)
    clear hK K
    try simp only[Act.put,List.setIfInBounds_toArray,List.set_cons_zero,List.set_cons_succ]
    have hown1:=own_below hown0 ((Below.refl _ _).alloc (Nat.le_refl _) (.cells (eu (d,nm,id)).toArray 131))
    have hrow:=nY (w:=u1) (eu (d,nm,id)) 131 (by simp[eu,maxLen])
    have hB1:Below w.heap.size w (u1.alloc (.cells (eu (d,nm,id)).toArray 131)):=hB0.alloc hB0.size _
    refine au (rs:=[14]) (by kernel_rfl) (by simp) ?_
    refine ah.cons (o:= ?W_) ?Nv (fun K hK=> ?_) ah.nil
    case Nv=>simp only[List.getElem?_toArray,List.getElem?_cons_succ,List.getElem?_cons_zero];rfl
    refine ak (by rfl) (.tmp 62) (.tmp 67) 100 (by rfl) w.heap.size 131 i _ 3 32 Tryz.underlying100 HI.out.1 HI.out.2.1 HI.out.2.2.1 HI.out.2.2.2 rfl (by omega) _ _ _ (by rfl) hown1 _ 1 _ (eu (d,nm,id)) (by rfl) hrow (nJ _) (by unfold maxLen;omega) (by omega) hB1.size ?_
    intro A2 c2 u2 hown2 hb2
    have hB2:Below w.heap.size w u2:=hB1.trans hb2
    refine hK.out _ _ (fun _=>jR.out _ hB2) (fun hS=> ?_)
    replace hS:=hS (by decide)
    clear hK K
    try simp only[Act.put,List.setIfInBounds_toArray,List.set_cons_zero,List.set_cons_succ]
    refine au (rs:=[21]) (by kernel_rfl) (by simp) ?_
    refine ah.cons (o:= ?Xa) ?Nw (fun K hK=> ?_) ah.nil
    case Nw=>simp only[List.getElem?_toArray,List.getElem?_cons_succ,List.getElem?_cons_zero];rfl
    refine ak (by rfl) (.tmp 68) (.tmp 74) 100 (by rfl) w.heap.size 131 i _ 3 32 Tryz.underlying100 HI.out.1 HI.out.2.1 HI.out.2.2.1 HI.out.2.2.2 rfl (by omega) _ _ _ (by rfl) hown2 _ 0 _ [] (by rfl) (qM.out _).2 (fun u hu=>by cases hu) (by unfold maxLen;omega) (by omega) hB2.size ?_
    intro A3 c3 u3 hown3 hb3
    have hB3:Below w.heap.size w u3:=hB2.trans hb3
    refine hK.out _ _ (fun _=>jR.out _ hB3) (fun hS=> ?_)
    replace hS:=hS (by decide)
    clear hK K
    try simp only[Act.put,List.setIfInBounds_toArray,List.set_cons_zero,List.set_cons_succ]
    refine bf 22 (hS:=hS) (h:= ?_)
    refine bf 23 (hS:=hS) (h:= ?_)
    refine mP 24 (h:=fun K hK=> ?_)
    go_simp
    refine hK.out _ _ (fun h=>absurd rfl h) (fun hS=> ?_)
    clear hS hK K
    try simp only[Act.put,List.setIfInBounds_toArray,List.set_cons_zero,List.set_cons_succ]
    refine bA (by kernel_rfl) ?_ _
    refine NoPanic.normal ?_
    go_wp2
    all_goals (
     go_end0
     exact qC (E:=[]) (k:=0) (m:=0) (n:=0) rfl rfl (Nat.le_refl _) hB3 rfl rfl hown3 (by unfold maxLen;omega))
   case Iz=>
    go_simp
    refine hK.out _ _ (fun _=>jR.out _ (((Below.refl _ _).drew.alloc (Nat.le_refl _) _).alloc (by simp<;>omega) _)) (fun hS=> ?_)
    replace hS:=hS (by decide)
    clear hK K
    try simp only[Act.put,List.setIfInBounds_toArray,List.set_cons_zero,List.set_cons_succ]
    refine au (rs:=[8]) (by kernel_rfl) (by simp) ?_
    refine ah.cons (o:= ?Xb) ?Ny (fun K hK=> ?_) ah.nil
    case Ny=>simp only[List.getElem?_toArray,List.getElem?_cons_succ,List.getElem?_cons_zero];rfl
    refine bV (by rfl) (.tmp 55) (.tmp 61) 100 (by rfl) w.heap.size 131 i _ 3 32 Tryz.underlying100 HI.out.1 HI.out.2.1 HI.out.2.2.1 HI.out.2.2.2 rfl (by omega) _ 0 [] (by rfl) (dH (dZ w _ _).1 (Nat.le_refl _)) _ 0 _ [] (by rfl) (qM.out _).1 (fun u hu=>by cases hu) (by unfold maxLen;omega) (by omega) (by simp<;>omega) ?_
    intro A1 c1 u1 hown1 hb1 hg1
    have hB1:Below w.heap.size w u1:=(((Below.refl _ _).drew.alloc (Nat.le_refl _) _).alloc (by simp<;>omega) _).trans hb1
    have hrow:=(iJ (vs:=eu (d,nm,id)) (dZ w (.cells #[] 131) (.cells (eu (d,nm,id)).toArray 131)).2 (by simp[eu,maxLen])).grown hg1 (fun b hb hbw=>by subst hb;simp[Value.ownBlock])
    refine hK.out _ _ (fun _=>jR.out _ hB1) (fun hS=> ?_)
    replace hS:=hS (by decide)
    clear hK K
    try simp only[Act.put,List.setIfInBounds_toArray,List.set_cons_zero,List.set_cons_succ]
    refine au (rs:=[14]) (by kernel_rfl) (by simp) ?_
    refine ah.cons (o:= ?Xc) ?Nz (fun K hK=> ?_) ah.nil
    case Nz=>simp only[List.getElem?_toArray,List.getElem?_cons_succ,List.getElem?_cons_zero];rfl
    refine ak (by rfl) (.tmp 62) (.tmp 67) 100 (by rfl) w.heap.size 131 i _ 3 32 Tryz.underlying100 HI.out.1 HI.out.2.1 HI.out.2.2.1 HI.out.2.2.2 rfl (by omega) _ _ _ (by rfl) hown1 _ 1 _ (eu (d,nm,id)) (by rfl) hrow (nJ _) (by unfold maxLen;omega) (by omega) hB1.size ?_
    intro A2 c2 u2 hown2 hb2
    have hB2:Below w.heap.size w u2:=hB1.trans hb2
    refine hK.out _ _ (fun _=>jR.out _ hB2) (fun hS=> ?_)
    replace hS:=hS (by decide)
    clear hK K
    try simp only[Act.put,List.setIfInBounds_toArray,List.set_cons_zero,List.set_cons_succ]
    refine au (rs:=[21]) (by kernel_rfl) (by simp) ?_
    refine ah.cons (o:= ?Xd) ?NA (fun K hK=> ?_) ah.nil
    case NA=>simp only[List.getElem?_toArray,List.getElem?_cons_succ,List.getElem?_cons_zero];rfl
    refine ak (by rfl) (.tmp 68) (.tmp 74) 100 (by rfl) w.heap.size 131 i _ 3 32 Tryz.underlying100 HI.out.1 HI.out.2.1 HI.out.2.2.1 HI.out.2.2.2 rfl (by omega) _ _ _ (by rfl) hown2 _ 0 _ [] (by rfl) (qM.out _).2 (fun u hu=>by cases hu) (by unfold maxLen;omega) (by omega) hB2.size ?_
    intro A3 c3 u3 hown3 hb3
    have hB3:Below w.heap.size w u3:=hB2.trans hb3
    refine hK.out _ _ (fun _=>jR.out _ hB3) (fun hS=> ?_)
    replace hS:=hS (by decide)
    clear hK K
    try simp only[Act.put,List.setIfInBounds_toArray,List.set_cons_zero,List.set_cons_succ]
    refine bf 22 (hS:=hS) (h:= ?_)
    refine bf 23 (hS:=hS) (h:= ?_)
    refine mP 24 (h:=fun K hK=> ?_)
    go_simp
    refine hK.out _ _ (fun h=>absurd rfl h) (fun hS=> ?_)
    clear hS hK K
    try simp only[Act.put,List.setIfInBounds_toArray,List.set_cons_zero,List.set_cons_succ]
    refine bA (by kernel_rfl) ?_ _
    refine NoPanic.normal ?_
    go_wp2
    all_goals (
     go_end0
     exact qC (E:=[]) (k:=0) (m:=0) (n:=0) rfl rfl (Nat.le_refl _) hB3 rfl rfl hown3 (by unfold maxLen;omega))
  case wb=>
   go_simp
   refine hK.out _ _ (fun _=>jR.out _ ((Below.refl _ _).drew.alloc (Nat.le_refl _) _)) (fun hS=> ?_)
   replace hS:=hS (by decide)
   clear hK K
   try simp only[Act.put,List.setIfInBounds_toArray,List.set_cons_zero,List.set_cons_succ]
   refine mP 1 (h:=fun K hK=> ?_)
   go_simp
   refine hK.out _ _ (fun _=>jR.out _ (((Below.refl _ _).drew.alloc (Nat.le_refl _) _).alloc (by simp<;>omega) _)) (fun hS=> ?_)
   replace hS:=hS (by decide)
   clear hK K
   try simp only[Act.put,List.setIfInBounds_toArray,List.set_cons_zero,List.set_cons_succ]
   refine au (rs:=[8]) (by kernel_rfl) (by simp) ?_
   refine ah.cons (o:= ?Xe) ?NC (fun K hK=> ?_) ah.nil
   case NC=>simp only[List.getElem?_toArray,List.getElem?_cons_succ,List.getElem?_cons_zero];rfl
   refine bV (by rfl) (.tmp 55) (.tmp 61) 100 (by rfl) w.heap.size 131 i _ 3 32 Tryz.underlying100 HI.out.1 HI.out.2.1 HI.out.2.2.1 HI.out.2.2.2 rfl (by omega) _ 0 [] (by rfl) (dH (dZ w _ _).2 (by omega)) _ 0 _ [] (by rfl) (qM.out _).1 (fun u hu=>by cases hu) (by unfold maxLen;omega) (by omega) (by simp<;>omega) ?_
   intro A1 c1 u1 hown1 hb1 hg1
   have hB1:Below w.heap.size w u1:=(((Below.refl _ _).drew.alloc (Nat.le_refl _) _).alloc (by simp<;>omega) _).trans hb1
   have hrow:=(iJ (vs:=eu (d,nm,id)) (dZ w (.cells (eu (d,nm,id)).toArray 131) (.cells #[] 131)).1 (by simp[eu,maxLen])).grown hg1 (fun b hb hbw=>by subst hb;simp[Value.ownBlock])
   refine hK.out _ _ (fun _=>jR.out _ hB1) (fun hS=> ?_)
   replace hS:=hS (by decide)
   clear hK K
   try simp only[Act.put,List.setIfInBounds_toArray,List.set_cons_zero,List.set_cons_succ]
   refine au (rs:=[14]) (by kernel_rfl) (by simp) ?_
   refine ah.cons (o:= ?Xf) ?ND (fun K hK=> ?_) ah.nil
   case ND=>simp only[List.getElem?_toArray,List.getElem?_cons_succ,List.getElem?_cons_zero];rfl
   refine ak (by rfl) (.tmp 62) (.tmp 67) 100 (by rfl) w.heap.size 131 i _ 3 32 Tryz.underlying100 HI.out.1 HI.out.2.1 HI.out.2.2.1 HI.out.2.2.2 rfl (by omega) _ _ _ (by rfl) hown1 _ 1 _ (eu (d,nm,id)) (by rfl) hrow (nJ _) (by unfold maxLen;omega) (by omega) hB1.size ?_
   intro A2 c2 u2 hown2 hb2
   have hB2:Below w.heap.size w u2:=hB1.trans hb2
   refine hK.out _ _ (fun _=>jR.out _ hB2) (fun hS=> ?_)
   replace hS:=hS (by decide)
   clear hK K
   try simp only[Act.put,List.setIfInBounds_toArray,List.set_cons_zero,List.set_cons_succ]
   refine au (rs:=[21]) (by kernel_rfl) (by simp) ?_
   refine ah.cons (o:= ?Xg) ?NG (fun K hK=> ?_) ah.nil
   case NG=>simp only[List.getElem?_toArray,List.getElem?_cons_succ,List.getElem?_cons_zero];rfl
   refine ak (by rfl) (.tmp 68) (.tmp 74) 100 (by rfl) w.heap.size 131 i _ 3 32 Tryz.underlying100 HI.out.1 HI.out.2.1 HI.out.2.2.1 HI.out.2.2.2 rfl (by omega) _ _ _ (by rfl) hown2 _ 0 _ [] (by rfl) (qM.out _).2 (fun u hu=>by cases hu) (by unfold maxLen;omega) (by omega) hB2.size ?_
   intro A3 c3 u3 hown3 hb3
   have hB3:Below w.heap.size w u3:=hB2.trans hb3
   refine hK.out _ _ (fun _=>jR.out _ hB3) (fun hS=> ?_)
   replace hS:=hS (by decide)
   clear hK K
   try simp only[Act.put,List.setIfInBounds_toArray,List.set_cons_zero,List.set_cons_succ]
   refine bf 22 (hS:=hS) (h:= ?_)
   refine bf 23 (hS:=hS) (h:= ?_)
   refine mP 24 (h:=fun K hK=> ?_)
   go_simp
   refine hK.out _ _ (fun h=>absurd rfl h) (fun hS=> ?_)
   clear hS hK K
   try simp only[Act.put,List.setIfInBounds_toArray,List.set_cons_zero,List.set_cons_succ]
   refine bA (by kernel_rfl) ?_ _
   refine NoPanic.normal ?_
   go_wp2
   all_goals (
    go_end0
    exact qC (E:=[]) (k:=0) (m:=0) (n:=0) rfl rfl (Nat.le_refl _) hB3 rfl rfl hown3 (by unfold maxLen;omega))
theorem Kt (d:Int) (nm:Nm) (id:Int) (w:World) (h:fO F w r T D E) (P5:E.length≤1000000):
  Calls Tryz.prog 65 #[ptr r, .int .i64 d, .string (strOf nm), .int .i64 id] w (dh F w r T D (mY E d nm id) (.tuple #[])):=by
 obtain⟨aN,cN,aD,cD,aE,cE,h1,h2,h3,h4,h8,h9,h10,h11⟩:=h.head
 have hc:w.cell? ⟨r,2,none⟩=some (.slice aE E.length cE):=by simp[World.cell?,h1]
 rcases h11 with⟨rfl,rfl⟩|⟨b,rfl⟩
 ·have hE:E=[]:=List.eq_nil_of_length_eq_zero (by omega)
  rw[hE]at hc⊢
  exact(IB d nm id w hc (h.low r h.own) (av.frozen h1 rfl)).mono fun e w' hs=>wN h hs
 ·exact(FL d nm id w b E.length cE hc (h.low r h.own) (av.frozen h1 rfl) rfl h4 P5 h10).mono fun e w' hs=>wN h hs
end
end Go.Proofs.YtohpcppeajijnaaGreat
