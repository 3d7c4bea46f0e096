/- The reference: add. -/
import Derived.Test.YtohpcppeajijnaaGreatM24
import Derived.WalkLawsBesides
import Derived.Deep.CutBlock
import Derived.Deep.DeepCutAuto
namespace Go.Proofs.YtohpcppeajijnaaGreat
open Go.ChangeShapes Go.WideShapes Go.ChangeAt Go.RowKit
set_option linter.unusedVariables false
set_option linter.unusedSimpArgs false
def Bf (E:List iF) (d:Int) (nm:Nm) (w:World) (v:Value) (wx:World):Prop:=
 ∃k:Nat,k≤E.length∧v= .int .i64 k∧lW E d nm=(fun id=>E.take k++(d,nm,id)::E.drop k)∧w=wx
theorem Bf.of {E:List iF} {d:Int} {nm:Nm} {w:World} {k:Nat} (hk:k≤E.length) (ha:(E.take k).all (jo d nm)=true) (hx:∀x,E[k]? =some x→jo d nm x=false):Bf E d nm w (.int .i64 k) w:=by
 refine⟨k,hk,rfl,?_,rfl⟩
 obtain⟨h1,h2⟩:=qc ha hx hk
 funext id
 unfold lW
 rw[h1,h2]
theorem lX {α:Type} {p:α→Bool} {l:List α} {k:Nat} {x:α} (h:(l.take k).all p=true) (hx:l[k]? =some x) (hp:p x=true):(l.take (k+1)).all p=true:=by
 obtain⟨hk,e⟩:=List.getElem?_eq_some_iff.1 hx
 rw[List.take_succ_eq_append_getElem hk,List.all_append,h,e]
 simp[hp]
theorem mO (e:iF):∀u∈dV e,u.oneCell'=true:=by
 intro u hu
 simp only[dV,List.mem_cons,List.not_mem_nil,or_false]at hu
 rcases hu with rfl|rfl|rfl<;>rfl
theorem pz {w u:World} {r:Nat} {E:List iF} {d id:Int} {nm:Nm} {k m n c:Nat} {A:Option Addr} {ys:List Value} (hadd:lW E d nm=fun id=>E.take k++(d,nm,id)::E.drop k) (hl:E.length=n) (hk:k≤n) (hB:Below w.heap.size w u) (hmk:m=k) (hys:ys=(E.take k).flatMap dV)
  (hown:u.ownsRow w.heap.size 131 3 (.slice A (m+1+(n-k)) c) (m+1+(n-k)) ((ys++dV (d,nm,id))++(E.drop k).flatMap dV)) (hm:(m+1+(n-k))*3≤maxLen):
  vG w r (lW E d nm id) (.returned (.tuple #[])) (u.setCell ⟨r,2,none⟩ (.slice A (k+1+(n-k)) c)):=by
 subst hmk hys
 have hlen:(lW E d nm id).length=m+1+(n-m):=by rw[hadd];simp;omega
 have e5:m+1+(n-m)=(lW E d nm id).length:=by omega
 obtain⟨-,hcc,hnz,hrow2⟩:=ak.qM hown hm
 rw[e5]at hcc hrow2
 refine⟨rfl,A,c,u,hB,by rw[hlen],hcc,hnz,?_⟩
 have e6:(lW E d nm id).flatMap dV=((E.take m).flatMap dV++dV (d,nm,id))++(E.drop m).flatMap dV:=by rw[hadd];simp
 rw[e6]
 exact hrow2
theorem gV {w:World} {g:Nat} {vs:List Value} {t:TypeId} {z:Nat×Nat} (h:w.heap[g]? =some (.cells vs.toArray t z)) (hm:vs.length≤maxLen):ak (fun x=>x=g) w (some ⟨g,0,none⟩) vs.length vs:=by
 refine⟨rfl,hm,fun _=>⟨g,0,rfl,rfl,(Array.getElem?_eq_some_iff.1 h).1,fun i hi=> ?_⟩⟩
 simp[World.cell?,h]
theorem dS (w:World) (o o':Obj):((w.alloc o).alloc o').drew.heap[w.heap.size]? =some o∧((w.alloc o).alloc o').drew.heap[w.heap.size+1]? =some o':=by
 constructor
 ·have:=(MapKept.heap_alloc w o).1
  have h2:=Below.heap_alloc (w.alloc o) o' w.heap.size (by simp)
  exact h2.trans this
 ·have:=(MapKept.heap_alloc (w.alloc o) o').1
  have hs:(w.alloc o).heap.size=w.heap.size+1:=by simp
  rw[hs]at this
  exact this
section
variable {F:Nat→Prop} {r:Nat} {T:aH} {D:List (List UInt8)} {E:List iF}
set_option maxHeartbeats 4000000 in
theorem D6 (d:Int) (nm:Nm) (id:Int) (w:World) (b n cE:Nat) (hc2:w.cell? ⟨r,2,none⟩=some (.slice (some ⟨b,0,none⟩) n cE)) (hrw:r<w.heap.size) (hfr:w.frozen? ⟨r,2,none⟩=false) (hn:E.length=n) (hcap:n≤cE) (OP:n≤1000000) (hrow:ak F w (some ⟨b,0,none⟩) (n*3) (E.flatMap dV)):
  Calls Tryz.prog 65 #[ptr r, .int .i64 d, .string (strOf nm), .int .i64 id] w (vG w r (lW E d nm id)):=by
 obtain⟨i,hi,hz,h3,h32⟩:=info_parts yh
 have HI:=Lib.hid (And.intro hi (And.intro hz (And.intro h3 h32)))
 have HN:=Lib.hid hrow
 have HL:=Lib.hid hn
 have jH:Hid (∀w1,Below w.heap.size w w1→w1.cell? ⟨r,2,none⟩=some (.slice (some ⟨b,0,none⟩) n cE)∧w1.frozen? ⟨r,2,none⟩=false):=fun w1 hb=>⟨by rw[hb.cell (p:=⟨r,2,none⟩) hrw];exact hc2,by rw[hb.frozen (p:=⟨r,2,none⟩) hrw];exact hfr⟩
 clear hrow hn hi hz h3 h32
 go_enter Tryz.func65,Tryz.ntmps65
 go_upto_block 0 with(fail)
 go_cut [8]from 9 to 53 (fun i wx=>Bf E d nm w i wx)
 case first=>
  go_wp2_with fail
  go_loop [8] (fun i=>∃k:Nat,k≤n∧i= .int .i64 k∧(E.take k).all (jo d nm)=true) (fun i=>n-(intOf i).toNat)
  case atStart=>exact⟨0,by omega,rfl,by simp⟩
  case round=>
   obtain⟨k,hk,rfl,hall⟩:=hrel
   have HA:=Lib.hid hall
   clear hall
   by_cases hlt:k<n
   ·have hx:E[k]? =some (E[k]'(by have:=HL.out;omega)):=List.getElem?_eq_getElem _
    obtain⟨q,hq⟩:∃q,q=E[k]'(by have:=HL.out;omega):=⟨_,rfl⟩
    rw[←hq]at hx
    have HX:=Lib.hid hx
    obtain⟨b',off',e,hF,hb,hi,hc⟩:=HN.out.wide gY HL.out hx (by omega)
    simp only[Option.some.injEq,Addr.mk.injEq,and_true]at e
    obtain⟨rfl,rfl⟩:=e
    have c0:w.cell? ⟨b,k*3,none⟩=some (.int .i64 q.1):=by have:=hc 0 (by omega);rwa [Nat.zero_add]at this
    have c1:w.cell? ⟨b,k*3+1,none⟩=some (.string (strOf q.2.1)):=by have:=hc 1 (by omega);rwa [Nat.zero_add]at this
    clear hx hq hc
    have i0:(0:Int)≤k:=by omega
    have i1:(k:Int)<n:=by omega
    have hls:Op.bytesLess (strOf q.2.1).toList (strOf nm).toList=bytesBefore q.2.1 nm:=by rw[mY,mY,CP]
    have HR:Hid (jo d nm q=true→(E.take (k+1)).all (jo d nm)=true):=fun h=>lX HA.out HX.out h
    have HO:Hid (jo d nm q=false→Bf E d nm w (.int .i64 k) w):=fun h=>Bf.of (by have:=HL.out;omega) HA.out fun x hx=>by have:=HX.out;rw[this]at hx;cases hx;exact h
    by_cases hp:q.1<d
    ·have e1:decide (q.1<d)=true:=by simpa using hp
     replace HR:=Lib.hid (HR.out (by simp[jo,hp]))
     clear hp HO
     go_wp2
     go_round
     case rel=>exact⟨k+1,by omega,by go_num,HR.out⟩
     case measure=>simp[intOf];omega
    ·have e1:decide (q.1<d)=false:=by simpa using hp
     by_cases hp2:q.1=d
     ·have e2:(q.1==d)=true:=by simpa using hp2
      cases hp3:bytesBefore q.2.1 nm with
      |true=>
       rw[hp3]at hls
       replace HR:=Lib.hid (HR.out (by simp[jo,hp2,hp3]))
       clear hp hp2 hp3 HO
       go_wp2
       go_round
       case rel=>exact⟨k+1,by omega,by go_num,HR.out⟩
       case measure=>simp[intOf];omega
      |false=>
       rw[hp3]at hls
       replace HO:=Lib.hid (HO.out (by simp[jo,hp2,hp3]))
       clear hp hp2 hp3 HR
       go_wp2
       go_meet
       exact HO.out
     ·have e2:(q.1==d)=false:=by simpa using hp2
      replace HO:=Lib.hid (HO.out (by simp[jo,hp,hp2]))
      clear hp hp2 HR hls
      go_wp2
      go_meet
      exact HO.out
   ·have HO:Hid (Bf E d nm w (.int .i64 k) w):=Bf.of (by have:=HL.out;omega) HA.out fun x hx=>by
     have:=HL.out
     rw[List.getElem?_eq_none (by omega)]at hx
     cases hx
    go_wp2
    go_meet
    exact HO.out
 case rest=>
  obtain⟨k,hk,rfl,hadd,rfl⟩:=hcut
  have hkn:k≤n:=by have:=HL.out;omega
  have pI:Hid (∀w1,Below w.heap.size w w1→ak F w1 (some ⟨b,0,none⟩) (k*3) ((E.take k).flatMap dV)∧ak F w1 (if cE=k then some ⟨b,0,none⟩else some ⟨b,k*3,none⟩) ((n-k)*3) ((E.drop k).flatMap dV)):=fun w1 hb=>by
   have h1:=HN.out.below hb (Nat.le_refl _)
   have h2:=h1.take (k*3)
   rw[jR dV 3 gY,Nat.min_eq_right (by omega)]at h2
   have h4:=h1.drop (k*3)
   rw[jS dV 3 gY,←Nat.sub_mul,Nat.zero_add]at h4
   refine⟨h2,?_⟩
   by_cases hce:cE=k
   ·rw[if_pos hce]
    exact ak.zero _ _ _ (by rw[show n-k=0 by omega,Nat.zero_mul]) (by rw[List.drop_of_length_le (by have:=HL.out;omega)];rfl)
   ·rw[if_neg hce];exact h4
  have i0:(0:Int)≤k:=by omega
  have i1:(k:Int)≤cE:=by omega
  have i2:(k:Int)≤n:=by omega
  have i4:(n:Int)≤cE:=by omega
  have Mv:=Lib.hid hadd
  clear hadd hk
  go_wp2
  refine wp_region_noPanic ?_
  refine bW (last:=24) (S:=(fun w'=>w'.cell? ⟨r,2,none⟩=some (.slice (some ⟨b,0,none⟩) n cE)∧w'.frozen? ⟨r,2,none⟩=false)) (by kernel_rfl) ?_ (fun hS=> ?_)
  ·exact jH.out _ (Below.refl _ _).drew
  refine aT 0 (hS:=hS) (h:= ?_)
  refine aT 2 (hS:=hS) (h:= ?_)
  refine aT 3 (hS:=hS) (h:= ?_)
  refine aT 4 (hS:=hS) (h:= ?_)
  refine aT 5 (hS:=hS) (h:= ?_)
  refine aT 6 (hS:=hS) (h:= ?_)
  refine aT 7 (hS:=hS) (h:= ?_)
  refine aT 9 (hS:=hS) (h:= ?_)
  refine aT 10 (hS:=hS) (h:= ?_)
  refine aT 11 (hS:=hS) (h:= ?_)
  refine aT 12 (hS:=hS) (h:= ?_)
  refine aT 15 (hS:=hS) (h:= ?_)
  refine aT 16 (hS:=hS) (h:= ?_)
  refine aT 17 (hS:=hS) (h:= ?_)
  refine aT 18 (hS:=hS) (h:= ?_)
  refine aT 19 (hS:=hS) (h:= ?_)
  refine aT 20 (hS:=hS) (h:= ?_)
  refine au (rs:=[1,13]) (by kernel_rfl) (by simp) ?_
  refine ah.cons (o:= ?o1) ?ho1 (fun K hK=> ?wa) (ah.cons (o:= ?o2) ?ho2 (fun K hK=> ?wb) ah.nil)
  case ho1=>simp only[List.getElem?_toArray,List.getElem?_cons_succ,List.getElem?_cons_zero];rfl
  case ho2=>simp only[List.getElem?_toArray,List.getElem?_cons_succ,List.getElem?_cons_zero];rfl
  case wa=>
   go_simp
   refine hK.out _ _ (fun _=>jH.out _ ((Below.refl _ _).drew.alloc (Nat.le_refl _) _)) (fun hS=> ?_)
   replace hS:=hS (by decide)
   clear hK K
   try simp only[Act.put,List.setIfInBounds_toArray,List.set_cons_zero,List.set_cons_succ]
   refine au (rs:=[8,13]) (by kernel_rfl) (by simp) ?_
   refine ah.cons (o:= ?o3) ?ho3 (fun K hK=> ?Gz) (ah.cons (o:= ?o4) ?OQ (fun K hK=> ?GA) ah.nil)
   case ho3=>simp only[List.getElem?_toArray,List.getElem?_cons_succ,List.getElem?_cons_zero];rfl
   case OQ=>simp only[List.getElem?_toArray,List.getElem?_cons_succ,List.getElem?_cons_zero];rfl
   case Gz=>
    refine av (by rfl) (.tmp 55) (.tmp 61) 100 (by rfl) w.heap.size 131 i _ 3 32 Tryz.underlying100 HI.out.1 HI.out.2.1 HI.out.2.2.1 HI.out.2.2.2 rfl (by omega) _ 0 [] (by rfl) (dB (MapKept.heap_alloc w.drew _).1 (Nat.le_refl _)) _ k _ ((E.take k).flatMap dV) (by rfl) (pI.out _ ((Below.refl _ _).drew.alloc (Nat.le_refl _) _)).1 (jY _) (by unfold maxLen;omega) (by omega) (by simp<;>omega) ?_
    intro A1 c1 u1 hown0 hb1
    have hB0:Below w.heap.size w u1:=((Below.refl _ _).drew.alloc (Nat.le_refl _) _).trans hb1
    refine hK.out _ _ (fun _=>jH.out _ hB0) (fun hS=> ?_)
    replace hS:=hS (by decide)
    clear hK K
    try simp only[Act.put,List.setIfInBounds_toArray,List.set_cons_zero,List.set_cons_succ]
    refine jF 13 (h:=fun K hK=> ?_)
    go_simp
    refine hK.out _ _ (fun _=>jH.out _ (hB0.alloc hB0.size _)) (fun hS=> ?_)
    replace hS:=hS (by decide)
    clear hK K
    try simp only[Act.put,List.setIfInBounds_toArray,List.set_cons_zero,List.set_cons_succ]
    rw[Nat.zero_add]at hown0
    have hown1:=own_below hown0 ((Below.refl _ _).alloc (Nat.le_refl _) (.cells (dV (d,nm,id)).toArray 131))
    have hrow:=iy (w:=u1) (dV (d,nm,id)) 131 (by simp[dV,maxLen])
    have hB1:Below w.heap.size w (u1.alloc (.cells (dV (d,nm,id)).toArray 131)):=hB0.alloc hB0.size _
    refine au (rs:=[14]) (by kernel_rfl) (by simp) ?_
    refine ah.cons (o:= ?o5) ?R9 (fun K hK=> ?_) ah.nil
    case R9=>simp only[List.getElem?_toArray,List.getElem?_cons_succ,List.getElem?_cons_zero];rfl
    refine av (by rfl) (.tmp 62) (.tmp 67) 100 (by rfl) w.heap.size 131 i _ 3 32 Tryz.underlying100 HI.out.1 HI.out.2.1 HI.out.2.2.1 HI.out.2.2.2 rfl (by omega) _ _ _ (by rfl) hown1 _ 1 _ (dV (d,nm,id)) (by rfl) hrow (mO _) (by unfold maxLen;omega) (by omega) hB1.size ?_
    intro A2 c2 u2 hown2 hb2
    have hB2:Below w.heap.size w u2:=hB1.trans hb2
    refine hK.out _ _ (fun _=>jH.out _ hB2) (fun hS=> ?_)
    replace hS:=hS (by decide)
    clear hK K
    try simp only[Act.put,List.setIfInBounds_toArray,List.set_cons_zero,List.set_cons_succ]
    refine au (rs:=[21]) (by kernel_rfl) (by simp) ?_
    refine ah.cons (o:= ?o6) ?R_ (fun K hK=> ?_) ah.nil
    case R_=>simp only[List.getElem?_toArray,List.getElem?_cons_succ,List.getElem?_cons_zero];rfl
    refine av (by rfl) (.tmp 68) (.tmp 74) 100 (by rfl) w.heap.size 131 i _ 3 32 Tryz.underlying100 HI.out.1 HI.out.2.1 HI.out.2.2.1 HI.out.2.2.2 rfl (by omega) _ _ _ (by rfl) hown2 _ (n-k) _ ((E.drop k).flatMap dV) (by rfl) (pI.out _ hB2).2 (jY _) (by unfold maxLen;omega) (by omega) hB2.size ?_
    intro A3 c3 u3 hown3 hb3
    have hB3:Below w.heap.size w u3:=hB2.trans hb3
    refine hK.out _ _ (fun _=>jH.out _ hB3) (fun hS=> ?_)
    replace hS:=hS (by decide)
    clear hK K
    try simp only[Act.put,List.setIfInBounds_toArray,List.set_cons_zero,List.set_cons_succ]
    refine aT 22 (hS:=hS) (h:= ?_)
    refine aT 23 (hS:=hS) (h:= ?_)
    refine jF 24 (h:=fun K hK=> ?_)
    go_simp
    refine hK.out _ _ (fun h=>absurd rfl h) (fun hS=> ?_)
    clear hS hK K
    try simp only[Act.put,List.setIfInBounds_toArray,List.set_cons_zero,List.set_cons_succ]
    refine aV (by kernel_rfl) ?_ _
    refine NoPanic.normal ?_
    go_wp2
    all_goals (
     go_end0
     exact pz Mv.out HL.out hkn hB3 (by omega) (by simp) hown3 (by unfold maxLen;omega))
   case GA=>
    go_simp
    refine hK.out _ _ (fun _=>jH.out _ (((Below.refl _ _).drew.alloc (Nat.le_refl _) _).alloc (by simp<;>omega) _)) (fun hS=> ?_)
    replace hS:=hS (by decide)
    clear hK K
    try simp only[Act.put,List.setIfInBounds_toArray,List.set_cons_zero,List.set_cons_succ]
    refine au (rs:=[8]) (by kernel_rfl) (by simp) ?_
    refine ah.cons (o:= ?o7) ?Sb (fun K hK=> ?_) ah.nil
    case Sb=>simp only[List.getElem?_toArray,List.getElem?_cons_succ,List.getElem?_cons_zero];rfl
    refine bU (by rfl) (.tmp 55) (.tmp 61) 100 (by rfl) w.heap.size 131 i _ 3 32 Tryz.underlying100 HI.out.1 HI.out.2.1 HI.out.2.2.1 HI.out.2.2.2 rfl (by omega) _ 0 [] (by rfl) (dB (dS w _ _).1 (Nat.le_refl _)) _ k _ ((E.take k).flatMap dV) (by rfl) (pI.out _ (((Below.refl _ _).drew.alloc (Nat.le_refl _) _).alloc (by simp<;>omega) _)).1 (jY _) (by unfold maxLen;omega) (by omega) (by simp<;>omega) ?_
    intro A1 c1 u1 hown1 hb1 hg1
    have hB1:Below w.heap.size w u1:=(((Below.refl _ _).drew.alloc (Nat.le_refl _) _).alloc (by simp<;>omega) _).trans hb1
    have hrow:=(gV (vs:=dV (d,nm,id)) (dS w (.cells #[] 131) (.cells (dV (d,nm,id)).toArray 131)).2 (by simp[dV,maxLen])).grown hg1 (fun b hb hbw=>by subst hb;simp[Value.ownBlock])
    refine hK.out _ _ (fun _=>jH.out _ hB1) (fun hS=> ?_)
    replace hS:=hS (by decide)
    clear hK K
    try simp only[Act.put,List.setIfInBounds_toArray,List.set_cons_zero,List.set_cons_succ]
    refine au (rs:=[14]) (by kernel_rfl) (by simp) ?_
    refine ah.cons (o:= ?o8) ?NY (fun K hK=> ?_) ah.nil
    case NY=>simp only[List.getElem?_toArray,List.getElem?_cons_succ,List.getElem?_cons_zero];rfl
    refine av (by rfl) (.tmp 62) (.tmp 67) 100 (by rfl) w.heap.size 131 i _ 3 32 Tryz.underlying100 HI.out.1 HI.out.2.1 HI.out.2.2.1 HI.out.2.2.2 rfl (by omega) _ _ _ (by rfl) hown1 _ 1 _ (dV (d,nm,id)) (by rfl) hrow (mO _) (by unfold maxLen;omega) (by omega) hB1.size ?_
    intro A2 c2 u2 hown2 hb2
    have hB2:Below w.heap.size w u2:=hB1.trans hb2
    refine hK.out _ _ (fun _=>jH.out _ hB2) (fun hS=> ?_)
    replace hS:=hS (by decide)
    clear hK K
    try simp only[Act.put,List.setIfInBounds_toArray,List.set_cons_zero,List.set_cons_succ]
    refine au (rs:=[21]) (by kernel_rfl) (by simp) ?_
    refine ah.cons (o:= ?o9) ?Sc (fun K hK=> ?_) ah.nil
    case Sc=>simp only[List.getElem?_toArray,List.getElem?_cons_succ,List.getElem?_cons_zero];rfl
    refine av (by rfl) (.tmp 68) (.tmp 74) 100 (by rfl) w.heap.size 131 i _ 3 32 Tryz.underlying100 HI.out.1 HI.out.2.1 HI.out.2.2.1 HI.out.2.2.2 rfl (by omega) _ _ _ (by rfl) hown2 _ (n-k) _ ((E.drop k).flatMap dV) (by rfl) (pI.out _ hB2).2 (jY _) (by unfold maxLen;omega) (by omega) hB2.size ?_
    intro A3 c3 u3 hown3 hb3
    have hB3:Below w.heap.size w u3:=hB2.trans hb3
    refine hK.out _ _ (fun _=>jH.out _ hB3) (fun hS=> ?_)
    replace hS:=hS (by decide)
    clear hK K
    try simp only[Act.put,List.setIfInBounds_toArray,List.set_cons_zero,List.set_cons_succ]
    refine aT 22 (hS:=hS) (h:= ?_)
    refine aT 23 (hS:=hS) (h:= ?_)
    refine jF 24 (h:=fun K hK=> ?_)
    go_simp
    refine hK.out _ _ (fun h=>absurd rfl h) (fun hS=> ?_)
    clear hS hK K
    try simp only[Act.put,List.setIfInBounds_toArray,List.set_cons_zero,List.set_cons_succ]
    refine aV (by kernel_rfl) ?_ _
    refine NoPanic.normal ?_
    go_wp2
    all_goals (
     go_end0
     exact pz Mv.out HL.out hkn hB3 (by omega) (by simp) hown3 (by unfold maxLen;omega))
  case wb=>
   go_simp
   refine hK.out _ _ (fun _=>jH.out _ ((Below.refl _ _).drew.alloc (Nat.le_refl _) _)) (fun hS=> ?_)
   replace hS:=hS (by decide)
   clear hK K
   try simp only[Act.put,List.setIfInBounds_toArray,List.set_cons_zero,List.set_cons_succ]
   refine jF 1 (h:=fun K hK=> ?_)
   go_simp
   refine hK.out _ _ (fun _=>jH.out _ (((Below.refl _ _).drew.alloc (Nat.le_refl _) _).alloc (by simp<;>omega) _)) (fun hS=> ?_)
   replace hS:=hS (by decide)
   clear hK K
   try simp only[Act.put,List.setIfInBounds_toArray,List.set_cons_zero,List.set_cons_succ]
   refine au (rs:=[8]) (by kernel_rfl) (by simp) ?_
   refine ah.cons (o:= ?YD) ?Mw (fun K hK=> ?_) ah.nil
   case Mw=>simp only[List.getElem?_toArray,List.getElem?_cons_succ,List.getElem?_cons_zero];rfl
   refine bU (by rfl) (.tmp 55) (.tmp 61) 100 (by rfl) w.heap.size 131 i _ 3 32 Tryz.underlying100 HI.out.1 HI.out.2.1 HI.out.2.2.1 HI.out.2.2.2 rfl (by omega) _ 0 [] (by rfl) (dB (dS w _ _).2 (by omega)) _ k _ ((E.take k).flatMap dV) (by rfl) (pI.out _ (((Below.refl _ _).drew.alloc (Nat.le_refl _) _).alloc (by simp<;>omega) _)).1 (jY _) (by unfold maxLen;omega) (by omega) (by simp<;>omega) ?_
   intro A1 c1 u1 hown1 hb1 hg1
   have hB1:Below w.heap.size w u1:=(((Below.refl _ _).drew.alloc (Nat.le_refl _) _).alloc (by simp<;>omega) _).trans hb1
   have hrow:=(gV (vs:=dV (d,nm,id)) (dS w (.cells (dV (d,nm,id)).toArray 131) (.cells #[] 131)).1 (by simp[dV,maxLen])).grown hg1 (fun b hb hbw=>by subst hb;simp[Value.ownBlock])
   refine hK.out _ _ (fun _=>jH.out _ hB1) (fun hS=> ?_)
   replace hS:=hS (by decide)
   clear hK K
   try simp only[Act.put,List.setIfInBounds_toArray,List.set_cons_zero,List.set_cons_succ]
   refine au (rs:=[14]) (by kernel_rfl) (by simp) ?_
   refine ah.cons (o:= ?YE) ?Mx (fun K hK=> ?_) ah.nil
   case Mx=>simp only[List.getElem?_toArray,List.getElem?_cons_succ,List.getElem?_cons_zero];rfl
   refine av (by rfl) (.tmp 62) (.tmp 67) 100 (by rfl) w.heap.size 131 i _ 3 32 Tryz.underlying100 HI.out.1 HI.out.2.1 HI.out.2.2.1 HI.out.2.2.2 rfl (by omega) _ _ _ (by rfl) hown1 _ 1 _ (dV (d,nm,id)) (by rfl) hrow (mO _) (by unfold maxLen;omega) (by omega) hB1.size ?_
   intro A2 c2 u2 hown2 hb2
   have hB2:Below w.heap.size w u2:=hB1.trans hb2
   refine hK.out _ _ (fun _=>jH.out _ hB2) (fun hS=> ?_)
   replace hS:=hS (by decide)
   clear hK K
   try simp only[Act.put,List.setIfInBounds_toArray,List.set_cons_zero,List.set_cons_succ]
   refine au (rs:=[21]) (by kernel_rfl) (by simp) ?_
   refine ah.cons (o:= ?YF) ?MB (fun K hK=> ?_) ah.nil
   case MB=>simp only[List.getElem?_toArray,List.getElem?_cons_succ,List.getElem?_cons_zero];rfl
   refine av (by rfl) (.tmp 68) (.tmp 74) 100 (by rfl) w.heap.size 131 i _ 3 32 Tryz.underlying100 HI.out.1 HI.out.2.1 HI.out.2.2.1 HI.out.2.2.2 rfl (by omega) _ _ _ (by rfl) hown2 _ (n-k) _ ((E.drop k).flatMap dV) (by rfl) (pI.out _ hB2).2 (jY _) (by unfold maxLen;omega) (by omega) hB2.size ?_
   intro A3 c3 u3 hown3 hb3
   have hB3:Below w.heap.size w u3:=hB2.trans hb3
   refine hK.out _ _ (fun _=>jH.out _ hB3) (fun hS=> ?_)
   replace hS:=hS (by decide)
   clear hK K
   try simp only[Act.put,List.setIfInBounds_toArray,List.set_cons_zero,List.set_cons_succ]
   refine aT 22 (hS:=hS) (h:= ?_)
   refine aT 23 (hS:=hS) (h:= ?_)
   refine jF 24 (h:=fun K hK=> ?_)
   go_simp
   refine hK.out _ _ (fun h=>absurd rfl h) (fun hS=> ?_)
   clear hS hK K
   try simp only[Act.put,List.setIfInBounds_toArray,List.set_cons_zero,List.set_cons_succ]
   refine aV (by kernel_rfl) ?_ _
   refine NoPanic.normal ?_
   go_wp2
   all_goals (
    go_end0
    exact pz Mv.out HL.out hkn hB3 (by omega) (by simp) hown3 (by unfold maxLen;omega))
set_option maxHeartbeats 4000000 in
theorem GD (d:Int) (nm:Nm) (id:Int) (w:World) (hc2:w.cell? ⟨r,2,none⟩=some (.slice none 0 0)) (hrw:r<w.heap.size) (hfr:w.frozen? ⟨r,2,none⟩=false):
  Calls Tryz.prog 65 #[ptr r, .int .i64 d, .string (strOf nm), .int .i64 id] w (vG w r (lW [] d nm id)):=by
 obtain⟨i,hi,hz,h3,h32⟩:=info_parts yh
 have HI:=Lib.hid (And.intro hi (And.intro hz (And.intro h3 h32)))
 have jH:Hid (∀w1,Below w.heap.size w w1→w1.cell? ⟨r,2,none⟩=some (.slice none 0 0)∧w1.frozen? ⟨r,2,none⟩=false):=fun w1 hb=>⟨by rw[hb.cell (p:=⟨r,2,none⟩) hrw];exact hc2,by rw[hb.frozen (p:=⟨r,2,none⟩) hrw];exact hfr⟩
 have pI:Hid (∀w1:World,ak (fun _=>True) w1 none (0*3) []∧ak (fun _=>True) w1 none (0*3) []):=fun w1=>⟨ak.zero _ _ _ rfl rfl,ak.zero _ _ _ rfl rfl⟩
 clear hi hz h3 h32
 go_enter Tryz.func65,Tryz.ntmps65
 go_upto_block 0 with(fail)
 go_cut [8]from 9 to 53 (fun i wx=>i= .int .i64 0∧w=wx)
 case first=>
  go_wp2_with fail
  go_loop [8] (fun i=>i= .int .i64 0) (fun _=>0)
  case atStart=>rfl
  case round=>
   subst hrel
   go_wp2
   go_meet
   exact⟨rfl,rfl⟩
 case rest=>
  obtain⟨rfl,rfl⟩:=hcut
  go_wp2
  refine wp_region_noPanic ?_
  refine bW (last:=24) (S:=(fun w'=>w'.cell? ⟨r,2,none⟩=some (.slice none 0 0)∧w'.frozen? ⟨r,2,none⟩=false)) (by kernel_rfl) ?_ (fun hS=> ?_)
  ·exact jH.out _ (Below.refl _ _).drew
  refine aT 0 (hS:=hS) (h:= ?_)
  refine aT 2 (hS:=hS) (h:= ?_)
  refine aT 3 (hS:=hS) (h:= ?_)
  refine aT 4 (hS:=hS) (h:= ?_)
  refine aT 5 (hS:=hS) (h:= ?_)
  refine aT 6 (hS:=hS) (h:= ?_)
  refine aT 7 (hS:=hS) (h:= ?_)
  refine aT 9 (hS:=hS) (h:= ?_)
  refine aT 10 (hS:=hS) (h:= ?_)
  refine aT 11 (hS:=hS) (h:= ?_)
  refine aT 12 (hS:=hS) (h:= ?_)
  refine aT 15 (hS:=hS) (h:= ?_)
  refine aT 16 (hS:=hS) (h:= ?_)
  refine aT 17 (hS:=hS) (h:= ?_)
  refine aT 18 (hS:=hS) (h:= ?_)
  refine aT 19 (hS:=hS) (h:= ?_)
  refine aT 20 (hS:=hS) (h:= ?_)
  refine au (rs:=[1,13]) (by kernel_rfl) (by simp) ?_
  refine ah.cons (o:= ?YG) ?MC (fun K hK=> ?wa) (ah.cons (o:= ?YH) ?ME (fun K hK=> ?wb) ah.nil)
  case MC=>simp only[List.getElem?_toArray,List.getElem?_cons_succ,List.getElem?_cons_zero];rfl
  case ME=>simp only[List.getElem?_toArray,List.getElem?_cons_succ,List.getElem?_cons_zero];rfl
  case wa=>
   go_simp
   refine hK.out _ _ (fun _=>jH.out _ ((Below.refl _ _).drew.alloc (Nat.le_refl _) _)) (fun hS=> ?_)
   replace hS:=hS (by decide)
   clear hK K
   try simp only[Act.put,List.setIfInBounds_toArray,List.set_cons_zero,List.set_cons_succ]
   refine au (rs:=[8,13]) (by kernel_rfl) (by simp) ?_
   refine ah.cons (o:= ?YI) ?MF (fun K hK=> ?Gz) (ah.cons (o:= ?o16) ?MG (fun K hK=> ?GA) ah.nil)
   case MF=>simp only[List.getElem?_toArray,List.getElem?_cons_succ,List.getElem?_cons_zero];rfl
   case MG=>simp only[List.getElem?_toArray,List.getElem?_cons_succ,List.getElem?_cons_zero];rfl
   case Gz=>
    refine av (by rfl) (.tmp 55) (.tmp 61) 100 (by rfl) w.heap.size 131 i _ 3 32 Tryz.underlying100 HI.out.1 HI.out.2.1 HI.out.2.2.1 HI.out.2.2.2 rfl (by omega) _ 0 [] (by rfl) (dB (MapKept.heap_alloc w.drew _).1 (Nat.le_refl _)) _ 0 _ [] (by rfl) (pI.out _).1 (fun u hu=>by cases hu) (by unfold maxLen;omega) (by omega) (by simp<;>omega) ?_
    intro A1 c1 u1 hown0 hb1
    have hB0:Below w.heap.size w u1:=((Below.refl _ _).drew.alloc (Nat.le_refl _) _).trans hb1
    refine hK.out _ _ (fun _=>jH.out _ hB0) (fun hS=> ?_)
    replace hS:=hS (by decide)
    clear hK K
    try simp only[Act.put,List.setIfInBounds_toArray,List.set_cons_zero,List.set_cons_succ]
    refine jF 13 (h:=fun K hK=> ?_)
    go_simp
    refine hK.out _ _ (fun _=>jH.out _ (hB0.alloc hB0.size _)) (fun hS=> ?_)
    replace hS:=hS (by decide)
    clear hK K
    try simp only[Act.put,List.setIfInBounds_toArray,List.set_cons_zero,List.set_cons_succ]
    have hown1:=own_below hown0 ((Below.refl _ _).alloc (Nat.le_refl _) (.cells (dV (d,nm,id)).toArray 131))
    have hrow:=iy (w:=u1) (dV (d,nm,id)) 131 (by simp[dV,maxLen])
    have hB1:Below w.heap.size w (u1.alloc (.cells (dV (d,nm,id)).toArray 131)):=hB0.alloc hB0.size _
    refine au (rs:=[14]) (by kernel_rfl) (by simp) ?_
    refine ah.cons (o:= ?YJ) ?MH (fun K hK=> ?_) ah.nil
    case MH=>simp only[List.getElem?_toArray,List.getElem?_cons_succ,List.getElem?_cons_zero];rfl
    refine av (by rfl) (.tmp 62) (.tmp 67) 100 (by rfl) w.heap.size 131 i _ 3 32 Tryz.underlying100 HI.out.1 HI.out.2.1 HI.out.2.2.1 HI.out.2.2.2 rfl (by omega) _ _ _ (by rfl) hown1 _ 1 _ (dV (d,nm,id)) (by rfl) hrow (mO _) (by unfold maxLen;omega) (by omega) hB1.size ?_
    intro A2 c2 u2 hown2 hb2
    have hB2:Below w.heap.size w u2:=hB1.trans hb2
    refine hK.out _ _ (fun _=>jH.out _ hB2) (fun hS=> ?_)
    replace hS:=hS (by decide)
    clear hK K
    try simp only[Act.put,List.setIfInBounds_toArray,List.set_cons_zero,List.set_cons_succ]
    refine au (rs:=[21]) (by kernel_rfl) (by simp) ?_
    refine ah.cons (o:= ?YK) ?MI (fun K hK=> ?_) ah.nil
    case MI=>simp only[List.getElem?_toArray,List.getElem?_cons_succ,List.getElem?_cons_zero];rfl
    refine av (by rfl) (.tmp 68) (.tmp 74) 100 (by rfl) w.heap.size 131 i _ 3 32 Tryz.underlying100 HI.out.1 HI.out.2.1 HI.out.2.2.1 HI.out.2.2.2 rfl (by omega) _ _ _ (by rfl) hown2 _ 0 _ [] (by rfl) (pI.out _).2 (fun u hu=>by cases hu) (by unfold maxLen;omega) (by omega) hB2.size ?_
    intro A3 c3 u3 hown3 hb3
    have hB3:Below w.heap.size w u3:=hB2.trans hb3
    refine hK.out _ _ (fun _=>jH.out _ hB3) (fun hS=> ?_)
    replace hS:=hS (by decide)
    clear hK K
    try simp only[Act.put,List.setIfInBounds_toArray,List.set_cons_zero,List.set_cons_succ]
    refine aT 22 (hS:=hS) (h:= ?_)
    refine aT 23 (hS:=hS) (h:= ?_)
    refine jF 24 (h:=fun K hK=> ?_)
    go_simp
    refine hK.out _ _ (fun h=>absurd rfl h) (fun hS=> ?_)
    clear hS hK K
    try simp only[Act.put,List.setIfInBounds_toArray,List.set_cons_zero,List.set_cons_succ]
    refine aV (by kernel_rfl) ?_ _
    refine NoPanic.normal ?_
    go_wp2
    all_goals (
     go_end0
     exact pz (E:=[]) (k:=0) (m:=0) (n:=0) rfl rfl (Nat.le_refl _) hB3 rfl rfl hown3 (by unfold maxLen;omega))
   case GA=>
    go_simp
    refine hK.out _ _ (fun _=>jH.out _ (((Below.refl _ _).drew.alloc (Nat.le_refl _) _).alloc (by simp<;>omega) _)) (fun hS=> ?_)
    replace hS:=hS (by decide)
    clear hK K
    try simp only[Act.put,List.setIfInBounds_toArray,List.set_cons_zero,List.set_cons_succ]
    refine au (rs:=[8]) (by kernel_rfl) (by simp) ?_
    refine ah.cons (o:= ?YL) ?MJ (fun K hK=> ?_) ah.nil
    case MJ=>simp only[List.getElem?_toArray,List.getElem?_cons_succ,List.getElem?_cons_zero];rfl
    refine bU (by rfl) (.tmp 55) (.tmp 61) 100 (by rfl) w.heap.size 131 i _ 3 32 Tryz.underlying100 HI.out.1 HI.out.2.1 HI.out.2.2.1 HI.out.2.2.2 rfl (by omega) _ 0 [] (by rfl) (dB (dS w _ _).1 (Nat.le_refl _)) _ 0 _ [] (by rfl) (pI.out _).1 (fun u hu=>by cases hu) (by unfold maxLen;omega) (by omega) (by simp<;>omega) ?_
    intro A1 c1 u1 hown1 hb1 hg1
    have hB1:Below w.heap.size w u1:=(((Below.refl _ _).drew.alloc (Nat.le_refl _) _).alloc (by simp<;>omega) _).trans hb1
    have hrow:=(gV (vs:=dV (d,nm,id)) (dS w (.cells #[] 131) (.cells (dV (d,nm,id)).toArray 131)).2 (by simp[dV,maxLen])).grown hg1 (fun b hb hbw=>by subst hb;simp[Value.ownBlock])
    refine hK.out _ _ (fun _=>jH.out _ hB1) (fun hS=> ?_)
    replace hS:=hS (by decide)
    clear hK K
    try simp only[Act.put,List.setIfInBounds_toArray,List.set_cons_zero,List.set_cons_succ]
    refine au (rs:=[14]) (by kernel_rfl) (by simp) ?_
    refine ah.cons (o:= ?YM) ?MK (fun K hK=> ?_) ah.nil
    case MK=>simp only[List.getElem?_toArray,List.getElem?_cons_succ,List.getElem?_cons_zero];rfl
    refine av (by rfl) (.tmp 62) (.tmp 67) 100 (by rfl) w.heap.size 131 i _ 3 32 Tryz.underlying100 HI.out.1 HI.out.2.1 HI.out.2.2.1 HI.out.2.2.2 rfl (by omega) _ _ _ (by rfl) hown1 _ 1 _ (dV (d,nm,id)) (by rfl) hrow (mO _) (by unfold maxLen;omega) (by omega) hB1.size ?_
    intro A2 c2 u2 hown2 hb2
    have hB2:Below w.heap.size w u2:=hB1.trans hb2
    refine hK.out _ _ (fun _=>jH.out _ hB2) (fun hS=> ?_)
    replace hS:=hS (by decide)
    clear hK K
    try simp only[Act.put,List.setIfInBounds_toArray,List.set_cons_zero,List.set_cons_succ]
    refine au (rs:=[21]) (by kernel_rfl) (by simp) ?_
    refine ah.cons (o:= ?YN) ?ML (fun K hK=> ?_) ah.nil
    case ML=>simp only[List.getElem?_toArray,List.getElem?_cons_succ,List.getElem?_cons_zero];rfl
    refine av (by rfl) (.tmp 68) (.tmp 74) 100 (by rfl) w.heap.size 131 i _ 3 32 Tryz.underlying100 HI.out.1 HI.out.2.1 HI.out.2.2.1 HI.out.2.2.2 rfl (by omega) _ _ _ (by rfl) hown2 _ 0 _ [] (by rfl) (pI.out _).2 (fun u hu=>by cases hu) (by unfold maxLen;omega) (by omega) hB2.size ?_
    intro A3 c3 u3 hown3 hb3
    have hB3:Below w.heap.size w u3:=hB2.trans hb3
    refine hK.out _ _ (fun _=>jH.out _ hB3) (fun hS=> ?_)
    replace hS:=hS (by decide)
    clear hK K
    try simp only[Act.put,List.setIfInBounds_toArray,List.set_cons_zero,List.set_cons_succ]
    refine aT 22 (hS:=hS) (h:= ?_)
    refine aT 23 (hS:=hS) (h:= ?_)
    refine jF 24 (h:=fun K hK=> ?_)
    go_simp
    refine hK.out _ _ (fun h=>absurd rfl h) (fun hS=> ?_)
    clear hS hK K
    try simp only[Act.put,List.setIfInBounds_toArray,List.set_cons_zero,List.set_cons_succ]
    refine aV (by kernel_rfl) ?_ _
    refine NoPanic.normal ?_
    go_wp2
    all_goals (
     go_end0
     exact pz (E:=[]) (k:=0) (m:=0) (n:=0) rfl rfl (Nat.le_refl _) hB3 rfl rfl hown3 (by unfold maxLen;omega))
  case wb=>
   go_simp
   refine hK.out _ _ (fun _=>jH.out _ ((Below.refl _ _).drew.alloc (Nat.le_refl _) _)) (fun hS=> ?_)
   replace hS:=hS (by decide)
   clear hK K
   try simp only[Act.put,List.setIfInBounds_toArray,List.set_cons_zero,List.set_cons_succ]
   refine jF 1 (h:=fun K hK=> ?_)
   go_simp
   refine hK.out _ _ (fun _=>jH.out _ (((Below.refl _ _).drew.alloc (Nat.le_refl _) _).alloc (by simp<;>omega) _)) (fun hS=> ?_)
   replace hS:=hS (by decide)
   clear hK K
   try simp only[Act.put,List.setIfInBounds_toArray,List.set_cons_zero,List.set_cons_succ]
   refine au (rs:=[8]) (by kernel_rfl) (by simp) ?_
   refine ah.cons (o:= ?YO) ?MN (fun K hK=> ?_) ah.nil
   case MN=>simp only[List.getElem?_toArray,List.getElem?_cons_succ,List.getElem?_cons_zero];rfl
   refine bU (by rfl) (.tmp 55) (.tmp 61) 100 (by rfl) w.heap.size 131 i _ 3 32 Tryz.underlying100 HI.out.1 HI.out.2.1 HI.out.2.2.1 HI.out.2.2.2 rfl (by omega) _ 0 [] (by rfl) (dB (dS w _ _).2 (by omega)) _ 0 _ [] (by rfl) (pI.out _).1 (fun u hu=>by cases hu) (by unfold maxLen;omega) (by omega) (by simp<;>omega) ?_
   intro A1 c1 u1 hown1 hb1 hg1
   have hB1:Below w.heap.size w u1:=(((Below.refl _ _).drew.alloc (Nat.le_refl _) _).alloc (by simp<;>omega) _).trans hb1
   have hrow:=(gV (vs:=dV (d,nm,id)) (dS w (.cells (dV (d,nm,id)).toArray 131) (.cells #[] 131)).1 (by simp[dV,maxLen])).grown hg1 (fun b hb hbw=>by subst hb;simp[Value.ownBlock])
   refine hK.out _ _ (fun _=>jH.out _ hB1) (fun hS=> ?_)
   replace hS:=hS (by decide)
   clear hK K
   try simp only[Act.put,List.setIfInBounds_toArray,List.set_cons_zero,List.set_cons_succ]
   refine au (rs:=[14]) (by kernel_rfl) (by simp) ?_
   refine ah.cons (o:= ?YP) ?MO (fun K hK=> ?_) ah.nil
   case MO=>simp only[List.getElem?_toArray,List.getElem?_cons_succ,List.getElem?_cons_zero];rfl
   refine av (by rfl) (.tmp 62) (.tmp 67) 100 (by rfl) w.heap.size 131 i _ 3 32 Tryz.underlying100 HI.out.1 HI.out.2.1 HI.out.2.2.1 HI.out.2.2.2 rfl (by omega) _ _ _ (by rfl) hown1 _ 1 _ (dV (d,nm,id)) (by rfl) hrow (mO _) (by unfold maxLen;omega) (by omega) hB1.size ?_
   intro A2 c2 u2 hown2 hb2
   have hB2:Below w.heap.size w u2:=hB1.trans hb2
   refine hK.out _ _ (fun _=>jH.out _ hB2) (fun hS=> ?_)
   replace hS:=hS (by decide)
   clear hK K
   try simp only[Act.put,List.setIfInBounds_toArray,List.set_cons_zero,List.set_cons_succ]
   refine au (rs:=[21]) (by kernel_rfl) (by simp) ?_
   refine ah.cons (o:= ?YQ) ?MP (fun K hK=> ?_) ah.nil
   case MP=>simp only[List.getElem?_toArray,List.getElem?_cons_succ,List.getElem?_cons_zero];rfl
   refine av (by rfl) (.tmp 68) (.tmp 74) 100 (by rfl) w.heap.size 131 i _ 3 32 Tryz.underlying100 HI.out.1 HI.out.2.1 HI.out.2.2.1 HI.out.2.2.2 rfl (by omega) _ _ _ (by rfl) hown2 _ 0 _ [] (by rfl) (pI.out _).2 (fun u hu=>by cases hu) (by unfold maxLen;omega) (by omega) hB2.size ?_
   intro A3 c3 u3 hown3 hb3
   have hB3:Below w.heap.size w u3:=hB2.trans hb3
   refine hK.out _ _ (fun _=>jH.out _ hB3) (fun hS=> ?_)
   replace hS:=hS (by decide)
   clear hK K
   try simp only[Act.put,List.setIfInBounds_toArray,List.set_cons_zero,List.set_cons_succ]
   refine aT 22 (hS:=hS) (h:= ?_)
   refine aT 23 (hS:=hS) (h:= ?_)
   refine jF 24 (h:=fun K hK=> ?_)
   go_simp
   refine hK.out _ _ (fun h=>absurd rfl h) (fun hS=> ?_)
   clear hS hK K
   try simp only[Act.put,List.setIfInBounds_toArray,List.set_cons_zero,List.set_cons_succ]
   refine aV (by kernel_rfl) ?_ _
   refine NoPanic.normal ?_
   go_wp2
   all_goals (
    go_end0
    exact pz (E:=[]) (k:=0) (m:=0) (n:=0) rfl rfl (Nat.le_refl _) hB3 rfl rfl hown3 (by unfold maxLen;omega))
theorem JU (d:Int) (nm:Nm) (id:Int) (w:World) (h:fT F w r T D E) (OP:E.length≤1000000):
  Calls Tryz.prog 65 #[ptr r, .int .i64 d, .string (strOf nm), .int .i64 id] w (dh F w r T D (lW E d nm id) (.tuple #[])):=by
 obtain⟨aN,cN,aD,cD,aE,cE,h1,h2,h3,h4,h8,h9,h10,h11⟩:=h.head
 have hc:w.cell? ⟨r,2,none⟩=some (.slice aE E.length cE):=by simp[World.cell?,h1]
 rcases h11 with⟨rfl,rfl⟩|⟨b,rfl⟩
 ·have hE:E=[]:=List.eq_nil_of_length_eq_zero (by omega)
  rw[hE]at hc⊢
  exact(GD d nm id w hc (h.low r h.own) (ak.frozen h1 rfl)).mono fun e w' hs=>vH h hs
 ·exact(D6 d nm id w b E.length cE hc (h.low r h.own) (ak.frozen h1 rfl) rfl h4 OP h10).mono fun e w' hs=>vH h hs
end
end Go.Proofs.YtohpcppeajijnaaGreat
