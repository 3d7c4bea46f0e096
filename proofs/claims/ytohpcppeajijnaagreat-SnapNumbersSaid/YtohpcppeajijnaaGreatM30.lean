/- The reference: add. -/
import Derived.Test.YtohpcppeajijnaaGreatM29
import Derived.WalkLawsBesides
import Derived.Deep.CutBlock
import Derived.Deep.DeepCutAuto
namespace Go.Proofs.YtohpcppeajijnaaGreat
open Go.ChangeShapes Go.WideShapes Go.ChangeAt Go.RowKit
set_option linter.unusedVariables false
set_option linter.unusedSimpArgs false
def Df (E:List iw) (d:Int) (nm:Nm) (w:World) (v:Value) (wx:World):Prop:=
 ∃k:Nat,k≤E.length∧v= .int .i64 k∧mQ E d nm=(fun id=>E.take k++(d,nm,id)::E.drop k)∧w=wx
theorem Df.of {E:List iw} {d:Int} {nm:Nm} {w:World} {k:Nat} (hk:k≤E.length) (ha:(E.take k).all (jg d nm)=true) (hx:∀x,E[k]? =some x→jg d nm x=false):Df E d nm w (.int .i64 k) w:=by
 refine⟨k,hk,rfl,?_,rfl⟩
 obtain⟨h1,h2⟩:=qA ha hx hk
 funext id
 unfold mQ
 rw[h1,h2]
theorem mR {α:Type} {p:α→Bool} {l:List α} {k:Nat} {x:α} (h:(l.take k).all p=true) (hx:l[k]? =some x) (hp:p x=true):(l.take (k+1)).all p=true:=by
 obtain⟨hk,e⟩:=List.getElem?_eq_some_iff.1 hx
 rw[List.take_succ_eq_append_getElem hk,List.all_append,h,e]
 simp[hp]
theorem nk (e:iw):∀u∈dM e,u.oneCell'=true:=by
 intro u hu
 simp only[dM,List.mem_cons,List.not_mem_nil,or_false]at hu
 rcases hu with rfl|rfl|rfl<;>rfl
theorem pK {w u:World} {r:Nat} {E:List iw} {d id:Int} {nm:Nm} {k m n c:Nat} {A:Option Addr} {ys:List Value} (hadd:mQ E d nm=fun id=>E.take k++(d,nm,id)::E.drop k) (hl:E.length=n) (hk:k≤n) (hB:Below w.heap.size w u) (hmk:m=k) (hys:ys=(E.take k).flatMap dM)
  (hown:u.ownsRow w.heap.size 131 3 (.slice A (m+1+(n-k)) c) (m+1+(n-k)) ((ys++dM (d,nm,id))++(E.drop k).flatMap dM)) (hm:(m+1+(n-k))*3≤maxLen):
  wG w r (mQ E d nm id) (.returned (.tuple #[])) (u.setCell ⟨r,2,none⟩ (.slice A (k+1+(n-k)) c)):=by
 subst hmk hys
 have hlen:(mQ E d nm id).length=m+1+(n-m):=by rw[hadd];simp;omega
 have e5:m+1+(n-m)=(mQ E d nm id).length:=by omega
 obtain⟨-,hcc,hnz,hrow2⟩:=ak.jS hown hm
 rw[e5]at hcc hrow2
 refine⟨rfl,A,c,u,hB,by rw[hlen],hcc,hnz,?_⟩
 have e6:(mQ E d nm id).flatMap dM=((E.take m).flatMap dM++dM (d,nm,id))++(E.drop m).flatMap dM:=by rw[hadd];simp
 rw[e6]
 exact hrow2
theorem gJ {w:World} {g:Nat} {vs:List Value} {t:TypeId} {z:Nat×Nat} (h:w.heap[g]? =some (.cells vs.toArray t z)) (hm:vs.length≤maxLen):ak (fun x=>x=g) w (some ⟨g,0,none⟩) vs.length vs:=by
 refine⟨rfl,hm,fun _=>⟨g,0,rfl,rfl,(Array.getElem?_eq_some_iff.1 h).1,fun i hi=> ?_⟩⟩
 simp[World.cell?,h]
theorem dK (w:World) (o o':Obj):((w.alloc o).alloc o').drew.heap[w.heap.size]? =some o∧((w.alloc o).alloc o').drew.heap[w.heap.size+1]? =some o':=by
 constructor
 ·have:=(MapKept.heap_alloc w o).1
  have h2:=Below.heap_alloc (w.alloc o) o' w.heap.size (by simp)
  exact h2.trans this
 ·have:=(MapKept.heap_alloc (w.alloc o) o').1
  have hs:(w.alloc o).heap.size=w.heap.size+1:=by simp
  rw[hs]at this
  exact this
section
variable {F:Nat→Prop} {r:Nat} {T:aI} {D:List (List UInt8)} {E:List iw}
set_option maxHeartbeats 4000000 in
theorem F3 (d:Int) (nm:Nm) (id:Int) (w:World) (b n cE:Nat) (hc2:w.cell? ⟨r,2,none⟩=some (.slice (some ⟨b,0,none⟩) n cE)) (hrw:r<w.heap.size) (hfr:w.frozen? ⟨r,2,none⟩=false) (hn:E.length=n) (hcap:n≤cE) (Tm:n≤1000000) (hrow:ak F w (some ⟨b,0,none⟩) (n*3) (E.flatMap dM)):
  Calls Tryz.prog 65 #[ptr r, .int .i64 d, .string (strOf nm), .int .i64 id] w (wG w r (mQ E d nm id)):=by
 obtain⟨i,hi,hz,h3,h32⟩:=info_parts uS
 have HI:=Lib.hid (And.intro hi (And.intro hz (And.intro h3 h32)))
 have HN:=Lib.hid hrow
 have HL:=Lib.hid hn
 have gq:Hid (∀w1,Below w.heap.size w w1→w1.cell? ⟨r,2,none⟩=some (.slice (some ⟨b,0,none⟩) n cE)∧w1.frozen? ⟨r,2,none⟩=false):=fun w1 hb=>⟨by rw[hb.cell (p:=⟨r,2,none⟩) hrw];exact hc2,by rw[hb.frozen (p:=⟨r,2,none⟩) hrw];exact hfr⟩
 clear hrow hn hi hz h3 h32
 go_enter Tryz.func65,Tryz.ntmps65
 go_upto_block 0 with(fail)
 go_cut [8]from 9 to 53 (fun i wx=>Df E d nm w i wx)
 case first=>
  go_wp2_with fail
  go_loop [8] (fun i=>∃k:Nat,k≤n∧i= .int .i64 k∧(E.take k).all (jg d nm)=true) (fun i=>n-(intOf i).toNat)
  case atStart=>exact⟨0,by omega,rfl,by simp⟩
  case round=>
   obtain⟨k,hk,rfl,hall⟩:=hrel
   have HA:=Lib.hid hall
   clear hall
   by_cases hlt:k<n
   ·have hx:E[k]? =some (E[k]'(by have:=HL.out;omega)):=List.getElem?_eq_getElem _
    obtain⟨q,hq⟩:∃q,q=E[k]'(by have:=HL.out;omega):=⟨_,rfl⟩
    rw[←hq]at hx
    have HX:=Lib.hid hx
    obtain⟨b',off',e,hF,hb,hi,hc⟩:=HN.out.wide iL HL.out hx (by omega)
    simp only[Option.some.injEq,Addr.mk.injEq,and_true]at e
    obtain⟨rfl,rfl⟩:=e
    have c0:w.cell? ⟨b,k*3,none⟩=some (.int .i64 q.1):=by have:=hc 0 (by omega);rwa [Nat.zero_add]at this
    have c1:w.cell? ⟨b,k*3+1,none⟩=some (.string (strOf q.2.1)):=by have:=hc 1 (by omega);rwa [Nat.zero_add]at this
    clear hx hq hc
    have i0:(0:Int)≤k:=by omega
    have i1:(k:Int)<n:=by omega
    have hls:Op.bytesLess (strOf q.2.1).toList (strOf nm).toList=bytesBefore q.2.1 nm:=by rw[nG,nG,Ev]
    have HR:Hid (jg d nm q=true→(E.take (k+1)).all (jg d nm)=true):=fun h=>mR HA.out HX.out h
    have HO:Hid (jg d nm q=false→Df E d nm w (.int .i64 k) w):=fun h=>Df.of (by have:=HL.out;omega) HA.out fun x hx=>by have:=HX.out;rw[this]at hx;cases hx;exact h
    by_cases hp:q.1<d
    ·have e1:decide (q.1<d)=true:=by simpa using hp
     replace HR:=Lib.hid (HR.out (by simp[jg,hp]))
     clear hp HO
     go_wp2
     go_round
     case rel=>exact⟨k+1,by omega,by go_num,HR.out⟩
     case measure=>simp[intOf];omega
    ·have e1:decide (q.1<d)=false:=by simpa using hp
     by_cases hp2:q.1=d
     ·have e2:(q.1==d)=true:=by simpa using hp2
      cases hp3:bytesBefore q.2.1 nm with
      |true=>
       rw[hp3]at hls
       replace HR:=Lib.hid (HR.out (by simp[jg,hp2,hp3]))
       clear hp hp2 hp3 HO
       go_wp2
       go_round
       case rel=>exact⟨k+1,by omega,by go_num,HR.out⟩
       case measure=>simp[intOf];omega
      |false=>
       rw[hp3]at hls
       replace HO:=Lib.hid (HO.out (by simp[jg,hp2,hp3]))
       clear hp hp2 hp3 HR
       go_wp2
       go_meet
       exact HO.out
     ·have e2:(q.1==d)=false:=by simpa using hp2
      replace HO:=Lib.hid (HO.out (by simp[jg,hp,hp2]))
      clear hp hp2 HR hls
      go_wp2
      go_meet
      exact HO.out
   ·have HO:Hid (Df E d nm w (.int .i64 k) w):=Df.of (by have:=HL.out;omega) HA.out fun x hx=>by
     have:=HL.out
     rw[List.getElem?_eq_none (by omega)]at hx
     cases hx
    go_wp2
    go_meet
    exact HO.out
 case rest=>
  obtain⟨k,hk,rfl,hadd,rfl⟩:=hcut
  have hkn:k≤n:=by have:=HL.out;omega
  have lH:Hid (∀w1,Below w.heap.size w w1→ak F w1 (some ⟨b,0,none⟩) (k*3) ((E.take k).flatMap dM)∧ak F w1 (if cE=k then some ⟨b,0,none⟩else some ⟨b,k*3,none⟩) ((n-k)*3) ((E.drop k).flatMap dM)):=fun w1 hb=>by
   have h1:=HN.out.below hb (Nat.le_refl _)
   have h2:=h1.take (k*3)
   rw[jK dM 3 iL,Nat.min_eq_right (by omega)]at h2
   have h4:=h1.drop (k*3)
   rw[jL dM 3 iL,←Nat.sub_mul,Nat.zero_add]at h4
   refine⟨h2,?_⟩
   by_cases hce:cE=k
   ·rw[if_pos hce]
    exact ak.zero _ _ _ (by rw[show n-k=0 by omega,Nat.zero_mul]) (by rw[List.drop_of_length_le (by have:=HL.out;omega)];rfl)
   ·rw[if_neg hce];exact h4
  have i0:(0:Int)≤k:=by omega
  have i1:(k:Int)≤cE:=by omega
  have i2:(k:Int)≤n:=by omega
  have i4:(n:Int)≤cE:=by omega
  have PO:=Lib.hid hadd
  clear hadd hk
  go_wp2
  refine wp_region_noPanic ?_
  refine aH (last:=24) (S:=(fun w'=>w'.cell? ⟨r,2,none⟩=some (.slice (some ⟨b,0,none⟩) n cE)∧w'.frozen? ⟨r,2,none⟩=false)) (by kernel_rfl) ?_ (fun hS=> ?_)
  ·exact gq.out _ (Below.refl _ _).drew
  refine aC 0 (hS:=hS) (h:= ?_)
  refine aC 2 (hS:=hS) (h:= ?_)
  refine aC 3 (hS:=hS) (h:= ?_)
  refine aC 4 (hS:=hS) (h:= ?_)
  refine aC 5 (hS:=hS) (h:= ?_)
  refine aC 6 (hS:=hS) (h:= ?_)
  refine aC 7 (hS:=hS) (h:= ?_)
  refine aC 9 (hS:=hS) (h:= ?_)
  refine aC 10 (hS:=hS) (h:= ?_)
  refine aC 11 (hS:=hS) (h:= ?_)
  refine aC 12 (hS:=hS) (h:= ?_)
  refine aC 15 (hS:=hS) (h:= ?_)
  refine aC 16 (hS:=hS) (h:= ?_)
  refine aC 17 (hS:=hS) (h:= ?_)
  refine aC 18 (hS:=hS) (h:= ?_)
  refine aC 19 (hS:=hS) (h:= ?_)
  refine aC 20 (hS:=hS) (h:= ?_)
  refine aj (rs:=[1,13]) (by kernel_rfl) (by simp) ?_
  refine ah.cons (o:= ?o1) ?ho1 (fun K hK=> ?wa) (ah.cons (o:= ?o2) ?ho2 (fun K hK=> ?wb) ah.nil)
  case ho1=>simp only[List.getElem?_toArray,List.getElem?_cons_succ,List.getElem?_cons_zero];rfl
  case ho2=>simp only[List.getElem?_toArray,List.getElem?_cons_succ,List.getElem?_cons_zero];rfl
  case wa=>
   go_simp
   refine hK.out _ _ (fun _=>gq.out _ ((Below.refl _ _).drew.alloc (Nat.le_refl _) _)) (fun hS=> ?_)
   replace hS:=hS (by decide)
   clear hK K
   try simp only[Act.put,List.setIfInBounds_toArray,List.set_cons_zero,List.set_cons_succ]
   refine aj (rs:=[8,13]) (by kernel_rfl) (by simp) ?_
   refine ah.cons (o:= ?o3) ?ho3 (fun K hK=> ?JU) (ah.cons (o:= ?o4) ?M5 (fun K hK=> ?JV) ah.nil)
   case ho3=>simp only[List.getElem?_toArray,List.getElem?_cons_succ,List.getElem?_cons_zero];rfl
   case M5=>simp only[List.getElem?_toArray,List.getElem?_cons_succ,List.getElem?_cons_zero];rfl
   case JU=>
    refine au (by rfl) (.tmp 55) (.tmp 61) 100 (by rfl) w.heap.size 131 i _ 3 32 Tryz.underlying100 HI.out.1 HI.out.2.1 HI.out.2.2.1 HI.out.2.2.2 rfl (by omega) _ 0 [] (by rfl) (bZ (MapKept.heap_alloc w.drew _).1 (Nat.le_refl _)) _ k _ ((E.take k).flatMap dM) (by rfl) (lH.out _ ((Below.refl _ _).drew.alloc (Nat.le_refl _) _)).1 (jy _) (by unfold maxLen;omega) (by omega) (by simp<;>omega) ?_
    intro A1 c1 u1 hown0 hb1
    have hB0:Below w.heap.size w u1:=((Below.refl _ _).drew.alloc (Nat.le_refl _) _).trans hb1
    refine hK.out _ _ (fun _=>gq.out _ hB0) (fun hS=> ?_)
    replace hS:=hS (by decide)
    clear hK K
    try simp only[Act.put,List.setIfInBounds_toArray,List.set_cons_zero,List.set_cons_succ]
    refine dh 13 (h:=fun K hK=> ?_)
    go_simp
    refine hK.out _ _ (fun _=>gq.out _ (hB0.alloc hB0.size _)) (fun hS=> ?_)
    replace hS:=hS (by decide)
    clear hK K
    try simp only[Act.put,List.setIfInBounds_toArray,List.set_cons_zero,List.set_cons_succ]
    rw[Nat.zero_add]at hown0
    have hown1:=own_below hown0 ((Below.refl _ _).alloc (Nat.le_refl _) (.cells (dM (d,nm,id)).toArray 131))
    have hrow:=fC (w:=u1) (dM (d,nm,id)) 131 (by simp[dM,maxLen])
    have hB1:Below w.heap.size w (u1.alloc (.cells (dM (d,nm,id)).toArray 131)):=hB0.alloc hB0.size _
    refine aj (rs:=[14]) (by kernel_rfl) (by simp) ?_
    refine ah.cons (o:= ?o5) ?PS (fun K hK=> ?_) ah.nil
    case PS=>simp only[List.getElem?_toArray,List.getElem?_cons_succ,List.getElem?_cons_zero];rfl
    refine au (by rfl) (.tmp 62) (.tmp 67) 100 (by rfl) w.heap.size 131 i _ 3 32 Tryz.underlying100 HI.out.1 HI.out.2.1 HI.out.2.2.1 HI.out.2.2.2 rfl (by omega) _ _ _ (by rfl) hown1 _ 1 _ (dM (d,nm,id)) (by rfl) hrow (nk _) (by unfold maxLen;omega) (by omega) hB1.size ?_
    intro A2 c2 u2 hown2 hb2
    have hB2:Below w.heap.size w u2:=hB1.trans hb2
    refine hK.out _ _ (fun _=>gq.out _ hB2) (fun hS=> ?_)
    replace hS:=hS (by decide)
    clear hK K
    try simp only[Act.put,List.setIfInBounds_toArray,List.set_cons_zero,List.set_cons_succ]
    refine aj (rs:=[21]) (by kernel_rfl) (by simp) ?_
    refine ah.cons (o:= ?o6) ?Tn (fun K hK=> ?_) ah.nil
    case Tn=>simp only[List.getElem?_toArray,List.getElem?_cons_succ,List.getElem?_cons_zero];rfl
    refine au (by rfl) (.tmp 68) (.tmp 74) 100 (by rfl) w.heap.size 131 i _ 3 32 Tryz.underlying100 HI.out.1 HI.out.2.1 HI.out.2.2.1 HI.out.2.2.2 rfl (by omega) _ _ _ (by rfl) hown2 _ (n-k) _ ((E.drop k).flatMap dM) (by rfl) (lH.out _ hB2).2 (jy _) (by unfold maxLen;omega) (by omega) hB2.size ?_
    intro A3 c3 u3 hown3 hb3
    have hB3:Below w.heap.size w u3:=hB2.trans hb3
    refine hK.out _ _ (fun _=>gq.out _ hB3) (fun hS=> ?_)
    replace hS:=hS (by decide)
    clear hK K
    try simp only[Act.put,List.setIfInBounds_toArray,List.set_cons_zero,List.set_cons_succ]
    refine aC 22 (hS:=hS) (h:= ?_)
    refine aC 23 (hS:=hS) (h:= ?_)
    refine dh 24 (h:=fun K hK=> ?_)
    go_simp
    refine hK.out _ _ (fun h=>absurd rfl h) (fun hS=> ?_)
    clear hS hK K
    try simp only[Act.put,List.setIfInBounds_toArray,List.set_cons_zero,List.set_cons_succ]
    refine aG (by kernel_rfl) ?_ _
    refine NoPanic.normal ?_
    go_wp2
    all_goals (
     go_end0
     exact pK PO.out HL.out hkn hB3 (by omega) (by simp) hown3 (by unfold maxLen;omega))
   case JV=>
    go_simp
    refine hK.out _ _ (fun _=>gq.out _ (((Below.refl _ _).drew.alloc (Nat.le_refl _) _).alloc (by simp<;>omega) _)) (fun hS=> ?_)
    replace hS:=hS (by decide)
    clear hK K
    try simp only[Act.put,List.setIfInBounds_toArray,List.set_cons_zero,List.set_cons_succ]
    refine aj (rs:=[8]) (by kernel_rfl) (by simp) ?_
    refine ah.cons (o:= ?o7) ?Tp (fun K hK=> ?_) ah.nil
    case Tp=>simp only[List.getElem?_toArray,List.getElem?_cons_succ,List.getElem?_cons_zero];rfl
    refine bB (by rfl) (.tmp 55) (.tmp 61) 100 (by rfl) w.heap.size 131 i _ 3 32 Tryz.underlying100 HI.out.1 HI.out.2.1 HI.out.2.2.1 HI.out.2.2.2 rfl (by omega) _ 0 [] (by rfl) (bZ (dK w _ _).1 (Nat.le_refl _)) _ k _ ((E.take k).flatMap dM) (by rfl) (lH.out _ (((Below.refl _ _).drew.alloc (Nat.le_refl _) _).alloc (by simp<;>omega) _)).1 (jy _) (by unfold maxLen;omega) (by omega) (by simp<;>omega) ?_
    intro A1 c1 u1 hown1 hb1 hg1
    have hB1:Below w.heap.size w u1:=(((Below.refl _ _).drew.alloc (Nat.le_refl _) _).alloc (by simp<;>omega) _).trans hb1
    have hrow:=(gJ (vs:=dM (d,nm,id)) (dK w (.cells #[] 131) (.cells (dM (d,nm,id)).toArray 131)).2 (by simp[dM,maxLen])).grown hg1 (fun b hb hbw=>by subst hb;simp[Value.ownBlock])
    refine hK.out _ _ (fun _=>gq.out _ hB1) (fun hS=> ?_)
    replace hS:=hS (by decide)
    clear hK K
    try simp only[Act.put,List.setIfInBounds_toArray,List.set_cons_zero,List.set_cons_succ]
    refine aj (rs:=[14]) (by kernel_rfl) (by simp) ?_
    refine ah.cons (o:= ?o8) ?Om (fun K hK=> ?_) ah.nil
    case Om=>simp only[List.getElem?_toArray,List.getElem?_cons_succ,List.getElem?_cons_zero];rfl
    refine au (by rfl) (.tmp 62) (.tmp 67) 100 (by rfl) w.heap.size 131 i _ 3 32 Tryz.underlying100 HI.out.1 HI.out.2.1 HI.out.2.2.1 HI.out.2.2.2 rfl (by omega) _ _ _ (by rfl) hown1 _ 1 _ (dM (d,nm,id)) (by rfl) hrow (nk _) (by unfold maxLen;omega) (by omega) hB1.size ?_
    intro A2 c2 u2 hown2 hb2
    have hB2:Below w.heap.size w u2:=hB1.trans hb2
    refine hK.out _ _ (fun _=>gq.out _ hB2) (fun hS=> ?_)
    replace hS:=hS (by decide)
    clear hK K
    try simp only[Act.put,List.setIfInBounds_toArray,List.set_cons_zero,List.set_cons_succ]
    refine aj (rs:=[21]) (by kernel_rfl) (by simp) ?_
    refine ah.cons (o:= ?o9) ?Tq (fun K hK=> ?_) ah.nil
    case Tq=>simp only[List.getElem?_toArray,List.getElem?_cons_succ,List.getElem?_cons_zero];rfl
    refine au (by rfl) (.tmp 68) (.tmp 74) 100 (by rfl) w.heap.size 131 i _ 3 32 Tryz.underlying100 HI.out.1 HI.out.2.1 HI.out.2.2.1 HI.out.2.2.2 rfl (by omega) _ _ _ (by rfl) hown2 _ (n-k) _ ((E.drop k).flatMap dM) (by rfl) (lH.out _ hB2).2 (jy _) (by unfold maxLen;omega) (by omega) hB2.size ?_
    intro A3 c3 u3 hown3 hb3
    have hB3:Below w.heap.size w u3:=hB2.trans hb3
    refine hK.out _ _ (fun _=>gq.out _ hB3) (fun hS=> ?_)
    replace hS:=hS (by decide)
    clear hK K
    try simp only[Act.put,List.setIfInBounds_toArray,List.set_cons_zero,List.set_cons_succ]
    refine aC 22 (hS:=hS) (h:= ?_)
    refine aC 23 (hS:=hS) (h:= ?_)
    refine dh 24 (h:=fun K hK=> ?_)
    go_simp
    refine hK.out _ _ (fun h=>absurd rfl h) (fun hS=> ?_)
    clear hS hK K
    try simp only[Act.put,List.setIfInBounds_toArray,List.set_cons_zero,List.set_cons_succ]
    refine aG (by kernel_rfl) ?_ _
    refine NoPanic.normal ?_
    go_wp2
    all_goals (
     go_end0
     exact pK PO.out HL.out hkn hB3 (by omega) (by simp) hown3 (by unfold maxLen;omega))
  case wb=>
   go_simp
   refine hK.out _ _ (fun _=>gq.out _ ((Below.refl _ _).drew.alloc (Nat.le_refl _) _)) (fun hS=> ?_)
   replace hS:=hS (by decide)
   clear hK K
   try simp only[Act.put,List.setIfInBounds_toArray,List.set_cons_zero,List.set_cons_succ]
   refine dh 1 (h:=fun K hK=> ?_)
   go_simp
   refine hK.out _ _ (fun _=>gq.out _ (((Below.refl _ _).drew.alloc (Nat.le_refl _) _).alloc (by simp<;>omega) _)) (fun hS=> ?_)
   replace hS:=hS (by decide)
   clear hK K
   try simp only[Act.put,List.setIfInBounds_toArray,List.set_cons_zero,List.set_cons_succ]
   refine aj (rs:=[8]) (by kernel_rfl) (by simp) ?_
   refine ah.cons (o:= ?Z4) ?JW (fun K hK=> ?_) ah.nil
   case JW=>simp only[List.getElem?_toArray,List.getElem?_cons_succ,List.getElem?_cons_zero];rfl
   refine bB (by rfl) (.tmp 55) (.tmp 61) 100 (by rfl) w.heap.size 131 i _ 3 32 Tryz.underlying100 HI.out.1 HI.out.2.1 HI.out.2.2.1 HI.out.2.2.2 rfl (by omega) _ 0 [] (by rfl) (bZ (dK w _ _).2 (by omega)) _ k _ ((E.take k).flatMap dM) (by rfl) (lH.out _ (((Below.refl _ _).drew.alloc (Nat.le_refl _) _).alloc (by simp<;>omega) _)).1 (jy _) (by unfold maxLen;omega) (by omega) (by simp<;>omega) ?_
   intro A1 c1 u1 hown1 hb1 hg1
   have hB1:Below w.heap.size w u1:=(((Below.refl _ _).drew.alloc (Nat.le_refl _) _).alloc (by simp<;>omega) _).trans hb1
   have hrow:=(gJ (vs:=dM (d,nm,id)) (dK w (.cells (dM (d,nm,id)).toArray 131) (.cells #[] 131)).1 (by simp[dM,maxLen])).grown hg1 (fun b hb hbw=>by subst hb;simp[Value.ownBlock])
   refine hK.out _ _ (fun _=>gq.out _ hB1) (fun hS=> ?_)
   replace hS:=hS (by decide)
   clear hK K
   try simp only[Act.put,List.setIfInBounds_toArray,List.set_cons_zero,List.set_cons_succ]
   refine aj (rs:=[14]) (by kernel_rfl) (by simp) ?_
   refine ah.cons (o:= ?Z5) ?JX (fun K hK=> ?_) ah.nil
   case JX=>simp only[List.getElem?_toArray,List.getElem?_cons_succ,List.getElem?_cons_zero];rfl
   refine au (by rfl) (.tmp 62) (.tmp 67) 100 (by rfl) w.heap.size 131 i _ 3 32 Tryz.underlying100 HI.out.1 HI.out.2.1 HI.out.2.2.1 HI.out.2.2.2 rfl (by omega) _ _ _ (by rfl) hown1 _ 1 _ (dM (d,nm,id)) (by rfl) hrow (nk _) (by unfold maxLen;omega) (by omega) hB1.size ?_
   intro A2 c2 u2 hown2 hb2
   have hB2:Below w.heap.size w u2:=hB1.trans hb2
   refine hK.out _ _ (fun _=>gq.out _ hB2) (fun hS=> ?_)
   replace hS:=hS (by decide)
   clear hK K
   try simp only[Act.put,List.setIfInBounds_toArray,List.set_cons_zero,List.set_cons_succ]
   refine aj (rs:=[21]) (by kernel_rfl) (by simp) ?_
   refine ah.cons (o:= ?Z6) ?JY (fun K hK=> ?_) ah.nil
   case JY=>simp only[List.getElem?_toArray,List.getElem?_cons_succ,List.getElem?_cons_zero];rfl
   refine au (by rfl) (.tmp 68) (.tmp 74) 100 (by rfl) w.heap.size 131 i _ 3 32 Tryz.underlying100 HI.out.1 HI.out.2.1 HI.out.2.2.1 HI.out.2.2.2 rfl (by omega) _ _ _ (by rfl) hown2 _ (n-k) _ ((E.drop k).flatMap dM) (by rfl) (lH.out _ hB2).2 (jy _) (by unfold maxLen;omega) (by omega) hB2.size ?_
   intro A3 c3 u3 hown3 hb3
   have hB3:Below w.heap.size w u3:=hB2.trans hb3
   refine hK.out _ _ (fun _=>gq.out _ hB3) (fun hS=> ?_)
   replace hS:=hS (by decide)
   clear hK K
   try simp only[Act.put,List.setIfInBounds_toArray,List.set_cons_zero,List.set_cons_succ]
   refine aC 22 (hS:=hS) (h:= ?_)
   refine aC 23 (hS:=hS) (h:= ?_)
   refine dh 24 (h:=fun K hK=> ?_)
   go_simp
   refine hK.out _ _ (fun h=>absurd rfl h) (fun hS=> ?_)
   clear hS hK K
   try simp only[Act.put,List.setIfInBounds_toArray,List.set_cons_zero,List.set_cons_succ]
   refine aG (by kernel_rfl) ?_ _
   refine NoPanic.normal ?_
   go_wp2
   all_goals (
    go_end0
    exact pK PO.out HL.out hkn hB3 (by omega) (by simp) hown3 (by unfold maxLen;omega))
set_option maxHeartbeats 4000000 in
theorem JZ (d:Int) (nm:Nm) (id:Int) (w:World) (hc2:w.cell? ⟨r,2,none⟩=some (.slice none 0 0)) (hrw:r<w.heap.size) (hfr:w.frozen? ⟨r,2,none⟩=false):
  Calls Tryz.prog 65 #[ptr r, .int .i64 d, .string (strOf nm), .int .i64 id] w (wG w r (mQ [] d nm id)):=by
 obtain⟨i,hi,hz,h3,h32⟩:=info_parts uS
 have HI:=Lib.hid (And.intro hi (And.intro hz (And.intro h3 h32)))
 have gq:Hid (∀w1,Below w.heap.size w w1→w1.cell? ⟨r,2,none⟩=some (.slice none 0 0)∧w1.frozen? ⟨r,2,none⟩=false):=fun w1 hb=>⟨by rw[hb.cell (p:=⟨r,2,none⟩) hrw];exact hc2,by rw[hb.frozen (p:=⟨r,2,none⟩) hrw];exact hfr⟩
 have lH:Hid (∀w1:World,ak (fun _=>True) w1 none (0*3) []∧ak (fun _=>True) w1 none (0*3) []):=fun w1=>⟨ak.zero _ _ _ rfl rfl,ak.zero _ _ _ rfl rfl⟩
 clear hi hz h3 h32
 go_enter Tryz.func65,Tryz.ntmps65
 go_upto_block 0 with(fail)
 go_cut [8]from 9 to 53 (fun i wx=>i= .int .i64 0∧w=wx)
 case first=>
  go_wp2_with fail
  go_loop [8] (fun i=>i= .int .i64 0) (fun _=>0)
  case atStart=>rfl
  case round=>
   subst hrel
   go_wp2
   go_meet
   exact⟨rfl,rfl⟩
 case rest=>
  obtain⟨rfl,rfl⟩:=hcut
  go_wp2
  refine wp_region_noPanic ?_
  refine aH (last:=24) (S:=(fun w'=>w'.cell? ⟨r,2,none⟩=some (.slice none 0 0)∧w'.frozen? ⟨r,2,none⟩=false)) (by kernel_rfl) ?_ (fun hS=> ?_)
  ·exact gq.out _ (Below.refl _ _).drew
  refine aC 0 (hS:=hS) (h:= ?_)
  refine aC 2 (hS:=hS) (h:= ?_)
  refine aC 3 (hS:=hS) (h:= ?_)
  refine aC 4 (hS:=hS) (h:= ?_)
  refine aC 5 (hS:=hS) (h:= ?_)
  refine aC 6 (hS:=hS) (h:= ?_)
  refine aC 7 (hS:=hS) (h:= ?_)
  refine aC 9 (hS:=hS) (h:= ?_)
  refine aC 10 (hS:=hS) (h:= ?_)
  refine aC 11 (hS:=hS) (h:= ?_)
  refine aC 12 (hS:=hS) (h:= ?_)
  refine aC 15 (hS:=hS) (h:= ?_)
  refine aC 16 (hS:=hS) (h:= ?_)
  refine aC 17 (hS:=hS) (h:= ?_)
  refine aC 18 (hS:=hS) (h:= ?_)
  refine aC 19 (hS:=hS) (h:= ?_)
  refine aC 20 (hS:=hS) (h:= ?_)
  refine aj (rs:=[1,13]) (by kernel_rfl) (by simp) ?_
  refine ah.cons (o:= ?Z7) ?J2 (fun K hK=> ?wa) (ah.cons (o:= ?Z8) ?J3 (fun K hK=> ?wb) ah.nil)
  case J2=>simp only[List.getElem?_toArray,List.getElem?_cons_succ,List.getElem?_cons_zero];rfl
  case J3=>simp only[List.getElem?_toArray,List.getElem?_cons_succ,List.getElem?_cons_zero];rfl
  case wa=>
   go_simp
   refine hK.out _ _ (fun _=>gq.out _ ((Below.refl _ _).drew.alloc (Nat.le_refl _) _)) (fun hS=> ?_)
   replace hS:=hS (by decide)
   clear hK K
   try simp only[Act.put,List.setIfInBounds_toArray,List.set_cons_zero,List.set_cons_succ]
   refine aj (rs:=[8,13]) (by kernel_rfl) (by simp) ?_
   refine ah.cons (o:= ?Z9) ?J4 (fun K hK=> ?JU) (ah.cons (o:= ?o16) ?J5 (fun K hK=> ?JV) ah.nil)
   case J4=>simp only[List.getElem?_toArray,List.getElem?_cons_succ,List.getElem?_cons_zero];rfl
   case J5=>simp only[List.getElem?_toArray,List.getElem?_cons_succ,List.getElem?_cons_zero];rfl
   case JU=>
    refine au (by rfl) (.tmp 55) (.tmp 61) 100 (by rfl) w.heap.size 131 i _ 3 32 Tryz.underlying100 HI.out.1 HI.out.2.1 HI.out.2.2.1 HI.out.2.2.2 rfl (by omega) _ 0 [] (by rfl) (bZ (MapKept.heap_alloc w.drew _).1 (Nat.le_refl _)) _ 0 _ [] (by rfl) (lH.out _).1 (fun u hu=>by cases hu) (by unfold maxLen;omega) (by omega) (by simp<;>omega) ?_
    intro A1 c1 u1 hown0 hb1
    have hB0:Below w.heap.size w u1:=((Below.refl _ _).drew.alloc (Nat.le_refl _) _).trans hb1
    refine hK.out _ _ (fun _=>gq.out _ hB0) (fun hS=> ?_)
    replace hS:=hS (by decide)
    clear hK K
    try simp only[Act.put,List.setIfInBounds_toArray,List.set_cons_zero,List.set_cons_succ]
    refine dh 13 (h:=fun K hK=> ?_)
    go_simp
    refine hK.out _ _ (fun _=>gq.out _ (hB0.alloc hB0.size _)) (fun hS=> ?_)
    replace hS:=hS (by decide)
    clear hK K
    try simp only[Act.put,List.setIfInBounds_toArray,List.set_cons_zero,List.set_cons_succ]
    have hown1:=own_below hown0 ((Below.refl _ _).alloc (Nat.le_refl _) (.cells (dM (d,nm,id)).toArray 131))
    have hrow:=fC (w:=u1) (dM (d,nm,id)) 131 (by simp[dM,maxLen])
    have hB1:Below w.heap.size w (u1.alloc (.cells (dM (d,nm,id)).toArray 131)):=hB0.alloc hB0.size _
    refine aj (rs:=[14]) (by kernel_rfl) (by simp) ?_
    refine ah.cons (o:= ?Z_) ?J6 (fun K hK=> ?_) ah.nil
    case J6=>simp only[List.getElem?_toArray,List.getElem?_cons_succ,List.getElem?_cons_zero];rfl
    refine au (by rfl) (.tmp 62) (.tmp 67) 100 (by rfl) w.heap.size 131 i _ 3 32 Tryz.underlying100 HI.out.1 HI.out.2.1 HI.out.2.2.1 HI.out.2.2.2 rfl (by omega) _ _ _ (by rfl) hown1 _ 1 _ (dM (d,nm,id)) (by rfl) hrow (nk _) (by unfold maxLen;omega) (by omega) hB1.size ?_
    intro A2 c2 u2 hown2 hb2
    have hB2:Below w.heap.size w u2:=hB1.trans hb2
    refine hK.out _ _ (fun _=>gq.out _ hB2) (fun hS=> ?_)
    replace hS:=hS (by decide)
    clear hK K
    try simp only[Act.put,List.setIfInBounds_toArray,List.set_cons_zero,List.set_cons_succ]
    refine aj (rs:=[21]) (by kernel_rfl) (by simp) ?_
    refine ah.cons (o:= ?o18) ?J7 (fun K hK=> ?_) ah.nil
    case J7=>simp only[List.getElem?_toArray,List.getElem?_cons_succ,List.getElem?_cons_zero];rfl
    refine au (by rfl) (.tmp 68) (.tmp 74) 100 (by rfl) w.heap.size 131 i _ 3 32 Tryz.underlying100 HI.out.1 HI.out.2.1 HI.out.2.2.1 HI.out.2.2.2 rfl (by omega) _ _ _ (by rfl) hown2 _ 0 _ [] (by rfl) (lH.out _).2 (fun u hu=>by cases hu) (by unfold maxLen;omega) (by omega) hB2.size ?_
    intro A3 c3 u3 hown3 hb3
    have hB3:Below w.heap.size w u3:=hB2.trans hb3
    refine hK.out _ _ (fun _=>gq.out _ hB3) (fun hS=> ?_)
    replace hS:=hS (by decide)
    clear hK K
    try simp only[Act.put,List.setIfInBounds_toArray,List.set_cons_zero,List.set_cons_succ]
    refine aC 22 (hS:=hS) (h:= ?_)
    refine aC 23 (hS:=hS) (h:= ?_)
    refine dh 24 (h:=fun K hK=> ?_)
    go_simp
    refine hK.out _ _ (fun h=>absurd rfl h) (fun hS=> ?_)
    clear hS hK K
    try simp only[Act.put,List.setIfInBounds_toArray,List.set_cons_zero,List.set_cons_succ]
    refine aG (by kernel_rfl) ?_ _
    refine NoPanic.normal ?_
    go_wp2
    all_goals (
     go_end0
     exact pK (E:=[]) (k:=0) (m:=0) (n:=0) rfl rfl (Nat.le_refl _) hB3 rfl rfl hown3 (by unfold maxLen;omega))
   case JV=>
    go_simp
    refine hK.out _ _ (fun _=>gq.out _ (((Below.refl _ _).drew.alloc (Nat.le_refl _) _).alloc (by simp<;>omega) _)) (fun hS=> ?_)
    replace hS:=hS (by decide)
    clear hK K
    try simp only[Act.put,List.setIfInBounds_toArray,List.set_cons_zero,List.set_cons_succ]
    refine aj (rs:=[8]) (by kernel_rfl) (by simp) ?_
    refine ah.cons (o:= ?o19) ?J8 (fun K hK=> ?_) ah.nil
    case J8=>simp only[List.getElem?_toArray,List.getElem?_cons_succ,List.getElem?_cons_zero];rfl
    refine bB (by rfl) (.tmp 55) (.tmp 61) 100 (by rfl) w.heap.size 131 i _ 3 32 Tryz.underlying100 HI.out.1 HI.out.2.1 HI.out.2.2.1 HI.out.2.2.2 rfl (by omega) _ 0 [] (by rfl) (bZ (dK w _ _).1 (Nat.le_refl _)) _ 0 _ [] (by rfl) (lH.out _).1 (fun u hu=>by cases hu) (by unfold maxLen;omega) (by omega) (by simp<;>omega) ?_
    intro A1 c1 u1 hown1 hb1 hg1
    have hB1:Below w.heap.size w u1:=(((Below.refl _ _).drew.alloc (Nat.le_refl _) _).alloc (by simp<;>omega) _).trans hb1
    have hrow:=(gJ (vs:=dM (d,nm,id)) (dK w (.cells #[] 131) (.cells (dM (d,nm,id)).toArray 131)).2 (by simp[dM,maxLen])).grown hg1 (fun b hb hbw=>by subst hb;simp[Value.ownBlock])
    refine hK.out _ _ (fun _=>gq.out _ hB1) (fun hS=> ?_)
    replace hS:=hS (by decide)
    clear hK K
    try simp only[Act.put,List.setIfInBounds_toArray,List.set_cons_zero,List.set_cons_succ]
    refine aj (rs:=[14]) (by kernel_rfl) (by simp) ?_
    refine ah.cons (o:= ?o20) ?J9 (fun K hK=> ?_) ah.nil
    case J9=>simp only[List.getElem?_toArray,List.getElem?_cons_succ,List.getElem?_cons_zero];rfl
    refine au (by rfl) (.tmp 62) (.tmp 67) 100 (by rfl) w.heap.size 131 i _ 3 32 Tryz.underlying100 HI.out.1 HI.out.2.1 HI.out.2.2.1 HI.out.2.2.2 rfl (by omega) _ _ _ (by rfl) hown1 _ 1 _ (dM (d,nm,id)) (by rfl) hrow (nk _) (by unfold maxLen;omega) (by omega) hB1.size ?_
    intro A2 c2 u2 hown2 hb2
    have hB2:Below w.heap.size w u2:=hB1.trans hb2
    refine hK.out _ _ (fun _=>gq.out _ hB2) (fun hS=> ?_)
    replace hS:=hS (by decide)
    clear hK K
    try simp only[Act.put,List.setIfInBounds_toArray,List.set_cons_zero,List.set_cons_succ]
    refine aj (rs:=[21]) (by kernel_rfl) (by simp) ?_
    refine ah.cons (o:= ?o21) ?J_ (fun K hK=> ?_) ah.nil
    case J_=>simp only[List.getElem?_toArray,List.getElem?_cons_succ,List.getElem?_cons_zero];rfl
    refine au (by rfl) (.tmp 68) (.tmp 74) 100 (by rfl) w.heap.size 131 i _ 3 32 Tryz.underlying100 HI.out.1 HI.out.2.1 HI.out.2.2.1 HI.out.2.2.2 rfl (by omega) _ _ _ (by rfl) hown2 _ 0 _ [] (by rfl) (lH.out _).2 (fun u hu=>by cases hu) (by unfold maxLen;omega) (by omega) hB2.size ?_
    intro A3 c3 u3 hown3 hb3
    have hB3:Below w.heap.size w u3:=hB2.trans hb3
    refine hK.out _ _ (fun _=>gq.out _ hB3) (fun hS=> ?_)
    replace hS:=hS (by decide)
    clear hK K
    try simp only[Act.put,List.setIfInBounds_toArray,List.set_cons_zero,List.set_cons_succ]
    refine aC 22 (hS:=hS) (h:= ?_)
    refine aC 23 (hS:=hS) (h:= ?_)
    refine dh 24 (h:=fun K hK=> ?_)
    go_simp
    refine hK.out _ _ (fun h=>absurd rfl h) (fun hS=> ?_)
    clear hS hK K
    try simp only[Act.put,List.setIfInBounds_toArray,List.set_cons_zero,List.set_cons_succ]
    refine aG (by kernel_rfl) ?_ _
    refine NoPanic.normal ?_
    go_wp2
    all_goals (
     go_end0
     exact pK (E:=[]) (k:=0) (m:=0) (n:=0) rfl rfl (Nat.le_refl _) hB3 rfl rfl hown3 (by unfold maxLen;omega))
  case wb=>
   go_simp
   refine hK.out _ _ (fun _=>gq.out _ ((Below.refl _ _).drew.alloc (Nat.le_refl _) _)) (fun hS=> ?_)
   replace hS:=hS (by decide)
   clear hK K
   try simp only[Act.put,List.setIfInBounds_toArray,List.set_cons_zero,List.set_cons_succ]
   refine dh 1 (h:=fun K hK=> ?_)
   go_simp
   refine hK.out _ _ (fun _=>gq.out _ (((Below.refl _ _).drew.alloc (Nat.le_refl _) _).alloc (by simp<;>omega) _)) (fun hS=> ?_)
   replace hS:=hS (by decide)
   clear hK K
   try simp only[Act.put,List.setIfInBounds_toArray,List.set_cons_zero,List.set_cons_succ]
   refine aj (rs:=[8]) (by kernel_rfl) (by simp) ?_
   refine ah.cons (o:= ?o22) ?Ka (fun K hK=> ?_) ah.nil
   case Ka=>simp only[List.getElem?_toArray,List.getElem?_cons_succ,List.getElem?_cons_zero];rfl
   refine bB (by rfl) (.tmp 55) (.tmp 61) 100 (by rfl) w.heap.size 131 i _ 3 32 Tryz.underlying100 HI.out.1 HI.out.2.1 HI.out.2.2.1 HI.out.2.2.2 rfl (by omega) _ 0 [] (by rfl) (bZ (dK w _ _).2 (by omega)) _ 0 _ [] (by rfl) (lH.out _).1 (fun u hu=>by cases hu) (by unfold maxLen;omega) (by omega) (by simp<;>omega) ?_
   intro A1 c1 u1 hown1 hb1 hg1
   have hB1:Below w.heap.size w u1:=(((Below.refl _ _).drew.alloc (Nat.le_refl _) _).alloc (by simp<;>omega) _).trans hb1
   have hrow:=(gJ (vs:=dM (d,nm,id)) (dK w (.cells (dM (d,nm,id)).toArray 131) (.cells #[] 131)).1 (by simp[dM,maxLen])).grown hg1 (fun b hb hbw=>by subst hb;simp[Value.ownBlock])
   refine hK.out _ _ (fun _=>gq.out _ hB1) (fun hS=> ?_)
   replace hS:=hS (by decide)
   clear hK K
   try simp only[Act.put,List.setIfInBounds_toArray,List.set_cons_zero,List.set_cons_succ]
   refine aj (rs:=[14]) (by kernel_rfl) (by simp) ?_
   refine ah.cons (o:= ?o23) ?Kc (fun K hK=> ?_) ah.nil
   case Kc=>simp only[List.getElem?_toArray,List.getElem?_cons_succ,List.getElem?_cons_zero];rfl
   refine au (by rfl) (.tmp 62) (.tmp 67) 100 (by rfl) w.heap.size 131 i _ 3 32 Tryz.underlying100 HI.out.1 HI.out.2.1 HI.out.2.2.1 HI.out.2.2.2 rfl (by omega) _ _ _ (by rfl) hown1 _ 1 _ (dM (d,nm,id)) (by rfl) hrow (nk _) (by unfold maxLen;omega) (by omega) hB1.size ?_
   intro A2 c2 u2 hown2 hb2
   have hB2:Below w.heap.size w u2:=hB1.trans hb2
   refine hK.out _ _ (fun _=>gq.out _ hB2) (fun hS=> ?_)
   replace hS:=hS (by decide)
   clear hK K
   try simp only[Act.put,List.setIfInBounds_toArray,List.set_cons_zero,List.set_cons_succ]
   refine aj (rs:=[21]) (by kernel_rfl) (by simp) ?_
   refine ah.cons (o:= ?o24) ?Ke (fun K hK=> ?_) ah.nil
   case Ke=>simp only[List.getElem?_toArray,List.getElem?_cons_succ,List.getElem?_cons_zero];rfl
   refine au (by rfl) (.tmp 68) (.tmp 74) 100 (by rfl) w.heap.size 131 i _ 3 32 Tryz.underlying100 HI.out.1 HI.out.2.1 HI.out.2.2.1 HI.out.2.2.2 rfl (by omega) _ _ _ (by rfl) hown2 _ 0 _ [] (by rfl) (lH.out _).2 (fun u hu=>by cases hu) (by unfold maxLen;omega) (by omega) hB2.size ?_
   intro A3 c3 u3 hown3 hb3
   have hB3:Below w.heap.size w u3:=hB2.trans hb3
   refine hK.out _ _ (fun _=>gq.out _ hB3) (fun hS=> ?_)
   replace hS:=hS (by decide)
   clear hK K
   try simp only[Act.put,List.setIfInBounds_toArray,List.set_cons_zero,List.set_cons_succ]
   refine aC 22 (hS:=hS) (h:= ?_)
   refine aC 23 (hS:=hS) (h:= ?_)
   refine dh 24 (h:=fun K hK=> ?_)
   go_simp
   refine hK.out _ _ (fun h=>absurd rfl h) (fun hS=> ?_)
   clear hS hK K
   try simp only[Act.put,List.setIfInBounds_toArray,List.set_cons_zero,List.set_cons_succ]
   refine aG (by kernel_rfl) ?_ _
   refine NoPanic.normal ?_
   go_wp2
   all_goals (
    go_end0
    exact pK (E:=[]) (k:=0) (m:=0) (n:=0) rfl rfl (Nat.le_refl _) hB3 rfl rfl hown3 (by unfold maxLen;omega))
theorem M6 (d:Int) (nm:Nm) (id:Int) (w:World) (h:eX F w r T D E) (Tm:E.length≤1000000):
  Calls Tryz.prog 65 #[ptr r, .int .i64 d, .string (strOf nm), .int .i64 id] w (cu F w r T D (mQ E d nm id) (.tuple #[])):=by
 obtain⟨aN,cN,aD,cD,aE,cE,h1,h2,h3,h4,h8,h9,h10,h11⟩:=h.head
 have hc:w.cell? ⟨r,2,none⟩=some (.slice aE E.length cE):=by simp[World.cell?,h1]
 rcases h11 with⟨rfl,rfl⟩|⟨b,rfl⟩
 ·have hE:E=[]:=List.eq_nil_of_length_eq_zero (by omega)
  rw[hE]at hc⊢
  exact(JZ d nm id w hc (h.low r h.own) (ak.frozen h1 rfl)).mono fun e w' hs=>wH h hs
 ·exact(F3 d nm id w b E.length cE hc (h.low r h.own) (ak.frozen h1 rfl) rfl h4 Tm h10).mono fun e w' hs=>wH h hs
end
end Go.Proofs.YtohpcppeajijnaaGreat
