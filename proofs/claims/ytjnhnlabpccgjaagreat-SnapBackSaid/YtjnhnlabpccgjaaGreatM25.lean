/- The reference: add. The reference: gone. The reference: links. The reference: its small steps, on trees. The reference: Link. The reference: List. -/
import Derived.Test.YtjnhnlabpccgjaaGreatM24
import Derived.WalkLawsBesides
import Derived.Deep.CutBlock
import Derived.Deep.DeepCutAuto
import Derived.Test.YtjnhnlabpccgjaaGreatM18
namespace Go.Proofs.YtjnhnlabpccgjaaGreat
open Go.ChangeShapes Go.WideShapes Go.ChangeAt Go.RowKit
set_option linter.unusedVariables false
set_option linter.unusedSimpArgs false
def Hy (E:List jm) (d:Int) (nm:Nm) (w:World) (v:Value) (wx:World):Prop:=
 ∃k:Nat,k≤E.length∧v= .int .i64 k∧oF E d nm=(fun id=>E.take k++(d,nm,id)::E.drop k)∧w=wx
theorem Hy.of {E:List jm} {d:Int} {nm:Nm} {w:World} {k:Nat} (hk:k≤E.length) (ha:(E.take k).all (kr d nm)=true) (hx:∀x,E[k]? =some x→kr d nm x=false):Hy E d nm w (.int .i64 k) w:=by
 refine⟨k,hk,rfl,?_,rfl⟩
 obtain⟨h1,h2⟩:=tJ ha hx hk
 funext id
 unfold oF
 rw[h1,h2]
theorem sQ {α:Type} {p:α→Bool} {l:List α} {k:Nat} {x:α} (h:(l.take k).all p=true) (hx:l[k]? =some x) (hp:p x=true):(l.take (k+1)).all p=true:=by
 obtain⟨hk,e⟩:=List.getElem?_eq_some_iff.1 hx
 rw[List.take_succ_eq_append_getElem hk,List.all_append,h,e]
 simp[hp]
theorem oZ (e:jm):∀u∈eB e,u.oneCell'=true:=by
 intro u hu
 simp only[eB,List.mem_cons,List.not_mem_nil,or_false]at hu
 rcases hu with rfl|rfl|rfl<;>rfl
theorem su {w u:World} {r:Nat} {E:List jm} {d id:Int} {nm:Nm} {k m n c:Nat} {A:Option Addr} {ys:List Value} (hadd:oF E d nm=fun id=>E.take k++(d,nm,id)::E.drop k) (hl:E.length=n) (hk:k≤n) (hB:Below w.heap.size w u) (hmk:m=k) (hys:ys=(E.take k).flatMap eB)
  (hown:u.ownsRow w.heap.size 103 3 (.slice A (m+1+(n-k)) c) (m+1+(n-k)) ((ys++eB (d,nm,id))++(E.drop k).flatMap eB)) (hm:(m+1+(n-k))*3≤maxLen):
  zP w r (oF E d nm id) (.returned (.tuple #[])) (u.setCell ⟨r,2,none⟩ (.slice A (k+1+(n-k)) c)):=by
 subst hmk hys
 have hlen:(oF E d nm id).length=m+1+(n-m):=by rw[hadd];simp;omega
 have e5:m+1+(n-m)=(oF E d nm id).length:=by omega
 obtain⟨-,hcc,hnz,hrow2⟩:=ah.lM hown hm
 rw[e5]at hcc hrow2
 refine⟨rfl,A,c,u,hB,by rw[hlen],hcc,hnz,?_⟩
 have e6:(oF E d nm id).flatMap eB=((E.take m).flatMap eB++eB (d,nm,id))++(E.drop m).flatMap eB:=by rw[hadd];simp
 rw[e6]
 exact hrow2
theorem kS {w:World} {g:Nat} {vs:List Value} {t:TypeId} {z:Nat×Nat} (h:w.heap[g]? =some (.cells vs.toArray t z)) (hm:vs.length≤maxLen):ah (fun x=>x=g) w (some ⟨g,0,none⟩) vs.length vs:=by
 refine⟨rfl,hm,fun _=>⟨g,0,rfl,rfl,(Array.getElem?_eq_some_iff.1 h).1,fun i hi=> ?_⟩⟩
 simp[World.cell?,h]
theorem gV (w:World) (o o':Obj):((w.alloc o).alloc o').drew.heap[w.heap.size]? =some o∧((w.alloc o).alloc o').drew.heap[w.heap.size+1]? =some o':=by
 constructor
 ·have:=(MapKept.heap_alloc w o).1
  have h2:=Below.heap_alloc (w.alloc o) o' w.heap.size (by simp)
  exact h2.trans this
 ·have:=(MapKept.heap_alloc (w.alloc o) o').1
  have hs:(w.alloc o).heap.size=w.heap.size+1:=by simp
  rw[hs]at this
  exact this
section
variable {F:Nat→Prop} {r:Nat} {T:aA} {D:List (List UInt8)} {E:List jm}
set_option maxHeartbeats 4000000 in
theorem K7 (d:Int) (nm:Nm) (id:Int) (w:World) (b n cE:Nat) (hc2:w.cell? ⟨r,2,none⟩=some (.slice (some ⟨b,0,none⟩) n cE)) (hrw:r<w.heap.size) (hfr:w.frozen? ⟨r,2,none⟩=false) (hn:E.length=n) (hcap:n≤cE) (YV:n≤1000000) (hrow:ah F w (some ⟨b,0,none⟩) (n*3) (E.flatMap eB)):
  Calls Tryz.prog 76 #[ptr r, .int .i64 d, .string (strOf nm), .int .i64 id] w (zP w r (oF E d nm id)):=by
 obtain⟨i,hi,hz,h3,h32⟩:=info_parts yw
 have HI:=Lib.hid (And.intro hi (And.intro hz (And.intro h3 h32)))
 have HN:=Lib.hid hrow
 have HL:=Lib.hid hn
 have iK:Hid (∀w1,Below w.heap.size w w1→w1.cell? ⟨r,2,none⟩=some (.slice (some ⟨b,0,none⟩) n cE)∧w1.frozen? ⟨r,2,none⟩=false):=fun w1 hb=>⟨by rw[hb.cell (p:=⟨r,2,none⟩) hrw];exact hc2,by rw[hb.frozen (p:=⟨r,2,none⟩) hrw];exact hfr⟩
 clear hrow hn hi hz h3 h32
 go_enter Tryz.func76,Tryz.ntmps76
 go_upto_block 0 with(fail)
 go_cut [8]from 9 to 53 (fun i wx=>Hy E d nm w i wx)
 case first=>
  go_wp2_with fail
  go_loop [8] (fun i=>∃k:Nat,k≤n∧i= .int .i64 k∧(E.take k).all (kr d nm)=true) (fun i=>n-(intOf i).toNat)
  case atStart=>exact⟨0,by omega,rfl,by simp⟩
  case round=>
   obtain⟨k,hk,rfl,hall⟩:=hrel
   have HA:=Lib.hid hall
   clear hall
   by_cases hlt:k<n
   ·have hx:E[k]? =some (E[k]'(by have:=HL.out;omega)):=List.getElem?_eq_getElem _
    obtain⟨q,hq⟩:∃q,q=E[k]'(by have:=HL.out;omega):=⟨_,rfl⟩
    rw[←hq]at hx
    have HX:=Lib.hid hx
    obtain⟨b',off',e,hF,hb,hi,hc⟩:=HN.out.wide jE HL.out hx (by omega)
    simp only[Option.some.injEq,Addr.mk.injEq,and_true]at e
    obtain⟨rfl,rfl⟩:=e
    have c0:w.cell? ⟨b,k*3,none⟩=some (.int .i64 q.1):=by have:=hc 0 (by omega);rwa [Nat.zero_add]at this
    have c1:w.cell? ⟨b,k*3+1,none⟩=some (.string (strOf q.2.1)):=by have:=hc 1 (by omega);rwa [Nat.zero_add]at this
    clear hx hq hc
    have i0:(0:Int)≤k:=by omega
    have i1:(k:Int)<n:=by omega
    have hls:Op.bytesLess (strOf q.2.1).toList (strOf nm).toList=bytesBefore q.2.1 nm:=by rw[dB,dB,Js]
    have HR:Hid (kr d nm q=true→(E.take (k+1)).all (kr d nm)=true):=fun h=>sQ HA.out HX.out h
    have HO:Hid (kr d nm q=false→Hy E d nm w (.int .i64 k) w):=fun h=>Hy.of (by have:=HL.out;omega) HA.out fun x hx=>by have:=HX.out;rw[this]at hx;cases hx;exact h
    by_cases hp:q.1<d
    ·have e1:decide (q.1<d)=true:=by simpa using hp
     replace HR:=Lib.hid (HR.out (by simp[kr,hp]))
     clear hp HO
     go_wp2
     go_round
     case rel=>exact⟨k+1,by omega,by go_num,HR.out⟩
     case measure=>simp[intOf];omega
    ·have e1:decide (q.1<d)=false:=by simpa using hp
     by_cases hp2:q.1=d
     ·have e2:(q.1==d)=true:=by simpa using hp2
      cases hp3:bytesBefore q.2.1 nm with
      |true=>
       rw[hp3]at hls
       replace HR:=Lib.hid (HR.out (by simp[kr,hp2,hp3]))
       clear hp hp2 hp3 HO
       go_wp2
       go_round
       case rel=>exact⟨k+1,by omega,by go_num,HR.out⟩
       case measure=>simp[intOf];omega
      |false=>
       rw[hp3]at hls
       replace HO:=Lib.hid (HO.out (by simp[kr,hp2,hp3]))
       clear hp hp2 hp3 HR
       go_wp2
       go_meet
       exact HO.out
     ·have e2:(q.1==d)=false:=by simpa using hp2
      replace HO:=Lib.hid (HO.out (by simp[kr,hp,hp2]))
      clear hp hp2 HR hls
      go_wp2
      go_meet
      exact HO.out
   ·have HO:Hid (Hy E d nm w (.int .i64 k) w):=Hy.of (by have:=HL.out;omega) HA.out fun x hx=>by
     have:=HL.out
     rw[List.getElem?_eq_none (by omega)]at hx
     cases hx
    go_wp2
    go_meet
    exact HO.out
 case rest=>
  obtain⟨k,hk,rfl,hadd,rfl⟩:=hcut
  have hkn:k≤n:=by have:=HL.out;omega
  have nJ:Hid (∀w1,Below w.heap.size w w1→ah F w1 (some ⟨b,0,none⟩) (k*3) ((E.take k).flatMap eB)∧ah F w1 (if cE=k then some ⟨b,0,none⟩else some ⟨b,k*3,none⟩) ((n-k)*3) ((E.drop k).flatMap eB)):=fun w1 hb=>by
   have h1:=HN.out.below hb (Nat.le_refl _)
   have h2:=h1.take (k*3)
   rw[nH eB 3 jE,Nat.min_eq_right (by omega)]at h2
   have h4:=h1.drop (k*3)
   rw[nI eB 3 jE,←Nat.sub_mul,Nat.zero_add]at h4
   refine⟨h2,?_⟩
   by_cases hce:cE=k
   ·rw[if_pos hce]
    exact ah.zero _ _ _ (by rw[show n-k=0 by omega,Nat.zero_mul]) (by rw[List.drop_of_length_le (by have:=HL.out;omega)];rfl)
   ·rw[if_neg hce];exact h4
  have i0:(0:Int)≤k:=by omega
  have i1:(k:Int)≤cE:=by omega
  have i2:(k:Int)≤n:=by omega
  have i4:(n:Int)≤cE:=by omega
  have VB:=Lib.hid hadd
  clear hadd hk
  go_wp2
  refine qF 24 ((fun w'=>w'.cell? ⟨r,2,none⟩=some (.slice (some ⟨b,0,none⟩) n cE)∧w'.frozen? ⟨r,2,none⟩=false)) ?_ fun hS=> ?_
  ·exact iK.out _ (Below.refl _ _).drew
  refine ak 0 hS ?_
  refine ak 2 hS ?_
  refine ak 3 hS ?_
  refine ak 4 hS ?_
  refine ak 5 hS ?_
  refine ak 6 hS ?_
  refine ak 7 hS ?_
  refine ak 9 hS ?_
  refine ak 10 hS ?_
  refine ak 11 hS ?_
  refine ak 12 hS ?_
  refine ak 15 hS ?_
  refine ak 16 hS ?_
  refine ak 17 hS ?_
  refine ak 18 hS ?_
  refine ak 19 hS ?_
  refine ak 20 hS ?_
  refine qN 1 13 (fun K hK=> ?wa) fun K hK=> ?wb
  case wa=>
   go_simp
   refine bR hK (iK.out _ ((Below.refl _ _).drew.alloc (Nat.le_refl _) _)) fun hS=> ?_
   clear hK K
   refine qN 8 13 (fun K hK=> ?VD) fun K hK=> ?VE
   case VD=>
    refine au (by rfl) (.tmp 55) (.tmp 61) 95 (by rfl) w.heap.size 103 i _ 3 32 Tryz.underlying95 HI.out.1 HI.out.2.1 HI.out.2.2.1 HI.out.2.2.2 rfl (by omega) _ 0 [] (by rfl) (eY (MapKept.heap_alloc w.drew _).1 (Nat.le_refl _)) _ k _ ((E.take k).flatMap eB) (by rfl) (nJ.out _ ((Below.refl _ _).drew.alloc (Nat.le_refl _) _)).1 (kR _) (by unfold maxLen;omega) (by omega) (by simp<;>omega) ?_
    intro A1 c1 u1 hown0 hb1
    have hB0:Below w.heap.size w u1:=((Below.refl _ _).drew.alloc (Nat.le_refl _) _).trans hb1
    refine bR hK (iK.out _ hB0) fun hS=> ?_
    clear hK K
    refine bK 13 fun K hK=> ?_
    go_simp
    refine bR hK (iK.out _ (hB0.alloc hB0.size _)) fun hS=> ?_
    clear hK K
    rw[Nat.zero_add]at hown0
    have hown1:=own_below hown0 ((Below.refl _ _).alloc (Nat.le_refl _) (.cells (eB (d,nm,id)).toArray 103))
    have hrow:=gH (w:=u1) (eB (d,nm,id)) 103 (by simp[eB,maxLen])
    have hB1:Below w.heap.size w (u1.alloc (.cells (eB (d,nm,id)).toArray 103)):=hB0.alloc hB0.size _
    refine bK 14 fun K hK=> ?_
    refine au (by rfl) (.tmp 62) (.tmp 67) 95 (by rfl) w.heap.size 103 i _ 3 32 Tryz.underlying95 HI.out.1 HI.out.2.1 HI.out.2.2.1 HI.out.2.2.2 rfl (by omega) _ _ _ (by rfl) hown1 _ 1 _ (eB (d,nm,id)) (by rfl) hrow (oZ _) (by unfold maxLen;omega) (by omega) hB1.size ?_
    intro A2 c2 u2 hown2 hb2
    have hB2:Below w.heap.size w u2:=hB1.trans hb2
    refine bR hK (iK.out _ hB2) fun hS=> ?_
    clear hK K
    refine bK 21 fun K hK=> ?_
    refine au (by rfl) (.tmp 68) (.tmp 74) 95 (by rfl) w.heap.size 103 i _ 3 32 Tryz.underlying95 HI.out.1 HI.out.2.1 HI.out.2.2.1 HI.out.2.2.2 rfl (by omega) _ _ _ (by rfl) hown2 _ (n-k) _ ((E.drop k).flatMap eB) (by rfl) (nJ.out _ hB2).2 (kR _) (by unfold maxLen;omega) (by omega) hB2.size ?_
    intro A3 c3 u3 hown3 hb3
    have hB3:Below w.heap.size w u3:=hB2.trans hb3
    refine bR hK (iK.out _ hB3) fun hS=> ?_
    clear hK K
    refine ak 22 hS ?_
    refine ak 23 hS ?_
    refine bK 24 fun K hK=> ?_
    go_simp
    refine j_ hK ?_
    clear hS hK K
    go_wp2
    all_goals (
     go_end0
     exact su VB.out HL.out hkn hB3 (by omega) (by simp) hown3 (by unfold maxLen;omega))
   case VE=>
    go_simp
    refine bR hK (iK.out _ (((Below.refl _ _).drew.alloc (Nat.le_refl _) _).alloc (by simp<;>omega) _)) fun hS=> ?_
    clear hK K
    refine bK 8 fun K hK=> ?_
    refine dQ (by rfl) (.tmp 55) (.tmp 61) 95 (by rfl) w.heap.size 103 i _ 3 32 Tryz.underlying95 HI.out.1 HI.out.2.1 HI.out.2.2.1 HI.out.2.2.2 rfl (by omega) _ 0 [] (by rfl) (eY (gV w _ _).1 (Nat.le_refl _)) _ k _ ((E.take k).flatMap eB) (by rfl) (nJ.out _ (((Below.refl _ _).drew.alloc (Nat.le_refl _) _).alloc (by simp<;>omega) _)).1 (kR _) (by unfold maxLen;omega) (by omega) (by simp<;>omega) ?_
    intro A1 c1 u1 hown1 hb1 hg1
    have hB1:Below w.heap.size w u1:=(((Below.refl _ _).drew.alloc (Nat.le_refl _) _).alloc (by simp<;>omega) _).trans hb1
    have hrow:=(kS (vs:=eB (d,nm,id)) (gV w (.cells #[] 103) (.cells (eB (d,nm,id)).toArray 103)).2 (by simp[eB,maxLen])).grown hg1 (fun b hb hbw=>by subst hb;simp[Value.ownBlock])
    refine bR hK (iK.out _ hB1) fun hS=> ?_
    clear hK K
    refine bK 14 fun K hK=> ?_
    refine au (by rfl) (.tmp 62) (.tmp 67) 95 (by rfl) w.heap.size 103 i _ 3 32 Tryz.underlying95 HI.out.1 HI.out.2.1 HI.out.2.2.1 HI.out.2.2.2 rfl (by omega) _ _ _ (by rfl) hown1 _ 1 _ (eB (d,nm,id)) (by rfl) hrow (oZ _) (by unfold maxLen;omega) (by omega) hB1.size ?_
    intro A2 c2 u2 hown2 hb2
    have hB2:Below w.heap.size w u2:=hB1.trans hb2
    refine bR hK (iK.out _ hB2) fun hS=> ?_
    clear hK K
    refine bK 21 fun K hK=> ?_
    refine au (by rfl) (.tmp 68) (.tmp 74) 95 (by rfl) w.heap.size 103 i _ 3 32 Tryz.underlying95 HI.out.1 HI.out.2.1 HI.out.2.2.1 HI.out.2.2.2 rfl (by omega) _ _ _ (by rfl) hown2 _ (n-k) _ ((E.drop k).flatMap eB) (by rfl) (nJ.out _ hB2).2 (kR _) (by unfold maxLen;omega) (by omega) hB2.size ?_
    intro A3 c3 u3 hown3 hb3
    have hB3:Below w.heap.size w u3:=hB2.trans hb3
    refine bR hK (iK.out _ hB3) fun hS=> ?_
    clear hK K
    refine ak 22 hS ?_
    refine ak 23 hS ?_
    refine bK 24 fun K hK=> ?_
    go_simp
    refine j_ hK ?_
    clear hS hK K
    go_wp2
    all_goals (
     go_end0
     exact su VB.out HL.out hkn hB3 (by omega) (by simp) hown3 (by unfold maxLen;omega))
  case wb=>
   go_simp
   refine bR hK (iK.out _ ((Below.refl _ _).drew.alloc (Nat.le_refl _) _)) fun hS=> ?_
   clear hK K
   refine bK 1 fun K hK=> ?_
   go_simp
   refine bR hK (iK.out _ (((Below.refl _ _).drew.alloc (Nat.le_refl _) _).alloc (by simp<;>omega) _)) fun hS=> ?_
   clear hK K
   refine bK 8 fun K hK=> ?_
   refine dQ (by rfl) (.tmp 55) (.tmp 61) 95 (by rfl) w.heap.size 103 i _ 3 32 Tryz.underlying95 HI.out.1 HI.out.2.1 HI.out.2.2.1 HI.out.2.2.2 rfl (by omega) _ 0 [] (by rfl) (eY (gV w _ _).2 (by omega)) _ k _ ((E.take k).flatMap eB) (by rfl) (nJ.out _ (((Below.refl _ _).drew.alloc (Nat.le_refl _) _).alloc (by simp<;>omega) _)).1 (kR _) (by unfold maxLen;omega) (by omega) (by simp<;>omega) ?_
   intro A1 c1 u1 hown1 hb1 hg1
   have hB1:Below w.heap.size w u1:=(((Below.refl _ _).drew.alloc (Nat.le_refl _) _).alloc (by simp<;>omega) _).trans hb1
   have hrow:=(kS (vs:=eB (d,nm,id)) (gV w (.cells (eB (d,nm,id)).toArray 103) (.cells #[] 103)).1 (by simp[eB,maxLen])).grown hg1 (fun b hb hbw=>by subst hb;simp[Value.ownBlock])
   refine bR hK (iK.out _ hB1) fun hS=> ?_
   clear hK K
   refine bK 14 fun K hK=> ?_
   refine au (by rfl) (.tmp 62) (.tmp 67) 95 (by rfl) w.heap.size 103 i _ 3 32 Tryz.underlying95 HI.out.1 HI.out.2.1 HI.out.2.2.1 HI.out.2.2.2 rfl (by omega) _ _ _ (by rfl) hown1 _ 1 _ (eB (d,nm,id)) (by rfl) hrow (oZ _) (by unfold maxLen;omega) (by omega) hB1.size ?_
   intro A2 c2 u2 hown2 hb2
   have hB2:Below w.heap.size w u2:=hB1.trans hb2
   refine bR hK (iK.out _ hB2) fun hS=> ?_
   clear hK K
   refine bK 21 fun K hK=> ?_
   refine au (by rfl) (.tmp 68) (.tmp 74) 95 (by rfl) w.heap.size 103 i _ 3 32 Tryz.underlying95 HI.out.1 HI.out.2.1 HI.out.2.2.1 HI.out.2.2.2 rfl (by omega) _ _ _ (by rfl) hown2 _ (n-k) _ ((E.drop k).flatMap eB) (by rfl) (nJ.out _ hB2).2 (kR _) (by unfold maxLen;omega) (by omega) hB2.size ?_
   intro A3 c3 u3 hown3 hb3
   have hB3:Below w.heap.size w u3:=hB2.trans hb3
   refine bR hK (iK.out _ hB3) fun hS=> ?_
   clear hK K
   refine ak 22 hS ?_
   refine ak 23 hS ?_
   refine bK 24 fun K hK=> ?_
   go_simp
   refine j_ hK ?_
   clear hS hK K
   go_wp2
   all_goals (
    go_end0
    exact su VB.out HL.out hkn hB3 (by omega) (by simp) hown3 (by unfold maxLen;omega))
set_option maxHeartbeats 4000000 in
theorem OT (d:Int) (nm:Nm) (id:Int) (w:World) (hc2:w.cell? ⟨r,2,none⟩=some (.slice none 0 0)) (hrw:r<w.heap.size) (hfr:w.frozen? ⟨r,2,none⟩=false):
  Calls Tryz.prog 76 #[ptr r, .int .i64 d, .string (strOf nm), .int .i64 id] w (zP w r (oF [] d nm id)):=by
 obtain⟨i,hi,hz,h3,h32⟩:=info_parts yw
 have HI:=Lib.hid (And.intro hi (And.intro hz (And.intro h3 h32)))
 have iK:Hid (∀w1,Below w.heap.size w w1→w1.cell? ⟨r,2,none⟩=some (.slice none 0 0)∧w1.frozen? ⟨r,2,none⟩=false):=fun w1 hb=>⟨by rw[hb.cell (p:=⟨r,2,none⟩) hrw];exact hc2,by rw[hb.frozen (p:=⟨r,2,none⟩) hrw];exact hfr⟩
 have nJ:Hid (∀w1:World,ah (fun _=>True) w1 none (0*3) []∧ah (fun _=>True) w1 none (0*3) []):=fun w1=>⟨ah.zero _ _ _ rfl rfl,ah.zero _ _ _ rfl rfl⟩
 clear hi hz h3 h32
 go_enter Tryz.func76,Tryz.ntmps76
 go_upto_block 0 with(fail)
 go_cut [8]from 9 to 53 (fun i wx=>i= .int .i64 0∧w=wx)
 case first=>
  go_wp2_with fail
  go_loop [8] (fun i=>i= .int .i64 0) (fun _=>0)
  case atStart=>rfl
  case round=>
   subst hrel
   go_wp2
   go_meet
   exact⟨rfl,rfl⟩
 case rest=>
  obtain⟨rfl,rfl⟩:=hcut
  go_wp2
  refine qF 24 ((fun w'=>w'.cell? ⟨r,2,none⟩=some (.slice none 0 0)∧w'.frozen? ⟨r,2,none⟩=false)) ?_ fun hS=> ?_
  ·exact iK.out _ (Below.refl _ _).drew
  refine ak 0 hS ?_
  refine ak 2 hS ?_
  refine ak 3 hS ?_
  refine ak 4 hS ?_
  refine ak 5 hS ?_
  refine ak 6 hS ?_
  refine ak 7 hS ?_
  refine ak 9 hS ?_
  refine ak 10 hS ?_
  refine ak 11 hS ?_
  refine ak 12 hS ?_
  refine ak 15 hS ?_
  refine ak 16 hS ?_
  refine ak 17 hS ?_
  refine ak 18 hS ?_
  refine ak 19 hS ?_
  refine ak 20 hS ?_
  refine qN 1 13 (fun K hK=> ?wa) fun K hK=> ?wb
  case wa=>
   go_simp
   refine bR hK (iK.out _ ((Below.refl _ _).drew.alloc (Nat.le_refl _) _)) fun hS=> ?_
   clear hK K
   refine qN 8 13 (fun K hK=> ?VD) fun K hK=> ?VE
   case VD=>
    refine au (by rfl) (.tmp 55) (.tmp 61) 95 (by rfl) w.heap.size 103 i _ 3 32 Tryz.underlying95 HI.out.1 HI.out.2.1 HI.out.2.2.1 HI.out.2.2.2 rfl (by omega) _ 0 [] (by rfl) (eY (MapKept.heap_alloc w.drew _).1 (Nat.le_refl _)) _ 0 _ [] (by rfl) (nJ.out _).1 (fun u hu=>by cases hu) (by unfold maxLen;omega) (by omega) (by simp<;>omega) ?_
    intro A1 c1 u1 hown0 hb1
    have hB0:Below w.heap.size w u1:=((Below.refl _ _).drew.alloc (Nat.le_refl _) _).trans hb1
    refine bR hK (iK.out _ hB0) fun hS=> ?_
    clear hK K
    refine bK 13 fun K hK=> ?_
    go_simp
    refine bR hK (iK.out _ (hB0.alloc hB0.size _)) fun hS=> ?_
    clear hK K
    have hown1:=own_below hown0 ((Below.refl _ _).alloc (Nat.le_refl _) (.cells (eB (d,nm,id)).toArray 103))
    have hrow:=gH (w:=u1) (eB (d,nm,id)) 103 (by simp[eB,maxLen])
    have hB1:Below w.heap.size w (u1.alloc (.cells (eB (d,nm,id)).toArray 103)):=hB0.alloc hB0.size _
    refine bK 14 fun K hK=> ?_
    refine au (by rfl) (.tmp 62) (.tmp 67) 95 (by rfl) w.heap.size 103 i _ 3 32 Tryz.underlying95 HI.out.1 HI.out.2.1 HI.out.2.2.1 HI.out.2.2.2 rfl (by omega) _ _ _ (by rfl) hown1 _ 1 _ (eB (d,nm,id)) (by rfl) hrow (oZ _) (by unfold maxLen;omega) (by omega) hB1.size ?_
    intro A2 c2 u2 hown2 hb2
    have hB2:Below w.heap.size w u2:=hB1.trans hb2
    refine bR hK (iK.out _ hB2) fun hS=> ?_
    clear hK K
    refine bK 21 fun K hK=> ?_
    refine au (by rfl) (.tmp 68) (.tmp 74) 95 (by rfl) w.heap.size 103 i _ 3 32 Tryz.underlying95 HI.out.1 HI.out.2.1 HI.out.2.2.1 HI.out.2.2.2 rfl (by omega) _ _ _ (by rfl) hown2 _ 0 _ [] (by rfl) (nJ.out _).2 (fun u hu=>by cases hu) (by unfold maxLen;omega) (by omega) hB2.size ?_
    intro A3 c3 u3 hown3 hb3
    have hB3:Below w.heap.size w u3:=hB2.trans hb3
    refine bR hK (iK.out _ hB3) fun hS=> ?_
    clear hK K
    refine ak 22 hS ?_
    refine ak 23 hS ?_
    refine bK 24 fun K hK=> ?_
    go_simp
    refine j_ hK ?_
    clear hS hK K
    go_wp2
    all_goals (
     go_end0
     exact su (E:=[]) (k:=0) (m:=0) (n:=0) rfl rfl (Nat.le_refl _) hB3 rfl rfl hown3 (by unfold maxLen;omega))
   case VE=>
    go_simp
    refine bR hK (iK.out _ (((Below.refl _ _).drew.alloc (Nat.le_refl _) _).alloc (by simp<;>omega) _)) fun hS=> ?_
    clear hK K
    refine bK 8 fun K hK=> ?_
    refine dQ (by rfl) (.tmp 55) (.tmp 61) 95 (by rfl) w.heap.size 103 i _ 3 32 Tryz.underlying95 HI.out.1 HI.out.2.1 HI.out.2.2.1 HI.out.2.2.2 rfl (by omega) _ 0 [] (by rfl) (eY (gV w _ _).1 (Nat.le_refl _)) _ 0 _ [] (by rfl) (nJ.out _).1 (fun u hu=>by cases hu) (by unfold maxLen;omega) (by omega) (by simp<;>omega) ?_
    intro A1 c1 u1 hown1 hb1 hg1
    have hB1:Below w.heap.size w u1:=(((Below.refl _ _).drew.alloc (Nat.le_refl _) _).alloc (by simp<;>omega) _).trans hb1
    have hrow:=(kS (vs:=eB (d,nm,id)) (gV w (.cells #[] 103) (.cells (eB (d,nm,id)).toArray 103)).2 (by simp[eB,maxLen])).grown hg1 (fun b hb hbw=>by subst hb;simp[Value.ownBlock])
    refine bR hK (iK.out _ hB1) fun hS=> ?_
    clear hK K
    refine bK 14 fun K hK=> ?_
    refine au (by rfl) (.tmp 62) (.tmp 67) 95 (by rfl) w.heap.size 103 i _ 3 32 Tryz.underlying95 HI.out.1 HI.out.2.1 HI.out.2.2.1 HI.out.2.2.2 rfl (by omega) _ _ _ (by rfl) hown1 _ 1 _ (eB (d,nm,id)) (by rfl) hrow (oZ _) (by unfold maxLen;omega) (by omega) hB1.size ?_
    intro A2 c2 u2 hown2 hb2
    have hB2:Below w.heap.size w u2:=hB1.trans hb2
    refine bR hK (iK.out _ hB2) fun hS=> ?_
    clear hK K
    refine bK 21 fun K hK=> ?_
    refine au (by rfl) (.tmp 68) (.tmp 74) 95 (by rfl) w.heap.size 103 i _ 3 32 Tryz.underlying95 HI.out.1 HI.out.2.1 HI.out.2.2.1 HI.out.2.2.2 rfl (by omega) _ _ _ (by rfl) hown2 _ 0 _ [] (by rfl) (nJ.out _).2 (fun u hu=>by cases hu) (by unfold maxLen;omega) (by omega) hB2.size ?_
    intro A3 c3 u3 hown3 hb3
    have hB3:Below w.heap.size w u3:=hB2.trans hb3
    refine bR hK (iK.out _ hB3) fun hS=> ?_
    clear hK K
    refine ak 22 hS ?_
    refine ak 23 hS ?_
    refine bK 24 fun K hK=> ?_
    go_simp
    refine j_ hK ?_
    clear hS hK K
    go_wp2
    all_goals (
     go_end0
     exact su (E:=[]) (k:=0) (m:=0) (n:=0) rfl rfl (Nat.le_refl _) hB3 rfl rfl hown3 (by unfold maxLen;omega))
  case wb=>
   go_simp
   refine bR hK (iK.out _ ((Below.refl _ _).drew.alloc (Nat.le_refl _) _)) fun hS=> ?_
   clear hK K
   refine bK 1 fun K hK=> ?_
   go_simp
   refine bR hK (iK.out _ (((Below.refl _ _).drew.alloc (Nat.le_refl _) _).alloc (by simp<;>omega) _)) fun hS=> ?_
   clear hK K
   refine bK 8 fun K hK=> ?_
   refine dQ (by rfl) (.tmp 55) (.tmp 61) 95 (by rfl) w.heap.size 103 i _ 3 32 Tryz.underlying95 HI.out.1 HI.out.2.1 HI.out.2.2.1 HI.out.2.2.2 rfl (by omega) _ 0 [] (by rfl) (eY (gV w _ _).2 (by omega)) _ 0 _ [] (by rfl) (nJ.out _).1 (fun u hu=>by cases hu) (by unfold maxLen;omega) (by omega) (by simp<;>omega) ?_
   intro A1 c1 u1 hown1 hb1 hg1
   have hB1:Below w.heap.size w u1:=(((Below.refl _ _).drew.alloc (Nat.le_refl _) _).alloc (by simp<;>omega) _).trans hb1
   have hrow:=(kS (vs:=eB (d,nm,id)) (gV w (.cells (eB (d,nm,id)).toArray 103) (.cells #[] 103)).1 (by simp[eB,maxLen])).grown hg1 (fun b hb hbw=>by subst hb;simp[Value.ownBlock])
   refine bR hK (iK.out _ hB1) fun hS=> ?_
   clear hK K
   refine bK 14 fun K hK=> ?_
   refine au (by rfl) (.tmp 62) (.tmp 67) 95 (by rfl) w.heap.size 103 i _ 3 32 Tryz.underlying95 HI.out.1 HI.out.2.1 HI.out.2.2.1 HI.out.2.2.2 rfl (by omega) _ _ _ (by rfl) hown1 _ 1 _ (eB (d,nm,id)) (by rfl) hrow (oZ _) (by unfold maxLen;omega) (by omega) hB1.size ?_
   intro A2 c2 u2 hown2 hb2
   have hB2:Below w.heap.size w u2:=hB1.trans hb2
   refine bR hK (iK.out _ hB2) fun hS=> ?_
   clear hK K
   refine bK 21 fun K hK=> ?_
   refine au (by rfl) (.tmp 68) (.tmp 74) 95 (by rfl) w.heap.size 103 i _ 3 32 Tryz.underlying95 HI.out.1 HI.out.2.1 HI.out.2.2.1 HI.out.2.2.2 rfl (by omega) _ _ _ (by rfl) hown2 _ 0 _ [] (by rfl) (nJ.out _).2 (fun u hu=>by cases hu) (by unfold maxLen;omega) (by omega) hB2.size ?_
   intro A3 c3 u3 hown3 hb3
   have hB3:Below w.heap.size w u3:=hB2.trans hb3
   refine bR hK (iK.out _ hB3) fun hS=> ?_
   clear hK K
   refine ak 22 hS ?_
   refine ak 23 hS ?_
   refine bK 24 fun K hK=> ?_
   go_simp
   refine j_ hK ?_
   clear hS hK K
   go_wp2
   all_goals (
    go_end0
    exact su (E:=[]) (k:=0) (m:=0) (n:=0) rfl rfl (Nat.le_refl _) hB3 rfl rfl hown3 (by unfold maxLen;omega))
theorem RV (d:Int) (nm:Nm) (id:Int) (w:World) (h:fJ F w r T D E) (YV:E.length≤1000000):
  Calls Tryz.prog 76 #[ptr r, .int .i64 d, .string (strOf nm), .int .i64 id] w (dM F w r T D (oF E d nm id) (.tuple #[])):=by
 obtain⟨aN,cN,aD,cD,aE,cE,h1,h2,h3,h4,h8,h9,h10,h11⟩:=h.head
 have hc:w.cell? ⟨r,2,none⟩=some (.slice aE E.length cE):=by simp[World.cell?,h1]
 rcases h11 with⟨rfl,rfl⟩|⟨b,rfl⟩
 ·have hE:E=[]:=List.eq_nil_of_length_eq_zero (by omega)
  rw[hE]at hc⊢
  exact(OT d nm id w hc (h.low r h.own) (ah.frozen h1 rfl)).mono fun e w' hs=>zQ h hs
 ·exact(K7 d nm id w b E.length cE hc (h.low r h.own) (ah.frozen h1 rfl) rfl h4 YV h10).mono fun e w' hs=>zQ h hs
end
theorem EY {F:Nat→Prop} {w w1:World} {b off n c k s:Nat} {vs:List Value} (h:ah F w (some ⟨b,off,none⟩) (n*s) vs) (hk:k<n) (hb:Below w.heap.size w w1):
  ah F w1 (some ⟨b,off,none⟩) (k*s) (vs.take (k*s))∧ah F w1 (if c=k+1 then some ⟨b,off,none⟩else some ⟨b,off+(k+1)*s,none⟩) ((n-(k+1))*s) (vs.drop ((k+1)*s))∨c<n:=by
 by_cases hcn:c<n
 ·exact .inr hcn
 ·left
  have h1:=h.below hb (Nat.le_refl _)
  have h2:=h1.take (k*s)
  have hks:k*s≤n*s:=Nat.mul_le_mul_right s (by omega)
  rw[Nat.min_eq_right hks]at h2
  have h4:=h1.drop ((k+1)*s)
  rw[←Nat.sub_mul]at h4
  refine⟨h2,?_⟩
  by_cases hce:c=k+1
  ·rw[if_pos hce]
   have hl:=h.length
   have hkn:k+1=n:=by omega
   exact ah.zero _ _ _ (by rw[show n-(k+1)=0 by omega,Nat.zero_mul]) (by rw[hkn];exact List.drop_of_length_le (by omega))
  ·rw[if_neg hce];exact h4
theorem h_ {w:World} {r:Nat} {x0 x1 x2:Value} (h1:w.heap[r]? =some (.cells #[x0,x1,x2] 97 (0,0))):w.cell? ⟨r,0,none⟩=some x0∧w.cell? ⟨r,1,none⟩=some x1∧w.cell? ⟨r,2,none⟩=some x2∧∀j,w.frozen? ⟨r,j,none⟩=false:=by
 refine⟨?_,?_,?_,fun j=> ?_⟩<;>simp[World.cell?,World.frozen?,h1]
section
variable {F:Nat→Prop} {r:Nat} {T:aA} {D:List (List UInt8)} {E:List jm}
set_option maxRecDepth 100000 in
set_option maxHeartbeats 8000000 in
theorem K8 (id:Int) (k:Nat) (w:World) (h:fJ F w r T D E) (hl:T.length≤64) (hD:D.length=T.length) (hi:oq (nT id) T=k) (hk:k<T.length):
  Calls Tryz.prog 81 #[ptr r, .int .i64 id] w (dM F w r (T.take k++T.drop (k+1)) (D.take k++D.drop (k+1)) E (.tuple #[])):=by
 obtain⟨i6,a6,b6,s6,d6⟩:=info_parts nodeInfo
 have jK:=Lib.hid (And.intro a6 (And.intro b6 (And.intro s6 d6)))
 obtain⟨i1,a1,b1,s1,d1⟩:=info_parts uO
 have HI1:=Lib.hid (And.intro a1 (And.intro b1 (And.intro s1 d1)))
 have HAT:=Lib.hid (uN id w h hl)
 rw[hi]at HAT
 have HH:=Lib.hid h
 obtain⟨aN,cN,aD,cD,aE,cE,h1,h2,h3,h4,h8,h9,h10,h11⟩:=h.head
 obtain⟨vs,hv,hrow⟩:=h9
 obtain⟨bN,oN,rfl,YW,hbN,-,-⟩:=h8.wide fB rfl (List.getElem?_eq_getElem hk) (by omega)
 obtain⟨bD,oD,rfl,hFD,hbD,-⟩:=hv.at_ (by omega)
 have hlv:=hv.length
 have hrw:=h.low r h.own
 have HE:=Lib.hid (Each.cut (F:=Off F r) (w:=w) (vs:=vs) (bs:=D) hrow hlv k (by omega))
 have rD:=Lib.hid (And.intro (fun u hu=>Each.one (F:=Off F r) (w:=w) hrow hlv u (List.mem_of_mem_take hu):∀u∈vs.take k,u.oneCell'=true) (fun u hu=>Each.one (F:=Off F r) (w:=w) hrow hlv u (List.mem_of_mem_drop hu):∀u∈vs.drop (k+1),u.oneCell'=true))
 have hLT:(T.take k++T.drop (k+1)).length=k+(T.length-(k+1)):=by simp;omega
 have hLD:(D.take k++D.drop (k+1)).length=k+(T.length-(k+1)):=by simp;omega
 rw[hD]at h1 h3 hv hlv
 generalize hn:T.length=n at*
 have xJ:=Lib.hid hLT
 have G5:=Lib.hid hLD
 obtain⟨p0,p1,p2,pf⟩:=h_ h1
 have xZ:=Lib.hid h1
 have HV:=Lib.hid hv
 have wX:Hid (∀w1,Below w.heap.size w w1→w1.cell? ⟨r,0,none⟩=some (.slice (some ⟨bN,oN,none⟩) n cN)∧w1.frozen? ⟨r,0,none⟩=false):=fun w1 hb=>⟨by rw[hb.cell (p:=⟨r,0,none⟩) hrw];exact p0,by rw[hb.frozen (p:=⟨r,0,none⟩) hrw];exact pf 0⟩
 have OU:Hid (∀w1,Below w.heap.size w w1→ah (Off F r) w1 (some ⟨bN,oN,none⟩) (k*6) ((T.take k).flatMap b_)∧ah (Off F r) w1 (if cN=k+1 then some ⟨bN,oN,none⟩else some ⟨bN,oN+(k+1)*6,none⟩) ((n-(k+1))*6) ((T.drop (k+1)).flatMap b_)):=fun w1 hb=>by
  have:=(EY (c:=cN) h8 hk hb).resolve_right (by omega)
  rwa [nH b_ 6 fB,nI b_ 6 fB]at this
 have HCD:Hid (n≤cD):=h3
 have i0:(0:Int)≤k:=by omega
 have i1':(k:Int)≤cN:=by omega
 have i2:(k:Int)+1≤n:=by omega
 have i3:(0:Int)≤(k:Int)+1:=by omega
 have i4:(n:Int)≤cN:=by omega
 have i5:(k:Int)≤cD:=by omega
 have i6':(n:Int)≤cD:=by omega
 have e1:IntKind.i64.wrap ((k:Int)+1)=(k:Int)+1:=IntWalk.i64_in _ (by omega)
 clear a6 b6 s6 d6 a1 b1 s1 d1 hrow hv hLT hLD h1 h8 h10 h11 hD hi hn h hlv p0 p1 p2 pf
 go_enter Tryz.func81,Tryz.ntmps81
 go_wp2_with fail
 (with_reducible refine HAT.out.mono ?_)
 rintro e w' ⟨rfl,rfl⟩
 go_upto_region 1 with(fail)
 go_cut [] (fun wx=>bQ w r (.slice (some ⟨bD,oD,none⟩) n cD) (.slice aE E.length cE) (T.take k++T.drop (k+1)) wx)
 case first=>
  go_wp2
  refine qF 19 ((fun w'=>w'.cell? ⟨r,0,none⟩=some (.slice (some ⟨bN,oN,none⟩) n cN)∧w'.frozen? ⟨r,0,none⟩=false)) ?_ fun hS=> ?_
  ·exact wX.out _ (Below.refl _ _).drew
  refine ak 0 hS ?_
  refine ak 2 hS ?_
  refine ak 3 hS ?_
  refine ak 4 hS ?_
  refine ak 5 hS ?_
  refine ak 6 hS ?_
  refine ak 7 hS ?_
  refine ak 9 hS ?_
  refine ak 10 hS ?_
  refine ak 11 hS ?_
  refine ak 12 hS ?_
  refine ak 13 hS ?_
  refine ak 14 hS ?_
  refine ak 15 hS ?_
  refine bK 1 fun K hK=> ?_
  go_simp
  refine bR hK (wX.out _ ((Below.refl _ _).drew.alloc (Nat.le_refl _) _)) fun hS=> ?_
  clear hK K
  refine bK 8 fun K hK=> ?_
  refine au (by rfl) (.tmp 9) (.tmp 15) 94 (by rfl) w.heap.size 101 _ _ 6 48 Tryz.underlying94 jK.out.1 jK.out.2.1 jK.out.2.2.1 jK.out.2.2.2 rfl (by omega) _ 0 [] (by rfl) (eY (MapKept.heap_alloc w.drew _).1 (Nat.le_refl _)) _ k _ ((T.take k).flatMap b_) (by rfl) (OU.out _ ((Below.refl _ _).drew.alloc (Nat.le_refl _) _)).1 (gu _) (by unfold maxLen;omega) (by omega) (by simp) ?_
  intro A1 c1 u1 hown1 hb1
  have hB1:Below w.heap.size w u1:=((Below.refl _ _).drew.alloc (Nat.le_refl _) _).trans hb1
  refine bR hK (wX.out _ hB1) fun hS=> ?_
  clear hK K
  refine bK 16 fun K hK=> ?_
  refine au (by rfl) (.tmp 16) (.tmp 23) 94 (by rfl) w.heap.size 101 _ _ 6 48 Tryz.underlying94 jK.out.1 jK.out.2.1 jK.out.2.2.1 jK.out.2.2.2 rfl (by omega) _ _ _ (by rfl) hown1 _ (n-(k+1)) _ ((T.drop (k+1)).flatMap b_) (by rfl) (OU.out _ hB1).2 (gu _) (by unfold maxLen;omega) (by omega) hB1.size ?_
  intro A2 c2 u2 hown2 hb2
  have hB2:Below w.heap.size w u2:=hB1.trans hb2
  refine bR hK (wX.out _ hB2) fun hS=> ?_
  clear hK K
  refine ak 17 hS ?_
  refine ak 18 hS ?_
  refine bK 19 fun K hK=> ?_
  go_simp
  refine j_ hK ?_
  clear hS hK K
  go_wp2_with fail
  all_goals (
   go_meet
   have hl:=xJ.out
   have e5:0+k+(n-(k+1))=(T.take k++T.drop (k+1)).length:=by omega
   obtain⟨-,hcc,-,hrow2⟩:=og (w:=w) hown2 (by unfold maxLen;omega) (Nat.le_refl _)
   rw[List.nil_append,←List.flatMap_append,e5]at hrow2
   rw[e5]at hcc
   have:=bQ.XJ hrw xZ.out hB2 hcc hrow2 (lH hown2)
   rw[hl]at this
   exact this)
 case rest=>
  obtain⟨w1,rfl⟩:∃w1:World,w1=wc:=⟨_,rfl⟩
  have HM:=Lib.hid hcut
  obtain⟨hK,-,aM,cM,h5,-,-,-⟩:=hcut
  obtain⟨p0,p1,p2,pf⟩:=h_ h5
  have hs1:=hK.size
  have hr1:r<w1.heap.size:=by omega
  have hv1:ah (Off (Grow F w w1) r) w1 (some ⟨bD,oD,none⟩) (n*1) vs:=by rw[Nat.mul_one];exact pY hK HV.out
  have DZ:=Lib.hid hK
  have sF:Hid (∀w2,Below w1.heap.size w1 w2→w2.cell? ⟨r,1,none⟩=some (.slice (some ⟨bD,oD,none⟩) n cD)∧w2.frozen? ⟨r,1,none⟩=false):=fun w2 hb=>⟨by rw[hb.cell (p:=⟨r,1,none⟩) hr1];exact p1,by rw[hb.frozen (p:=⟨r,1,none⟩) hr1];exact pf 1⟩
  have pK:Hid (∀w2,Below w1.heap.size w1 w2→ah (Off (Grow F w w1) r) w2 (some ⟨bD,oD,none⟩) (k*1) (vs.take k)∧ah (Off (Grow F w w1) r) w2 (if cD=k+1 then some ⟨bD,oD,none⟩else some ⟨bD,oD+(k+1),none⟩) ((n-(k+1))*1) (vs.drop (k+1))):=fun w2 hb=>by
   have:=(EY (c:=cD) hv1 hk hb).resolve_right (by have:=HCD.out;omega)
   rw[Nat.mul_one,Nat.mul_one]at this
   simpa only[Nat.mul_one]using this
  clear hK h5 p0 p1 p2 pf hv1
  go_wp2
  refine qF 19 ((fun w'=>w'.cell? ⟨r,1,none⟩=some (.slice (some ⟨bD,oD,none⟩) n cD)∧w'.frozen? ⟨r,1,none⟩=false)) ?_ fun hS=> ?_
  ·exact sF.out _ (Below.refl _ _).drew
  refine ak 0 hS ?_
  refine ak 2 hS ?_
  refine ak 3 hS ?_
  refine ak 4 hS ?_
  refine ak 5 hS ?_
  refine ak 6 hS ?_
  refine ak 7 hS ?_
  refine ak 9 hS ?_
  refine ak 10 hS ?_
  refine ak 11 hS ?_
  refine ak 12 hS ?_
  refine ak 13 hS ?_
  refine ak 14 hS ?_
  refine ak 15 hS ?_
  refine bK 1 fun K hK=> ?_
  go_simp
  refine bR hK (sF.out _ ((Below.refl _ _).drew.alloc (Nat.le_refl _) _)) fun hS=> ?_
  clear hK K
  refine bK 8 fun K hK=> ?_
  refine au (by rfl) (.tmp 28) (.tmp 34) 45 (by rfl) w1.heap.size 23 _ _ 1 24 Tryz.underlying45 HI1.out.1 HI1.out.2.1 HI1.out.2.2.1 HI1.out.2.2.2 rfl (by omega) _ 0 [] (by rfl) (eY (MapKept.heap_alloc w1.drew _).1 (Nat.le_refl _)) _ k _ (vs.take k) (by rfl) (pK.out _ ((Below.refl _ _).drew.alloc (Nat.le_refl _) _)).1 rD.out.1 (by unfold maxLen;omega) (by omega) (by simp) ?_
  intro A1 c1 u1 hown1 hb1
  have hB1:Below w1.heap.size w1 u1:=((Below.refl _ _).drew.alloc (Nat.le_refl _) _).trans hb1
  refine bR hK (sF.out _ hB1) fun hS=> ?_
  clear hK K
  refine bK 16 fun K hK=> ?_
  refine au (by rfl) (.tmp 35) (.tmp 42) 45 (by rfl) w1.heap.size 23 _ _ 1 24 Tryz.underlying45 HI1.out.1 HI1.out.2.1 HI1.out.2.2.1 HI1.out.2.2.2 rfl (by omega) _ _ _ (by rfl) hown1 _ (n-(k+1)) _ (vs.drop (k+1)) (by rfl) (pK.out _ hB1).2 rD.out.2 (by unfold maxLen;omega) (by omega) hB1.size ?_
  intro A2 c2 u2 hown2 hb2
  have hB2:Below w1.heap.size w1 u2:=hB1.trans hb2
  refine bR hK (sF.out _ hB2) fun hS=> ?_
  clear hK K
  refine ak 17 hS ?_
  refine ak 18 hS ?_
  refine bK 19 fun K hK=> ?_
  go_simp
  refine j_ hK ?_
  clear hS hK K
  go_wp2
  all_goals (
   go_end0
   have hl:=G5.out
   have e5:0+k+(n-(k+1))=(D.take k++D.drop (k+1)).length:=by omega
   obtain⟨-,hcc,-,hrow2⟩:=og (w:=w) hown2 (by unfold maxLen;omega) hs1
   rw[List.nil_append,Nat.mul_one,e5]at hrow2
   rw[e5]at hcc
   have:=fJ.Cb HH.out xZ.out HM.out hB2 hcc hrow2 (HE.out.move (by have:=hB2.size;omega) fun b hb hbw=>⟨⟨.inl hb.1,hb.2⟩,(hB2.block b (by omega)).trans (DZ.out.block b hbw hb.2)⟩) (.tuple #[])
   rw[hl]at this
   exact this)
end
theorem bQ.facts {w wx:World} {r:Nat} {x1 x2:Value} {T:aA} (h:bQ w r x1 x2 T wx) {k:Nat} {q:Int×bq} (hq:T[k]? =some q):∃g off c,wx.cell? ⟨r,0,none⟩=some (.slice (some ⟨g,off,none⟩) T.length c)∧wx.cell? ⟨r,1,none⟩=some x1∧wx.cell? ⟨r,2,none⟩=some x2∧T.length≤c∧(∀j,wx.frozen? ⟨r,j,none⟩=false)∧g≠r∧w.heap.size≤g∧g<wx.heap.size∧r<wx.heap.size∧(∀j,wx.frozen? ⟨g,j,none⟩=false)∧
  (wx.cell? ⟨g,off+k*6,none⟩=some (.int .i64 q.1)∧wx.cell? ⟨g,off+k*6+1,none⟩=some (.int .i64 q.2.kind)∧wx.cell? ⟨g,off+k*6+2,none⟩=some (.int .i64 q.2.links)∧wx.cell? ⟨g,off+k*6+3,none⟩=some (.int .i64 q.2.b.length)∧wx.cell? ⟨g,off+k*6+4,none⟩=some (.int .u64 q.2.aP)∧wx.cell? ⟨g,off+k*6+5,none⟩=some (.bool q.2.closed)):=by
 obtain⟨hK,hr,a,c,h2,h3,h4,hp⟩:=h
 obtain⟨g,off,rfl,hF,hb,hi,hc⟩:=h4.wide fB rfl hq (by omega)
 obtain⟨p0,p1,p2,pf⟩:=h_ h2
 have:=hF.1
 have hs:=hK.size
 exact⟨g,off,c,p0,p1,p2,h3,pf,by omega,hF.1,hb,by omega,hp.frozen,hc 0 (by omega),hc 1 (by omega),hc 2 (by omega),hc 3 (by omega),hc 4 (by omega),hc 5 (by omega)⟩
section
variable {F:Nat→Prop} {r:Nat} {T:aA} {D:List (List UInt8)} {E:List jm}
set_option maxRecDepth 100000 in
set_option maxHeartbeats 8000000 in
theorem Hz (id vZ:Int) (k:Nat) (q:Int×bq) (w:World) (h:fJ F w r T D E) (hl:T.length≤64) (hi:oq (nT id) T=k) (hq:T[k]? =some q) (hb0: -1≤vZ∧vZ≤1) (hl0:0≤q.2.links∧q.2.links≤64):
  Calls Tryz.prog 86 #[ptr r, .int .i64 id, .int .i64 vZ] w (dM F w r (T.set k (q.1,{q.2 with links:=q.2.links+vZ})) D E (.tuple #[])):=by
 obtain⟨i6,a6,b6,s6,d6⟩:=info_parts nodeInfo
 have jK:=Lib.hid (And.intro a6 (And.intro b6 (And.intro s6 d6)))
 have hk:k<T.length:=(List.getElem?_eq_some_iff.1 hq).1
 have HAT:=Lib.hid (uN id w h hl)
 rw[hi]at HAT
 have HH:=Lib.hid h
 have HQ:=Lib.hid hq
 obtain⟨aN,cN,aD,cD,aE,cE,h1,h2,h3,h4,h8,h9,h10,h11⟩:=h.head
 obtain⟨bN,oN,rfl,YW,hbN,-,-⟩:=h8.wide fB rfl hq (by omega)
 have hrw:=h.low r h.own
 obtain⟨p0,p1,p2,pf⟩:=h_ h1
 have xZ:=Lib.hid h1
 have K9:=Lib.hid h8
 obtain⟨n,hn⟩:∃n,n=T.length:=⟨_,rfl⟩
 rw[←hn]at p0 hl hk h2 K9
 have iM:=Lib.hid hn
 have hf0:=pf 0
 have hfp:=YW.2
 have i0:(0:Int)≤k:=by omega
 have i2:(k:Int)<n:=by omega
 have e1:IntKind.i64.wrap (q.2.links+vZ)=q.2.links+vZ:=IntWalk.i64_in _ (by omega)
 clear a6 b6 s6 d6 h1 h8 h9 h10 h11 hi h hq hn p1 p2 pf YW
 go_enter Tryz.func86,Tryz.ntmps86
 go_wp2_with fail
 (with_reducible refine HAT.out.mono ?_)
 rintro e w' ⟨rfl,rfl⟩
 go_upto_region 1 with(fail)
 go_cut [] (fun wx=>bQ w r (.slice aD D.length cD) (.slice aE E.length cE) T wx)
 case first=>
  go_wp2_with ((at_builtin;refine gB rfl _ _ 94 rfl w.heap.size 101 _ _ 6 48 Tryz.underlying94 jK.out.1 jK.out.2.1 jK.out.2.2.1 jK.out.2.2.2 rfl (by omega) _ 0 [] rfl (eY (MapKept.heap_alloc w _).1 (Nat.le_refl _)) _ n _ (T.flatMap b_) rfl (K9.out.below ((Below.refl _ _).alloc (Nat.le_refl _) _) (Nat.le_refl _)) (gu _) (by unfold maxLen;omega) (by omega) (by simp) ?_;intro A1 c1 w1 hown1 hb1;have hB1:=((Below.refl w.heap.size w).alloc (Nat.le_refl _) _).trans hb1;have hf1:w1.frozen? ⟨r,0,none⟩=false:=(hB1.frozen (p:=⟨r,0,none⟩) hrw).trans hf0;have hc1:=(hB1.cell (p:=⟨r,0,none⟩) hrw).trans p0))
  go_meet
  obtain⟨-,hcc,-,hrow2⟩:=og (w:=w) hown1 (by unfold maxLen;omega) (Nat.le_refl _)
  have hn:=iM.out
  rw[List.nil_append,Nat.zero_add,hn]at hrow2
  rw[Nat.zero_add,hn]at hcc
  have:=bQ.XJ hrw xZ.out hB1 hcc hrow2 (lH hown1)
  rw[←hn]at this
  exact this
 case rest=>
  obtain⟨w1,rfl⟩:∃w1:World,w1=wc:=⟨_,rfl⟩
  obtain⟨g,off,c,q0,-,-,hlc,qf,hgr,hg1,hg2,hr1,gf,c0,-,c2,-,-,-⟩:=hcut.facts HQ.out
  rw[←iM.out]at q0
  have QB:=gf (off+k*6+2)
  have HM:=Lib.hid hcut
  have w_:=Lib.hid q0
  clear hcut c0 qf gf hlc
  go_wp2
  refine qF 17 ((fun w'=>w'.cell? ⟨r,0,none⟩=some (.slice (some ⟨g,off,none⟩) n c)∧w'.cell? ⟨g,off+k*6+2,none⟩=some (.int .i64 q.2.links)∧w'.frozen? ⟨g,off+k*6+2,none⟩=false)) ?_ fun hS=> ?_
  ·exact⟨q0,c2,QB⟩
  refine ak 0 hS ?_
  refine ak 1 hS ?_
  refine ak 2 hS ?_
  refine ak 3 hS ?_
  refine ak 4 hS ?_
  refine ak 5 hS ?_
  refine ak 6 hS ?_
  refine ak 7 hS ?_
  refine ak 8 hS ?_
  refine ak 9 hS ?_
  refine ak 10 hS ?_
  refine ak 11 hS ?_
  refine ak 12 hS ?_
  refine ak 13 hS ?_
  refine ak 14 hS ?_
  refine ak 15 hS ?_
  refine ak 16 hS ?_
  refine bK 17 fun K hK=> ?_
  go_simp
  refine j_ hK ?_
  clear hS hK K
  go_wp2
  go_end0
  have h0:=w_.out
  rw[iM.out]at h0
  have:=fJ.tN HH.out xZ.out (bQ.fq HM.out h0 (k:=k) (j:=2) (q':=(q.1,{q.2 with links:=q.2.links+vZ})) (v:= .int .i64 (q.2.links+vZ)) HQ.out (by omega) rfl) (.tuple #[])
  rw[←Nat.add_assoc]at this
  exact this.then_ HH.out.low (Below.refl _ _).drew
end
structure yA (T:aA):Prop where
 sorted:aC fQ T
 names:∀q∈T,aC bytesBefore q.2.names
 len:T.length≤64
 few:(aS T).length≤5000
theorem yA.of {T:aA} (h:eH T):yA T:=⟨h.sorted,fun q hq=>(h.each _ _ (aI bH h.sorted hq)).sorted,h.len,by have:=nG h;omega⟩
theorem zR {T:aA} {d:Int} {f:bq→bq} {q:Int×bq} (h:q∈aX d f T):q∈T∨∃p∈T,p.1=d∧q=(p.1,f p.2):=by
 unfold aX at h
 obtain⟨p,hp,e⟩:=List.mem_map.1 h
 by_cases hd:p.1=d
 ·rw[if_pos hd]at e
  exact .inr ⟨p,hp,hd,e.symm⟩
 ·rw[if_neg hd]at e
  exact .inl (e▸hp)
theorem yA.cut {T:aA} (h:yA T) (d:Int) (n:Nm):yA (aJ T d n):=by
 refine⟨jX _ _ h.sorted,fun q hq=> ?_,by unfold aJ;rw[fV];exact h.len,?_⟩
 ·rcases zR hq with h1|⟨p,hp,_,rfl⟩
  ·exact h.names q h1
  ·exact(h.names p hp).bF _
 ·rw[←zL]
  exact Nat.le_trans (List.length_filter_le _ _) h.few
theorem yA.aX {T:aA} (h:yA T) (d:Int) {f:bq→bq} (hf:∀x,(f x).names=x.names):yA (Go.Proofs.YtjnhnlabpccgjaaGreat.aX d f T):=by
 refine⟨jX _ _ h.sorted,fun q hq=> ?_,by rw[fV];exact h.len,by rw[mV hf];exact h.few⟩
 rcases zR hq with h1|⟨p,hp,_,rfl⟩
 ·exact h.names q h1
 ·show aC bytesBefore (f p.2).names
  rw[hf];exact h.names p hp
theorem EZ (E:List jm) (d:Int) (nm:Nm) (id:Int):(oF E d nm id).length=E.length+1:=by
 unfold oF
 have:=congrArg List.length (List.takeWhile_append_dropWhile (p:=kr d nm) (l:=E))
 rw[List.length_append]at this
 rw[List.length_append,List.length_cons]
 omega
theorem yA.get {T:aA} (h:yA T) {d:Int} {x:bq} (hx:aj d T=some x):aC bytesBefore x.names:=h.names (d,x) (bC hx)
theorem Ju {T:aA} (h:yA T) {id j:Int} {x:bq} {nm:Nm} (hx:aj id T=some x) (hn:aj nm x.names=some j):∃k:Nat,oq (gy id nm) (aS T)=k∧(aS T)[k]? =some (id,nm,j):=by
 have hmem:((id,nm,j):jm)∈aS T:=(lV h.sorted).2 ⟨x,hx,bC hn⟩
 cases hf:(aS T).findIdx? (gy id nm)with
 |none=>
  rw[List.findIdx?_eq_none_iff]at hf
  have:=hf _ hmem
  simp[gy]at this
 |some k=>
  refine⟨k,by simp[oq,hf],?_⟩
  rw[List.findIdx?_eq_some_iff_getElem]at hf
  obtain⟨hk,hp,_⟩:=hf
  have h1:(aS T)[k]? =some (aS T)[k]:=List.getElem?_eq_getElem hk
  obtain⟨e,he⟩:∃e,e=(aS T)[k]:=⟨_,rfl⟩
  have hm:=List.getElem_mem hk
  rw[←he]at h1 hp hm
  simp only[gy,decide_eq_true_eq]at hp
  obtain⟨y,hy,hm2⟩:=(lV h.sorted).1 hm
  rw[hp.1,hx]at hy
  cases hy
  have h3:=aI qK (h.get hx) hm2
  rw[hp.2,hn]at h3
  rw[h1]
  congr 1
  exact Prod.ext hp.1 (Prod.ext hp.2 (Option.some.inj h3).symm)
theorem yA.put {T:aA} (h:yA T) {d:Int} {x:bq} {n:Nm} (hx:aj d T=some x) (hn:aj n x.names=none) (hf:(aS T).length≤4096) (id:Int):yA (setName T d n id):=by
 refine⟨jX _ _ h.sorted,fun q hq=> ?_,by unfold setName;rw[fV];exact h.len,?_⟩
 ·rcases zR hq with h1|⟨p,hp,_,rfl⟩
  ·exact h.names q h1
  ·exact(h.names p hp).bM qK _ _
 ·rw[←zK h.sorted hx (h.get hx) hn,EZ]
  omega
theorem dM.val {F:Nat→Prop} {w w':World} {r:Nat} {T:aA} {D:List (List UInt8)} {E:List jm} {v:Value} {e:Ending} (h:dM F w r T D E v e w') (v2:Value):dM F w r T D E v2 (.returned v2) w':=⟨rfl,h.2.1,h.2.2⟩
section
variable {F:Nat→Prop} {r:Nat} {T:aA}
theorem RX (d:Int) (nm:Nm) (j:Int) (x:bq) (w:World) (h:kW F w r T) (hL:yA T) (hx:aj d T=some x) (hn:aj nm x.names=some j):
  ∃k:Nat,oq (gy d nm) (aS T)=k∧Calls Tryz.prog 85 #[ptr r, .int .i64 k] w (eF F w r (aJ T d nm) (.tuple #[])):=by
 obtain⟨k,hk,he⟩:=Ju hL hx hn
 refine⟨k,hk,(Jt k w h (List.getElem?_eq_some_iff.1 he).1 (by have:=hL.few;omega)).mono fun e w' ht=> ?_⟩
 have h1:(aS T).take k++(aS T).drop (k+1)=aS (aJ T d nm):=by
  rw[tK (p:=gy d nm) he (by simp[gy]) (Hu hL.sorted hL.names d nm),zL]
 rw[h1]at ht
 refine⟨ht.1,ht.2.1,?_⟩
 have:=ht.2.2.names (T':=aJ T d nm) (fV _ _ _) (tL (id:=d) (f:=fun x=>{x with names:=bF nm x.names}) (fun _=>rfl) T)
 unfold aJ at this⊢
 rw[oW (fun _=>by exact rfl)]
 exact this
theorem RY (d:Int) (nm:Nm) (id:Int) (x:bq) (w:World) (h:kW F w r T) (hL:yA T) (hx:aj d T=some x) (hn:aj nm x.names=none):
  Calls Tryz.prog 76 #[ptr r, .int .i64 d, .string (strOf nm), .int .i64 id] w (eF F w r (setName T d nm id) (.tuple #[])):=by
 refine(RV d nm id w h (by have:=hL.few;omega)).mono fun e w' ht=> ?_
 rw[zK hL.sorted hx (hL.get hx) hn]at ht
 refine⟨ht.1,ht.2.1,?_⟩
 have:=ht.2.2.names (T':=setName T d nm id) (fV _ _ _) (tL (id:=d) (f:=fun x=>{x with names:=bM bytesBefore nm id x.names}) (fun _=>rfl) T)
 unfold setName at this⊢
 rw[oW (fun _=>by exact rfl)]
 exact this
theorem wh (id vZ:Int) (x:bq) (w:World) (h:kW F w r T) (hL:yA T) (hx:aj id T=some x) (hb0: -1≤vZ∧vZ≤1) (hl0:0≤x.links∧x.links≤64):
  Calls Tryz.prog 86 #[ptr r, .int .i64 id, .int .i64 vZ] w (eF F w r (aX id (fun x=>{x with links:=x.links+vZ}) T) (.tuple #[])):=by
 obtain⟨k,hk,hq⟩:=lU hL.sorted hx
 refine(Hz id vZ k (id,x) w h hL.len hk hq hb0 hl0).mono fun e w' ht=> ?_
 have h1:=n_ (f:=fun x:bq=>{x with links:=x.links+vZ}) hL.sorted hq
 simp only at h1 ht
 rw[h1]at ht
 refine⟨ht.1,ht.2.1,?_⟩
 rw[oW (fun _=>by exact rfl),mV (fun _=>by exact rfl)]
 exact ht.2.2
theorem uP (id:Int) (x:bq) (w:World) (h:kW F w r T) (hs:aC fQ T) (hl:T.length≤64) (hx:aj id T=some x) (hn:x.names=[]):
  Calls Tryz.prog 81 #[ptr r, .int .i64 id] w (eF F w r (bF id T) (.tuple #[])):=by
 obtain⟨k,hk,hq⟩:=lU hs hx
 refine(K8 id k w h hl (by rw[List.length_map]) hk (List.getElem?_eq_some_iff.1 hq).1).mono fun e w' ht=> ?_
 have h1:=Vz hs hq
 simp only at h1
 rw[←List.map_take,←List.map_drop,←List.map_append,h1]at ht
 refine⟨ht.1,ht.2.1,?_⟩
 rw[EW (fun q hq2 hid=>by
  have:=aI bH hs hq2
  rw[hid,hx]at this
  cases this
  exact hn)]
 exact ht.2.2
end
theorem o_ (w:World) (cs:Array Value) (t:TypeId) (j:Nat):(w.alloc (.cells cs t)).cell? ⟨w.heap.size,j,none⟩=cs[j]? :=by
 have:=(MapKept.heap_alloc w (.cells cs t)).1
 unfold World.cell?
 simp only[this]
 rfl
section
variable {F:Nat→Prop} {r:Nat} {T:aA}
theorem eF.no {w w':World} {v:Int} (h:kW F w r T) (hb:Below w.heap.size w w') {q:Int×aA} (hq:q=(v,T)):eF F w r q.2 (.int .i64 q.1) (.returned (.int .i64 v)) w':=by
 rw[hq]
 exact dM.same h hb
end
theorem Jv {id:Int}:∀{T:aA} {x:bq},aC fQ T→aj id T=some x→(aS T).filter (fun e=>decide (e.1=id))=x.names.map fun e=>(id,e.1,e.2)
 |[],x,_,hx=>by cases hx
 |y::r,x,hs,hx=>by
  obtain⟨h1,h2⟩:=List.pairwise_cons.1 hs
  rw[dZ]at hx
  rw[dO,List.filter_append]
  by_cases hy:y.1=id
  ·rw[if_pos hy]at hx
   cases hx
   have e1:(jS y).filter (fun e=>decide (e.1=id))=jS y:=by
    rw[List.filter_eq_self]
    intro e he
    obtain⟨z,_,rfl⟩:=List.mem_map.1 he
    simp[hy]
   have e2:(aS r).filter (fun e=>decide (e.1=id))=[]:=by
    rw[List.filter_eq_nil_iff]
    intro e he
    obtain⟨q,hq,hk,_⟩:=Dh he
    have:=h1 q hq
    simp only[decide_eq_true_eq]at this
    simp only[decide_eq_true_eq]
    omega
   rw[e1,e2,List.append_nil]
   unfold jS
   rw[hy]
  ·rw[if_neg hy]at hx
   have e1:(jS y).filter (fun e=>decide (e.1=id))=[]:=by
    rw[List.filter_eq_nil_iff]
    intro e he
    obtain⟨z,_,rfl⟩:=List.mem_map.1 he
    simp[hy]
   rw[e1,List.nil_append,Jv h2 hx]
section
variable {F:Nat→Prop} {r:Nat} {T:aA}
end
end Go.Proofs.YtjnhnlabpccgjaaGreat
