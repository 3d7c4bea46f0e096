/- The reference: cut. -/
import Derived.Test.YtohpcppeajijnaaGreatM27
import Derived.Test.YtohpcppeajijnaaGreatM13
import Derived.BigRegion
import Derived.Deep.RegionHeld3
namespace Go.Proofs.YtohpcppeajijnaaGreat
open Go.ChangeShapes Go.WideShapes Go.ChangeAt Go.RowKit
set_option linter.unusedVariables false
set_option linter.unusedSimpArgs false
def wG (w:World) (r:Nat) (E:List iw) (e:Ending) (w':World):Prop:=
 e= .returned (.tuple #[])∧∃a c w1,Below w.heap.size w w1∧w'=w1.setCell ⟨r,2,none⟩ (.slice a E.length c)∧E.length≤c∧Base a c∧ak (fun x=>w.heap.size≤x∧x<w1.heap.size) w1 a (E.length*3) (E.flatMap dM)
theorem wH {F:Nat→Prop} {w w':World} {r:Nat} {T:aI} {D:List (List UInt8)} {E E':List iw} {e:Ending} (h:eX F w r T D E) (hs:wG w r E' e w'):cu F w r T D E' (.tuple #[]) e w':=by
 obtain⟨rfl,a,c,w1,hb,rfl,hc,hz,hrow⟩:=hs
 obtain⟨aN,cN,aD,cD,aE,cE,h1,h2,h3,h4,h8,h9,h10,h11⟩:=h.head
 have hr:=h.low r h.own
 have hK:Keeps (fun x=>x=r) w (w1.setCell ⟨r,2,none⟩ (.slice a E'.length c)):=(Keeps.mono (Keeps.below hb) (fun x hx hf=>by omega)).trans (Keeps.fE _ _ _) fun x _ hx=>hx
 refine⟨rfl,hK,h.turn (aD:=aD) hK ?_ h2 h3 hc (mE hK h8) ?_ (uT hr ?_) hz⟩
 ·rw[aL ((hb.block r hr).trans h1)]
  rfl
 ·exact h9.move hK.size fun b hb2 hbw=>⟨⟨.inl hb2.1,hb2.2⟩,hK.block b hbw hb2.2⟩
 ·refine(hrow.apart ⟨r,2,none⟩ _ fun b hb2=> ?_).mono fun b hb2=>⟨hb2.1,by rw[size_set];exact hb2.2⟩
  show b≠r
  have:=hb2.1
  omega
section
variable {F:Nat→Prop} {r:Nat} {T:aI} {D:List (List UInt8)} {E:List iw}
set_option maxHeartbeats 2000000 in
theorem JR (k:Nat) (w:World) (E:List iw) (b off n cE:Nat) (hc2:w.cell? ⟨r,2,none⟩=some (.slice (some ⟨b,off,none⟩) n cE)) (hrw:r<w.heap.size) (hfr:w.frozen? ⟨r,2,none⟩=false) (hn:E.length=n) (hcap:n≤cE) (Tm:n≤1000000) (hrow:ak F w (some ⟨b,off,none⟩) (n*3) (E.flatMap dM)) (hk:k<n):
  Calls Tryz.prog 69 #[ptr r, .int .i64 k] w (wG w r (E.take k++E.drop (k+1))):=by
 obtain⟨i,hi,hz,h3,h32⟩:=info_parts uS
 have HI:=Lib.hid (And.intro hi (And.intro hz (And.intro h3 h32)))
 have lH:Hid (∀w1,Below w.heap.size w w1→ak F w1 (some ⟨b,off,none⟩) (k*3) ((E.take k).flatMap dM)∧ak F w1 (if cE=k+1 then some ⟨b,off,none⟩else some ⟨b,off+(k+1)*3,none⟩) ((n-(k+1))*3) ((E.drop (k+1)).flatMap dM)):=fun w1 hb=>by
  have h1:=hrow.below hb (Nat.le_refl _)
  have h2:=h1.take (k*3)
  rw[jK dM 3 iL,Nat.min_eq_right (by omega)]at h2
  have h4:=h1.drop ((k+1)*3)
  rw[jL dM 3 iL,←Nat.sub_mul]at h4
  refine⟨h2,?_⟩
  by_cases hce:cE=k+1
  ·rw[if_pos hce]
   exact ak.zero _ _ _ (by rw[show n-(k+1)=0 by omega,Nat.zero_mul]) (by rw[List.drop_of_length_le (by omega)];rfl)
  ·rw[if_neg hce];exact h4
 have i0:(0:Int)≤k:=by omega
 have i1:(k:Int)≤cE:=by omega
 have i2:(k:Int)+1≤n:=by omega
 have i3:(0:Int)≤(k:Int)+1:=by omega
 have i4:(n:Int)≤cE:=by omega
 have e1:IntKind.i64.wrap ((k:Int)+1)=(k:Int)+1:=IntWalk.i64_in _ (by omega)
 have hlt:(E.take k++E.drop (k+1)).length=k+(n-(k+1)):=by simp;omega
 have Ed:=Lib.hid hlt
 have gq:Hid (∀w1,Below w.heap.size w w1→w1.cell? ⟨r,2,none⟩=some (.slice (some ⟨b,off,none⟩) n cE)∧w1.frozen? ⟨r,2,none⟩=false):=fun w1 hb=>⟨by rw[hb.cell (p:=⟨r,2,none⟩) hrw];exact hc2,by rw[hb.frozen (p:=⟨r,2,none⟩) hrw];exact hfr⟩
 clear hi hz h3 h32 hrow hlt
 go_enter Tryz.func69,Tryz.ntmps69
 go_wp2
 refine wp_region_noPanic ?_
 refine aH (last:=19) (S:=(fun w'=>w'.cell? ⟨r,2,none⟩=some (.slice (some ⟨b,off,none⟩) n cE)∧w'.frozen? ⟨r,2,none⟩=false)) (by kernel_rfl) ?_ (fun hS=> ?_)
 ·exact gq.out _ (Below.refl _ _).drew
 refine aC 0 (hS:=hS) (h:= ?_)
 refine aC 2 (hS:=hS) (h:= ?_)
 refine aC 3 (hS:=hS) (h:= ?_)
 refine aC 4 (hS:=hS) (h:= ?_)
 refine aC 5 (hS:=hS) (h:= ?_)
 refine aC 6 (hS:=hS) (h:= ?_)
 refine aC 7 (hS:=hS) (h:= ?_)
 refine aC 9 (hS:=hS) (h:= ?_)
 refine aC 10 (hS:=hS) (h:= ?_)
 refine aC 11 (hS:=hS) (h:= ?_)
 refine aC 12 (hS:=hS) (h:= ?_)
 refine aC 13 (hS:=hS) (h:= ?_)
 refine aC 14 (hS:=hS) (h:= ?_)
 refine aC 15 (hS:=hS) (h:= ?_)
 refine dh 1 (h:=fun K hK=> ?_)
 go_simp
 refine hK.out _ _ (fun _=>gq.out _ ((Below.refl _ _).drew.alloc (Nat.le_refl _) _)) (fun hS=> ?_)
 replace hS:=hS (by decide)
 clear hK K
 try simp only[Act.put,List.setIfInBounds_toArray,List.set_cons_zero,List.set_cons_succ]
 refine aj (rs:=[8]) (by kernel_rfl) (by simp) ?_
 refine ah.cons (o:= ?o1) ?ho1 (fun K hK=> ?_) ah.nil
 case ho1=>simp only[List.getElem?_toArray,List.getElem?_cons_succ,List.getElem?_cons_zero];rfl
 refine au (by rfl) (.tmp 5) (.tmp 11) 100 (by rfl) w.heap.size 131 i _ 3 32 Tryz.underlying100 HI.out.1 HI.out.2.1 HI.out.2.2.1 HI.out.2.2.2 rfl (by omega) _ 0 [] (by rfl) (bZ (MapKept.heap_alloc w.drew _).1 (Nat.le_refl _)) _ k _ ((E.take k).flatMap dM) (by rfl) (lH.out _ ((Below.refl _ _).drew.alloc (Nat.le_refl _) _)).1 (jy _) (by unfold maxLen;omega) (by omega) (by simp) ?_
 intro A1 c1 w1 hown1 hb1
 have hB1:Below w.heap.size w w1:=((Below.refl _ _).drew.alloc (Nat.le_refl _) _).trans hb1
 refine hK.out _ _ (fun _=>gq.out _ hB1) (fun hS=> ?_)
 replace hS:=hS (by decide)
 clear hK K
 try simp only[Act.put,List.setIfInBounds_toArray,List.set_cons_zero,List.set_cons_succ]
 refine aj (rs:=[16]) (by kernel_rfl) (by simp) ?_
 refine ah.cons (o:= ?o2) ?ho2 (fun K hK=> ?_) ah.nil
 case ho2=>simp only[List.getElem?_toArray,List.getElem?_cons_succ,List.getElem?_cons_zero];rfl
 refine au (by rfl) (.tmp 12) (.tmp 19) 100 (by rfl) w.heap.size 131 i _ 3 32 Tryz.underlying100 HI.out.1 HI.out.2.1 HI.out.2.2.1 HI.out.2.2.2 rfl (by omega) _ _ _ (by rfl) hown1 _ (n-(k+1)) _ ((E.drop (k+1)).flatMap dM) (by rfl) (lH.out _ hB1).2 (jy _) (by unfold maxLen;omega) (by omega) hB1.size ?_
 intro A2 c2 w2 hown2 hb2
 have hB2:Below w.heap.size w w2:=hB1.trans hb2
 refine hK.out _ _ (fun _=>gq.out _ hB2) (fun hS=> ?_)
 replace hS:=hS (by decide)
 clear hK K
 try simp only[Act.put,List.setIfInBounds_toArray,List.set_cons_zero,List.set_cons_succ]
 refine aC 17 (hS:=hS) (h:= ?_)
 refine aC 18 (hS:=hS) (h:= ?_)
 refine dh 19 (h:=fun K hK=> ?_)
 go_simp
 refine hK.out _ _ (fun h=>absurd rfl h) (fun hS=> ?_)
 clear hS hK K
 try simp only[Act.put,List.setIfInBounds_toArray,List.set_cons_zero,List.set_cons_succ]
 refine aG (by kernel_rfl) ?_ _
 refine NoPanic.normal ?_
 go_wp2
 all_goals (
  go_end0
  have hl:=Ed.out
  have e5:0+k+(n-(k+1))=(E.take k++E.drop (k+1)).length:=by omega
  obtain⟨-,hcc,hnz,hrow2⟩:=ak.jS hown2 (by unfold maxLen;omega)
  rw[List.nil_append,←List.flatMap_append,e5]at hrow2
  rw[e5]at hcc
  refine⟨rfl,A2,c2,w2,hB2,?_,hcc,hnz,hrow2⟩
  rw[hl])
theorem Ew (k:Nat) (w:World) (h:eX F w r T D E) (hk:k<E.length) (Tm:E.length≤1000000):
  Calls Tryz.prog 69 #[ptr r, .int .i64 k] w (cu F w r T D (E.take k++E.drop (k+1)) (.tuple #[])):=by
 obtain⟨aN,cN,aD,cD,aE,cE,h1,h2,h3,h4,h8,h9,h10,h11⟩:=h.head
 obtain⟨b,off,rfl,hF,hb,hi,hc⟩:=h10.wide iL rfl (List.getElem?_eq_getElem hk) (by omega)
 exact(JR k w E b off E.length cE (by simp[World.cell?,h1]) (h.low r h.own) (ak.frozen h1 rfl) rfl h4 Tm h10 hk).mono fun e w' hs=>wH h hs
end
end Go.Proofs.YtohpcppeajijnaaGreat
