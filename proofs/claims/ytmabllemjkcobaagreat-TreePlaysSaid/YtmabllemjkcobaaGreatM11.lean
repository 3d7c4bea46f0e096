/- tree: Make. tree: file, Node, Count, Look, settle, Seal, Keep. tree: settle, Seal, Keep. -/
import Derived.Test.YtmabllemjkcobaaGreatM08
import Derived.Test.YtmabllemjkcobaaGreatM10
import Derived.Deep.RegionHeld3
namespace Go.Proofs.YtmabllemjkcobaaGreat
open Go.ChangeShapes Go.WideShapes Go.ChangeAt Go.RowKit
set_option linter.unusedVariables false
set_option linter.unusedSimpArgs false
def Turn (g:Nat→Own) (D:Nat→Prop) (w:World) (p mb:Nat) (T':aG) (v:Value) (e:Ending) (w':World):Prop:=
 e= .returned v∧∃g' D' SG nb',aO g' D' w' p mb SG nb' T'∧(∀b,g' b≠ .none→g b≠ .none∨w.heap.size≤b)∧(∀b,D' b→D b∨w.heap.size≤b)∧Keeps (fun b=>g b≠ .none) w w'
theorem Turn.same {g:Nat→Own} {D:Nat→Prop} {w w':World} {p mb:Nat} {ib nb:Int→Nat} {T:aG} {v:Value} {e:Ending} (h:aO g D w p mb ib nb T) (hb:Below w.heap.size w w') (he:e= .returned v):Turn g D w p mb T v e w':=
 ⟨he,g,D,ib,nb,h.below hb (Nat.le_refl _),fun b h=> .inl h,fun b h=> .inl h,(Keeps.below hb).mono fun x hx hx'=>absurd hx (by omega)⟩
theorem ig {T:aG} {p:List Nm} (hT:dX T) (h:(aI T p).2.2=0):∃x,aj (aI T p).1 T=some x∧x.kind=2∧(aI T p).2.1∈p:=by
 unfold aI at h⊢
 by_cases h0:p=[]
 ·rw[if_pos h0]at h;cases h
 ·rw[if_neg h0]at h⊢
  by_cases h1:(aH T 0 p.dropLast).2≠0
  ·rw[if_pos h1]at h;exact absurd h h1
  ·rw[if_neg h1]at h⊢
   by_cases h2:bO T (aH T 0 p.dropLast).1=2
   ·rw[if_pos h2]
    obtain⟨x,hx,hk⟩:=gM h2
    refine⟨x,hx,hk,?_⟩
    cases p with
    |nil=>exact absurd rfl h0
    |cons z r=>simp[List.getLastD_eq_getLast?,List.getLast?_eq_some_getLast]
   ·rw[if_neg h2]at h;cases h
theorem iR {p:List Nm} (h:bS p=0):∀n∈p,dw n=true:=by
 unfold bS at h
 split at h
 ·cases h
 ·rename_i h1
  intro n hn
  have h2:(p.any fun x=> !dw x)=false:=by simpa only[Bool.not_eq_true]using h1
  have:=List.any_eq_false.1 h2 n hn
  simpa using this
theorem nO {p:List Nm} (h:bS p=0):p.length≤8:=by
 unfold bS at h
 split at h
 ·cases h
 ·split at h
  ·cases h
  ·omega
theorem n_ (l:List UInt8) (h:dw l=true):l.length≤16:=by
 simp only[dw,Bool.and_eq_true,decide_eq_true_eq]at h
 exact h.1.1.2
theorem EX (p:List Nm):iL [p]=bS p:=by
 unfold iL iL
 by_cases h:bS p≠0
 ·rw[if_pos h]
 ·rw[if_neg h];omega
theorem M0 (p q:List Nm):iL [p,q]=je p q:=by
 unfold iL je
 by_cases h:bS p≠0
 ·rw[if_pos h,if_pos h]
 ·rw[if_neg h,if_neg h,EX]
theorem qK {w:World} {v:Value} {t:TypeId}:(w.alloc (.cells #[v] t)).cell? ⟨w.heap.size,0,none⟩=some v:=by
 simp only[World.cell?,(MapKept.heap_alloc w _).1];rfl
theorem m_ {w:World} {u v:Value} {t:TypeId}:(w.alloc (.cells #[u,v] t)).cell? ⟨w.heap.size,0,none⟩=some u∧(w.alloc (.cells #[u,v] t)).cell? ⟨w.heap.size,1,none⟩=some v:=by
 simp only[World.cell?,(MapKept.heap_alloc w _).1];exact⟨rfl,rfl⟩
theorem wall (w:World) (o:Obj):Below w.heap.size w (w.alloc o):=(Below.refl _ _).alloc (Nat.le_refl _) _
theorem vG {S:Nat→Prop} (a:Option Addr) (n c:Nat) (ls:List Nm) (w:World) (hS:aK S w a n (ls.map strOf)):
  Calls Tryz.prog 64 #[.slice (some ⟨w.heap.size,0,none⟩) 1 1] (w.alloc (.cells #[.slice a n c] 26)) fun e w'=>e= .returned (.int .i64 (bS ls))∧Below w.heap.size w w':=by
 refine(Cq (S:=S) w.heap.size 1 [ls] _ rfl (by omega) (by simp) (fun k hk=> ?_)).mono ?_
 ·obtain rfl:k=0:=by omega
  exact⟨a,n,c,ls,qK,hS.below (wall w _) (Nat.le_refl _),rfl⟩
 ·rintro e w' ⟨rfl,hb⟩
  rw[EX]
  exact⟨rfl,(wall w _).trans (hb.mono (by simp))⟩
theorem EY {S S':Nat→Prop} (a:Option Addr) (n c:Nat) (ls:List Nm) (a':Option Addr) (n' c':Nat) (ls':List Nm) (w:World) (hS:aK S w a n (ls.map strOf)) (hS':aK S' w a' n' (ls'.map strOf)):
  Calls Tryz.prog 64 #[.slice (some ⟨w.heap.size,0,none⟩) 2 2] (w.alloc (.cells #[.slice a n c, .slice a' n' c'] 26)) fun e w'=>e= .returned (.int .i64 (je ls ls'))∧Below w.heap.size w w':=by
 refine(Cq (S:=fun x=>S x∨S' x) w.heap.size 2 [ls,ls'] _ rfl (by omega) (by simp) (fun k hk=> ?_)).mono ?_
 ·rcases (show k=0∨k=1 by omega)with rfl|rfl
  ·exact⟨a,n,c,ls,m_.1,(hS.below (wall w _) (Nat.le_refl _)).mono fun _=> .inl,rfl⟩
  ·exact⟨a',n',c',ls',m_.2,(hS'.below (wall w _) (Nat.le_refl _)).mono fun _=> .inr,rfl⟩
 ·rintro e w' ⟨rfl,hb⟩
  rw[M0]
  exact⟨rfl,(wall w _).trans (hb.mono (by simp))⟩
theorem BL {w w':World} {b:Nat} (h:w.mapTurned w' b):Keeps (fun x=>x=b) w w':=Keeps.turned h
theorem eG {w w':World} {b:Nat} (h:w.mapTurned w' b) (x:Nat) (hx:x<w.heap.size) (hn:x≠b):w'.heap[x]? =w.heap[x]? :=(BL h).block x hx hn
theorem gW {w w':World} {b:Nat} (h:w.mapTurned w' b):Keeps (fun x=>x=b) w w':=Keeps.turned h
theorem aO.names {g:Nat→Own} {D:Nat→Prop} {w w':World} {p mb:Nat} {ib nb:Int→Nat} {T:aG} (h:aO g D w p mb ib nb T) {d:Int} {x:bW} {l:List (Nm×Int)} (hx:aj d T=some x) (hk:x.kind=2) (hM:MapAt dN w' (nb d) (cO {x with names:=l})) (hT:w.mapTurned w' (nb d)) (f:bW→bW) (hf:f x={x with names:=l}):
  aO g D w' p mb ib nb (Go.Proofs.YtmabllemjkcobaaGreat.bH d f T):=by
 have hs:=jd hT
 have hn:=h.kZ d x hx hk
 refine h.bH hx (by rw[hf]) (fun _ h=>h) (fun b hb=>⟨h.data b hb,by rw[hs];exact h.pY b hb⟩) (by omega) (fun b hb h1 h2=>eG hT b hb (fun e=>h2 (by rw[e];exact hn))) ?_
 have hb:∀b,b<w.heap.size→g b≠ .names d→w'.heap[b]? =w.heap[b]? :=fun b hb h2=>eG hT b hb (fun e=>h2 (by rw[e];exact hn))
 have hi:=h.item d x hx
 have ti:=h.nY d x hx
 obtain⟨a,c,h1,h2,h3⟩:=hi.cells
 rw[hf]
 refine⟨⟨a,c,(hb _ (h.low _ (by rw[ti];simp)) (by rw[ti];simp)).trans h1,h2,h3.kept (by omega) fun b hD hbw=>hb b hbw (by rw[h.data b hD];simp)⟩,fun _=>hM⟩
theorem aO.set {g:Nat→Own} {D:Nat→Prop} {w w':World} {p mb:Nat} {ib nb:Int→Nat} {T:aG} (h:aO g D w p mb ib nb T) {d id:Int} {x:bW} {n:Nm} (hx:aj d T=some x) (hk:x.kind=2) (hM:MapAt dN w' (nb d) (dF dN.lt n (.int .i64 id) (cO x))) (hT:w.mapTurned w' (nb d)):
  aO g D w' p mb ib nb (setName T d n id):=by
 refine h.names (l:=dF bytesBefore n id x.names) hx hk ?_ hT _ rfl
 have e:cO {x with names:=dF bytesBefore n id x.names}=dF dN.lt n (.int .i64 id) (cO x):=wW bytesBefore (fun(_:Nm) (i:Int)=>Value.int .i64 i) n id x.names
 rw[e]
 exact hM
theorem aO.cut {g:Nat→Own} {D:Nat→Prop} {w w':World} {p mb:Nat} {ib nb:Int→Nat} {T:aG} (h:aO g D w p mb ib nb T) {d:Int} {x:bW} {n:Nm} (hx:aj d T=some x) (hk:x.kind=2) (hM:MapAt dN w' (nb d) (bR n (cO x))) (hT:w.mapTurned w' (nb d)):
  aO g D w' p mb ib nb (aF T d n):=by
 refine h.names (l:=bR n x.names) hx hk ?_ hT _ rfl
 have e:cO {x with names:=bR n x.names}=bR n (cO x):=wV (fun(_:Nm) (i:Int)=>Value.int .i64 i) n x.names
 rw[e]
 exact hM
theorem M4 {g:Nat→Own} {D:Nat→Prop} {w w3 w4:World} {p mb:Nat} {ib nb:Int→Nat} {T:aG} {f kind:Int} (h:aO g D w p mb ib nb T) (hf:aj f T=none) (hi:jB (fun _=>False) w3 f w.heap.size (w.heap.size+1) (bZ kind)) (hb:Below w.heap.size w w3) (hs:w.heap.size<w3.heap.size) (hs2:kind=2→w.heap.size+1<w3.heap.size)
  (hM:MapAt bC w4 mb (dF bC.lt f (ptr w.heap.size) (T.map fun q=>(q.1,ptr (ib q.1))))) (hT:w3.mapTurned w4 mb):
  ∃g1 YG WJ,aO g1 D w4 p mb YG WJ (dF g_ f (bZ kind) T)∧(∀b,g1 b≠ .none→g b≠ .none∨w.heap.size≤b)∧Keeps (fun b=>g b≠ .none) w w4∧∀j,j≠f→YG j=ib j∧WJ j=nb j:=by
 have hsz:=jd hT
 have hK:=gW hT
 have hmw:=h.map.lt
 refine⟨_,_,_,h.add (i:=w.heap.size) (n:=w.heap.size+1) (x:=bZ kind) (k:=f) (Nat.le_refl _) (by omega) (by omega) (by omega) (fun hk=>by have:=hs2 hk;omega) hf rfl hM (by omega) (fun b hbw TM=>(hK.block b (by omega) TM).trans (hb.block b hbw)) (hi.move (by omega) (hK.block _ hs (by omega)) (fun hk=>hK.block _ (hs2 hk) (by omega)) (fun _ h=>h.elim)),fun b hb1=> ?_,⟨hK.os.trans hb.os,hK.tape.trans hb.tape,hK.output.trans hb.output,by omega,fun b hbw hbg=>(hK.block b (by omega) (fun e=>hbg (by rw[e,h.jN];simp))).trans (hb.block b hbw)⟩,fun j hj=>⟨by simp[hj],by simp[hj]⟩⟩
 by_cases hbi:w.heap.size≤b
 ·exact .inr hbi
 ·simp only[if_neg (show ¬b=w.heap.size by omega),if_neg (show ¬(b=w.heap.size+1∧(bZ kind).kind=2)by omega)]at hb1
  exact .inl hb1
theorem M5 {g g1:Nat→Own} {w w2 w4 w5:World} {nd:Nat} (hb2:Below w.heap.size w w2) (hg1:∀b,g1 b≠ .none→g b≠ .none∨w2.drew.heap.size≤b) (hK4:Keeps (fun b=>g b≠ .none) w2.drew w4) (M6:w4.mapTurned w5 nd) (hnd:g1 nd≠ .none):
  (∀b,g1 b≠ .none→g b≠ .none∨w.heap.size≤b)∧Keeps (fun b=>g b≠ .none) w w5:=by
 have hs:=hb2.size
 have hK:=gW M6
 have h4:w2.heap.size≤w4.heap.size:=hK4.size
 have h5:=hK.size
 refine⟨fun b hb=>(hg1 b hb).imp id fun h=>Nat.le_trans hs h,hK.os.trans (hK4.os.trans hb2.os),hK.tape.trans (hK4.tape.trans hb2.tape),hK.output.trans (hK4.output.trans hb2.output),by omega,fun b hb hbg=> ?_⟩
 have h6:b≠nd:=fun e=>by
  rcases hg1 b (by rw[e];exact hnd)with h|h
  ·exact hbg h
  ·have:w2.heap.size≤b:=h
   omega
 exact(hK.block b (by omega) h6).trans ((hK4.block b (show b<w2.heap.size by omega) hbg).trans (hb2.block b hb))
set_option maxRecDepth 100000 in
set_option maxHeartbeats 8000000 in
theorem JN {S:Nat→Prop} {g:Nat→Own} {D:Nat→Prop} {p mb:Nat} {ib nb:Int→Nat} {T:aG} (a:Option Addr) (n c:Nat) (ls:List Nm) (kind:Int) (w:World) (h:aO g D w p mb ib nb T) (hT:dX T) (hS:aK S w a n (ls.map strOf)) (hc:n≤c) (kV:n≤1000000):
  Calls Tryz.prog 13 #[ptr p, .slice a n c, .int .i64 kind] w (Turn g D w p mb (dP T ls kind).2 (.tuple #[.int .i64 (dP T ls kind).1.1, .int .i64 (dP T ls kind).1.2])):=by
 have HH:=Lib.hid h
 have HT:=Lib.hid hT
 have HS:=Lib.hid hS
 have HF:=Lib.hid (vG (S:=S) a n c ls w hS)
 clear h hT hS
 by_cases hf:bS ls=0
 ·have zD:=Lib.hid hf
  rw[hf]at HF
  clear hf
  by_cases hk:kind=1∨kind=2
  ·have HK:=Lib.hid hk
   have uj:=Lib.hid (fun w1 (hb:Below w.heap.size w w1)=>tC a n c ls w1 (HH.out.below hb (Nat.le_refl _)) HT.out (HS.out.below hb (Nat.le_refl _)) hc kV)
   by_cases hp:(aI T ls).2.2=0
   ·obtain⟨x,hx,hxk,hnm⟩:=ig HT.out hp
    have hgn:=iR zD.out _ hnm
    have HPE:=Lib.hid hp
    obtain⟨⟨d,nm,z⟩,hq⟩:∃q,q=aI T ls:=⟨_,rfl⟩
    unfold nZ at uj
    rw[←hq]at hp hx hnm hgn uj
    obtain rfl:z=0:=hp
    have HQ:=Lib.hid hq
    have HX:=Lib.hid hx
    have HG:=Lib.hid hgn
    have BM:=Lib.hid hxk
    clear hq hx hgn hxk hnm
    have lq:=HT.out.ids d x HX.out
    have hlen:=HT.out.len
    have kN:dN.ok nm:=by
     have:=n_ nm HG.out
     show nm.length≤maxLen
     unfold maxLen;omega
    have Bt:Hid (∀k,(64≤T.length→k=4)→(T.length<64→k=0)→jP T ls kind=if (aj nm x.names).isSome then 21 else k):=fun k h4 h0=>by
     unfold jP
     have e1:aX T d=x.names:=by unfold aX;rw[HX.out]
     rw[if_neg (by rw[zD.out];simp),if_neg (fun h=>h hk),←HQ.out,if_neg (by simp),e1]
     by_cases h64:64≤T.length
     ·rw[if_pos h64,h4 h64]
     ·rw[if_neg h64,h0 (by omega)]
    have jT:Hid (∀w2,Below w.heap.size w w2→w2.cell? ⟨ib d,7,none⟩=some (.map (some (nb d)))∧MapAt dN w2 (nb d) (cO x)∧w2.cell? ⟨p,0,none⟩=some (.map (some mb))∧MapAt bC w2 mb (T.map fun q=>(q.1,ptr (ib q.1)))):=fun w2 hb=>by
     have h2:=HH.out.below hb (Nat.le_refl _)
     have hi:=h2.item d x HX.out
     obtain⟨_,_,_,_,_,_,c7,_⟩:=hi.cell
     unfold gF at c7
     rw[if_pos BM.out]at c7
     exact⟨c7,hi.names BM.out,h2.cell.1,h2.map⟩
    cases hj:aj nm x.names with
    |some j=>
     have hgn:aj nm (cO x)=some (.int .i64 j):=by rw[eB,hj];rfl
     have DY:=Lib.hid hgn
     have hm:dP T ls kind=((0,21),T):=by
      have:jP T ls kind=21:=by rw[Bt.out (if 64≤T.length then 4 else 0) (fun h=>if_pos h) (fun h=>if_neg (by omega)),hj];rfl
      unfold dP;rw[this];simp
     have HM:=Lib.hid hm
     clear hm hj hgn
     rcases hk with rfl|rfl
     all_goals
      go_enter Tryz.func13,Tryz.ntmps13
      go_wp2_with fail
      (with_reducible refine HF.out.mono ?_)
      rintro e w1 ⟨rfl,hb1⟩
      have HB1:=Lib.hid hb1
      clear hb1
      go_wp2_with fail
      (with_reducible refine(uj.out w1 HB1.out).mono ?_)
      rintro e w2 ⟨rfl,hb2⟩
      (first|rw[if_pos rfl]|rw[if_pos trivial])
      have HB2:=Lib.hid (HB1.out.trans (hb2.mono HB1.out.size))
      clear hb2
      obtain⟨c7,fI,_,_⟩:=jT.out w2 HB2.out
      have mK:=Lib.hid fI
      clear fI
      go_wp2_with (at_lookup;refine aJ dN rfl _ _ 112 3 rfl Tryz.underlying112 (Tryz.fq _) rfl mK.out nm rfl kN ?_;rw[DY.out])
      go_ret2
      rw[HM.out]
      exact Turn.same HH.out HB2.out rfl
    |none=>
     have hgn:aj nm (cO x)=none:=by rw[eB,hj];rfl
     have DY:=Lib.hid hgn
     have HJ:=Lib.hid hj
     clear hgn hj
     by_cases h64:64≤T.length
     ·have hm:dP T ls kind=((0,4),T):=by
       have:jP T ls kind=4:=by rw[Bt.out 4 (fun _=>rfl) (fun h=>by omega),HJ.out];rfl
       unfold dP;rw[this];simp
      have HM:=Lib.hid hm
      have TN:decide ((T.length:Int)<64)=false:=by simp;omega
      have Zc:decide ((64:Int)≤(T.length:Int))=true:=by simp;omega
      clear hm
      rcases hk with rfl|rfl
      all_goals
       go_enter Tryz.func13,Tryz.ntmps13
       go_wp2_with fail
       (with_reducible refine HF.out.mono ?_)
       rintro e w1 ⟨rfl,hb1⟩
       have HB1:=Lib.hid hb1
       clear hb1
       go_wp2_with fail
       (with_reducible refine(uj.out w1 HB1.out).mono ?_)
       rintro e w2 ⟨rfl,hb2⟩
       (first|rw[if_pos rfl]|rw[if_pos trivial])
       have HB2:=Lib.hid (HB1.out.trans (hb2.mono HB1.out.size))
       clear hb2
       obtain⟨c7,fI,c0,hmap⟩:=jT.out w2 HB2.out
       have mK:=Lib.hid fI
       have gG:=Lib.hid hmap
       clear fI hmap
       go_wp2_with (first|(at_lookup;refine aJ dN rfl _ _ 112 3 rfl Tryz.underlying112 (Tryz.fq _) rfl mK.out nm rfl kN ?_;rw[DY.out])|(at_len;refine iJ bC rfl _ 101 99 rfl Tryz.underlying101 rfl gG.out ?_;rw[List.length_map]))
       go_ret2
       rw[HM.out]
       exact Turn.same HH.out HB2.out rfl
     ·have hm:dP T ls kind=((zq T,0),rW T ls kind):=by
       have:jP T ls kind=0:=by rw[Bt.out 0 (fun h=>absurd h h64) (fun h=>rfl),HJ.out];rfl
       unfold dP;rw[if_pos this]
      unfold rW at hm
      rw[←HQ.out]at hm
      obtain⟨f,hfE,hf1,hf2,hfn,hfs⟩:=HT.out.free
      rw[hfE]at hm
      have HM:=Lib.hid hm
      have MC:=Lib.hid hfn
      have YH:=Lib.hid hfs
      have TN:decide ((T.length:Int)<64)=true:=by simp;omega
      have Zc:decide ((64:Int)≤(T.length:Int))=false:=by simp;omega
      have hfd:d≠(f:Int):=fun e=>by have:=HX.out;rw[e,MC.out]at this;cases this
      have HFD:=Lib.hid hfd
      clear hm hfn hfs hfE hfd
      have Zd:bC.ok (f:Int):=mh (by omega) (by omega)
      have HK:=Lib.hid hk
      rcases hk with rfl|rfl
      all_goals
       go_enter Tryz.func13,Tryz.ntmps13
       go_wp2_with fail
       (with_reducible refine HF.out.mono ?_)
       rintro e w1 ⟨rfl,hb1⟩
       have HB1:=Lib.hid hb1
       clear hb1
       go_wp2_with fail
       (with_reducible refine(uj.out w1 HB1.out).mono ?_)
       rintro e w2 ⟨rfl,hb2⟩
       (first|rw[if_pos rfl]|rw[if_pos trivial])
       have HB2:=Lib.hid (HB1.out.trans (hb2.mono HB1.out.size))
       clear hb2
       obtain⟨c7,fI,c0,hmap⟩:=jT.out w2 HB2.out
       have mK:=Lib.hid fI
       have gG:=Lib.hid hmap
       clear fI hmap
       go_wp2_with (first|(at_lookup;refine aJ dN rfl _ _ 112 3 rfl Tryz.underlying112 (Tryz.fq _) rfl mK.out nm rfl kN ?_;rw[DY.out])|(at_len;refine iJ bC rfl _ 101 99 rfl Tryz.underlying101 rfl gG.out ?_;rw[List.length_map]))
       go_loop [14] (fun s=>∃j:Nat,1≤j∧j≤f∧s= .int .i64 j) (fun s=>f-(intOf s).toNat)
       case atStart=>exact⟨1,by omega,by omega,rfl⟩
       case round=>
        obtain⟨j,hj1,hjf,rfl⟩:=hrel
        have rG:bC.ok (j:Int):=mh (by omega) (by omega)
        by_cases Ze:j<f
        ·obtain⟨y,hy⟩:=Option.isSome_iff_exists.1 (YH.out j hj1 Ze)
         have tF:Hid (aj (j:Int) (T.map fun q=>(q.1,ptr (ib q.1)))=some (ptr (ib j))):=by rw[dR,hy];rfl
         clear hy
         go_wp2_with (at_lookup;refine aW bC rfl _ _ 101 99 rfl Tryz.underlying101 (Tryz.bA _) rfl gG.out (j:Int) rfl rG ?_;rw[tF.out])
         go_round
         case rel=>exact⟨j+1,by omega,by omega,by go_num⟩
         case measure=>simp[intOf];omega
        ·obtain rfl:f=j:=by omega
         have tF:Hid (aj (f:Int) (T.map fun q=>(q.1,ptr (ib q.1)))=none):=by rw[dR,MC.out];rfl
         go_wp2_with (at_lookup;refine aW bC rfl _ _ 101 99 rfl Tryz.underlying101 (Tryz.bA _) rfl gG.out (f:Int) rfl rG ?_;rw[tF.out])
         have HA2:=Lib.hid (HH.out.below HB2.out (Nat.le_refl _))
         have hpw:=HA2.out.cell.2.1
         have hmw:=HA2.out.cell.2.2
         have hpm:p≠mb:=fun e=>by have h1:=HH.out.qJ;rw[e,HH.out.jN]at h1;cases h1
         have hst:∀v w3,Below w2.drew.heap.size w2.drew w3→∃w4,(Instr.mapUpdate 101 (.map (some mb)) (.int .i64 (f:Int)) v).run Tryz.prog w3= .ok () w4∧MapAt bC w4 mb (dF bC.lt (f:Int) v (T.map fun q=>(q.1,ptr (ib q.1))))∧w3.mapTurned w4 mb:=by
          intro v w3 hb3
          have hm1:MapAt bC w3 mb (T.map fun q=>(q.1,ptr (ib q.1))):=gG.out.kept (hb3.block mb hmw)
          exact hm1.tu bC Tryz.underlying101 (by rw[List.length_map];unfold maxLen;omega) (f:Int) v Zd
         have HST:=Lib.hid hst
         have HPM:=Lib.hid hpm
         have hkeep:∀w3,Below w2.drew.heap.size w2.drew w3→w3.cell? ⟨p,0,none⟩=some (.map (some mb)):=fun w3 hb3=>(hb3.cell (p:=⟨p,0,none⟩) hpw).trans c0
         have M7:∀w3 w4,Below w2.drew.heap.size w2.drew w3→w3.mapTurned w4 mb→w4.cell? ⟨p,0,none⟩=some (.map (some mb)):=fun w3 w4 hb3 hT=>(World.cell?_of_block (w:=w3) (w':=w4) (a:=⟨p,0,none⟩) (eG hT p (Nat.lt_of_lt_of_le hpw hb3.size) HPM.out)).trans ((hb3.cell (p:=⟨p,0,none⟩) hpw).trans c0)
         have kU:=Lib.hid hkeep
         have TP:=Lib.hid M7
         have HFA:=Lib.hid (fun w=>xg (f:Int) 1 w)
         clear hst hpm hkeep M7
         go_region_held3 (fun w'=>w'.cell? ⟨p,0,none⟩=some (.map (some mb))) (first|exact c0|exact kU.out _ hb3|exact TP.out _ _ hb3 rY) ((first|(go_at_call 63;refine(xg (f:Int) _ _).mono ?_;rintro e w3 ⟨rfl,hi3,hb3,hs3,hs4⟩)|(obtain⟨w4,Cr,Bu,rY⟩:=HST.out (ptr w2.heap.size) w3 hb3;rw[Cr];go_simp)))
         have HI3:=Lib.hid hi3
         have HB3:=Lib.hid hb3
         have P5:=Lib.hid hs3
         have M8:=Lib.hid hs4
         have za:=Lib.hid Bu
         have u6:=Lib.hid rY
         clear hi3 hb3 hs3 hs4 Bu rY Cr
         obtain⟨g1,YG,WJ,EC,hg1,hK4,hib⟩:=M4 (HA2.out.below (Below.refl _ _).drew (Nat.le_refl _)) MC.out HI3.out HB3.out P5.out (by first|exact M8.out|exact fun _=>M8.out trivial) za.out u6.out
         have hx4:∀kd,aj d (dF g_ (f:Int) (bZ kd) T)=some x:=fun kd=>by rw[f_,if_neg HFD.out];exact HX.out
         obtain⟨_,_,_,_,_,_,Zf,_⟩:=(EC.item d x (hx4 _)).cell
         have TQ:=(EC.item d x (hx4 _)).names BM.out
         unfold gF at Zf
         rw[if_pos BM.out,(hib d HFD.out).1]at Zf
         obtain⟨nd,hnd⟩:∃nd,nd=WJ d:=⟨_,rfl⟩
         rw[←hnd]at Zf TQ
         have HA4:=Lib.hid EC
         have M9:=Lib.hid hg1
         have G8:=Lib.hid hK4
         have HX4:=Lib.hid hx4
         have Zg:=Lib.hid TQ
         have yR:=Lib.hid hnd
         have TR:Hid ((cO x).length<maxLen):=by
          have h1:=HT.out.few HX.out
          have h2:(cO x).length<maxLen:=by unfold cO maxLen;rw[List.length_map];omega
          exact h2
         clear EC hg1 hK4 hx4 TQ hnd hib
         go_wp2_with (at_mapUpdate;refine iI dN rfl _ _ _ 112 3 rfl Tryz.underlying112 rfl Zg.out TR.out nm (.int .i64 (f:Int)) rfl rfl kN ?_;intro w5 TS M6)
         go_ret2
         rw[HM.out]
         have EC:=HA4.out
         have hnd:=yR.out
         have hgn:g1 nd≠ .none:=by rw[hnd,EC.kZ d x (HX4.out _) BM.out];simp
         obtain⟨e1,e2⟩:=M5 HB2.out M9.out G8.out M6 hgn
         subst hnd
         exact⟨rfl,g1,D,YG,WJ,EC.set (HX4.out _) BM.out TS M6,e1,fun b h=> .inl h,e2⟩
   ·have hne:((aI T ls).2.2==0)=false:=by simpa using hp
    have hne2:((aI T ls).2.2 !=0)=true:=by simpa using hp
    have hm:dP T ls kind=((0,(aI T ls).2.2),T):=by
     have:jP T ls kind=(aI T ls).2.2:=by unfold jP;rw[if_neg (by rw[zD.out];simp),if_neg (fun h=>h hk),if_pos hp]
     unfold dP;rw[this,if_neg hp]
    have HM:=Lib.hid hm
    have HP:=Lib.hid hp
    unfold nZ at uj
    generalize aI T ls=q at*
    clear hm hp
    rcases hk with rfl|rfl
    all_goals
     go_enter Tryz.func13,Tryz.ntmps13
     go_wp2_with fail
     (with_reducible refine HF.out.mono ?_)
     rintro e w1 ⟨rfl,hb1⟩
     have HB1:=Lib.hid hb1
     clear hb1
     go_wp2_with fail
     (with_reducible refine(uj.out w1 HB1.out).mono ?_)
     rintro e w2 ⟨rfl,hb2⟩
     rw[if_neg HP.out]
     have HB2:=Lib.hid hb2
     clear hb2
     go_wp2_with fail
     go_ret2
     rw[HM.out]
     exact Turn.same HH.out (HB1.out.trans (HB2.out.mono HB1.out.size)) rfl
  ·have HK:=Lib.hid hk
   have e1:(kind !=1)=true:=by simp;omega
   have e2:(kind !=2)=true:=by simp;omega
   have hm:dP T ls kind=((0,30),T):=by
    have:jP T ls kind=30:=by unfold jP;rw[if_neg (by rw[zD.out];simp),if_pos HK.out]
    unfold dP;rw[this];simp
   have HM:=Lib.hid hm
   clear hm hk
   go_enter Tryz.func13,Tryz.ntmps13
   go_wp2_with fail
   (with_reducible refine HF.out.mono ?_)
   rintro e w1 ⟨rfl,hb1⟩
   go_wp2_with fail
   go_ret2
   rw[HM.out]
   exact Turn.same HH.out hb1 rfl
 ·have hm:dP T ls kind=((0,bS ls),T):=by
   have:jP T ls kind=bS ls:=by unfold jP;rw[if_pos hf]
   unfold dP;rw[this,if_neg hf]
  have hne:(bS ls==0)=false:=by simpa using hf
  have hne2:(bS ls !=0)=true:=by simpa using hf
  have HM:=Lib.hid hm
  clear hm hf
  go_enter Tryz.func13,Tryz.ntmps13
  go_wp2_with fail
  (with_reducible refine HF.out.mono ?_)
  rintro e w1 ⟨rfl,hb1⟩
  go_wp2_with fail
  go_ret2
  rw[HM.out]
  exact Turn.same HH.out hb1 rfl
section
variable {g:Nat→Own} {D:Nat→Prop} {p mb:Nat} {ib nb:Int→Nat} {T:aG}
theorem jB.frozen {w:World} {k:Int} {i n:Nat} {x:bW} (h:jB D w k i n x) (j:Nat):w.frozen? ⟨i,j,none⟩=false:=by
 obtain⟨⟨a,c,h1,_⟩,_⟩:=h
 simp[World.frozen?,h1]
theorem jB.row {w:World} {k:Int} {i n:Nat} {x:bW} (h:jB D w k i n x):∃a c,w.cell? ⟨i,6,none⟩=some (.slice a x.b.length c)∧mg x.b.length c∧aC D w a x.b.length (x.b.map bv)∧w.heap[i]? =some (.cells (jw k x a c n) 114 (0,0)):=by
 obtain⟨⟨a,c,h1,h2,h3⟩,_⟩:=h
 exact⟨a,c,by simp only[World.cell?,h1];rfl,h2,h3,h1⟩
theorem aO.fields {w w':World} (h:aO g D w p mb ib nb T) {k:Int} {x:bW} (hx:aj k T=some x) (f:bW→bW) (hb:(f x).b=x.b) (hn:(f x).names=x.names) (hk:(f x).kind=x.kind) (hK:Keeps (fun b=>b=ib k) w w') (hs:w'.heap.size=w.heap.size)
  (hc:∀a c,w.heap[ib k]? =some (.cells (jw k x a c (nb k)) 114 (0,0))→w'.heap[ib k]? =some (.cells (jw k (f x) a c (nb k)) 114 (0,0))):aO g D w' p mb ib nb (Go.Proofs.YtmabllemjkcobaaGreat.bH k f T):=by
 have ti:=h.nY k x hx
 refine h.bH hx hk (fun _ h=>h) (fun b hb=>⟨h.data b hb,by rw[hs];exact h.pY b hb⟩) (by omega) (fun b hbw h1 _=>hK.block b hbw (fun e=>h1 (by rw[e];exact ti))) ?_
 obtain⟨⟨a,c,h1,h2,h3⟩,h4⟩:=h.item k x hx
 refine⟨⟨a,c,hc a c h1,by rw[hb];exact h2,by rw[hb];exact h3.kept (by omega) fun b hD hbw=>hK.block b hbw (fun e=>by have:=h.data b hD;rw[e,ti]at this;cases this)⟩,fun hk2=> ?_⟩
 have WK:x.kind=2:=hk▸hk2
 have e:cO (f x)=cO x:=by unfold cO;rw[hn]
 rw[e]
 have tn:=h.kZ k x hx WK
 exact(h4 WK).kept (hK.block _ (h.low _ (by rw[tn];simp)) (fun e=>by rw[e,ti]at tn;cases tn))
theorem Keeps.set2 (w:World) (i j j':Nat) (v v':Value):Keeps (fun b=>b=i) w ((w.setCell ⟨i,j,none⟩ v).setCell ⟨i,j',none⟩ v'):=
 (Keeps.jm w ⟨i,j,none⟩ v).trans (Keeps.jm _ ⟨i,j',none⟩ v') (fun _ _ h=>h)
set_option maxHeartbeats 1000000 in
theorem rZ (id:Int) (k:Int) (hk:dx T id=k) (hk0:k≠0) (w:World) (h:aO g D w p mb ib nb T) (hid:(Lit.int .i64 id).wf=true):
  Calls Tryz.prog 80 #[ptr p, .int .i64 id] w fun e w'=>e= .returned (.tuple #[.pointer none, .int .i64 k])∧w=w':=by
 obtain⟨hc0,hpw,hmw⟩:=h.cell
 have hmap:=Lib.hid h.map
 have hok:bC.ok id:=hid
 unfold dx at hk
 cases hx:aj id T with
 |none=>
  rw[hx]at hk
  simp only at hk
  subst hk
  have HG:Hid (aj id (T.map fun q=>(q.1,ptr (ib q.1)))=none):=by rw[dR,hx];rfl
  clear h hx hid hk0
  go_enter Tryz.func80,Tryz.ntmps80
  go_wp2_with (at_lookup;refine aJ bC rfl _ _ 101 99 rfl Tryz.underlying101 (Tryz.bA _) rfl hmap.out id rfl hok ?_;rw[HG.out])
  go_ret2
  exact⟨rfl,rfl⟩
 |some x=>
  rw[hx]at hk
  simp only at hk
  by_cases hk2:x.kind=2
  ·rw[if_pos hk2]at hk
   subst hk
   have HG:Hid (aj id (T.map fun q=>(q.1,ptr (ib q.1)))=some (ptr (ib id))):=by rw[dR,hx];rfl
   obtain⟨c0,c1,c2,c3,c4,c5,c7,hiw⟩:=(h.item id x hx).cell
   rw[hk2]at c1
   clear h hx hid hk0 c7 hk2
   go_enter Tryz.func80,Tryz.ntmps80
   go_wp2_with (at_lookup;refine aJ bC rfl _ _ 101 99 rfl Tryz.underlying101 (Tryz.bA _) rfl hmap.out id rfl hok ?_;rw[HG.out])
   go_ret2
   exact⟨rfl,rfl⟩
  ·rw[if_neg hk2]at hk
   exact absurd hk.symm hk0
set_option maxHeartbeats 1000000 in
theorem tH (id:Int) {x:bW} (hx:aj id T=some x) (hk2:x.kind≠2) (w:World) (h:aO g D w p mb ib nb T) (hid:(Lit.int .i64 id).wf=true):
  Calls Tryz.prog 80 #[ptr p, .int .i64 id] w fun e w'=>e= .returned (.tuple #[ptr (ib id), .int .i64 0])∧w=w':=by
 obtain⟨hc0,hpw,hmw⟩:=h.cell
 have hmap:=Lib.hid h.map
 have hok:bC.ok id:=hid
 have HG:Hid (aj id (T.map fun q=>(q.1,ptr (ib q.1)))=some (ptr (ib id))):=by rw[dR,hx];rfl
 obtain⟨c0,c1,c2,c3,c4,c5,c7,hiw⟩:=(h.item id x hx).cell
 have e1:(x.kind==2)=false:=by simpa using hk2
 clear h hx hid c7 hk2
 go_enter Tryz.func80,Tryz.ntmps80
 go_wp2_with (at_lookup;refine aJ bC rfl _ _ 101 99 rfl Tryz.underlying101 (Tryz.bA _) rfl hmap.out id rfl hok ?_;rw[HG.out])
 go_ret2
 exact⟨rfl,rfl⟩
def jE (k:Int) (x:bW):Value:= .agg #[.int .i64 k, .int .i64 x.kind, .int .i64 x.links, .int .i64 x.b.length, .int .u64 x.aQ, .bool x.closed]
def jf (T:aG) (id:Int):Value:=match aj id T with
 |some x=>jE id x
 |none=> .agg #[.int .i64 0, .int .i64 0, .int .i64 0, .int .i64 0, .int .u64 0, .bool false]
set_option maxHeartbeats 1000000 in
theorem EZ (id:Int) (w:World) (h:aO g D w p mb ib nb T) (hid:(Lit.int .i64 id).wf=true):
  Calls Tryz.prog 99 #[ptr p, .int .i64 id] w fun e w'=>e= .returned (.tuple #[jf T id, .bool (aj id T).isSome])∧Below w.heap.size w w':=by
 obtain⟨hc0,hpw,hmw⟩:=h.cell
 have hok:bC.ok id:=hid
 have M_:∀o,MapAt bC (w.alloc o) mb (T.map fun q=>(q.1,ptr (ib q.1))):=fun o=>h.map.kept ((wall w o).block mb hmw)
 have hmap:=Lib.hid M_
 unfold jf
 cases hx:aj id T with
 |none=>
  have HG:Hid (aj id (T.map fun q=>(q.1,ptr (ib q.1)))=none):=by rw[dR,hx];rfl
  clear h hx hid M_
  go_enter Tryz.func99,Tryz.ntmps99
  go_wp2_with (at_lookup;refine aJ bC rfl _ _ 101 99 rfl Tryz.underlying101 (Tryz.bA _) rfl (hmap.out _) id rfl hok ?_;rw[HG.out])
  exact bodyPost_ret (v:= .tuple #[.agg #[.int .i64 0, .int .i64 0, .int .i64 0, .int .i64 0, .int .u64 0, .bool false], .bool false]) (by simp[results,Tryz.results99,go_sem]) rfl ⟨rfl,wall w _⟩
 |some x=>
  have HG:Hid (aj id (T.map fun q=>(q.1,ptr (ib q.1)))=some (ptr (ib id))):=by rw[dR,hx];rfl
  obtain⟨c0,c1,c2,c3,c4,c5,c7,hiw⟩:=(h.item id x hx).cell
  clear h hx hid c7 M_
  unfold jE
  go_enter Tryz.func99,Tryz.ntmps99
  go_wp2_with (at_lookup;refine aJ bC rfl _ _ 101 99 rfl Tryz.underlying101 (Tryz.bA _) rfl (hmap.out _) id rfl hok ?_;rw[HG.out])
  exact bodyPost_ret (v:= .tuple #[.agg #[.int .i64 id, .int .i64 x.kind, .int .i64 x.links, .int .i64 x.b.length, .int .u64 x.aQ, .bool x.closed], .bool true]) (by simp[results,Tryz.results99,go_sem]) rfl ⟨rfl,wall w _⟩
theorem Ct (w:World) (h:aO g D w p mb ib nb T):Calls Tryz.prog 49 #[ptr p] w fun e w'=>e= .returned (.int .i64 T.length)∧w=w':=by
 obtain⟨hc0,hpw,hmw⟩:=h.cell
 have hmap:=Lib.hid h.map
 clear h
 go_enter Tryz.func49,Tryz.ntmps49
 go_wp2_with (at_len;refine iJ bC rfl _ 101 99 rfl Tryz.underlying101 rfl hmap.out ?_;rw[List.length_map])
 go_ret
 exact⟨rfl,rfl⟩
end
section
variable {g:Nat→Own} {D:Nat→Prop} {p mb:Nat} {ib nb:Int→Nat} {T:aG}
theorem MapAt.E5 {P:Program} {K:TypeId} {κ:Type} [DecidableEq κ] {F:wT P K κ} {w:World} {t e:TypeId} (ht:P.underlying t=some (.map K e)) {b:Nat} {l:List (κ×Value)} (hM:MapAt F w b l) (k:κ) (hok:F.ok k):
  ∃w',(∀ty,(Builtin.delete_ #[t,K] ty #[.map (some b),F.val k]).run P w= .ok (.tuple #[]) w')∧MapAt F w' b (bR k l)∧w.mapTurned w' b:=by
 obtain⟨w',hrun,r1,r2⟩:=World.ownsMap.drop hM F.law ht (F.of k hok) 0
 rw[JE]at r1
 exact⟨w',fun ty=>hrun,MapAt.vo r1,r2⟩
def Qm (g:Nat→Own) (D:Nat→Prop) (w:World) (p mb:Nat) (ib nb:Int→Nat) (T':aG) (e:Ending) (w':World):Prop:=
 e= .returned (.tuple #[])∧aO g D w' p mb ib nb T'∧Keeps (fun b=>b=mb) w w'∧w'.heap.size=w.heap.size
set_option maxRecDepth 100000 in
set_option maxHeartbeats 2000000 in
theorem zF (id:Int) {x:bW} (hx:aj id T=some x) (hid:(Lit.int .i64 id).wf=true) (w:World) (h:aO g D w p mb ib nb T):
  Calls Tryz.prog 79 #[ptr p,ptr (ib id)] w (Qm g D w p mb ib nb (fT T id)):=by
 obtain⟨hc0,hpw,hmw⟩:=h.cell
 obtain⟨c0,c1,c2,c3,c4,c5,c7,hiw⟩:=(h.item id x hx).cell
 have HH:=Lib.hid h
 have hs:fT T id=if x.links=0∧x.closed=true then bR id T else T:=by unfold fT;rw[hx]
 have HS:=Lib.hid hs
 have HX:=Lib.hid hx
 clear hs hx h c7
 by_cases h0:x.links=0
 ·have e0:(x.links==0)=true:=by simpa using h0
  rw[h0]at c2
  cases hcl:x.closed with
  |true=>
   rw[hcl]at c5
   have HF:Hid (fT T id=bR id T):=HS.out.trans (if_pos ⟨h0,hcl⟩)
   have hst:∃w4,(∀ty,(Builtin.delete_ #[101,3] ty #[.map (some mb), .int .i64 id]).run Tryz.prog w.drew= .ok (.tuple #[]) w4)∧MapAt bC w4 mb (bR id (T.map fun q=>(q.1,ptr (ib q.1))))∧w.drew.mapTurned w4 mb:=
    MapAt.E5 (F:=bC) Tryz.underlying101 (HH.out.map.kept (w':=w.drew) rfl) id hid
   have HST:=Lib.hid hst
   have hne1:p≠mb:=fun e=>by have h1:=HH.out.qJ;rw[e,HH.out.jN]at h1;cases h1
   have hne2:ib id≠mb:=fun e=>by have h1:=HH.out.nY id x HX.out;rw[e,HH.out.jN]at h1;cases h1
   have kU:Hid (∀w4,w.drew.mapTurned w4 mb→w4.cell? ⟨p,0,none⟩=some (.map (some mb))∧w4.cell? ⟨ib id,0,none⟩=some (.int .i64 id)):=fun w4 hT=>⟨(World.cell?_of_block (w:=w.drew) (w':=w4) (a:=⟨p,0,none⟩) (eG hT p hpw hne1)).trans hc0,(World.cell?_of_block (w:=w.drew) (w':=w4) (a:=⟨ib id,0,none⟩) (eG hT _ hiw hne2)).trans c0⟩
   clear hst HS h0 hcl e0 hne1 hne2
   go_enter Tryz.func79,Tryz.ntmps79
   go_wp2
   go_region_held3 (fun w'=>w'.cell? ⟨p,0,none⟩=some (.map (some mb))∧w'.cell? ⟨ib id,0,none⟩=some (.int .i64 id)) (first|exact⟨hc0,c0⟩|exact kU.out _ rY) ((first|(obtain⟨w4,Cr,Bu,rY⟩:=HST.out;rw[Cr];go_simp)))
   have hsz:=jd rY
   have hK:=gW rY
   go_end0
   refine⟨rfl,?_,⟨hK.os,hK.tape,hK.output,hK.size,hK.block⟩,hsz⟩
   rw[HF.out]
   exact(HH.out.below (Below.refl _ _).drew (Nat.le_refl _)).del Bu hK.size (fun b hb TM=>hK.block b hb TM)
  |false=>
   rw[hcl]at c5
   have HF:Hid (fT T id=T):=HS.out.trans (if_neg (fun h=>by rw[hcl]at h;cases h.2))
   clear HS h0 hcl e0
   go_enter Tryz.func79,Tryz.ntmps79
   go_wp2
   go_end0
   exact⟨rfl,by rw[HF.out];exact HH.out,Keeps.refl _ _,rfl⟩
 ·have e0:(x.links==0)=false:=by simpa using h0
  have HF:Hid (fT T id=T):=HS.out.trans (if_neg (fun h=>h0 h.1))
  clear HS h0
  go_enter Tryz.func79,Tryz.ntmps79
  go_wp2
  go_end0
  exact⟨rfl,by rw[HF.out];exact HH.out,Keeps.refl _ _,rfl⟩
end
end Go.Proofs.YtmabllemjkcobaaGreat
