/- tree: Make. tree: file, Node, Count, Look, settle, Seal, Keep. tree: settle, Seal, Keep. -/
import Derived.Test.YtohpcppeajijnaaGreatM06
import Derived.Test.YtohpcppeajijnaaGreatM08
import Derived.Deep.RegionHeld3
namespace Go.Proofs.YtohpcppeajijnaaGreat
open Go.ChangeShapes Go.WideShapes Go.ChangeAt Go.RowKit
set_option linter.unusedVariables false
set_option linter.unusedSimpArgs false
def Turn (g:Nat→Own) (D:Nat→Prop) (w:World) (p mb:Nat) (T':aI) (v:Value) (e:Ending) (w':World):Prop:=
 e= .returned v∧∃g' D' D7 nb',aK g' D' w' p mb D7 nb' T'∧(∀b,g' b≠ .none→g b≠ .none∨w.heap.size≤b)∧(∀b,D' b→D b∨w.heap.size≤b)∧Keeps (fun b=>g b≠ .none) w w'
theorem Turn.same {g:Nat→Own} {D:Nat→Prop} {w w':World} {p mb:Nat} {ib nb:Int→Nat} {T:aI} {v:Value} {e:Ending} (h:aK g D w p mb ib nb T) (hb:Below w.heap.size w w') (he:e= .returned v):Turn g D w p mb T v e w':=
 ⟨he,g,D,ib,nb,h.below hb (Nat.le_refl _),fun b h=> .inl h,fun b h=> .inl h,(Keeps.below hb).mono fun x hx hx'=>absurd hx (by omega)⟩
theorem lT {T:aI} {p:List Nm} (hT:dR T) (h:(aV T p).2.2=0):∃x,aF (aV T p).1 T=some x∧x.kind=2∧(aV T p).2.1∈p:=by
 unfold aV at h⊢
 by_cases h0:p=[]
 ·rw[if_pos h0]at h;cases h
 ·rw[if_neg h0]at h⊢
  by_cases h1:(aY T 0 p.dropLast).2≠0
  ·rw[if_pos h1]at h;exact absurd h h1
  ·rw[if_neg h1]at h⊢
   by_cases h2:fG T (aY T 0 p.dropLast).1=2
   ·rw[if_pos h2]
    obtain⟨x,hx,hk⟩:=jE h2
    refine⟨x,hx,hk,?_⟩
    cases p with
    |nil=>exact absurd rfl h0
    |cons z r=>simp[List.getLastD_eq_getLast?,List.getLast?_eq_some_getLast]
   ·rw[if_neg h2]at h;cases h
theorem qm {p:List Nm} (h:bV p=0):∀n∈p,dB n=true:=by
 unfold bV at h
 split at h
 ·cases h
 ·rename_i h1
  intro n hn
  have h2:(p.any fun x=> !dB x)=false:=by simpa only[Bool.not_eq_true]using h1
  have:=List.any_eq_false.1 h2 n hn
  simpa using this
theorem EX {p:List Nm} (h:bV p=0):p.length≤8:=by
 unfold bV at h
 split at h
 ·cases h
 ·split at h
  ·cases h
  ·omega
theorem vB (l:List UInt8) (h:dB l=true):l.length≤16:=by
 simp only[dB,Bool.and_eq_true,decide_eq_true_eq]at h
 exact h.1.1.2
theorem Im (p:List Nm):gH [p]=bV p:=by
 unfold gH gH
 by_cases h:bV p≠0
 ·rw[if_pos h]
 ·rw[if_neg h];omega
theorem iU {w:World} {v:Value} {t:TypeId}:(w.alloc (.cells #[v] t)).cell? ⟨w.heap.size,0,none⟩=some v:=by
 simp only[World.cell?,(MapKept.heap_alloc w _).1];rfl
theorem qV {w:World} {u v:Value} {t:TypeId}:(w.alloc (.cells #[u,v] t)).cell? ⟨w.heap.size,0,none⟩=some u∧(w.alloc (.cells #[u,v] t)).cell? ⟨w.heap.size,1,none⟩=some v:=by
 simp only[World.cell?,(MapKept.heap_alloc w _).1];exact⟨rfl,rfl⟩
theorem wall (w:World) (o:Obj):Below w.heap.size w (w.alloc o):=(Below.refl _ _).alloc (Nat.le_refl _) _
theorem Ah {S:Nat→Prop} (a:Option Addr) (n c:Nat) (ls:List Nm) (w:World) (hS:aW S w a n (ls.map strOf)):
  Calls Tryz.prog 59 #[.slice (some ⟨w.heap.size,0,none⟩) 1 1] (w.alloc (.cells #[.slice a n c] 26)) fun e w'=>e= .returned (.int .i64 (bV ls))∧Below w.heap.size w w':=by
 refine(EW (S:=S) w.heap.size 1 [ls] _ rfl (by omega) (by simp) (fun k hk=> ?_)).mono ?_
 ·obtain rfl:k=0:=by omega
  exact⟨a,n,c,ls,iU,hS.below (wall w _) (Nat.le_refl _),rfl⟩
 ·rintro e w' ⟨rfl,hb⟩
  rw[Im]
  exact⟨rfl,(wall w _).trans (hb.mono (by simp))⟩
theorem xk {w w':World} {b:Nat} (h:w.mapTurned w' b):Keeps (fun x=>x=b) w w':=Keeps.turned h
theorem eB {w w':World} {b:Nat} (h:w.mapTurned w' b) (x:Nat) (hx:x<w.heap.size) (hn:x≠b):w'.heap[x]? =w.heap[x]? :=(xk h).block x hx hn
theorem fB {w w':World} {b:Nat} (h:w.mapTurned w' b):Keeps (fun x=>x=b) w w':=Keeps.turned h
theorem aK.names {g:Nat→Own} {D:Nat→Prop} {w w':World} {p mb:Nat} {ib nb:Int→Nat} {T:aI} (h:aK g D w p mb ib nb T) {d:Int} {x:bf} {l:List (Nm×Int)} (hx:aF d T=some x) (hk:x.kind=2) (hM:MapAt gF w' (nb d) (dP {x with names:=l})) (hT:w.mapTurned w' (nb d)) (f:bf→bf) (hf:f x={x with names:=l}):
  aK g D w' p mb ib nb (Go.Proofs.YtohpcppeajijnaaGreat.aT d f T):=by
 have hs:=jc hT
 have hn:=h.lq d x hx hk
 refine h.aT hx (by rw[hf]) (fun _ h=>h) (fun b hb=>⟨h.data b hb,by rw[hs];exact h.lN b hb⟩) (by omega) (fun b hb h1 h2=>eB hT b hb (fun e=>h2 (by rw[e];exact hn))) ?_
 have hb:∀b,b<w.heap.size→g b≠ .names d→w'.heap[b]? =w.heap[b]? :=fun b hb h2=>eB hT b hb (fun e=>h2 (by rw[e];exact hn))
 have hi:=h.item d x hx
 have ti:=h.mX d x hx
 obtain⟨a,c,h1,h2,h3⟩:=hi.cells
 rw[hf]
 refine⟨⟨a,c,(hb _ (h.low _ (by rw[ti];simp)) (by rw[ti];simp)).trans h1,h2,h3.kept (by omega) fun b hD hbw=>hb b hbw (by rw[h.data b hD];simp)⟩,fun _=>hM⟩
theorem aK.set {g:Nat→Own} {D:Nat→Prop} {w w':World} {p mb:Nat} {ib nb:Int→Nat} {T:aI} (h:aK g D w p mb ib nb T) {d id:Int} {x:bf} {n:Nm} (hx:aF d T=some x) (hk:x.kind=2) (hM:MapAt gF w' (nb d) (bP gF.lt n (.int .i64 id) (dP x))) (hT:w.mapTurned w' (nb d)):
  aK g D w' p mb ib nb (setName T d n id):=by
 refine h.names (l:=bP bytesBefore n id x.names) hx hk ?_ hT _ rfl
 have e:dP {x with names:=bP bytesBefore n id x.names}=bP gF.lt n (.int .i64 id) (dP x):=rY bytesBefore (fun(_:Nm) (i:Int)=>Value.int .i64 i) n id x.names
 rw[e]
 exact hM
theorem aK.cut {g:Nat→Own} {D:Nat→Prop} {w w':World} {p mb:Nat} {ib nb:Int→Nat} {T:aI} (h:aK g D w p mb ib nb T) {d:Int} {x:bf} {n:Nm} (hx:aF d T=some x) (hk:x.kind=2) (hM:MapAt gF w' (nb d) (bK n (dP x))) (hT:w.mapTurned w' (nb d)):
  aK g D w' p mb ib nb (aU T d n):=by
 refine h.names (l:=bK n x.names) hx hk ?_ hT _ rfl
 have e:dP {x with names:=bK n x.names}=bK n (dP x):=rX (fun(_:Nm) (i:Int)=>Value.int .i64 i) n x.names
 rw[e]
 exact hM
theorem Io {g:Nat→Own} {D:Nat→Prop} {w w3 w4:World} {p mb:Nat} {ib nb:Int→Nat} {T:aI} {f kind:Int} (h:aK g D w p mb ib nb T) (hf:aF f T=none) (hi:gU (fun _=>False) w3 f w.heap.size (w.heap.size+1) (aX kind)) (hb:Below w.heap.size w w3) (hs:w.heap.size<w3.heap.size) (hs2:kind=2→w.heap.size+1<w3.heap.size)
  (hM:MapAt b_ w4 mb (bP b_.lt f (ptr w.heap.size) (T.map fun q=>(q.1,ptr (ib q.1))))) (hT:w3.mapTurned w4 mb):
  ∃g1 NZ N7,aK g1 D w4 p mb NZ N7 (bP gL f (aX kind) T)∧(∀b,g1 b≠ .none→g b≠ .none∨w.heap.size≤b)∧Keeps (fun b=>g b≠ .none) w w4∧∀j,j≠f→NZ j=ib j∧N7 j=nb j:=by
 have hsz:=jc hT
 have hK:=fB hT
 have hmw:=h.map.lt
 refine⟨_,_,_,h.add (i:=w.heap.size) (n:=w.heap.size+1) (x:=aX kind) (k:=f) (Nat.le_refl _) (by omega) (by omega) (by omega) (fun hk=>by have:=hs2 hk;omega) hf rfl hM (by omega) (fun b hbw RY=>(hK.block b (by omega) RY).trans (hb.block b hbw)) (hi.move (by omega) (hK.block _ hs (by omega)) (fun hk=>hK.block _ (hs2 hk) (by omega)) (fun _ h=>h.elim)),fun b hb1=> ?_,⟨hK.os.trans hb.os,hK.tape.trans hb.tape,hK.output.trans hb.output,by omega,fun b hbw hbg=>(hK.block b (by omega) (fun e=>hbg (by rw[e,h.iJ];simp))).trans (hb.block b hbw)⟩,fun j hj=>⟨by simp[hj],by simp[hj]⟩⟩
 by_cases hbi:w.heap.size≤b
 ·exact .inr hbi
 ·simp only[if_neg (show ¬b=w.heap.size by omega),if_neg (show ¬(b=w.heap.size+1∧(aX kind).kind=2)by omega)]at hb1
  exact .inl hb1
theorem Ip {g g1:Nat→Own} {w w2 w4 w5:World} {nd:Nat} (hb2:Below w.heap.size w w2) (hg1:∀b,g1 b≠ .none→g b≠ .none∨w2.drew.heap.size≤b) (hK4:Keeps (fun b=>g b≠ .none) w2.drew w4) (OQ:w4.mapTurned w5 nd) (hnd:g1 nd≠ .none):
  (∀b,g1 b≠ .none→g b≠ .none∨w.heap.size≤b)∧Keeps (fun b=>g b≠ .none) w w5:=by
 have hs:=hb2.size
 have hK:=fB OQ
 have h4:w2.heap.size≤w4.heap.size:=hK4.size
 have h5:=hK.size
 refine⟨fun b hb=>(hg1 b hb).imp id fun h=>Nat.le_trans hs h,hK.os.trans (hK4.os.trans hb2.os),hK.tape.trans (hK4.tape.trans hb2.tape),hK.output.trans (hK4.output.trans hb2.output),by omega,fun b hb hbg=> ?_⟩
 have h6:b≠nd:=fun e=>by
  rcases hg1 b (by rw[e];exact hnd)with h|h
  ·exact hbg h
  ·have:w2.heap.size≤b:=h
   omega
 exact(hK.block b (by omega) h6).trans ((hK4.block b (show b<w2.heap.size by omega) hbg).trans (hb2.block b hb))
set_option maxRecDepth 100000 in
set_option maxHeartbeats 8000000 in
theorem Mf {S:Nat→Prop} {g:Nat→Own} {D:Nat→Prop} {p mb:Nat} {ib nb:Int→Nat} {T:aI} (a:Option Addr) (n c:Nat) (ls:List Nm) (kind:Int) (w:World) (h:aK g D w p mb ib nb T) (hT:dR T) (hS:aW S w a n (ls.map strOf)) (hc:n≤c) (pE:n≤1000000):
  Calls Tryz.prog 12 #[ptr p, .slice a n c, .int .i64 kind] w (Turn g D w p mb (dw T ls kind).2 (.tuple #[.int .i64 (dw T ls kind).1.1, .int .i64 (dw T ls kind).1.2])):=by
 have HH:=Lib.hid h
 have HT:=Lib.hid hT
 have HS:=Lib.hid hS
 have HF:=Lib.hid (Ah (S:=S) a n c ls w hS)
 clear h hT hS
 by_cases hf:bV ls=0
 ·have uo:=Lib.hid hf
  rw[hf]at HF
  clear hf
  by_cases hk:kind=1∨kind=2
  ·have HK:=Lib.hid hk
   have BK:=Lib.hid (fun w1 (hb:Below w.heap.size w w1)=>xR a n c ls w1 (HH.out.below hb (Nat.le_refl _)) HT.out (HS.out.below hb (Nat.le_refl _)) hc pE)
   by_cases hp:(aV T ls).2.2=0
   ·obtain⟨x,hx,hxk,hnm⟩:=lT HT.out hp
    have hgn:=qm uo.out _ hnm
    have Vm:=Lib.hid hp
    obtain⟨⟨d,nm,z⟩,hq⟩:∃q,q=aV T ls:=⟨_,rfl⟩
    unfold qU at BK
    rw[←hq]at hp hx hnm hgn BK
    obtain rfl:z=0:=hp
    have HQ:=Lib.hid hq
    have HX:=Lib.hid hx
    have HG:=Lib.hid hgn
    have EY:=Lib.hid hxk
    clear hq hx hgn hxk hnm
    have sD:=HT.out.ids d x HX.out
    have hlen:=HT.out.len
    have yT:gF.ok nm:=by
     have:=vB nm HG.out
     show nm.length≤maxLen
     unfold maxLen;omega
    have N8:Hid (∀k,(64≤T.length→k=4)→(T.length<64→k=0)→iA T ls kind=if (aF nm x.names).isSome then 21 else k):=fun k h4 h0=>by
     unfold iA
     have e1:mJ T d=x.names:=by unfold mJ;rw[HX.out]
     rw[if_neg (by rw[uo.out];simp),if_neg (fun h=>h hk),←HQ.out,if_neg (by simp),e1]
     by_cases h64:64≤T.length
     ·rw[if_pos h64,h4 h64]
     ·rw[if_neg h64,h0 (by omega)]
    have Ai:Hid (∀w2,Below w.heap.size w w2→w2.cell? ⟨ib d,7,none⟩=some (.map (some (nb d)))∧MapAt gF w2 (nb d) (dP x)∧w2.cell? ⟨p,0,none⟩=some (.map (some mb))∧MapAt b_ w2 mb (T.map fun q=>(q.1,ptr (ib q.1)))):=fun w2 hb=>by
     have h2:=HH.out.below hb (Nat.le_refl _)
     have hi:=h2.item d x HX.out
     obtain⟨_,_,_,_,_,_,c7,_⟩:=hi.cell
     unfold dO at c7
     rw[if_pos EY.out]at c7
     exact⟨c7,hi.names EY.out,h2.cell.1,h2.map⟩
    cases hj:aF nm x.names with
    |some j=>
     have hgn:aF nm (dP x)=some (.int .i64 j):=by rw[lu,hj];rfl
     have Hl:=Lib.hid hgn
     have hm:dw T ls kind=((0,21),T):=by
      have:iA T ls kind=21:=by rw[N8.out (if 64≤T.length then 4 else 0) (fun h=>if_pos h) (fun h=>if_neg (by omega)),hj];rfl
      unfold dw;rw[this];simp
     have HM:=Lib.hid hm
     clear hm hj hgn
     rcases hk with rfl|rfl
     all_goals
      go_enter Tryz.func12,Tryz.ntmps12
      go_wp2_with fail
      (with_reducible refine HF.out.mono ?_)
      rintro e w1 ⟨rfl,hb1⟩
      have HB1:=Lib.hid hb1
      clear hb1
      go_wp2_with fail
      (with_reducible refine(BK.out w1 HB1.out).mono ?_)
      rintro e w2 ⟨rfl,hb2⟩
      (first|rw[if_pos rfl]|rw[if_pos trivial])
      have HB2:=Lib.hid (HB1.out.trans (hb2.mono HB1.out.size))
      clear hb2
      obtain⟨c7,jk,_,_⟩:=Ai.out w2 HB2.out
      have OT:=Lib.hid jk
      clear jk
      go_wp2_with (at_lookup;refine dH gF rfl _ _ 107 3 rfl Tryz.underlying107 (Tryz.pz _) rfl OT.out nm rfl yT ?_;rw[Hl.out])
      go_ret2
      rw[HM.out]
      exact Turn.same HH.out HB2.out rfl
    |none=>
     have hgn:aF nm (dP x)=none:=by rw[lu,hj];rfl
     have Hl:=Lib.hid hgn
     have HJ:=Lib.hid hj
     clear hgn hj
     by_cases h64:64≤T.length
     ·have hm:dw T ls kind=((0,4),T):=by
       have:iA T ls kind=4:=by rw[N8.out 4 (fun _=>rfl) (fun h=>by omega),HJ.out];rfl
       unfold dw;rw[this];simp
      have HM:=Lib.hid hm
      have OU:decide ((T.length:Int)<64)=false:=by simp;omega
      have V4:decide ((64:Int)≤(T.length:Int))=true:=by simp;omega
      clear hm
      rcases hk with rfl|rfl
      all_goals
       go_enter Tryz.func12,Tryz.ntmps12
       go_wp2_with fail
       (with_reducible refine HF.out.mono ?_)
       rintro e w1 ⟨rfl,hb1⟩
       have HB1:=Lib.hid hb1
       clear hb1
       go_wp2_with fail
       (with_reducible refine(BK.out w1 HB1.out).mono ?_)
       rintro e w2 ⟨rfl,hb2⟩
       (first|rw[if_pos rfl]|rw[if_pos trivial])
       have HB2:=Lib.hid (HB1.out.trans (hb2.mono HB1.out.size))
       clear hb2
       obtain⟨c7,jk,c0,hmap⟩:=Ai.out w2 HB2.out
       have OT:=Lib.hid jk
       have oz:=Lib.hid hmap
       clear jk hmap
       go_wp2_with (first|(at_lookup;refine dH gF rfl _ _ 107 3 rfl Tryz.underlying107 (Tryz.pz _) rfl OT.out nm rfl yT ?_;rw[Hl.out])|(at_len;refine lS b_ rfl _ 94 92 rfl Tryz.underlying94 rfl oz.out ?_;rw[List.length_map]))
       go_ret2
       rw[HM.out]
       exact Turn.same HH.out HB2.out rfl
     ·have hm:dw T ls kind=((u_ T,0),ou T ls kind):=by
       have:iA T ls kind=0:=by rw[N8.out 0 (fun h=>absurd h h64) (fun h=>rfl),HJ.out];rfl
       unfold dw;rw[if_pos this]
      unfold ou at hm
      rw[←HQ.out]at hm
      obtain⟨f,Zn,hf1,hf2,hfn,hfs⟩:=HT.out.free
      rw[Zn]at hm
      have HM:=Lib.hid hm
      have Ho:=Lib.hid hfn
      have Vn:=Lib.hid hfs
      have OU:decide ((T.length:Int)<64)=true:=by simp;omega
      have V4:decide ((64:Int)≤(T.length:Int))=false:=by simp;omega
      have Zo:d≠(f:Int):=fun e=>by have:=HX.out;rw[e,Ho.out]at this;cases this
      have Zp:=Lib.hid Zo
      clear hm hfn hfs Zn Zo
      have V5:b_.ok (f:Int):=tO (by omega) (by omega)
      have HK:=Lib.hid hk
      rcases hk with rfl|rfl
      all_goals
       go_enter Tryz.func12,Tryz.ntmps12
       go_wp2_with fail
       (with_reducible refine HF.out.mono ?_)
       rintro e w1 ⟨rfl,hb1⟩
       have HB1:=Lib.hid hb1
       clear hb1
       go_wp2_with fail
       (with_reducible refine(BK.out w1 HB1.out).mono ?_)
       rintro e w2 ⟨rfl,hb2⟩
       (first|rw[if_pos rfl]|rw[if_pos trivial])
       have HB2:=Lib.hid (HB1.out.trans (hb2.mono HB1.out.size))
       clear hb2
       obtain⟨c7,jk,c0,hmap⟩:=Ai.out w2 HB2.out
       have OT:=Lib.hid jk
       have oz:=Lib.hid hmap
       clear jk hmap
       go_wp2_with (first|(at_lookup;refine dH gF rfl _ _ 107 3 rfl Tryz.underlying107 (Tryz.pz _) rfl OT.out nm rfl yT ?_;rw[Hl.out])|(at_len;refine lS b_ rfl _ 94 92 rfl Tryz.underlying94 rfl oz.out ?_;rw[List.length_map]))
       go_loop [14] (fun s=>∃j:Nat,1≤j∧j≤f∧s= .int .i64 j) (fun s=>f-(intOf s).toNat)
       case atStart=>exact⟨1,by omega,by omega,rfl⟩
       case round=>
        obtain⟨j,hj1,Zl,rfl⟩:=hrel
        have RZ:b_.ok (j:Int):=tO (by omega) (by omega)
        by_cases V6:j<f
        ·obtain⟨y,hy⟩:=Option.isSome_iff_exists.1 (Vn.out j hj1 V6)
         have V7:Hid (aF (j:Int) (T.map fun q=>(q.1,ptr (ib q.1)))=some (ptr (ib j))):=by rw[fH,hy];rfl
         clear hy
         go_wp2_with (at_lookup;refine eF b_ rfl _ _ 94 92 rfl Tryz.underlying94 (Tryz.fI _) rfl oz.out (j:Int) rfl RZ ?_;rw[V7.out])
         go_round
         case rel=>exact⟨j+1,by omega,by omega,by go_num⟩
         case measure=>simp[intOf];omega
        ·obtain rfl:f=j:=by omega
         have V7:Hid (aF (f:Int) (T.map fun q=>(q.1,ptr (ib q.1)))=none):=by rw[fH,Ho.out];rfl
         go_wp2_with (at_lookup;refine eF b_ rfl _ _ 94 92 rfl Tryz.underlying94 (Tryz.fI _) rfl oz.out (f:Int) rfl RZ ?_;rw[V7.out])
         have HA2:=Lib.hid (HH.out.below HB2.out (Nat.le_refl _))
         have hpw:=HA2.out.cell.2.1
         have hmw:=HA2.out.cell.2.2
         have hpm:p≠mb:=fun e=>by have h1:=HH.out.nX;rw[e,HH.out.iJ]at h1;cases h1
         have hst:∀v w3,Below w2.drew.heap.size w2.drew w3→∃w4,(Instr.mapUpdate 94 (.map (some mb)) (.int .i64 (f:Int)) v).run Tryz.prog w3= .ok () w4∧MapAt b_ w4 mb (bP b_.lt (f:Int) v (T.map fun q=>(q.1,ptr (ib q.1))))∧w3.mapTurned w4 mb:=by
          intro v w3 hb3
          have hm1:MapAt b_ w3 mb (T.map fun q=>(q.1,ptr (ib q.1))):=oz.out.kept (hb3.block mb hmw)
          exact hm1.rV b_ Tryz.underlying94 (by rw[List.length_map];unfold maxLen;omega) (f:Int) v V5
         have HST:=Lib.hid hst
         have HPM:=Lib.hid hpm
         have hkeep:∀w3,Below w2.drew.heap.size w2.drew w3→w3.cell? ⟨p,0,none⟩=some (.map (some mb)):=fun w3 hb3=>(hb3.cell (p:=⟨p,0,none⟩) hpw).trans c0
         have Iq:∀w3 w4,Below w2.drew.heap.size w2.drew w3→w3.mapTurned w4 mb→w4.cell? ⟨p,0,none⟩=some (.map (some mb)):=fun w3 w4 hb3 hT=>(World.cell?_of_block (w:=w3) (w':=w4) (a:=⟨p,0,none⟩) (eB hT p (Nat.lt_of_lt_of_le hpw hb3.size) HPM.out)).trans ((hb3.cell (p:=⟨p,0,none⟩) hpw).trans c0)
         have gq:=Lib.hid hkeep
         have V8:=Lib.hid Iq
         have V9:=Lib.hid (fun w=>su (f:Int) 1 w)
         clear hst hpm hkeep Iq
         go_region_held3 (fun w'=>w'.cell? ⟨p,0,none⟩=some (.map (some mb))) (first|exact c0|exact gq.out _ hb3|exact V8.out _ _ hb3 Ir) ((first|(go_at_call 58;refine(su (f:Int) _ _).mono ?_;rintro e w3 ⟨rfl,hi3,hb3,hs3,hs4⟩)|(obtain⟨w4,xS,LK,Ir⟩:=HST.out (ptr w2.heap.size) w3 hb3;rw[xS];go_simp)))
         have HI3:=Lib.hid hi3
         have HB3:=Lib.hid hb3
         have Aj:=Lib.hid hs3
         have nY:=Lib.hid hs4
         have Cc:=Lib.hid LK
         have BL:=Lib.hid Ir
         clear hi3 hb3 hs3 hs4 LK Ir xS
         obtain⟨g1,NZ,N7,EZ,hg1,hK4,hib⟩:=Io (HA2.out.below (Below.refl _ _).drew (Nat.le_refl _)) Ho.out HI3.out HB3.out Aj.out (by first|exact nY.out|exact fun _=>nY.out trivial) Cc.out BL.out
         have hx4:∀kd,aF d (bP gL (f:Int) (aX kd) T)=some x:=fun kd=>by rw[dV,if_neg Zp.out];exact HX.out
         obtain⟨_,_,_,_,_,_,V_,_⟩:=(EZ.item d x (hx4 _)).cell
         have OV:=(EZ.item d x (hx4 _)).names EY.out
         unfold dO at V_
         rw[if_pos EY.out,(hib d Zp.out).1]at V_
         obtain⟨nd,hnd⟩:∃nd,nd=N7 d:=⟨_,rfl⟩
         rw[←hnd]at V_ OV
         have HA4:=Lib.hid EZ
         have wV:=Lib.hid hg1
         have LM:=Lib.hid hK4
         have Vo:=Lib.hid hx4
         have Wd:=Lib.hid OV
         have N9:=Lib.hid hnd
         have HFW:Hid ((dP x).length<maxLen):=by
          have h1:=HT.out.few HX.out
          have h2:(dP x).length<maxLen:=by unfold dP maxLen;rw[List.length_map];omega
          exact h2
         clear EZ hg1 hK4 hx4 OV hnd hib
         go_wp2_with (at_mapUpdate;refine yS gF rfl _ _ _ 107 3 rfl Tryz.underlying107 rfl Wd.out HFW.out nm (.int .i64 (f:Int)) rfl rfl yT ?_;intro w5 hM5 OQ)
         go_ret2
         rw[HM.out]
         have EZ:=HA4.out
         have hnd:=N9.out
         have hgn:g1 nd≠ .none:=by rw[hnd,EZ.lq d x (Vo.out _) EY.out];simp
         obtain⟨e1,e2⟩:=Ip HB2.out wV.out LM.out OQ hgn
         subst hnd
         exact⟨rfl,g1,D,NZ,N7,EZ.set (Vo.out _) EY.out hM5 OQ,e1,fun b h=> .inl h,e2⟩
   ·have hne:((aV T ls).2.2==0)=false:=by simpa using hp
    have hne2:((aV T ls).2.2 !=0)=true:=by simpa using hp
    have hm:dw T ls kind=((0,(aV T ls).2.2),T):=by
     have:iA T ls kind=(aV T ls).2.2:=by unfold iA;rw[if_neg (by rw[uo.out];simp),if_neg (fun h=>h hk),if_pos hp]
     unfold dw;rw[this,if_neg hp]
    have HM:=Lib.hid hm
    have HP:=Lib.hid hp
    unfold qU at BK
    generalize aV T ls=q at*
    clear hm hp
    rcases hk with rfl|rfl
    all_goals
     go_enter Tryz.func12,Tryz.ntmps12
     go_wp2_with fail
     (with_reducible refine HF.out.mono ?_)
     rintro e w1 ⟨rfl,hb1⟩
     have HB1:=Lib.hid hb1
     clear hb1
     go_wp2_with fail
     (with_reducible refine(BK.out w1 HB1.out).mono ?_)
     rintro e w2 ⟨rfl,hb2⟩
     rw[if_neg HP.out]
     have HB2:=Lib.hid hb2
     clear hb2
     go_wp2_with fail
     go_ret2
     rw[HM.out]
     exact Turn.same HH.out (HB1.out.trans (HB2.out.mono HB1.out.size)) rfl
  ·have HK:=Lib.hid hk
   have e1:(kind !=1)=true:=by simp;omega
   have e2:(kind !=2)=true:=by simp;omega
   have hm:dw T ls kind=((0,30),T):=by
    have:iA T ls kind=30:=by unfold iA;rw[if_neg (by rw[uo.out];simp),if_pos HK.out]
    unfold dw;rw[this];simp
   have HM:=Lib.hid hm
   clear hm hk
   go_enter Tryz.func12,Tryz.ntmps12
   go_wp2_with fail
   (with_reducible refine HF.out.mono ?_)
   rintro e w1 ⟨rfl,hb1⟩
   go_wp2_with fail
   go_ret2
   rw[HM.out]
   exact Turn.same HH.out hb1 rfl
 ·have hm:dw T ls kind=((0,bV ls),T):=by
   have:iA T ls kind=bV ls:=by unfold iA;rw[if_pos hf]
   unfold dw;rw[this,if_neg hf]
  have hne:(bV ls==0)=false:=by simpa using hf
  have hne2:(bV ls !=0)=true:=by simpa using hf
  have HM:=Lib.hid hm
  clear hm hf
  go_enter Tryz.func12,Tryz.ntmps12
  go_wp2_with fail
  (with_reducible refine HF.out.mono ?_)
  rintro e w1 ⟨rfl,hb1⟩
  go_wp2_with fail
  go_ret2
  rw[HM.out]
  exact Turn.same HH.out hb1 rfl
section
variable {g:Nat→Own} {D:Nat→Prop} {p mb:Nat} {ib nb:Int→Nat} {T:aI}
theorem gU.frozen {w:World} {k:Int} {i n:Nat} {x:bf} (h:gU D w k i n x) (j:Nat):w.frozen? ⟨i,j,none⟩=false:=by
 obtain⟨⟨a,c,h1,_⟩,_⟩:=h
 simp[World.frozen?,h1]
theorem gU.row {w:World} {k:Int} {i n:Nat} {x:bf} (h:gU D w k i n x):∃a c,w.cell? ⟨i,6,none⟩=some (.slice a x.b.length c)∧qN x.b.length c∧ak D w a x.b.length (x.b.map bv)∧w.heap[i]? =some (.cells (gK k x a c n) 109 (0,0)):=by
 obtain⟨⟨a,c,h1,h2,h3⟩,_⟩:=h
 exact⟨a,c,by simp only[World.cell?,h1];rfl,h2,h3,h1⟩
theorem aK.fields {w w':World} (h:aK g D w p mb ib nb T) {k:Int} {x:bf} (hx:aF k T=some x) (f:bf→bf) (hb:(f x).b=x.b) (hn:(f x).names=x.names) (hk:(f x).kind=x.kind) (hK:Keeps (fun b=>b=ib k) w w') (hs:w'.heap.size=w.heap.size)
  (hc:∀a c,w.heap[ib k]? =some (.cells (gK k x a c (nb k)) 109 (0,0))→w'.heap[ib k]? =some (.cells (gK k (f x) a c (nb k)) 109 (0,0))):aK g D w' p mb ib nb (Go.Proofs.YtohpcppeajijnaaGreat.aT k f T):=by
 have ti:=h.mX k x hx
 refine h.aT hx hk (fun _ h=>h) (fun b hb=>⟨h.data b hb,by rw[hs];exact h.lN b hb⟩) (by omega) (fun b hbw h1 _=>hK.block b hbw (fun e=>h1 (by rw[e];exact ti))) ?_
 obtain⟨⟨a,c,h1,h2,h3⟩,h4⟩:=h.item k x hx
 refine⟨⟨a,c,hc a c h1,by rw[hb];exact h2,by rw[hb];exact h3.kept (by omega) fun b hD hbw=>hK.block b hbw (fun e=>by have:=h.data b hD;rw[e,ti]at this;cases this)⟩,fun hk2=> ?_⟩
 have R3:x.kind=2:=hk▸hk2
 have e:dP (f x)=dP x:=by unfold dP;rw[hn]
 rw[e]
 have tn:=h.lq k x hx R3
 exact(h4 R3).kept (hK.block _ (h.low _ (by rw[tn];simp)) (fun e=>by rw[e,ti]at tn;cases tn))
theorem Keeps.set2 (w:World) (i j j':Nat) (v v':Value):Keeps (fun b=>b=i) w ((w.setCell ⟨i,j,none⟩ v).setCell ⟨i,j',none⟩ v'):=
 (Keeps.fE w ⟨i,j,none⟩ v).trans (Keeps.fE _ ⟨i,j',none⟩ v') (fun _ _ h=>h)
set_option maxHeartbeats 1000000 in
theorem vC (id:Int) (k:Int) (hk:cK T id=k) (hk0:k≠0) (w:World) (h:aK g D w p mb ib nb T) (hid:(Lit.int .i64 id).wf=true):
  Calls Tryz.prog 76 #[ptr p, .int .i64 id] w fun e w'=>e= .returned (.tuple #[.pointer none, .int .i64 k])∧w=w':=by
 obtain⟨hc0,hpw,hmw⟩:=h.cell
 have hmap:=Lib.hid h.map
 have hok:b_.ok id:=hid
 unfold cK at hk
 cases hx:aF id T with
 |none=>
  rw[hx]at hk
  simp only at hk
  subst hk
  have HG:Hid (aF id (T.map fun q=>(q.1,ptr (ib q.1)))=none):=by rw[fH,hx];rfl
  clear h hx hid hk0
  go_enter Tryz.func76,Tryz.ntmps76
  go_wp2_with (at_lookup;refine dH b_ rfl _ _ 94 92 rfl Tryz.underlying94 (Tryz.fI _) rfl hmap.out id rfl hok ?_;rw[HG.out])
  go_ret2
  exact⟨rfl,rfl⟩
 |some x=>
  rw[hx]at hk
  simp only at hk
  by_cases hk2:x.kind=2
  ·rw[if_pos hk2]at hk
   subst hk
   have HG:Hid (aF id (T.map fun q=>(q.1,ptr (ib q.1)))=some (ptr (ib id))):=by rw[fH,hx];rfl
   obtain⟨c0,c1,c2,c3,c4,c5,c7,hiw⟩:=(h.item id x hx).cell
   rw[hk2]at c1
   clear h hx hid hk0 c7 hk2
   go_enter Tryz.func76,Tryz.ntmps76
   go_wp2_with (at_lookup;refine dH b_ rfl _ _ 94 92 rfl Tryz.underlying94 (Tryz.fI _) rfl hmap.out id rfl hok ?_;rw[HG.out])
   go_ret2
   exact⟨rfl,rfl⟩
  ·rw[if_neg hk2]at hk
   exact absurd hk.symm hk0
set_option maxHeartbeats 1000000 in
theorem uL (id:Int) {x:bf} (hx:aF id T=some x) (hk2:x.kind≠2) (w:World) (h:aK g D w p mb ib nb T) (hid:(Lit.int .i64 id).wf=true):
  Calls Tryz.prog 76 #[ptr p, .int .i64 id] w fun e w'=>e= .returned (.tuple #[ptr (ib id), .int .i64 0])∧w=w':=by
 obtain⟨hc0,hpw,hmw⟩:=h.cell
 have hmap:=Lib.hid h.map
 have hok:b_.ok id:=hid
 have HG:Hid (aF id (T.map fun q=>(q.1,ptr (ib q.1)))=some (ptr (ib id))):=by rw[fH,hx];rfl
 obtain⟨c0,c1,c2,c3,c4,c5,c7,hiw⟩:=(h.item id x hx).cell
 have e1:(x.kind==2)=false:=by simpa using hk2
 clear h hx hid c7 hk2
 go_enter Tryz.func76,Tryz.ntmps76
 go_wp2_with (at_lookup;refine dH b_ rfl _ _ 94 92 rfl Tryz.underlying94 (Tryz.fI _) rfl hmap.out id rfl hok ?_;rw[HG.out])
 go_ret2
 exact⟨rfl,rfl⟩
def kH (k:Int) (x:bf):Value:= .agg #[.int .i64 k, .int .i64 x.kind, .int .i64 x.links, .int .i64 x.b.length, .int .u64 x.aS, .bool x.closed]
def nU (T:aI) (id:Int):Value:=match aF id T with
 |some x=>kH id x
 |none=> .agg #[.int .i64 0, .int .i64 0, .int .i64 0, .int .i64 0, .int .u64 0, .bool false]
set_option maxHeartbeats 1000000 in
theorem Iu (id:Int) (w:World) (h:aK g D w p mb ib nb T) (hid:(Lit.int .i64 id).wf=true):
  Calls Tryz.prog 95 #[ptr p, .int .i64 id] w fun e w'=>e= .returned (.tuple #[nU T id, .bool (aF id T).isSome])∧Below w.heap.size w w':=by
 obtain⟨hc0,hpw,hmw⟩:=h.cell
 have hok:b_.ok id:=hid
 have Iw:∀o,MapAt b_ (w.alloc o) mb (T.map fun q=>(q.1,ptr (ib q.1))):=fun o=>h.map.kept ((wall w o).block mb hmw)
 have hmap:=Lib.hid Iw
 unfold nU
 cases hx:aF id T with
 |none=>
  have HG:Hid (aF id (T.map fun q=>(q.1,ptr (ib q.1)))=none):=by rw[fH,hx];rfl
  clear h hx hid Iw
  go_enter Tryz.func95,Tryz.ntmps95
  go_wp2_with (at_lookup;refine dH b_ rfl _ _ 94 92 rfl Tryz.underlying94 (Tryz.fI _) rfl (hmap.out _) id rfl hok ?_;rw[HG.out])
  exact bodyPost_ret (v:= .tuple #[.agg #[.int .i64 0, .int .i64 0, .int .i64 0, .int .i64 0, .int .u64 0, .bool false], .bool false]) (by simp[results,Tryz.results95,go_sem]) rfl ⟨rfl,wall w _⟩
 |some x=>
  have HG:Hid (aF id (T.map fun q=>(q.1,ptr (ib q.1)))=some (ptr (ib id))):=by rw[fH,hx];rfl
  obtain⟨c0,c1,c2,c3,c4,c5,c7,hiw⟩:=(h.item id x hx).cell
  clear h hx hid c7 Iw
  unfold kH
  go_enter Tryz.func95,Tryz.ntmps95
  go_wp2_with (at_lookup;refine dH b_ rfl _ _ 94 92 rfl Tryz.underlying94 (Tryz.fI _) rfl (hmap.out _) id rfl hok ?_;rw[HG.out])
  exact bodyPost_ret (v:= .tuple #[.agg #[.int .i64 id, .int .i64 x.kind, .int .i64 x.links, .int .i64 x.b.length, .int .u64 x.aS, .bool x.closed], .bool true]) (by simp[results,Tryz.results95,go_sem]) rfl ⟨rfl,wall w _⟩
end
section
variable {g:Nat→Own} {D:Nat→Prop} {p mb:Nat} {ib nb:Int→Nat} {T:aI}
theorem MapAt.Ak {P:Program} {K:TypeId} {κ:Type} [DecidableEq κ] {F:uY P K κ} {w:World} {t e:TypeId} (ht:P.underlying t=some (.map K e)) {b:Nat} {l:List (κ×Value)} (hM:MapAt F w b l) (k:κ) (hok:F.ok k):
  ∃w',(∀ty,(Builtin.delete_ #[t,K] ty #[.map (some b),F.val k]).run P w= .ok (.tuple #[]) w')∧MapAt F w' b (bK k l)∧w.mapTurned w' b:=by
 obtain⟨w',hrun,r1,r2⟩:=World.ownsMap.drop hM F.law ht (F.of k hok) 0
 rw[DT]at r1
 exact⟨w',fun ty=>hrun,MapAt.o_ r1,r2⟩
def Mg (g:Nat→Own) (D:Nat→Prop) (w:World) (p mb:Nat) (ib nb:Int→Nat) (T':aI) (e:Ending) (w':World):Prop:=
 e= .returned (.tuple #[])∧aK g D w' p mb ib nb T'∧Keeps (fun b=>b=mb) w w'∧w'.heap.size=w.heap.size
set_option maxRecDepth 100000 in
set_option maxHeartbeats 2000000 in
theorem vD (id:Int) {x:bf} (hx:aF id T=some x) (hid:(Lit.int .i64 id).wf=true) (w:World) (h:aK g D w p mb ib nb T):
  Calls Tryz.prog 75 #[ptr p,ptr (ib id)] w (Mg g D w p mb ib nb (eT T id)):=by
 obtain⟨hc0,hpw,hmw⟩:=h.cell
 obtain⟨c0,c1,c2,c3,c4,c5,c7,hiw⟩:=(h.item id x hx).cell
 have HH:=Lib.hid h
 have hs:eT T id=if x.links=0∧x.closed=true then bK id T else T:=by unfold eT;rw[hx]
 have HS:=Lib.hid hs
 have HX:=Lib.hid hx
 clear hs hx h c7
 by_cases h0:x.links=0
 ·have e0:(x.links==0)=true:=by simpa using h0
  rw[h0]at c2
  cases hcl:x.closed with
  |true=>
   rw[hcl]at c5
   have HF:Hid (eT T id=bK id T):=HS.out.trans (if_pos ⟨h0,hcl⟩)
   have hst:∃w4,(∀ty,(Builtin.delete_ #[94,3] ty #[.map (some mb), .int .i64 id]).run Tryz.prog w.drew= .ok (.tuple #[]) w4)∧MapAt b_ w4 mb (bK id (T.map fun q=>(q.1,ptr (ib q.1))))∧w.drew.mapTurned w4 mb:=
    MapAt.Ak (F:=b_) Tryz.underlying94 (HH.out.map.kept (w':=w.drew) rfl) id hid
   have HST:=Lib.hid hst
   have hne1:p≠mb:=fun e=>by have h1:=HH.out.nX;rw[e,HH.out.iJ]at h1;cases h1
   have hne2:ib id≠mb:=fun e=>by have h1:=HH.out.mX id x HX.out;rw[e,HH.out.iJ]at h1;cases h1
   have gq:Hid (∀w4,w.drew.mapTurned w4 mb→w4.cell? ⟨p,0,none⟩=some (.map (some mb))∧w4.cell? ⟨ib id,0,none⟩=some (.int .i64 id)):=fun w4 hT=>⟨(World.cell?_of_block (w:=w.drew) (w':=w4) (a:=⟨p,0,none⟩) (eB hT p hpw hne1)).trans hc0,(World.cell?_of_block (w:=w.drew) (w':=w4) (a:=⟨ib id,0,none⟩) (eB hT _ hiw hne2)).trans c0⟩
   clear hst HS h0 hcl e0 hne1 hne2
   go_enter Tryz.func75,Tryz.ntmps75
   go_wp2
   go_region_held3 (fun w'=>w'.cell? ⟨p,0,none⟩=some (.map (some mb))∧w'.cell? ⟨ib id,0,none⟩=some (.int .i64 id)) (first|exact⟨hc0,c0⟩|exact gq.out _ Ir) ((first|(obtain⟨w4,xS,LK,Ir⟩:=HST.out;rw[xS];go_simp)))
   have hsz:=jc Ir
   have hK:=fB Ir
   go_end0
   refine⟨rfl,?_,⟨hK.os,hK.tape,hK.output,hK.size,hK.block⟩,hsz⟩
   rw[HF.out]
   exact(HH.out.below (Below.refl _ _).drew (Nat.le_refl _)).del LK hK.size (fun b hb RY=>hK.block b hb RY)
  |false=>
   rw[hcl]at c5
   have HF:Hid (eT T id=T):=HS.out.trans (if_neg (fun h=>by rw[hcl]at h;cases h.2))
   clear HS h0 hcl e0
   go_enter Tryz.func75,Tryz.ntmps75
   go_wp2
   go_end0
   exact⟨rfl,by rw[HF.out];exact HH.out,Keeps.refl _ _,rfl⟩
 ·have e0:(x.links==0)=false:=by simpa using h0
  have HF:Hid (eT T id=T):=HS.out.trans (if_neg (fun h=>h0 h.1))
  clear HS h0
  go_enter Tryz.func75,Tryz.ntmps75
  go_wp2
  go_end0
  exact⟨rfl,by rw[HF.out];exact HH.out,Keeps.refl _ _,rfl⟩
end
end Go.Proofs.YtohpcppeajijnaaGreat
