/- tree: Make. tree: file, Node, Count, Look, settle, Seal, Keep. tree: settle, Seal, Keep. -/
import Derived.Test.YtohpcppeajijnaaGreatM11
import Derived.Deep.RegionHeld3
namespace Go.Proofs.YtohpcppeajijnaaGreat
open Go.ChangeShapes Go.WideShapes Go.ChangeAt Go.RowKit
set_option linter.unusedVariables false
set_option linter.unusedSimpArgs false
def Turn (g:Nat→Own) (D:Nat→Prop) (w:World) (p mb:Nat) (T':aH) (v:Value) (e:Ending) (w':World):Prop:=
 e= .returned v∧∃g' D' Cn nb',aK g' D' w' p mb Cn nb' T'∧(∀b,g' b≠ .none→g b≠ .none∨w.heap.size≤b)∧(∀b,D' b→D b∨w.heap.size≤b)∧Keeps (fun b=>g b≠ .none) w w'
theorem Turn.same {g:Nat→Own} {D:Nat→Prop} {w w':World} {p mb:Nat} {ib nb:Int→Nat} {T:aH} {v:Value} {e:Ending} (h:aK g D w p mb ib nb T) (hb:Below w.heap.size w w') (he:e= .returned v):Turn g D w p mb T v e w':=
 ⟨he,g,D,ib,nb,h.below hb (Nat.le_refl _),fun b h=> .inl h,fun b h=> .inl h,(Keeps.below hb).mono fun x hx hx'=>absurd hx (by omega)⟩
theorem fV {T:aH} {p:List Nm} (hT:dA T) (h:(aC T p).2.2=0):∃x,aj (aC T p).1 T=some x∧x.kind=2∧(aC T p).2.1∈p:=by
 unfold aC at h⊢
 by_cases h0:p=[]
 ·rw[if_pos h0]at h;cases h
 ·rw[if_neg h0]at h⊢
  by_cases h1:(aF T 0 p.dropLast).2≠0
  ·rw[if_pos h1]at h;exact absurd h h1
  ·rw[if_neg h1]at h⊢
   by_cases h2:bZ T (aF T 0 p.dropLast).1=2
   ·rw[if_pos h2]
    obtain⟨x,hx,hk⟩:=jf h2
    refine⟨x,hx,hk,?_⟩
    cases p with
    |nil=>exact absurd rfl h0
    |cons z r=>simp[List.getLastD_eq_getLast?,List.getLast?_eq_some_getLast]
   ·rw[if_neg h2]at h;cases h
theorem gP {p:List Nm} (h:bO p=0):∀n∈p,dG n=true:=by
 unfold bO at h
 split at h
 ·cases h
 ·rename_i h1
  intro n hn
  have h2:(p.any fun x=> !dG x)=false:=by simpa only[Bool.not_eq_true]using h1
  have:=List.any_eq_false.1 h2 n hn
  simpa using this
theorem kT {p:List Nm} (h:bO p=0):p.length≤8:=by
 unfold bO at h
 split at h
 ·cases h
 ·split at h
  ·cases h
  ·omega
theorem oq (l:List UInt8) (h:dG l=true):l.length≤16:=by
 simp only[dG,Bool.and_eq_true,decide_eq_true_eq]at h
 exact h.1.1.2
theorem yQ (p:List Nm):gI [p]=bO p:=by
 unfold gI gI
 by_cases h:bO p≠0
 ·rw[if_pos h]
 ·rw[if_neg h];omega
theorem FI (p q:List Nm):gI [p,q]=ig p q:=by
 unfold gI ig
 by_cases h:bO p≠0
 ·rw[if_pos h,if_pos h]
 ·rw[if_neg h,if_neg h,yQ]
theorem jM {w:World} {v:Value} {t:TypeId}:(w.alloc (.cells #[v] t)).cell? ⟨w.heap.size,0,none⟩=some v:=by
 simp only[World.cell?,(MapKept.heap_alloc w _).1];rfl
theorem kL {w:World} {u v:Value} {t:TypeId}:(w.alloc (.cells #[u,v] t)).cell? ⟨w.heap.size,0,none⟩=some u∧(w.alloc (.cells #[u,v] t)).cell? ⟨w.heap.size,1,none⟩=some v:=by
 simp only[World.cell?,(MapKept.heap_alloc w _).1];exact⟨rfl,rfl⟩
theorem wall (w:World) (o:Obj):Below w.heap.size w (w.alloc o):=(Below.refl _ _).alloc (Nat.le_refl _) _
theorem uN {S:Nat→Prop} (a:Option Addr) (n c:Nat) (ls:List Nm) (w:World) (hS:aG S w a n (ls.map strOf)):
  Calls Tryz.prog 59 #[.slice (some ⟨w.heap.size,0,none⟩) 1 1] (w.alloc (.cells #[.slice a n c] 26)) fun e w'=>e= .returned (.int .i64 (bO ls))∧Below w.heap.size w w':=by
 refine(wS (S:=S) w.heap.size 1 [ls] _ rfl (by omega) (by simp) (fun k hk=> ?_)).mono ?_
 ·obtain rfl:k=0:=by omega
  exact⟨a,n,c,ls,jM,hS.below (wall w _) (Nat.le_refl _),rfl⟩
 ·rintro e w' ⟨rfl,hb⟩
  rw[yQ]
  exact⟨rfl,(wall w _).trans (hb.mono (by simp))⟩
theorem yR {S S':Nat→Prop} (a:Option Addr) (n c:Nat) (ls:List Nm) (a':Option Addr) (n' c':Nat) (ls':List Nm) (w:World) (hS:aG S w a n (ls.map strOf)) (hS':aG S' w a' n' (ls'.map strOf)):
  Calls Tryz.prog 59 #[.slice (some ⟨w.heap.size,0,none⟩) 2 2] (w.alloc (.cells #[.slice a n c, .slice a' n' c'] 26)) fun e w'=>e= .returned (.int .i64 (ig ls ls'))∧Below w.heap.size w w':=by
 refine(wS (S:=fun x=>S x∨S' x) w.heap.size 2 [ls,ls'] _ rfl (by omega) (by simp) (fun k hk=> ?_)).mono ?_
 ·rcases (show k=0∨k=1 by omega)with rfl|rfl
  ·exact⟨a,n,c,ls,kL.1,(hS.below (wall w _) (Nat.le_refl _)).mono fun _=> .inl,rfl⟩
  ·exact⟨a',n',c',ls',kL.2,(hS'.below (wall w _) (Nat.le_refl _)).mono fun _=> .inr,rfl⟩
 ·rintro e w' ⟨rfl,hb⟩
  rw[FI]
  exact⟨rfl,(wall w _).trans (hb.mono (by simp))⟩
theorem wC {w w':World} {b:Nat} (h:w.mapTurned w' b):Keeps (fun x=>x=b) w w':=Keeps.turned h
theorem dZ {w w':World} {b:Nat} (h:w.mapTurned w' b) (x:Nat) (hx:x<w.heap.size) (hn:x≠b):w'.heap[x]? =w.heap[x]? :=(wC h).block x hx hn
theorem dN {w w':World} {b:Nat} (h:w.mapTurned w' b):Keeps (fun x=>x=b) w w':=Keeps.turned h
theorem aK.names {g:Nat→Own} {D:Nat→Prop} {w w':World} {p mb:Nat} {ib nb:Int→Nat} {T:aH} (h:aK g D w p mb ib nb T) {d:Int} {x:bF} {l:List (Nm×Int)} (hx:aj d T=some x) (hk:x.kind=2) (hM:MapAt dx w' (nb d) (bR {x with names:=l})) (hT:w.mapTurned w' (nb d)) (f:bF→bF) (hf:f x={x with names:=l}):
  aK g D w' p mb ib nb (Go.Proofs.YtohpcppeajijnaaGreat.bf d f T):=by
 have hs:=iJ hT
 have hn:=h.ku d x hx hk
 refine h.bf hx (by rw[hf]) (fun _ h=>h) (fun b hb=>⟨h.data b hb,by rw[hs];exact h.lG b hb⟩) (by omega) (fun b hb h1 h2=>dZ hT b hb (fun e=>h2 (by rw[e];exact hn))) ?_
 have hb:∀b,b<w.heap.size→g b≠ .names d→w'.heap[b]? =w.heap[b]? :=fun b hb h2=>dZ hT b hb (fun e=>h2 (by rw[e];exact hn))
 have hi:=h.item d x hx
 have ti:=h.lF d x hx
 obtain⟨a,c,h1,h2,h3⟩:=hi.cells
 rw[hf]
 refine⟨⟨a,c,(hb _ (h.low _ (by rw[ti];simp)) (by rw[ti];simp)).trans h1,h2,h3.kept (by omega) fun b hD hbw=>hb b hbw (by rw[h.data b hD];simp)⟩,fun _=>hM⟩
theorem aK.set {g:Nat→Own} {D:Nat→Prop} {w w':World} {p mb:Nat} {ib nb:Int→Nat} {T:aH} (h:aK g D w p mb ib nb T) {d id:Int} {x:bF} {n:Nm} (hx:aj d T=some x) (hk:x.kind=2) (hM:MapAt dx w' (nb d) (bY dx.lt n (.int .i64 id) (bR x))) (hT:w.mapTurned w' (nb d)):
  aK g D w' p mb ib nb (setName T d n id):=by
 refine h.names (l:=bY bytesBefore n id x.names) hx hk ?_ hT _ rfl
 have e:bR {x with names:=bY bytesBefore n id x.names}=bY dx.lt n (.int .i64 id) (bR x):=rM bytesBefore (fun(_:Nm) (i:Int)=>Value.int .i64 i) n id x.names
 rw[e]
 exact hM
theorem aK.cut {g:Nat→Own} {D:Nat→Prop} {w w':World} {p mb:Nat} {ib nb:Int→Nat} {T:aH} (h:aK g D w p mb ib nb T) {d:Int} {x:bF} {n:Nm} (hx:aj d T=some x) (hk:x.kind=2) (hM:MapAt dx w' (nb d) (bH n (bR x))) (hT:w.mapTurned w' (nb d)):
  aK g D w' p mb ib nb (aA T d n):=by
 refine h.names (l:=bH n x.names) hx hk ?_ hT _ rfl
 have e:bR {x with names:=bH n x.names}=bH n (bR x):=rJ (fun(_:Nm) (i:Int)=>Value.int .i64 i) n x.names
 rw[e]
 exact hM
theorem FJ {g:Nat→Own} {D:Nat→Prop} {w w3 w4:World} {p mb:Nat} {ib nb:Int→Nat} {T:aH} {f kind:Int} (h:aK g D w p mb ib nb T) (hf:aj f T=none) (hi:iL (fun _=>False) w3 f w.heap.size (w.heap.size+1) (bq kind)) (hb:Below w.heap.size w w3) (hs:w.heap.size<w3.heap.size) (hs2:kind=2→w.heap.size+1<w3.heap.size)
  (hM:MapAt bP w4 mb (bY bP.lt f (ptr w.heap.size) (T.map fun q=>(q.1,ptr (ib q.1))))) (hT:w3.mapTurned w4 mb):
  ∃g1 KR KS,aK g1 D w4 p mb KR KS (bY iC f (bq kind) T)∧(∀b,g1 b≠ .none→g b≠ .none∨w.heap.size≤b)∧Keeps (fun b=>g b≠ .none) w w4∧∀j,j≠f→KR j=ib j∧KS j=nb j:=by
 have hsz:=iJ hT
 have hK:=dN hT
 have hmw:=h.map.lt
 refine⟨_,_,_,h.add (i:=w.heap.size) (n:=w.heap.size+1) (x:=bq kind) (k:=f) (Nat.le_refl _) (by omega) (by omega) (by omega) (fun hk=>by have:=hs2 hk;omega) hf rfl hM (by omega) (fun b hbw LB=>(hK.block b (by omega) LB).trans (hb.block b hbw)) (hi.move (by omega) (hK.block _ hs (by omega)) (fun hk=>hK.block _ (hs2 hk) (by omega)) (fun _ h=>h.elim)),fun b hb1=> ?_,⟨hK.os.trans hb.os,hK.tape.trans hb.tape,hK.output.trans hb.output,by omega,fun b hbw hbg=>(hK.block b (by omega) (fun e=>hbg (by rw[e,h.iW];simp))).trans (hb.block b hbw)⟩,fun j hj=>⟨by simp[hj],by simp[hj]⟩⟩
 by_cases hbi:w.heap.size≤b
 ·exact .inr hbi
 ·simp only[if_neg (show ¬b=w.heap.size by omega),if_neg (show ¬(b=w.heap.size+1∧(bq kind).kind=2)by omega)]at hb1
  exact .inl hb1
theorem FK {g g1:Nat→Own} {w w2 w4 w5:World} {nd:Nat} (hb2:Below w.heap.size w w2) (hg1:∀b,g1 b≠ .none→g b≠ .none∨w2.drew.heap.size≤b) (hK4:Keeps (fun b=>g b≠ .none) w2.drew w4) (Al:w4.mapTurned w5 nd) (hnd:g1 nd≠ .none):
  (∀b,g1 b≠ .none→g b≠ .none∨w.heap.size≤b)∧Keeps (fun b=>g b≠ .none) w w5:=by
 have hs:=hb2.size
 have hK:=dN Al
 have h4:w2.heap.size≤w4.heap.size:=hK4.size
 have h5:=hK.size
 refine⟨fun b hb=>(hg1 b hb).imp id fun h=>Nat.le_trans hs h,hK.os.trans (hK4.os.trans hb2.os),hK.tape.trans (hK4.tape.trans hb2.tape),hK.output.trans (hK4.output.trans hb2.output),by omega,fun b hb hbg=> ?_⟩
 have h6:b≠nd:=fun e=>by
  rcases hg1 b (by rw[e];exact hnd)with h|h
  ·exact hbg h
  ·have:w2.heap.size≤b:=h
   omega
 exact(hK.block b (by omega) h6).trans ((hK4.block b (show b<w2.heap.size by omega) hbg).trans (hb2.block b hb))
set_option maxRecDepth 100000 in
set_option maxHeartbeats 8000000 in
theorem Co {S:Nat→Prop} {g:Nat→Own} {D:Nat→Prop} {p mb:Nat} {ib nb:Int→Nat} {T:aH} (a:Option Addr) (n c:Nat) (ls:List Nm) (kind:Int) (w:World) (h:aK g D w p mb ib nb T) (hT:dA T) (hS:aG S w a n (ls.map strOf)) (hc:n≤c) (jd:n≤1000000):
  Calls Tryz.prog 12 #[ptr p, .slice a n c, .int .i64 kind] w (Turn g D w p mb (aL T ls kind).2 (.tuple #[.int .i64 (aL T ls kind).1.1, .int .i64 (aL T ls kind).1.2])):=by
 have HH:=Lib.hid h
 have HT:=Lib.hid hT
 have HS:=Lib.hid hS
 have HF:=Lib.hid (uN (S:=S) a n c ls w hS)
 clear h hT hS
 by_cases hf:bO ls=0
 ·have uO:=Lib.hid hf
  rw[hf]at HF
  clear hf
  by_cases hk:kind=1∨kind=2
  ·have HK:=Lib.hid hk
   have ql:=Lib.hid (fun w1 (hb:Below w.heap.size w w1)=>oQ a n c ls w1 (HH.out.below hb (Nat.le_refl _)) HT.out (HS.out.below hb (Nat.le_refl _)) hc jd)
   by_cases hp:(aC T ls).2.2=0
   ·obtain⟨x,hx,hxk,hnm⟩:=fV HT.out hp
    have hgn:=gP uO.out _ hnm
    have WJ:=Lib.hid hp
    obtain⟨⟨d,nm,z⟩,hq⟩:∃q,q=aC T ls:=⟨_,rfl⟩
    unfold kZ at ql
    rw[←hq]at hp hx hnm hgn ql
    obtain rfl:z=0:=hp
    have HQ:=Lib.hid hq
    have HX:=Lib.hid hx
    have HG:=Lib.hid hgn
    have sN:=Lib.hid hxk
    clear hq hx hgn hxk hnm
    have nR:=HT.out.ids d x HX.out
    have hlen:=HT.out.len
    have jw:dx.ok nm:=by
     have:=oq nm HG.out
     show nm.length≤maxLen
     unfold maxLen;omega
    have yC:Hid (∀k,(64≤T.length→k=4)→(T.length<64→k=0)→iH T ls kind=if (aj nm x.names).isSome then 21 else k):=fun k h4 h0=>by
     unfold iH
     have e1:bB T d=x.names:=by unfold bB;rw[HX.out]
     rw[if_neg (by rw[uO.out];simp),if_neg (fun h=>h hk),←HQ.out,if_neg (by simp),e1]
     by_cases h64:64≤T.length
     ·rw[if_pos h64,h4 h64]
     ·rw[if_neg h64,h0 (by omega)]
    have ou:Hid (∀w2,Below w.heap.size w w2→w2.cell? ⟨ib d,7,none⟩=some (.map (some (nb d)))∧MapAt dx w2 (nb d) (bR x)∧w2.cell? ⟨p,0,none⟩=some (.map (some mb))∧MapAt bP w2 mb (T.map fun q=>(q.1,ptr (ib q.1)))):=fun w2 hb=>by
     have h2:=HH.out.below hb (Nat.le_refl _)
     have hi:=h2.item d x HX.out
     obtain⟨_,_,_,_,_,_,c7,_⟩:=hi.cell
     unfold dJ at c7
     rw[if_pos sN.out]at c7
     exact⟨c7,hi.names sN.out,h2.cell.1,h2.map⟩
    cases hj:aj nm x.names with
    |some j=>
     have hgn:aj nm (bR x)=some (.int .i64 j):=by rw[dP,hj];rfl
     have yP:=Lib.hid hgn
     have hm:aL T ls kind=((0,21),T):=by
      have:iH T ls kind=21:=by rw[yC.out (if 64≤T.length then 4 else 0) (fun h=>if_pos h) (fun h=>if_neg (by omega)),hj];rfl
      unfold aL;rw[this];simp
     have HM:=Lib.hid hm
     clear hm hj hgn
     rcases hk with rfl|rfl
     all_goals
      go_enter Tryz.func12,Tryz.ntmps12
      go_wp2_with fail
      (with_reducible refine HF.out.mono ?_)
      rintro e w1 ⟨rfl,hb1⟩
      have HB1:=Lib.hid hb1
      clear hb1
      go_wp2_with fail
      (with_reducible refine(ql.out w1 HB1.out).mono ?_)
      rintro e w2 ⟨rfl,hb2⟩
      (first|rw[if_pos rfl]|rw[if_pos trivial])
      have HB2:=Lib.hid (HB1.out.trans (hb2.mono HB1.out.size))
      clear hb2
      obtain⟨c7,dY,_,_⟩:=ou.out w2 HB2.out
      have rU:=Lib.hid dY
      clear dY
      go_wp2_with (at_lookup;refine aX dx rfl _ _ 107 3 rfl Tryz.underlying107 (Tryz.fP _) rfl rU.out nm rfl jw ?_;rw[yP.out])
      go_ret2
      rw[HM.out]
      exact Turn.same HH.out HB2.out rfl
    |none=>
     have hgn:aj nm (bR x)=none:=by rw[dP,hj];rfl
     have yP:=Lib.hid hgn
     have HJ:=Lib.hid hj
     clear hgn hj
     by_cases h64:64≤T.length
     ·have hm:aL T ls kind=((0,4),T):=by
       have:iH T ls kind=4:=by rw[yC.out 4 (fun _=>rfl) (fun h=>by omega),HJ.out];rfl
       unfold aL;rw[this];simp
      have HM:=Lib.hid hm
      have LC:decide ((T.length:Int)<64)=false:=by simp;omega
      have Ri:decide ((64:Int)≤(T.length:Int))=true:=by simp;omega
      clear hm
      rcases hk with rfl|rfl
      all_goals
       go_enter Tryz.func12,Tryz.ntmps12
       go_wp2_with fail
       (with_reducible refine HF.out.mono ?_)
       rintro e w1 ⟨rfl,hb1⟩
       have HB1:=Lib.hid hb1
       clear hb1
       go_wp2_with fail
       (with_reducible refine(ql.out w1 HB1.out).mono ?_)
       rintro e w2 ⟨rfl,hb2⟩
       (first|rw[if_pos rfl]|rw[if_pos trivial])
       have HB2:=Lib.hid (HB1.out.trans (hb2.mono HB1.out.size))
       clear hb2
       obtain⟨c7,dY,c0,hmap⟩:=ou.out w2 HB2.out
       have rU:=Lib.hid dY
       have iE:=Lib.hid hmap
       clear dY hmap
       go_wp2_with (first|(at_lookup;refine aX dx rfl _ _ 107 3 rfl Tryz.underlying107 (Tryz.fP _) rfl rU.out nm rfl jw ?_;rw[yP.out])|(at_len;refine iK bP rfl _ 94 92 rfl Tryz.underlying94 rfl iE.out ?_;rw[List.length_map]))
       go_ret2
       rw[HM.out]
       exact Turn.same HH.out HB2.out rfl
     ·have hm:aL T ls kind=((qx T,0),og T ls kind):=by
       have:iH T ls kind=0:=by rw[yC.out 0 (fun h=>absurd h h64) (fun h=>rfl),HJ.out];rfl
       unfold aL;rw[if_pos this]
      unfold og at hm
      rw[←HQ.out]at hm
      obtain⟨f,WK,hf1,hf2,hfn,hfs⟩:=HT.out.free
      rw[WK]at hm
      have HM:=Lib.hid hm
      have EZ:=Lib.hid hfn
      have Qv:=Lib.hid hfs
      have LC:decide ((T.length:Int)<64)=true:=by simp;omega
      have Ri:decide ((64:Int)≤(T.length:Int))=false:=by simp;omega
      have WL:d≠(f:Int):=fun e=>by have:=HX.out;rw[e,EZ.out]at this;cases this
      have WM:=Lib.hid WL
      clear hm hfn hfs WK WL
      have Rj:bP.ok (f:Int):=om (by omega) (by omega)
      have HK:=Lib.hid hk
      rcases hk with rfl|rfl
      all_goals
       go_enter Tryz.func12,Tryz.ntmps12
       go_wp2_with fail
       (with_reducible refine HF.out.mono ?_)
       rintro e w1 ⟨rfl,hb1⟩
       have HB1:=Lib.hid hb1
       clear hb1
       go_wp2_with fail
       (with_reducible refine(ql.out w1 HB1.out).mono ?_)
       rintro e w2 ⟨rfl,hb2⟩
       (first|rw[if_pos rfl]|rw[if_pos trivial])
       have HB2:=Lib.hid (HB1.out.trans (hb2.mono HB1.out.size))
       clear hb2
       obtain⟨c7,dY,c0,hmap⟩:=ou.out w2 HB2.out
       have rU:=Lib.hid dY
       have iE:=Lib.hid hmap
       clear dY hmap
       go_wp2_with (first|(at_lookup;refine aX dx rfl _ _ 107 3 rfl Tryz.underlying107 (Tryz.fP _) rfl rU.out nm rfl jw ?_;rw[yP.out])|(at_len;refine iK bP rfl _ 94 92 rfl Tryz.underlying94 rfl iE.out ?_;rw[List.length_map]))
       go_loop [14] (fun s=>∃j:Nat,1≤j∧j≤f∧s= .int .i64 j) (fun s=>f-(intOf s).toNat)
       case atStart=>exact⟨1,by omega,by omega,rfl⟩
       case round=>
        obtain⟨j,hj1,WH,rfl⟩:=hrel
        have Od:bP.ok (j:Int):=om (by omega) (by omega)
        by_cases Rk:j<f
        ·obtain⟨y,hy⟩:=Option.isSome_iff_exists.1 (Qv.out j hj1 Rk)
         have sO:Hid (aj (j:Int) (T.map fun q=>(q.1,ptr (ib q.1)))=some (ptr (ib j))):=by rw[dX,hy];rfl
         clear hy
         go_wp2_with (at_lookup;refine aW bP rfl _ _ 94 92 rfl Tryz.underlying94 (Tryz.bI _) rfl iE.out (j:Int) rfl Od ?_;rw[sO.out])
         go_round
         case rel=>exact⟨j+1,by omega,by omega,by go_num⟩
         case measure=>simp[intOf];omega
        ·obtain rfl:f=j:=by omega
         have sO:Hid (aj (f:Int) (T.map fun q=>(q.1,ptr (ib q.1)))=none):=by rw[dX,EZ.out];rfl
         go_wp2_with (at_lookup;refine aW bP rfl _ _ 94 92 rfl Tryz.underlying94 (Tryz.bI _) rfl iE.out (f:Int) rfl Od ?_;rw[sO.out])
         have HA2:=Lib.hid (HH.out.below HB2.out (Nat.le_refl _))
         have hpw:=HA2.out.cell.2.1
         have hmw:=HA2.out.cell.2.2
         have hpm:p≠mb:=fun e=>by have h1:=HH.out.nQ;rw[e,HH.out.iW]at h1;cases h1
         have hst:∀v w3,Below w2.drew.heap.size w2.drew w3→∃w4,(Instr.mapUpdate 94 (.map (some mb)) (.int .i64 (f:Int)) v).run Tryz.prog w3= .ok () w4∧MapAt bP w4 mb (bY bP.lt (f:Int) v (T.map fun q=>(q.1,ptr (ib q.1))))∧w3.mapTurned w4 mb:=by
          intro v w3 hb3
          have hm1:MapAt bP w3 mb (T.map fun q=>(q.1,ptr (ib q.1))):=iE.out.kept (hb3.block mb hmw)
          exact hm1.rG bP Tryz.underlying94 (by rw[List.length_map];unfold maxLen;omega) (f:Int) v Rj
         have HST:=Lib.hid hst
         have Ya:=Lib.hid hpm
         have hkeep:∀w3,Below w2.drew.heap.size w2.drew w3→w3.cell? ⟨p,0,none⟩=some (.map (some mb)):=fun w3 hb3=>(hb3.cell (p:=⟨p,0,none⟩) hpw).trans c0
         have FL:∀w3 w4,Below w2.drew.heap.size w2.drew w3→w3.mapTurned w4 mb→w4.cell? ⟨p,0,none⟩=some (.map (some mb)):=fun w3 w4 hb3 hT=>(World.cell?_of_block (w:=w3) (w':=w4) (a:=⟨p,0,none⟩) (dZ hT p (Nat.lt_of_lt_of_le hpw hb3.size) Ya.out)).trans ((hb3.cell (p:=⟨p,0,none⟩) hpw).trans c0)
         have jH:=Lib.hid hkeep
         have Rl:=Lib.hid FL
         have HFA:=Lib.hid (fun w=>rQ (f:Int) 1 w)
         clear hst hpm hkeep FL
         go_region_held3 (fun w'=>w'.cell? ⟨p,0,none⟩=some (.map (some mb))) (first|exact c0|exact jH.out _ hb3|exact Rl.out _ _ hb3 rD) ((first|(go_at_call 58;refine(rQ (f:Int) _ _).mono ?_;rintro e w3 ⟨rfl,hi3,hb3,hs3,hs4⟩)|(obtain⟨w4,wW,Dr,rD⟩:=HST.out (ptr w2.heap.size) w3 hb3;rw[wW];go_simp)))
         have HI3:=Lib.hid hi3
         have HB3:=Lib.hid hb3
         have I9:=Lib.hid hs3
         have FM:=Lib.hid hs4
         have Am:=Lib.hid Dr
         have qm:=Lib.hid rD
         clear hi3 hb3 hs3 hs4 Dr rD wW
         obtain⟨g1,KR,KS,Ao,hg1,hK4,hib⟩:=FJ (HA2.out.below (Below.refl _ _).drew (Nat.le_refl _)) EZ.out HI3.out HB3.out I9.out (by first|exact FM.out|exact fun _=>FM.out trivial) Am.out qm.out
         have hx4:∀kd,aj d (bY iC (f:Int) (bq kd) T)=some x:=fun kd=>by rw[eX,if_neg WM.out];exact HX.out
         obtain⟨_,_,_,_,_,_,Rm,_⟩:=(Ao.item d x (hx4 _)).cell
         have LD:=(Ao.item d x (hx4 _)).names sN.out
         unfold dJ at Rm
         rw[if_pos sN.out,(hib d WM.out).1]at Rm
         obtain⟨nd,hnd⟩:∃nd,nd=KS d:=⟨_,rfl⟩
         rw[←hnd]at Rm LD
         have Yb:=Lib.hid Ao
         have Ap:=Lib.hid hg1
         have I_:=Lib.hid hK4
         have WO:=Lib.hid hx4
         have Rn:=Lib.hid LD
         have zX:=Lib.hid hnd
         have LG:Hid ((bR x).length<maxLen):=by
          have h1:=HT.out.few HX.out
          have h2:(bR x).length<maxLen:=by unfold bR maxLen;rw[List.length_map];omega
          exact h2
         clear Ao hg1 hK4 hx4 LD hnd hib
         go_wp2_with (at_mapUpdate;refine kJ dx rfl _ _ _ 107 3 rfl Tryz.underlying107 rfl Rn.out LG.out nm (.int .i64 (f:Int)) rfl rfl jw ?_;intro w5 Qw Al)
         go_ret2
         rw[HM.out]
         have Ao:=Yb.out
         have hnd:=zX.out
         have hgn:g1 nd≠ .none:=by rw[hnd,Ao.ku d x (WO.out _) sN.out];simp
         obtain⟨e1,e2⟩:=FK HB2.out Ap.out I_.out Al hgn
         subst hnd
         exact⟨rfl,g1,D,KR,KS,Ao.set (WO.out _) sN.out Qw Al,e1,fun b h=> .inl h,e2⟩
   ·have hne:((aC T ls).2.2==0)=false:=by simpa using hp
    have hne2:((aC T ls).2.2 !=0)=true:=by simpa using hp
    have hm:aL T ls kind=((0,(aC T ls).2.2),T):=by
     have:iH T ls kind=(aC T ls).2.2:=by unfold iH;rw[if_neg (by rw[uO.out];simp),if_neg (fun h=>h hk),if_pos hp]
     unfold aL;rw[this,if_neg hp]
    have HM:=Lib.hid hm
    have HP:=Lib.hid hp
    unfold kZ at ql
    generalize aC T ls=q at*
    clear hm hp
    rcases hk with rfl|rfl
    all_goals
     go_enter Tryz.func12,Tryz.ntmps12
     go_wp2_with fail
     (with_reducible refine HF.out.mono ?_)
     rintro e w1 ⟨rfl,hb1⟩
     have HB1:=Lib.hid hb1
     clear hb1
     go_wp2_with fail
     (with_reducible refine(ql.out w1 HB1.out).mono ?_)
     rintro e w2 ⟨rfl,hb2⟩
     rw[if_neg HP.out]
     have HB2:=Lib.hid hb2
     clear hb2
     go_wp2_with fail
     go_ret2
     rw[HM.out]
     exact Turn.same HH.out (HB1.out.trans (HB2.out.mono HB1.out.size)) rfl
  ·have HK:=Lib.hid hk
   have e1:(kind !=1)=true:=by simp;omega
   have e2:(kind !=2)=true:=by simp;omega
   have hm:aL T ls kind=((0,30),T):=by
    have:iH T ls kind=30:=by unfold iH;rw[if_neg (by rw[uO.out];simp),if_pos HK.out]
    unfold aL;rw[this];simp
   have HM:=Lib.hid hm
   clear hm hk
   go_enter Tryz.func12,Tryz.ntmps12
   go_wp2_with fail
   (with_reducible refine HF.out.mono ?_)
   rintro e w1 ⟨rfl,hb1⟩
   go_wp2_with fail
   go_ret2
   rw[HM.out]
   exact Turn.same HH.out hb1 rfl
 ·have hm:aL T ls kind=((0,bO ls),T):=by
   have:iH T ls kind=bO ls:=by unfold iH;rw[if_pos hf]
   unfold aL;rw[this,if_neg hf]
  have hne:(bO ls==0)=false:=by simpa using hf
  have hne2:(bO ls !=0)=true:=by simpa using hf
  have HM:=Lib.hid hm
  clear hm hf
  go_enter Tryz.func12,Tryz.ntmps12
  go_wp2_with fail
  (with_reducible refine HF.out.mono ?_)
  rintro e w1 ⟨rfl,hb1⟩
  go_wp2_with fail
  go_ret2
  rw[HM.out]
  exact Turn.same HH.out hb1 rfl
section
variable {g:Nat→Own} {D:Nat→Prop} {p mb:Nat} {ib nb:Int→Nat} {T:aH}
theorem iL.frozen {w:World} {k:Int} {i n:Nat} {x:bF} (h:iL D w k i n x) (j:Nat):w.frozen? ⟨i,j,none⟩=false:=by
 obtain⟨⟨a,c,h1,_⟩,_⟩:=h
 simp[World.frozen?,h1]
theorem iL.row {w:World} {k:Int} {i n:Nat} {x:bF} (h:iL D w k i n x):∃a c,w.cell? ⟨i,6,none⟩=some (.slice a x.b.length c)∧qz x.b.length c∧ak D w a x.b.length (x.b.map bv)∧w.heap[i]? =some (.cells (iG k x a c n) 109 (0,0)):=by
 obtain⟨⟨a,c,h1,h2,h3⟩,_⟩:=h
 exact⟨a,c,by simp only[World.cell?,h1];rfl,h2,h3,h1⟩
theorem aK.fields {w w':World} (h:aK g D w p mb ib nb T) {k:Int} {x:bF} (hx:aj k T=some x) (f:bF→bF) (hb:(f x).b=x.b) (hn:(f x).names=x.names) (hk:(f x).kind=x.kind) (hK:Keeps (fun b=>b=ib k) w w') (hs:w'.heap.size=w.heap.size)
  (hc:∀a c,w.heap[ib k]? =some (.cells (iG k x a c (nb k)) 109 (0,0))→w'.heap[ib k]? =some (.cells (iG k (f x) a c (nb k)) 109 (0,0))):aK g D w' p mb ib nb (Go.Proofs.YtohpcppeajijnaaGreat.bf k f T):=by
 have ti:=h.lF k x hx
 refine h.bf hx hk (fun _ h=>h) (fun b hb=>⟨h.data b hb,by rw[hs];exact h.lG b hb⟩) (by omega) (fun b hbw h1 _=>hK.block b hbw (fun e=>h1 (by rw[e];exact ti))) ?_
 obtain⟨⟨a,c,h1,h2,h3⟩,h4⟩:=h.item k x hx
 refine⟨⟨a,c,hc a c h1,by rw[hb];exact h2,by rw[hb];exact h3.kept (by omega) fun b hD hbw=>hK.block b hbw (fun e=>by have:=h.data b hD;rw[e,ti]at this;cases this)⟩,fun hk2=> ?_⟩
 have Oe:x.kind=2:=hk▸hk2
 have e:bR (f x)=bR x:=by unfold bR;rw[hn]
 rw[e]
 have tn:=h.ku k x hx Oe
 exact(h4 Oe).kept (hK.block _ (h.low _ (by rw[tn];simp)) (fun e=>by rw[e,ti]at tn;cases tn))
theorem Keeps.set2 (w:World) (i j j':Nat) (v v':Value):Keeps (fun b=>b=i) w ((w.setCell ⟨i,j,none⟩ v).setCell ⟨i,j',none⟩ v'):=
 (Keeps.gX w ⟨i,j,none⟩ v).trans (Keeps.gX _ ⟨i,j',none⟩ v') (fun _ _ h=>h)
set_option maxHeartbeats 1000000 in
theorem ow (id:Int) (k:Int) (hk:bK T id=k) (hk0:k≠0) (w:World) (h:aK g D w p mb ib nb T) (hid:(Lit.int .i64 id).wf=true):
  Calls Tryz.prog 76 #[ptr p, .int .i64 id] w fun e w'=>e= .returned (.tuple #[.pointer none, .int .i64 k])∧w=w':=by
 obtain⟨hc0,hpw,hmw⟩:=h.cell
 have hmap:=Lib.hid h.map
 have hok:bP.ok id:=hid
 unfold bK at hk
 cases hx:aj id T with
 |none=>
  rw[hx]at hk
  simp only at hk
  subst hk
  have HG:Hid (aj id (T.map fun q=>(q.1,ptr (ib q.1)))=none):=by rw[dX,hx];rfl
  clear h hx hid hk0
  go_enter Tryz.func76,Tryz.ntmps76
  go_wp2_with (at_lookup;refine aX bP rfl _ _ 94 92 rfl Tryz.underlying94 (Tryz.bI _) rfl hmap.out id rfl hok ?_;rw[HG.out])
  go_ret2
  exact⟨rfl,rfl⟩
 |some x=>
  rw[hx]at hk
  simp only at hk
  by_cases hk2:x.kind=2
  ·rw[if_pos hk2]at hk
   subst hk
   have HG:Hid (aj id (T.map fun q=>(q.1,ptr (ib q.1)))=some (ptr (ib id))):=by rw[dX,hx];rfl
   obtain⟨c0,c1,c2,c3,c4,c5,c7,hiw⟩:=(h.item id x hx).cell
   rw[hk2]at c1
   clear h hx hid hk0 c7 hk2
   go_enter Tryz.func76,Tryz.ntmps76
   go_wp2_with (at_lookup;refine aX bP rfl _ _ 94 92 rfl Tryz.underlying94 (Tryz.bI _) rfl hmap.out id rfl hok ?_;rw[HG.out])
   go_ret2
   exact⟨rfl,rfl⟩
  ·rw[if_neg hk2]at hk
   exact absurd hk.symm hk0
set_option maxHeartbeats 1000000 in
theorem oU (id:Int) {x:bF} (hx:aj id T=some x) (hk2:x.kind≠2) (w:World) (h:aK g D w p mb ib nb T) (hid:(Lit.int .i64 id).wf=true):
  Calls Tryz.prog 76 #[ptr p, .int .i64 id] w fun e w'=>e= .returned (.tuple #[ptr (ib id), .int .i64 0])∧w=w':=by
 obtain⟨hc0,hpw,hmw⟩:=h.cell
 have hmap:=Lib.hid h.map
 have hok:bP.ok id:=hid
 have HG:Hid (aj id (T.map fun q=>(q.1,ptr (ib q.1)))=some (ptr (ib id))):=by rw[dX,hx];rfl
 obtain⟨c0,c1,c2,c3,c4,c5,c7,hiw⟩:=(h.item id x hx).cell
 have e1:(x.kind==2)=false:=by simpa using hk2
 clear h hx hid c7 hk2
 go_enter Tryz.func76,Tryz.ntmps76
 go_wp2_with (at_lookup;refine aX bP rfl _ _ 94 92 rfl Tryz.underlying94 (Tryz.bI _) rfl hmap.out id rfl hok ?_;rw[HG.out])
 go_ret2
 exact⟨rfl,rfl⟩
def iM (k:Int) (x:bF):Value:= .agg #[.int .i64 k, .int .i64 x.kind, .int .i64 x.links, .int .i64 x.b.length, .int .u64 x.aQ, .bool x.closed]
def jy (T:aH) (id:Int):Value:=match aj id T with
 |some x=>iM id x
 |none=> .agg #[.int .i64 0, .int .i64 0, .int .i64 0, .int .i64 0, .int .u64 0, .bool false]
set_option maxHeartbeats 1000000 in
theorem FN (id:Int) (w:World) (h:aK g D w p mb ib nb T) (hid:(Lit.int .i64 id).wf=true):
  Calls Tryz.prog 95 #[ptr p, .int .i64 id] w fun e w'=>e= .returned (.tuple #[jy T id, .bool (aj id T).isSome])∧Below w.heap.size w w':=by
 obtain⟨hc0,hpw,hmw⟩:=h.cell
 have hok:bP.ok id:=hid
 have FP:∀o,MapAt bP (w.alloc o) mb (T.map fun q=>(q.1,ptr (ib q.1))):=fun o=>h.map.kept ((wall w o).block mb hmw)
 have hmap:=Lib.hid FP
 unfold jy
 cases hx:aj id T with
 |none=>
  have HG:Hid (aj id (T.map fun q=>(q.1,ptr (ib q.1)))=none):=by rw[dX,hx];rfl
  clear h hx hid FP
  go_enter Tryz.func95,Tryz.ntmps95
  go_wp2_with (at_lookup;refine aX bP rfl _ _ 94 92 rfl Tryz.underlying94 (Tryz.bI _) rfl (hmap.out _) id rfl hok ?_;rw[HG.out])
  exact bodyPost_ret (v:= .tuple #[.agg #[.int .i64 0, .int .i64 0, .int .i64 0, .int .i64 0, .int .u64 0, .bool false], .bool false]) (by simp[results,Tryz.results95,go_sem]) rfl ⟨rfl,wall w _⟩
 |some x=>
  have HG:Hid (aj id (T.map fun q=>(q.1,ptr (ib q.1)))=some (ptr (ib id))):=by rw[dX,hx];rfl
  obtain⟨c0,c1,c2,c3,c4,c5,c7,hiw⟩:=(h.item id x hx).cell
  clear h hx hid c7 FP
  unfold iM
  go_enter Tryz.func95,Tryz.ntmps95
  go_wp2_with (at_lookup;refine aX bP rfl _ _ 94 92 rfl Tryz.underlying94 (Tryz.bI _) rfl (hmap.out _) id rfl hok ?_;rw[HG.out])
  exact bodyPost_ret (v:= .tuple #[.agg #[.int .i64 id, .int .i64 x.kind, .int .i64 x.links, .int .i64 x.b.length, .int .u64 x.aQ, .bool x.closed], .bool true]) (by simp[results,Tryz.results95,go_sem]) rfl ⟨rfl,wall w _⟩
theorem Dt (w:World) (h:aK g D w p mb ib nb T):Calls Tryz.prog 48 #[ptr p] w fun e w'=>e= .returned (.int .i64 T.length)∧w=w':=by
 obtain⟨hc0,hpw,hmw⟩:=h.cell
 have hmap:=Lib.hid h.map
 clear h
 go_enter Tryz.func48,Tryz.ntmps48
 go_wp2_with (at_len;refine iK bP rfl _ 94 92 rfl Tryz.underlying94 rfl hmap.out ?_;rw[List.length_map])
 go_ret
 exact⟨rfl,rfl⟩
end
section
variable {g:Nat→Own} {D:Nat→Prop} {p mb:Nat} {ib nb:Int→Nat} {T:aH}
theorem MapAt.yS {P:Program} {K:TypeId} {κ:Type} [DecidableEq κ] {F:uy P K κ} {w:World} {t e:TypeId} (ht:P.underlying t=some (.map K e)) {b:Nat} {l:List (κ×Value)} (hM:MapAt F w b l) (k:κ) (hok:F.ok k):
  ∃w',(∀ty,(Builtin.delete_ #[t,K] ty #[.map (some b),F.val k]).run P w= .ok (.tuple #[]) w')∧MapAt F w' b (bH k l)∧w.mapTurned w' b:=by
 obtain⟨w',hrun,r1,r2⟩:=World.ownsMap.drop hM F.law ht (F.of k hok) 0
 rw[Cc]at r1
 exact⟨w',fun ty=>hrun,MapAt.oP r1,r2⟩
def Jp (g:Nat→Own) (D:Nat→Prop) (w:World) (p mb:Nat) (ib nb:Int→Nat) (T':aH) (e:Ending) (w':World):Prop:=
 e= .returned (.tuple #[])∧aK g D w' p mb ib nb T'∧Keeps (fun b=>b=mb) w w'∧w'.heap.size=w.heap.size
set_option maxRecDepth 100000 in
set_option maxHeartbeats 2000000 in
theorem uP (id:Int) {x:bF} (hx:aj id T=some x) (hid:(Lit.int .i64 id).wf=true) (w:World) (h:aK g D w p mb ib nb T):
  Calls Tryz.prog 75 #[ptr p,ptr (ib id)] w (Jp g D w p mb ib nb (fG T id)):=by
 obtain⟨hc0,hpw,hmw⟩:=h.cell
 obtain⟨c0,c1,c2,c3,c4,c5,c7,hiw⟩:=(h.item id x hx).cell
 have HH:=Lib.hid h
 have hs:fG T id=if x.links=0∧x.closed=true then bH id T else T:=by unfold fG;rw[hx]
 have HS:=Lib.hid hs
 have HX:=Lib.hid hx
 clear hs hx h c7
 by_cases h0:x.links=0
 ·have e0:(x.links==0)=true:=by simpa using h0
  rw[h0]at c2
  cases hcl:x.closed with
  |true=>
   rw[hcl]at c5
   have HF:Hid (fG T id=bH id T):=HS.out.trans (if_pos ⟨h0,hcl⟩)
   have hst:∃w4,(∀ty,(Builtin.delete_ #[94,3] ty #[.map (some mb), .int .i64 id]).run Tryz.prog w.drew= .ok (.tuple #[]) w4)∧MapAt bP w4 mb (bH id (T.map fun q=>(q.1,ptr (ib q.1))))∧w.drew.mapTurned w4 mb:=
    MapAt.yS (F:=bP) Tryz.underlying94 (HH.out.map.kept (w':=w.drew) rfl) id hid
   have HST:=Lib.hid hst
   have hne1:p≠mb:=fun e=>by have h1:=HH.out.nQ;rw[e,HH.out.iW]at h1;cases h1
   have hne2:ib id≠mb:=fun e=>by have h1:=HH.out.lF id x HX.out;rw[e,HH.out.iW]at h1;cases h1
   have jH:Hid (∀w4,w.drew.mapTurned w4 mb→w4.cell? ⟨p,0,none⟩=some (.map (some mb))∧w4.cell? ⟨ib id,0,none⟩=some (.int .i64 id)):=fun w4 hT=>⟨(World.cell?_of_block (w:=w.drew) (w':=w4) (a:=⟨p,0,none⟩) (dZ hT p hpw hne1)).trans hc0,(World.cell?_of_block (w:=w.drew) (w':=w4) (a:=⟨ib id,0,none⟩) (dZ hT _ hiw hne2)).trans c0⟩
   clear hst HS h0 hcl e0 hne1 hne2
   go_enter Tryz.func75,Tryz.ntmps75
   go_wp2
   go_region_held3 (fun w'=>w'.cell? ⟨p,0,none⟩=some (.map (some mb))∧w'.cell? ⟨ib id,0,none⟩=some (.int .i64 id)) (first|exact⟨hc0,c0⟩|exact jH.out _ rD) ((first|(obtain⟨w4,wW,Dr,rD⟩:=HST.out;rw[wW];go_simp)))
   have hsz:=iJ rD
   have hK:=dN rD
   go_end0
   refine⟨rfl,?_,⟨hK.os,hK.tape,hK.output,hK.size,hK.block⟩,hsz⟩
   rw[HF.out]
   exact(HH.out.below (Below.refl _ _).drew (Nat.le_refl _)).del Dr hK.size (fun b hb LB=>hK.block b hb LB)
  |false=>
   rw[hcl]at c5
   have HF:Hid (fG T id=T):=HS.out.trans (if_neg (fun h=>by rw[hcl]at h;cases h.2))
   clear HS h0 hcl e0
   go_enter Tryz.func75,Tryz.ntmps75
   go_wp2
   go_end0
   exact⟨rfl,by rw[HF.out];exact HH.out,Keeps.refl _ _,rfl⟩
 ·have e0:(x.links==0)=false:=by simpa using h0
  have HF:Hid (fG T id=T):=HS.out.trans (if_neg (fun h=>h0 h.1))
  clear HS h0
  go_enter Tryz.func75,Tryz.ntmps75
  go_wp2
  go_end0
  exact⟨rfl,by rw[HF.out];exact HH.out,Keeps.refl _ _,rfl⟩
end
end Go.Proofs.YtohpcppeajijnaaGreat
