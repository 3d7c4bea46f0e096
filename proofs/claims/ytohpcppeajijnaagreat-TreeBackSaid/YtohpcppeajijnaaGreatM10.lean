/- tree: Make. tree: file, Node, Count, Look, settle, Seal, Keep. tree: settle, Seal, Keep. -/
import Derived.Test.YtohpcppeajijnaaGreatM07
import Derived.Test.YtohpcppeajijnaaGreatM09
import Derived.Deep.RegionHeld3
namespace Go.Proofs.YtohpcppeajijnaaGreat
open Go.ChangeShapes Go.WideShapes Go.ChangeAt Go.RowKit
set_option linter.unusedVariables false
set_option linter.unusedSimpArgs false
def Turn (g:Nat→Own) (D:Nat→Prop) (w:World) (p mb:Nat) (T':aF) (v:Value) (e:Ending) (w':World):Prop:=
 e= .returned v∧∃g' D' Mg nb',aJ g' D' w' p mb Mg nb' T'∧(∀b,g' b≠ .none→g b≠ .none∨w.heap.size≤b)∧(∀b,D' b→D b∨w.heap.size≤b)∧Keeps (fun b=>g b≠ .none) w w'
theorem Turn.same {g:Nat→Own} {D:Nat→Prop} {w w':World} {p mb:Nat} {ib nb:Int→Nat} {T:aF} {v:Value} {e:Ending} (h:aJ g D w p mb ib nb T) (hb:Below w.heap.size w w') (he:e= .returned v):Turn g D w p mb T v e w':=
 ⟨he,g,D,ib,nb,h.below hb (Nat.le_refl _),fun b h=> .inl h,fun b h=> .inl h,(Keeps.below hb).mono fun x hx hx'=>absurd hx (by omega)⟩
theorem fQ {T:aF} {p:List Nm} (hT:dG T) (h:(aB T p).2.2=0):∃x,aj (aB T p).1 T=some x∧x.kind=2∧(aB T p).2.1∈p:=by
 unfold aB at h⊢
 by_cases h0:p=[]
 ·rw[if_pos h0]at h;cases h
 ·rw[if_neg h0]at h⊢
  by_cases h1:(aC T 0 p.dropLast).2≠0
  ·rw[if_pos h1]at h;exact absurd h h1
  ·rw[if_neg h1]at h⊢
   by_cases h2:bq T (aC T 0 p.dropLast).1=2
   ·rw[if_pos h2]
    obtain⟨x,hx,hk⟩:=fG h2
    refine⟨x,hx,hk,?_⟩
    cases p with
    |nil=>exact absurd rfl h0
    |cons z r=>simp[List.getLastD_eq_getLast?,List.getLast?_eq_some_getLast]
   ·rw[if_neg h2]at h;cases h
theorem gW {p:List Nm} (h:bM p=0):∀n∈p,bZ n=true:=by
 unfold bM at h
 split at h
 ·cases h
 ·rename_i h1
  intro n hn
  have h2:(p.any fun x=> !bZ x)=false:=by simpa only[Bool.not_eq_true]using h1
  have:=List.any_eq_false.1 h2 n hn
  simpa using this
theorem lK {p:List Nm} (h:bM p=0):p.length≤8:=by
 unfold bM at h
 split at h
 ·cases h
 ·split at h
  ·cases h
  ·omega
theorem nC (l:List UInt8) (h:bZ l=true):l.length≤16:=by
 simp only[bZ,Bool.and_eq_true,decide_eq_true_eq]at h
 exact h.1.1.2
theorem AY (p:List Nm):gK [p]=bM p:=by
 unfold gK gK
 by_cases h:bM p≠0
 ·rw[if_pos h]
 ·rw[if_neg h];omega
theorem Hl (p q:List Nm):gK [p,q]=iw p q:=by
 unfold gK iw
 by_cases h:bM p≠0
 ·rw[if_pos h,if_pos h]
 ·rw[if_neg h,if_neg h,AY]
theorem nX {w:World} {v:Value} {t:TypeId}:(w.alloc (.cells #[v] t)).cell? ⟨w.heap.size,0,none⟩=some v:=by
 simp only[World.cell?,(MapKept.heap_alloc w _).1];rfl
theorem kX {w:World} {u v:Value} {t:TypeId}:(w.alloc (.cells #[u,v] t)).cell? ⟨w.heap.size,0,none⟩=some u∧(w.alloc (.cells #[u,v] t)).cell? ⟨w.heap.size,1,none⟩=some v:=by
 simp only[World.cell?,(MapKept.heap_alloc w _).1];exact⟨rfl,rfl⟩
theorem wall (w:World) (o:Obj):Below w.heap.size w (w.alloc o):=(Below.refl _ _).alloc (Nat.le_refl _) _
theorem rY {S:Nat→Prop} (a:Option Addr) (n c:Nat) (ls:List Nm) (w:World) (hS:aH S w a n (ls.map strOf)):
  Calls Tryz.prog 59 #[.slice (some ⟨w.heap.size,0,none⟩) 1 1] (w.alloc (.cells #[.slice a n c] 26)) fun e w'=>e= .returned (.int .i64 (bM ls))∧Below w.heap.size w w':=by
 refine(yI (S:=S) w.heap.size 1 [ls] _ rfl (by omega) (by simp) (fun k hk=> ?_)).mono ?_
 ·obtain rfl:k=0:=by omega
  exact⟨a,n,c,ls,nX,hS.below (wall w _) (Nat.le_refl _),rfl⟩
 ·rintro e w' ⟨rfl,hb⟩
  rw[AY]
  exact⟨rfl,(wall w _).trans (hb.mono (by simp))⟩
theorem AZ {S S':Nat→Prop} (a:Option Addr) (n c:Nat) (ls:List Nm) (a':Option Addr) (n' c':Nat) (ls':List Nm) (w:World) (hS:aH S w a n (ls.map strOf)) (hS':aH S' w a' n' (ls'.map strOf)):
  Calls Tryz.prog 59 #[.slice (some ⟨w.heap.size,0,none⟩) 2 2] (w.alloc (.cells #[.slice a n c, .slice a' n' c'] 26)) fun e w'=>e= .returned (.int .i64 (iw ls ls'))∧Below w.heap.size w w':=by
 refine(yI (S:=fun x=>S x∨S' x) w.heap.size 2 [ls,ls'] _ rfl (by omega) (by simp) (fun k hk=> ?_)).mono ?_
 ·rcases (show k=0∨k=1 by omega)with rfl|rfl
  ·exact⟨a,n,c,ls,kX.1,(hS.below (wall w _) (Nat.le_refl _)).mono fun _=> .inl,rfl⟩
  ·exact⟨a',n',c',ls',kX.2,(hS'.below (wall w _) (Nat.le_refl _)).mono fun _=> .inr,rfl⟩
 ·rintro e w' ⟨rfl,hb⟩
  rw[Hl]
  exact⟨rfl,(wall w _).trans (hb.mono (by simp))⟩
theorem xZ {w w':World} {b:Nat} (h:w.mapTurned w' b):Keeps (fun x=>x=b) w w':=Keeps.turned h
theorem dD {w w':World} {b:Nat} (h:w.mapTurned w' b) (x:Nat) (hx:x<w.heap.size) (hn:x≠b):w'.heap[x]? =w.heap[x]? :=(xZ h).block x hx hn
theorem fK {w w':World} {b:Nat} (h:w.mapTurned w' b):Keeps (fun x=>x=b) w w':=Keeps.turned h
theorem aJ.names {g:Nat→Own} {D:Nat→Prop} {w w':World} {p mb:Nat} {ib nb:Int→Nat} {T:aF} (h:aJ g D w p mb ib nb T) {d:Int} {x:bF} {l:List (Nm×Int)} (hx:aj d T=some x) (hk:x.kind=2) (hM:MapAt cK w' (nb d) (bO {x with names:=l})) (hT:w.mapTurned w' (nb d)) (f:bF→bF) (hf:f x={x with names:=l}):
  aJ g D w' p mb ib nb (Go.Proofs.YtohpcppeajijnaaGreat.aX d f T):=by
 have hs:=iq hT
 have hn:=h.kI d x hx hk
 refine h.aX hx (by rw[hf]) (fun _ h=>h) (fun b hb=>⟨h.data b hb,by rw[hs];exact h.nW b hb⟩) (by omega) (fun b hb h1 h2=>dD hT b hb (fun e=>h2 (by rw[e];exact hn))) ?_
 have hb:∀b,b<w.heap.size→g b≠ .names d→w'.heap[b]? =w.heap[b]? :=fun b hb h2=>dD hT b hb (fun e=>h2 (by rw[e];exact hn))
 have hi:=h.item d x hx
 have ti:=h.l5 d x hx
 obtain⟨a,c,h1,h2,h3⟩:=hi.cells
 rw[hf]
 refine⟨⟨a,c,(hb _ (h.low _ (by rw[ti];simp)) (by rw[ti];simp)).trans h1,h2,h3.kept (by omega) fun b hD hbw=>hb b hbw (by rw[h.data b hD];simp)⟩,fun _=>hM⟩
theorem aJ.set {g:Nat→Own} {D:Nat→Prop} {w w':World} {p mb:Nat} {ib nb:Int→Nat} {T:aF} (h:aJ g D w p mb ib nb T) {d id:Int} {x:bF} {n:Nm} (hx:aj d T=some x) (hk:x.kind=2) (hM:MapAt cK w' (nb d) (bT cK.lt n (.int .i64 id) (bO x))) (hT:w.mapTurned w' (nb d)):
  aJ g D w' p mb ib nb (setName T d n id):=by
 refine h.names (l:=bT bytesBefore n id x.names) hx hk ?_ hT _ rfl
 have e:bO {x with names:=bT bytesBefore n id x.names}=bT cK.lt n (.int .i64 id) (bO x):=tN bytesBefore (fun(_:Nm) (i:Int)=>Value.int .i64 i) n id x.names
 rw[e]
 exact hM
theorem aJ.cut {g:Nat→Own} {D:Nat→Prop} {w w':World} {p mb:Nat} {ib nb:Int→Nat} {T:aF} (h:aJ g D w p mb ib nb T) {d:Int} {x:bF} {n:Nm} (hx:aj d T=some x) (hk:x.kind=2) (hM:MapAt cK w' (nb d) (bg n (bO x))) (hT:w.mapTurned w' (nb d)):
  aJ g D w' p mb ib nb (aA T d n):=by
 refine h.names (l:=bg n x.names) hx hk ?_ hT _ rfl
 have e:bO {x with names:=bg n x.names}=bg n (bO x):=tL (fun(_:Nm) (i:Int)=>Value.int .i64 i) n x.names
 rw[e]
 exact hM
theorem Ho {g:Nat→Own} {D:Nat→Prop} {w w3 w4:World} {p mb:Nat} {ib nb:Int→Nat} {T:aF} {f kind:Int} (h:aJ g D w p mb ib nb T) (hf:aj f T=none) (hi:iG (fun _=>False) w3 f w.heap.size (w.heap.size+1) (bE kind)) (hb:Below w.heap.size w w3) (hs:w.heap.size<w3.heap.size) (hs2:kind=2→w.heap.size+1<w3.heap.size)
  (hM:MapAt aW w4 mb (bT aW.lt f (ptr w.heap.size) (T.map fun q=>(q.1,ptr (ib q.1))))) (hT:w3.mapTurned w4 mb):
  ∃g1 Rm PG,aJ g1 D w4 p mb Rm PG (bT fT f (bE kind) T)∧(∀b,g1 b≠ .none→g b≠ .none∨w.heap.size≤b)∧Keeps (fun b=>g b≠ .none) w w4∧∀j,j≠f→Rm j=ib j∧PG j=nb j:=by
 have hsz:=iq hT
 have hK:=fK hT
 have hmw:=h.map.lt
 refine⟨_,_,_,h.add (i:=w.heap.size) (n:=w.heap.size+1) (x:=bE kind) (k:=f) (Nat.le_refl _) (by omega) (by omega) (by omega) (fun hk=>by have:=hs2 hk;omega) hf rfl hM (by omega) (fun b hbw M0=>(hK.block b (by omega) M0).trans (hb.block b hbw)) (hi.move (by omega) (hK.block _ hs (by omega)) (fun hk=>hK.block _ (hs2 hk) (by omega)) (fun _ h=>h.elim)),fun b hb1=> ?_,⟨hK.os.trans hb.os,hK.tape.trans hb.tape,hK.output.trans hb.output,by omega,fun b hbw hbg=>(hK.block b (by omega) (fun e=>hbg (by rw[e,h.iU];simp))).trans (hb.block b hbw)⟩,fun j hj=>⟨by simp[hj],by simp[hj]⟩⟩
 by_cases hbi:w.heap.size≤b
 ·exact .inr hbi
 ·simp only[if_neg (show ¬b=w.heap.size by omega),if_neg (show ¬(b=w.heap.size+1∧(bE kind).kind=2)by omega)]at hb1
  exact .inl hb1
theorem Hq {g g1:Nat→Own} {w w2 w4 w5:World} {nd:Nat} (hb2:Below w.heap.size w w2) (hg1:∀b,g1 b≠ .none→g b≠ .none∨w2.drew.heap.size≤b) (hK4:Keeps (fun b=>g b≠ .none) w2.drew w4) (Hr:w4.mapTurned w5 nd) (hnd:g1 nd≠ .none):
  (∀b,g1 b≠ .none→g b≠ .none∨w.heap.size≤b)∧Keeps (fun b=>g b≠ .none) w w5:=by
 have hs:=hb2.size
 have hK:=fK Hr
 have h4:w2.heap.size≤w4.heap.size:=hK4.size
 have h5:=hK.size
 refine⟨fun b hb=>(hg1 b hb).imp id fun h=>Nat.le_trans hs h,hK.os.trans (hK4.os.trans hb2.os),hK.tape.trans (hK4.tape.trans hb2.tape),hK.output.trans (hK4.output.trans hb2.output),by omega,fun b hb hbg=> ?_⟩
 have h6:b≠nd:=fun e=>by
  rcases hg1 b (by rw[e];exact hnd)with h|h
  ·exact hbg h
  ·have:w2.heap.size≤b:=h
   omega
 exact(hK.block b (by omega) h6).trans ((hK4.block b (show b<w2.heap.size by omega) hbg).trans (hb2.block b hb))
set_option maxRecDepth 100000 in
set_option maxHeartbeats 8000000 in
theorem Em {S:Nat→Prop} {g:Nat→Own} {D:Nat→Prop} {p mb:Nat} {ib nb:Int→Nat} {T:aF} (a:Option Addr) (n c:Nat) (ls:List Nm) (kind:Int) (w:World) (h:aJ g D w p mb ib nb T) (hT:dG T) (hS:aH S w a n (ls.map strOf)) (hc:n≤c) (jS:n≤1000000):
  Calls Tryz.prog 12 #[ptr p, .slice a n c, .int .i64 kind] w (Turn g D w p mb (cu T ls kind).2 (.tuple #[.int .i64 (cu T ls kind).1.1, .int .i64 (cu T ls kind).1.2])):=by
 have HH:=Lib.hid h
 have HT:=Lib.hid hT
 have HS:=Lib.hid hS
 have HF:=Lib.hid (rY (S:=S) a n c ls w hS)
 clear h hT hS
 by_cases hf:bM ls=0
 ·have vX:=Lib.hid hf
  rw[hf]at HF
  clear hf
  by_cases hk:kind=1∨kind=2
  ·have HK:=Lib.hid hk
   have qK:=Lib.hid (fun w1 (hb:Below w.heap.size w w1)=>qm a n c ls w1 (HH.out.below hb (Nat.le_refl _)) HT.out (HS.out.below hb (Nat.le_refl _)) hc jS)
   by_cases hp:(aB T ls).2.2=0
   ·obtain⟨x,hx,hxk,hnm⟩:=fQ HT.out hp
    have hgn:=gW vX.out _ hnm
    have Yy:=Lib.hid hp
    obtain⟨⟨d,nm,z⟩,hq⟩:∃q,q=aB T ls:=⟨_,rfl⟩
    unfold l8 at qK
    rw[←hq]at hp hx hnm hgn qK
    obtain rfl:z=0:=hp
    have HQ:=Lib.hid hq
    have HX:=Lib.hid hx
    have HG:=Lib.hid hgn
    have x9:=Lib.hid hxk
    clear hq hx hgn hxk hnm
    have l7:=HT.out.ids d x HX.out
    have hlen:=HT.out.len
    have jN:cK.ok nm:=by
     have:=nC nm HG.out
     show nm.length≤maxLen
     unfold maxLen;omega
    have Fh:Hid (∀k,(64≤T.length→k=4)→(T.length<64→k=0)→iX T ls kind=if (aj nm x.names).isSome then 21 else k):=fun k h4 h0=>by
     unfold iX
     have e1:aO T d=x.names:=by unfold aO;rw[HX.out]
     rw[if_neg (by rw[vX.out];simp),if_neg (fun h=>h hk),←HQ.out,if_neg (by simp),e1]
     by_cases h64:64≤T.length
     ·rw[if_pos h64,h4 h64]
     ·rw[if_neg h64,h0 (by omega)]
    have jf:Hid (∀w2,Below w.heap.size w w2→w2.cell? ⟨ib d,7,none⟩=some (.map (some (nb d)))∧MapAt cK w2 (nb d) (bO x)∧w2.cell? ⟨p,0,none⟩=some (.map (some mb))∧MapAt aW w2 mb (T.map fun q=>(q.1,ptr (ib q.1)))):=fun w2 hb=>by
     have h2:=HH.out.below hb (Nat.le_refl _)
     have hi:=h2.item d x HX.out
     obtain⟨_,_,_,_,_,_,c7,_⟩:=hi.cell
     unfold fJ at c7
     rw[if_pos x9.out]at c7
     exact⟨c7,hi.names x9.out,h2.cell.1,h2.map⟩
    cases hj:aj nm x.names with
    |some j=>
     have hgn:aj nm (bO x)=some (.int .i64 j):=by rw[dI,hj];rfl
     have AX:=Lib.hid hgn
     have hm:cu T ls kind=((0,21),T):=by
      have:iX T ls kind=21:=by rw[Fh.out (if 64≤T.length then 4 else 0) (fun h=>if_pos h) (fun h=>if_neg (by omega)),hj];rfl
      unfold cu;rw[this];simp
     have HM:=Lib.hid hm
     clear hm hj hgn
     rcases hk with rfl|rfl
     all_goals
      go_enter Tryz.func12,Tryz.ntmps12
      go_wp2_with fail
      (with_reducible refine HF.out.mono ?_)
      rintro e w1 ⟨rfl,hb1⟩
      have HB1:=Lib.hid hb1
      clear hb1
      go_wp2_with fail
      (with_reducible refine(qK.out w1 HB1.out).mono ?_)
      rintro e w2 ⟨rfl,hb2⟩
      (first|rw[if_pos rfl]|rw[if_pos trivial])
      have HB2:=Lib.hid (HB1.out.trans (hb2.mono HB1.out.size))
      clear hb2
      obtain⟨c7,eD,_,_⟩:=jf.out w2 HB2.out
      have lM:=Lib.hid eD
      clear eD
      go_wp2_with (at_lookup;refine aG cK rfl _ _ 107 3 rfl Tryz.underlying107 (Tryz.dP _) rfl lM.out nm rfl jN ?_;rw[AX.out])
      go_ret2
      rw[HM.out]
      exact Turn.same HH.out HB2.out rfl
    |none=>
     have hgn:aj nm (bO x)=none:=by rw[dI,hj];rfl
     have AX:=Lib.hid hgn
     have HJ:=Lib.hid hj
     clear hgn hj
     by_cases h64:64≤T.length
     ·have hm:cu T ls kind=((0,4),T):=by
       have:iX T ls kind=4:=by rw[Fh.out 4 (fun _=>rfl) (fun h=>by omega),HJ.out];rfl
       unfold cu;rw[this];simp
      have HM:=Lib.hid hm
      have M4:decide ((T.length:Int)<64)=false:=by simp;omega
      have RV:decide ((64:Int)≤(T.length:Int))=true:=by simp;omega
      clear hm
      rcases hk with rfl|rfl
      all_goals
       go_enter Tryz.func12,Tryz.ntmps12
       go_wp2_with fail
       (with_reducible refine HF.out.mono ?_)
       rintro e w1 ⟨rfl,hb1⟩
       have HB1:=Lib.hid hb1
       clear hb1
       go_wp2_with fail
       (with_reducible refine(qK.out w1 HB1.out).mono ?_)
       rintro e w2 ⟨rfl,hb2⟩
       (first|rw[if_pos rfl]|rw[if_pos trivial])
       have HB2:=Lib.hid (HB1.out.trans (hb2.mono HB1.out.size))
       clear hb2
       obtain⟨c7,eD,c0,hmap⟩:=jf.out w2 HB2.out
       have lM:=Lib.hid eD
       have fM:=Lib.hid hmap
       clear eD hmap
       go_wp2_with (first|(at_lookup;refine aG cK rfl _ _ 107 3 rfl Tryz.underlying107 (Tryz.dP _) rfl lM.out nm rfl jN ?_;rw[AX.out])|(at_len;refine gI aW rfl _ 94 92 rfl Tryz.underlying94 rfl fM.out ?_;rw[List.length_map]))
       go_ret2
       rw[HM.out]
       exact Turn.same HH.out HB2.out rfl
     ·have hm:cu T ls kind=((vP T,0),pI T ls kind):=by
       have:iX T ls kind=0:=by rw[Fh.out 0 (fun h=>absurd h h64) (fun h=>rfl),HJ.out];rfl
       unfold cu;rw[if_pos this]
      unfold pI at hm
      rw[←HQ.out]at hm
      obtain⟨f,U4,hf1,hf2,hfn,hfs⟩:=HT.out.free
      rw[U4]at hm
      have HM:=Lib.hid hm
      have GL:=Lib.hid hfn
      have Rn:=Lib.hid hfs
      have M4:decide ((T.length:Int)<64)=true:=by simp;omega
      have RV:decide ((64:Int)≤(T.length:Int))=false:=by simp;omega
      have U5:d≠(f:Int):=fun e=>by have:=HX.out;rw[e,GL.out]at this;cases this
      have U6:=Lib.hid U5
      clear hm hfn hfs U4 U5
      have RX:aW.ok (f:Int):=l6 (by omega) (by omega)
      have HK:=Lib.hid hk
      rcases hk with rfl|rfl
      all_goals
       go_enter Tryz.func12,Tryz.ntmps12
       go_wp2_with fail
       (with_reducible refine HF.out.mono ?_)
       rintro e w1 ⟨rfl,hb1⟩
       have HB1:=Lib.hid hb1
       clear hb1
       go_wp2_with fail
       (with_reducible refine(qK.out w1 HB1.out).mono ?_)
       rintro e w2 ⟨rfl,hb2⟩
       (first|rw[if_pos rfl]|rw[if_pos trivial])
       have HB2:=Lib.hid (HB1.out.trans (hb2.mono HB1.out.size))
       clear hb2
       obtain⟨c7,eD,c0,hmap⟩:=jf.out w2 HB2.out
       have lM:=Lib.hid eD
       have fM:=Lib.hid hmap
       clear eD hmap
       go_wp2_with (first|(at_lookup;refine aG cK rfl _ _ 107 3 rfl Tryz.underlying107 (Tryz.dP _) rfl lM.out nm rfl jN ?_;rw[AX.out])|(at_len;refine gI aW rfl _ 94 92 rfl Tryz.underlying94 rfl fM.out ?_;rw[List.length_map]))
       go_loop [14] (fun s=>∃j:Nat,1≤j∧j≤f∧s= .int .i64 j) (fun s=>f-(intOf s).toNat)
       case atStart=>exact⟨1,by omega,by omega,rfl⟩
       case round=>
        obtain⟨j,hj1,U2,rfl⟩:=hrel
        have oV:aW.ok (j:Int):=l6 (by omega) (by omega)
        by_cases RY:j<f
        ·obtain⟨y,hy⟩:=Option.isSome_iff_exists.1 (Rn.out j hj1 RY)
         have qo:Hid (aj (j:Int) (T.map fun q=>(q.1,ptr (ib q.1)))=some (ptr (ib j))):=by rw[dw,hy];rfl
         clear hy
         go_wp2_with (at_lookup;refine aL aW rfl _ _ 94 92 rfl Tryz.underlying94 (Tryz.aU _) rfl fM.out (j:Int) rfl oV ?_;rw[qo.out])
         go_round
         case rel=>exact⟨j+1,by omega,by omega,by go_num⟩
         case measure=>simp[intOf];omega
        ·obtain rfl:f=j:=by omega
         have qo:Hid (aj (f:Int) (T.map fun q=>(q.1,ptr (ib q.1)))=none):=by rw[dw,GL.out];rfl
         go_wp2_with (at_lookup;refine aL aW rfl _ _ 94 92 rfl Tryz.underlying94 (Tryz.aU _) rfl fM.out (f:Int) rfl oV ?_;rw[qo.out])
         have HA2:=Lib.hid (HH.out.below HB2.out (Nat.le_refl _))
         have hpw:=HA2.out.cell.2.1
         have hmw:=HA2.out.cell.2.2
         have hpm:p≠mb:=fun e=>by have h1:=HH.out.nV;rw[e,HH.out.iU]at h1;cases h1
         have hst:∀v w3,Below w2.drew.heap.size w2.drew w3→∃w4,(Instr.mapUpdate 94 (.map (some mb)) (.int .i64 (f:Int)) v).run Tryz.prog w3= .ok () w4∧MapAt aW w4 mb (bT aW.lt (f:Int) v (T.map fun q=>(q.1,ptr (ib q.1))))∧w3.mapTurned w4 mb:=by
          intro v w3 hb3
          have hm1:MapAt aW w3 mb (T.map fun q=>(q.1,ptr (ib q.1))):=fM.out.kept (hb3.block mb hmw)
          exact hm1.ql aW Tryz.underlying94 (by rw[List.length_map];unfold maxLen;omega) (f:Int) v RX
         have HST:=Lib.hid hst
         have Wx:=Lib.hid hpm
         have hkeep:∀w3,Below w2.drew.heap.size w2.drew w3→w3.cell? ⟨p,0,none⟩=some (.map (some mb)):=fun w3 hb3=>(hb3.cell (p:=⟨p,0,none⟩) hpw).trans c0
         have Ht:∀w3 w4,Below w2.drew.heap.size w2.drew w3→w3.mapTurned w4 mb→w4.cell? ⟨p,0,none⟩=some (.map (some mb)):=fun w3 w4 hb3 hT=>(World.cell?_of_block (w:=w3) (w':=w4) (a:=⟨p,0,none⟩) (dD hT p (Nat.lt_of_lt_of_le hpw hb3.size) Wx.out)).trans ((hb3.cell (p:=⟨p,0,none⟩) hpw).trans c0)
         have jR:=Lib.hid hkeep
         have M5:=Lib.hid Ht
         have Yz:=Lib.hid (fun w=>tX (f:Int) 1 w)
         clear hst hpm hkeep Ht
         go_region_held3 (fun w'=>w'.cell? ⟨p,0,none⟩=some (.map (some mb))) (first|exact c0|exact jR.out _ hb3|exact M5.out _ _ hb3 pK) ((first|(go_at_call 58;refine(tX (f:Int) _ _).mono ?_;rintro e w3 ⟨rfl,hi3,hb3,hs3,hs4⟩)|(obtain⟨w4,yJ,xR,pK⟩:=HST.out (ptr w2.heap.size) w3 hb3;rw[yJ];go_simp)))
         have HI3:=Lib.hid hi3
         have HB3:=Lib.hid hb3
         have Mh:=Lib.hid hs3
         have J8:=Lib.hid hs4
         have vG:=Lib.hid xR
         have rJ:=Lib.hid pK
         clear hi3 hb3 hs3 hs4 xR pK yJ
         obtain⟨g1,Rm,PG,Aw,hg1,hK4,hib⟩:=Ho (HA2.out.below (Below.refl _ _).drew (Nat.le_refl _)) GL.out HI3.out HB3.out Mh.out (by first|exact J8.out|exact fun _=>J8.out trivial) vG.out rJ.out
         have hx4:∀kd,aj d (bT fT (f:Int) (bE kd) T)=some x:=fun kd=>by rw[eY,if_neg U6.out];exact HX.out
         obtain⟨_,_,_,_,_,_,RZ,_⟩:=(Aw.item d x (hx4 _)).cell
         have M6:=(Aw.item d x (hx4 _)).names x9.out
         unfold fJ at RZ
         rw[if_pos x9.out,(hib d U6.out).1]at RZ
         obtain⟨nd,hnd⟩:∃nd,nd=PG d:=⟨_,rfl⟩
         rw[←hnd]at RZ M6
         have Wy:=Lib.hid Aw
         have Wz:=Lib.hid hg1
         have Cy:=Lib.hid hK4
         have U7:=Lib.hid hx4
         have R3:=Lib.hid M6
         have zT:=Lib.hid hnd
         have M7:Hid ((bO x).length<maxLen):=by
          have h1:=HT.out.few HX.out
          have h2:(bO x).length<maxLen:=by unfold bO maxLen;rw[List.length_map];omega
          exact h2
         clear Aw hg1 hK4 hx4 M6 hnd hib
         go_wp2_with (at_mapUpdate;refine gH cK rfl _ _ _ 107 3 rfl Tryz.underlying107 rfl R3.out M7.out nm (.int .i64 (f:Int)) rfl rfl jN ?_;intro w5 M8 Hr)
         go_ret2
         rw[HM.out]
         have Aw:=Wy.out
         have hnd:=zT.out
         have hgn:g1 nd≠ .none:=by rw[hnd,Aw.kI d x (U7.out _) x9.out];simp
         obtain⟨e1,e2⟩:=Hq HB2.out Wz.out Cy.out Hr hgn
         subst hnd
         exact⟨rfl,g1,D,Rm,PG,Aw.set (U7.out _) x9.out M8 Hr,e1,fun b h=> .inl h,e2⟩
   ·have hne:((aB T ls).2.2==0)=false:=by simpa using hp
    have hne2:((aB T ls).2.2 !=0)=true:=by simpa using hp
    have hm:cu T ls kind=((0,(aB T ls).2.2),T):=by
     have:iX T ls kind=(aB T ls).2.2:=by unfold iX;rw[if_neg (by rw[vX.out];simp),if_neg (fun h=>h hk),if_pos hp]
     unfold cu;rw[this,if_neg hp]
    have HM:=Lib.hid hm
    have HP:=Lib.hid hp
    unfold l8 at qK
    generalize aB T ls=q at*
    clear hm hp
    rcases hk with rfl|rfl
    all_goals
     go_enter Tryz.func12,Tryz.ntmps12
     go_wp2_with fail
     (with_reducible refine HF.out.mono ?_)
     rintro e w1 ⟨rfl,hb1⟩
     have HB1:=Lib.hid hb1
     clear hb1
     go_wp2_with fail
     (with_reducible refine(qK.out w1 HB1.out).mono ?_)
     rintro e w2 ⟨rfl,hb2⟩
     rw[if_neg HP.out]
     have HB2:=Lib.hid hb2
     clear hb2
     go_wp2_with fail
     go_ret2
     rw[HM.out]
     exact Turn.same HH.out (HB1.out.trans (HB2.out.mono HB1.out.size)) rfl
  ·have HK:=Lib.hid hk
   have e1:(kind !=1)=true:=by simp;omega
   have e2:(kind !=2)=true:=by simp;omega
   have hm:cu T ls kind=((0,30),T):=by
    have:iX T ls kind=30:=by unfold iX;rw[if_neg (by rw[vX.out];simp),if_pos HK.out]
    unfold cu;rw[this];simp
   have HM:=Lib.hid hm
   clear hm hk
   go_enter Tryz.func12,Tryz.ntmps12
   go_wp2_with fail
   (with_reducible refine HF.out.mono ?_)
   rintro e w1 ⟨rfl,hb1⟩
   go_wp2_with fail
   go_ret2
   rw[HM.out]
   exact Turn.same HH.out hb1 rfl
 ·have hm:cu T ls kind=((0,bM ls),T):=by
   have:iX T ls kind=bM ls:=by unfold iX;rw[if_pos hf]
   unfold cu;rw[this,if_neg hf]
  have hne:(bM ls==0)=false:=by simpa using hf
  have hne2:(bM ls !=0)=true:=by simpa using hf
  have HM:=Lib.hid hm
  clear hm hf
  go_enter Tryz.func12,Tryz.ntmps12
  go_wp2_with fail
  (with_reducible refine HF.out.mono ?_)
  rintro e w1 ⟨rfl,hb1⟩
  go_wp2_with fail
  go_ret2
  rw[HM.out]
  exact Turn.same HH.out hb1 rfl
section
variable {g:Nat→Own} {D:Nat→Prop} {p mb:Nat} {ib nb:Int→Nat} {T:aF}
theorem iG.frozen {w:World} {k:Int} {i n:Nat} {x:bF} (h:iG D w k i n x) (j:Nat):w.frozen? ⟨i,j,none⟩=false:=by
 obtain⟨⟨a,c,h1,_⟩,_⟩:=h
 simp[World.frozen?,h1]
theorem iG.row {w:World} {k:Int} {i n:Nat} {x:bF} (h:iG D w k i n x):∃a c,w.cell? ⟨i,6,none⟩=some (.slice a x.b.length c)∧kH x.b.length c∧av D w a x.b.length (x.b.map bv)∧w.heap[i]? =some (.cells (iF k x a c n) 109 (0,0)):=by
 obtain⟨⟨a,c,h1,h2,h3⟩,_⟩:=h
 exact⟨a,c,by simp only[World.cell?,h1];rfl,h2,h3,h1⟩
theorem aJ.fields {w w':World} (h:aJ g D w p mb ib nb T) {k:Int} {x:bF} (hx:aj k T=some x) (f:bF→bF) (hb:(f x).b=x.b) (hn:(f x).names=x.names) (hk:(f x).kind=x.kind) (hK:Keeps (fun b=>b=ib k) w w') (hs:w'.heap.size=w.heap.size)
  (hc:∀a c,w.heap[ib k]? =some (.cells (iF k x a c (nb k)) 109 (0,0))→w'.heap[ib k]? =some (.cells (iF k (f x) a c (nb k)) 109 (0,0))):aJ g D w' p mb ib nb (Go.Proofs.YtohpcppeajijnaaGreat.aX k f T):=by
 have ti:=h.l5 k x hx
 refine h.aX hx hk (fun _ h=>h) (fun b hb=>⟨h.data b hb,by rw[hs];exact h.nW b hb⟩) (by omega) (fun b hbw h1 _=>hK.block b hbw (fun e=>h1 (by rw[e];exact ti))) ?_
 obtain⟨⟨a,c,h1,h2,h3⟩,h4⟩:=h.item k x hx
 refine⟨⟨a,c,hc a c h1,by rw[hb];exact h2,by rw[hb];exact h3.kept (by omega) fun b hD hbw=>hK.block b hbw (fun e=>by have:=h.data b hD;rw[e,ti]at this;cases this)⟩,fun hk2=> ?_⟩
 have PI:x.kind=2:=hk▸hk2
 have e:bO (f x)=bO x:=by unfold bO;rw[hn]
 rw[e]
 have tn:=h.kI k x hx PI
 exact(h4 PI).kept (hK.block _ (h.low _ (by rw[tn];simp)) (fun e=>by rw[e,ti]at tn;cases tn))
theorem Keeps.set2 (w:World) (i j j':Nat) (v v':Value):Keeps (fun b=>b=i) w ((w.setCell ⟨i,j,none⟩ v).setCell ⟨i,j',none⟩ v'):=
 (Keeps.iC w ⟨i,j,none⟩ v).trans (Keeps.iC _ ⟨i,j',none⟩ v') (fun _ _ h=>h)
set_option maxHeartbeats 1000000 in
theorem pO (id:Int) (k:Int) (hk:bL T id=k) (hk0:k≠0) (w:World) (h:aJ g D w p mb ib nb T) (hid:(Lit.int .i64 id).wf=true):
  Calls Tryz.prog 76 #[ptr p, .int .i64 id] w fun e w'=>e= .returned (.tuple #[.pointer none, .int .i64 k])∧w=w':=by
 obtain⟨hc0,hpw,hmw⟩:=h.cell
 have hmap:=Lib.hid h.map
 have hok:aW.ok id:=hid
 unfold bL at hk
 cases hx:aj id T with
 |none=>
  rw[hx]at hk
  simp only at hk
  subst hk
  have HG:Hid (aj id (T.map fun q=>(q.1,ptr (ib q.1)))=none):=by rw[dw,hx];rfl
  clear h hx hid hk0
  go_enter Tryz.func76,Tryz.ntmps76
  go_wp2_with (at_lookup;refine aG aW rfl _ _ 94 92 rfl Tryz.underlying94 (Tryz.aU _) rfl hmap.out id rfl hok ?_;rw[HG.out])
  go_ret2
  exact⟨rfl,rfl⟩
 |some x=>
  rw[hx]at hk
  simp only at hk
  by_cases hk2:x.kind=2
  ·rw[if_pos hk2]at hk
   subst hk
   have HG:Hid (aj id (T.map fun q=>(q.1,ptr (ib q.1)))=some (ptr (ib id))):=by rw[dw,hx];rfl
   obtain⟨c0,c1,c2,c3,c4,c5,c7,hiw⟩:=(h.item id x hx).cell
   rw[hk2]at c1
   clear h hx hid hk0 c7 hk2
   go_enter Tryz.func76,Tryz.ntmps76
   go_wp2_with (at_lookup;refine aG aW rfl _ _ 94 92 rfl Tryz.underlying94 (Tryz.aU _) rfl hmap.out id rfl hok ?_;rw[HG.out])
   go_ret2
   exact⟨rfl,rfl⟩
  ·rw[if_neg hk2]at hk
   exact absurd hk.symm hk0
set_option maxHeartbeats 1000000 in
theorem qp (id:Int) {x:bF} (hx:aj id T=some x) (hk2:x.kind≠2) (w:World) (h:aJ g D w p mb ib nb T) (hid:(Lit.int .i64 id).wf=true):
  Calls Tryz.prog 76 #[ptr p, .int .i64 id] w fun e w'=>e= .returned (.tuple #[ptr (ib id), .int .i64 0])∧w=w':=by
 obtain⟨hc0,hpw,hmw⟩:=h.cell
 have hmap:=Lib.hid h.map
 have hok:aW.ok id:=hid
 have HG:Hid (aj id (T.map fun q=>(q.1,ptr (ib q.1)))=some (ptr (ib id))):=by rw[dw,hx];rfl
 obtain⟨c0,c1,c2,c3,c4,c5,c7,hiw⟩:=(h.item id x hx).cell
 have e1:(x.kind==2)=false:=by simpa using hk2
 clear h hx hid c7 hk2
 go_enter Tryz.func76,Tryz.ntmps76
 go_wp2_with (at_lookup;refine aG aW rfl _ _ 94 92 rfl Tryz.underlying94 (Tryz.aU _) rfl hmap.out id rfl hok ?_;rw[HG.out])
 go_ret2
 exact⟨rfl,rfl⟩
def jg (k:Int) (x:bF):Value:= .agg #[.int .i64 k, .int .i64 x.kind, .int .i64 x.links, .int .i64 x.b.length, .int .u64 x.aK, .bool x.closed]
def iI (T:aF) (id:Int):Value:=match aj id T with
 |some x=>jg id x
 |none=> .agg #[.int .i64 0, .int .i64 0, .int .i64 0, .int .i64 0, .int .u64 0, .bool false]
set_option maxHeartbeats 1000000 in
theorem A8 (id:Int) (w:World) (h:aJ g D w p mb ib nb T) (hid:(Lit.int .i64 id).wf=true):
  Calls Tryz.prog 95 #[ptr p, .int .i64 id] w fun e w'=>e= .returned (.tuple #[iI T id, .bool (aj id T).isSome])∧Below w.heap.size w w':=by
 obtain⟨hc0,hpw,hmw⟩:=h.cell
 have hok:aW.ok id:=hid
 have Hu:∀o,MapAt aW (w.alloc o) mb (T.map fun q=>(q.1,ptr (ib q.1))):=fun o=>h.map.kept ((wall w o).block mb hmw)
 have hmap:=Lib.hid Hu
 unfold iI
 cases hx:aj id T with
 |none=>
  have HG:Hid (aj id (T.map fun q=>(q.1,ptr (ib q.1)))=none):=by rw[dw,hx];rfl
  clear h hx hid Hu
  go_enter Tryz.func95,Tryz.ntmps95
  go_wp2_with (at_lookup;refine aG aW rfl _ _ 94 92 rfl Tryz.underlying94 (Tryz.aU _) rfl (hmap.out _) id rfl hok ?_;rw[HG.out])
  exact bodyPost_ret (v:= .tuple #[.agg #[.int .i64 0, .int .i64 0, .int .i64 0, .int .i64 0, .int .u64 0, .bool false], .bool false]) (by simp[results,Tryz.results95,go_sem]) rfl ⟨rfl,wall w _⟩
 |some x=>
  have HG:Hid (aj id (T.map fun q=>(q.1,ptr (ib q.1)))=some (ptr (ib id))):=by rw[dw,hx];rfl
  obtain⟨c0,c1,c2,c3,c4,c5,c7,hiw⟩:=(h.item id x hx).cell
  clear h hx hid c7 Hu
  unfold jg
  go_enter Tryz.func95,Tryz.ntmps95
  go_wp2_with (at_lookup;refine aG aW rfl _ _ 94 92 rfl Tryz.underlying94 (Tryz.aU _) rfl (hmap.out _) id rfl hok ?_;rw[HG.out])
  exact bodyPost_ret (v:= .tuple #[.agg #[.int .i64 id, .int .i64 x.kind, .int .i64 x.links, .int .i64 x.b.length, .int .u64 x.aK, .bool x.closed], .bool true]) (by simp[results,Tryz.results95,go_sem]) rfl ⟨rfl,wall w _⟩
theorem yK (w:World) (h:aJ g D w p mb ib nb T):Calls Tryz.prog 48 #[ptr p] w fun e w'=>e= .returned (.int .i64 T.length)∧w=w':=by
 obtain⟨hc0,hpw,hmw⟩:=h.cell
 have hmap:=Lib.hid h.map
 clear h
 go_enter Tryz.func48,Tryz.ntmps48
 go_wp2_with (at_len;refine gI aW rfl _ 94 92 rfl Tryz.underlying94 rfl hmap.out ?_;rw[List.length_map])
 go_ret
 exact⟨rfl,rfl⟩
end
section
variable {g:Nat→Own} {D:Nat→Prop} {p mb:Nat} {ib nb:Int→Nat} {T:aF}
theorem MapAt.A9 {P:Program} {K:TypeId} {κ:Type} [DecidableEq κ] {F:tJ P K κ} {w:World} {t e:TypeId} (ht:P.underlying t=some (.map K e)) {b:Nat} {l:List (κ×Value)} (hM:MapAt F w b l) (k:κ) (hok:F.ok k):
  ∃w',(∀ty,(Builtin.delete_ #[t,K] ty #[.map (some b),F.val k]).run P w= .ok (.tuple #[]) w')∧MapAt F w' b (bg k l)∧w.mapTurned w' b:=by
 obtain⟨w',hrun,r1,r2⟩:=World.ownsMap.drop hM F.law ht (F.of k hok) 0
 rw[Ee]at r1
 exact⟨w',fun ty=>hrun,MapAt.rQ r1,r2⟩
def J9 (g:Nat→Own) (D:Nat→Prop) (w:World) (p mb:Nat) (ib nb:Int→Nat) (T':aF) (e:Ending) (w':World):Prop:=
 e= .returned (.tuple #[])∧aJ g D w' p mb ib nb T'∧Keeps (fun b=>b=mb) w w'∧w'.heap.size=w.heap.size
set_option maxRecDepth 100000 in
set_option maxHeartbeats 2000000 in
theorem vY (id:Int) {x:bF} (hx:aj id T=some x) (hid:(Lit.int .i64 id).wf=true) (w:World) (h:aJ g D w p mb ib nb T):
  Calls Tryz.prog 75 #[ptr p,ptr (ib id)] w (J9 g D w p mb ib nb (eP T id)):=by
 obtain⟨hc0,hpw,hmw⟩:=h.cell
 obtain⟨c0,c1,c2,c3,c4,c5,c7,hiw⟩:=(h.item id x hx).cell
 have HH:=Lib.hid h
 have hs:eP T id=if x.links=0∧x.closed=true then bg id T else T:=by unfold eP;rw[hx]
 have HS:=Lib.hid hs
 have HX:=Lib.hid hx
 clear hs hx h c7
 by_cases h0:x.links=0
 ·have e0:(x.links==0)=true:=by simpa using h0
  rw[h0]at c2
  cases hcl:x.closed with
  |true=>
   rw[hcl]at c5
   have HF:Hid (eP T id=bg id T):=HS.out.trans (if_pos ⟨h0,hcl⟩)
   have hst:∃w4,(∀ty,(Builtin.delete_ #[94,3] ty #[.map (some mb), .int .i64 id]).run Tryz.prog w.drew= .ok (.tuple #[]) w4)∧MapAt aW w4 mb (bg id (T.map fun q=>(q.1,ptr (ib q.1))))∧w.drew.mapTurned w4 mb:=
    MapAt.A9 (F:=aW) Tryz.underlying94 (HH.out.map.kept (w':=w.drew) rfl) id hid
   have HST:=Lib.hid hst
   have hne1:p≠mb:=fun e=>by have h1:=HH.out.nV;rw[e,HH.out.iU]at h1;cases h1
   have hne2:ib id≠mb:=fun e=>by have h1:=HH.out.l5 id x HX.out;rw[e,HH.out.iU]at h1;cases h1
   have jR:Hid (∀w4,w.drew.mapTurned w4 mb→w4.cell? ⟨p,0,none⟩=some (.map (some mb))∧w4.cell? ⟨ib id,0,none⟩=some (.int .i64 id)):=fun w4 hT=>⟨(World.cell?_of_block (w:=w.drew) (w':=w4) (a:=⟨p,0,none⟩) (dD hT p hpw hne1)).trans hc0,(World.cell?_of_block (w:=w.drew) (w':=w4) (a:=⟨ib id,0,none⟩) (dD hT _ hiw hne2)).trans c0⟩
   clear hst HS h0 hcl e0 hne1 hne2
   go_enter Tryz.func75,Tryz.ntmps75
   go_wp2
   go_region_held3 (fun w'=>w'.cell? ⟨p,0,none⟩=some (.map (some mb))∧w'.cell? ⟨ib id,0,none⟩=some (.int .i64 id)) (first|exact⟨hc0,c0⟩|exact jR.out _ pK) ((first|(obtain⟨w4,yJ,xR,pK⟩:=HST.out;rw[yJ];go_simp)))
   have hsz:=iq pK
   have hK:=fK pK
   go_end0
   refine⟨rfl,?_,⟨hK.os,hK.tape,hK.output,hK.size,hK.block⟩,hsz⟩
   rw[HF.out]
   exact(HH.out.below (Below.refl _ _).drew (Nat.le_refl _)).del xR hK.size (fun b hb M0=>hK.block b hb M0)
  |false=>
   rw[hcl]at c5
   have HF:Hid (eP T id=T):=HS.out.trans (if_neg (fun h=>by rw[hcl]at h;cases h.2))
   clear HS h0 hcl e0
   go_enter Tryz.func75,Tryz.ntmps75
   go_wp2
   go_end0
   exact⟨rfl,by rw[HF.out];exact HH.out,Keeps.refl _ _,rfl⟩
 ·have e0:(x.links==0)=false:=by simpa using h0
  have HF:Hid (eP T id=T):=HS.out.trans (if_neg (fun h=>h0 h.1))
  clear HS h0
  go_enter Tryz.func75,Tryz.ntmps75
  go_wp2
  go_end0
  exact⟨rfl,by rw[HF.out];exact HH.out,Keeps.refl _ _,rfl⟩
end
end Go.Proofs.YtohpcppeajijnaaGreat
