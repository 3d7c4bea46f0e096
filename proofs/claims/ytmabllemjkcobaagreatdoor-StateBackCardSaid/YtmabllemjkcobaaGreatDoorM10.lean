/- tree: Make. tree: file, Node, Count, Look, settle, Seal, Keep. tree: settle, Seal, Keep. -/
import Derived.Test.YtmabllemjkcobaaGreatDoorM07
import Derived.Test.YtmabllemjkcobaaGreatDoorM09
import Derived.Deep.RegionHeld3
namespace Go.Proofs.YtmabllemjkcobaaGreatDoor
open Go.ChangeShapes Go.WideShapes Go.ChangeAt Go.RowKit
set_option linter.unusedVariables false
set_option linter.unusedSimpArgs false
def Turn (g:Nat→Own) (D:Nat→Prop) (w:World) (p mb:Nat) (T':aK) (v:Value) (e:Ending) (w':World):Prop:=
 e= .returned v∧∃g' D' G5 nb',aC g' D' w' p mb G5 nb' T'∧(∀b,g' b≠ .none→g b≠ .none∨w.heap.size≤b)∧(∀b,D' b→D b∨w.heap.size≤b)∧Keeps (fun b=>g b≠ .none) w w'
theorem Turn.same {g:Nat→Own} {D:Nat→Prop} {w w':World} {p mb:Nat} {ib nb:Int→Nat} {T:aK} {v:Value} {e:Ending} (h:aC g D w p mb ib nb T) (hb:Below w.heap.size w w') (he:e= .returned v):Turn g D w p mb T v e w':=
 ⟨he,g,D,ib,nb,h.below hb (Nat.le_refl _),fun b h=> .inl h,fun b h=> .inl h,(Keeps.below hb).mono fun x hx hx'=>absurd hx (by omega)⟩
theorem iY {T:aK} {p:List Nm} (hT:dI T) (h:(aF T p).2.2=0):∃x,ah (aF T p).1 T=some x∧x.kind=2∧(aF T p).2.1∈p:=by
 unfold aF at h⊢
 by_cases h0:p=[]
 ·rw[if_pos h0]at h;cases h
 ·rw[if_neg h0]at h⊢
  by_cases h1:(aD T 0 p.dropLast).2≠0
  ·rw[if_pos h1]at h;exact absurd h h1
  ·rw[if_neg h1]at h⊢
   by_cases h2:bB T (aD T 0 p.dropLast).1=2
   ·rw[if_pos h2]
    obtain⟨x,hx,hk⟩:=gG h2
    refine⟨x,hx,hk,?_⟩
    cases p with
    |nil=>exact absurd rfl h0
    |cons z r=>simp[List.getLastD_eq_getLast?,List.getLast?_eq_some_getLast]
   ·rw[if_neg h2]at h;cases h
theorem ig {p:List Nm} (h:bG p=0):∀n∈p,dM n=true:=by
 unfold bG at h
 split at h
 ·cases h
 ·rename_i h1
  intro n hn
  have h2:(p.any fun x=> !dM x)=false:=by simpa only[Bool.not_eq_true]using h1
  have:=List.any_eq_false.1 h2 n hn
  simpa using this
theorem oF {p:List Nm} (h:bG p=0):p.length≤8:=by
 unfold bG at h
 split at h
 ·cases h
 ·split at h
  ·cases h
  ·omega
theorem qH (l:List UInt8) (h:dM l=true):l.length≤16:=by
 simp only[dM,Bool.and_eq_true,decide_eq_true_eq]at h
 exact h.1.1.2
theorem CK (p:List Nm):gV [p]=bG p:=by
 unfold gV gV
 by_cases h:bG p≠0
 ·rw[if_pos h]
 ·rw[if_neg h];omega
theorem Lm (p q:List Nm):gV [p,q]=jX p q:=by
 unfold gV jX
 by_cases h:bG p≠0
 ·rw[if_pos h,if_pos h]
 ·rw[if_neg h,if_neg h,CK]
theorem jU {w:World} {v:Value} {t:TypeId}:(w.alloc (.cells #[v] t)).cell? ⟨w.heap.size,0,none⟩=some v:=by
 simp only[World.cell?,(MapKept.heap_alloc w _).1];rfl
theorem mh {w:World} {u v:Value} {t:TypeId}:(w.alloc (.cells #[u,v] t)).cell? ⟨w.heap.size,0,none⟩=some u∧(w.alloc (.cells #[u,v] t)).cell? ⟨w.heap.size,1,none⟩=some v:=by
 simp only[World.cell?,(MapKept.heap_alloc w _).1];exact⟨rfl,rfl⟩
theorem wall (w:World) (o:Obj):Below w.heap.size w (w.alloc o):=(Below.refl _ _).alloc (Nat.le_refl _) _
theorem sU {S:Nat→Prop} (a:Option Addr) (n c:Nat) (ls:List Nm) (w:World) (hS:aO S w a n (ls.map strOf)):
  Calls Tryz.prog 59 #[.slice (some ⟨w.heap.size,0,none⟩) 1 1] (w.alloc (.cells #[.slice a n c] 32)) fun e w'=>e= .returned (.int .i64 (bG ls))∧Below w.heap.size w w':=by
 refine(zR (S:=S) w.heap.size 1 [ls] _ rfl (by omega) (by simp) (fun k hk=> ?_)).mono ?_
 ·obtain rfl:k=0:=by omega
  exact⟨a,n,c,ls,jU,hS.below (wall w _) (Nat.le_refl _),rfl⟩
 ·rintro e w' ⟨rfl,hb⟩
  rw[CK]
  exact⟨rfl,(wall w _).trans (hb.mono (by simp))⟩
theorem CO {S S':Nat→Prop} (a:Option Addr) (n c:Nat) (ls:List Nm) (a':Option Addr) (n' c':Nat) (ls':List Nm) (w:World) (hS:aO S w a n (ls.map strOf)) (hS':aO S' w a' n' (ls'.map strOf)):
  Calls Tryz.prog 59 #[.slice (some ⟨w.heap.size,0,none⟩) 2 2] (w.alloc (.cells #[.slice a n c, .slice a' n' c'] 32)) fun e w'=>e= .returned (.int .i64 (jX ls ls'))∧Below w.heap.size w w':=by
 refine(zR (S:=fun x=>S x∨S' x) w.heap.size 2 [ls,ls'] _ rfl (by omega) (by simp) (fun k hk=> ?_)).mono ?_
 ·rcases (show k=0∨k=1 by omega)with rfl|rfl
  ·exact⟨a,n,c,ls,mh.1,(hS.below (wall w _) (Nat.le_refl _)).mono fun _=> .inl,rfl⟩
  ·exact⟨a',n',c',ls',mh.2,(hS'.below (wall w _) (Nat.le_refl _)).mono fun _=> .inr,rfl⟩
 ·rintro e w' ⟨rfl,hb⟩
  rw[Lm]
  exact⟨rfl,(wall w _).trans (hb.mono (by simp))⟩
theorem zn {w w':World} {b:Nat} (h:w.mapTurned w' b):Keeps (fun x=>x=b) w w':=Keeps.turned h
theorem bQ {w w':World} {b:Nat} (h:w.mapTurned w' b) (x:Nat) (hx:x<w.heap.size) (hn:x≠b):w'.heap[x]? =w.heap[x]? :=(zn h).block x hx hn
theorem eu {w w':World} {b:Nat} (h:w.mapTurned w' b):Keeps (fun x=>x=b) w w':=Keeps.turned h
theorem aC.names {g:Nat→Own} {D:Nat→Prop} {w w':World} {p mb:Nat} {ib nb:Int→Nat} {T:aK} (h:aC g D w p mb ib nb T) {d:Int} {x:eB} {l:List (Nm×Int)} (hx:ah d T=some x) (hk:x.kind=2) (hM:MapAt bV w' (nb d) (bC {x with names:=l})) (hT:w.mapTurned w' (nb d)) (f:eB→eB) (hf:f x={x with names:=l}):
  aC g D w' p mb ib nb (Go.Proofs.YtmabllemjkcobaaGreatDoor.bX d f T):=by
 have hs:=gQ hT
 have hn:=h.kD d x hx hk
 refine h.bX hx (by rw[hf]) (fun _ h=>h) (fun b hb=>⟨h.data b hb,by rw[hs];exact h.l5 b hb⟩) (by omega) (fun b hb h1 h2=>bQ hT b hb (fun e=>h2 (by rw[e];exact hn))) ?_
 have hb:∀b,b<w.heap.size→g b≠ .names d→w'.heap[b]? =w.heap[b]? :=fun b hb h2=>bQ hT b hb (fun e=>h2 (by rw[e];exact hn))
 have hi:=h.item d x hx
 have ti:=h.lZ d x hx
 obtain⟨a,c,h1,h2,h3⟩:=hi.cells
 rw[hf]
 refine⟨⟨a,c,(hb _ (h.low _ (by rw[ti];simp)) (by rw[ti];simp)).trans h1,h2,h3.kept (by omega) fun b hD hbw=>hb b hbw (by rw[h.data b hD];simp)⟩,fun _=>hM⟩
theorem aC.set {g:Nat→Own} {D:Nat→Prop} {w w':World} {p mb:Nat} {ib nb:Int→Nat} {T:aK} (h:aC g D w p mb ib nb T) {d id:Int} {x:eB} {n:Nm} (hx:ah d T=some x) (hk:x.kind=2) (hM:MapAt bV w' (nb d) (cO bV.lt n (.int .i64 id) (bC x))) (hT:w.mapTurned w' (nb d)):
  aC g D w' p mb ib nb (setName T d n id):=by
 refine h.names (l:=cO bytesBefore n id x.names) hx hk ?_ hT _ rfl
 have e:bC {x with names:=cO bytesBefore n id x.names}=cO bV.lt n (.int .i64 id) (bC x):=rz bytesBefore (fun(_:Nm) (i:Int)=>Value.int .i64 i) n id x.names
 rw[e]
 exact hM
theorem aC.cut {g:Nat→Own} {D:Nat→Prop} {w w':World} {p mb:Nat} {ib nb:Int→Nat} {T:aK} (h:aC g D w p mb ib nb T) {d:Int} {x:eB} {n:Nm} (hx:ah d T=some x) (hk:x.kind=2) (hM:MapAt bV w' (nb d) (bI n (bC x))) (hT:w.mapTurned w' (nb d)):
  aC g D w' p mb ib nb (aL T d n):=by
 refine h.names (l:=bI n x.names) hx hk ?_ hT _ rfl
 have e:bC {x with names:=bI n x.names}=bI n (bC x):=uH (fun(_:Nm) (i:Int)=>Value.int .i64 i) n x.names
 rw[e]
 exact hM
theorem Lp {g:Nat→Own} {D:Nat→Prop} {w w3 w4:World} {p mb:Nat} {ib nb:Int→Nat} {T:aK} {f kind:Int} (h:aC g D w p mb ib nb T) (hf:ah f T=none) (hi:iA (fun _=>False) w3 f w.heap.size (w.heap.size+1) (dO kind)) (hb:Below w.heap.size w w3) (hs:w.heap.size<w3.heap.size) (hs2:kind=2→w.heap.size+1<w3.heap.size)
  (hM:MapAt aP w4 mb (cO aP.lt f (ptr w.heap.size) (T.map fun q=>(q.1,ptr (ib q.1))))) (hT:w3.mapTurned w4 mb):
  ∃g1 RG RH,aC g1 D w4 p mb RG RH (cO jw f (dO kind) T)∧(∀b,g1 b≠ .none→g b≠ .none∨w.heap.size≤b)∧Keeps (fun b=>g b≠ .none) w w4∧∀j,j≠f→RG j=ib j∧RH j=nb j:=by
 have hsz:=gQ hT
 have hK:=eu hT
 have hmw:=h.map.lt
 refine⟨_,_,_,h.add (i:=w.heap.size) (n:=w.heap.size+1) (x:=dO kind) (k:=f) (Nat.le_refl _) (by omega) (by omega) (by omega) (fun hk=>by have:=hs2 hk;omega) hf rfl hM (by omega) (fun b hbw S_=>(hK.block b (by omega) S_).trans (hb.block b hbw)) (hi.move (by omega) (hK.block _ hs (by omega)) (fun hk=>hK.block _ (hs2 hk) (by omega)) (fun _ h=>h.elim)),fun b hb1=> ?_,⟨hK.os.trans hb.os,hK.tape.trans hb.tape,hK.output.trans hb.output,by omega,fun b hbw hbg=>(hK.block b (by omega) (fun e=>hbg (by rw[e,h.iG];simp))).trans (hb.block b hbw)⟩,fun j hj=>⟨by simp[hj],by simp[hj]⟩⟩
 by_cases hbi:w.heap.size≤b
 ·exact .inr hbi
 ·simp only[if_neg (show ¬b=w.heap.size by omega),if_neg (show ¬(b=w.heap.size+1∧(dO kind).kind=2)by omega)]at hb1
  exact .inl hb1
theorem Lr {g g1:Nat→Own} {w w2 w4 w5:World} {nd:Nat} (hb2:Below w.heap.size w w2) (hg1:∀b,g1 b≠ .none→g b≠ .none∨w2.drew.heap.size≤b) (hK4:Keeps (fun b=>g b≠ .none) w2.drew w4) (CP:w4.mapTurned w5 nd) (hnd:g1 nd≠ .none):
  (∀b,g1 b≠ .none→g b≠ .none∨w.heap.size≤b)∧Keeps (fun b=>g b≠ .none) w w5:=by
 have hs:=hb2.size
 have hK:=eu CP
 have h4:w2.heap.size≤w4.heap.size:=hK4.size
 have h5:=hK.size
 refine⟨fun b hb=>(hg1 b hb).imp id fun h=>Nat.le_trans hs h,hK.os.trans (hK4.os.trans hb2.os),hK.tape.trans (hK4.tape.trans hb2.tape),hK.output.trans (hK4.output.trans hb2.output),by omega,fun b hb hbg=> ?_⟩
 have h6:b≠nd:=fun e=>by
  rcases hg1 b (by rw[e];exact hnd)with h|h
  ·exact hbg h
  ·have:w2.heap.size≤b:=h
   omega
 exact(hK.block b (by omega) h6).trans ((hK4.block b (show b<w2.heap.size by omega) hbg).trans (hb2.block b hb))
set_option maxRecDepth 100000 in
set_option maxHeartbeats 8000000 in
theorem Pw {S:Nat→Prop} {g:Nat→Own} {D:Nat→Prop} {p mb:Nat} {ib nb:Int→Nat} {T:aK} (a:Option Addr) (n c:Nat) (ls:List Nm) (kind:Int) (w:World) (h:aC g D w p mb ib nb T) (hT:dI T) (hS:aO S w a n (ls.map strOf)) (hc:n≤c) (nD:n≤1000000):
  Calls Tryz.prog 15 #[ptr p, .slice a n c, .int .i64 kind] w (Turn g D w p mb (cZ T ls kind).2 (.tuple #[.int .i64 (cZ T ls kind).1.1, .int .i64 (cZ T ls kind).1.2])):=by
 have HH:=Lib.hid h
 have HT:=Lib.hid hT
 have HS:=Lib.hid hS
 have HF:=Lib.hid (sU (S:=S) a n c ls w hS)
 clear h hT hS
 by_cases hf:bG ls=0
 ·have rT:=Lib.hid hf
  rw[hf]at HF
  clear hf
  by_cases hk:kind=1∨kind=2
  ·have HK:=Lib.hid hk
   have sK:=Lib.hid (fun w1 (hb:Below w.heap.size w w1)=>rA a n c ls w1 (HH.out.below hb (Nat.le_refl _)) HT.out (HS.out.below hb (Nat.le_refl _)) hc nD)
   by_cases hp:(aF T ls).2.2=0
   ·obtain⟨x,hx,hxk,hnm⟩:=iY HT.out hp
    have hgn:=ig rT.out _ hnm
    have HPE:=Lib.hid hp
    obtain⟨⟨d,nm,z⟩,hq⟩:∃q,q=aF T ls:=⟨_,rfl⟩
    unfold mP at sK
    rw[←hq]at hp hx hnm hgn sK
    obtain rfl:z=0:=hp
    have HQ:=Lib.hid hq
    have HX:=Lib.hid hx
    have HG:=Lib.hid hgn
    have vN:=Lib.hid hxk
    clear hq hx hgn hxk hnm
    have lS:=HT.out.ids d x HX.out
    have hlen:=HT.out.len
    have kE:bV.ok nm:=by
     have:=qH nm HG.out
     show nm.length≤maxLen
     unfold maxLen;omega
    have I8:Hid (∀k,(64≤T.length→k=4)→(T.length<64→k=0)→lQ T ls kind=if (ah nm x.names).isSome then 21 else k):=fun k h4 h0=>by
     unfold lQ
     have e1:aM T d=x.names:=by unfold aM;rw[HX.out]
     rw[if_neg (by rw[rT.out];simp),if_neg (fun h=>h hk),←HQ.out,if_neg (by simp),e1]
     by_cases h64:64≤T.length
     ·rw[if_pos h64,h4 h64]
     ·rw[if_neg h64,h0 (by omega)]
    have qI:Hid (∀w2,Below w.heap.size w w2→w2.cell? ⟨ib d,7,none⟩=some (.map (some (nb d)))∧MapAt bV w2 (nb d) (bC x)∧w2.cell? ⟨p,0,none⟩=some (.map (some mb))∧MapAt aP w2 mb (T.map fun q=>(q.1,ptr (ib q.1)))):=fun w2 hb=>by
     have h2:=HH.out.below hb (Nat.le_refl _)
     have hi:=h2.item d x HX.out
     obtain⟨_,_,_,_,_,_,c7,_⟩:=hi.cell
     unfold dH at c7
     rw[if_pos vN.out]at c7
     exact⟨c7,hi.names vN.out,h2.cell.1,h2.map⟩
    cases hj:ah nm x.names with
    |some j=>
     have hgn:ah nm (bC x)=some (.int .i64 j):=by rw[dK,hj];rfl
     have CJ:=Lib.hid hgn
     have hm:cZ T ls kind=((0,21),T):=by
      have:lQ T ls kind=21:=by rw[I8.out (if 64≤T.length then 4 else 0) (fun h=>if_pos h) (fun h=>if_neg (by omega)),hj];rfl
      unfold cZ;rw[this];simp
     have HM:=Lib.hid hm
     clear hm hj hgn
     rcases hk with rfl|rfl
     all_goals
      go_enter Tryz.func15,Tryz.ntmps15
      go_wp2_with fail
      (with_reducible refine HF.out.mono ?_)
      rintro e w1 ⟨rfl,hb1⟩
      have HB1:=Lib.hid hb1
      clear hb1
      go_wp2_with fail
      (with_reducible refine(sK.out w1 HB1.out).mono ?_)
      rintro e w2 ⟨rfl,hb2⟩
      (first|rw[if_pos rfl]|rw[if_pos trivial])
      have HB2:=Lib.hid (HB1.out.trans (hb2.mono HB1.out.size))
      clear hb2
      obtain⟨c7,eY,_,_⟩:=qI.out w2 HB2.out
      have mF:=Lib.hid eY
      clear eY
      go_wp2_with (at_lookup;refine aB bV rfl _ _ 92 3 rfl Tryz.underlying92 (Tryz.dU _) rfl mF.out nm rfl kE ?_;rw[CJ.out])
      go_ret2
      rw[HM.out]
      exact Turn.same HH.out HB2.out rfl
    |none=>
     have hgn:ah nm (bC x)=none:=by rw[dK,hj];rfl
     have CJ:=Lib.hid hgn
     have HJ:=Lib.hid hj
     clear hgn hj
     by_cases h64:64≤T.length
     ·have hm:cZ T ls kind=((0,4),T):=by
       have:lQ T ls kind=4:=by rw[I8.out 4 (fun _=>rfl) (fun h=>by omega),HJ.out];rfl
       unfold cZ;rw[this];simp
      have HM:=Lib.hid hm
      have Y3:decide ((T.length:Int)<64)=false:=by simp;omega
      have Y4:decide ((64:Int)≤(T.length:Int))=true:=by simp;omega
      clear hm
      rcases hk with rfl|rfl
      all_goals
       go_enter Tryz.func15,Tryz.ntmps15
       go_wp2_with fail
       (with_reducible refine HF.out.mono ?_)
       rintro e w1 ⟨rfl,hb1⟩
       have HB1:=Lib.hid hb1
       clear hb1
       go_wp2_with fail
       (with_reducible refine(sK.out w1 HB1.out).mono ?_)
       rintro e w2 ⟨rfl,hb2⟩
       (first|rw[if_pos rfl]|rw[if_pos trivial])
       have HB2:=Lib.hid (HB1.out.trans (hb2.mono HB1.out.size))
       clear hb2
       obtain⟨c7,eY,c0,hmap⟩:=qI.out w2 HB2.out
       have mF:=Lib.hid eY
       have fU:=Lib.hid hmap
       clear eY hmap
       go_wp2_with (first|(at_lookup;refine aB bV rfl _ _ 92 3 rfl Tryz.underlying92 (Tryz.dU _) rfl mF.out nm rfl kE ?_;rw[CJ.out])|(at_len;refine iI aP rfl _ 95 88 rfl Tryz.underlying95 rfl fU.out ?_;rw[List.length_map]))
       go_ret2
       rw[HM.out]
       exact Turn.same HH.out HB2.out rfl
     ·have hm:cZ T ls kind=((xB T,0),rX T ls kind):=by
       have:lQ T ls kind=0:=by rw[I8.out 0 (fun h=>absurd h h64) (fun h=>rfl),HJ.out];rfl
       unfold cZ;rw[if_pos this]
      unfold rX at hm
      rw[←HQ.out]at hm
      obtain⟨f,hfE,hf1,hf2,hfn,hfs⟩:=HT.out.free
      rw[hfE]at hm
      have HM:=Lib.hid hm
      have Y5:=Lib.hid hfn
      have HFS:=Lib.hid hfs
      have Y3:decide ((T.length:Int)<64)=true:=by simp;omega
      have Y4:decide ((64:Int)≤(T.length:Int))=false:=by simp;omega
      have sM:d≠(f:Int):=fun e=>by have:=HX.out;rw[e,Y5.out]at this;cases this
      have Vd:=Lib.hid sM
      clear hm hfn hfs hfE sM
      have Y6:aP.ok (f:Int):=gB (by omega) (by omega)
      have HK:=Lib.hid hk
      rcases hk with rfl|rfl
      all_goals
       go_enter Tryz.func15,Tryz.ntmps15
       go_wp2_with fail
       (with_reducible refine HF.out.mono ?_)
       rintro e w1 ⟨rfl,hb1⟩
       have HB1:=Lib.hid hb1
       clear hb1
       go_wp2_with fail
       (with_reducible refine(sK.out w1 HB1.out).mono ?_)
       rintro e w2 ⟨rfl,hb2⟩
       (first|rw[if_pos rfl]|rw[if_pos trivial])
       have HB2:=Lib.hid (HB1.out.trans (hb2.mono HB1.out.size))
       clear hb2
       obtain⟨c7,eY,c0,hmap⟩:=qI.out w2 HB2.out
       have mF:=Lib.hid eY
       have fU:=Lib.hid hmap
       clear eY hmap
       go_wp2_with (first|(at_lookup;refine aB bV rfl _ _ 92 3 rfl Tryz.underlying92 (Tryz.dU _) rfl mF.out nm rfl kE ?_;rw[CJ.out])|(at_len;refine iI aP rfl _ 95 88 rfl Tryz.underlying95 rfl fU.out ?_;rw[List.length_map]))
       go_loop [14] (fun s=>∃j:Nat,1≤j∧j≤f∧s= .int .i64 j) (fun s=>f-(intOf s).toNat)
       case atStart=>exact⟨1,by omega,by omega,rfl⟩
       case round=>
        obtain⟨j,hj1,hjf,rfl⟩:=hrel
        have qp:aP.ok (j:Int):=gB (by omega) (by omega)
        by_cases Y7:j<f
        ·obtain⟨y,hy⟩:=Option.isSome_iff_exists.1 (HFS.out j hj1 Y7)
         have rC:Hid (ah (j:Int) (T.map fun q=>(q.1,ptr (ib q.1)))=some (ptr (ib j))):=by rw[bZ,hy];rfl
         clear hy
         go_wp2_with (at_lookup;refine aJ aP rfl _ _ 95 88 rfl Tryz.underlying95 (Tryz.aQ _) rfl fU.out (j:Int) rfl qp ?_;rw[rC.out])
         go_round
         case rel=>exact⟨j+1,by omega,by omega,by go_num⟩
         case measure=>simp[intOf];omega
        ·obtain rfl:f=j:=by omega
         have rC:Hid (ah (f:Int) (T.map fun q=>(q.1,ptr (ib q.1)))=none):=by rw[bZ,Y5.out];rfl
         go_wp2_with (at_lookup;refine aJ aP rfl _ _ 95 88 rfl Tryz.underlying95 (Tryz.aQ _) rfl fU.out (f:Int) rfl qp ?_;rw[rC.out])
         have HA2:=Lib.hid (HH.out.below HB2.out (Nat.le_refl _))
         have hpw:=HA2.out.cell.2.1
         have hmw:=HA2.out.cell.2.2
         have hpm:p≠mb:=fun e=>by have h1:=HH.out.nC;rw[e,HH.out.iG]at h1;cases h1
         have hst:∀v w3,Below w2.drew.heap.size w2.drew w3→∃w4,(Instr.mapUpdate 95 (.map (some mb)) (.int .i64 (f:Int)) v).run Tryz.prog w3= .ok () w4∧MapAt aP w4 mb (cO aP.lt (f:Int) v (T.map fun q=>(q.1,ptr (ib q.1))))∧w3.mapTurned w4 mb:=by
          intro v w3 hb3
          have hm1:MapAt aP w3 mb (T.map fun q=>(q.1,ptr (ib q.1))):=fU.out.kept (hb3.block mb hmw)
          exact hm1.oC aP Tryz.underlying95 (by rw[List.length_map];unfold maxLen;omega) (f:Int) v Y6
         have HST:=Lib.hid hst
         have HPM:=Lib.hid hpm
         have hkeep:∀w3,Below w2.drew.heap.size w2.drew w3→w3.cell? ⟨p,0,none⟩=some (.map (some mb)):=fun w3 hb3=>(hb3.cell (p:=⟨p,0,none⟩) hpw).trans c0
         have Ls:∀w3 w4,Below w2.drew.heap.size w2.drew w3→w3.mapTurned w4 mb→w4.cell? ⟨p,0,none⟩=some (.map (some mb)):=fun w3 w4 hb3 hT=>(World.cell?_of_block (w:=w3) (w':=w4) (a:=⟨p,0,none⟩) (bQ hT p (Nat.lt_of_lt_of_le hpw hb3.size) HPM.out)).trans ((hb3.cell (p:=⟨p,0,none⟩) hpw).trans c0)
         have jl:=Lib.hid hkeep
         have Y8:=Lib.hid Ls
         have HFA:=Lib.hid (fun w=>uN (f:Int) 1 w)
         clear hst hpm hkeep Ls
         go_region_held3 (fun w'=>w'.cell? ⟨p,0,none⟩=some (.map (some mb))) (first|exact c0|exact jl.out _ hb3|exact Y8.out _ _ hb3 kN) ((first|(go_at_call 61;refine(uN (f:Int) _ _).mono ?_;rintro e w3 ⟨rfl,hi3,hb3,hs3,hs4⟩)|(obtain⟨w4,zS,oG,kN⟩:=HST.out (ptr w2.heap.size) w3 hb3;rw[zS];go_simp)))
         have HI3:=Lib.hid hi3
         have HB3:=Lib.hid hb3
         have wG:=Lib.hid hs3
         have iH:=Lib.hid hs4
         have lT:=Lib.hid oG
         have Ew:=Lib.hid kN
         clear hi3 hb3 hs3 hs4 oG kN zS
         obtain⟨g1,RG,RH,BZ,hg1,hK4,hib⟩:=Lp (HA2.out.below (Below.refl _ _).drew (Nat.le_refl _)) Y5.out HI3.out HB3.out wG.out (by first|exact iH.out|exact fun _=>iH.out trivial) lT.out Ew.out
         have hx4:∀kd,ah d (cO jw (f:Int) (dO kd) T)=some x:=fun kd=>by rw[dW,if_neg Vd.out];exact HX.out
         obtain⟨_,_,_,_,_,_,Y9,_⟩:=(BZ.item d x (hx4 _)).cell
         have Ta:=(BZ.item d x (hx4 _)).names vN.out
         unfold dH at Y9
         rw[if_pos vN.out,(hib d Vd.out).1]at Y9
         obtain⟨nd,hnd⟩:∃nd,nd=RH d:=⟨_,rfl⟩
         rw[←hnd]at Y9 Ta
         have HA4:=Lib.hid BZ
         have VI:=Lib.hid hg1
         have ny:=Lib.hid hK4
         have HX4:=Lib.hid hx4
         have Y_:=Lib.hid Ta
         have I9:=Lib.hid hnd
         have Tc:Hid ((bC x).length<maxLen):=by
          have h1:=HT.out.few HX.out
          have h2:(bC x).length<maxLen:=by unfold bC maxLen;rw[List.length_map];omega
          exact h2
         clear BZ hg1 hK4 hx4 Ta hnd hib
         go_wp2_with (at_mapUpdate;refine gT bV rfl _ _ _ 92 3 rfl Tryz.underlying92 rfl Y_.out Tc.out nm (.int .i64 (f:Int)) rfl rfl kE ?_;intro w5 Lu CP)
         go_ret2
         rw[HM.out]
         have BZ:=HA4.out
         have hnd:=I9.out
         have hgn:g1 nd≠ .none:=by rw[hnd,BZ.kD d x (HX4.out _) vN.out];simp
         obtain⟨e1,e2⟩:=Lr HB2.out VI.out ny.out CP hgn
         subst hnd
         exact⟨rfl,g1,D,RG,RH,BZ.set (HX4.out _) vN.out Lu CP,e1,fun b h=> .inl h,e2⟩
   ·have hne:((aF T ls).2.2==0)=false:=by simpa using hp
    have hne2:((aF T ls).2.2 !=0)=true:=by simpa using hp
    have hm:cZ T ls kind=((0,(aF T ls).2.2),T):=by
     have:lQ T ls kind=(aF T ls).2.2:=by unfold lQ;rw[if_neg (by rw[rT.out];simp),if_neg (fun h=>h hk),if_pos hp]
     unfold cZ;rw[this,if_neg hp]
    have HM:=Lib.hid hm
    have HP:=Lib.hid hp
    unfold mP at sK
    generalize aF T ls=q at*
    clear hm hp
    rcases hk with rfl|rfl
    all_goals
     go_enter Tryz.func15,Tryz.ntmps15
     go_wp2_with fail
     (with_reducible refine HF.out.mono ?_)
     rintro e w1 ⟨rfl,hb1⟩
     have HB1:=Lib.hid hb1
     clear hb1
     go_wp2_with fail
     (with_reducible refine(sK.out w1 HB1.out).mono ?_)
     rintro e w2 ⟨rfl,hb2⟩
     rw[if_neg HP.out]
     have HB2:=Lib.hid hb2
     clear hb2
     go_wp2_with fail
     go_ret2
     rw[HM.out]
     exact Turn.same HH.out (HB1.out.trans (HB2.out.mono HB1.out.size)) rfl
  ·have HK:=Lib.hid hk
   have e1:(kind !=1)=true:=by simp;omega
   have e2:(kind !=2)=true:=by simp;omega
   have hm:cZ T ls kind=((0,30),T):=by
    have:lQ T ls kind=30:=by unfold lQ;rw[if_neg (by rw[rT.out];simp),if_pos HK.out]
    unfold cZ;rw[this];simp
   have HM:=Lib.hid hm
   clear hm hk
   go_enter Tryz.func15,Tryz.ntmps15
   go_wp2_with fail
   (with_reducible refine HF.out.mono ?_)
   rintro e w1 ⟨rfl,hb1⟩
   go_wp2_with fail
   go_ret2
   rw[HM.out]
   exact Turn.same HH.out hb1 rfl
 ·have hm:cZ T ls kind=((0,bG ls),T):=by
   have:lQ T ls kind=bG ls:=by unfold lQ;rw[if_pos hf]
   unfold cZ;rw[this,if_neg hf]
  have hne:(bG ls==0)=false:=by simpa using hf
  have hne2:(bG ls !=0)=true:=by simpa using hf
  have HM:=Lib.hid hm
  clear hm hf
  go_enter Tryz.func15,Tryz.ntmps15
  go_wp2_with fail
  (with_reducible refine HF.out.mono ?_)
  rintro e w1 ⟨rfl,hb1⟩
  go_wp2_with fail
  go_ret2
  rw[HM.out]
  exact Turn.same HH.out hb1 rfl
section
variable {g:Nat→Own} {D:Nat→Prop} {p mb:Nat} {ib nb:Int→Nat} {T:aK}
theorem iA.frozen {w:World} {k:Int} {i n:Nat} {x:eB} (h:iA D w k i n x) (j:Nat):w.frozen? ⟨i,j,none⟩=false:=by
 obtain⟨⟨a,c,h1,_⟩,_⟩:=h
 simp[World.frozen?,h1]
theorem iA.row {w:World} {k:Int} {i n:Nat} {x:eB} (h:iA D w k i n x):∃a c,w.cell? ⟨i,6,none⟩=some (.slice a x.b.length c)∧nK x.b.length c∧aj D w a x.b.length (x.b.map bv)∧w.heap[i]? =some (.cells (gL k x a c n) 94 (0,0)):=by
 obtain⟨⟨a,c,h1,h2,h3⟩,_⟩:=h
 exact⟨a,c,by simp only[World.cell?,h1];rfl,h2,h3,h1⟩
theorem aC.fields {w w':World} (h:aC g D w p mb ib nb T) {k:Int} {x:eB} (hx:ah k T=some x) (f:eB→eB) (hb:(f x).b=x.b) (hn:(f x).names=x.names) (hk:(f x).kind=x.kind) (hK:Keeps (fun b=>b=ib k) w w') (hs:w'.heap.size=w.heap.size)
  (hc:∀a c,w.heap[ib k]? =some (.cells (gL k x a c (nb k)) 94 (0,0))→w'.heap[ib k]? =some (.cells (gL k (f x) a c (nb k)) 94 (0,0))):aC g D w' p mb ib nb (Go.Proofs.YtmabllemjkcobaaGreatDoor.bX k f T):=by
 have ti:=h.lZ k x hx
 refine h.bX hx hk (fun _ h=>h) (fun b hb=>⟨h.data b hb,by rw[hs];exact h.l5 b hb⟩) (by omega) (fun b hbw h1 _=>hK.block b hbw (fun e=>h1 (by rw[e];exact ti))) ?_
 obtain⟨⟨a,c,h1,h2,h3⟩,h4⟩:=h.item k x hx
 refine⟨⟨a,c,hc a c h1,by rw[hb];exact h2,by rw[hb];exact h3.kept (by omega) fun b hD hbw=>hK.block b hbw (fun e=>by have:=h.data b hD;rw[e,ti]at this;cases this)⟩,fun hk2=> ?_⟩
 have VJ:x.kind=2:=hk▸hk2
 have e:bC (f x)=bC x:=by unfold bC;rw[hn]
 rw[e]
 have tn:=h.kD k x hx VJ
 exact(h4 VJ).kept (hK.block _ (h.low _ (by rw[tn];simp)) (fun e=>by rw[e,ti]at tn;cases tn))
theorem Keeps.set2 (w:World) (i j j':Nat) (v v':Value):Keeps (fun b=>b=i) w ((w.setCell ⟨i,j,none⟩ v).setCell ⟨i,j',none⟩ v'):=
 (Keeps.lN w ⟨i,j,none⟩ v).trans (Keeps.lN _ ⟨i,j',none⟩ v') (fun _ _ h=>h)
set_option maxHeartbeats 1000000 in
theorem qJ (id:Int) (k:Int) (hk:fA T id=k) (hk0:k≠0) (w:World) (h:aC g D w p mb ib nb T) (hid:(Lit.int .i64 id).wf=true):
  Calls Tryz.prog 174 #[ptr p, .int .i64 id] w fun e w'=>e= .returned (.tuple #[.pointer none, .int .i64 k])∧w=w':=by
 obtain⟨hc0,hpw,hmw⟩:=h.cell
 have hmap:=Lib.hid h.map
 have hok:aP.ok id:=hid
 unfold fA at hk
 cases hx:ah id T with
 |none=>
  rw[hx]at hk
  simp only at hk
  subst hk
  have HG:Hid (ah id (T.map fun q=>(q.1,ptr (ib q.1)))=none):=by rw[bZ,hx];rfl
  clear h hx hid hk0
  go_enter Tryz.func174,Tryz.ntmps174
  go_wp2_with (at_lookup;refine aB aP rfl _ _ 95 88 rfl Tryz.underlying95 (Tryz.aQ _) rfl hmap.out id rfl hok ?_;rw[HG.out])
  go_ret2
  exact⟨rfl,rfl⟩
 |some x=>
  rw[hx]at hk
  simp only at hk
  by_cases hk2:x.kind=2
  ·rw[if_pos hk2]at hk
   subst hk
   have HG:Hid (ah id (T.map fun q=>(q.1,ptr (ib q.1)))=some (ptr (ib id))):=by rw[bZ,hx];rfl
   obtain⟨c0,c1,c2,c3,c4,c5,c7,hiw⟩:=(h.item id x hx).cell
   rw[hk2]at c1
   clear h hx hid hk0 c7 hk2
   go_enter Tryz.func174,Tryz.ntmps174
   go_wp2_with (at_lookup;refine aB aP rfl _ _ 95 88 rfl Tryz.underlying95 (Tryz.aQ _) rfl hmap.out id rfl hok ?_;rw[HG.out])
   go_ret2
   exact⟨rfl,rfl⟩
  ·rw[if_neg hk2]at hk
   exact absurd hk.symm hk0
set_option maxHeartbeats 1000000 in
theorem rD (id:Int) {x:eB} (hx:ah id T=some x) (hk2:x.kind≠2) (w:World) (h:aC g D w p mb ib nb T) (hid:(Lit.int .i64 id).wf=true):
  Calls Tryz.prog 174 #[ptr p, .int .i64 id] w fun e w'=>e= .returned (.tuple #[ptr (ib id), .int .i64 0])∧w=w':=by
 obtain⟨hc0,hpw,hmw⟩:=h.cell
 have hmap:=Lib.hid h.map
 have hok:aP.ok id:=hid
 have HG:Hid (ah id (T.map fun q=>(q.1,ptr (ib q.1)))=some (ptr (ib id))):=by rw[bZ,hx];rfl
 obtain⟨c0,c1,c2,c3,c4,c5,c7,hiw⟩:=(h.item id x hx).cell
 have e1:(x.kind==2)=false:=by simpa using hk2
 clear h hx hid c7 hk2
 go_enter Tryz.func174,Tryz.ntmps174
 go_wp2_with (at_lookup;refine aB aP rfl _ _ 95 88 rfl Tryz.underlying95 (Tryz.aQ _) rfl hmap.out id rfl hok ?_;rw[HG.out])
 go_ret2
 exact⟨rfl,rfl⟩
def qK (k:Int) (x:eB):Value:= .agg #[.int .i64 k, .int .i64 x.kind, .int .i64 x.links, .int .i64 x.b.length, .int .u64 x.au, .bool x.closed]
def jH (T:aK) (id:Int):Value:=match ah id T with
 |some x=>qK id x
 |none=> .agg #[.int .i64 0, .int .i64 0, .int .i64 0, .int .i64 0, .int .u64 0, .bool false]
set_option maxHeartbeats 1000000 in
theorem sV (id:Int) (w:World) (h:aC g D w p mb ib nb T) (hid:(Lit.int .i64 id).wf=true):
  Calls Tryz.prog 98 #[ptr p, .int .i64 id] w fun e w'=>e= .returned (.tuple #[jH T id, .bool (ah id T).isSome])∧Below w.heap.size w w':=by
 obtain⟨hc0,hpw,hmw⟩:=h.cell
 have hok:aP.ok id:=hid
 have Lv:∀o,MapAt aP (w.alloc o) mb (T.map fun q=>(q.1,ptr (ib q.1))):=fun o=>h.map.kept ((wall w o).block mb hmw)
 have hmap:=Lib.hid Lv
 unfold jH
 cases hx:ah id T with
 |none=>
  have HG:Hid (ah id (T.map fun q=>(q.1,ptr (ib q.1)))=none):=by rw[bZ,hx];rfl
  clear h hx hid Lv
  go_enter Tryz.func98,Tryz.ntmps98
  go_wp2_with (at_lookup;refine aB aP rfl _ _ 95 88 rfl Tryz.underlying95 (Tryz.aQ _) rfl (hmap.out _) id rfl hok ?_;rw[HG.out])
  exact bodyPost_ret (v:= .tuple #[.agg #[.int .i64 0, .int .i64 0, .int .i64 0, .int .i64 0, .int .u64 0, .bool false], .bool false]) (by simp[results,Tryz.results98,go_sem]) rfl ⟨rfl,wall w _⟩
 |some x=>
  have HG:Hid (ah id (T.map fun q=>(q.1,ptr (ib q.1)))=some (ptr (ib id))):=by rw[bZ,hx];rfl
  obtain⟨c0,c1,c2,c3,c4,c5,c7,hiw⟩:=(h.item id x hx).cell
  clear h hx hid c7 Lv
  unfold qK
  go_enter Tryz.func98,Tryz.ntmps98
  go_wp2_with (at_lookup;refine aB aP rfl _ _ 95 88 rfl Tryz.underlying95 (Tryz.aQ _) rfl (hmap.out _) id rfl hok ?_;rw[HG.out])
  exact bodyPost_ret (v:= .tuple #[.agg #[.int .i64 id, .int .i64 x.kind, .int .i64 x.links, .int .i64 x.b.length, .int .u64 x.au, .bool x.closed], .bool true]) (by simp[results,Tryz.results98,go_sem]) rfl ⟨rfl,wall w _⟩
end
section
variable {g:Nat→Own} {D:Nat→Prop} {p mb:Nat} {ib nb:Int→Nat} {T:aK}
theorem MapAt.CQ {P:Program} {K:TypeId} {κ:Type} [DecidableEq κ] {F:uz P K κ} {w:World} {t e:TypeId} (ht:P.underlying t=some (.map K e)) {b:Nat} {l:List (κ×Value)} (hM:MapAt F w b l) (k:κ) (hok:F.ok k):
  ∃w',(∀ty,(Builtin.delete_ #[t,K] ty #[.map (some b),F.val k]).run P w= .ok (.tuple #[]) w')∧MapAt F w' b (bI k l)∧w.mapTurned w' b:=by
 obtain⟨w',hrun,r1,r2⟩:=World.ownsMap.drop hM F.law ht (F.of k hok) 0
 rw[GX]at r1
 exact⟨w',fun ty=>hrun,MapAt.ru r1,r2⟩
def Px (g:Nat→Own) (D:Nat→Prop) (w:World) (p mb:Nat) (ib nb:Int→Nat) (T':aK) (e:Ending) (w':World):Prop:=
 e= .returned (.tuple #[])∧aC g D w' p mb ib nb T'∧Keeps (fun b=>b=mb) w w'∧w'.heap.size=w.heap.size
set_option maxRecDepth 100000 in
set_option maxHeartbeats 2000000 in
theorem xE (id:Int) {x:eB} (hx:ah id T=some x) (hid:(Lit.int .i64 id).wf=true) (w:World) (h:aC g D w p mb ib nb T):
  Calls Tryz.prog 175 #[ptr p,ptr (ib id)] w (Px g D w p mb ib nb (gI T id)):=by
 obtain⟨hc0,hpw,hmw⟩:=h.cell
 obtain⟨c0,c1,c2,c3,c4,c5,c7,hiw⟩:=(h.item id x hx).cell
 have HH:=Lib.hid h
 have hs:gI T id=if x.links=0∧x.closed=true then bI id T else T:=by unfold gI;rw[hx]
 have HS:=Lib.hid hs
 have HX:=Lib.hid hx
 clear hs hx h c7
 by_cases h0:x.links=0
 ·have e0:(x.links==0)=true:=by simpa using h0
  rw[h0]at c2
  cases hcl:x.closed with
  |true=>
   rw[hcl]at c5
   have HF:Hid (gI T id=bI id T):=HS.out.trans (if_pos ⟨h0,hcl⟩)
   have hst:∃w4,(∀ty,(Builtin.delete_ #[95,3] ty #[.map (some mb), .int .i64 id]).run Tryz.prog w.drew= .ok (.tuple #[]) w4)∧MapAt aP w4 mb (bI id (T.map fun q=>(q.1,ptr (ib q.1))))∧w.drew.mapTurned w4 mb:=
    MapAt.CQ (F:=aP) Tryz.underlying95 (HH.out.map.kept (w':=w.drew) rfl) id hid
   have HST:=Lib.hid hst
   have hne1:p≠mb:=fun e=>by have h1:=HH.out.nC;rw[e,HH.out.iG]at h1;cases h1
   have hne2:ib id≠mb:=fun e=>by have h1:=HH.out.lZ id x HX.out;rw[e,HH.out.iG]at h1;cases h1
   have jl:Hid (∀w4,w.drew.mapTurned w4 mb→w4.cell? ⟨p,0,none⟩=some (.map (some mb))∧w4.cell? ⟨ib id,0,none⟩=some (.int .i64 id)):=fun w4 hT=>⟨(World.cell?_of_block (w:=w.drew) (w':=w4) (a:=⟨p,0,none⟩) (bQ hT p hpw hne1)).trans hc0,(World.cell?_of_block (w:=w.drew) (w':=w4) (a:=⟨ib id,0,none⟩) (bQ hT _ hiw hne2)).trans c0⟩
   clear hst HS h0 hcl e0 hne1 hne2
   go_enter Tryz.func175,Tryz.ntmps175
   go_wp2
   go_region_held3 (fun w'=>w'.cell? ⟨p,0,none⟩=some (.map (some mb))∧w'.cell? ⟨ib id,0,none⟩=some (.int .i64 id)) (first|exact⟨hc0,c0⟩|exact jl.out _ kN) ((first|(obtain⟨w4,zS,oG,kN⟩:=HST.out;rw[zS];go_simp)))
   have hsz:=gQ kN
   have hK:=eu kN
   go_end0
   refine⟨rfl,?_,⟨hK.os,hK.tape,hK.output,hK.size,hK.block⟩,hsz⟩
   rw[HF.out]
   exact(HH.out.below (Below.refl _ _).drew (Nat.le_refl _)).del oG hK.size (fun b hb S_=>hK.block b hb S_)
  |false=>
   rw[hcl]at c5
   have HF:Hid (gI T id=T):=HS.out.trans (if_neg (fun h=>by rw[hcl]at h;cases h.2))
   clear HS h0 hcl e0
   go_enter Tryz.func175,Tryz.ntmps175
   go_wp2
   go_end0
   exact⟨rfl,by rw[HF.out];exact HH.out,Keeps.refl _ _,rfl⟩
 ·have e0:(x.links==0)=false:=by simpa using h0
  have HF:Hid (gI T id=T):=HS.out.trans (if_neg (fun h=>h0 h.1))
  clear HS h0
  go_enter Tryz.func175,Tryz.ntmps175
  go_wp2
  go_end0
  exact⟨rfl,by rw[HF.out];exact HH.out,Keeps.refl _ _,rfl⟩
end
end Go.Proofs.YtmabllemjkcobaaGreatDoor
