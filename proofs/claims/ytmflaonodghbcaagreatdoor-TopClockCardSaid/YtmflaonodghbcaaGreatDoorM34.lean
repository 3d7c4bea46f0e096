/- mount -/
import Derived.Test.YtmflaonodghbcaaGreatDoorM33
import Derived.Test.YtmflaonodghbcaaGreatDoorM19
import Derived.Test.YtmflaonodghbcaaGreatDoorM30
import Derived.Test.YtmflaonodghbcaaGreatDoorM26
import Derived.Test.YtmflaonodghbcaaGreatDoorM03
import Derived.Test.YtmflaonodghbcaaGreatDoorM04
import Derived.Lib.SliceRun
set_option maxRecDepth 100000
set_option maxHeartbeats 64000000
set_option linter.all false
namespace Go.Proofs.YtmflaonodghbcaaGreatDoor
open Go.ChangeShapes Go.WideShapes Go.ChangeAt Go.RowKit Go.Shelf
attribute [local go_sem] Oper.semAt_some
theorem alloc4(w w1:World)(A B C D:Obj)(h:w1=(((w.alloc A).alloc B).alloc C).alloc D):w1.heap.size=w.heap.size+4∧Below w.heap.size w w1∧w1.heap[w.heap.size]? =some A∧w1.heap[w.heap.size+1]? =some B∧w1.heap[w.heap.size+2]? =some C∧w1.heap[w.heap.size+3]? =some D:=by
 have a0:=World.alloc_heap_new w A;have a1:=World.alloc_heap_new (w.alloc A) B;have a2:=World.alloc_heap_new ((w.alloc A).alloc B) C;have a3:=World.alloc_heap_new (((w.alloc A).alloc B).alloc C) D;have s1:(w.alloc A).heap.size=w.heap.size+1:=Pd _ _;have s2:((w.alloc A).alloc B).heap.size=w.heap.size+2:=by rw[Pd,s1]
 have s3:(((w.alloc A).alloc B).alloc C).heap.size=w.heap.size+3:=by rw[Pd,s2]
 rw[s1]at a1;rw[s2]at a2;rw[s3]at a3;subst h;refine⟨by rw[Pd,s3],(((((Below.refl _ w).alloc ace _).alloc (by omega) _).alloc (by omega) _).alloc (by omega) _),?_,?_,?_,a3⟩
 ·rw[Below.heap_alloc _ _ _ (by omega),Below.heap_alloc _ _ _ (by omega),Below.heap_alloc _ _ _ (by omega)];exact a0
 ·rw[Below.heap_alloc _ _ _ (by omega),Below.heap_alloc _ _ _ (by omega)];exact a1
 ·rw[Below.heap_alloc _ _ _ (by omega)];exact a2
theorem E5{W w:World}{o:Mark}{i d n:Nat}{img:List UInt8}{cl:Prop}{c:Int}(h:dP o i w d n img cl c)(hM:Marks W o w)(hi:i≠0)(hc:c≤100000000000)(first N:Nat)(h0:0<N)(hfit:first+N≤n)(a:Option Addr)(cp:Nat)(bs:List UInt8)(hbs:bs.length=N*128)(hr:ah (fun x=>o x≠i) w a (N*128) (bs.map bv))(hcp:N*128≤cp):
  Calls Tryz.prog 34 #[ptr d,.int .i64 first,.slice a (N*128) cp] w (jH o i w d n (splice img (first*128) bs) False (c+N) (.tuple #[])):=by
 have hlen:=h.len;obtain⟨F0,sb,mb,l0,M0,hD,hF,h1,h2,h3,h4⟩:=h.at_;have hD:=hD.slim;obtain⟨F1,hF1⟩:∃F1:Nat→Prop,F1=fun x=>F0 x∧(x=mb∨∃c t m,w.heap[x]? =some (.cells c t m)):=⟨_,rfl⟩;rw[←hF1]at hD;have hFo:∀x,F1 x→o x=i:=fun x hx=>by rw[hF1]at hx;exact hF x hx.1
 have hFc:∀x,F1 x→x=mb∨∃c t m,w.heap[x]? =some (.cells c t m):=fun x hx=>by rw[hF1]at hx;exact hx.2
 clear hF1;obtain⟨b,off,rfl,-,hbw,-⟩:=hr.at_ (by omega);obtain⟨C,hC⟩:∃C,C=N*128:=⟨_,rfl⟩;rw[←hC];have HD:=ab9 hD;have HR:=ab9 hr;have HC:=ab9 hC;clear h hr hF hD hC;refine(abw (n:=6)).1 ?_;refine callsIn_of_wp_marks Tryz.func34 rfl trivial ?_ rfl;simp only[Tryz.ntmps34,List.size_toArray,List.length_cons,List.length_nil,Nat.reduceAdd,Nat.reduceSub,Array.replicate_succ,Array.replicate_zero,List.push_toArray,List.append_toArray,List.nil_append,abR]
 gi_wp2_with (refine⟨trivial,?_⟩;gi_at_call 96;refine(abw.2 (Ij _ _ _ _)).mono ?_;rintro e w' ⟨rfl,rfl⟩)
 obtain⟨w1,hw1⟩:∃w1,w1=((((w.alloc (.cells #[ptr d] 24)).alloc (.cells #[.int .i64 (first:Int)] 3)).alloc (.cells #[.slice (some ⟨b,off,none⟩) C cp] 32)).alloc (.cells #[.int .i64 128] 3)):=⟨_,rfl⟩;rw[←hw1];obtain⟨hs1,hb1,k0,k1,k2,k3⟩:=alloc4 _ _ _ _ _ _ hw1;have k2:w1.cell? ⟨w.heap.size+2,0,none⟩=some (.slice (some ⟨b,off,none⟩) C cp):=by simp[World.cell?,k2]
 have k3:w1.cell? ⟨w.heap.size+3,0,none⟩=some (.int .i64 128):=by simp[World.cell?,k3]
 have hlow:∀x,F1 x→x<w.heap.size:=fun x hx=>HD.o.low x hx;have hD1:bO F1 w1 d sb mb l0 M0:=HD.o.below hb1 ace;have hFc1:∀x,F1 x→x=mb∨∃c t m,w1.heap[x]? =some (.cells c t m):=fun x hx=>by rw[hb1.block x (hlow x hx)];exact hFc x hx
 have hmb:mb<w.heap.size:=hlow mb HD.o.own.2.2;have HB1:=ab9 hb1
 refine wpIn_rangeFunc_ownG (α:=Fin N) rfl (by omega) (gf:=171) (lb:= #[.pointer (some ⟨w.heap.size+2,0,none⟩),.pointer (some ⟨w.heap.size+3,0,none⟩)]) rfl trivial (enters_of Tryz.func171 (by kernel_rfl) rfl)
  (Ck Fence.wide (6-1) trivial rfl (by omega) (w.heap.size+2) (w.heap.size+3) b off cp N (by omega) hcp w1 (by omega) (by omega) (by rw[k2,HC.o]) k3) (fun h k=>h.trans k) (fun W l o o' hl _ _ _=>YO.put (s:=w1.heap.size) (by omega) (by omega) W l o o' hl) acf (fun _=>rfl)
  (fun pre W=>vM F1 w1 d sb mb (w.heap.size+1) n first img bs c pre W) (fun _ _ _=>False) (vM.own (by omega) (by omega)) (fun _ _ _ _ _ hs _ _=>hs.elim) (vM.start hD1 hFc1 h1 h2 h4 k1 (by rw[hlen.1];omega))
  (fun x=>{tmps:= #[ptr d,.int .i64 first,.slice (some ⟨b,off,none⟩) C cp,.pointer (some ⟨w.heap.size,0,none⟩),.pointer (some ⟨w.heap.size+1,0,none⟩),undef,.slice (some ⟨b,off+x.val*128,none⟩) 128 128,.slice (some ⟨b,off,none⟩) C cp,.func (.func 171) #[] #[.pointer (some ⟨w.heap.size+2,0,none⟩),.pointer (some ⟨w.heap.size+3,0,none⟩)],.slice (some ⟨b,off+x.val*128,none⟩) 128 128,undef,undef,undef,undef,undef,undef],defers:=[]}) ?assign ?body ?done ?stop
 case assign=>
  intro l x W K hK;dsimp only[EU]
  gi_wp2
  exact hK
 case body=>
  intro l pre x W hI hlt;have hne:∀y,y<w1.heap.size→w.heap.size≤y→y≠w.heap.size+1→W.heap[y]? =w1.heap[y]? :=fun y hy hy2 hy3=>hI.keep.block y hy fun hx=>by
   rcases hx with hx|hx
   ·have:=hlow y hx;omega
   ·exact hy3 hx
  have c0:W.cell? ⟨w.heap.size,0,none⟩=some (ptr d):=by simp[World.cell?,hne w.heap.size (by omega) (by omega) (by omega),k0]
  have hrow:ah (fun _=>True) W (some ⟨b,off+x.val*128,none⟩) 128 ((rowsOf bs x.val).map bv):=by
   have h9:ah (fun x=>o x≠i) W (some ⟨b,off,none⟩) (N*128) (bs.map bv):=HR.o.kept (by have:=hI.keep.size;omega) fun y hy hyw=>(hI.keep.block y (by omega) fun hx=>by
    rcases hx with hx|hx
    ·exact hy (hFo y hx)
    ·omega).trans (HB1.o.block y hyw)
   have h8:=(h9.drop (x.val*128)).take 128;have hx:=x.isLt;rw[aa4 (by omega),←aaR,←aaO]at h8;exact h8.mono fun _ _=>trivial
  have hw:=hI.write x hlt hfit hbs hlen.1 (by omega) (by omega) (by omega) (fun h9=>by have:=hlow _ h9;omega) (some ⟨b,off+x.val*128,none⟩) 128 hrow;have hbx:=hI.box;obtain⟨q,hq⟩:∃q,q=first+pre.length:=⟨_,rfl⟩
  rw[←hq]at hw hbx;have e1:wrap64 ((q:Int)+1)=((q+1:Nat):Int):=by unfold wrap64;omega
  have c1:W.cell? ⟨w.heap.size+1,0,none⟩=some (.int .i64 (q:Int)):=by simp[World.cell?,hbx]
  have HW:=ab9 hw;have HI:=ab9 hI;have HBX:=ab9 hbx;have hd2:1≤6-1-1:=by omega
  clear hw hI hq hrow hbx
  gi_wp2
  refine⟨trivial,?_⟩;refine(CallsIn.inRound l (abw.2 HW.o)).mono ?_;rintro e W2 ⟨rfl,hbx,hKF,LX,hI2⟩;have c2:W2.cell? ⟨w.heap.size+1,0,none⟩=some (.int .i64 (q:Int)):=(World.cell?_of_block hbx).trans c1;have f2:W2.frozen? ⟨w.heap.size+1,0,none⟩=false:=by simp[World.frozen?,hbx,HBX.o]
  have HI2:=ab9 hI2;clear hI2
  gi_wp2
  have hn2:∀y,w.heap.size≤y→¬F1 y:=fun y hy hx=>by have:=hlow y hx;omega
  refine⟨hKF.trans ((KeepsOthers.setCell _ _ _).from _),⟨?_,?_⟩,HI2.o⟩
  ·exact World.cell?_of_block (a:=⟨w.heap.size+2,0,none⟩) ((aL W2 ⟨w.heap.size+1,0,none⟩ _ _ (by simp)).trans (LX _ (by dsimp only;omega) (hn2 _ (by dsimp only;omega))))
  ·exact World.cell?_of_block (a:=⟨w.heap.size+3,0,none⟩) ((aL W2 ⟨w.heap.size+1,0,none⟩ _ _ (by simp)).trans (LX _ (by dsimp only;omega) (hn2 _ (by dsimp only;omega))))
 case done=>
  rintro D xs W hDl rfl hI hK
  gi_wp2
  refine⟨by simp,.inl ⟨_,_,rfl,run_takeDeferred hK,?_⟩⟩;refine⟨_,results_none rfl _ _ _,?_⟩;exact hI.done hM hi hFo HB1.o (fun x hx=>(hlow x hx)) (by omega) hDl hK hmb rfl hbs
 case stop=>
  rintro D c pre W _ _ h _;exact h.elim
attribute [local go_sem] Oper.semAt_some
def je(n k:Nat):Nat:=1+2*(n/4)+k*8
def gV(n:Nat):Nat:=(n-1-2*(n/4))/8
theorem zZ{n k:Nat}(h0:64≤n)(hk:k<gV n):je n k+8≤n:=by unfold gV at hk;unfold je;omega
theorem LY(n k:Nat)(h0:64≤n)(h1:n≤4096)(hk:k<gV n)(w:World):Calls Tryz.prog 145 #[.agg (aW n),.int .i64 (k:Int)] w fun e w'=>e= .returned (.tuple #[.int .i64 (je n k:Int),.int .i64 0])∧Below w.heap.size w w':=by
 have h:=NM n h0 h1 k (by omega) (by unfold gV at hk;omega) w
 rwa [show 1+2*((n:Int)/4)+(k:Int)*8=(je n k:Int)by unfold je;omega]at h
theorem jE(w w1:World)(A B:Obj)(h:w1=(w.alloc A).alloc B):w1.heap.size=w.heap.size+2∧Below w.heap.size w w1∧w1.heap[w.heap.size]? =some A:=by
 have a0:=World.alloc_heap_new w A;have s1:(w.alloc A).heap.size=w.heap.size+1:=Pd _ _;subst h;refine⟨by rw[Pd,s1],((Below.refl _ w).alloc ace _).alloc (by omega) _,?_⟩;rw[Below.heap_alloc _ _ _ (by omega)];exact a0
theorem mH(w w1:World)(A B C:Obj)(h:w1=((w.alloc A).alloc B).alloc C):w1.heap.size=w.heap.size+3∧Below w.heap.size w w1∧w1.heap[w.heap.size]? =some A∧w1.heap[w.heap.size+1]? =some B∧w1.heap[w.heap.size+2]? =some C:=by
 have a0:=World.alloc_heap_new w A;have a1:=World.alloc_heap_new (w.alloc A) B;have a2:=World.alloc_heap_new ((w.alloc A).alloc B) C;have s1:(w.alloc A).heap.size=w.heap.size+1:=Pd _ _;have s2:((w.alloc A).alloc B).heap.size=w.heap.size+2:=by rw[Pd,s1]
 rw[s1]at a1;rw[s2]at a2;subst h;refine⟨by rw[Pd,s2],((((Below.refl _ w).alloc ace _).alloc (by omega) _).alloc (by omega) _),?_,?_,a2⟩
 ·rw[Below.heap_alloc _ _ _ (by omega),Below.heap_alloc _ _ _ (by omega)];exact a0
 ·rw[Below.heap_alloc _ _ _ (by omega)];exact a1
theorem Xf{W w:World}{o:Mark}{i d n:Nat}{img:List UInt8}{cl:Prop}{c:Int}(h:dP o i w d n img cl c)(hM:Marks W o w)(hi:i≠0)(hc:c≤100000000000)(k:Nat)(hkn:k<gV n)(a:Option Addr)(cp:Nat)(bs:List UInt8)(hbs:bs.length=8*128)(hr:ah (fun x=>o x≠i) w a 1024 (bs.map bv))(hcp:1024≤cp):
  Calls Tryz.prog 77 #[ptr d,.agg (aW n),.int .i64 (k:Int),.slice a 1024 cp] w (jH o i w d n (splice img (je n k*128) bs) True (c+(8:Nat)) (.tuple #[])):=by
 have hlen:=h.len;have hsa:=zZ hlen.2.1 hkn;have nE:=ab9 (fun w'=>LY n k hlen.2.1 hlen.2.2 hkn w');obtain⟨first,hfi⟩:∃first,first=je n k:=⟨_,rfl⟩
 rw[←hfi]at hsa nE⊢;clear hfi hkn;obtain⟨F0,sb,mb,l0,M0,hD,hF,h1,h2,h3,h4⟩:=h.at_;have hD:=hD.slim;obtain⟨F1,hF1⟩:∃F1:Nat→Prop,F1=fun x=>F0 x∧(x=mb∨∃c t m,w.heap[x]? =some (.cells c t m)):=⟨_,rfl⟩;rw[←hF1]at hD;have hFo:∀x,F1 x→o x=i:=fun x hx=>by rw[hF1]at hx;exact hF x hx.1
 have hFc:∀x,F1 x→x=mb∨∃c t m,w.heap[x]? =some (.cells c t m):=fun x hx=>by rw[hF1]at hx;exact hx.2
 clear hF1;obtain⟨b,off,rfl,-,hbw,-⟩:=hr.at_ (by omega);have HD:=ab9 hD;have HR:=ab9 hr;clear h hr hF hD;unfold aW at nE⊢;refine(abw (n:=6)).1 ?_;refine callsIn_of_wp_marks Tryz.func77 rfl trivial ?_ rfl;simp only[Tryz.ntmps77,List.size_toArray,List.length_cons,List.length_nil,Nat.reduceAdd,Nat.reduceSub,Array.replicate_succ,Array.replicate_zero,List.push_toArray,List.append_toArray,List.nil_append,abR]
 gi_wp2
 obtain⟨wA,Xg⟩:∃wA,wA=((w.alloc (.cells #[ptr d] 24)).alloc (.cells #[.int .i64 (n:Int),.int .i64 ((n:Int)/4),.int .i64 (((n:Int)-1-2*((n:Int)/4))/8)] 57)):=⟨_,rfl⟩;rw[←Xg];obtain⟨hsA,MO,kA⟩:=jE _ _ _ _ Xg;have YG:=ab9 Xg;clear Xg;refine⟨trivial,?_⟩;refine(abw.2 (nE.o _)).mono ?_;rintro e wB ⟨rfl,ZL⟩;have hsB:=ZL.size;have hbw0:=MO.trans (ZL.mono (by omega));have kB:=(ZL.block w.heap.size (by omega)).trans kA
 gi_wp2
 refine⟨trivial,?_⟩;refine(abw.2 (Ij _ _ _ _)).mono ?_;rintro e w' ⟨rfl,rfl⟩
 gi_wp2
 obtain⟨w1,hw1⟩:∃w1,w1=(((wB.alloc (.cells #[.int .i64 (first:Int)] 3)).alloc (.cells #[.slice (some ⟨b,off,none⟩) 1024 cp] 32)).alloc (.cells #[.int .i64 128] 3)):=⟨_,rfl⟩;rw[←hw1];obtain⟨hs1,hb1,k1,k2,k3⟩:=mH _ _ _ _ _ hw1;have HW1:=ab9 hw1;clear hw1;have k0:w1.heap[w.heap.size]? =some (.cells #[ptr d] 24):=(hb1.block _ (by omega)).trans kB;have hb1:=hbw0.trans (hb1.mono (by omega));have k2:w1.cell? ⟨wB.heap.size+1,0,none⟩=some (.slice (some ⟨b,off,none⟩) 1024 cp):=by simp[World.cell?,k2]
 have k3:w1.cell? ⟨wB.heap.size+2,0,none⟩=some (.int .i64 128):=by simp[World.cell?,k3]
 have hlow:∀x,F1 x→x<w.heap.size:=fun x hx=>HD.o.low x hx;have hD1:bO F1 w1 d sb mb l0 M0:=HD.o.below hb1 ace;have hFc1:∀x,F1 x→x=mb∨∃c t m,w1.heap[x]? =some (.cells c t m):=fun x hx=>by rw[hb1.block x (hlow x hx)];exact hFc x hx
 have hmb:mb<w.heap.size:=hlow mb HD.o.own.2.2;have HB1:=ab9 hb1
 refine wpIn_rangeFunc_ownG (α:=Fin 8) rfl (by omega) (gf:=171) (lb:= #[.pointer (some ⟨wB.heap.size+1,0,none⟩),.pointer (some ⟨wB.heap.size+2,0,none⟩)]) rfl trivial (enters_of Tryz.func171 (by kernel_rfl) rfl)
  (Ck Fence.wide (6-1) trivial rfl (by omega) (wB.heap.size+1) (wB.heap.size+2) b off cp 8 (by omega) hcp w1 (by omega) (by omega) k2 k3) (fun h k=>h.trans k) (fun W l o o' hl _ _ _=>YO.put (s:=w1.heap.size) (by omega) (by omega) W l o o' hl) acf (fun _=>rfl)
  (fun pre W=>vM F1 w1 d sb mb wB.heap.size n first img bs c pre W) (fun _ _ _=>False) (vM.own (by omega) (by omega)) (fun _ _ _ _ _ hs _ _=>hs.elim) (vM.start hD1 hFc1 h1 h2 h4 k1 (by rw[hlen.1];omega))
  (fun x=>{tmps:= #[ptr d,.agg #[.int .i64 (n:Int),.int .i64 ((n:Int)/4),.int .i64 (((n:Int)-1-2*((n:Int)/4))/8)],.int .i64 k,.slice (some ⟨b,off,none⟩) 1024 cp,.pointer (some ⟨w.heap.size,0,none⟩),.pointer (some ⟨w.heap.size+1,0,none⟩),undef,undef,.pointer (some ⟨wB.heap.size,0,none⟩),.int .i64 0,.slice (some ⟨b,off+x.val*128,none⟩) 128 128,.tuple #[.int .i64 first,.int .i64 0],.agg #[.int .i64 (n:Int),.int .i64 ((n:Int)/4),.int .i64 (((n:Int)-1-2*((n:Int)/4))/8)],.int .i64 k,.tuple #[.int .i64 first,.int .i64 0],.int .i64 first,.int .i64 0,.slice (some ⟨b,off,none⟩) 1024 cp,.func (.func 171) #[] #[.pointer (some ⟨wB.heap.size+1,0,none⟩),.pointer (some ⟨wB.heap.size+2,0,none⟩)],.slice (some ⟨b,off+x.val*128,none⟩) 128 128,undef,undef,undef,undef,undef,undef,undef,undef],defers:=[]}) ?assign ?body ?done ?stop
 case assign=>
  intro l x W K hK;dsimp only[EU]
  gi_wp2
  exact hK
 case body=>
  intro l pre x W hI hlt;have hne:∀y,y<w1.heap.size→w.heap.size≤y→y≠wB.heap.size→W.heap[y]? =w1.heap[y]? :=fun y hy hy2 hy3=>hI.keep.block y hy fun hx=>by
   rcases hx with hx|hx
   ·have:=hlow y hx;omega
   ·exact hy3 hx
  have c0:W.cell? ⟨w.heap.size,0,none⟩=some (ptr d):=by simp[World.cell?,hne w.heap.size (by omega) (by omega) (by omega),k0]
  have hrow:ah (fun _=>True) W (some ⟨b,off+x.val*128,none⟩) 128 ((rowsOf bs x.val).map bv):=by
   have h9:ah (fun x=>o x≠i) W (some ⟨b,off,none⟩) 1024 (bs.map bv):=HR.o.kept (by have:=hI.keep.size;omega) fun y hy hyw=>(hI.keep.block y (by omega) fun hx=>by
    rcases hx with hx|hx
    ·exact hy (hFo y hx)
    ·omega).trans (HB1.o.block y hyw)
   have h8:=(h9.drop (x.val*128)).take 128;have hx:=x.isLt;rw[aa4 (by omega),←aaR,←aaO]at h8;exact h8.mono fun _ _=>trivial
  have hw:=hI.write x hlt hsa hbs hlen.1 (by omega) (by omega) (by omega) (fun h9=>by have:=hlow _ h9;omega) (some ⟨b,off+x.val*128,none⟩) 128 hrow;have hbx:=hI.box;obtain⟨q,hq⟩:∃q,q=first+pre.length:=⟨_,rfl⟩
  rw[←hq]at hw hbx;have e1:wrap64 ((q:Int)+1)=((q+1:Nat):Int):=by unfold wrap64;omega
  have c1:W.cell? ⟨wB.heap.size,0,none⟩=some (.int .i64 (q:Int)):=by simp[World.cell?,hbx]
  have HW:=ab9 hw;have HI:=ab9 hI;have HBX:=ab9 hbx;have hd2:1≤6-1-1:=by omega
  clear hw hI hq hrow hbx
  gi_wp2
  refine⟨trivial,?_⟩;refine(CallsIn.inRound l (abw.2 HW.o)).mono ?_;rintro e W2 ⟨rfl,hbx,hKF,LX,hI2⟩;have c2:W2.cell? ⟨wB.heap.size,0,none⟩=some (.int .i64 (q:Int)):=(World.cell?_of_block hbx).trans c1;have f2:W2.frozen? ⟨wB.heap.size,0,none⟩=false:=by simp[World.frozen?,hbx,HBX.o]
  have HI2:=ab9 hI2;clear hI2
  gi_wp2
  have hn2:∀y,w.heap.size≤y→¬F1 y:=fun y hy hx=>by have:=hlow y hx;omega
  refine⟨hKF.trans ((KeepsOthers.setCell _ _ _).from _),⟨?_,?_⟩,HI2.o⟩
  ·exact World.cell?_of_block (a:=⟨wB.heap.size+1,0,none⟩) ((aL W2 ⟨wB.heap.size,0,none⟩ _ _ (by simp)).trans (LX _ (by dsimp only;omega) (hn2 _ (by dsimp only;omega))))
  ·exact World.cell?_of_block (a:=⟨wB.heap.size+2,0,none⟩) ((aL W2 ⟨wB.heap.size,0,none⟩ _ _ (by simp)).trans (LX _ (by dsimp only;omega) (hn2 _ (by dsimp only;omega))))
 case done=>
  rintro D xs W hDl rfl hI hK;have c0:W.cell? ⟨w.heap.size,0,none⟩=some (ptr d):=by
   have h9:=hI.keep.block w.heap.size (by omega) fun hx=>by
    rcases hx with hx|hx
    ·have:=hlow _ hx;omega
    ·omega
   simp[World.cell?,h9,k0]
  have DT:=ab9 (hI.flush hM hi hFo HB1.o hlow (by omega) hDl hK hmb rfl hbs)
  gi_wp2
  refine⟨trivial,?_⟩;refine(abw.2 DT.o).mono ?_;rintro e W2 ⟨rfl,hK2,hR2⟩
  gi_wp2
  refine⟨by simp,.inl ⟨_,_,rfl,run_takeDeferred hK2,?_⟩⟩;exact⟨_,results_none rfl _ _ _,hR2 _⟩
 case stop=>
  rintro D c pre W _ _ h _;exact h.elim
open Go.ChangeShapes Go.WideShapes Go.ChangeAt Go.RowKit
structure vN where
 sealed:Nat
 head:List UInt8
 next:Int
 wait:List RecM
def FT(n d:Nat)(L:vN)(ha:Option Addr)(hc:Nat)(v:Value):Array Value:= #[ptr d,.int .i64 (n:Int),.int .i64 ((n:Int)/4),.int .i64 (((n:Int)-1-2*((n:Int)/4))/8),.int .i64 (L.sealed:Int),.slice ha 32 hc,.int .u64 L.next,v]
structure jm(o:Mark)(i:Nat)(w:World)(p n d:Nat)(L:vN):Prop where
 at_:∃ha hc v vals,w.heap[p]? =some (.cells (FT n d L ha hc v) 140 (0,0))∧ah (Free o w) w ha 32 (L.head.map bv)∧32≤hc∧w.ownsRow 0 69 3 v L.wait.length vals∧(∀b,v.ownBlock=some b→o b=i∧b≠p∧b<w.heap.size)∧iL (Free o w) w vals L.wait
 own:o p=i
section
variable{W w w':World}{o o':Mark}{i p n d:Nat}{L:vN}
theorem jm.lt(h:jm o i w p n d L):p<w.heap.size:=by
 obtain⟨ha,hc,v,vals,h1,_⟩:=h.at_;exact(uh.1 h1).1
theorem jm.step{I:Nat→Prop}(h:jm o i w p n d L)(h0:¬I 0)(hi:¬I i)(hs:Step o I w o' w'):jm o' i w' p n d L:=by
 have hlt:=h.lt;obtain⟨ha,hc,v,vals,h1,h2,h3,h4,h5,h6⟩:=h.at_;refine⟨⟨ha,hc,v,vals,(hs.block hlt (by rw[h.own];exact hi)).trans h1,h2.free h0 hs,h3,bR h4 fun b hb hbw=>hs.block hbw (by rw[(h5 b hb).1];exact hi),fun b hb=> ?_,h6.imp fun _ _ _ hr=>hr.free h0 hs⟩,(hs.old p hlt).trans h.own⟩;obtain⟨k1,k2,k3⟩:=h5 b hb;exact⟨(hs.old b k3).trans k1,k2,Nat.lt_of_lt_of_le k3 hs.keep.size⟩
theorem jm.grow(h:jm o i w p n d L)(hM:Marks W o w)(hb:Below w.heap.size w w'):jm o i w' p n d L:=h.step (I:=fun _=>False) (fun h=>h) (fun h=>h) (Step.grow hM hb)
theorem jm.Xh(h:jm o i w p n d L):L.head.length=32:=by
 obtain⟨ha,hc,v,vals,h1,h2,_⟩:=h.at_;simpa using h2.length
theorem jm.cells(h:jm o i w p n d L):∃ha hc v,32≤hc∧ah (Free o w) w ha 32 (L.head.map bv)∧∀u,Below w.heap.size w u→u.cell? ⟨p,0,none⟩=some (ptr d)∧u.cell? ⟨p,1,none⟩=some (.int .i64 (n:Int))∧u.cell? ⟨p,2,none⟩=some (.int .i64 ((n:Int)/4))∧u.cell? ⟨p,3,none⟩=some (.int .i64 (((n:Int)-1-2*((n:Int)/4))/8))∧u.cell? ⟨p,4,none⟩=some (.int .i64 (L.sealed:Int))∧u.cell? ⟨p,5,none⟩=some (.slice ha 32 hc)∧u.cell? ⟨p,6,none⟩=some (.int .u64 L.next)∧u.cell? ⟨p,7,none⟩=some v∧(∃a c,v= .slice a L.wait.length c∧L.wait.length≤c):=by
 have hlt:=h.lt;obtain⟨ha,hc,v,vals,h1,h2,h3,h4,_⟩:=h.at_;obtain⟨a,c,e,hle⟩:=bG h4;refine⟨ha,hc,v,h3,h2,fun u hb=> ?_⟩;have h9:=(hb.block p hlt).trans h1;refine⟨?_,?_,?_,?_,?_,?_,?_,?_,a,c,e,hle⟩<;>simp[World.cell?,h9,FT]
theorem E8(h:jm o i w p n d L)(hn:0≤L.next∧L.next≤1099511627776)(hw:L.wait.length≤1000):Calls Tryz.prog 22 #[ptr p] w fun e w'=>e= .returned (.int .u64 (L.next+(L.wait.length:Int)))∧Below w.heap.size w w':=by
 obtain⟨ha,hc,v,-,-,hcell⟩:=h.cells;obtain⟨-,-,-,-,-,-,-,-,a,c,rfl,-⟩:=hcell w acf;obtain⟨N,hN⟩:∃N,N=L.wait.length:=⟨_,rfl⟩;obtain⟨X,hX⟩:∃X,X=L.next:=⟨_,rfl⟩;rw[←hN,←hX]at hcell⊢;rw[←hN]at hw;rw[←hX]at hn;have JD:∀u:World,Below w.heap.size w u→u.cell? ⟨p,6,none⟩=some (.int .u64 X):=fun u hb=>(hcell u hb).2.2.2.2.2.2.1;have uF:∀u:World,Below w.heap.size w u→u.cell? ⟨p,7,none⟩=some (.slice a N c):=fun u hb=>(hcell u hb).2.2.2.2.2.2.2.1;have ew:IntKind.u64.wrap (N:Int)=(N:Int):=by simp[IntKind.wrap,IntKind.bits,IntKind.signed];omega
 have ew2:IntKind.u64.wrap (X+(N:Int))=X+(N:Int):=by simp[IntKind.wrap,IntKind.bits,IntKind.signed];omega
 clear h hcell hN hX;go_enter Tryz.func22,Tryz.ntmps22;go_wp2_with fail;refine xG ((fun w'=>Below w.heap.size w w')) ?_ fun hS=> ?_
 ·exact acf.drew
 refine aR 0 hS ?_;refine aR 1 hS ?_;refine aR 2 hS ?_;refine aR 3 hS ?_;refine aR 4 hS ?_;refine aR 5 hS ?_;refine aR 6 hS ?_;refine aR 7 hS ?_;refine aR 8 hS ?_;refine aR 9 hS ?_;refine aR 10 hS ?_;refine aR 11 hS ?_;refine wQ ?_;have HB:=ab9 hS;clear hS JD uF;go_wp2_with fail;go_ret;exact⟨rfl,HB.o⟩
theorem l_room(h:jm o i w p n d L)(hn:64≤n∧n≤4096)(hs:L.sealed≤gV n):Calls Tryz.prog 74 #[ptr p] w fun e w'=>e= .returned (.int .i64 ((gV n-L.sealed:Nat):Int))∧Below w.heap.size w w':=by
 obtain⟨ha,hc,v,-,-,hcell⟩:=h.cells;obtain⟨N,hN⟩:∃N,N=L.sealed:=⟨_,rfl⟩;rw[←hN]at hcell hs⊢;have hsg:((n:Int)-1-2*((n:Int)/4))/8=(gV n:Int):=by unfold gV;omega
 have hsn:gV n≤4096:=by unfold gV;omega
 rw[hsg]at hcell;obtain⟨K,hK⟩:∃K,K=gV n:=⟨_,rfl⟩;rw[←hK]at hcell hs hsn⊢;have hq3:∀u:World,Below w.heap.size w u→u.cell? ⟨p,3,none⟩=some (.int .i64 (K:Int)):=fun u hb=>(hcell u hb).2.2.2.1;have hq4:∀u:World,Below w.heap.size w u→u.cell? ⟨p,4,none⟩=some (.int .i64 (N:Int)):=fun u hb=>(hcell u hb).2.2.2.2.1;have ew:IntKind.i64.wrap ((K:Int)-(N:Int))=((K-N:Nat):Int):=by rw[aah _ (by omega)];omega
 clear h hcell hN hK hsg;go_enter Tryz.func74,Tryz.ntmps74;go_wp2_with fail;refine xG ((fun w'=>Below w.heap.size w w')) ?_ fun hS=> ?_
 ·exact acf.drew
 refine aR 0 hS ?_;refine aR 1 hS ?_;refine aR 2 hS ?_;refine aR 3 hS ?_;refine aR 4 hS ?_;refine aR 5 hS ?_;refine aR 6 hS ?_;refine aR 7 hS ?_;refine aR 8 hS ?_;refine aR 9 hS ?_;refine aR 10 hS ?_;refine wQ ?_;have HB:=ab9 hS;clear hS hq3 hq4;go_wp2_with fail;go_ret;exact⟨rfl,HB.o⟩
theorem E9(h:jm o i w p n d L):Calls Tryz.prog 81 #[ptr p] w fun e w'=>e= .returned (.int .i64 (L.sealed:Int))∧w=w':=by
 obtain⟨ha,hc,v,-,-,hcell⟩:=h.cells;obtain⟨-,-,-,-,q4,-⟩:=hcell w acf;clear h hcell;go_enter Tryz.func81,Tryz.ntmps81;go_wp2_with fail;go_ret;exact⟨rfl,rfl⟩
theorem Tt(h:jm o i w p n d L):Calls Tryz.prog 80 #[ptr p] w fun e w'=>e= .returned (.int .i64 (L.wait.length:Int))∧w=w':=by
 obtain⟨ha,hc,v,-,-,hcell⟩:=h.cells;obtain⟨-,-,-,-,-,-,-,q7,a,c,rfl,-⟩:=hcell w acf;clear h hcell;go_enter Tryz.func80,Tryz.ntmps80;go_wp2_with fail;go_ret;exact⟨rfl,rfl⟩
theorem Xi(h:jm o i w p n d L):Calls Tryz.prog 82 #[ptr p] w fun e w'=>∃a c,e= .returned (.slice a 32 c)∧32≤c∧ah (fun b=>w.heap.size≤b∧b<w'.heap.size) w' a 32 (L.head.map bv)∧Below w.heap.size w w':=by
 obtain⟨ha,hc,v,-,hr,hcell⟩:=h.cells;obtain⟨-,-,-,-,-,q5,-⟩:=hcell w acf;have zF:=ab9 (pW ha 32 hc L.head w (by omega) hr);have hl:=h.Xh;clear h hcell hr;go_enter Tryz.func82,Tryz.ntmps82;go_wp2_with fail;refine zF.o.mono ?_;rintro e w1 ⟨a1,n1,c1,rfl,hc1,hr1,hb1⟩;obtain rfl:n1=32:=by have:=hr1.length;rw[List.length_map,hl]at this;exact this.symm
 have HR1:=ab9 hr1;have HB1:=ab9 hb1;clear hr1 hb1 zF;go_wp2_with fail;go_ret;exact⟨a1,c1,rfl,hc1,HR1.o,HB1.o⟩
theorem l_did(h:jm o i w p n d L)(hM:Marks W o w)(hi:i≠0)(x:QM)(hx:Sl x)(hs:L.sealed≤10000)(pa ra:Option Addr)(pc rc:Nat)(hp:ah (fun b=>o b≠i) w pa 32 (x.prev.map bv))(hr:ah (fun b=>o b≠i) w ra 32 (x.root.map bv)):
  Calls Tryz.prog 79 #[ptr p,.agg (BX x pa pc ra rc)] w fun e w'=>e= .returned (.tuple #[])∧Step o (fun k=>k=i) w o w'∧jm o i w' p n d ⟨L.sealed+1,kg (uz x),x.first+x.count,L.wait⟩:=by
 have hlt:=h.lt;have hop:=h.own;obtain⟨ha,hc,v,vals,h1,h2,h3,h4,h5,h6⟩:=h.at_;obtain⟨N,hN⟩:∃N,N=L.sealed:=⟨_,rfl⟩;have e1:IntKind.i64.wrap ((N:Int)+1)=(N:Int)+1:=by rw[aah _ (by omega)]
 have g1:=hx.first;have g2:=hx.count;have e2:IntKind.u64.wrap x.count=x.count:=by simp[IntKind.wrap,IntKind.bits,IntKind.signed];omega
 have e3:IntKind.u64.wrap (x.first+x.count)=x.first+x.count:=by simp[IntKind.wrap,IntKind.bits,IntKind.signed];omega
 obtain⟨wA,Xg⟩:∃wA,wA=w.setCell ⟨p,4,none⟩ (.int .i64 ((N:Int)+1)):=⟨_,rfl⟩;have hkA:Keeps (fun b=>b=p) w wA:=by rw[Xg];exact Keeps.kX w ⟨p,4,none⟩ _
 have hsA:wA.heap.size=w.heap.size:=by rw[Xg,size_set]
 have hPA:wA.heap[p]? =some (.cells (FT n d ⟨L.sealed+1,L.head,L.next,L.wait⟩ ha hc v) 140 (0,0)):=by
  rw[Xg,aK h1,hN];rfl
 obtain⟨w2,hw2⟩:∃w2,w2=wA.alloc (.cells (BX x pa pc ra rc) 144):=⟨_,rfl⟩;have hb2:Below wA.heap.size wA w2:=by rw[hw2];exact wall wA _
 have hx2:w2.heap[w.heap.size]? =some (.cells (BX x pa pc ra rc) 144 (0,0)):=by rw[hw2,←hsA];exact(MapKept.heap_alloc wA _).1
 have hz2:w.heap.size<w2.heap.size:=(uh.1 hx2).1;have hP2:=(hb2.block p (by omega)).trans hPA;have q4:w.cell? ⟨p,4,none⟩=some (.int .i64 (N:Int)):=by simp[World.cell?,h1,FT,hN]
 have f4:w.frozen? ⟨p,4,none⟩=false:=by simp[World.frozen?,h1]
 have hmv:∀{a:Option Addr} {bs:List UInt8},ah (fun b=>o b≠i) w a 32 (bs.map bv)→ah (fun b=>o b≠i) w2 a 32 (bs.map bv):=fun hr=>(hr.kept hkA.size fun b hb hbw=>hkA.block b hbw fun(e:b=p)=>hb (by rw[e];exact hop)).below hb2 ace;have HSL:=ab9 (N9 x hx pa ra pc rc w2 (hmv hp) (hmv hr));have HW2:=ab9 hw2;have YG:=ab9 Xg;have YK:=ab9 hkA;have HB2:=ab9 hb2;have YN:=ab9 hP2;have VK:=ab9 hx2;have HR2:=ab9 h2;have HV:=ab9 (And.intro h4 (And.intro h5 h6));have HM:=ab9 hM;have hcl:=AZ hx;unfold BX at HSL HW2⊢;rw[Xg]at HW2;have HN:=ab9 hN;clear h hx hp hr h1 h2 h4 h5 h6 Xg hw2 hx2 hP2 hPA hkA hb2 hM hmv hN;go_enter Tryz.func79,Tryz.ntmps79;go_wp2_with fail;rw[←HW2.o];refine HSL.o.mono ?_;rintro e w3 ⟨a3,n3,c3,rfl,hc3,hr3,hb3⟩;obtain rfl:n3=32:=by have:=hr3.length;rw[List.length_map,dY]at this;exact this.symm
 have hP3:=(hb3.block p (by omega)).trans YN.o;have hx3:=(hb3.block _ hz2).trans VK.o;have q5:w3.cell? ⟨p,5,none⟩=some (.slice ha 32 hc):=by simp[World.cell?,hP3,FT]
 have f5:w3.frozen? ⟨p,5,none⟩=false:=by simp[World.frozen?,hP3]
 have q6:w3.cell? ⟨p,6,none⟩=some (.int .u64 L.next):=by simp[World.cell?,hP3,FT]
 have f6:w3.frozen? ⟨p,6,none⟩=false:=by simp[World.frozen?,hP3]
 obtain⟨c0,c1,c2,c3',c4,c5⟩:=ES hx3;have HP3:=ab9 hP3;have HR3:=ab9 hr3;have HB3:=ab9 hb3;clear hr3 hb3 hP3 hx3 HSL;go_wp2_with fail
 go_end0
 obtain⟨wF,hwF⟩:∃wF,wF=(w3.setCell ⟨p,5,none⟩ (.slice a3 32 c3)).setCell ⟨p,6,none⟩ (.int .u64 (x.first+x.count)):=⟨_,rfl⟩;rw[←hwF];have hkF:Keeps (fun b=>b=p) w3 wF:=by rw[hwF];exact Keeps.set2 w3 p 5 6 _ _
 have hPF:wF.heap[p]? =some (.cells (FT n d ⟨L.sealed+1,kg (uz x),x.first+x.count,L.wait⟩ a3 c3 v) 140 (0,0)):=by
  rw[hwF,aK (aK HP3.o)];rfl
 have hs3:=HB3.o.size;have hs2:=HB2.o.size;have hsF:=hkF.size;have hblk:∀b,b<w.heap.size→b≠p→wF.heap[b]? =w.heap[b]? :=fun b hb hne=>(hkF.block b (by omega) hne).trans ((HB3.o.block b (by omega)).trans ((HB2.o.block b (by omega)).trans (YK.o.block b hb hne)));have hfree:∀{a:Option Addr} {n:Nat} {vs:List Value},ah (Free o w) w a n vs→ah (Free o wF) wF a n vs:=fun hr=>hr.move (by omega) fun b hb hbw=>⟨⟨hb.1,by omega⟩,hblk b hbw fun e=>by rw[e]at hb;exact hi (hop.symm.trans hb.1)⟩;obtain⟨h4,h5,h6⟩:=HV.o;refine⟨rfl,⟨fun _ _=>rfl,fun b hb hn=>by have:=(HM.o.new b hn).2;omega,⟨hkF.os.trans (HB3.o.os.trans (HB2.o.os.trans YK.o.os)),hkF.tape.trans (HB3.o.tape.trans (HB2.o.tape.trans YK.o.tape)),hkF.output.trans (HB3.o.output.trans (HB2.o.output.trans YK.o.output)),by omega,fun b hb hn=>hblk b hb fun e=>hn (by rw[e];exact hop)⟩⟩,⟨⟨a3,c3,v,vals,hPF,?_,hc3,bR h4 fun b hb hbw=>hblk b hbw (h5 b hb).2.1,fun b hb=>⟨(h5 b hb).1,(h5 b hb).2.1,by have:=(h5 b hb).2.2;omega⟩,h6.imp fun _ _ _ hr=>hfree hr⟩,hop⟩⟩;refine(HR3.o.move hsF fun b hb hbw=>⟨⟨Vh fun h9=>by have:=(HM.o.new b h9).2;omega,by omega⟩,hkF.block b hbw fun(e:b=p)=>by omega⟩)
end
def secs(b:List UInt8)(first k:Nat):List UInt8:=(b.drop (first*128)).take (k*128)
theorem Im(b:List UInt8)(first k:Nat):secs b first (k+1)=secs b first k++rowsOf b (first+k):=by
 unfold secs rowsOf;rw[show(k+1)*128=k*128+128 by omega,List.take_add,aaS,show(first+k)*128=first*128+k*128 by omega]
theorem E_{o:Mark}{i d n:Nat}{b:List UInt8}{cl:Prop}{c:Int}{w:World}(h:dP o i w d n b cl c)(k:Nat)(hk:k<gV n):
  Calls Tryz.prog 92 #[ptr d,.agg (aW n),.int .i64 (k:Int)] w fun e w'=>∃a c,e= .returned (.slice a 1024 c)∧1024≤c∧ah (fun x=>w.heap.size≤x∧x<w'.heap.size) w' a 1024 ((secs b (je n k) 8).map bv)∧Below w.heap.size w w':=by
 have hl:=h.len;have hsa:=zZ hl.2.1 hk;have nE:=ab9 (fun w'=>LY n k hl.2.1 hl.2.2 hk w');obtain⟨first,hfi⟩:∃first,first=je n k:=⟨_,rfl⟩
 rw[←hfi]at hsa nE⊢;have zR:=ab9 (fun(j:Nat) (hj:j<n) (u:World) (hb:Below w.heap.size w u)=>JC (h.grow hb) j hj);obtain⟨w1,hw1⟩:∃w1,w1=w.alloc (.cells (aW n) 57):=⟨_,rfl⟩;have HB1:acd (Below w.heap.size w w1):=by rw[hw1];exact wall w _
 have HW1:=ab9 hw1;have HL:=ab9 hl.1;obtain⟨i0,hi,hz0,hz1,hz2⟩:=aay Tryz.uP;have hn9:=hl.2.2;unfold aW at nE HW1⊢;clear h hfi hw1 hl hk;go_enter Tryz.func92,Tryz.ntmps92;go_wp2_with fail;rw[←HW1.o];refine(nE.o w1).mono ?_;rintro e w2 ⟨rfl,hb2⟩;have HB2:=ab9 (HB1.o.trans (hb2.mono HB1.o.size));clear hb2;go_wp2_with fail
 go_loopw [9,10] (fun v iv wr=>∃j:Nat,j≤8∧iv= .int .i64 j∧wr.ownsRow w.heap.size 5 1 v (j*128) ((secs b first j).map bv)∧Below w.heap.size w wr) (fun _ iv _=>8-(intOf iv).toNat)
 case atStart=>exact⟨0,by omega,rfl,⟨by simp[secs],.inl ⟨rfl,rfl⟩⟩,HB2.o⟩
 case round=>
  obtain⟨j,hj,rfl,hown,hb⟩:=hrel;have HB:=ab9 hb;have HO:=ab9 hown;obtain⟨av,cv,rfl,hcv⟩:=bG hown;have hbs:=hb.size;clear hown;by_cases hlt:j<8
  ·have hd:decide ((j:Int)<8)=true:=aal (by omega);obtain⟨m,hm⟩:∃m,m=first+j:=⟨_,rfl⟩
   have HMM:=ab9 hm;have e1:IntKind.i64.wrap ((first:Int)+(j:Int))=(m:Int):=by rw[aah _ (by omega)];omega
   have HC:=ab9 (zR.o m (by omega) _ hb);have hrl:(rowsOf b m).length=128:=fU HL.o (by omega);clear hb hm;go_wp2_with fail;refine HC.o.mono ?_;rintro e w3 ⟨a3,c3,rfl,hc3,hr3,hb3⟩;have HR3:=ab9 hr3;have K9:=ab9 (jk HO.o hb3);have HB3:=ab9 (HB.o.trans (hb3.mono HB.o.size));have hs3:=hb3.size;clear hr3 hb3 HC;go_wp2_with (at_builtin;refine bV (by rfl) _ _ 32 (by rfl) w.heap.size 5 i0 (.int .u8 0) 1 Tryz.underlying32 hi hz0 hz1 hz2 rfl _ _ _ (by rfl) K9.o a3 128 c3 ((rowsOf b m).map bv) (by rfl) HR3.o (iU _) (by unfold maxLen;omega) (by omega) (by omega) ?_;intro A' c' w4 lK hg4 _ _;have ZH:=ab9 lK;have HG4:=ab9 hg4;clear lK hg4);go_roundw
   case rel=>
    refine⟨j+1,by omega,by go_num,?_,HB3.o.trans ((Keeps.grown HG4.o).bQ HB3.o.size fun y hy e=>by have:=bC K9.o y e;omega)⟩;rw[Im,←HMM.o,aaz,show(j+1)*128=j*128+128 by omega];exact ZH.o
   case measure=>simp[intOf];omega
  ·have hd:decide ((j:Int)<8)=false:=aaf (by omega);obtain rfl:j=8:=by omega
   clear hb;go_wp2_with fail;go_ret;exact⟨av,cv,rfl,hcv,(ah.mU HO.o).2,HB.o⟩
theorem LZ{B B' n k:Nat}{e:TypeId}{v:Value}{vals:List Value}{w:World}(h:w.ownsRow B e k v n vals)(hb:B'≤B):w.ownsRow B' e k v n vals:=
 ⟨h.1,h.2.imp id fun⟨g,cap,cur,e1,e2,e3⟩=>⟨g,cap,cur,e1,by omega,e3⟩⟩
theorem OW{B n:Nat}{v:Value}{vals:List Value}{w:World}(hv:w.ownsRow B 69 3 v n vals)(h1:∀u∈vals,u.oneCell'=true)(hn:n≤1000):
  Calls Tryz.prog 73 #[v] w fun e w'=>∃v',e= .returned v'∧w'.ownsRow w.heap.size 69 3 v' n vals∧Below w.heap.size w w':=by
 obtain⟨i0,hi,hz0,hz1,hz2⟩:=aay Tryz.Jk;obtain⟨a,c,rfl,hcap⟩:=bG hv;obtain⟨-,-,hr⟩:=ah.mF hv (by unfold maxLen;omega);have heq:=fun w=>Lib.run_eql_slice_nil (P:=Tryz.prog) w 137 69 a n c 0 0 Tryz.underlying137;rcases a with _|ad
 ·have h0:n=0:=by
   rcases aaF n with h0|h0
   ·exact h0
   ·obtain⟨_,_,h,_⟩:=hr.at_ (Nat.mul_pos h0 (by omega:0<3));cases h
  subst h0;obtain rfl:vals=[]:=Pe (by have:=hr.length;omega);clear hv hr h1;go_enter Tryz.func73,Tryz.ntmps73;go_wp2_with fail;go_ret;exact⟨_,rfl,⟨rfl,.inl ⟨rfl,rfl⟩⟩,Below.refl _ _⟩
 ·have hb0:Below w.heap.size w (w.alloc (.cells #[] 69)):=wall w _;have HR:=ab9 (hr.move hb0.size fun b hb hbw=>⟨hb.2,hb0.block b hb.2⟩);have HO:=ab9 (rV (k:=3) (MapKept.heap_alloc w (.cells #[] 69)).1 ace);have H1:=ab9 h1;have HB0:=ab9 hb0;clear hv hr h1 hb0;go_enter Tryz.func73,Tryz.ntmps73;go_wp2_with (at_builtin;refine eO (by rfl) _ _ 137 (by rfl) w.heap.size 69 i0 _ 3 40 Tryz.underlying137 hi hz0 hz1 hz2 rfl (by omega) _ _ _ (by rfl) HO.o (some ad) n c vals (by rfl) HR.o H1.o (by unfold maxLen;omega) (by omega) (by have:=HB0.o.size;omega) ?_;intro A' c' w2 hown2 hb2);go_ret;rw[Nat.zero_add]at hown2;exact⟨_,by simp,hown2,HB0.o.trans hb2⟩
open Classical in
theorem JE{W w w1 wA wB wC wD wE:World}{o:Mark}{i p n d m:Nat}{L:vN}{ha:Option Addr}{hc:Nat}{av:Option Addr}{cv:Nat}{vals:List Value}{x:RecM}{aB AD:Option Addr}{cB cD:Nat}(hi:i≠0)(hop:o p=i)(hM:Marks W o w)(hm:m=L.wait.length)(k2:ah (Free o w) w ha 32 (L.head.map bv))(k3:32≤hc)(k4:w.ownsRow 0 69 3 (.slice av m cv) m vals)(k5:∀b,(Value.slice av m cv).ownBlock=some b→o b=i∧b≠p∧b<w.heap.size)(k6:iL (Free o w) w vals L.wait)
  (hb1:Below w.heap.size w w1)(OX:Keeps (fun b=>b=w.heap.size) w1 wC)(hzC:wC.heap.size=wB.heap.size)(hPD:wD.heap[p]? =some (.cells (FT n d L ha hc (.slice av m cv)) 140 (0,0)))(YQ:Keeps (fun b=>(Value.slice av m cv).ownBlock=some b) wC wD)(hzD:wC.heap.size+1≤wD.heap.size)
  (hown:wD.ownsRow 0 69 3 (.slice AD (m+1) cD) (m+1) (vals++[.int .i64 x.kind,.int .u64 x.seq,.slice aB x.body.length cB]))(hat:(Value.slice AD (m+1) cD).ownBlock=(Value.slice av m cv).ownBlock∨(Value.slice AD (m+1) cD).ownBlock=some (wC.heap.size+1))(hrB:ah (fun b=>wA.heap.size≤b∧b<wB.heap.size) wC aB x.body.length (x.body.map bv))(hcB:x.body.length≤cB)(hsA:w.heap.size<wA.heap.size)(hp:p<w.heap.size)(Sn:wE=wD.setCell ⟨p,7,none⟩ (.slice AD (m+1) cD)):∃o',Step o (fun k=>k=i) w o' wE∧jm o' i wE p n d ⟨L.sealed,L.head,L.next,L.wait++[x]⟩:=by
 have s1:=hb1.size;have s2:=OX.size;have s3:wE.heap.size=wD.heap.size:=by rw[Sn,size_set]
 have hset:∀b,b≠p→wE.heap[b]? =wD.heap[b]? :=fun b hb=>by rw[Sn];exact aL wD ⟨p,7,none⟩ _ b hb
 have hk:∀b,b<w.heap.size→o b≠i→wE.heap[b]? =w.heap[b]? :=fun b hb hn=>(hset b fun e=>hn (by rw[e];exact hop)).trans ((YQ.block b (by omega) fun e=>hn (k5 b e).1).trans ((OX.block b (by omega) fun(e:b=_)=>by omega).trans (hb1.block b hb)));have hnew:∀b,w.heap.size≤b→o b=0:=fun b hb=>Vh fun h9=>by have:=(hM.new b h9).2;omega
 obtain⟨o',ho⟩:∃o':Mark,∀b,o' b=if w.heap.size≤b∧(Value.slice AD (m+1) cD).ownBlock=some b then i else o b:=⟨_,fun _=>rfl⟩;have hold:∀b,b<w.heap.size→o' b=o b:=fun b hb=>by rw[ho,if_neg fun h=>by omega]
 have hfree:∀{a:Option Addr} {n:Nat} {vs:List Value},ah (Free o w) w a n vs→ah (Free o' wE) wE a n vs:=fun hr=>hr.move (by omega) fun b hb hbw=>⟨⟨(hold b hbw).trans hb.1,by omega⟩,hk b hbw fun e=>hi (e.symm.trans hb.1)⟩;have hlt:=jf hown;refine⟨o',⟨hold,fun b hb hn=> ?_,⟨?_,?_,?_,by omega,hk⟩⟩,⟨⟨ha,hc,.slice AD (m+1) cD,_,?_,hfree k2,k3,?_,fun b hb=> ?_,(k6.imp fun _ _ _ hr=>hfree hr).append ⟨_,[],rfl,⟨aB,cB,rfl,hcB,?_⟩,rfl⟩⟩,(hold p hp).trans hop⟩⟩
 ·rw[ho]at hn⊢;by_cases h9:w.heap.size≤b∧(Value.slice AD (m+1) cD).ownBlock=some b
  ·rw[if_pos h9];exact⟨rfl,by have:=hlt b h9.2;omega⟩
  ·rw[if_neg h9]at hn;exact absurd (hnew b hb) hn
 ·rw[Sn];exact YQ.os.trans (OX.os.trans hb1.os)
 ·rw[Sn];exact YQ.tape.trans (OX.tape.trans hb1.tape)
 ·rw[Sn];exact YQ.output.trans (OX.output.trans hb1.output)
 ·rw[Sn,aK hPD];rfl
 ·have h9:wE.ownsRow 0 69 3 (.slice AD (m+1) cD) (m+1) (vals++[.int .i64 x.kind,.int .u64 x.seq,.slice aB x.body.length cB]):=bR hown fun b hb hbw=>hset b fun e=>by
   rcases hat with h8|h8
   ·rw[h8]at hb;exact(k5 b hb).2.1 e
   ·rw[h8]at hb;have:=aaH hb;omega
  rw[show(L.wait++[x]).length=m+1 by rw[List.length_append,aaV,hm]];exact h9
 ·rcases hat with h8|h8
  ·have h7:=k5 b (by rw[←h8];exact hb);exact⟨(hold b h7.2.2).trans h7.1,h7.2.1,by omega⟩
  ·have h7:b=wC.heap.size+1:=by rw[h8]at hb;exact(aaH hb).symm
   exact⟨by rw[ho,if_pos ⟨by omega,hb⟩],by omega,by have:=hlt b hb;omega⟩
 ·refine hrB.move (by omega) fun b hb hbw=>⟨⟨?_,by omega⟩,(hset b (by omega)).trans (YQ.block b hbw fun e=>by have:=(k5 b e).2.2;omega)⟩;rw[ho,if_neg fun h=> ?_]
  ·exact hnew b (by omega)
  ·rcases hat with h8|h8
   ·rw[h8]at h;have:=(k5 b h.2).2.2;omega
   ·rw[h8]at h;have:=aaH h.2;omega
section
variable{W w:World}{o:Mark}{i p n d:Nat}{L:vN}
theorem Fa{S:Nat→Prop}(h:jm o i w p n d L)(hM:Marks W o w)(hi:i≠0)(hn:64≤n∧n≤4096)(hs:L.sealed<gV n)(hnx:0≤L.next∧L.next≤1099511627776)(Ed:L.wait.length≤90)(hok:∀x∈L.wait,zl x)(x:RecM)(hx:zl x)(hseq:x.seq=L.next+(L.wait.length:Int))(hfit:uy (L.wait++[x])≤942)(a:Option Addr)(c:Nat)(hr:ah S w a x.body.length (x.body.map bv))(hc:x.body.length≤c):
  Calls Tryz.prog 21 #[ptr p,.agg (zi x a c)] w fun e w'=>e= .returned (.int .i64 0)∧∃o',Step o (fun k=>k=i) w o' w'∧jm o' i w' p n d ⟨L.sealed,L.head,L.next,L.wait++[x]⟩:=by
 have hlt:=h.lt;have hop:=h.own;have hxb:=hx.body;obtain⟨m,hm⟩:∃m,m=L.wait.length:=⟨_,rfl⟩;rw[←hm]at hseq Ed;obtain⟨w1,hw1⟩:∃w1,w1=w.alloc (.cells (zi x a c) 69):=⟨_,rfl⟩;have hb1:Below w.heap.size w w1:=by rw[hw1];exact wall w _
 have hx1:w1.heap[w.heap.size]? =some (.cells (zi x a c) 69 (0,0)):=by rw[hw1];exact(MapKept.heap_alloc w _).1
 have hz1:w.heap.size<w1.heap.size:=(uh.1 hx1).1;have LJ:acd (∀u,Below w1.heap.size w1 u→jm o i u p n d L):=ab9 fun u hb=>h.grow hM (hb1.trans (hb.mono hb1.size));have hq:∀u:World,Below w1.heap.size w1 u→u.cell? ⟨w.heap.size,0,none⟩=some (.int .i64 x.kind)∧u.cell? ⟨w.heap.size,1,none⟩=some (.int .u64 x.seq)∧u.cell? ⟨w.heap.size,2,none⟩=some (.slice a x.body.length c):=fun u hb=>zH ((hb.block _ hz1).trans hx1);have hq0:∀u:World,Below w1.heap.size w1 u→u.cell? ⟨w.heap.size,0,none⟩=some (.int .i64 x.kind):=fun u hb=>(hq u hb).1;have hq1:∀u:World,Below w1.heap.size w1 u→u.cell? ⟨w.heap.size,1,none⟩=some (.int .u64 x.seq):=fun u hb=>(hq u hb).2.1;have hq2:∀u:World,Below w1.heap.size w1 u→u.cell? ⟨w.heap.size,2,none⟩=some (.slice a x.body.length c):=fun u hb=>(hq u hb).2.2;have HQ:=ab9 hq;have qD:=ab9 (fun w'=>nS x hx a c w');have KZ:acd (∀u,Below w1.heap.size w1 u→Calls Tryz.prog 22 #[ptr p] u fun e u'=>e= .returned (.int .u64 x.seq)∧Below u.heap.size u u'):=ab9 fun u hb=>by
  rw[hseq,hm];exact E8 (LJ.o u hb) hnx (by omega)
 obtain⟨M1,hM1⟩:∃M1,M1=m+1:=⟨_,rfl⟩;obtain⟨R,hR⟩:∃R,R=gV n-L.sealed:=⟨_,rfl⟩;have hR0:((R:Int)==0)=false:=by simp;omega
 have dM:decide ((m:Int)<(M1:Int))=true:=aal (by omega);have dMn:decide (m<M1)=true:=aal (by omega);have Un:acd (∀u,Below w1.heap.size w1 u→Calls Tryz.prog 74 #[ptr p] u fun e u'=>e= .returned (.int .i64 (R:Int))∧Below u.heap.size u u'):=ab9 fun u hb=>by
  rw[hR];exact l_room (LJ.o u hb) hn (by omega)
 obtain⟨i0,hi0,hz0,hz1',hz2⟩:=aay Tryz.Jk;have HI:=ab9 (And.intro hi0 (And.intro hz0 (And.intro hz1' hz2)));have kr:=ab9 hM1;obtain⟨ha,hc',v,vals,k1,k2,k3,k4,k5,k6⟩:=h.at_;obtain⟨av,cv,rfl,hcv⟩:=bG k4;rw[←hm]at k1 k4 k5 hcv;have hP1:=(hb1.block p hlt).trans k1;have uF:∀u:World,Below w1.heap.size w1 u→u.cell? ⟨p,7,none⟩=some (.slice av m cv):=fun u hb=>by
  have h9:=(hb.block p (by omega)).trans hP1;simp[World.cell?,h9,FT]
 have HP1:=ab9 hP1;have HK:=ab9 (And.intro k2 (And.intro k3 (And.intro k4 (And.intro k5 k6))));have zF:acd (∀u,Below w1.heap.size w1 u→Calls Tryz.prog 73 #[.slice av m cv] u fun e u'=>∃v',e= .returned v'∧u'.ownsRow u.heap.size 69 3 v' m vals∧Below u.heap.size u u'):=ab9 fun u hb=>OW (jk (jk k4 hb1) (by exact hb)) k6.one (by omega);have HW1:=ab9 hw1;have HB1:=ab9 hb1;have BS:=ab9 hx1;have HH:=ab9 h;have HM:=ab9 hM;have HMM:=ab9 hm;have iM:=ab9 hok;have HXO:=ab9 hx;have HSQ:=ab9 hseq;have HFT:=ab9 hfit;have gN:=ab9 (fB hr);unfold zi at qD HW1⊢;clear h hM hok hx hr hw1 hx1 hm hseq hb1 hfit hq hM1 hR hi0 hz0 hz1' hz2 k1 k2 k4 k5 k6 hP1;go_enter Tryz.func21,Tryz.ntmps21;go_wp2_with fail;rw[←HW1.o];refine xG ((fun w'=>Below w1.heap.size w1 w')) ?_ fun hS=> ?_
 ·exact acf.drew
 refine aR 0 hS ?_;refine nK 1 fun K hK=> ?_;go_simp;refine(qD.o _).mono ?_;rintro e w2 ⟨rfl,hb2⟩;have HB2:=ab9 (hS.trans (hb2.mono hS.size));clear hb2;go_wp2_with fail;refine mQ hK (HB2.o) fun hS=> ?_;clear hK K;refine aR 2 hS ?_;refine aR 3 hS ?_;refine aR 4 hS ?_;refine aR 5 hS ?_;refine aR 6 hS ?_;refine nK 7 fun K hK=> ?_;go_simp;refine(KZ.o _ hS).mono ?_;rintro e w3 ⟨rfl,hb3⟩;have HB3:=ab9 (hS.trans (hb3.mono hS.size));clear hb3;go_wp2_with fail;refine mQ hK (HB3.o) fun hS=> ?_;clear hK K;refine aR 8 hS ?_;refine aR 9 hS ?_;refine wQ ?_;clear hS HB2;go_wp2_with fail;have HRCS:acd (∀u,Below w1.heap.size w1 u→iL (fun _=>True) u (vals++[.int .i64 x.kind,.int .u64 x.seq,.slice a x.body.length c]) (L.wait++[x])):=ab9 fun u hb=>by
  obtain⟨_,_,_,_,k6⟩:=HK.o;have hbw:=HB1.o.trans (hb.mono HB1.o.size);exact(k6.imp fun _ _ _ hr=>(hr.below hbw ace).mono fun _ _=>trivial).append ⟨_,[],rfl,⟨a,c,rfl,hc,(gN.o.below hbw ace).mono fun _ _=>trivial⟩,rfl⟩
 have HFI:acd (∀u A8 c8,Below w1.heap.size w1 u→u.ownsRow w1.heap.size 69 3 (.slice A8 (m+1) c8) (m+1) (vals++[.int .i64 x.kind,.int .u64 x.seq,.slice a x.body.length c])→Calls Tryz.prog 72 #[.slice A8 (m+1) c8] u fun e u'=>e= .returned (.int .i64 (M1:Int))∧Below u.heap.size u u'):=ab9 fun u A8 c8 hb ho=>by
  obtain⟨-,-,h3⟩:=ah.mF ho (by unfold maxLen;omega);have h4:=La (Q:=fun _=>True) (L.wait++[x]) (fun y hy=>by
   rcases aas.1 hy with hy|hy
   ·exact iM.o y hy
   ·rw[List.mem_singleton]at hy;rw[hy];exact HXO.o) A8 (m+1) c8 u ⟨_,h3.mono fun _ _=>trivial,HRCS.o u hb⟩ (by omega)
  have e9:Gm 942 (L.wait++[x])=M1:=by rw[Ev 942 _ HFT.o,List.length_append,aaV,←HMM.o,←kr.o]
  rw[e9]at h4;exact h4
 refine Cv 15 ((fun w'=>Below w1.heap.size w1 w')) ?_ fun hS=> ?_
 ·exact HB3.o.drew
 refine aY 0 hS ?_;refine aY 1 hS ?_;refine aY 2 hS ?_;refine aY 3 hS ?_;refine aY 5 hS ?_;refine aY 9 hS ?_;refine aY 10 hS ?_;refine aY 11 hS ?_;refine aY 12 hS ?_;refine aY 13 hS ?_;refine sM 4 6 (fun K hK=> ?wa) fun K hK=> ?wb
 case' wa=>
  go_simp;refine(zF.o _ hS).mono ?_;rintro e w4 ⟨v4,rfl,sJ,hb4⟩;obtain⟨a4,c4,rfl,hc4⟩:=bG sJ;have hB4:=hS.trans (hb4.mono hS.size);have VX:Below w1.heap.size w1 (w4.alloc (.cells #[.int .i64 x.kind,.int .u64 x.seq,.slice a x.body.length c] 69)):=hB4.alloc hB4.size _;have YF:=ab9 (jk (LZ (B':=w1.heap.size) sJ hS.size) (wall w4 (.cells #[.int .i64 x.kind,.int .u64 x.seq,.slice a x.body.length c] 69)));have YR:acd (ah (fun _=>True) (w4.alloc (.cells #[.int .i64 x.kind,.int .u64 x.seq,.slice a x.body.length c] 69)) (some ⟨w4.heap.size,0,none⟩) (1*3) [.int .i64 x.kind,.int .u64 x.seq,.slice a x.body.length c]):=ab9 ((kQ (w:=w4) [.int .i64 x.kind,.int .u64 x.seq,.slice a x.body.length c] 69 (by simp[maxLen])).mono fun _ _=>trivial);clear sJ hb4;go_wp2_with fail;refine dK hK (hB4) fun hS=> ?_;clear hK K;refine dW 6 fun K hK=> ?_;go_simp;refine dK hK (VX) fun hS=> ?_;clear hK K;obtain⟨w5,oL⟩:∃w5,w5=w4.alloc (.cells #[.int .i64 x.kind,.int .u64 x.seq,.slice a x.body.length c] 69):=⟨_,rfl⟩;rw[←oL]at VX YF YR hS⊢;obtain⟨gl,hgl⟩:∃gl,gl=w4.heap.size:=⟨_,rfl⟩;rw[←hgl]at YR⊢;clear oL hgl hB4
 case' wb=>
  go_simp;have hB4:Below w1.heap.size w1 (w3.alloc (.cells #[.int .i64 x.kind,.int .u64 x.seq,.slice a x.body.length c] 69)).drew:=(HB3.o.alloc HB3.o.size _).drew;have hl4:ah (fun _=>True) (w3.alloc (.cells #[.int .i64 x.kind,.int .u64 x.seq,.slice a x.body.length c] 69)).drew (some ⟨w3.heap.size,0,none⟩) (1*3) [.int .i64 x.kind,.int .u64 x.seq,.slice a x.body.length c]:=((kQ (w:=w3) [.int .i64 x.kind,.int .u64 x.seq,.slice a x.body.length c] 69 (by simp[maxLen])).below acf.drew ace).mono fun _ _=>trivial;refine dK hK (hB4) fun hS=> ?_;clear hK K;obtain⟨u4,hu4⟩:∃u4,u4=(w3.alloc (.cells #[.int .i64 x.kind,.int .u64 x.seq,.slice a x.body.length c] 69)).drew:=⟨_,rfl⟩;rw[←hu4]at hB4 hl4 hS⊢;clear hu4;refine dW 4 fun K hK=> ?_;go_simp;refine(zF.o _ hS).mono ?_;rintro e w5 ⟨v4,rfl,sJ,hb4⟩;obtain⟨a4,c4,rfl,hc4⟩:=bG sJ;have VX:Below w1.heap.size w1 w5:=hS.trans (hb4.mono hS.size);have YF:=ab9 (LZ (B':=w1.heap.size) sJ hS.size);have YR:=ab9 (hl4.below hb4 ace);clear sJ hb4 hl4;go_wp2_with fail;refine dK hK (VX) fun hS=> ?_;clear hK K;obtain⟨gl,hgl⟩:∃gl,gl=w3.heap.size:=⟨_,rfl⟩;rw[←hgl]at YR⊢;clear hgl hB4
 all_goals
  refine dW 7 fun K hK=> ?_;refine gP (by rfl) (.tmp 20) (.tmp 22) 137 (by rfl) w1.heap.size 69 i0 _ 3 40 Tryz.underlying137 HI.o.1 HI.o.2.1 HI.o.2.2.1 HI.o.2.2.2 rfl (by omega) (.slice a4 m c4) m vals (by rfl) YF.o (some ⟨gl,0,none⟩) 1 1 [.int .i64 x.kind,.int .u64 x.seq,.slice a x.body.length c] (by rfl) YR.o (by simp[Value.oneCell']) (by unfold maxLen;omega) (by omega) VX.size ?_;intro A8 c8 w8 L6 Ux hat8;have FL:Below w1.heap.size w1 w8:=VX.trans ((Keeps.grown Ux).bQ VX.size fun y hy e=>by have:=bC YF.o y e;omega);have HO8:=ab9 L6;clear L6 Ux hat8 YF YR;refine dK hK (FL) fun hS=> ?_;clear hK K;refine dW 8 fun K hK=> ?_;go_simp;refine(HFI.o _ _ _ hS HO8.o).mono ?_;rintro e w9 ⟨rfl,iT⟩;have Io:Below w1.heap.size w1 w9:=hS.trans (iT.mono hS.size);clear iT;go_wp2_with fail;refine dK hK (Io) fun hS=> ?_;clear hK K;refine aY 14 hS ?_;refine dW 15 fun K hK=> ?_;go_simp;refine sN hK ?_;clear hS hK K;have sU:=ab9 Io;clear HO8 FL VX Io;have YB:=ab9 (Un.o w9 sU.o);go_wp2_with fail;refine YB.o.mono ?_;rintro e wA ⟨rfl,MO⟩;have CX:=ab9 (sU.o.trans (MO.mono sU.o.size));clear MO;have c2:=hq2 wA CX.o;go_wp2_with fail;have HCB:=ab9 (pW a x.body.length c x.body wA (by omega) (gN.o.below (HB1.o.trans (CX.o.mono HB1.o.size)) ace));refine HCB.o.mono ?_;rintro e wB ⟨aB,nB,cB,rfl,hcB,hrB,ZL⟩;obtain rfl:nB=x.body.length:=by have:=hrB.length;rw[List.length_map]at this;exact this.symm
  have HRB:=ab9 hrB;have zN:=ab9 (CX.o.trans (ZL.mono CX.o.size));have hxB:=(zN.o.block _ hz1).trans BS.o;have q2:wB.cell? ⟨w.heap.size,2,none⟩=some (.slice a x.body.length c):=by simp[World.cell?,hxB,zi]
  have f2:wB.frozen? ⟨w.heap.size,2,none⟩=false:=by simp[World.frozen?,hxB]
  clear hrB ZL HCB c2;go_wp2_with fail;obtain⟨wC,hwC⟩:∃wC,wC=wB.setCell ⟨w.heap.size,2,none⟩ (.slice aB x.body.length cB):=⟨_,rfl⟩;have OX:Keeps (fun b=>b=w.heap.size) wB wC:=by rw[hwC];exact Keeps.kX wB ⟨w.heap.size,2,none⟩ _
  have hxC:wC.heap[w.heap.size]? =some (.cells (zi x aB cB) 69 (0,0)):=by
   rw[hwC,aK hxB];rfl
  have hzC:wC.heap.size=wB.heap.size:=by rw[hwC,size_set]
  rw[←hwC];have hPC:wC.heap[p]? =some (.cells (FT n d L ha hc' (.slice av m cv)) 140 (0,0)):=(OX.block p (by have:=zN.o.size;omega) (fun(e:p=_)=>by omega)).trans ((zN.o.block p (by omega)).trans HP1.o);have hpC:p<wC.heap.size:=(uh.1 hPC).1;have hbC:w.heap.size<wC.heap.size:=(uh.1 hxC).1;have YL:acd (∀w':World,w'.heap[p]? =wC.heap[p]? →w'.heap[w.heap.size]? =wC.heap[w.heap.size]? →w'.cell? ⟨p,7,none⟩=some (.slice av m cv)∧w'.frozen? ⟨p,7,none⟩=false∧w'.cell? ⟨w.heap.size,0,none⟩=some (.int .i64 x.kind)∧w'.cell? ⟨w.heap.size,1,none⟩=some (.int .u64 x.seq)∧w'.cell? ⟨w.heap.size,2,none⟩=some (.slice aB x.body.length cB)):=ab9 fun w' h1 h2=>by
   rw[hPC]at h1;rw[hxC]at h2;refine⟨?_,?_,?_,?_,?_⟩<;>simp[World.cell?,World.frozen?,h1,h2,FT,zi]
  have hsA9:=CX.o.size;have HRBC:acd (ah (fun b=>wA.heap.size≤b∧b<wB.heap.size) wC aB x.body.length (x.body.map bv)):=ab9 (HRB.o.kept OX.size fun b hb hbw=>OX.block b hbw fun(e:b=_)=>by omega);have hBC:Keeps (fun b=>b=w.heap.size) w1 wC:=(Keeps.trans (fp:=fun b=>b=w.heap.size) (fp':=fun b=>b=w.heap.size) ⟨zN.o.os,zN.o.tape,zN.o.output,zN.o.size,fun b hb _=>zN.o.block b hb⟩ OX fun _ _ h=>h);have N_:=ab9 hBC;have lV:=ab9 hPC;have HZC:=ab9 hzC;have hsB9:=zN.o.size;have hs19:=HB1.o.size;have HOWC:acd (wC.ownsRow 0 69 3 (.slice av m cv) m vals):=ab9 (by
   obtain⟨_,_,k4,k5,_⟩:=HK.o;exact bR k4 fun b hb hbw=>(hBC.block b (by omega) (fun e=>by omega)).trans (HB1.o.block b hbw))
  have J6:acd (∀b,(Value.slice av m cv).ownBlock=some b→o b=i∧b≠p∧b<w.heap.size):=ab9 HK.o.2.2.2.1;clear hwC OX hxC hPC hxB q2 f2 hBC hq0 hq1 hq2 uF hzC;refine Cv 10 ((fun w'=>w'.cell? ⟨p,7,none⟩=some (.slice av m cv)∧w'.frozen? ⟨p,7,none⟩=false∧w'.cell? ⟨w.heap.size,0,none⟩=some (.int .i64 x.kind)∧w'.cell? ⟨w.heap.size,1,none⟩=some (.int .u64 x.seq)∧w'.cell? ⟨w.heap.size,2,none⟩=some (.slice aB x.body.length cB))) ?_ fun hS=> ?_
  ·exact YL.o _ rfl rfl
  refine aY 0 hS ?_;refine aY 1 hS ?_;refine aY 2 hS ?_;refine aY 3 hS ?_;refine aY 4 hS ?_;refine aY 5 hS ?_;refine dW 6 fun K hK=> ?_;go_simp;have F9:Below wC.heap.size wC (wC.drew.alloc (.cells #[.int .i64 x.kind,.int .u64 x.seq,.slice aB x.body.length cB] 69)):=acf.drew.alloc ace _;refine dK hK (YL.o _ (F9.block p hpC) (F9.block _ hbC)) fun hS=> ?_;clear hK K;refine dW 7 fun K hK=> ?_;refine gP (by rfl) (.tmp 55) (.tmp 57) 137 (by rfl) 0 69 i0 _ 3 40 Tryz.underlying137 HI.o.1 HI.o.2.1 HI.o.2.2.1 HI.o.2.2.2 rfl (by omega) (.slice av m cv) m vals (by rfl) (bR HOWC.o fun b hb hbw=>F9.block b hbw) (some ⟨wC.heap.size,0,none⟩) 1 1 [.int .i64 x.kind,.int .u64 x.seq,.slice aB x.body.length cB] (by rfl) (kQ (w:=wC.drew) [.int .i64 x.kind,.int .u64 x.seq,.slice aB x.body.length cB] 69 (by simp[maxLen])) (by simp[Value.oneCell']) (by unfold maxLen;omega) (by omega) (Nat.zero_le _) ?_;intro AD cD wD hownD hgD hatD;have hPD:wD.heap[p]? =wC.heap[p]? :=(hgD.block p (Nat.lt_of_lt_of_le hpC F9.size) (fun e=>(J6.o p e.symm).2.1 rfl)).trans (F9.block p hpC);have hXD:wD.heap[w.heap.size]? =wC.heap[w.heap.size]? :=(hgD.block _ (Nat.lt_of_lt_of_le hbC F9.size) (fun e=>by have:=(J6.o _ e.symm).2.2;omega)).trans (F9.block _ hbC);have HOD:=ab9 hownD;have HAD:=ab9 hatD;have HPD:=ab9 (hPD.trans lV.o);have HKD:acd (Keeps (fun b=>(Value.slice av m cv).ownBlock=some b) wC wD):=ab9 ((nT F9).trans (Keeps.grown hgD) fun x _ hx=>hx);have hzD:wC.heap.size+1≤wD.heap.size:=by have:=hgD.size;simp at this;omega
  clear hownD hatD hgD F9;refine dK hK (YL.o _ hPD hXD) fun hS=> ?_;clear hK K;refine aY 8 hS ?_;refine aY 9 hS ?_;refine dW 10 fun K hK=> ?_;go_simp;refine sN hK ?_;clear hS hK K;go_wp2_with fail;go_ret;refine⟨rfl,?_⟩;obtain⟨wE,Sn⟩:∃wE,wE=wD.setCell ⟨p,7,none⟩ (.slice AD (m+1) cD):=⟨_,rfl⟩;rw[←Sn];have Wn:=HSQ.o;exact JE hi hop HM.o HMM.o HK.o.1 HK.o.2.1 HK.o.2.2.1 HK.o.2.2.2.1 HK.o.2.2.2.2 HB1.o N_.o HZC.o HPD.o HKD.o (by omega) HOD.o (HAD.o.imp id fun e=>e.trans (aaG some (Pd wC _))) HRBC.o hcB (by have:=CX.o.size;omega) (by omega) Sn
end
end Go.Proofs.YtmflaonodghbcaaGreatDoor
