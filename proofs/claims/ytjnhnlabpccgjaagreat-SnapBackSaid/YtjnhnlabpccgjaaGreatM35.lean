/- Arguments opened: slices of bytes, of truths, of structs. The lemma open_slice_fields is the guide's own (extra-structs). Arguments opened: lists of permafrostlaw13.Ask. permafrostlaw13: the law's own: snapshots and a tree, and the reference's. permafrostbook.Within. permafrostkeep.Names. permafrostkeep.Cut. What bears no mark stays as it is. -/
import Derived.Test.YtjnhnlabpccgjaaGreatM03
import Derived.Deep.Slices
import Derived.Deep.Fields
import Derived.Deep.Grids
import Derived.ChangeSame
import Derived.Lib.SmallJoins
import Derived.Test.YtjnhnlabpccgjaaGreatM34
import Derived.Test.YtjnhnlabpccgjaaGreatM23
import Derived.Test.YtjnhnlabpccgjaaGreatM01
import Derived.Test.YtjnhnlabpccgjaaGreatM08
import Derived.Deep.CutBlock
import Derived.Deep.DeepCutAuto
import Derived.Test.YtjnhnlabpccgjaaGreatM18
namespace Go.Proofs.YtjnhnlabpccgjaaGreat
open Go.Joins Go.ChangeShapes Go.WideShapes Go.ChangeAt Go.RowKit Go.Deep
set_option linter.unusedVariables false
section
variable {H:Type} {enc:TypeId×Value→H} {P:Program} {w:World} {base:Nat} {spare:Nat→Bool} {held:Bool}
theorem uU {t e:TypeId} {fs:Array Field} {fuel:Nat} {cs:List Value} {x:DataW H×List MemPlace} (ht:P.underlying t=some (.slice e)) (he:P.underlying e=some (.struct fs))
  (hone:oneCellFields P fs=true) (hC:P.cellsOf e=fs.size) (h:DataW.trod enc P w base spare held fuel t cs=some x):
  (cs=[.slice none 0 0]∧x=(.nil,[]))∨
  ∃(a:Addr) (len cap m:Nat) (D:Nat→DataW H) (Pl:Nat→List MemPlace),cs=[.slice (some a) len cap]∧base≤a.block∧len≤cap∧cap≤maxLen∧m=(if spare a.block then cap else len)∧
   x=(.slice ((List.range len).map D) ((List.range (m-len)).map fun j=>D (len+j)),MemPlace.row a (m*fs.size)++(List.range m).flatMap Pl)∧
   ∀i,i<m→∃(ys:List (DataW H×List MemPlace)) (n:Nat),D i= .agg (ys.map (·.1))∧Pl i=ys.flatMap (·.2)∧ys.length=fs.size∧
    ∀(j:Nat) (f:Field),fs[j]? =some f→∃(v:Value) (y:DataW H×List MemPlace),w.cell? (a.add (i*fs.size+j))=some v∧ys[j]? =some y∧DataW.trod enc P w base spare held n f.type [v]=some y:=by
 rcases open_slice ht h with h0|⟨a,len,cap,m,n,D,Pl,hcs,hb,hl,hm,hmm,hx,hi⟩
 ·exact .inl h0
 ·refine .inr ⟨a,len,cap,m,D,Pl,hcs,hb,hl,hm,hmm,by rw[hC]at hx;exact hx,fun i him=> ?_⟩
  obtain⟨cs',hc,ht'⟩:=hi i him
  rw[hC]at hc
  obtain⟨ys,n',hn',hy,hlen,hyl,hf⟩:=DataW.trod_struct he ht'
  obtain⟨_,hcl,hat⟩:=World.cells?_some hc
  simp only[Prod.mk.injEq]at hy
  refine⟨ys,n',hy.1,hy.2,hyl,fun j f hj=> ?_⟩
  obtain⟨ho,hk⟩:=hone_of hone j f hj
  have hjl:j<fs.size:=(Array.getElem?_eq_some_iff.1 hj).1
  have hcell:=hat j hjl
  have hv:cs'[j]? =some (cs'[j]'(by omega)):=List.getElem?_eq_getElem (by omega)
  have h1:=hf j f hj
  rw[ho,hk]at h1
  have hone':(cs'.drop j).take 1=[cs'[j]'(by omega)]:=by
   rw[List.drop_eq_getElem_cons (by omega)]
   rfl
  rw[hone']at h1
  have hys:ys[j]? =some (ys[j]'(by omega)):=List.getElem?_eq_getElem (by omega)
  refine⟨_,_,?_,hys,h1.trans hys⟩
  rw[←Go.Deep.add_add,hcell,hv]
end
section
variable {H:Type} {enc:TypeId×Value→H} {W:World}
def byteOf (z:Int):UInt8:=UInt8.ofNat z.toNat
theorem LZ {z:Int} (h:(Lit.int .u8 z).wf=true):bv (byteOf z)= .int .u8 z:=by
 simp[Lit.wf,IntKind.min,IntKind.max,IntKind.signed,IntKind.bits]at h
 unfold bv byteOf
 rw[UInt8.toNat_ofNat']
 congr 1
 omega
abbrev Old (W:World) (x:Nat):Prop:=x<W.heap.size
theorem xk {fuel:Nat} {v:Value} {x:DataW H×List MemPlace} (h:DataW.trod enc Tryz.prog W 0 (fun _=>true) true fuel 23 [v]=some x) (l:∀p∈x.2,p.block<W.heap.size):
  ∃a len cap bs,v= .slice a len cap∧len≤cap∧ah (Old W) W a len ((bs:List UInt8).map bv):=by
 rcases open_ints Tryz.underlying23 Tryz.underlying5 (by kernel_rfl) h with⟨hcs,hx⟩|⟨a,len,cap,zs,hcs,_,hl,hm,hz,hx,hcell,hwz⟩
 ·simp only[List.cons.injEq,and_true]at hcs
  subst hcs
  exact⟨none,0,0,[],rfl,Nat.le_refl _,ah.nil _ _ _⟩
 ·simp only[List.cons.injEq,and_true]at hcs
  subst hcs
  subst hx
  simp only[if_true]at hz
  refine⟨some a,len,cap,(zs.take len).map byteOf,rfl,hl,by simp;omega,by omega,fun h0=> ?_⟩
  obtain⟨b,off,spot⟩:=a
  have hspot:spot=none:=by simpa[Addr.add]using World.cell?_spot (hcell 0 (by omega))
  subst hspot
  have hb:b<W.heap.size:=l (.cell b off) (MemPlace.mem_row.2 ⟨0,by omega,by simp⟩)
  refine⟨b,off,rfl,hb,hb,fun i hi=> ?_⟩
  have h1:=hcell i (by omega)
  rw[add_plain]at h1
  have hi':i<zs.length:=by omega
  rw[h1,List.map_map,List.getElem?_map,List.getElem?_take,if_pos hi,List.getElem?_eq_getElem hi']
  simp only[Option.map_some,Function.comp,List.getD,List.getElem?_eq_getElem hi',Option.getD_some]
  rw[LZ (hwz _ (List.getElem_mem hi'))]
end
section
variable {H:Type} {P:Program}
theorem rM {e:TypeId}:∀{l:List (DataW H)} {d:DataW H},d∈l→∀n∈d.weights P e,n∈DataW.weightsAll P e l
 |x::r,d,h,n,hn=>by
  rcases List.mem_cons.1 h with rfl|h
  ·exact List.mem_append_left _ hn
  ·exact List.mem_append_right _ (rM h n hn)
theorem nM:∀{ts:List TypeId} {ds:List (DataW H)} {j:Nat} {t:TypeId} {d:DataW H},ts[j]? =some t→ds[j]? =some d→∀n∈d.weights P t,n∈DataW.weightsEach P ts ds
 |t'::ts,d'::ds,0,t,d,ht,hd,n,hn=>by
  simp only[List.getElem?_cons_zero,Option.some.injEq]at ht hd
  subst ht hd
  exact List.mem_append_left _ hn
 |t'::ts,d'::ds,j+1,t,d,ht,hd,n,hn=>by
  simp only[List.getElem?_cons_succ]at ht hd
  exact List.mem_append_right _ (nM ht hd n hn)
 |[],_,_,_,_,ht,_,_,_=>by simp at ht
 |_::_,[],_,_,_,_,hd,_,_=>by simp at hd
theorem Du {t e:TypeId} (ht:P.underlying t=some (.slice e)) (elems rest:List (DataW H)):(elems.length+rest.length)*P.bytesOf e∈(DataW.slice elems rest).weights P t:=by
 unfold DataW.weights
 rw[ht]
 exact List.mem_cons_self
theorem Dv {t e:TypeId} (ht:P.underlying t=some (.slice e)) {elems rest:List (DataW H)} {d:DataW H} (hd:d∈elems) {n:Nat} (hn:n∈d.weights P e):n∈(DataW.slice elems rest).weights P t:=by
 unfold DataW.weights
 rw[ht]
 exact List.mem_cons_of_mem _ (List.mem_append_left _ (rM hd n hn))
theorem Dw {t:TypeId} {fs:Array Field} (ht:P.underlying t=some (.struct fs)) {parts:List (DataW H)} {j:Nat} {f:Field} {d:DataW H} (hf:fs[j]? =some f) (hd:parts[j]? =some d) {n:Nat} (hn:n∈d.weights P f.type):n∈(DataW.agg parts).weights P t:=by
 unfold DataW.weights
 rw[ht]
 refine nM (j:=j) (t:=f.type) (d:=d) ?_ hd n hn
 rw[List.getElem?_map,Array.getElem?_toList,hf]
 rfl
end
section
variable {H:Type} {enc:TypeId×Value→H} {W:World}
theorem WR:Tryz.prog.bytesOf 5=1:=by kernel_rfl
theorem Fw {fuel:Nat} {v:Value} {x:DataW H×List MemPlace} (h:DataW.trod enc Tryz.prog W 0 (fun _=>true) true fuel 23 [v]=some x) (l:∀p∈x.2,p.block<W.heap.size) (hw:∀n∈x.1.weights Tryz.prog 23,n≤reachBytes):
  ∃a len cap bs,v= .slice a len cap∧len≤cap∧ah (Old W) W a len ((bs:List UInt8).map bv)∧len≤140737488351232:=by
 obtain⟨a,len,cap,bs,rfl,hlc,hr⟩:=xk h l
 refine⟨a,len,cap,bs,rfl,hlc,hr,?_⟩
 rcases open_ints Tryz.underlying23 Tryz.underlying5 (by kernel_rfl) h with⟨hcs,hx⟩|⟨a',len',cap',zs,hcs,_,hl,hm,hz,hx,_,_⟩
 ·simp only[List.cons.injEq,and_true,Value.slice.injEq]at hcs
  obtain⟨_,rfl,_⟩:=hcs
  omega
 ·simp only[List.cons.injEq,and_true,Value.slice.injEq]at hcs
  obtain⟨_,rfl,_⟩:=hcs
  subst hx
  have h1:=hw _ (Du Tryz.underlying23 _ _)
  rw[WR]at h1
  simp only[if_true]at hz
  unfold lits at h1
  simp only[List.length_map,List.length_take,List.length_drop]at h1
  unfold reachBytes at h1
  omega
end
structure wD where
 kind:Int
 P:Int
 id:Int
 b:List UInt8
 aP:Int
structure WS (W:World) (g off:Nat) (x:wD) (ba:Option Addr) (bn bc:Nat):Prop where
 cells:W.cell? ⟨g,off,none⟩=some (.int .i64 x.kind)∧W.cell? ⟨g,off+1,none⟩=some (.int .i64 x.P)∧W.cell? ⟨g,off+2,none⟩=some (.int .i64 x.id)∧W.cell? ⟨g,off+3,none⟩=some (.slice ba bn bc)∧W.cell? ⟨g,off+4,none⟩=some (.int .u64 x.aP)
 wk:(Lit.int .i64 x.kind).wf=true
 wp:(Lit.int .i64 x.P).wf=true
 wi:(Lit.int .i64 x.id).wf=true
 wu:0≤x.aP∧x.aP≤18446744073709551615
 cap:bn≤bc
 row:ah (fun b=>b<W.heap.size) W ba bn (x.b.map bv)
 reach:bn≤140737488351232
def Uz (W:World) (a:Option Addr) (len:Nat):Prop:=
 len≤maxLen∧(0<len→∃b off,a=some ⟨b,off,none⟩∧b<W.heap.size∧∀k,k<len→∃x ba bn bc,WS W b (off+k*5) x ba bn bc)
theorem Im {z:Int} (h:(Lit.int .u64 z).wf=true):0≤z∧z≤18446744073709551615:=by
 simp[Lit.wf,IntKind.min,IntKind.max,IntKind.signed,IntKind.bits]at h
 omega
section
variable {H:Type} {enc:TypeId×Value→H} {W:World}
theorem Fx {fuel:Nat} {v:Value} {x:DataW H×List MemPlace} (h:DataW.trod enc Tryz.prog W 0 (fun _=>true) true fuel 22 [v]=some x) (l:∀p∈x.2,p.block<W.heap.size) (hw:∀n∈x.1.weights Tryz.prog 22,n≤reachBytes):
  ∃a len cap,v= .slice a len cap∧len≤cap∧Uz W a len:=by
 rcases uU Tryz.underlying22 Tryz.underlying29 (by kernel_rfl) (by kernel_rfl) h with⟨hcs,hx⟩|⟨a,len,cap,m,D,Pl,hcs,_,hl,hm,hmm,hx,hi⟩
 ·simp only[List.cons.injEq,and_true]at hcs
  subst hcs
  exact⟨none,0,0,rfl,Nat.le_refl _,by simp,fun h=>by omega⟩
 ·simp only[List.cons.injEq,and_true]at hcs
  subst hcs
  subst hx
  simp only[if_true]at hmm
  subst hmm
  refine⟨some a,len,m,rfl,hl,by omega,fun h0=> ?_⟩
  have hsub:∀(i:Nat) (ys:List (DataW H×List MemPlace)) (j:Nat) (y:DataW H×List MemPlace),i<m→Pl i=ys.flatMap (·.2)→ys[j]? =some y→∀p∈y.2,p.block<W.heap.size:=by
   intro i ys j y hi' hp hy p hpy
   refine l p (List.mem_append_right _ (List.mem_flatMap.2 ⟨i,List.mem_range.2 hi',?_⟩))
   rw[hp]
   exact List.mem_flatMap.2 ⟨y,List.mem_of_getElem? hy,hpy⟩
  obtain⟨b,off,spot⟩:=a
  have hspot:spot=none:=by
   obtain⟨ys,n,_,_,_,hf⟩:=hi 0 (by omega)
   obtain⟨v,y,hc,_⟩:=hf 0 _ rfl
   simpa[Addr.add]using World.cell?_spot hc
  subst hspot
  have hb:b<W.heap.size:=l (.cell b off) (List.mem_append_left _ (MemPlace.mem_row.2 ⟨0,by simp;omega,by simp⟩))
  refine⟨b,off,rfl,hb,fun k hk=> ?_⟩
  obtain⟨ys,n,hD,hP,hyl,hf⟩:=hi k (by omega)
  obtain⟨v0,y0,c0,e0,t0⟩:=hf 0 _ rfl
  obtain⟨v1,y1,c1,e1,t1⟩:=hf 1 _ rfl
  obtain⟨v2,y2,c2,e2,t2⟩:=hf 2 _ rfl
  obtain⟨v3,y3,c3,e3,t3⟩:=hf 3 _ rfl
  obtain⟨v4,y4,c4,e4,t4⟩:=hf 4 _ rfl
  obtain⟨z0,f0,_,g0⟩:=DataW.trod_int Tryz.underlying3 t0
  obtain⟨z1,f1,_,g1⟩:=DataW.trod_int Tryz.underlying3 t1
  obtain⟨z2,f2,_,g2⟩:=DataW.trod_int Tryz.underlying3 t2
  obtain⟨a7,n7,k7,bs,rfl,q7,r7,r7w⟩:=Fw t3 (hsub k ys 3 y3 (by omega) hP e3) (fun n hn=>hw n (Dv Tryz.underlying22 (d:=D k) (List.mem_map.2 ⟨k,List.mem_range.2 hk,rfl⟩) (by
   rw[hD]
   exact Dw Tryz.underlying29 (j:=3) rfl (d:=y3.1) (by rw[List.getElem?_map,e3];rfl) hn)))
  obtain⟨z4,f4,_,g4⟩:=DataW.trod_int Tryz.underlying27 t4
  simp only[List.cons.injEq,and_true]at f0 f1 f2 f4
  subst f0 f1 f2 f4
  rw[add_plain]at c0 c1 c2 c3 c4
  refine⟨⟨z0,z1,z2,bs,z4⟩,a7,n7,k7,⟨⟨c0,?_,?_,?_,?_⟩,g0,g1,g2,Im g4,q7,r7,r7w⟩⟩
  ·rw[Nat.add_assoc];exact c1
  ·rw[Nat.add_assoc];exact c2
  ·rw[Nat.add_assoc];exact c3
  ·rw[Nat.add_assoc];exact c4
end
open Go.ChangeShapes Go.WideShapes Go.ChangeAt Go.RowKit
set_option linter.unusedSimpArgs false
structure Gb (S:jc):Prop where
 len:S.l.length≤8
 last:S.last.length≤64
 next:0≤S.next
theorem Gb.new:Gb kN:=⟨by simp[kN],by simp[kN],by simp[kN]⟩
theorem Gb.take {S:jc} (h:Gb S) (T:aA):Gb (dI S T).2:=by
 by_cases hf:S.l.length<8
 ·obtain⟨x,S',e1,e2,e3,e4,e5,e6,e7,e8⟩:=nE (T:=T) hf
  have:=h.next
  rw[e1]
  exact⟨by show S'.l.length≤8;rw[e2,List.length_append];simp;omega,by show S'.last.length≤64;rw[e8];omega,by show 0≤S'.next;rw[e5];omega⟩
 ·have e1:dI S T=((0,4),S):=by unfold dI;rw[if_pos (by omega)]
  rw[e1]
  exact h
theorem Gb.forget {S S':jc} {id now er:Int} (h:Gb S) (hf:jJ S id now er S'):Gb S':=by
 obtain⟨e1,e2,e3⟩:=hf.next
 exact⟨Nat.le_trans e3 h.len,by rw[e2];exact h.last,by rw[e1];exact h.next⟩
def I4 (k:Nat):Prop:=1≤k∧k≤4
theorem I4.Ac:¬I4 0:=fun h=>by have:=h.1;omega
structure jC (W:World) (o:Mark) (w:World) (p s t x y:Nat) (A:jc) (T:aA) (B:jc) (U:aA):Prop where
 box:w.heap[p]? =some (.cells #[ptr s,ptr t,ptr x,ptr y] 35 (0,0))
 own:o p=5
 low:p<w.heap.size
 marks:Marks W o w
 sn:jO o 1 w s A
 tr:fH o 2 w t T
 rs:gW o 3 w x B
 rt:iY o 4 w y U
 QM:ig T
 SN:ig U
 PY:Gb A
 okB:Gb B
section
variable {W w:World} {o:Mark} {p s t x y:Nat} {A B:jc} {T U:aA}
theorem jC.SQ (h:jC W o w p s t x y A T B U):eH T:=h.QM.1
theorem jC.PZ (h:jC W o w p s t x y A T B U):eH U:=h.SN.1
theorem jC.cells (h:jC W o w p s t x y A T B U):w.cell? ⟨p,0,none⟩=some (ptr s)∧w.cell? ⟨p,1,none⟩=some (ptr t)∧w.cell? ⟨p,2,none⟩=some (ptr x)∧w.cell? ⟨p,3,none⟩=some (ptr y):=by
 have hb:=h.box
 refine⟨?_,?_,?_,?_⟩<;>simp[World.cell?,hb]
theorem jC.grow (h:jC W o w p s t x y A T B U) {w':World} (hb:Below w.heap.size w w'):jC W o w' p s t x y A T B U:=
 ⟨(hb.block p h.low).trans h.box,h.own,Nat.lt_of_lt_of_le h.low hb.size,h.marks.grow hb,h.sn.grow h.marks hb,h.tr.grow hb,h.rs.grow h.marks hb,h.rt.grow hb,h.QM,h.SN,h.PY,h.okB⟩
theorem jC.snaps (h:jC W o w p s t x y A T B U) {w':World} {o':Mark} {A':jc} (hs:Step o (fun k=>k=1) w o' w') (hS:jO o' 1 w' s A') (hk:Gb A'):jC W o' w' p s t x y A' T B U:=
 have h0:¬(fun k:Nat=>k=1) 0:=by simp
 ⟨(hs.block h.low (by rw[h.own];simp)).trans h.box,(hs.old p h.low).trans h.own,Nat.lt_of_lt_of_le h.low hs.keep.size,h.marks.step h0 hs,hS,h.tr.step h0 (by simp) hs,h.rs.step h0 (by simp) hs,h.rt.step h0 (by simp) hs,h.QM,h.SN,hk,h.okB⟩
theorem jC.tree (h:jC W o w p s t x y A T B U) {w':World} {o':Mark} {T':aA} (hs:Step o (fun k=>k=2) w o' w') (hT:fH o' 2 w' t T') (hk:ig T'):jC W o' w' p s t x y A T' B U:=
 have h0:¬(fun k:Nat=>k=2) 0:=by simp
 ⟨(hs.block h.low (by rw[h.own];simp)).trans h.box,(hs.old p h.low).trans h.own,Nat.lt_of_lt_of_le h.low hs.keep.size,h.marks.step h0 hs,h.sn.step h0 (by simp) hs,hT,h.rs.step h0 (by simp) hs,h.rt.step h0 (by simp) hs,hk,h.SN,h.PY,h.okB⟩
theorem jC.rsn (h:jC W o w p s t x y A T B U) {w':World} {o':Mark} {B':jc} (hs:Step o (fun k=>k=3) w o' w') (hS:gW o' 3 w' x B') (hk:Gb B'):jC W o' w' p s t x y A T B' U:=
 have h0:¬(fun k:Nat=>k=3) 0:=by simp
 ⟨(hs.block h.low (by rw[h.own];simp)).trans h.box,(hs.old p h.low).trans h.own,Nat.lt_of_lt_of_le h.low hs.keep.size,h.marks.step h0 hs,h.sn.step h0 (by simp) hs,h.tr.step h0 (by simp) hs,hS,h.rt.step h0 (by simp) hs,h.QM,h.SN,h.PY,hk⟩
theorem jC.ref (h:jC W o w p s t x y A T B U) {w':World} {o':Mark} {U':aA} (hs:Step o (fun k=>k=4) w o' w') (hR:iY o' 4 w' y U') (hk:ig U'):jC W o' w' p s t x y A T B U':=
 have h0:¬(fun k:Nat=>k=4) 0:=by simp
 ⟨(hs.block h.low (by rw[h.own];simp)).trans h.box,(hs.old p h.low).trans h.own,Nat.lt_of_lt_of_le h.low hs.keep.size,h.marks.step h0 hs,h.sn.step h0 (by simp) hs,h.tr.step h0 (by simp) hs,h.rs.step h0 (by simp) hs,hR,h.QM,hk,h.PY,h.okB⟩
def sH (W:World) (o:Mark) (w:World) (p s t x y:Nat) (A:jc) (T:aA) (B:jc) (U:aA) (w':World):Prop:=∃o',Step o I4 w o' w'∧jC W o' w' p s t x y A T B U
theorem jL {o o':Mark} {w w':World} {j:Nat} (h:Step o (fun k=>k=j) w o' w') (hj:1≤j∧j≤4):Step o I4 w o' w':=h.mono fun i hi=>by
 have e:i=j:=hi
 exact e▸hj
theorem jC.take (h:jC W o w p s t x y A T B U) (hn:A.next≤1000000000):Calls Tryz.prog 35 #[ptr s,ptr t] w fun e w'=>e= .returned (.tuple #[.int .i64 (dI A T).1.1, .int .i64 (dI A T).1.2])∧sH W o w p s t x y (dI A T).2 T B U w':=by
 refine(rF h.sn h.tr h.marks (by omega) h.SQ h.PY.len h.PY.last h.PY.next hn).mono ?_
 rintro e w' ⟨rfl,o',hs,hS⟩
 exact⟨rfl,o',jL hs (by omega),h.snaps hs hS (h.PY.take T)⟩
theorem jC.rtake (h:jC W o w p s t x y A T B U) (hn:B.next≤1000000000):Calls Tryz.prog 36 #[ptr x,ptr y] w fun e w'=>e= .returned (.tuple #[.int .i64 (dI B U).1.1, .int .i64 (dI B U).1.2])∧sH W o w p s t x y A T (dI B U).2 U w':=by
 refine(LV h.rs h.rt h.marks (by omega) h.PZ h.okB.len h.okB.last h.okB.next hn).mono ?_
 rintro e w' ⟨rfl,hs,hS⟩
 exact⟨rfl,o,jL hs (by omega),h.rsn hs hS (h.okB.take U)⟩
theorem jC.forget (h:jC W o w p s t x y A T B U) (id now:Int):Calls Tryz.prog 37 #[ptr s, .int .i64 id, .int .u64 now] w fun e w'=>∃er A',e= .returned (.int .i64 er)∧jJ A id now er A'∧sH W o w p s t x y A' T B U w':=by
 refine(zD h.sn h.marks (by omega) h.PY.len id now).mono ?_
 rintro e w' ⟨er,S',o',rfl,hf,hs,hS⟩
 exact⟨er,S',rfl,hf,o',jL hs (by omega),h.snaps hs hS (h.PY.forget hf)⟩
theorem jC.SS (h:jC W o w p s t x y A T B U) (id now:Int):Calls Tryz.prog 38 #[ptr x, .int .i64 id, .int .u64 now] w fun e w'=>∃er B',e= .returned (.int .i64 er)∧jJ B id now er B'∧sH W o w p s t x y A T B' U w':=by
 refine(Fj h.rs h.marks (by omega) h.okB.len id now).mono ?_
 rintro e w' ⟨er,S',rfl,hf,hs,hS⟩
 exact⟨er,S',rfl,hf,o,jL hs (by omega),h.rsn hs hS (h.okB.forget hf)⟩
theorem jC.make {S:Nat→Prop} (h:jC W o w p s t x y A T B U) (a:Option Addr) (n c:Nat) (ls:List Nm) (kind:Int) (hS:bB S w a n (ls.map strOf)) (hc:n≤c) (pO:n≤1000000):
  Calls Tryz.prog 27 #[ptr t, .slice a n c, .int .i64 kind] w fun e w'=>e= .returned (.tuple #[.int .i64 (dK T ls kind).1.1, .int .i64 (dK T ls kind).1.2])∧sH W o w p s t x y A (dK T ls kind).2 B U w':=by
 refine(Q5 h.tr h.marks (by omega) h.SQ a n c ls kind hS hc pO).mono ?_
 rintro e w' ⟨rfl,o',hs,hT⟩
 exact⟨rfl,o',jL hs (by omega),h.tree hs hT (h.QM.dK _ _)⟩
theorem jC.UA {S:Nat→Prop} (h:jC W o w p s t x y A T B U) (a:Option Addr) (n c:Nat) (ls:List Nm) (kind:Int) (hS:bB S w a n (ls.map strOf)) (hc:n≤c) (pO:n≤1000000):
  Calls Tryz.prog 28 #[ptr y, .slice a n c, .int .i64 kind] w fun e w'=>e= .returned (.tuple #[.int .i64 (dK U ls kind).1.1, .int .i64 (dK U ls kind).1.2])∧sH W o w p s t x y A T B (dK U ls kind).2 w':=by
 refine(R5 h.rt h.marks h.PZ a n c ls kind hS hc pO).mono ?_
 rintro e w' ⟨rfl,o',hs,hT⟩
 exact⟨rfl,o',jL hs (by omega),h.ref hs hT (h.SN.dK _ _)⟩
theorem jC.append {S:Nat→Prop} (h:jC W o w p s t x y A T B U) (id:Int) (a:Option Addr) (l c:Nat) (bs:List UInt8) (hid:(Lit.int .i64 id).wf=true) (hr:ah S w a l (bs.map bv)) (hl:l≤1000000):
  Calls Tryz.prog 29 #[ptr t, .int .i64 id, .slice a l c] w fun e w'=>e= .returned (.int .i64 (bT T id bs).1)∧sH W o w p s t x y A (bT T id bs).2 B U w':=by
 refine(Kj h.tr h.marks (by omega) h.SQ id a l c bs hid hr (by omega)).mono ?_
 rintro e w' ⟨rfl,o',hs,hT⟩
 exact⟨rfl,o',jL hs (by omega),h.tree hs hT (h.QM.bT _ _)⟩
theorem jC.SV {S:Nat→Prop} (h:jC W o w p s t x y A T B U) (id:Int) (a:Option Addr) (l c:Nat) (bs:List UInt8) (hr:ah S w a l (bs.map bv)) (hS:∀b,S b→o b=0) (hl:l≤1000000):
  Calls Tryz.prog 30 #[ptr y, .int .i64 id, .slice a l c] w fun e w'=>e= .returned (.int .i64 (bT U id bs).1)∧sH W o w p s t x y A T B (bT U id bs).2 w':=by
 refine(Ll h.rt h.marks (by omega) h.PZ id a l c bs hr hS hl).mono ?_
 rintro e w' ⟨rfl,o',hs,hT⟩
 exact⟨rfl,o',jL hs (by omega),h.ref hs hT (h.SN.bT _ _)⟩
theorem jC.seal_ (h:jC W o w p s t x y A T B U) (id aP:Int) (hid:(Lit.int .i64 id).wf=true) (ht:0≤aP∧aP≤18446744073709551615):
  Calls Tryz.prog 31 #[ptr t, .int .i64 id, .int .u64 aP] w fun e w'=>e= .returned (.int .i64 (fC T id aP).1)∧sH W o w p s t x y A (fC T id aP).2 B U w':=by
 refine(Rw h.tr h.marks (by omega) id aP hid ht.1 ht.2).mono ?_
 rintro e w' ⟨rfl,o',hs,hT⟩
 exact⟨rfl,o',jL hs (by omega),h.tree hs hT (h.QM.fC _ _ ht.1)⟩
theorem jC.rseal (h:jC W o w p s t x y A T B U) (id aP:Int) (ht:0≤aP∧aP≤18446744073709551615):
  Calls Tryz.prog 32 #[ptr y, .int .i64 id, .int .u64 aP] w fun e w'=>e= .returned (.int .i64 (fC U id aP).1)∧sH W o w p s t x y A T B (fC U id aP).2 w':=by
 refine(R6 h.rt h.marks h.PZ id aP ht).mono ?_
 rintro e w' ⟨rfl,o',hs,hT⟩
 exact⟨rfl,o',jL hs (by omega),h.ref hs hT (h.SN.fC _ _ ht.1)⟩
theorem jC.unlink {S:Nat→Prop} (h:jC W o w p s t x y A T B U) (a:Option Addr) (n c:Nat) (ls:List Nm) (hS:bB S w a n (ls.map strOf)) (hc:n≤c) (pO:n≤1000000):
  Calls Tryz.prog 33 #[ptr t, .slice a n c] w fun e w'=>e= .returned (.int .i64 (bJ T ls).1)∧sH W o w p s t x y A (bJ T ls).2 B U w':=by
 refine(KF h.tr h.marks (by omega) h.SQ a n c ls hS hc pO).mono ?_
 rintro e w' ⟨rfl,o',hs,hT⟩
 exact⟨rfl,o',jL hs (by omega),h.tree hs hT (h.QM.bJ _)⟩
theorem jC.SX {S:Nat→Prop} (h:jC W o w p s t x y A T B U) (a:Option Addr) (n c:Nat) (ls:List Nm) (hS:bB S w a n (ls.map strOf)) (hc:n≤c) (pO:n≤1000000):
  Calls Tryz.prog 34 #[ptr y, .slice a n c] w fun e w'=>e= .returned (.int .i64 (bJ U ls).1)∧sH W o w p s t x y A T B (bJ U ls).2 w':=by
 refine(Lj h.rt h.marks h.PZ a n c ls hS hc pO).mono ?_
 rintro e w' ⟨rfl,o',hs,hT⟩
 exact⟨rfl,o',jL hs (by omega),h.ref hs hT (h.SN.bJ _)⟩
set_option maxRecDepth 100000 in
set_option maxHeartbeats 4000000 in
theorem L8 (W:World):Calls Tryz.prog 5 #[] W fun e w'=>∃p s t x y o,e= .returned (ptr p)∧jC W o w' p s t x y kN ni kN ni:=by
 have Uq:=Lib.hid (show Marks W (fun _=>0) W from⟨fun b hb=>absurd rfl hb,Below.refl _ _⟩)
 go_enter Tryz.func5,Tryz.ntmps5
 go_wp2_with fail
 (with_reducible refine(BO Uq.out 1 (by omega)).mono ?_)
 rintro e w1 ⟨s,o1,rfl,hs1,hS1,hb1⟩
 have vR:=Lib.hid (Uq.out.step (by simp) hs1)
 have pK:=Lib.hid hS1
 clear hs1 hS1 hb1
 go_wp2_with fail
 (with_reducible refine(EP W w1 o1 vR.out 2 (by omega)).mono ?_)
 rintro e w2 ⟨t,o2,rfl,hs2,TM,hb2⟩
 have wQ:=Lib.hid (vR.out.step (by simp) hs2)
 have HS2:=Lib.hid (pK.out.step (by simp) (by simp) hs2)
 have HT2:=Lib.hid TM
 clear hs2 TM hb2
 go_wp2_with fail
 (with_reducible refine(Sn wQ.out 3).mono ?_)
 rintro e w3 ⟨x,o3,rfl,hs3,hX3,hb3⟩
 have tF:=Lib.hid (wQ.out.step (by simp) hs3)
 have xG:=Lib.hid (HS2.out.step (by simp) (by simp) hs3)
 have HT3:=Lib.hid (HT2.out.step (by simp) (by simp) hs3)
 have HX3:=Lib.hid hX3
 clear hs3 hX3 hb3
 go_wp2_with fail
 (with_reducible refine(O5 tF.out 4).mono ?_)
 rintro e w4 ⟨y,o4,rfl,hs4,hY4⟩
 have qD:=Lib.hid (tF.out.step (by simp) hs4)
 have pI:=Lib.hid (xG.out.step (by simp) (by simp) hs4)
 have yP:=Lib.hid (HT3.out.step (by simp) (by simp) hs4)
 have HX4:=Lib.hid (HX3.out.step (by simp) (by simp) hs4)
 have HY4:=Lib.hid hY4
 clear hs4 hY4
 go_wp2_with fail
 go_ret
 have hb5:=wall w4 (.cells #[ptr s,ptr t,ptr x,ptr y] 35)
 obtain⟨o5,hs5,k1,k2⟩:=jd qD.out 5 (fun b=>b=w4.heap.size) (w':=w4.alloc (.cells #[ptr s,ptr t,ptr x,ptr y] 35)) (fun b hb=>by subst hb;simp) hb5
 exact⟨w4.heap.size,s,t,x,y,o5,rfl,⟨(MapKept.heap_alloc w4 _).1,k1 _ rfl,by simp,qD.out.step (by simp) hs5,pI.out.step (by simp) (by simp) hs5,yP.out.step (by simp) (by simp) hs5,HX4.out.step (by simp) (by simp) hs5,HY4.out.step (by simp) (by simp) hs5,ig.new,ig.new,Gb.new,Gb.new⟩⟩
end
def kT (n lo hi:Int):Int:=lo+n%(hi-lo+1)
theorem Ad (n lo hi:Int) (h:lo≤hi):lo≤kT n lo hi∧kT n lo hi≤hi:=by
 unfold kT
 have h1:=Int.emod_nonneg n (show hi-lo+1≠0 by omega)
 have h2:=Int.emod_lt_of_pos n (show 0<hi-lo+1 by omega)
 omega
theorem L9 {n:Int} (h:(Lit.int .i64 n).wf=true): -9223372036854775808≤n∧n≤9223372036854775807:=by
 simp[Lit.wf,IntKind.min,IntKind.max,IntKind.signed,IntKind.bits]at h
 omega
theorem Ae (n lo hi:Int) (w:World) (hn:(Lit.int .i64 n).wf=true) (h1:0≤lo) (h2:lo≤hi) (h3:hi≤1099511627776):
  Calls Tryz.prog 11 #[.int .i64 n, .int .i64 lo, .int .i64 hi] w fun e w'=>e= .returned (.int .i64 (kT n lo hi))∧w=w':=by
 obtain⟨hw1,hw2⟩:=L9 hn
 clear hn
 have t1:=Int.tmod_lt_of_pos n (show 0<hi-lo+1 by omega)
 have t2:=Int.lt_tmod_of_pos n (show 0<hi-lo+1 by omega)
 have t3:=Int.emod_nonneg n (show hi-lo+1≠0 by omega)
 have t4:=Int.emod_lt_of_pos n (show 0<hi-lo+1 by omega)
 by_cases hn:0≤n
 ·have hx:¬n%(hi-lo+1)<0:=by omega
  go_enter Tryz.func11,Tryz.ntmps11
  go_wp2
  go_ret
  exact⟨gQ (by unfold kT;rfl),rfl⟩
 ·have hE:n%(hi-lo+1)=if n.tmod (hi-lo+1)<0 then n.tmod (hi-lo+1)+(hi-lo+1)else n.tmod (hi-lo+1):=by
   have h5:=Int.emod_add_mul_ediv n (hi-lo+1)
   have h6:=Int.tmod_add_mul_tdiv n (hi-lo+1)
   have h7:(n.tmod (hi-lo+1))%(hi-lo+1)=n%(hi-lo+1):=by
    have h8:n=n.tmod (hi-lo+1)+(hi-lo+1)*n.tdiv (hi-lo+1):=by omega
    rw[←Int.add_mul_emod_self_left (n.tmod (hi-lo+1)) (hi-lo+1) (n.tdiv (hi-lo+1)),←h8]
   split
   ·rw[←h7,←Int.add_emod_right,Int.emod_eq_of_lt (by omega) (by omega)]
   ·rw[←h7,Int.emod_eq_of_lt (by omega) (by omega)]
  have HE:=Lib.hid hE
  clear hE
  by_cases ht:n.tmod (hi-lo+1)<0
  ·go_enter Tryz.func11,Tryz.ntmps11
   go_wp2
   go_ret
   exact⟨gQ (by unfold kT;rw[HE.out,if_pos ht];omega),rfl⟩
  ·go_enter Tryz.func11,Tryz.ntmps11
   go_wp2
   go_ret
   exact⟨gQ (by unfold kT;rw[HE.out,if_neg (by omega)]),rfl⟩
def lW:List (List Nm):=[[[97]],[[98]],[[99]],[[97],[97]],[[97],[98]],[[98],[97]],[[98],[98],[97]],[],[[99],[97]],[[98],[98]],[[65]],[[97],[]],[[46]]]
def jF (w:World):List Obj→World
 |[]=>w
 |o::r=>jF (w.alloc o) r
theorem nN:∀(os:List Obj) (w w0:World),w0.heap.size≤w.heap.size→Below w0.heap.size w0 w→Below w0.heap.size w0 (jF w os)
 |[],w,w0,_,h=>h
 |o::r,w,w0,hs,h=>nN r (w.alloc o) w0 (by simp;omega) (h.alloc hs o)
theorem sU:∀(os:List Obj) (w:World),(jF w os).heap.size=w.heap.size+os.length
 |[],w=>rfl
 |o::r,w=>by
  show(jF (w.alloc o) r).heap.size=_
  rw[sU r,World.size_alloc,List.length_cons]
  omega
theorem qh:∀(os:List Obj) (w:World) (i:Nat) (o:Obj),os[i]? =some o→(jF w os).heap[w.heap.size+i]? =some o
 |[],w,i,o,h=>by simp at h
 |x::r,w,0,o,h=>by
  simp only[List.getElem?_cons_zero,Option.some.injEq]at h
  subst h
  have h1:=nN r (w.alloc x) (w.alloc x) (Nat.le_refl _) (Below.refl _ _)
  exact(h1.block w.heap.size (by simp)).trans (MapKept.heap_alloc w x).1
 |x::r,w,i+1,o,h=>by
  have:=qh r (w.alloc x) i o (by simpa using h)
  rw[World.size_alloc]at this
  rw[show w.heap.size+(i+1)=w.heap.size+1+i by omega]
  exact this
def P5 (w:World) (ls:List Nm) (e:Ending) (w':World):Prop:=
 ∃a c,e= .returned (.slice a ls.length c)∧ls.length≤c∧bB (fun x=>w.heap.size≤x∧x<w'.heap.size) w' a ls.length (ls.map strOf)∧Below w.heap.size w w'
def Cj (w:World) (v:Value) (wx:World):Prop:=
 ∃g,v= .slice (some ⟨g,0,none⟩) 13 13∧g<wx.heap.size∧Below w.heap.size w wx∧∀(j:Nat) (ls:List Nm),lW[j]? =some ls→∃a c,wx.cell? ⟨g,j,none⟩=some (.slice a ls.length c)∧ls.length≤c∧bB (fun x=>w.heap.size≤x∧x<wx.heap.size) wx a ls.length (ls.map strOf)
def dY (ls:List Nm):Obj:= .cells (ls.map fun n=>Value.string (strOf n)).toArray 9
theorem P6 {w0 w:World} {g:Nat} {ls:List Nm} (h:w.heap[g]? =some (dY ls)) (hg:w0.heap.size≤g) (hs:ls.length≤3) (hl:∀n∈ls,n.length≤3):bB (fun x=>w0.heap.size≤x∧x<w.heap.size) w (some ⟨g,0,none⟩) ls.length (ls.map strOf):=by
 have hgw:=(Array.getElem?_eq_some_iff.1 h).1
 refine⟨⟨by simp,by unfold maxLen;omega,fun _=>⟨g,0,rfl,⟨hg,hgw⟩,hgw,fun i hi=> ?_⟩⟩,fun s hs'=> ?_⟩
 ·simp only[World.cell?,h,dY]
  simp
  rfl
 ·obtain⟨n,hn,rfl⟩:=List.mem_map.1 hs'
  rw[iF]
  have:=hl n hn
  unfold maxLen;omega
def Af (B:Nat):List Value:=[.slice (some ⟨B,0,none⟩) 1 1, .slice (some ⟨B+1,0,none⟩) 1 1, .slice (some ⟨B+2,0,none⟩) 1 1, .slice (some ⟨B+3,0,none⟩) 2 2, .slice (some ⟨B+4,0,none⟩) 2 2, .slice (some ⟨B+5,0,none⟩) 2 2, .slice (some ⟨B+6,0,none⟩) 3 3, .slice none 0 0, .slice (some ⟨B+7,0,none⟩) 2 2, .slice (some ⟨B+8,0,none⟩) 2 2, .slice (some ⟨B+9,0,none⟩) 1 1, .slice (some ⟨B+10,0,none⟩) 2 2, .slice (some ⟨B+11,0,none⟩) 1 1]
def jq (B:Nat):List Obj:=[dY [[97]],dY [[98]],dY [[99]],dY [[97],[97]],dY [[97],[98]],dY [[98],[97]],dY [[98],[98],[97]],dY [[99],[97]],dY [[98],[98]],dY [[65]],dY [[97],[]],dY [[46]], .cells (Af B).toArray 61]
theorem Io (w:World):Cj w (.slice (some ⟨w.heap.size+12,0,none⟩) 13 13) (jF w (jq w.heap.size)):=by
 have hsz:=sU (jq w.heap.size) w
 have hl:(jq w.heap.size).length=13:=rfl
 rw[hl]at hsz
 refine⟨w.heap.size+12,rfl,by omega,nN _ w w (Nat.le_refl _) (Below.refl _ _),fun j ls hj=> ?_⟩
 have hcell:∀v,(Af w.heap.size)[j]? =some v→(jF w (jq w.heap.size)).cell? ⟨w.heap.size+12,j,none⟩=some v:=fun v hv=>by
  have:=qh (jq w.heap.size) w 12 _ rfl
  simp only[World.cell?,this]
  simpa using hv
 have key:∀(i n:Nat) (ls':List Nm),(jq w.heap.size)[i]? =some (dY ls')→(Af w.heap.size)[j]? =some (.slice (some ⟨w.heap.size+i,0,none⟩) n n)→ls'.length=n→ls'.length≤3→(∀x∈ls',x.length≤3)→ls'=ls→
   ∃a c,(jF w (jq w.heap.size)).cell? ⟨w.heap.size+12,j,none⟩=some (.slice a ls.length c)∧ls.length≤c∧bB (fun x=>w.heap.size≤x∧x<(jF w (jq w.heap.size)).heap.size) (jF w (jq w.heap.size)) a ls.length (ls.map strOf):=fun i n ls' h1 h2 h3 h4 h5 h6=>by
  subst h6
  exact⟨_,n,by rw[h3];exact hcell _ h2,by omega,P6 (qh _ w i _ h1) (by omega) h4 h5⟩
 match j,hj with
 |0,hj=>exact key 0 1 [[97]] rfl rfl rfl (by decide) (by decide) (Option.some.inj hj)
 |1,hj=>exact key 1 1 [[98]] rfl rfl rfl (by decide) (by decide) (Option.some.inj hj)
 |2,hj=>exact key 2 1 [[99]] rfl rfl rfl (by decide) (by decide) (Option.some.inj hj)
 |3,hj=>exact key 3 2 [[97],[97]] rfl rfl rfl (by decide) (by decide) (Option.some.inj hj)
 |4,hj=>exact key 4 2 [[97],[98]] rfl rfl rfl (by decide) (by decide) (Option.some.inj hj)
 |5,hj=>exact key 5 2 [[98],[97]] rfl rfl rfl (by decide) (by decide) (Option.some.inj hj)
 |6,hj=>exact key 6 3 [[98],[98],[97]] rfl rfl rfl (by decide) (by decide) (Option.some.inj hj)
 |7,hj=>
  have:([]:List Nm)=ls:=Option.some.inj hj
  subst this
  exact⟨none,0,hcell _ rfl,Nat.le_refl _,⟨ah.nil _ _ _,by simp⟩⟩
 |8,hj=>exact key 7 2 [[99],[97]] rfl rfl rfl (by decide) (by decide) (Option.some.inj hj)
 |9,hj=>exact key 8 2 [[98],[98]] rfl rfl rfl (by decide) (by decide) (Option.some.inj hj)
 |10,hj=>exact key 9 1 [[65]] rfl rfl rfl (by decide) (by decide) (Option.some.inj hj)
 |11,hj=>exact key 10 2 [[97],[]] rfl rfl rfl (by decide) (by decide) (Option.some.inj hj)
 |12,hj=>exact key 11 1 [[46]] rfl rfl rfl (by decide) (by decide) (Option.some.inj hj)
 |j+13,hj=>simp[lW]at hj
def qj (n:Int):Nat:=(kT n 0 1048576%13).toNat
def mG (n:Int):List Nm:=lW.getD (qj n) []
theorem Dx (n:Int):(mG n).length≤3:=by
 unfold mG
 rw[List.getD_eq_getElem?_getD]
 cases h:lW[qj n]? with
 |none=>simp
 |some ls=>
  have:=List.mem_of_getElem? h
  revert ls
  intro ls _ hm
  have:∀l∈lW,l.length≤3:=by decide
  exact this ls hm
set_option maxHeartbeats 4000000 in
theorem L_ (n:Int) (hn:(Lit.int .i64 n).wf=true) (w:World):Calls Tryz.prog 26 #[.int .i64 n] w (P5 w (mG n)):=by
 have hw:=Ad n 0 1048576 (by omega)
 have HW:=Lib.hid (fun w1=>Ae n 0 1048576 w1 hn (by omega) (by omega) (by omega))
 have hI:(qj n:Int)=kT n 0 1048576%13:=by unfold qj;omega
 have hI2:qj n<13:=by unfold qj;omega
 obtain⟨ls,hls⟩:∃ls,lW[qj n]? =some ls:=⟨_,List.getElem?_eq_getElem (show qj n<lW.length by simpa[lW]using hI2)⟩
 have hL:mG n=ls:=by unfold mG;rw[List.getD_eq_getElem?_getD,hls];rfl
 rw[hL]
 generalize kT n 0 1048576=v at*
 generalize qj n=j at*
 have HLS:=Lib.hid hls
 have e1:v%13=(j:Int):=hI.symm
 have j0:(0:Int)≤j:=by omega
 have j1:(j:Int)<13:=by omega
 clear hls hL hI hn
 go_enter Tryz.func26,Tryz.ntmps26
 go_upto_region 1 with(fail)
 go_cut [3]from 4 to 16 (fun v wx=>Cj w v wx)
 case first=>
  go_wp2_with fail
  go_meet
  exact Io w
 case rest=>
  obtain⟨g,rfl,hg,hB,hc⟩:=hcut
  obtain⟨w1,rfl⟩:∃w1:World,w1=wc:=⟨_,rfl⟩
  obtain⟨a,c,hc1,hc2,hc3⟩:=hc j ls HLS.out
  have HS:=Lib.hid hc3
  have HB:=Lib.hid hB
  clear hc hc3 hB
  go_wp2_with fail
  (with_reducible refine(HW.out _).mono ?_)
  rintro e w2 ⟨rfl,rfl⟩
  go_wp2_with fail
  go_ret
  exact⟨a,c,rfl,hc2,HS.out,HB.out⟩
theorem JE (a:Option Addr) (len cap n:Nat) (hl:len≤cap) (hn:n≤1048576) (hm:len≤maxLen) (w:World):
  Calls Tryz.prog 12 #[.slice a len cap, .int .i64 n] w fun e w'=>e= .returned (.slice a (min len n) cap)∧w=w':=by
 unfold maxLen at hm
 by_cases h:n<len
 ·have e1:n≤cap:=by omega
  go_enter Tryz.func12,Tryz.ntmps12
  go_wp2
  go_ret
  rw[show min len n=n by omega]
  exact⟨rfl,rfl⟩
 ·go_enter Tryz.func12,Tryz.ntmps12
  go_wp2
  go_ret
  rw[show min len n=len by omega]
  exact⟨rfl,rfl⟩
theorem Step.same {w w':World} {o o':Mark} {I:Nat→Prop} (h:Step o I w o' w') (hi:¬I 0) {b:Nat} (hb:Free o w b):w'.heap[b]? =w.heap[b]? :=h.block hb.2 (by rw[hb.1];exact hi)
theorem Free.zero {o:Mark} {w:World} {b:Nat} (h:Free o w b):o b=0:=h.1
theorem wE {w w':World} {o o':Mark} {I:Nat→Prop} {a:Option Addr} {n:Nat} {ss:List ByteArray} (h:bB (Free o w) w a n ss) (hi:¬I 0) (hs:Step o I w o' w'):bB (Free o w) w' a n ss:=
 h.kept hs.keep.size fun b hb hbw=>hs.same hi hb
end Go.Proofs.YtjnhnlabpccgjaaGreat
