/- Arguments opened: slices of bytes, of truths, of structs. The lemma open_slice_fields is the guide's own (extra-structs). Arguments opened: lists of api.Op. permafrostkeep.Tame: what it makes. -/
import Derived.Test.YtmabllemjkcobaaGreatDoorM03
import Derived.Deep.Slices
import Derived.Deep.Fields
import Derived.Deep.Grids
import Derived.ChangeSame
import Derived.Lib.SmallJoins
import Derived.Test.YtmabllemjkcobaaGreatDoorM28
import Derived.Test.YtmabllemjkcobaaGreatDoorM40
import Derived.Test.YtmabllemjkcobaaGreatDoorM36
namespace Go.Proofs.YtmabllemjkcobaaGreatDoor
open Go.Joins Go.ChangeShapes Go.WideShapes Go.ChangeAt Go.RowKit Go.Deep
set_option linter.unusedVariables false
section
variable {H:Type} {enc:TypeId×Value→H} {P:Program} {w:World} {base:Nat} {spare:Nat→Bool} {held:Bool}
theorem uh {t e:TypeId} {fs:Array Field} {fuel:Nat} {cs:List Value} {x:DataW H×List MemPlace} (ht:P.underlying t=some (.slice e)) (he:P.underlying e=some (.struct fs))
  (hone:oneCellFields P fs=true) (hC:P.cellsOf e=fs.size) (h:DataW.trod enc P w base spare held fuel t cs=some x):
  (cs=[.slice none 0 0]∧x=(.nil,[]))∨
  ∃(a:Addr) (len cap m:Nat) (D:Nat→DataW H) (Pl:Nat→List MemPlace),cs=[.slice (some a) len cap]∧base≤a.block∧len≤cap∧cap≤maxLen∧m=(if spare a.block then cap else len)∧
   x=(.slice ((List.range len).map D) ((List.range (m-len)).map fun j=>D (len+j)),MemPlace.row a (m*fs.size)++(List.range m).flatMap Pl)∧
   ∀i,i<m→∃(ys:List (DataW H×List MemPlace)) (n:Nat),D i= .agg (ys.map (·.1))∧Pl i=ys.flatMap (·.2)∧ys.length=fs.size∧
    ∀(j:Nat) (f:Field),fs[j]? =some f→∃(v:Value) (y:DataW H×List MemPlace),w.cell? (a.add (i*fs.size+j))=some v∧ys[j]? =some y∧DataW.trod enc P w base spare held n f.type [v]=some y:=by
 rcases open_slice ht h with h0|⟨a,len,cap,m,n,D,Pl,hcs,hb,hl,hm,hmm,hx,hi⟩
 ·exact .inl h0
 ·refine .inr ⟨a,len,cap,m,D,Pl,hcs,hb,hl,hm,hmm,by rw[hC]at hx;exact hx,fun i him=> ?_⟩
  obtain⟨cs',hc,ht'⟩:=hi i him
  rw[hC]at hc
  obtain⟨ys,n',hn',hy,hlen,hyl,hf⟩:=DataW.trod_struct he ht'
  obtain⟨_,hcl,hat⟩:=World.cells?_some hc
  simp only[Prod.mk.injEq]at hy
  refine⟨ys,n',hy.1,hy.2,hyl,fun j f hj=> ?_⟩
  obtain⟨ho,hk⟩:=hone_of hone j f hj
  have hjl:j<fs.size:=(Array.getElem?_eq_some_iff.1 hj).1
  have hcell:=hat j hjl
  have hv:cs'[j]? =some (cs'[j]'(by omega)):=List.getElem?_eq_getElem (by omega)
  have h1:=hf j f hj
  rw[ho,hk]at h1
  have hone':(cs'.drop j).take 1=[cs'[j]'(by omega)]:=by
   rw[List.drop_eq_getElem_cons (by omega)]
   rfl
  rw[hone']at h1
  have hys:ys[j]? =some (ys[j]'(by omega)):=List.getElem?_eq_getElem (by omega)
  refine⟨_,_,?_,hys,h1.trans hys⟩
  rw[←Go.Deep.add_add,hcell,hv]
end
section
variable {H:Type} {enc:TypeId×Value→H} {W:World}
def byteOf (z:Int):UInt8:=UInt8.ofNat z.toNat
theorem Ky {z:Int} (h:(Lit.int .u8 z).wf=true):bv (byteOf z)= .int .u8 z:=by
 simp[Lit.wf,IntKind.min,IntKind.max,IntKind.signed,IntKind.bits]at h
 unfold bv byteOf
 rw[UInt8.toNat_ofNat']
 congr 1
 omega
abbrev Old (W:World) (x:Nat):Prop:=x<W.heap.size
theorem DZ {fuel:Nat} {v:Value} {x:DataW H×List MemPlace} (h:DataW.trod enc Tryz.prog W 0 (fun _=>true) true fuel 26 [v]=some x) (l:∀p∈x.2,p.block<W.heap.size):
  ∃a len cap bs,v= .slice a len cap∧len≤cap∧aj (Old W) W a len ((bs:List UInt8).map bv):=by
 rcases open_ints Tryz.underlying26 Tryz.underlying5 (by kernel_rfl) h with⟨hcs,hx⟩|⟨a,len,cap,zs,hcs,_,hl,hm,hz,hx,hcell,hwz⟩
 ·simp only[List.cons.injEq,and_true]at hcs
  subst hcs
  exact⟨none,0,0,[],rfl,Nat.le_refl _,aj.nil _ _ _⟩
 ·simp only[List.cons.injEq,and_true]at hcs
  subst hcs
  subst hx
  simp only[if_true]at hz
  refine⟨some a,len,cap,(zs.take len).map byteOf,rfl,hl,by simp;omega,by omega,fun h0=> ?_⟩
  obtain⟨b,off,spot⟩:=a
  have hspot:spot=none:=by simpa[Addr.add]using World.cell?_spot (hcell 0 (by omega))
  subst hspot
  have hb:b<W.heap.size:=l (.cell b off) (MemPlace.mem_row.2 ⟨0,by omega,by simp⟩)
  refine⟨b,off,rfl,hb,hb,fun i hi=> ?_⟩
  have h1:=hcell i (by omega)
  rw[add_plain]at h1
  have hi':i<zs.length:=by omega
  rw[h1,List.map_map,List.getElem?_map,List.getElem?_take,if_pos hi,List.getElem?_eq_getElem hi']
  simp only[Option.map_some,Function.comp,List.getD,List.getElem?_eq_getElem hi',Option.getD_some]
  rw[Ky (hwz _ (List.getElem_mem hi'))]
end
section
variable {H:Type} {P:Program}
theorem qV {e:TypeId}:∀{l:List (DataW H)} {d:DataW H},d∈l→∀n∈d.weights P e,n∈DataW.weightsAll P e l
 |x::r,d,h,n,hn=>by
  rcases List.mem_cons.1 h with rfl|h
  ·exact List.mem_append_left _ hn
  ·exact List.mem_append_right _ (qV h n hn)
theorem kK:∀{ts:List TypeId} {ds:List (DataW H)} {j:Nat} {t:TypeId} {d:DataW H},ts[j]? =some t→ds[j]? =some d→∀n∈d.weights P t,n∈DataW.weightsEach P ts ds
 |t'::ts,d'::ds,0,t,d,ht,hd,n,hn=>by
  simp only[List.getElem?_cons_zero,Option.some.injEq]at ht hd
  subst ht hd
  exact List.mem_append_left _ hn
 |t'::ts,d'::ds,j+1,t,d,ht,hd,n,hn=>by
  simp only[List.getElem?_cons_succ]at ht hd
  exact List.mem_append_right _ (kK ht hd n hn)
 |[],_,_,_,_,ht,_,_,_=>by simp at ht
 |_::_,[],_,_,_,_,hd,_,_=>by simp at hd
theorem BG {t e:TypeId} (ht:P.underlying t=some (.slice e)) (elems rest:List (DataW H)):(elems.length+rest.length)*P.bytesOf e∈(DataW.slice elems rest).weights P t:=by
 unfold DataW.weights
 rw[ht]
 exact List.mem_cons_self
theorem BH {t e:TypeId} (ht:P.underlying t=some (.slice e)) {elems rest:List (DataW H)} {d:DataW H} (hd:d∈elems) {n:Nat} (hn:n∈d.weights P e):n∈(DataW.slice elems rest).weights P t:=by
 unfold DataW.weights
 rw[ht]
 exact List.mem_cons_of_mem _ (List.mem_append_left _ (qV hd n hn))
theorem BI {t:TypeId} {fs:Array Field} (ht:P.underlying t=some (.struct fs)) {parts:List (DataW H)} {j:Nat} {f:Field} {d:DataW H} (hf:fs[j]? =some f) (hd:parts[j]? =some d) {n:Nat} (hn:n∈d.weights P f.type):n∈(DataW.agg parts).weights P t:=by
 unfold DataW.weights
 rw[ht]
 refine kK (j:=j) (t:=f.type) (d:=d) ?_ hd n hn
 rw[List.getElem?_map,Array.getElem?_toList,hf]
 rfl
end
section
variable {H:Type} {enc:TypeId×Value→H} {W:World}
theorem Uy:Tryz.prog.bytesOf 5=1:=by kernel_rfl
theorem D5 {fuel:Nat} {v:Value} {x:DataW H×List MemPlace} (h:DataW.trod enc Tryz.prog W 0 (fun _=>true) true fuel 26 [v]=some x) (l:∀p∈x.2,p.block<W.heap.size) (hw:∀n∈x.1.weights Tryz.prog 26,n≤reachBytes):
  ∃a len cap bs,v= .slice a len cap∧len≤cap∧aj (Old W) W a len ((bs:List UInt8).map bv)∧len≤140737488351232:=by
 obtain⟨a,len,cap,bs,rfl,hlc,hr⟩:=DZ h l
 refine⟨a,len,cap,bs,rfl,hlc,hr,?_⟩
 rcases open_ints Tryz.underlying26 Tryz.underlying5 (by kernel_rfl) h with⟨hcs,hx⟩|⟨a',len',cap',zs,hcs,_,hl,hm,hz,hx,_,_⟩
 ·simp only[List.cons.injEq,and_true,Value.slice.injEq]at hcs
  obtain⟨_,rfl,_⟩:=hcs
  omega
 ·simp only[List.cons.injEq,and_true,Value.slice.injEq]at hcs
  obtain⟨_,rfl,_⟩:=hcs
  subst hx
  have h1:=hw _ (BG Tryz.underlying26 _ _)
  rw[Uy]at h1
  simp only[if_true]at hz
  unfold lits at h1
  simp only[List.length_map,List.length_take,List.length_drop]at h1
  unfold reachBytes at h1
  omega
end
structure D6 (x:kQ):Prop where
 wk:(Lit.int .i64 x.kind).wf=true
 wf:(Lit.int .i64 x.fd).wf=true
 wa:(Lit.int .i64 x.at_).wf=true
 wn:(Lit.int .i64 x.n).wf=true
 ws:(Lit.int .i64 x.snap).wf=true
 wt:0≤x.au∧x.au≤18446744073709551615
 wp:x.path.length≤maxLen
 wq:x.aA.length≤maxLen
 wd:x.data.length≤140737488351232
structure Uz (W:World) (g off:Nat) (x:kQ) (da:Option Addr) (dc:Nat):Prop where
 cells:W.cell? ⟨g,off,none⟩=some (.int .i64 x.kind)∧W.cell? ⟨g,off+1,none⟩=some (.string (strOf x.path))∧W.cell? ⟨g,off+2,none⟩=some (.string (strOf x.aA))∧W.cell? ⟨g,off+3,none⟩=some (.int .i64 x.fd)∧W.cell? ⟨g,off+4,none⟩=some (.int .i64 x.at_)∧W.cell? ⟨g,off+5,none⟩=some (.int .i64 x.n)∧W.cell? ⟨g,off+6,none⟩=some (.int .u64 x.au)∧W.cell? ⟨g,off+7,none⟩=some (.int .i64 x.snap)∧W.cell? ⟨g,off+8,none⟩=some (.slice da x.data.length dc)
 ok:D6 x
 cap:x.data.length≤dc
 row:aj (fun b=>b<W.heap.size) W da x.data.length (x.data.map bv)
def Sq (W:World) (a:Option Addr) (len:Nat):Prop:=
 len≤maxLen∧(0<len→∃b off,a=some ⟨b,off,none⟩∧b<W.heap.size∧∀k,k<len→∃x da dc,Uz W b (off+k*9) x da dc)
theorem Uz.up {W w:World} {g off:Nat} {x:kQ} {da:Option Addr} {dc:Nat} (h:Uz W g off x da dc) (hb:Below W.heap.size W w) (hg:g<W.heap.size):w.cell? ⟨g,off,none⟩=some (.int .i64 x.kind)∧w.cell? ⟨g,off+1,none⟩=some (.string (strOf x.path))∧w.cell? ⟨g,off+2,none⟩=some (.string (strOf x.aA))∧w.cell? ⟨g,off+3,none⟩=some (.int .i64 x.fd)∧w.cell? ⟨g,off+4,none⟩=some (.int .i64 x.at_)∧w.cell? ⟨g,off+5,none⟩=some (.int .i64 x.n)∧w.cell? ⟨g,off+6,none⟩=some (.int .u64 x.au)∧w.cell? ⟨g,off+7,none⟩=some (.int .i64 x.snap)∧w.cell? ⟨g,off+8,none⟩=some (.slice da x.data.length dc):=by
 obtain⟨h0,h1,h2,h3,h4,h5,h6,h7,h8⟩:=h.cells
 exact⟨(hb.cell (p:=⟨g,off,none⟩) hg).trans h0,(hb.cell (p:=⟨g,off+1,none⟩) hg).trans h1,(hb.cell (p:=⟨g,off+2,none⟩) hg).trans h2,(hb.cell (p:=⟨g,off+3,none⟩) hg).trans h3,(hb.cell (p:=⟨g,off+4,none⟩) hg).trans h4,(hb.cell (p:=⟨g,off+5,none⟩) hg).trans h5,(hb.cell (p:=⟨g,off+6,none⟩) hg).trans h6,(hb.cell (p:=⟨g,off+7,none⟩) hg).trans h7,(hb.cell (p:=⟨g,off+8,none⟩) hg).trans h8⟩
theorem Ga {z:Int} (h:(Lit.int .u64 z).wf=true):0≤z∧z≤18446744073709551615:=by
 simp[Lit.wf,IntKind.min,IntKind.max,IntKind.signed,IntKind.bits]at h
 omega
theorem wh (s:ByteArray):strOf s.data.toList=s:=by cases s;rfl
section
variable {H:Type} {enc:TypeId×Value→H} {W:World}
theorem Og {fuel:Nat} {v:Value} {x:DataW H×List MemPlace} (h:DataW.trod enc Tryz.prog W 0 (fun _=>true) true fuel 22 [v]=some x) (l:∀p∈x.2,p.block<W.heap.size) (hw:∀n∈x.1.weights Tryz.prog 22,n≤reachBytes):
  ∃a len cap,v= .slice a len cap∧len≤cap∧Sq W a len:=by
 rcases uh Tryz.underlying22 Tryz.underlying28 (by kernel_rfl) (by kernel_rfl) h with⟨hcs,hx⟩|⟨a,len,cap,m,D,Pl,hcs,_,hl,hm,hmm,hx,hi⟩
 ·simp only[List.cons.injEq,and_true]at hcs
  subst hcs
  exact⟨none,0,0,rfl,Nat.le_refl _,by simp,fun h=>by omega⟩
 ·simp only[List.cons.injEq,and_true]at hcs
  subst hcs
  subst hx
  simp only[if_true]at hmm
  subst hmm
  refine⟨some a,len,m,rfl,hl,by omega,fun h0=> ?_⟩
  have hsub:∀(i:Nat) (ys:List (DataW H×List MemPlace)) (j:Nat) (y:DataW H×List MemPlace),i<m→Pl i=ys.flatMap (·.2)→ys[j]? =some y→∀p∈y.2,p.block<W.heap.size:=by
   intro i ys j y hi' hp hy p hpy
   refine l p (List.mem_append_right _ (List.mem_flatMap.2 ⟨i,List.mem_range.2 hi',?_⟩))
   rw[hp]
   exact List.mem_flatMap.2 ⟨y,List.mem_of_getElem? hy,hpy⟩
  obtain⟨b,off,spot⟩:=a
  have hspot:spot=none:=by
   obtain⟨ys,n,_,_,_,hf⟩:=hi 0 (by omega)
   obtain⟨v,y,hc,_⟩:=hf 0 _ rfl
   simpa[Addr.add]using World.cell?_spot hc
  subst hspot
  have hb:b<W.heap.size:=l (.cell b off) (List.mem_append_left _ (MemPlace.mem_row.2 ⟨0,by simp;omega,by simp⟩))
  refine⟨b,off,rfl,hb,fun k hk=> ?_⟩
  obtain⟨ys,n,hD,hP,hyl,hf⟩:=hi k (by omega)
  obtain⟨v0,y0,c0,e0,t0⟩:=hf 0 _ rfl
  obtain⟨v1,y1,c1,e1,t1⟩:=hf 1 _ rfl
  obtain⟨v2,y2,c2,e2,t2⟩:=hf 2 _ rfl
  obtain⟨v3,y3,c3,e3,t3⟩:=hf 3 _ rfl
  obtain⟨v4,y4,c4,e4,t4⟩:=hf 4 _ rfl
  obtain⟨v5,y5,c5,e5,t5⟩:=hf 5 _ rfl
  obtain⟨v6,y6,c6,e6,t6⟩:=hf 6 _ rfl
  obtain⟨v7,y7,c7,e7,t7⟩:=hf 7 _ rfl
  obtain⟨v8,y8,c8,e8,t8⟩:=hf 8 _ rfl
  obtain⟨z0,f0,_,g0⟩:=DataW.trod_int Tryz.underlying3 t0
  obtain⟨s1,f1,_,g1⟩:=DataW.trod_string Tryz.underlying9 t1
  obtain⟨s2,f2,_,g2⟩:=DataW.trod_string Tryz.underlying9 t2
  obtain⟨z3,f3,_,g3⟩:=DataW.trod_int Tryz.underlying3 t3
  obtain⟨z4,f4,_,g4⟩:=DataW.trod_int Tryz.underlying3 t4
  obtain⟨z5,f5,_,g5⟩:=DataW.trod_int Tryz.underlying3 t5
  obtain⟨z6,f6,_,g6⟩:=DataW.trod_int Tryz.underlying25 t6
  obtain⟨z7,f7,_,g7⟩:=DataW.trod_int Tryz.underlying3 t7
  obtain⟨a8,n8,k8,bs,rfl,q8,r8,r8w⟩:=D5 t8 (hsub k ys 8 y8 (by omega) hP e8) (fun n hn=>hw n (BH Tryz.underlying22 (d:=D k) (List.mem_map.2 ⟨k,List.mem_range.2 hk,rfl⟩) (by
   rw[hD]
   exact BI Tryz.underlying28 (j:=8) rfl (d:=y8.1) (by rw[List.getElem?_map,e8];rfl) hn)))
  simp only[List.cons.injEq,and_true]at f0 f1 f2 f3 f4 f5 f6 f7
  subst f0 f1 f2 f3 f4 f5 f6 f7
  rw[add_plain]at c0 c1 c2 c3 c4 c5 c6 c7 c8
  have hbl:bs.length=n8:=by simpa using r8.length
  subst hbl
  refine⟨⟨z0,s1.data.toList,s2.data.toList,z3,z4,z5,z6,z7,bs⟩,a8,k8,⟨⟨c0,?_,?_,?_,?_,?_,?_,?_,?_⟩,⟨g0,g3,g4,g5,g7,Ga g6,?_,?_,r8w⟩,q8,r8⟩⟩
  ·rw[Nat.add_assoc];dsimp only;rw[wh];exact c1
  ·rw[Nat.add_assoc];dsimp only;rw[wh];exact c2
  ·rw[Nat.add_assoc];exact c3
  ·rw[Nat.add_assoc];exact c4
  ·rw[Nat.add_assoc];exact c5
  ·rw[Nat.add_assoc];exact c6
  ·rw[Nat.add_assoc];exact c7
  ·rw[Nat.add_assoc];exact c8
  ·dsimp only;rw[Array.length_toList];exact g1
  ·dsimp only;rw[Array.length_toList];exact g2
end
open Go.ChangeShapes Go.WideShapes Go.ChangeAt Go.RowKit
set_option linter.unusedSimpArgs false
structure Gb (x y:kQ):Prop where
 kind:y.kind=x.kind
 path:y.path∈fG
 aA:y.aA∈fG
 fd:y.fd=aH x.fd 0 3
 at_:y.at_=aH x.at_ 0 50
 n:y.n=aH x.n 0 60
 au:y.au=x.au%12
 snap:0≤y.snap∧y.snap≤4
 data:y.data=x.data.take 40
theorem Gb.ok {x y:kQ} (h:Gb x y) (hx:D6 x):jL y:=by
 have h1:=m_ x.fd 0 3 (by omega)
 have h2:=m_ x.at_ 0 50 (by omega)
 have h3:=m_ x.n 0 60 (by omega)
 have h4:=vZ h.path
 have h5:=vZ h.aA
 have h6:=hx.wt
 have h7:=h.snap
 refine⟨by rw[h.kind];exact hx.wk,by rw[h.fd];exact gB (by omega) (by omega),by rw[h.at_];exact gB (by omega) (by omega),by rw[h.n];exact gB (by omega) (by omega),gB (by omega) (by omega),by rw[h.au];omega,by omega,by omega,by rw[h.data,List.length_take];omega⟩
theorem wm (z:Int):(Lit.int .i64 (IntKind.i64.wrap z)).wf=true:=by
 have h1:=Int.emod_nonneg (z+9223372036854775808) (show(18446744073709551616:Int)≠0 by omega)
 have h2:=Int.emod_lt_of_pos (z+9223372036854775808) (show(0:Int)<18446744073709551616 by omega)
 simp[Lit.wf,IntKind.wrap,IntKind.min,IntKind.max,IntKind.signed,IntKind.bits]
 omega
theorem jf:(Tryz.prog.info? 28).map (·.size)=some 9:=by kernel_rfl
theorem iy (x:kQ) (da:Option Addr) (dc:Nat):(opC x da dc).all (·.oneCell')=true:=by simp[opC,Value.oneCell']
theorem sH {fn:Func} {sl:Nat} {Q:Ending→World→Prop} {a:Act} {w:World} {b:Nat} {x:kQ} {da:Option Addr} {dc:Nat} (hf:fn.results= #[.cell sl 28]) (hs:a.tmps.getD sl undef= .pointer (some ⟨b,0,none⟩)) (hd:a.defers=[]) (hg:w.heap[b]? =some (.cells (opC x da dc) 28 (0,0))) (hQ:Q (.returned (.agg (opC x da dc))) w):
  bodyPost Tryz.prog fn Q .ret a w:=
 bodyPost_ret (v:= .agg (opC x da dc)) (mo hf hs (run_loadVar_row w b 28 28 _ (0,0) _ hg Tryz.underlying28 rfl jf)) hd hQ
theorem Gc {n:Nat} (w:World) (a:Addr) (v:Value) (hn:n≤w.heap.size) (h:n≤a.block):Below n w (w.setCell a v):=
 (Keeps.lN w a v).gP hn fun x hx (e:x=a.block)=>by omega
structure iU (w w5:World) (az:Nat) (x y:kQ) (da:Option Addr) (dc:Nat):Prop where
 kind:w5.cell? ⟨w.heap.size,0,none⟩=some (.int .i64 x.kind)
 snap:w5.cell? ⟨w.heap.size,7,none⟩=some (.int .i64 x.snap)
 cells:w5.heap[az]? =some (.cells (opC y da dc) 28 (0,0))
 res:w5.heap[w.heap.size+1]? =some (.cells #[.int .i64 0, .string ⟨#[]⟩, .string ⟨#[]⟩, .int .i64 0, .int .i64 0, .int .i64 0, .int .u64 0, .int .i64 0, .slice none 0 0] 28 (0,0))
 below:Below w.heap.size w w5
 ne:az≠w.heap.size+1∧az≠w.heap.size∧w.heap.size≤az
theorem iU.all {w w5:World} {az:Nat} {x y:kQ} {da:Option Addr} {dc:Nat} (h:iU w w5 az x y da dc):w5.cell? ⟨az,0,none⟩=some (.int .i64 y.kind)∧w5.cell? ⟨az,1,none⟩=some (.string (strOf y.path))∧w5.cell? ⟨az,2,none⟩=some (.string (strOf y.aA))∧w5.cell? ⟨az,3,none⟩=some (.int .i64 y.fd)∧w5.cell? ⟨az,4,none⟩=some (.int .i64 y.at_)∧w5.cell? ⟨az,5,none⟩=some (.int .i64 y.n)∧w5.cell? ⟨az,6,none⟩=some (.int .u64 y.au)∧w5.cell? ⟨az,7,none⟩=some (.int .i64 y.snap)∧w5.cell? ⟨az,8,none⟩=some (.slice da y.data.length dc)∧w5.frozen? ⟨az,7,none⟩=false:=by
 have:=h.cells
 unfold opC at this
 refine⟨?_,?_,?_,?_,?_,?_,?_,?_,?_,?_⟩<;>simp[World.cell?,World.frozen?,this]
theorem iU.put {w w5:World} {az:Nat} {x y:kQ} {da:Option Addr} {dc:Nat} (h:iU w w5 az x y da dc):(w5.setCell ⟨az,7,none⟩ (.int .i64 0)).heap[w.heap.size+1]? =some (.cells #[.int .i64 0, .string ⟨#[]⟩, .string ⟨#[]⟩, .int .i64 0, .int .i64 0, .int .i64 0, .int .u64 0, .int .i64 0, .slice none 0 0] 28 (0,0))∧Below w.heap.size w (w5.setCell ⟨az,7,none⟩ (.int .i64 0)):=
 ⟨(bE w5 ⟨az,7,none⟩ (.int .i64 0) (w.heap.size+1) (fun e=>h.ne.1 e.symm)).trans h.res,h.below.trans (Gc w5 ⟨az,7,none⟩ (.int .i64 0) h.below.size h.ne.2.2)⟩
theorem iU.of {w w2 wb w5:World} {az:Nat} {x y:kQ} {da:Option Addr} {dc:Nat} (hb2:Below w.heap.size w w2) (hop:w2.heap[w.heap.size]? =some (.cells (opC x da dc) 28 (0,0)))
  (hre:w2.heap[w.heap.size+1]? =some (.cells #[.int .i64 0, .string ⟨#[]⟩, .string ⟨#[]⟩, .int .i64 0, .int .i64 0, .int .i64 0, .int .u64 0, .int .i64 0, .slice none 0 0] 28 (0,0))) (hb:Below w2.heap.size w2 wb) (haz:w2.heap.size≤az) (hs:jC wb az (opC y da dc) 28 w5):iU w w5 az x y da dc:=by
 have h1:=(Array.getElem?_eq_some_iff.1 hop).1
 have h2:=(Array.getElem?_eq_some_iff.1 hre).1
 obtain⟨k1,k2,k3⟩:=hs
 have hbs:=hb.size
 have ho:w5.heap[w.heap.size]? =some (.cells (opC x da dc) 28 (0,0)):=((k2.block _ (by omega) (by omega)).trans (hb.block _ h1)).trans hop
 have hbb:Below w.heap.size w w5:=jC.below ⟨k1,k2,k3⟩ (hb2.trans (hb.mono hb2.size)) (by omega)
 refine⟨by simp[World.cell?,ho,opC],by simp[World.cell?,ho,opC],k1,((k2.block _ (by omega) (by omega)).trans (hb.block _ h2)).trans hre,hbb,by omega⟩
def BJ (S:Nat→Prop) (w:World) (x:kQ) (da:Option Addr) (e:Ending) (w':World):Prop:=
 ∃y K5,e= .returned (.agg (opC y da K5))∧Gb x y∧y.data.length≤K5∧aj S w' da y.data.length (y.data.map bv)∧Below w.heap.size w w'
theorem ng {S:Nat→Prop} {w w6:World} {x y:kQ} {da:Option Addr} {dc:Nat} {d40:List UInt8} {s1 s2:List UInt8} (hx:D6 x) (hdc:x.data.length≤dc) (hda:aj S w da x.data.length (x.data.map bv)) (h4:d40=x.data.take 40) (h1:s1∈fG) (h2:s2∈fG)
  (hs:y.snap=aH x.snap 0 4∨y.snap=0) (e1:y.kind=x.kind) (e2:(y.path,y.aA)=(s1,s2)) (e3:(y.fd,y.at_,y.n)=(aH x.fd 0 3,aH x.at_ 0 50,aH x.n 0 60)) (e4':y.au=x.au.tmod 12) (e5:y.data=d40) (hb:Below w.heap.size w w6):BJ S w x da (.returned (.agg (opC y da dc))) w6:=by
 have e4:y.au=x.au%12:=e4'.trans (Int.tmod_eq_emod_of_nonneg hx.wt.1)
 obtain⟨ep,et⟩:=Prod.mk.inj e2
 obtain⟨ef,e6⟩:=Prod.mk.inj e3
 obtain⟨ea,en⟩:=Prod.mk.inj e6
 have hb4:=m_ x.snap 0 4 (by omega)
 have hl:y.data.length=min x.data.length 40:=by rw[e5,h4,List.length_take,Nat.min_comm]
 refine⟨y,dc,rfl,⟨e1,by rw[ep];exact h1,by rw[et];exact h2,ef,ea,en,e4,by rcases hs with h|h<;>omega,by rw[e5,h4]⟩,by omega,?_,hb⟩
 have:=(hda.take 40).below hb (Nat.le_refl _)
 rw[hl,e5,h4,List.map_take]
 exact this
end Go.Proofs.YtmabllemjkcobaaGreatDoor
