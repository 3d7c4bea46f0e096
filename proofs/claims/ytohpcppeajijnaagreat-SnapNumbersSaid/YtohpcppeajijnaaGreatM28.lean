/- Arguments opened: slices of bytes, of truths, of structs. The lemma open_slice_fields is the guide's own (extra-structs). -/
import Derived.Test.YtohpcppeajijnaaGreatM03
import Derived.Deep.Slices
import Derived.Deep.Fields
import Derived.Deep.Grids
import Derived.ChangeSame
import Derived.Lib.SmallJoins
namespace Go.Proofs.YtohpcppeajijnaaGreat
open Go.Joins Go.ChangeShapes Go.WideShapes Go.ChangeAt Go.RowKit Go.Deep
set_option linter.unusedVariables false
section
variable {H:Type} {enc:TypeId×Value→H} {P:Program} {w:World} {base:Nat} {spare:Nat→Bool} {held:Bool}
theorem rJ {t e:TypeId} {fs:Array Field} {fuel:Nat} {cs:List Value} {x:DataW H×List MemPlace} (ht:P.underlying t=some (.slice e)) (he:P.underlying e=some (.struct fs))
  (hone:oneCellFields P fs=true) (hC:P.cellsOf e=fs.size) (h:DataW.trod enc P w base spare held fuel t cs=some x):
  (cs=[.slice none 0 0]∧x=(.nil,[]))∨
  ∃(a:Addr) (len cap m:Nat) (D:Nat→DataW H) (Pl:Nat→List MemPlace),cs=[.slice (some a) len cap]∧base≤a.block∧len≤cap∧cap≤maxLen∧m=(if spare a.block then cap else len)∧
   x=(.slice ((List.range len).map D) ((List.range (m-len)).map fun j=>D (len+j)),MemPlace.row a (m*fs.size)++(List.range m).flatMap Pl)∧
   ∀i,i<m→∃(ys:List (DataW H×List MemPlace)) (n:Nat),D i= .agg (ys.map (·.1))∧Pl i=ys.flatMap (·.2)∧ys.length=fs.size∧
    ∀(j:Nat) (f:Field),fs[j]? =some f→∃(v:Value) (y:DataW H×List MemPlace),w.cell? (a.add (i*fs.size+j))=some v∧ys[j]? =some y∧DataW.trod enc P w base spare held n f.type [v]=some y:=by
 rcases open_slice ht h with h0|⟨a,len,cap,m,n,D,Pl,hcs,hb,hl,hm,hmm,hx,hi⟩
 ·exact .inl h0
 ·refine .inr ⟨a,len,cap,m,D,Pl,hcs,hb,hl,hm,hmm,by rw[hC]at hx;exact hx,fun i him=> ?_⟩
  obtain⟨cs',hc,ht'⟩:=hi i him
  rw[hC]at hc
  obtain⟨ys,n',hn',hy,hlen,hyl,hf⟩:=DataW.trod_struct he ht'
  obtain⟨_,hcl,hat⟩:=World.cells?_some hc
  simp only[Prod.mk.injEq]at hy
  refine⟨ys,n',hy.1,hy.2,hyl,fun j f hj=> ?_⟩
  obtain⟨ho,hk⟩:=hone_of hone j f hj
  have hjl:j<fs.size:=(Array.getElem?_eq_some_iff.1 hj).1
  have hcell:=hat j hjl
  have hv:cs'[j]? =some (cs'[j]'(by omega)):=List.getElem?_eq_getElem (by omega)
  have h1:=hf j f hj
  rw[ho,hk]at h1
  have hone':(cs'.drop j).take 1=[cs'[j]'(by omega)]:=by
   rw[List.drop_eq_getElem_cons (by omega)]
   rfl
  rw[hone']at h1
  have hys:ys[j]? =some (ys[j]'(by omega)):=List.getElem?_eq_getElem (by omega)
  refine⟨_,_,?_,hys,h1.trans hys⟩
  rw[←Go.Deep.add_add,hcell,hv]
end
section
variable {H:Type} {enc:TypeId×Value→H} {W:World}
def byteOf (z:Int):UInt8:=UInt8.ofNat z.toNat
theorem FZ {z:Int} (h:(Lit.int .u8 z).wf=true):bv (byteOf z)= .int .u8 z:=by
 simp[Lit.wf,IntKind.min,IntKind.max,IntKind.signed,IntKind.bits]at h
 unfold bv byteOf
 rw[UInt8.toNat_ofNat']
 congr 1
 omega
abbrev Old (W:World) (x:Nat):Prop:=x<W.heap.size
theorem Bd {fuel:Nat} {v:Value} {x:DataW H×List MemPlace} (h:DataW.trod enc Tryz.prog W 0 (fun _=>true) true fuel 39 [v]=some x) (l:∀p∈x.2,p.block<W.heap.size):
  ∃a len cap bs,v= .slice a len cap∧len≤cap∧ak (Old W) W a len ((bs:List UInt8).map bv):=by
 rcases open_ints Tryz.underlying39 Tryz.underlying5 (by kernel_rfl) h with⟨hcs,hx⟩|⟨a,len,cap,zs,hcs,_,hl,hm,hz,hx,hcell,hwz⟩
 ·simp only[List.cons.injEq,and_true]at hcs
  subst hcs
  exact⟨none,0,0,[],rfl,Nat.le_refl _,ak.nil _ _ _⟩
 ·simp only[List.cons.injEq,and_true]at hcs
  subst hcs
  subst hx
  simp only[if_true]at hz
  refine⟨some a,len,cap,(zs.take len).map byteOf,rfl,hl,by simp;omega,by omega,fun h0=> ?_⟩
  obtain⟨b,off,spot⟩:=a
  have hspot:spot=none:=by simpa[Addr.add]using World.cell?_spot (hcell 0 (by omega))
  subst hspot
  have hb:b<W.heap.size:=l (.cell b off) (MemPlace.mem_row.2 ⟨0,by omega,by simp⟩)
  refine⟨b,off,rfl,hb,hb,fun i hi=> ?_⟩
  have h1:=hcell i (by omega)
  rw[add_plain]at h1
  have hi':i<zs.length:=by omega
  rw[h1,List.map_map,List.getElem?_map,List.getElem?_take,if_pos hi,List.getElem?_eq_getElem hi']
  simp only[Option.map_some,Function.comp,List.getD,List.getElem?_eq_getElem hi',Option.getD_some]
  rw[FZ (hwz _ (List.getElem_mem hi'))]
end
section
variable {H:Type} {P:Program}
theorem oP {e:TypeId}:∀{l:List (DataW H)} {d:DataW H},d∈l→∀n∈d.weights P e,n∈DataW.weightsAll P e l
 |x::r,d,h,n,hn=>by
  rcases List.mem_cons.1 h with rfl|h
  ·exact List.mem_append_left _ hn
  ·exact List.mem_append_right _ (oP h n hn)
theorem oQ:∀{ts:List TypeId} {ds:List (DataW H)} {j:Nat} {t:TypeId} {d:DataW H},ts[j]? =some t→ds[j]? =some d→∀n∈d.weights P t,n∈DataW.weightsEach P ts ds
 |t'::ts,d'::ds,0,t,d,ht,hd,n,hn=>by
  simp only[List.getElem?_cons_zero,Option.some.injEq]at ht hd
  subst ht hd
  exact List.mem_append_left _ hn
 |t'::ts,d'::ds,j+1,t,d,ht,hd,n,hn=>by
  simp only[List.getElem?_cons_succ]at ht hd
  exact List.mem_append_right _ (oQ ht hd n hn)
 |[],_,_,_,_,ht,_,_,_=>by simp at ht
 |_::_,[],_,_,_,_,hd,_,_=>by simp at hd
theorem zG {t e:TypeId} (ht:P.underlying t=some (.slice e)) (elems rest:List (DataW H)):(elems.length+rest.length)*P.bytesOf e∈(DataW.slice elems rest).weights P t:=by
 unfold DataW.weights
 rw[ht]
 exact List.mem_cons_self
theorem zH {t e:TypeId} (ht:P.underlying t=some (.slice e)) {elems rest:List (DataW H)} {d:DataW H} (hd:d∈elems) {n:Nat} (hn:n∈d.weights P e):n∈(DataW.slice elems rest).weights P t:=by
 unfold DataW.weights
 rw[ht]
 exact List.mem_cons_of_mem _ (List.mem_append_left _ (oP hd n hn))
theorem zI {t:TypeId} {fs:Array Field} (ht:P.underlying t=some (.struct fs)) {parts:List (DataW H)} {j:Nat} {f:Field} {d:DataW H} (hf:fs[j]? =some f) (hd:parts[j]? =some d) {n:Nat} (hn:n∈d.weights P f.type):n∈(DataW.agg parts).weights P t:=by
 unfold DataW.weights
 rw[ht]
 refine oQ (j:=j) (t:=f.type) (d:=d) ?_ hd n hn
 rw[List.getElem?_map,Array.getElem?_toList,hf]
 rfl
end
section
variable {H:Type} {enc:TypeId×Value→H} {W:World}
theorem PN:Tryz.prog.bytesOf 5=1:=by kernel_rfl
theorem Bf {fuel:Nat} {v:Value} {x:DataW H×List MemPlace} (h:DataW.trod enc Tryz.prog W 0 (fun _=>true) true fuel 39 [v]=some x) (l:∀p∈x.2,p.block<W.heap.size) (hw:∀n∈x.1.weights Tryz.prog 39,n≤reachBytes):
  ∃a len cap bs,v= .slice a len cap∧len≤cap∧ak (Old W) W a len ((bs:List UInt8).map bv)∧len≤140737488351232:=by
 obtain⟨a,len,cap,bs,rfl,hlc,hr⟩:=Bd h l
 refine⟨a,len,cap,bs,rfl,hlc,hr,?_⟩
 rcases open_ints Tryz.underlying39 Tryz.underlying5 (by kernel_rfl) h with⟨hcs,hx⟩|⟨a',len',cap',zs,hcs,_,hl,hm,hz,hx,_,_⟩
 ·simp only[List.cons.injEq,and_true,Value.slice.injEq]at hcs
  obtain⟨_,rfl,_⟩:=hcs
  omega
 ·simp only[List.cons.injEq,and_true,Value.slice.injEq]at hcs
  obtain⟨_,rfl,_⟩:=hcs
  subst hx
  have h1:=hw _ (zG Tryz.underlying39 _ _)
  rw[PN]at h1
  simp only[if_true]at hz
  unfold lits at h1
  simp only[List.length_map,List.length_take,List.length_drop]at h1
  unfold reachBytes at h1
  omega
end
end Go.Proofs.YtohpcppeajijnaaGreat
