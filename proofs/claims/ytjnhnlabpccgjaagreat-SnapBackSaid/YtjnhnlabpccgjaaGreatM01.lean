/- Lemmas for every law of this seat: from a walk that returns true, and leaves all that was there as it was, to the row. What lies in memory: rows of cells that a slice reads; what a call leaves as it was. -/
import Derived.Test.YtjnhnlabpccgjaaGreatRows
import Derived.WalkKit
import Derived.ProofKit
import Derived.OpenShut
import Derived.Lib.Hide
import Derived.SizedLaws
namespace Go.Proofs.YtjnhnlabpccgjaaGreat
open Go.ChangeShapes Go.WideShapes Go.ChangeAt Go.RowKit
theorem gQ {k:IntKind} {a b:Int} (h:a=b):Ending.returned (.int k a)= .returned (.int k b):=by rw[h]
theorem iZ {a b:Bool} (h:a=b):Ending.returned (.bool a)= .returned (.bool b):=by rw[h]
theorem own:ownKnob Tryz.prog.godebug=none:=by kernel_rfl
theorem laidOut:laidOutB Tryz.prog=true:=by kernel_rfl
def yE (P:Program) (ts:List TypeId):Prop:=∀t∈ts,P.readableRec t=true∧t<P.types.size
theorem sI {H:Type} {enc:TypeId×Value→H} {P:Program} (hl:laidOutB P=true) {W W':World} (hb:Below W.heap.size W W'):
  ∀(ts:List TypeId) (vs:List Value) (ds:List (DataW H)) (ps:List MemPlace),yE P ts→
   DataW.TrodAll enc P W 0 (fun _=>true) true ts vs ds ps→(∀x∈ps,x.block<W.heap.size)→
   DataW.TrodAll enc P W' 0 (fun b=>decide (b<W.heap.size)) true ts vs ds ps
 |[],[],[],_,_,h,_=>h
 |t::ts,v::vs,d::ds,ps,hr,h,hlt=>by
  obtain⟨p,q,h1,h2,rfl⟩:=h
  have h3:=hr t (by simp)
  exact⟨p,q,Below.trod hl h3.1 h3.2 h1 hb (fun x hx=>hlt x (List.mem_append_left _ hx)),
   sI hl hb ts vs ds q (fun t' h'=>hr t' (List.mem_cons_of_mem _ h')) h2 (fun x hx=>hlt x (List.mem_append_right _ hx)),rfl⟩
 |[],_::_,_,_,_,h,_=>h.elim
 |[],[],_::_,_,_,h,_=>h.elim
 |_::_,[],_,_,_,h,_=>h.elim
 |_::_,_::_,[],_,_,h,_=>h.elim
theorem MZ {H:Type} {enc:TypeId×Value→H} {P:Program} (hl:laidOutB P=true) {f:Func} {s:ChangeSpec} {apart fresh handsOn:Bool} {W W':World} {args:Array Value} {ds gs:List (DataW H)} {before:List MemPlace}
  (hr:yE P f.params.toList) (hv:s.vars=[]) (hW:DataW.Whole enc P f.params.toList s.vars apart W args.toList ds gs before) (hb:Below W.heap.size W W')
  {T:TypeId} (hT:f.resultTypes= #[T]) (hu:P.underlying T=some .bool)
  (hs:s.fn H (ds++gs)={results:=[.lit (.bool true)],args:=ds}):
  s.post enc P f apart fresh handsOn false W args (.bool true) W':=by
 have hlt:=hW.lt
 have hW':=hW
 obtain⟨p,q,hA,hV,rfl,hfz,hnd⟩:=hW
 have hq:q=[]:=by
  rw[hv]at hV
  exact(trodVars_none hV).2
 subst hq
 refine⟨ds,gs,_,[],p,[],hW',?_,?_,?_,?_,fun h=>by cases h⟩
 ·rw[hs,hT]
  exact trodAll_mk1 (shut_bool hu _)
 ·rw[hs]
  exact sI hl hb _ _ _ _ hr hA (fun x hx=>hlt x (List.mem_append_left _ hx))
 ·rw[hs,hv]
  rfl
 ·exact hb.frame _
def Fine (W:World) (e:Ending) (W':World):Prop:=e= .returned (.bool true)∧Below W.heap.size W W'
set_option linter.unusedVariables false
structure Keeps (fp:Nat→Prop) (w w':World):Prop where
 os:w'.os=w.os
 tape:w'.tape=w.tape
 output:w'.output=w.output
 size:w.heap.size≤w'.heap.size
 block:∀b,b<w.heap.size→¬fp b→w'.heap[b]? =w.heap[b]?
theorem Keeps.refl (fp:Nat→Prop) (w:World):Keeps fp w w:=⟨rfl,rfl,rfl,Nat.le_refl _,fun _ _ _=>rfl⟩
theorem Keeps.trans {fp fp':Nat→Prop} {a b c:World} (h:Keeps fp a b) (k:Keeps fp' b c) (hs:∀x,x<a.heap.size→fp' x→fp x):Keeps fp a c:=
 ⟨k.os.trans h.os,k.tape.trans h.tape,k.output.trans h.output,Nat.le_trans h.size k.size,fun x hx hn=>(k.block x (Nat.lt_of_lt_of_le hx h.size) (fun hf=>hn (hs x hx hf))).trans (h.block x hx hn)⟩
theorem Keeps.mono {fp fp':Nat→Prop} {a b:World} (h:Keeps fp a b) (hs:∀x,x<a.heap.size→fp x→fp' x):Keeps fp' a b:=
 ⟨h.os,h.tape,h.output,h.size,fun x hx hn=>h.block x hx (fun hf=>hn (hs x hx hf))⟩
theorem Keeps.below {B:Nat} {w w':World} (h:Below B w w'):Keeps (fun b=>B≤b) w w':=
 ⟨h.os,h.tape,h.output,h.size,fun b _ hn=>h.block b (by omega)⟩
theorem Keeps.fD {fp:Nat→Prop} {B:Nat} {w w':World} (h:Keeps fp w w') (hB:B≤w.heap.size) (hf:∀x,x<B→¬fp x):Below B w w':=
 ⟨h.os,h.tape,h.output,h.size,fun b hb=>h.block b (by omega) (hf b hb)⟩
structure ah (S:Nat→Prop) (w:World) (a:Option Addr) (len:Nat) (vs:List Value):Prop where
 length:vs.length=len
 small:len≤maxLen
 at_:0<len→∃b off,a=some ⟨b,off,none⟩∧S b∧b<w.heap.size∧∀i,i<len→w.cell? ⟨b,off+i,none⟩=vs[i]?
theorem ah.kept {S:Nat→Prop} {w w':World} {a:Option Addr} {len:Nat} {vs:List Value} (h:ah S w a len vs) (hs:w.heap.size≤w'.heap.size) (hk:∀b,S b→b<w.heap.size→w'.heap[b]? =w.heap[b]?):ah S w' a len vs:=by
 refine⟨h.length,h.small,fun h0=> ?_⟩
 obtain⟨b,off,e,hS,hb,hc⟩:=h.at_ h0
 exact⟨b,off,e,hS,by omega,fun i hi=>(World.cell?_of_block (w:=w) (w':=w') (a:=⟨b,off+i,none⟩) (hk b hS hb)).trans (hc i hi)⟩
theorem ah.below {S:Nat→Prop} {B:Nat} {w w':World} {a:Option Addr} {len:Nat} {vs:List Value} (h:ah S w a len vs) (hb:Below B w w') (hB:w.heap.size≤B):ah S w' a len vs:=
 h.kept hb.size (fun b _ hl=>hb.block b (by omega))
theorem ah.mono {S S':Nat→Prop} {w:World} {a:Option Addr} {len:Nat} {vs:List Value} (h:ah S w a len vs) (hs:∀b,S b→S' b):ah S' w a len vs:=
 ⟨h.length,h.small,fun h0=>let⟨b,off,e,hS,r⟩:=h.at_ h0;⟨b,off,e,hs b hS,r⟩⟩
theorem ah.move {S S':Nat→Prop} {w w':World} {a:Option Addr} {len:Nat} {vs:List Value} (h:ah S w a len vs) (hs:w.heap.size≤w'.heap.size) (hk:∀b,S b→b<w.heap.size→S' b∧w'.heap[b]? =w.heap[b]?):ah S' w' a len vs:=by
 refine⟨h.length,h.small,fun h0=> ?_⟩
 obtain⟨b,off,e,hS,hb,hc⟩:=h.at_ h0
 exact⟨b,off,e,(hk b hS hb).1,by omega,fun i hi=>(World.cell?_of_block (w:=w) (w':=w') (a:=⟨b,off+i,none⟩) (hk b hS hb).2).trans (hc i hi)⟩
theorem ah.nil (S:Nat→Prop) (w:World) (a:Option Addr):ah S w a 0 []:=⟨rfl,by simp,fun h=>by omega⟩
structure bB (S:Nat→Prop) (w:World) (a:Option Addr) (len:Nat) (ss:List ByteArray):Prop where
 row:ah S w a len (ss.map .string)
 short:∀s∈ss,s.size≤maxLen
theorem bB.length {S:Nat→Prop} {w:World} {a:Option Addr} {len:Nat} {ss:List ByteArray} (h:bB S w a len ss):ss.length=len:=by have:=h.row.length;simpa using this
theorem bB.below {S:Nat→Prop} {B:Nat} {w w':World} {a:Option Addr} {len:Nat} {ss:List ByteArray} (h:bB S w a len ss) (hb:Below B w w') (hB:w.heap.size≤B):bB S w' a len ss:=⟨h.row.below hb hB,h.short⟩
theorem bB.kept {S:Nat→Prop} {w w':World} {a:Option Addr} {len:Nat} {ss:List ByteArray} (h:bB S w a len ss) (hs:w.heap.size≤w'.heap.size) (hk:∀b,S b→b<w.heap.size→w'.heap[b]? =w.heap[b]?):bB S w' a len ss:=⟨h.row.kept hs hk,h.short⟩
theorem bB.mono {S S':Nat→Prop} {w:World} {a:Option Addr} {len:Nat} {ss:List ByteArray} (h:bB S w a len ss) (hs:∀b,S b→S' b):bB S' w a len ss:=⟨h.row.mono hs,h.short⟩
theorem bB.cell {S:Nat→Prop} {w:World} {a:Option Addr} {len:Nat} {ss:List ByteArray} (h:bB S w a len ss) (k:Nat) (hk:k<len):
  ∃b off s,a=some ⟨b,off,none⟩∧S b∧b<w.heap.size∧ss[k]? =some s∧s.size≤maxLen∧w.cell? ⟨b,off+k,none⟩=some (.string s):=by
 obtain⟨b,off,e,hS,hb,hc⟩:=h.row.at_ (by omega)
 have hl:=h.length
 have hs:ss[k]? =some (ss[k]'(by omega)):=List.getElem?_eq_getElem (by omega)
 refine⟨b,off,ss[k]'(by omega),e,hS,hb,hs,h.short _ (List.getElem_mem _),?_⟩
 rw[hc k hk,List.getElem?_map,hs]
 rfl
def oq {α:Type} (p:α→Bool) (l:List α):Int:=match l.findIdx? p with|some i=>(i:Int)|none=> -1
theorem mQ {α:Type} {p:α→Bool} {l:List α} (h:l.any p=false):oq p l= -1:=by
 have:l.findIdx? p=none:=by
  rw[List.findIdx?_eq_none_iff]
  simpa using h
 simp[oq,this]
theorem vo {α:Type} {p:α→Bool} {l:List α} {k:Nat} {x:α} (h:(l.take k).any p=false) (hx:l[k]? =some x) (hp:p x=true):oq p l=k:=by
 have:l.findIdx? p=some k:=by
  rw[List.findIdx?_eq_some_iff_getElem]
  obtain⟨hk,e⟩:=List.getElem?_eq_some_iff.1 hx
  refine⟨hk,by rw[e];exact hp,fun j hj=> ?_⟩
  have h1:l[j]∈l.take k:=by
   rw[List.mem_take_iff_getElem]
   exact⟨j,by omega,rfl⟩
  have:=List.any_eq_false.1 h _ h1
  simpa using this
 simp[oq,this]
theorem any_take_succ {α:Type} {p:α→Bool} {l:List α} {k:Nat} {x:α} (h:(l.take k).any p=false) (hx:l[k]? =some x) (hp:p x=false):(l.take (k+1)).any p=false:=by
 obtain⟨hk,e⟩:=List.getElem?_eq_some_iff.1 hx
 rw[List.take_succ_eq_append_getElem hk,List.any_append,h,e]
 simp[hp]
theorem M0 {α:Type} (p:α→Bool) (l:List α):decide (0≤oq p l)=l.any p:=by
 cases h:l.any p
 ·rw[mQ h];rfl
 ·unfold oq
  cases h2:l.findIdx? p with
  |none=>
   rw[List.findIdx?_eq_none_iff]at h2
   rw[List.any_eq_true]at h
   obtain⟨x,hx,hp⟩:=h
   have:=h2 x hx
   simp[hp]at this
  |some i=>simp
end Go.Proofs.YtjnhnlabpccgjaaGreat
