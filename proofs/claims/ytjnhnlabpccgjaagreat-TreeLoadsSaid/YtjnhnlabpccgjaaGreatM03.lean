/- Rows of bytes in memory: a row of one's own; copy into a row that is known whole. -/
import Derived.Test.YtjnhnlabpccgjaaGreatM01
import Derived.OwnWalk
import Derived.Laws.OwnMore
import Derived.Laws.CopyOwn
namespace Go.Proofs.YtjnhnlabpccgjaaGreat
open Go.ChangeShapes Go.WideShapes Go.ChangeAt Go.RowKit
set_option linter.unusedVariables false
abbrev bv (b:UInt8):Value:= .int .u8 b.toNat
def Fq (F:Nat→Prop) (w:World) (n:Nat) (v:Value) (bs:List UInt8):Prop:=
 bs.length=n∧∃b cap cur,v= .slice (some ⟨b,0,none⟩) n cap∧F b∧w.heap[b]? =some (.cells cur 5 (0,0))∧cur.toList.take n=bs.map bv∧n≤cap∧cap≤maxLen∧cur.size=cap
def Oe {α β:Type} (R:α→β→Prop):Option α→Option β→Prop
 |some a,some b=>R a b
 |none,none=>True
 |_,_=>False
theorem Tryz.C9:(Tryz.prog.info? 5).map (fun i=>(i.zero,i.size,i.bytes))=some (some (.int .u8 0),1,1):=by kernel_rfl
theorem Fq.move {F F':Nat→Prop} {w w':World} {n:Nat} {v:Value} {bs:List UInt8} (h:Fq F w n v bs) (hk:∀b,F b→b<w.heap.size→F' b∧w'.heap[b]? =w.heap[b]?):Fq F' w' n v bs:=by
 obtain⟨hl,b,cap,cur,e,hF,hc,r⟩:=h
 obtain⟨h1,h2⟩:=hk b hF (Array.getElem?_eq_some_iff.1 hc).1
 exact⟨hl,b,cap,cur,e,h1,h2.trans hc,r⟩
theorem Oe.imp {α β:Type} {R R':α→β→Prop} {a:Option α} {b:Option β} (h:Oe R a b) (hi:∀x y,R x y→R' x y):Oe R' a b:=by
 cases a<;>cases b<;>simp_all [Oe]
theorem bI (w:World) (a:Addr) (v:Value) (b:Nat) (h:b≠a.block):(w.setCell a v).heap[b]? =w.heap[b]? :=Below.heap_setCell w a v b h
theorem bX {w:World} {b i:Nat} {v:Value} {cs:Array Value} {t:TypeId} {z:Nat×Nat} (h:w.heap[b]? =some (.cells cs t z)):(w.setCell ⟨b,i,none⟩ v).heap[b]? =some (.cells (cs.setIfInBounds i v) t z):=by
 simp[World.setCell,Array.getElem?_modify,h]
theorem size_set (w:World) (a:Addr) (v:Value):(w.setCell a v).heap.size=w.heap.size:=by simp[World.setCell]
theorem Keeps.iG (w:World) (a:Addr) (v:Value):Keeps (fun x=>x=a.block) w (w.setCell a v):=
 ⟨rfl,rfl,rfl,by rw[size_set];exact Nat.le_refl _,fun b _ hn=>bI w a v b hn⟩
theorem zV {P:Program} {w:World} {ops:Array Oper} {rest:List Oper} {o:Oper} {a:Act} {Q:Exit→Act→World→Prop} (hgd:o.guard=none) (d s:Operand) (dT sT:TypeId)
  (ho:o.op= .call {callee:= .builtin .copy,args:= #[d,s],argTypes:= #[dT,sT]}) (elem:TypeId) (hu:P.underlying dT=some (.slice elem)) (hsz:(P.info? elem).map (·.size)=some 1)
  (sp:Option Addr) (g off dLen dCap sLen sCap:Nat) (hd:a.eval d= .slice (some ⟨g,off,none⟩) dLen dCap) (hs:a.eval s= .slice sp sLen sCap)
  (S:List Value) (t:TypeId) (hg:w.heap[g]? =some (.cells S.toArray t (0,0))) (cs:List UInt8) (hn:cs.length=Nat.min sLen dLen)
  (hpos:0<cs.length→∃ad,sp=some ad∧∀j v,(cs.map bv)[j]? =some v→w.cell? (ad.add j)=some v)
  (hfit:off+cs.length≤S.length)
  (h:∀w',Hid (w'.heap[g]? =some (.cells (splice S off (cs.map bv)).toArray t (0,0)))→Keeps (fun x=>x=g) w w'→w'.heap.size=w.heap.size→wpList P ops Q rest (a.put o.dst (.int .i64 cs.length)) w'):
  wpList P ops Q (o::rest) a w:=by
 by_cases h0:cs.length=0
 ·obtain rfl:cs=[]:=List.eq_nil_of_length_eq_zero h0
  refine wpList_copy_nothing hgd d s dT sT ho elem hu hsz (some ⟨g,off,none⟩) sp dLen dCap sLen sCap hd hs (by simpa using hn.symm) ?_
  exact h w (show _=_ by simpa[splice]using hg) (Keeps.refl _ _) rfl
 ·obtain⟨ad,rfl,hsrc⟩:=hpos (by omega)
  have hx:=h (w.setRow g (S.take off++(cs.map bv++S.drop (off+cs.length))).toArray) (show _=_ by rw[setRow_heap w g _ _ t _ hg];simp[splice]) ⟨rfl,rfl,rfl,by simp[World.setRow],fun k _ hk=>setRow_other w g k _ hk⟩ (by simp[World.setRow])
  refine wpList_copy_own hgd d s dT sT ho elem hu hsz g off dLen dCap ad sLen sCap hd hs S.toArray t hg (cs.map bv) (by simpa using hn) hsrc (by simpa using hfit) (by intro u hu;obtain⟨x,_,rfl⟩:=List.mem_map.1 hu;rfl) ?_
  simpa only[List.length_map,goInt]using hx
theorem Fu {α β:Type} (f:α→β) (L:List α) (off:Nat) (cs:List α):splice (L.map f) off (cs.map f)=(splice L off cs).map f:=by simp[splice]
theorem Tryz.TQ:(Tryz.prog.info? 5).map (·.size)=some 1:=by kernel_rfl
end Go.Proofs.YtjnhnlabpccgjaaGreat
