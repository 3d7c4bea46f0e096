/- Rows -/
import Derived.Test.YtjnhnlabpccgjaaGreatDoorM01
import Derived.OwnWalk
import Derived.Laws.OwnMore
import Derived.Laws.CopyOwn
set_option maxRecDepth 100000
set_option maxHeartbeats 64000000
set_option linter.all false
namespace Go.Proofs.YtjnhnlabpccgjaaGreatDoor
open Go.ChangeShapes Go.WideShapes Go.ChangeAt Go.RowKit
abbrev bv(b:UInt8):Value:= .int .u8 b.toNat
def S_(F:Nat→Prop)(w:World)(n:Nat)(v:Value)(bs:List UInt8):Prop:=
 bs.length=n∧∃b cap cur,v= .slice (some ⟨b,0,none⟩) n cap∧F b∧w.heap[b]? =some (.cells cur 5 (0,0))∧cur.toList.take n=bs.map bv∧n≤cap∧cap≤maxLen∧cur.size=cap
def WX{α β:Type}(R:α→β→Prop):Option α→Option β→Prop
 |some a,some b=>R a b
 |none,none=>True
 |_,_=>False
theorem Tryz.IY:(Tryz.prog.info? 5).map (fun i=>(i.zero,i.size,i.bytes))=some (some (.int .u8 0),1,1):=by kernel_rfl
theorem S_.move{F F':Nat→Prop}{w w':World}{n:Nat}{v:Value}{bs:List UInt8}(h:S_ F w n v bs)(hk:∀b,F b→b<w.heap.size→F' b∧w'.heap[b]? =w.heap[b]?):S_ F' w' n v bs:=by
 obtain⟨hl,b,cap,cur,e,hF,hc,r⟩:=h;obtain⟨h1,h2⟩:=hk b hF (iL.1 hc).1;exact⟨hl,b,cap,cur,e,h1,h2.trans hc,r⟩
theorem WX.imp{α β:Type}{R R':α→β→Prop}{a:Option α}{b:Option β}(h:WX R a b)(hi:∀x y,R x y→R' x y):WX R' a b:=by
 cases a<;>cases b<;>simp_all [WX]
theorem bA(w:World)(a:Addr)(v:Value)(b:Nat)(h:b≠a.block):(w.setCell a v).heap[b]? =w.heap[b]? :=Below.heap_setCell w a v b h
theorem aO{w:World}{b i:Nat}{v:Value}{cs:Array Value}{t:TypeId}{z:Nat×Nat}(h:w.heap[b]? =some (.cells cs t z)):(w.setCell ⟨b,i,none⟩ v).heap[b]? =some (.cells (cs.setIfInBounds i v) t z):=by
 simp[World.setCell,Array.getElem?_modify,h]
theorem size_set(w:World)(a:Addr)(v:Value):(w.setCell a v).heap.size=w.heap.size:=by simp[World.setCell]
theorem Keeps.gI(w:World)(a:Addr)(v:Value):Keeps (fun x=>x=a.block) w (w.setCell a v):=
 ⟨rfl,rfl,rfl,by rw[size_set];exact Nat.le_refl _,fun b _ hn=>bA w a v b hn⟩
end Go.Proofs.YtjnhnlabpccgjaaGreatDoor
