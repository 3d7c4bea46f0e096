/- Rows -/
import Derived.Test.YthillkfmdndedaaGreatDoorM01
import Derived.OwnWalk
import Derived.Laws.OwnMore
import Derived.Laws.CopyOwn
set_option maxRecDepth 100000
set_option maxHeartbeats 64000000
set_option linter.all false
namespace Go.Proofs.YthillkfmdndedaaGreatDoor
open Go.ChangeShapes Go.WideShapes Go.ChangeAt Go.RowKit
abbrev bv(b:UInt8):Value:= .int .u8 b.toNat
def Je(F:Nat->Prop)(w:World)(n:Nat)(v:Value)(y:I8):Prop:=
 y.length=n/\∃b m u,v= .slice (some ⟨b,0,none⟩) n m/\F b/\w.heap[b]? =some (.cells u 5 (0,0))/\u.toList.take n=y.map bv/\n<=m/\m<=maxLen/\u.size=m
def AY{α β:Type}(R:α->β->Prop):Option α->Option β->Prop
 |some a,some b=>R a b
 |none,none=>True
 |_,_=>False
theorem Tryz.vL:(Tryz.prog.info? 5).map (λ i=>(i.zero,i.size,i.bytes))=some (some (.int .u8 0),1,1):=by kernel_rfl
theorem Sb{α β:Type}{R:α->β->Prop}{a:Option α}{b:Option β}(h:AY R a b)(m:b=none):a=none:=by
 subst m;cases a<;>simp_all [AY]
theorem G7{α β:Type}{R:α->β->Prop}{a:Option α}{b:Option β}{y:β}(h:AY R a b)(m:b=some y):∃x,a=some x/\R x y:=by
 subst m;cases a<;>simp_all [AY]
theorem yC{α β:Type}{R:α->β->Prop}{a:Option α}{b:Option β}{x:α}(h:AY R a b)(m:a=some x):∃y,b=some y/\R x y:=by
 subst m;cases b<;>simp_all [AY]
theorem Je.move{F A:Nat->Prop}{w w':World}{n:Nat}{v:Value}{y:I8}(h:Je F w n v y)(B:∀b,F b->b<w.heap.size->A b/\w'.heap[b]? =w.heap[b]?):Je A w' n v y:=by
 obtain⟨G,b,m,u,e,E,z,r⟩:=h;obtain⟨D,C⟩:=B b E (qW.1 z).1;exact⟨G,b,m,u,e,D,C.trans z,r⟩
theorem AY.imp{α β:Type}{R m:α->β->Prop}{a:Option α}{b:Option β}(h:AY R a b)(u:∀x y,R x y->m x y):AY m a b:=by
 cases a<;>cases b<;>simp_all [AY]
theorem aI(w:World)(a:Addr)(v:Value)(b:Nat)(h:b≠a.block):(w.setCell a v).heap[b]? =w.heap[b]? :=Below.heap_setCell w a v b h
theorem aG{w:World}{b i:Nat}{v:Value}{m:Array Value}{t:TypeId}{z:Nat×Nat}(h:w.heap[b]? =some (.cells m t z)):(w.setCell ⟨b,i,none⟩ v).heap[b]? =some (.cells (m.setIfInBounds i v) t z):=by
 simp[World.setCell,Array.getElem?_modify,h]
theorem size_set(w:World)(a:Addr)(v:Value):(w.setCell a v).heap.size=w.heap.size:=by simp[World.setCell]
theorem Keeps.jy(w:World)(a:Addr)(v:Value):Keeps (λ x=>x=a.block) w (w.setCell a v):=
 ⟨rfl,rfl,rfl,by rw[size_set];exact Nat.le_refl _,λ b _ m=>aI w a v b m⟩
theorem xY{P:Program}{w:World}{J:Array Oper}{rest:List Oper}{o:Oper}{a:Act}{Q:Exit->Act->World->Prop}(H:o.guard=none)(d s:Operand)(N O:TypeId)
  (X:o.op= .call {callee:= .builtin .copy,args:= #[d,s],argTypes:= #[N,O]})(A:TypeId)(K:P.underlying N=some (.slice A))(E:(P.info? A).map (·.size)=some 1)
  (U:Mx)(g m y C z D:Nat)(V:a.eval d= .slice (some ⟨g,m,none⟩) y C)(W:a.eval s= .slice U z D)
  (S:List Value)(t:TypeId)(R:w.heap[g]? =some (.cells S.toArray t (0,0)))(B:I8)(Y:B.length=Nat.min z y)
  (F:0<B.length->∃M,U=some M/\∀j v,(B.map bv)[j]? =some v->w.cell? (M.add j)=some v)
  (G:m+B.length<=S.length)
  (h:∀w',acr (w'.heap[g]? =some (.cells (splice S m (B.map bv)).toArray t (0,0)))->Keeps (λ x=>x=g) w w'->w'.heap.size=w.heap.size->wpList P J Q rest (a.put o.dst (.int .i64 B.length)) w'):
  wpList P J Q (o::rest) a w:=by
 by_cases Z:B.length=0
 ·obtain rfl:B=[]:=aac Z;refine wpList_copy_nothing H d s N O X A K E (some ⟨g,m,none⟩) U y C z D V W (by simpa using Y.symm) ?_;exact h w (show _=_ by simpa[splice]using R) (Keeps.refl _ _) rfl
 ·obtain⟨M,rfl,I⟩:=F (by omega);have hx:=h (w.setRow g (S.take m++(B.map bv++S.drop (m+B.length))).toArray) (show _=_ by rw[setRow_heap w g _ _ t _ R];simp[splice]) ⟨rfl,rfl,rfl,by simp[World.setRow],λ k _ hk=>setRow_other w g k _ hk⟩ (by simp[World.setRow]);refine wpList_copy_own H d s N O X A K E g m y C M z D V W S.toArray t R (B.map bv) (by simpa using Y) I (by simpa using G) (by intro u K;obtain⟨x,_,rfl⟩:=List.mem_map.1 K;rfl) ?_;simpa only[List.length_map,goInt]using hx
theorem D8{α β:Type}(f:α->β)(L:List α)(m:Nat)(u:List α):splice (L.map f) m (u.map f)=(splice L m u).map f:=by simp[splice]
theorem Gm{α:Type}(L X:List α)(m:Nat)(u:List α)(h:m+u.length<=L.length):splice (L++X) m u=splice L m u++X:=by
 unfold splice;rw[abl (by omega),abN (by omega)];simp
theorem Tryz.size8:(Tryz.prog.info? 5).map (·.size)=some 1:=by kernel_rfl
