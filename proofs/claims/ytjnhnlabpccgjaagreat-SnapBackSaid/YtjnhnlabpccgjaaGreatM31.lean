/- A block that is laid anew as a whole; a struct result that lies in a variable. -/
import Derived.Test.YtjnhnlabpccgjaaGreatM03
import Derived.Laws.Tables
import Derived.Laws.Rows
namespace Go.Proofs.YtjnhnlabpccgjaaGreat
open Go.ChangeShapes Go.WideShapes Go.ChangeAt Go.RowKit
set_option linter.unusedVariables false
set_option linter.unusedSimpArgs false
def Dn (w:World) (g:Nat) (cs:Array Value) (t:TypeId) (w':World):Prop:=w'.heap[g]? =some (.cells cs t (0,0))∧Keeps (fun b=>b=g) w w'∧w'.heap.size=w.heap.size
theorem Ik (w:World) (g:Nat) (old cs:Array Value) (t:TypeId) (hg:w.heap[g]? =some (.cells old t (0,0))):Dn w g cs t (w.setRow g cs):=by
 have hz:(w.setRow g cs).heap.size=w.heap.size:=by simp[World.setRow]
 exact⟨setRow_heap w g old cs t _ hg,⟨rfl,rfl,rfl,by omega,fun b _ hb=>setRow_other w g b cs hb⟩,hz⟩
theorem jo {P:Program} {ops:Array Oper} {rest:List Oper} {o:Oper} {a:Act} {w:World} {Q:Exit→Act→World→Prop} (hgd:o.guard=none) (ty:TypeId) (x y:Operand) (ho:o.op= .store ty x y)
  (g:Nat) (cells:Array Value) (hx:a.eval x= .pointer (some ⟨g,0,none⟩)) (hy:a.eval y= .agg cells)
  (old:Array Value) (hg:w.heap[g]? =some (.cells old ty (0,0))) (hi:(P.info? ty).map (·.size)=some cells.size)
  (hold:old.size=cells.size) (h1:cells.all (·.oneCell')=true)
  (h:∀w',Dn w g cells ty w'→wpList P ops Q rest (a.put o.dst undef) w'):wpList P ops Q (o::rest) a w:=
 wpList_store_row hgd ty x y ho g cells hx hy ty old hg hi hold h1 (h _ (Ik w g old cells ty hg))
theorem Dn.below {w0 w w':World} {g:Nat} {cs:Array Value} {t:TypeId} (h:Dn w g cs t w') (hb:Below w0.heap.size w0 w) (hg:w0.heap.size≤g):Below w0.heap.size w0 w':=by
 obtain⟨_,h2,h3⟩:=h
 exact⟨h2.os.trans hb.os,h2.tape.trans hb.tape,h2.output.trans hb.output,Nat.le_trans hb.size h2.size,fun b hb'=>(h2.block b (Nat.lt_of_lt_of_le hb' hb.size) (fun e:b=g=>by omega)).trans (hb.block b hb')⟩
theorem Bj {P:Program} {fn:Func} {a b:Nat} {t:TypeId} {tmps:Array Value} {ad:Addr} {v:Value} {w:World} (h:fn.results= #[.cell a t, .tmp b]) (ha:tmps.getD a undef= .pointer (some ad)) (hl:(loadVar t ad).run P w= .ok v w):(results fn tmps).run P w= .ok (.tuple #[v,tmps.getD b undef]) w:=by
 have ha2:tmps[a]?.getD undef= .pointer (some ad):=by simpa using ha
 simp[results,h,asAddr,ha2,hl]
theorem uS:(Tryz.prog.info? 101).map (·.size)=some 6:=by kernel_rfl
def Cg:Array Value:= #[.int .i64 0, .int .i64 0, .int .i64 0, .int .i64 0, .int .u64 0, .bool false]
theorem z_ {fn:Func} {sl b':Nat} {Q:Ending→World→Prop} {a:Act} {w:World} {b:Nat} {cs:Array Value} {z:Value} (hf:fn.results= #[.cell sl 101, .tmp b']) (hs:a.tmps.getD sl undef= .pointer (some ⟨b,0,none⟩)) (hz:a.tmps.getD b' undef=z) (hd:a.defers=[]) (hg:w.heap[b]? =some (.cells cs 101 (0,0))) (h6:cs.size=6) (hQ:Q (.returned (.tuple #[.agg cs,z])) w):
  bodyPost Tryz.prog fn Q .ret a w:=by
 subst hz
 exact bodyPost_ret (v:= .tuple #[.agg cs,a.tmps.getD b' undef]) (Bj hf hs (run_loadVar_row w b 101 101 _ (0,0) _ hg Tryz.underlying101 rfl (by rw[h6];exact uS))) hd hQ
end Go.Proofs.YtjnhnlabpccgjaaGreat
