/- package sha: New; slices.Clone of bytes as a row of one's own. package sha: constants. package sha: New; Write of a new stream. package sha: Write of a new stream. package sha: what is hashed, plainly. -/
import Derived.Test.YtohpcppeajijnaaGreatM38
import Derived.Test.YtohpcppeajijnaaGreatM13
import Derived.Deep.WholeRow
namespace Go.Proofs.YtohpcppeajijnaaGreat
open Go.ChangeShapes Go.WideShapes Go.ChangeAt Go.RowKit
set_option linter.unusedVariables false
set_option linter.unusedSimpArgs false
def TW (w:World) (bs:List UInt8) (e:Ending) (w':World):Prop:=
 ∃v,e= .returned v∧w'.ownsRow w.heap.size 5 1 v bs.length (bs.map bv)∧Below w.heap.size w w'
set_option maxHeartbeats 1000000 in
theorem BK {S:Nat→Prop} (a:Option Addr) (n cap:Nat) (bs:List UInt8) (w:World) (hm:n≤1000000000) (hr:ak S w a n (bs.map bv)):
  Calls Tryz.prog 105 #[.slice a n cap] w (TW w bs):=by
 obtain⟨i0,hi,hz0,hz1,hz2⟩:=info_parts Tryz.Ca
 have hll:bs.length=n:=by have:=hr.length;simpa using this
 have heq:=fun w=>Lib.run_eql_slice_nil (P:=Tryz.prog) w 39 5 a n cap 0 0 Tryz.underlying39
 have HR:=Lib.hid hr
 have HL:=Lib.hid hll
 clear hr hll
 cases a with
 |none=>
  have h0:n=0:=by
   rcases Nat.eq_zero_or_pos n with h0|h0
   ·exact h0
   ·obtain⟨_,_,e,_⟩:=HR.out.at_ h0
    cases e
  subst h0
  have hb0:bs=[]:=List.eq_nil_of_length_eq_zero HL.out
  subst hb0
  go_enter Tryz.func105,Tryz.ntmps105
  go_wp2
  go_ret
  exact⟨_,rfl,⟨rfl, .inl ⟨rfl,rfl⟩⟩,Below.refl _ _⟩
 |some ad=>
  have HS:=Lib.hid (HR.out.below (wall w (.cells #[] 5)) (Nat.le_refl _))
  go_enter Tryz.func105,Tryz.ntmps105
  go_wp2_with (at_builtin;refine gq rfl _ _ 39 rfl w.heap.size 5 i0 (.int .u8 0) 1 1 Tryz.underlying39 hi hz0 hz1 hz2 rfl (by omega) _ 0 [] rfl (FW (MapKept.heap_alloc w _).1 (Nat.le_refl _)) (some ad) n cap (bs.map bv) rfl (by rw[Nat.mul_one];exact HS.out) (fE bs) (by unfold maxLen;omega) (by omega) (by simp) ?_;intro A1 c1 w1 hown1 hb1;rw[Nat.zero_add,List.nil_append]at hown1;have nN:=Lib.hid hown1;have HB1:=Lib.hid ((wall w _).trans hb1);clear hown1 hb1;rw[Nat.zero_add])
  go_ret
  refine⟨_,rfl,?_,HB1.out⟩
  rw[HL.out]
  exact nN.out
def dL (h:List Int) (rest:Value) (n:Int):Array Value:=(h.map g_++(kM.map g_++[rest, .int .i64 n])).toArray
theorem rz {P:Program} {fn:Func} {a:Nat} {t:TypeId} {tmps:Array Value} {ad:Addr} {v:Value} {w:World} (h:fn.results= #[.cell a t]) (ha:tmps.getD a undef= .pointer (some ad)) (hl:(loadVar t ad).run P w= .ok v w):(results fn tmps).run P w= .ok v w:=by
 have ha2:tmps[a]?.getD undef= .pointer (some ad):=by simpa using ha
 simp[results,h,asAddr,ha2,hl]
theorem sG {P:Program} {ops:Array Oper} {rest:List Oper} {o:Oper} {a:Act} {w w':World} {Q:Exit→Act→World→Prop} (hgd:o.guard=none) (t:TypeId) (p v:Operand) (hop:o.op=Op.store t p v) (hrun:(Instr.storeAt t (a.eval p) (a.eval v)).run P w= .ok () w') (h:wpList P ops Q rest (a.put o.dst undef) w'):wpList P ops Q (o::rest) a w:=by
 refine wpList_plain hgd fun K hK=> ?_
 unfold Oper.wp
 simp[execOp,hop,hrun,Result.andThen]
 exact hK _ _ h
theorem EJ (w:World):Calls Tryz.prog 201 #[] w fun e w'=>e= .returned (.agg (yA.map g_).toArray)∧Below w.heap.size w w':=by
 go_enter Tryz.func201,Tryz.ntmps201
 go_wp2
 refine bodyPost_ret (v:= .agg (yA.map g_).toArray) (rz rfl rfl ?_) rfl ⟨rfl,wall w _⟩
 exact run_loadVar_new w 240 (yA.map g_).toArray 8 154 Tryz.underlying240 (by kernel_rfl)
set_option maxRecDepth 100000 in
set_option maxHeartbeats 4000000 in
theorem BL (w:World):Calls Tryz.prog 202 #[] w fun e w'=>e= .returned (.agg (kM.map g_).toArray)∧Below w.heap.size w w':=by
 have hst:(Instr.storeAt 156 (.pointer (some ⟨w.heap.size,0,none⟩)) (.agg #[.int .u32 1116352408, .int .u32 1899447441, .int .u32 3049323471, .int .u32 3921009573, .int .u32 961987163, .int .u32 1508970993, .int .u32 2453635748, .int .u32 2870763221, .int .u32 3624381080, .int .u32 310598401, .int .u32 607225278, .int .u32 1426881987, .int .u32 1925078388, .int .u32 2162078206, .int .u32 2614888103, .int .u32 3248222580, .int .u32 3835390401, .int .u32 4022224774, .int .u32 264347078, .int .u32 604807628, .int .u32 770255983, .int .u32 1249150122, .int .u32 1555081692, .int .u32 1996064986, .int .u32 2554220882, .int .u32 2821834349, .int .u32 2952996808, .int .u32 3210313671, .int .u32 3336571891, .int .u32 3584528711, .int .u32 113926993, .int .u32 338241895, .int .u32 666307205, .int .u32 773529912, .int .u32 1294757372, .int .u32 1396182291, .int .u32 1695183700, .int .u32 1986661051, .int .u32 2177026350, .int .u32 2456956037, .int .u32 2730485921, .int .u32 2820302411, .int .u32 3259730800, .int .u32 3345764771, .int .u32 3516065817, .int .u32 3600352804, .int .u32 4094571909, .int .u32 275423344, .int .u32 430227734, .int .u32 506948616, .int .u32 659060556, .int .u32 883997877, .int .u32 958139571, .int .u32 1322822218, .int .u32 1537002063, .int .u32 1747873779, .int .u32 1955562222, .int .u32 2024104815, .int .u32 2227730452, .int .u32 2361852424, .int .u32 2428436474, .int .u32 2756734187, .int .u32 3204031479, .int .u32 3329325298])).run Tryz.prog (w.alloc (.cells #[.int .u32 0, .int .u32 0, .int .u32 0, .int .u32 0, .int .u32 0, .int .u32 0, .int .u32 0, .int .u32 0, .int .u32 0, .int .u32 0, .int .u32 0, .int .u32 0, .int .u32 0, .int .u32 0, .int .u32 0, .int .u32 0, .int .u32 0, .int .u32 0, .int .u32 0, .int .u32 0, .int .u32 0, .int .u32 0, .int .u32 0, .int .u32 0, .int .u32 0, .int .u32 0, .int .u32 0, .int .u32 0, .int .u32 0, .int .u32 0, .int .u32 0, .int .u32 0, .int .u32 0, .int .u32 0, .int .u32 0, .int .u32 0, .int .u32 0, .int .u32 0, .int .u32 0, .int .u32 0, .int .u32 0, .int .u32 0, .int .u32 0, .int .u32 0, .int .u32 0, .int .u32 0, .int .u32 0, .int .u32 0, .int .u32 0, .int .u32 0, .int .u32 0, .int .u32 0, .int .u32 0, .int .u32 0, .int .u32 0, .int .u32 0, .int .u32 0, .int .u32 0, .int .u32 0, .int .u32 0, .int .u32 0, .int .u32 0, .int .u32 0, .int .u32 0] 156))= .ok () (w.alloc (.cells #[.int .u32 1116352408, .int .u32 1899447441, .int .u32 3049323471, .int .u32 3921009573, .int .u32 961987163, .int .u32 1508970993, .int .u32 2453635748, .int .u32 2870763221, .int .u32 3624381080, .int .u32 310598401, .int .u32 607225278, .int .u32 1426881987, .int .u32 1925078388, .int .u32 2162078206, .int .u32 2614888103, .int .u32 3248222580, .int .u32 3835390401, .int .u32 4022224774, .int .u32 264347078, .int .u32 604807628, .int .u32 770255983, .int .u32 1249150122, .int .u32 1555081692, .int .u32 1996064986, .int .u32 2554220882, .int .u32 2821834349, .int .u32 2952996808, .int .u32 3210313671, .int .u32 3336571891, .int .u32 3584528711, .int .u32 113926993, .int .u32 338241895, .int .u32 666307205, .int .u32 773529912, .int .u32 1294757372, .int .u32 1396182291, .int .u32 1695183700, .int .u32 1986661051, .int .u32 2177026350, .int .u32 2456956037, .int .u32 2730485921, .int .u32 2820302411, .int .u32 3259730800, .int .u32 3345764771, .int .u32 3516065817, .int .u32 3600352804, .int .u32 4094571909, .int .u32 275423344, .int .u32 430227734, .int .u32 506948616, .int .u32 659060556, .int .u32 883997877, .int .u32 958139571, .int .u32 1322822218, .int .u32 1537002063, .int .u32 1747873779, .int .u32 1955562222, .int .u32 2024104815, .int .u32 2227730452, .int .u32 2361852424, .int .u32 2428436474, .int .u32 2756734187, .int .u32 3204031479, .int .u32 3329325298] 156)):=run_storeAt_new (P:=Tryz.prog) w 156 #[.int .u32 0, .int .u32 0, .int .u32 0, .int .u32 0, .int .u32 0, .int .u32 0, .int .u32 0, .int .u32 0, .int .u32 0, .int .u32 0, .int .u32 0, .int .u32 0, .int .u32 0, .int .u32 0, .int .u32 0, .int .u32 0, .int .u32 0, .int .u32 0, .int .u32 0, .int .u32 0, .int .u32 0, .int .u32 0, .int .u32 0, .int .u32 0, .int .u32 0, .int .u32 0, .int .u32 0, .int .u32 0, .int .u32 0, .int .u32 0, .int .u32 0, .int .u32 0, .int .u32 0, .int .u32 0, .int .u32 0, .int .u32 0, .int .u32 0, .int .u32 0, .int .u32 0, .int .u32 0, .int .u32 0, .int .u32 0, .int .u32 0, .int .u32 0, .int .u32 0, .int .u32 0, .int .u32 0, .int .u32 0, .int .u32 0, .int .u32 0, .int .u32 0, .int .u32 0, .int .u32 0, .int .u32 0, .int .u32 0, .int .u32 0, .int .u32 0, .int .u32 0, .int .u32 0, .int .u32 0, .int .u32 0, .int .u32 0, .int .u32 0, .int .u32 0] #[.int .u32 1116352408, .int .u32 1899447441, .int .u32 3049323471, .int .u32 3921009573, .int .u32 961987163, .int .u32 1508970993, .int .u32 2453635748, .int .u32 2870763221, .int .u32 3624381080, .int .u32 310598401, .int .u32 607225278, .int .u32 1426881987, .int .u32 1925078388, .int .u32 2162078206, .int .u32 2614888103, .int .u32 3248222580, .int .u32 3835390401, .int .u32 4022224774, .int .u32 264347078, .int .u32 604807628, .int .u32 770255983, .int .u32 1249150122, .int .u32 1555081692, .int .u32 1996064986, .int .u32 2554220882, .int .u32 2821834349, .int .u32 2952996808, .int .u32 3210313671, .int .u32 3336571891, .int .u32 3584528711, .int .u32 113926993, .int .u32 338241895, .int .u32 666307205, .int .u32 773529912, .int .u32 1294757372, .int .u32 1396182291, .int .u32 1695183700, .int .u32 1986661051, .int .u32 2177026350, .int .u32 2456956037, .int .u32 2730485921, .int .u32 2820302411, .int .u32 3259730800, .int .u32 3345764771, .int .u32 3516065817, .int .u32 3600352804, .int .u32 4094571909, .int .u32 275423344, .int .u32 430227734, .int .u32 506948616, .int .u32 659060556, .int .u32 883997877, .int .u32 958139571, .int .u32 1322822218, .int .u32 1537002063, .int .u32 1747873779, .int .u32 1955562222, .int .u32 2024104815, .int .u32 2227730452, .int .u32 2361852424, .int .u32 2428436474, .int .u32 2756734187, .int .u32 3204031479, .int .u32 3329325298] (by kernel_rfl) rfl (by kernel_rfl)
 have HST:=Lib.hid hst
 clear hst
 go_enter Tryz.func202,Tryz.ntmps202
 go_wp2_with (refine sG rfl 156 _ _ rfl HST.out ?_)
 refine bodyPost_ret (v:= .agg (kM.map g_).toArray) (rz rfl rfl ?_) rfl ⟨rfl,wall w _⟩
 exact run_loadVar_new w 156 (kM.map g_).toArray 64 154 Tryz.underlying156 (by kernel_rfl)
theorem sH {P:Program} {ops:Array Oper} {rest:List Oper} {o:Oper} {a:Act} {w:World} {Q:Exit→Act→World→Prop} {v:Value} (hgd:o.guard=none) (t:TypeId) (parts:Array (Nat×Operand)) (hop:o.op=Op.build t parts) (hrun:(Instr.build t (parts.map fun(i,x)=>(i,a.eval x))).run P w= .ok v w) (h:wpList P ops Q rest (a.put o.dst v) w):wpList P ops Q (o::rest) a w:=by
 refine wpList_plain hgd fun K hK=> ?_
 unfold Oper.wp
 simp only[execOp,hop,hrun,Sem.run_bind,Sem.run_pure,Result.andThen]
 exact hK _ _ h
set_option maxRecDepth 100000 in
set_option maxHeartbeats 4000000 in
theorem BM (w:World):Calls Tryz.prog 178 #[] w fun e w'=>∃x,e= .returned (ptr x)∧w.heap.size≤x∧w'.heap[x]? =some (.cells (dL yA (.slice none 0 0) 0) 244 (0,0))∧Below w.heap.size w w':=by
 have HB:Hid (∀w:World,(Instr.build 244 #[(0, .agg (yA.map g_).toArray),(1, .agg (kM.map g_).toArray)]).run Tryz.prog w= .ok (.agg (dL yA (.slice none 0 0) 0)) w):=by
  intro w
  kernel_rfl
 go_enter Tryz.func178,Tryz.ntmps178
 go_wp2_with fail
 (with_reducible refine(EJ _).mono ?_)
 rintro e w1 ⟨rfl,hb1⟩
 go_wp2_with fail
 (with_reducible refine(BL _).mono ?_)
 rintro e w2 ⟨rfl,hb2⟩
 go_wp2_with (refine sH rfl 244 _ rfl (HB.out _) ?_)
 go_ret
 have hb:=hb1.trans (hb2.mono hb1.size)
 exact⟨w2.heap.size,rfl,hb.size,(MapKept.heap_alloc w2 _).1,hb.trans ((wall w2 _).mono hb.size)⟩
theorem yB {h:List Int} (hl:h.length=8) (r:Value) (n:Int):(dL h r n)[72]? =some r:=by
 obtain⟨a0,a1,a2,a3,a4,a5,a6,a7,rfl⟩:=eight hl
 unfold dL
 rw[List.getElem?_toArray]
 rfl
theorem PV {h:List Int} (hl:h.length=8) (r:Value) (n:Int):(dL h r n)[73]? =some (.int .i64 n):=by
 obtain⟨a0,a1,a2,a3,a4,a5,a6,a7,rfl⟩:=eight hl
 unfold dL
 rw[List.getElem?_toArray]
 rfl
theorem H7 {h:List Int} (hl:h.length=8) (r r':Value) (n:Int):(dL h r n).setIfInBounds 72 r'=dL h r' n:=by
 obtain⟨a0,a1,a2,a3,a4,a5,a6,a7,rfl⟩:=eight hl
 unfold dL
 rw[List.setIfInBounds_toArray]
 rfl
theorem H8 {h:List Int} (hl:h.length=8) (r:Value) (n n':Int):(dL h r n).setIfInBounds 73 (.int .i64 n')=dL h r n':=by
 obtain⟨a0,a1,a2,a3,a4,a5,a6,a7,rfl⟩:=eight hl
 unfold dL
 rw[List.setIfInBounds_toArray]
 rfl
theorem PW {h:List Int} (hl:h.length=8) (r:Value) (n:Int) (i:Nat) (hi:i<64):(dL h r n)[8+i]? =some (g_ (kM.getD i 0)):=by
 have hk:kM.length=64:=rfl
 unfold dL
 rw[List.getElem?_toArray,List.getElem?_append_right (by simp[hl]),List.length_map,hl,Nat.add_sub_cancel_left,List.getElem?_append_left (by simp[hk];exact hi),List.getElem?_map,List.getD_eq_getElem?_getD,List.getElem?_eq_getElem (by rw[hk];exact hi)]
 rfl
theorem TY {h:List Int} (hl:h.length=8) (r:Value) (n:Int) (i:Nat) (hi:i<8):(dL h r n)[i]? =some (g_ (h.getD i 0)):=by
 unfold dL
 rw[List.getElem?_toArray,List.getElem?_append_left (by simp[hl];exact hi),List.getElem?_map,List.getD_eq_getElem?_getD,List.getElem?_eq_getElem (by rw[hl];exact hi)]
 rfl
theorem sI:∀(k:Nat) (h:List Int) (b:List UInt8),runM h (k+1) b=jD (runM h k b) ((b.drop (64*k)).take 64)
 |0,h,b=>rfl
 |k+1,h,b=>by
  have e1:runM h (k+1+1) b=runM (jD h (b.take 64)) (k+1) (b.drop 64):=rfl
  have e2:runM h (k+1) b=runM (jD h (b.take 64)) k (b.drop 64):=rfl
  rw[e1,e2,sI k,List.drop_drop]
  congr 3
  omega
theorem H9 {S:Nat→Prop} {w:World} {a:Option Addr} {m:Nat} {vs:List Value} (h:ak S w a m vs):ak S w a (m*1) vs:=by rw[Nat.mul_one];exact h
def Wrote (x:Nat) (w:World) (bs:List UInt8) (n:Nat) (e:Ending) (w':World):Prop:=
 e= .returned (.tuple #[])∧∃v,w'.heap[x]? =some (.cells (dL (runM yA (n/64) bs) v n) 244 (0,0))∧w'.ownsRow w.heap.size 5 1 v (n%64) ((bs.drop (64*(n/64))).map bv)∧Keeps (fun b=>b=x) w w'
set_option maxRecDepth 100000 in
set_option maxHeartbeats 8000000 in
theorem EK {S:Nat→Prop} (x:Nat) (a:Option Addr) (n c:Nat) (bs:List UInt8) (w:World) (hx:w.heap[x]? =some (.cells (dL yA (.slice none 0 0) 0) 244 (0,0))) (hr:ak S w a n (bs.map bv)) (hS:∀b,S b→b≠x) (hn:n≤100000000) (hnc:n≤c):
  Calls Tryz.prog 179 #[ptr x, .slice a n c] w (Wrote x w bs n):=by
 obtain⟨i8,hi⟩:∃i,Tryz.prog.info? 5=some i∧i.zero=some (.int .u8 0)∧i.size=1∧i.bytes=1:=info_parts (by kernel_rfl)
 have HI:=Lib.hid hi
 have h8:yA.length=8:=rfl
 have hxw:=(Array.getElem?_eq_some_iff.1 hx).1
 have ZB:w.cell? ⟨x,73,none⟩=some (.int .i64 0):=by simp only[World.cell?,hx];exact PV h8 _ _
 have f73:w.frozen? ⟨x,73,none⟩=false:=by simp[World.frozen?,hx]
 have hx1:(w.setCell ⟨x,73,none⟩ (.int .i64 n)).heap[x]? =some (.cells (dL yA (.slice none 0 0) n) 244 (0,0)):=by
  rw[bJ hx,H8 h8]
 have hK1:Keeps (fun b=>b=x) w (w.setCell ⟨x,73,none⟩ (.int .i64 n)):=Keeps.gX w ⟨x,73,none⟩ (.int .i64 n)
 have XF:(w.setCell ⟨x,73,none⟩ (.int .i64 n)).cell? ⟨x,72,none⟩=some (.slice none 0 0):=by simp only[World.cell?,hx1];exact yB h8 _ _
 have e0:IntKind.i64.wrap (0+(n:Int))=(n:Int):=by rw[Int.zero_add];exact IntWalk.i64_in _ (by omega)
 have e0':IntKind.i64.wrap (n:Int)=(n:Int):=IntWalk.i64_in _ (by omega)
 have HR1:Hid (ak S (w.setCell ⟨x,73,none⟩ (.int .i64 n)) a n (bs.map bv)):=hr.move (by rw[size_set];exact Nat.le_refl _) fun b hb hbw=>⟨hb,bg _ _ _ _ (hS b hb)⟩
 have z_:=Lib.hid hx1
 have lV:=Lib.hid hK1
 have HS:=Lib.hid hS
 have hbl:bs.length=n:=by simpa using hr.length
 have DI:=Lib.hid hbl
 clear hi hx hx1 hr hS hK1 hbl h8
 go_enter Tryz.func179,Tryz.ntmps179
 go_wp2_with fail
 have hz1:(w.setCell ⟨x,73,none⟩ (.int .i64 n)).heap.size=w.heap.size:=size_set _ _ _
 generalize w.setCell ⟨x,73,none⟩ (.int .i64 n)=w1 at*
 have HZ1:=Lib.hid hz1
 clear hz1
 go_loopw [1] (fun v wx=>∃(k:Nat) (a':Option Addr) (c':Nat),v= .slice a' (n-64*k) c'∧64*k≤n∧n-64*k≤c'∧ak S wx a' (n-64*k) ((bs.drop (64*k)).map bv)∧wx.heap[x]? =some (.cells (dL (runM yA k bs) (.slice none 0 0) n) 244 (0,0))∧Keeps (fun b=>b=x) w wx) (fun v _=>match v with| .slice _ m _=>m|_=>0)
 case atStart=>exact⟨0,a,c,rfl,by omega,by omega,HR1.out,z_.out,lV.out⟩
 case round=>
  obtain⟨k,a',c',rfl,hk,hc',CV,hxk,H_⟩:=hrel
  have h8:(runM yA k bs).length=8:=lu k _ _ rfl
  obtain⟨m,hm⟩:∃m,m=n-64*k:=⟨_,rfl⟩
  rw[←hm]at CV hc'⊢
  have PX:x<wr.heap.size:=(Array.getElem?_eq_some_iff.1 hxk).1
  have sN:=Lib.hid hxk
  have HKK:=Lib.hid H_
  have Kl:=Lib.hid CV
  have HM:=Lib.hid hm
  have XG:=Lib.hid hk
  have hmn:m≤n:=by omega
  by_cases h64:64≤m
  ·have hd:decide ((64:Int)≤(m:Int))=true:=by simp;omega
   have hxd:wr.drew.heap[x]? =some (.cells ((runM yA k bs).map g_++(kM.map g_++[Value.slice none 0 0,Value.int .i64 n])).toArray 244 (0,0)):=by
    have h9:=hxk
    unfold dL at h9
    exact h9
   have hkc:∀i,i<64→wr.drew.cell? ⟨x,8+i,none⟩=some (g_ (kM.getD i 0)):=fun i hi=>by
    have h9:=PW h8 (.slice none 0 0) n i hi
    show wr.cell? ⟨x,8+i,none⟩=_
    simp only[World.cell?,hxk]
    exact h9
   have Ia:ak S wr.drew a' 64 (((bs.drop (64*k)).take 64).map bv):=by
    have:=(CV.take 64).below (Below.refl _ _).drew (Nat.le_refl _)
    rwa [Nat.min_eq_right h64,←List.map_take]at this
   have HT:=Lib.hid (zP x x 8 244 (runM yA k bs) (kM.map g_++[Value.slice none 0 0,Value.int .i64 n]) a' 64 c' ((bs.drop (64*k)).take 64) wr.drew h8 hxd hkc PX Ia (Nat.le_refl _) (by omega))
   have g1:(64:Int)≤(c':Int):=by omega
   have g2:(64:Int)≤(m:Int):=by omega
   have g3:(m:Int)≤(c':Int):=by omega
   clear hxk H_ CV hm hxd hkc Ia h8
   go_wp2_with fail
   refine wp_region_noPanic ?_
   refine bW (last:=8) (S:=(fun _=>True)) (by kernel_rfl) ?_ (fun hS=> ?_)
   ·trivial
   refine aT 0 (hS:=hS) (h:= ?_)
   refine aT 1 (hS:=hS) (h:= ?_)
   refine aT 2 (hS:=hS) (h:= ?_)
   refine aT 3 (hS:=hS) (h:= ?_)
   refine aT 4 (hS:=hS) (h:= ?_)
   refine aT 5 (hS:=hS) (h:= ?_)
   refine aT 6 (hS:=hS) (h:= ?_)
   refine aT 7 (hS:=hS) (h:= ?_)
   refine jF 8 (h:=fun K hK=> ?_)
   go_simp
   (with_reducible refine HT.out.mono ?_)
   rintro e w2 ⟨rfl,hx2,hK2⟩
   have Fh:=Lib.hid hx2
   have yU:=Lib.hid hK2
   clear hx2 hK2
   go_wp2_with fail
   refine hK.out _ _ (fun h=>absurd rfl h) (fun hS=> ?_)
   clear hS hK K
   try simp only[Act.put,List.setIfInBounds_toArray,List.set_cons_zero,List.set_cons_succ]
   refine aV (by kernel_rfl) ?_ _
   refine NoPanic.normal ?_
   go_wp2_with fail
   go_roundw
   case rel=>
    have e1:n-64*(k+1)=m-64:=by have:=HM.out;omega
    have Ko:Keeps (fun b=>b=x) w w2:=(HKK.out.trans (show Keeps (fun b=>b=x) wr wr.drew from⟨rfl,rfl,rfl,Nat.le_refl _,fun _ _ _=>rfl⟩) fun x _ hx=>hx).trans yU.out fun x _ hx=>hx
    have hr2:ak S w2 a' m ((bs.drop (64*k)).map bv):=Kl.out.move yU.out.size fun b hb hbw=>⟨hb,yU.out.block b hbw (HS.out b hb)⟩
    have e2:(bs.drop (64*(k+1))).map bv=((bs.drop (64*k)).map bv).drop 64:=by
     rw[←List.map_drop,List.drop_drop]
     congr 2
    refine⟨k+1,_,c'-64,by rw[e1],by have:=HM.out;omega,by rw[e1];omega,?_,?_,Ko⟩
    ·rw[e1,e2]
     obtain⟨b,off,rfl,-,-,-⟩:=Kl.out.at_ (by omega)
     by_cases hc:c'=64
     ·rw[if_pos hc]
      refine ak.zero _ _ _ (by omega) (List.drop_eq_nil_of_le ?_)
      rw[List.length_map,List.length_drop,DI.out]
      have:=HM.out
      omega
     ·rw[if_neg hc]
      exact hr2.drop 64
    ·rw[sI]
     exact Fh.out
   case measure=>show m-64<m;omega
  ·have hd:decide ((64:Int)≤(m:Int))=false:=by simp;omega
   have hkn:n/64=k:=by have:=HM.out;have:=XG.out;omega
   have Nr:n%64=m:=by have:=HM.out;have:=XG.out;omega
   have XF:wr.cell? ⟨x,72,none⟩=some (.slice none 0 0):=by simp only[World.cell?,hxk];exact yB h8 _ _
   have f72:wr.frozen? ⟨x,72,none⟩=false:=by simp[World.frozen?,hxk]
   have XH:=Lib.hid hkn
   have T9:=Lib.hid Nr
   have PU:w.heap.size≤wr.heap.size:=H_.size
   have hml:0+m≤maxLen:=by unfold maxLen;omega
   have hmb:(0+m)*1≤140737488355328:=by omega
   have ZC:=Lib.hid hml
   have T_:=Lib.hid hmb
   clear hml hmb
   clear hxk H_ CV hm hkn Nr h8
   go_wp2_with (at_builtin;refine pW rfl _ _ 39 rfl w.heap.size 5 i8 _ 1 1 Tryz.underlying39 HI.out.1 HI.out.2.1 HI.out.2.2.1 HI.out.2.2.2 rfl (by omega) (.slice none 0 0) 0 [] rfl ⟨rfl, .inl ⟨rfl,rfl⟩⟩ a' m c' ((bs.drop (64*k)).map bv) rfl (H9 Kl.out) (fE _) ZC.out T_.out PU ?_;intro A9 c9 w9 nP J8 Bn;rw[Nat.zero_add,List.nil_append]at nP;have QT:w9.heap[x]? =wr.heap[x]? :=J8.block x PX (by simp[Value.ownBlock]);have M6:=Lib.hid nP;have ZE:=Lib.hid QT;have q9:w9.cell? ⟨x,72,none⟩=some (.slice none 0 0):=(World.cell?_of_block (w:=wr) (w':=w9) (a:=⟨x,72,none⟩) QT).trans XF;have f9:w9.frozen? ⟨x,72,none⟩=false:=(by simp[World.frozen?,QT,sN.out]);have SB:=Lib.hid J8;have Ua:=Lib.hid Bn;clear nP QT J8 Bn;rw[Nat.zero_add])
   go_end0
   refine⟨rfl, .slice A9 m c9,?_,?_,?_⟩
   ·rw[bJ (ZE.out.trans sN.out),XH.out]
    rw[H7 (lu k _ _ rfl)]
   ·rw[T9.out,XH.out]
    refine fK M6.out fun b hb hbw=>bg _ _ _ _ ?_
    intro e
    have Bn:=Ua.out
    rw[Nat.zero_add]at Bn
    rcases Bn with h9|h9
    ·rw[h9]at hb;simp[Value.ownBlock]at hb
    ·rw[h9]at hb
     cases hb
     have:wr.heap.size=x:=e
     omega
   ·exact(HKK.out.trans ((Keeps.grown SB.out).mono fun y _ hy=>by simp[Value.ownBlock]at hy) fun x _ hx=>hx).trans (Keeps.gX w9 ⟨x,72,none⟩ _) fun x _ hx=>hx
def nH (n:Nat):Nat:=(119-n%64)%64
def wI (rest:List UInt8) (n:Nat):List UInt8:=rest++[128]++List.replicate (nH rest.length) 0++f_ ((n:Int)*8) 8
def zQ (h:List Int):List UInt8:=h.flatMap fun z=>f_ (z%4294967296) 4
def nU (bs:List UInt8):List UInt8:=
 zQ (runM (runM yA (bs.length/64) bs) ((wI (bs.drop (bs.length/64*64)) bs.length).length/64) (wI (bs.drop (bs.length/64*64)) bs.length))
theorem Ib (bs:List UInt8):(nU bs).length=32:=by
 unfold nU zQ
 have h1:=lu ((wI (bs.drop (bs.length/64*64)) bs.length).length/64) (runM yA (bs.length/64) bs) (wI (bs.drop (bs.length/64*64)) bs.length) (lu _ _ _ rfl)
 generalize runM _ _ _=h at h1
 match h,h1 with
 |[a,b,c,d,e,f,g,i],_=>rfl
end Go.Proofs.YtohpcppeajijnaaGreat
