/- package sha: New; slices.Clone of bytes as a row of one's own. package sha: constants. package sha: New; Write of a new stream. package sha: Write of a new stream. package sha: what is hashed, plainly. package sha: (*Stream).Sum. package sha: Sum. -/
import Derived.Test.YtjnhnlabpccgjaaGreatM20
import Derived.Test.YtjnhnlabpccgjaaGreatM13
import Derived.Test.YtjnhnlabpccgjaaGreatM16
import Derived.Deep.WholeRow
namespace Go.Proofs.YtjnhnlabpccgjaaGreat
open Go.ChangeShapes Go.WideShapes Go.ChangeAt Go.RowKit
set_option linter.unusedVariables false
set_option linter.unusedSimpArgs false
def RetO (w:World) (bs:List UInt8) (e:Ending) (w':World):Prop:=
 ∃v,e= .returned v∧w'.ownsRow w.heap.size 5 1 v bs.length (bs.map bv)∧Below w.heap.size w w'
set_option maxHeartbeats 1000000 in
theorem G8 {S:Nat→Prop} (a:Option Addr) (n cap:Nat) (bs:List UInt8) (w:World) (hm:n≤1000000000) (hr:ah S w a n (bs.map bv)):
  Calls Tryz.prog 96 #[.slice a n cap] w (RetO w bs):=by
 obtain⟨i0,hi,hz0,hz1,hz2⟩:=info_parts Tryz.Br
 have hll:bs.length=n:=by have:=hr.length;simpa using this
 have heq:=fun w=>Lib.run_eql_slice_nil (P:=Tryz.prog) w 23 5 a n cap 0 0 Tryz.underlying23
 have HR:=Lib.hid hr
 have HL:=Lib.hid hll
 clear hr hll
 cases a with
 |none=>
  have h0:n=0:=by
   rcases Nat.eq_zero_or_pos n with h0|h0
   ·exact h0
   ·obtain⟨_,_,e,_⟩:=HR.out.at_ h0
    cases e
  subst h0
  have hb0:bs=[]:=List.eq_nil_of_length_eq_zero HL.out
  subst hb0
  go_enter Tryz.func96,Tryz.ntmps96
  go_wp2
  go_ret
  exact⟨_,rfl,⟨rfl, .inl ⟨rfl,rfl⟩⟩,Below.refl _ _⟩
 |some ad=>
  have HS:=Lib.hid (HR.out.below (wall w (.cells #[] 5)) (Nat.le_refl _))
  go_enter Tryz.func96,Tryz.ntmps96
  go_wp2_with (at_builtin;refine dw rfl _ _ 23 rfl w.heap.size 5 i0 (.int .u8 0) 1 1 Tryz.underlying23 hi hz0 hz1 hz2 rfl (by omega) _ 0 [] rfl (oU (MapKept.heap_alloc w _).1 (Nat.le_refl _)) (some ad) n cap (bs.map bv) rfl (by rw[Nat.mul_one];exact HS.out) (dH bs) (by unfold maxLen;omega) (by omega) (by simp) ?_;intro A1 c1 w1 hown1 hb1;rw[Nat.zero_add,List.nil_append]at hown1;have rD:=Lib.hid hown1;have HB1:=Lib.hid ((wall w _).trans hb1);clear hown1 hb1;rw[Nat.zero_add])
  go_ret
  refine⟨_,rfl,?_,HB1.out⟩
  rw[HL.out]
  exact rD.out
def dP (h:List Int) (rest:Value) (n:Int):Array Value:=(h.map dJ++(kM.map dJ++[rest, .int .i64 n])).toArray
theorem uK {P:Program} {fn:Func} {a:Nat} {t:TypeId} {tmps:Array Value} {ad:Addr} {v:Value} {w:World} (h:fn.results= #[.cell a t]) (ha:tmps.getD a undef= .pointer (some ad)) (hl:(loadVar t ad).run P w= .ok v w):(results fn tmps).run P w= .ok v w:=by
 have ha2:tmps[a]?.getD undef= .pointer (some ad):=by simpa using ha
 simp[results,h,asAddr,ha2,hl]
theorem lG {P:Program} {ops:Array Oper} {rest:List Oper} {o:Oper} {a:Act} {w w':World} {Q:Exit→Act→World→Prop} (hgd:o.guard=none) (t:TypeId) (p v:Operand) (hop:o.op=Op.store t p v) (hrun:(Instr.storeAt t (a.eval p) (a.eval v)).run P w= .ok () w') (h:wpList P ops Q rest (a.put o.dst undef) w'):wpList P ops Q (o::rest) a w:=by
 refine wpList_plain hgd fun K hK=> ?_
 unfold Oper.wp
 simp[execOp,hop,hrun,Result.andThen]
 exact hK _ _ h
theorem KJ (w:World):Calls Tryz.prog 202 #[] w fun e w'=>e= .returned (.agg (rz.map dJ).toArray)∧Below w.heap.size w w':=by
 go_enter Tryz.func202,Tryz.ntmps202
 go_wp2
 refine bodyPost_ret (v:= .agg (rz.map dJ).toArray) (uK rfl rfl ?_) rfl ⟨rfl,wall w _⟩
 exact run_loadVar_new w 245 (rz.map dJ).toArray 8 192 Tryz.underlying245 (by kernel_rfl)
abbrev tC:Array Value:=(kM.map dJ).toArray
abbrev z64:Array Value:=(List.replicate 64 (Value.int .u32 0)).toArray
set_option maxRecDepth 100000 in
theorem zn (w:World):(Instr.storeAt 194 (.pointer (some ⟨w.heap.size,0,none⟩)) (.agg tC)).run Tryz.prog (w.alloc (.cells z64 194))= .ok () (w.alloc (.cells tC 194)):=run_storeAt_new (P:=Tryz.prog) w 194 z64 tC (by kernel_rfl) (by kernel_rfl) (by kernel_rfl)
set_option maxRecDepth 100000 in
set_option maxHeartbeats 4000000 in
theorem G9 (w:World):Calls Tryz.prog 203 #[] w fun e w'=>e= .returned (.agg (kM.map dJ).toArray)∧Below w.heap.size w w':=by
 have HST:=Lib.hid (zn w)
 go_enter Tryz.func203,Tryz.ntmps203
 go_wp2_with (refine lG rfl 194 _ _ rfl HST.out ?_)
 refine bodyPost_ret (v:= .agg (kM.map dJ).toArray) (uK rfl rfl ?_) rfl ⟨rfl,wall w _⟩
 exact run_loadVar_new w 194 (kM.map dJ).toArray 64 192 Tryz.underlying194 (by kernel_rfl)
theorem oV {P:Program} {ops:Array Oper} {rest:List Oper} {o:Oper} {a:Act} {w:World} {Q:Exit→Act→World→Prop} {v:Value} (hgd:o.guard=none) (t:TypeId) (parts:Array (Nat×Operand)) (hop:o.op=Op.build t parts) (hrun:(Instr.build t (parts.map fun(i,x)=>(i,a.eval x))).run P w= .ok v w) (h:wpList P ops Q rest (a.put o.dst v) w):wpList P ops Q (o::rest) a w:=by
 refine wpList_plain hgd fun K hK=> ?_
 unfold Oper.wp
 simp only[execOp,hop,hrun,Sem.run_bind,Sem.run_pure,Result.andThen]
 exact hK _ _ h
set_option maxRecDepth 100000 in
set_option maxHeartbeats 4000000 in
theorem G_ (w:World):Calls Tryz.prog 170 #[] w fun e w'=>∃x,e= .returned (ptr x)∧w.heap.size≤x∧w'.heap[x]? =some (.cells (dP rz (.slice none 0 0) 0) 249 (0,0))∧Below w.heap.size w w':=by
 have HB:Hid (∀w:World,(Instr.build 249 #[(0, .agg (rz.map dJ).toArray),(1, .agg (kM.map dJ).toArray)]).run Tryz.prog w= .ok (.agg (dP rz (.slice none 0 0) 0)) w):=by
  intro w
  kernel_rfl
 go_enter Tryz.func170,Tryz.ntmps170
 go_wp2_with fail
 (with_reducible refine(KJ _).mono ?_)
 rintro e w1 ⟨rfl,hb1⟩
 go_wp2_with fail
 (with_reducible refine(G9 _).mono ?_)
 rintro e w2 ⟨rfl,hb2⟩
 go_wp2_with (refine oV rfl 249 _ rfl (HB.out _) ?_)
 go_ret
 have hb:=hb1.trans (hb2.mono hb1.size)
 exact⟨w2.heap.size,rfl,hb.size,(MapKept.heap_alloc w2 _).1,hb.trans ((wall w2 _).mono hb.size)⟩
theorem C_ {h:List Int} (hl:h.length=8) (r:Value) (n:Int):(dP h r n)[72]? =some r:=by
 obtain⟨a0,a1,a2,a3,a4,a5,a6,a7,rfl⟩:=eight hl
 unfold dP
 rw[List.getElem?_toArray]
 rfl
theorem Yv {h:List Int} (hl:h.length=8) (r:Value) (n:Int):(dP h r n)[73]? =some (.int .i64 n):=by
 obtain⟨a0,a1,a2,a3,a4,a5,a6,a7,rfl⟩:=eight hl
 unfold dP
 rw[List.getElem?_toArray]
 rfl
theorem Ob {h:List Int} (hl:h.length=8) (r r':Value) (n:Int):(dP h r n).setIfInBounds 72 r'=dP h r' n:=by
 obtain⟨a0,a1,a2,a3,a4,a5,a6,a7,rfl⟩:=eight hl
 unfold dP
 rw[List.setIfInBounds_toArray]
 rfl
theorem Oc {h:List Int} (hl:h.length=8) (r:Value) (n n':Int):(dP h r n).setIfInBounds 73 (.int .i64 n')=dP h r n':=by
 obtain⟨a0,a1,a2,a3,a4,a5,a6,a7,rfl⟩:=eight hl
 unfold dP
 rw[List.setIfInBounds_toArray]
 rfl
theorem Yw {h:List Int} (hl:h.length=8) (r:Value) (n:Int) (i:Nat) (hi:i<64):(dP h r n)[8+i]? =some (dJ (kM.getD i 0)):=by
 have hk:kM.length=64:=rfl
 unfold dP
 rw[List.getElem?_toArray,List.getElem?_append_right (by simp[hl]),List.length_map,hl,Nat.add_sub_cancel_left,List.getElem?_append_left (by simp[hk];exact hi),List.getElem?_map,List.getD_eq_getElem?_getD,List.getElem?_eq_getElem (by rw[hk];exact hi)]
 rfl
theorem st_h {h:List Int} (hl:h.length=8) (r:Value) (n:Int) (i:Nat) (hi:i<8):(dP h r n)[i]? =some (dJ (h.getD i 0)):=by
 unfold dP
 rw[List.getElem?_toArray,List.getElem?_append_left (by simp[hl];exact hi),List.getElem?_map,List.getD_eq_getElem?_getD,List.getElem?_eq_getElem (by rw[hl];exact hi)]
 rfl
theorem r_:∀(k:Nat) (h:List Int) (b:List UInt8),runM h (k+1) b=fF (runM h k b) ((b.drop (64*k)).take 64)
 |0,h,b=>rfl
 |k+1,h,b=>by
  have e1:runM h (k+1+1) b=runM (fF h (b.take 64)) (k+1) (b.drop 64):=rfl
  have e2:runM h (k+1) b=runM (fF h (b.take 64)) k (b.drop 64):=rfl
  rw[e1,e2,r_ k,List.drop_drop]
  congr 3
  omega
theorem Od {S:Nat→Prop} {w:World} {a:Option Addr} {m:Nat} {vs:List Value} (h:ah S w a m vs):ah S w a (m*1) vs:=by rw[Nat.mul_one];exact h
def Wrote (x:Nat) (w:World) (bs:List UInt8) (n:Nat) (e:Ending) (w':World):Prop:=
 e= .returned (.tuple #[])∧∃v,w'.heap[x]? =some (.cells (dP (runM rz (n/64) bs) v n) 249 (0,0))∧w'.ownsRow w.heap.size 5 1 v (n%64) ((bs.drop (64*(n/64))).map bv)∧Keeps (fun b=>b=x) w w'
set_option maxRecDepth 100000 in
set_option maxHeartbeats 8000000 in
theorem KL {S:Nat→Prop} (x:Nat) (a:Option Addr) (n c:Nat) (bs:List UInt8) (w:World) (hx:w.heap[x]? =some (.cells (dP rz (.slice none 0 0) 0) 249 (0,0))) (hr:ah S w a n (bs.map bv)) (hS:∀b,S b→b≠x) (hn:n≤100000000) (hnc:n≤c):
  Calls Tryz.prog 171 #[ptr x, .slice a n c] w (Wrote x w bs n):=by
 obtain⟨i8,hi⟩:∃i,Tryz.prog.info? 5=some i∧i.zero=some (.int .u8 0)∧i.size=1∧i.bytes=1:=info_parts (by kernel_rfl)
 have HI:=Lib.hid hi
 have h8:rz.length=8:=rfl
 have hxw:=(Array.getElem?_eq_some_iff.1 hx).1
 have c73:w.cell? ⟨x,73,none⟩=some (.int .i64 0):=by simp only[World.cell?,hx];exact Yv h8 _ _
 have f73:w.frozen? ⟨x,73,none⟩=false:=by simp[World.frozen?,hx]
 have hx1:(w.setCell ⟨x,73,none⟩ (.int .i64 n)).heap[x]? =some (.cells (dP rz (.slice none 0 0) n) 249 (0,0)):=by
  rw[aG hx,Oc h8]
 have hK1:Keeps (fun b=>b=x) w (w.setCell ⟨x,73,none⟩ (.int .i64 n)):=Keeps.fq w ⟨x,73,none⟩ (.int .i64 n)
 have q72:(w.setCell ⟨x,73,none⟩ (.int .i64 n)).cell? ⟨x,72,none⟩=some (.slice none 0 0):=by simp only[World.cell?,hx1];exact C_ h8 _ _
 have e0:IntKind.i64.wrap (0+(n:Int))=(n:Int):=by rw[Int.zero_add];exact IntWalk.i64_in _ (by omega)
 have e0':IntKind.i64.wrap (n:Int)=(n:Int):=IntWalk.i64_in _ (by omega)
 have HR1:Hid (ah S (w.setCell ⟨x,73,none⟩ (.int .i64 n)) a n (bs.map bv)):=hr.move (by rw[size_set];exact Nat.le_refl _) fun b hb hbw=>⟨hb,aK _ _ _ _ (hS b hb)⟩
 have Vo:=Lib.hid hx1
 have sF:=Lib.hid hK1
 have HS:=Lib.hid hS
 have hbl:bs.length=n:=by simpa using hr.length
 have BJ:=Lib.hid hbl
 clear hi hx hx1 hr hS hK1 hbl h8
 go_enter Tryz.func171,Tryz.ntmps171
 go_wp2_with fail
 have hz1:(w.setCell ⟨x,73,none⟩ (.int .i64 n)).heap.size=w.heap.size:=size_set _ _ _
 generalize w.setCell ⟨x,73,none⟩ (.int .i64 n)=w1 at*
 have HZ1:=Lib.hid hz1
 clear hz1
 go_loopw [1] (fun v wx=>∃(k:Nat) (a':Option Addr) (c':Nat),v= .slice a' (n-64*k) c'∧64*k≤n∧n-64*k≤c'∧ah S wx a' (n-64*k) ((bs.drop (64*k)).map bv)∧wx.heap[x]? =some (.cells (dP (runM rz k bs) (.slice none 0 0) n) 249 (0,0))∧Keeps (fun b=>b=x) w wx) (fun v _=>match v with| .slice _ m _=>m|_=>0)
 case atStart=>exact⟨0,a,c,rfl,by omega,by omega,HR1.out,Vo.out,sF.out⟩
 case round=>
  obtain⟨k,a',c',rfl,hk,hc',Bc,hxk,Oe⟩:=hrel
  have h8:(runM rz k bs).length=8:=lT k _ _ rfl
  obtain⟨m,hm⟩:∃m,m=n-64*k:=⟨_,rfl⟩
  rw[←hm]at Bc hc'⊢
  have Yx:x<wr.heap.size:=(Array.getElem?_eq_some_iff.1 hxk).1
  have Kc:=Lib.hid hxk
  have HKK:=Lib.hid Oe
  have F4:=Lib.hid Bc
  have HM:=Lib.hid hm
  have XE:=Lib.hid hk
  have hmn:m≤n:=by omega
  by_cases h64:64≤m
  ·have hd:decide ((64:Int)≤(m:Int))=true:=by simp;omega
   have hxd:wr.drew.heap[x]? =some (.cells ((runM rz k bs).map dJ++(kM.map dJ++[Value.slice none 0 0,Value.int .i64 n])).toArray 249 (0,0)):=by
    have h9:=hxk
    unfold dP at h9
    exact h9
   have hkc:∀i,i<64→wr.drew.cell? ⟨x,8+i,none⟩=some (dJ (kM.getD i 0)):=fun i hi=>by
    have h9:=Yw h8 (.slice none 0 0) n i hi
    show wr.cell? ⟨x,8+i,none⟩=_
    simp only[World.cell?,hxk]
    exact h9
   have Og:ah S wr.drew a' 64 (((bs.drop (64*k)).take 64).map bv):=by
    have:=(Bc.take 64).below (Below.refl _ _).drew (Nat.le_refl _)
    rwa [Nat.min_eq_right h64,←List.map_take]at this
   have HT:=Lib.hid (EF x x 8 249 (runM rz k bs) (kM.map dJ++[Value.slice none 0 0,Value.int .i64 n]) a' 64 c' ((bs.drop (64*k)).take 64) wr.drew h8 hxd hkc Yx Og (Nat.le_refl _) (by omega))
   have g1:(64:Int)≤(c':Int):=by omega
   have g2:(64:Int)≤(m:Int):=by omega
   have g3:(m:Int)≤(c':Int):=by omega
   clear hxk Oe Bc hm hxd hkc Og h8
   go_wp2_with fail
   refine qF 8 ((fun _=>True)) ?_ fun hS=> ?_
   ·trivial
   refine ak 0 hS ?_
   refine ak 1 hS ?_
   refine ak 2 hS ?_
   refine ak 3 hS ?_
   refine ak 4 hS ?_
   refine ak 5 hS ?_
   refine ak 6 hS ?_
   refine ak 7 hS ?_
   refine bK 8 fun K hK=> ?_
   go_simp
   (with_reducible refine HT.out.mono ?_)
   rintro e w2 ⟨rfl,hx2,hK2⟩
   have QE:=Lib.hid hx2
   have BI:=Lib.hid hK2
   clear hx2 hK2
   go_wp2_with fail
   refine j_ hK ?_
   clear hS hK K
   go_wp2_with fail
   go_roundw
   case rel=>
    have e1:n-64*(k+1)=m-64:=by have:=HM.out;omega
    have hK9:Keeps (fun b=>b=x) w w2:=(HKK.out.trans (show Keeps (fun b=>b=x) wr wr.drew from⟨rfl,rfl,rfl,Nat.le_refl _,fun _ _ _=>rfl⟩) fun x _ hx=>hx).trans BI.out fun x _ hx=>hx
    have hr2:ah S w2 a' m ((bs.drop (64*k)).map bv):=F4.out.move BI.out.size fun b hb hbw=>⟨hb,BI.out.block b hbw (HS.out b hb)⟩
    have e2:(bs.drop (64*(k+1))).map bv=((bs.drop (64*k)).map bv).drop 64:=by
     rw[←List.map_drop,List.drop_drop]
     congr 2
    refine⟨k+1,_,c'-64,by rw[e1],by have:=HM.out;omega,by rw[e1];omega,?_,?_,hK9⟩
    ·rw[e1,e2]
     obtain⟨b,off,rfl,-,-,-⟩:=F4.out.at_ (by omega)
     by_cases hc:c'=64
     ·rw[if_pos hc]
      refine ah.zero _ _ _ (by omega) (List.drop_eq_nil_of_le ?_)
      rw[List.length_map,List.length_drop,BJ.out]
      have:=HM.out
      omega
     ·rw[if_neg hc]
      exact hr2.drop 64
    ·rw[r_]
     exact QE.out
   case measure=>show m-64<m;omega
  ·have hd:decide ((64:Int)≤(m:Int))=false:=by simp;omega
   have hkn:n/64=k:=by have:=HM.out;have:=XE.out;omega
   have Vp:n%64=m:=by have:=HM.out;have:=XE.out;omega
   have q72:wr.cell? ⟨x,72,none⟩=some (.slice none 0 0):=by simp only[World.cell?,hxk];exact C_ h8 _ _
   have f72:wr.frozen? ⟨x,72,none⟩=false:=by simp[World.frozen?,hxk]
   have Ug:=Lib.hid hkn
   have HM64:=Lib.hid Vp
   have RD:w.heap.size≤wr.heap.size:=Oe.size
   have hml:0+m≤maxLen:=by unfold maxLen;omega
   have hmb:(0+m)*1≤140737488355328:=by omega
   have HML:=Lib.hid hml
   have HMB:=Lib.hid hmb
   clear hml hmb
   clear hxk Oe Bc hm hkn Vp h8
   go_wp2_with (at_builtin;refine nA rfl _ _ 23 rfl w.heap.size 5 i8 _ 1 1 Tryz.underlying23 HI.out.1 HI.out.2.1 HI.out.2.2.1 HI.out.2.2.2 rfl (by omega) (.slice none 0 0) 0 [] rfl ⟨rfl, .inl ⟨rfl,rfl⟩⟩ a' m c' ((bs.drop (64*k)).map bv) rfl (Od F4.out) (dH _) HML.out HMB.out RD ?_;intro A9 c9 w9 nD Oh He;rw[Nat.zero_add,List.nil_append]at nD;have XF:w9.heap[x]? =wr.heap[x]? :=Oh.block x Yx (by simp[Value.ownBlock]);have RG:=Lib.hid nD;have HX9:=Lib.hid XF;have q9:w9.cell? ⟨x,72,none⟩=some (.slice none 0 0):=(World.cell?_of_block (w:=wr) (w':=w9) (a:=⟨x,72,none⟩) XF).trans q72;have f9:w9.frozen? ⟨x,72,none⟩=false:=(by simp[World.frozen?,XF,Kc.out]);have Vq:=Lib.hid Oh;have HAT9:=Lib.hid He;clear nD XF Oh He;rw[Nat.zero_add])
   go_end0
   refine⟨rfl, .slice A9 m c9,?_,?_,?_⟩
   ·rw[aG (HX9.out.trans Kc.out),Ug.out]
    rw[Ob (lT k _ _ rfl)]
   ·rw[HM64.out,Ug.out]
    refine dh RG.out fun b hb hbw=>aK _ _ _ _ ?_
    intro e
    have He:=HAT9.out
    rw[Nat.zero_add]at He
    rcases He with h9|h9
    ·rw[h9]at hb;simp[Value.ownBlock]at hb
    ·rw[h9]at hb
     cases hb
     have:wr.heap.size=x:=e
     omega
   ·exact(HKK.out.trans ((Keeps.grown Vq.out).mono fun y _ hy=>by simp[Value.ownBlock]at hy) fun x _ hx=>hx).trans (Keeps.fq w9 ⟨x,72,none⟩ _) fun x _ hx=>hx
def jQ (n:Nat):Nat:=(119-n%64)%64
def mM (rest:List UInt8) (n:Nat):List UInt8:=rest++[128]++List.replicate (jQ rest.length) 0++dR ((n:Int)*8) 8
def xM (h:List Int):List UInt8:=h.flatMap fun z=>dR (z%4294967296) 4
def jR (bs:List UInt8):List UInt8:=
 xM (runM (runM rz (bs.length/64) bs) ((mM (bs.drop (bs.length/64*64)) bs.length).length/64) (mM (bs.drop (bs.length/64*64)) bs.length))
theorem rE (bs:List UInt8):(jR bs).length=32:=by
 unfold jR xM
 have h1:=lT ((mM (bs.drop (bs.length/64*64)) bs.length).length/64) (runM rz (bs.length/64) bs) (mM (bs.drop (bs.length/64*64)) bs.length) (lT _ _ _ rfl)
 generalize runM _ _ _=h at h1
 match h,h1 with
 |[a,b,c,d,e,f,g,i],_=>rfl
theorem wW (r j:Nat) (hj:j≤jQ r):((r+1+j)%64=56↔j=jQ r):=by
 unfold jQ at*
 omega
theorem Oi (r0 r1 r2 r3 r4 r5 r6 r7:Int) (w:World):(Instr.index 245 (.agg #[.int .u32 r0, .int .u32 r1, .int .u32 r2, .int .u32 r3, .int .u32 r4, .int .u32 r5, .int .u32 r6, .int .u32 r7]) (.int .i64 0)).run Tryz.prog w= .ok (.int .u32 r0) w:=by
 kernel_rfl
theorem Oj (r0 r1 r2 r3 r4 r5 r6 r7:Int) (w:World):(Instr.index 245 (.agg #[.int .u32 r0, .int .u32 r1, .int .u32 r2, .int .u32 r3, .int .u32 r4, .int .u32 r5, .int .u32 r6, .int .u32 r7]) (.int .i64 1)).run Tryz.prog w= .ok (.int .u32 r1) w:=by
 kernel_rfl
theorem Ol (r0 r1 r2 r3 r4 r5 r6 r7:Int) (w:World):(Instr.index 245 (.agg #[.int .u32 r0, .int .u32 r1, .int .u32 r2, .int .u32 r3, .int .u32 r4, .int .u32 r5, .int .u32 r6, .int .u32 r7]) (.int .i64 2)).run Tryz.prog w= .ok (.int .u32 r2) w:=by
 kernel_rfl
theorem Om (r0 r1 r2 r3 r4 r5 r6 r7:Int) (w:World):(Instr.index 245 (.agg #[.int .u32 r0, .int .u32 r1, .int .u32 r2, .int .u32 r3, .int .u32 r4, .int .u32 r5, .int .u32 r6, .int .u32 r7]) (.int .i64 3)).run Tryz.prog w= .ok (.int .u32 r3) w:=by
 kernel_rfl
theorem Oo (r0 r1 r2 r3 r4 r5 r6 r7:Int) (w:World):(Instr.index 245 (.agg #[.int .u32 r0, .int .u32 r1, .int .u32 r2, .int .u32 r3, .int .u32 r4, .int .u32 r5, .int .u32 r6, .int .u32 r7]) (.int .i64 4)).run Tryz.prog w= .ok (.int .u32 r4) w:=by
 kernel_rfl
theorem Oq (r0 r1 r2 r3 r4 r5 r6 r7:Int) (w:World):(Instr.index 245 (.agg #[.int .u32 r0, .int .u32 r1, .int .u32 r2, .int .u32 r3, .int .u32 r4, .int .u32 r5, .int .u32 r6, .int .u32 r7]) (.int .i64 5)).run Tryz.prog w= .ok (.int .u32 r5) w:=by
 kernel_rfl
theorem Ot (r0 r1 r2 r3 r4 r5 r6 r7:Int) (w:World):(Instr.index 245 (.agg #[.int .u32 r0, .int .u32 r1, .int .u32 r2, .int .u32 r3, .int .u32 r4, .int .u32 r5, .int .u32 r6, .int .u32 r7]) (.int .i64 6)).run Tryz.prog w= .ok (.int .u32 r6) w:=by
 kernel_rfl
theorem Ou (r0 r1 r2 r3 r4 r5 r6 r7:Int) (w:World):(Instr.index 245 (.agg #[.int .u32 r0, .int .u32 r1, .int .u32 r2, .int .u32 r3, .int .u32 r4, .int .u32 r5, .int .u32 r6, .int .u32 r7]) (.int .i64 7)).run Tryz.prog w= .ok (.int .u32 r7) w:=by
 kernel_rfl
theorem Vr (r0 r1 r2 r3 r4 r5 r6 r7:Int) (k:Nat) (hk:k<8) (w:World):(Instr.index 245 (.agg #[.int .u32 r0, .int .u32 r1, .int .u32 r2, .int .u32 r3, .int .u32 r4, .int .u32 r5, .int .u32 r6, .int .u32 r7]) (.int .i64 k)).run Tryz.prog w= .ok (.int .u32 (([r0,r1,r2,r3,r4,r5,r6,r7]:List Int).getD k 0)) w:=by
 match k,hk with
 |0,_=>exact Oi r0 r1 r2 r3 r4 r5 r6 r7 w
 |1,_=>exact Oj r0 r1 r2 r3 r4 r5 r6 r7 w
 |2,_=>exact Ol r0 r1 r2 r3 r4 r5 r6 r7 w
 |3,_=>exact Om r0 r1 r2 r3 r4 r5 r6 r7 w
 |4,_=>exact Oo r0 r1 r2 r3 r4 r5 r6 r7 w
 |5,_=>exact Oq r0 r1 r2 r3 r4 r5 r6 r7 w
 |6,_=>exact Ot r0 r1 r2 r3 r4 r5 r6 r7 w
 |7,_=>exact Ou r0 r1 r2 r3 r4 r5 r6 r7 w
theorem be4 (z:Int):[Value.int .u8 (z/16777216%256), .int .u8 (z/65536%256), .int .u8 (z/256%256), .int .u8 (z%256)]=(dR (z%4294967296) 4).map bv:=by
 unfold dR dR dR dR dR
 simp[bv]
 refine⟨?_,?_,?_,?_⟩<;>omega
theorem BP {R:List Int} {k:Nat} (hk:k<R.length):xM (R.take (k+1))=xM (R.take k)++dR (R.getD k 0%4294967296) 4:=by
 unfold xM
 rw[List.take_succ_eq_append_getElem hk,List.flatMap_append,List.getD_eq_getElem?_getD,List.getElem?_eq_getElem hk]
 simp
theorem BQ (r:Nat):jQ r<64:=by unfold jQ;omega
set_option maxRecDepth 100000 in
set_option maxHeartbeats 8000000 in
theorem Ov (x:Nat) (h:List Int) (v:Value) (n r:Nat) (rest:List UInt8) (w:World) (hh:h.length=8) (hx:w.heap[x]? =some (.cells (dP h v n) 249 (0,0))) (hv:w.ownsRow 0 5 1 v r (rest.map bv)) (hr:r<64) (hn:n≤100000000):
  Calls Tryz.prog 172 #[ptr x] w (ou w (xM (runM h ((mM rest n).length/64) (mM rest n)))):=by
 obtain⟨i8,hi⟩:∃i,Tryz.prog.info? 5=some i∧i.zero=some (.int .u8 0)∧i.size=1∧i.bytes=1:=info_parts (by kernel_rfl)
 have HI:=Lib.hid hi
 obtain⟨a,c,rfl,hac⟩:=cO hv
 obtain⟨-,-,hrow⟩:=ah.nZ hv (by unfold maxLen;omega)
 rw[Nat.mul_one]at hrow
 have hrl:rest.length=r:=by simpa using hrow.length
 have hxw:=(Array.getElem?_eq_some_iff.1 hx).1
 have c72:w.cell? ⟨x,72,none⟩=some (.slice a r c):=by simp only[World.cell?,hx];exact C_ hh _ _
 have QF:=Lib.hid (G8 a r c rest w (by omega) hrow)
 have HX:=Lib.hid hx
 have Yy:=Lib.hid hh
 have HRL:=Lib.hid hrl
 clear hi hx hv hrow hh hrl
 go_enter Tryz.func172,Tryz.ntmps172
 go_wp2_with fail
 (with_reducible refine QF.out.mono ?_)
 rintro e w1 ⟨v1,rfl,hown1,hb1⟩
 obtain⟨a1,c1,rfl,hac1⟩:=cO hown1
 rw[HRL.out]at hown1 hac1⊢
 have rD:=Lib.hid hown1
 have HB1:=Lib.hid hb1
 clear hown1 hb1
 go_wp2_with (at_builtin;refine dw rfl _ _ 23 rfl w.heap.size 5 i8 _ 1 1 Tryz.underlying23 HI.out.1 HI.out.2.1 HI.out.2.2.1 HI.out.2.2.2 rfl (by omega) (.slice a1 r c1) r (rest.map bv) rfl (dh rD.out fun b hb hbw=>(wall w1 _).block b hbw) (some ⟨w1.heap.size,0,none⟩) 1 1 [bv 128] rfl (gH (w:=w1) [bv 128] 5 (by simp[maxLen])) (by simp[Value.oneCell',bv]) (by unfold maxLen;omega) (by omega) (by have:=HB1.out.size;simp;omega) ?_;intro A2 c2 w2 hown2 hb2;have CO:=Lib.hid hown2;have HB2:=Lib.hid ((HB1.out.trans ((wall w1 _).mono HB1.out.size)).trans hb2);clear hown2 hb2)
 go_loopw [3] (fun v wx=>∃(j:Nat) (a':Option Addr) (c':Nat),v= .slice a' (r+1+j) c'∧j≤jQ r∧wx.ownsRow w.heap.size 5 1 v (r+1+j) ((rest++[128]++List.replicate j 0).map bv)∧Below w.heap.size w wx) (fun v _=>200-(match v with| .slice _ m _=>m|_=>0))
 case atStart=>exact⟨0,A2,c2,rfl,Nat.zero_le _,by simpa using CO.out,HB2.out⟩
 case round=>
  obtain⟨j,a',c',rfl,hj,hown,hb⟩:=hrel
  have HO:=Lib.hid hown
  have HB:=Lib.hid hb
  have hz:=BQ r
  have hsp:=wW r j hj
  obtain⟨m,hm⟩:∃m,m=r+1+j:=⟨_,rfl⟩
  rw[←hm]at HO hsp⊢
  have HM:=Lib.hid hm
  have Yz:m≤200:=by omega
  clear hown hb hm
  by_cases hjz:j=jQ r
  ·have YA:m%64=56:=hsp.2 hjz
   have hd:((m:Int)%64 !=56)=false:=by simp;omega
   have Rq:wr.heap[x]? =some (.cells (dP h (.slice a r c) n) 249 (0,0)):=(HB.out.block x hxw).trans HX.out
   have c73:wr.cell? ⟨x,73,none⟩=some (.int .i64 n):=by simp only[World.cell?,Rq];exact Yv Yy.out _ _
   have e1:IntKind.u64.wrap (n:Int)=(n:Int):=by simp[IntKind.wrap,IntKind.bits,IntKind.signed];omega
   have e2:IntKind.u64.wrap ((n:Int)*8)=(n:Int)*8:=by simp[IntKind.wrap,IntKind.bits,IntKind.signed];omega
   obtain⟨P,hP⟩:∃P,P=rest++[128]++List.replicate j 0:=⟨_,rfl⟩
   rw[←hP]at HO
   have HPE:Hid (P=rest++[128]++List.replicate (jQ rest.length) 0):=by
    show P=_
    rw[hP,hjz,HRL.out]
   have Ji:Hid ((m+8)%64=0):=by show(m+8)%64=0;omega
   clear hsp YA hjz Rq hP
   go_wp2_with fail
   obtain⟨N,hN⟩:∃N:Int,N=(n:Int)*8:=⟨_,rfl⟩
   rw[←hN]
   have hN0:0≤N:=by omega
   have HN:=Lib.hid hN
   clear hN e2
   go_loopw [3,5] (fun v kv wx=>∃(k:Nat) (dn:List UInt8) (a':Option Addr) (c':Nat),v= .slice a' (m+dn.length) c'∧kv= .int .i64 ((k:Int)-1)∧k≤8∧dn++dR N k=dR N 8∧dn.length+k=8∧wx.ownsRow w.heap.size 5 1 v (m+dn.length) ((P++dn).map bv)∧Below w.heap.size w wx) (fun _ kv _=>((intOf kv)+1).toNat)
   case atStart=>exact⟨8,[],a',c',rfl,by go_num,by omega,rfl,rfl,by simpa using HO.out,HB.out⟩
   case round=>
    obtain⟨k,dn,a3,c3,rfl,rfl,hk,hdn,hdl,hown,hb⟩:=hrel
    have Hf:=Lib.hid hown
    have HB3:=Lib.hid hb
    have vJ:=Lib.hid hdn
    obtain⟨m3,Ep⟩:∃m3,m3=m+dn.length:=⟨_,rfl⟩
    rw[←Ep]at Hf⊢
    have tF:=Lib.hid Ep
    have hm3b:m3≤208:=by omega
    clear hown hb hdn Ep
    cases k with
    |zero=>
     have e0:((0:Nat):Int)-1= -1:=by omega
     rw[e0]
     have Ow:dn=dR N 8:=by
      have h9:=vJ.out
      unfold dR at h9
      rw[List.append_nil]at h9
      rw[h9];rfl
     obtain⟨E,hE⟩:∃E,E=P++dn:=⟨_,rfl⟩
     rw[←hE]at Hf
     have hEl:E.length=m3:=by have:=Hf.out.1;simp at this;omega
     have YB:Hid (E=mM rest n):=by
      show E=mM rest n
      rw[hE,Ow,HPE.out,HN.out]
      rfl
     have Vp:m3%64=0:=by have:=tF.out;have:=Ji.out;omega
     have Rq:wr.heap[x]? =some (.cells (dP h (.slice a r c) n) 249 (0,0)):=(HB3.out.block x hxw).trans HX.out
     have YC:x<wr.heap.size:=(Array.getElem?_eq_some_iff.1 Rq).1
     obtain⟨h0,h1,h2,h3,h4,h5,h6,h7,QG⟩:=eight Yy.out
     have hc:∀i,i<8→wr.cell? ⟨x,i,none⟩=some (dJ (h.getD i 0)):=fun i hi=>by
      have h9:=st_h Yy.out (.slice a r c) n i hi
      simp only[World.cell?,Rq]
      exact h9
     have c0:wr.cell? ⟨x,0,none⟩=some (.int .u32 h0):=by have:=hc 0 (by omega);rw[QG]at this;exact this
     have c1:wr.cell? ⟨x,1,none⟩=some (.int .u32 h1):=by have:=hc 1 (by omega);rw[QG]at this;exact this
     have c2:wr.cell? ⟨x,2,none⟩=some (.int .u32 h2):=by have:=hc 2 (by omega);rw[QG]at this;exact this
     have c3':wr.cell? ⟨x,3,none⟩=some (.int .u32 h3):=by have:=hc 3 (by omega);rw[QG]at this;exact this
     have c4:wr.cell? ⟨x,4,none⟩=some (.int .u32 h4):=by have:=hc 4 (by omega);rw[QG]at this;exact this
     have c5:wr.cell? ⟨x,5,none⟩=some (.int .u32 h5):=by have:=hc 5 (by omega);rw[QG]at this;exact this
     have c6:wr.cell? ⟨x,6,none⟩=some (.int .u32 h6):=by have:=hc 6 (by omega);rw[QG]at this;exact this
     have c7:wr.cell? ⟨x,7,none⟩=some (.int .u32 h7):=by have:=hc 7 (by omega);rw[QG]at this;exact this
     have Bd:=Lib.hid QG
     have HXR:=Lib.hid Rq
     have HE:=Lib.hid hE
     clear hc QG Rq hE Ow hdl hk
     go_wp2_with fail
     have hal:=(MapKept.heap_alloc wr (.cells #[.int .u32 h0, .int .u32 h1, .int .u32 h2, .int .u32 h3, .int .u32 h4, .int .u32 h5, .int .u32 h6, .int .u32 h7] 245)).1
     have hwl:=wall wr (.cells #[.int .u32 h0, .int .u32 h1, .int .u32 h2, .int .u32 h3, .int .u32 h4, .int .u32 h5, .int .u32 h6, .int .u32 h7] 245)
     obtain⟨hb5,RH⟩:∃z,z=wr.heap.size:=⟨_,rfl⟩
     rw[←RH]at hal⊢
     have RI:Below w.heap.size w (wr.alloc (.cells #[.int .u32 h0, .int .u32 h1, .int .u32 h2, .int .u32 h3, .int .u32 h4, .int .u32 h5, .int .u32 h6, .int .u32 h7] 245)):=HB3.out.trans (hwl.mono HB3.out.size)
     have hO5:=dh Hf.out fun b hb hbw=>hwl.block b hbw
     have hb5w:w.heap.size≤hb5:=by rw[RH];exact HB3.out.size
     have Yi:∀b,(Value.slice a3 m3 c3).ownBlock=some b→b<hb5:=fun b hb=>by rw[RH];exact kJ Hf.out b hb
     generalize wr.alloc (.cells #[.int .u32 h0, .int .u32 h1, .int .u32 h2, .int .u32 h3, .int .u32 h4, .int .u32 h5, .int .u32 h6, .int .u32 h7] 245)=w5 at*
     have YD:w5.heap[hb5]? =some (.cells ((h.map dJ++[]).toArray) 245 (0,0)):=by
      rw[Bd.out,List.append_nil]
      exact hal
     have Et:Hid (∀i,i<64→w5.cell? ⟨x,8+i,none⟩=some (dJ (kM.getD i 0))):=fun i hi=>by
      have h9:=Yw Yy.out (.slice a r c) n i hi
      rw[hwl.cell (p:=⟨x,8+i,none⟩) YC]
      simp only[World.cell?,HXR.out]
      exact h9
     have YE:x<w5.heap.size:=Nat.lt_of_lt_of_le YC hwl.size
     have hxb5:x≠hb5:=by omega
     have Uh:ah (fun b=>b≠hb5) w5 a3 m3 (E.map bv):=by
      obtain⟨-,-,h9⟩:=ah.nZ Hf.out (by unfold maxLen;omega)
      rw[Nat.mul_one]at h9
      exact(h9.below hwl (Nat.le_refl _)).mono fun b hb=>by omega
     have hac3:m3≤c3:=by
      obtain⟨_,_,e,h9⟩:=cO Hf.out
      cases e
      exact h9
     have Jl:=Lib.hid Uh
     have HAL2:=Lib.hid YD
     have rW:=Lib.hid RI
     have Ui:=Lib.hid hO5
     have T9:=Lib.hid Yi
     have YF:=Lib.hid hEl
     clear Uh hal YD RI hO5 Yi hEl hwl RH c0 c1 c2 c3' c4 c5 c6 c7
     go_loopw [3] (fun v wx=>∃(k:Nat) (a':Option Addr) (c':Nat),v= .slice a' (m3-64*k) c'∧64*k≤m3∧m3-64*k≤c'∧ah (fun b=>b≠hb5) wx a' (m3-64*k) ((E.drop (64*k)).map bv)∧wx.heap[hb5]? =some (.cells (((runM h k E).map dJ++[]).toArray) 245 (0,0))∧Keeps (fun b=>b=hb5) w5 wx) (fun v _=>match v with| .slice _ m _=>m|_=>0)
     case atStart=>exact⟨0,a3,c3,rfl,by omega,by omega,Jl.out,HAL2.out,Keeps.refl _ _⟩
     case round=>
      obtain⟨k,a',c',rfl,hk,hc',Bc,hxk,Oe⟩:=hrel
      have h8:(runM h k E).length=8:=lT k _ _ Yy.out
      obtain⟨q,hq⟩:∃q,q=m3-64*k:=⟨_,rfl⟩
      rw[←hq]at Bc hc'⊢
      have Kc:=Lib.hid hxk
      have HKK:=Lib.hid Oe
      have F4:=Lib.hid Bc
      have HQ:=Lib.hid hq
      have hxwr:x<wr.heap.size:=Nat.lt_of_lt_of_le YE Oe.size
      by_cases h0q:0<q
      ·have h64:64≤q:=by omega
       have hd:decide ((0:Int)<(q:Int))=true:=by simp;omega
       have hkc:∀i,i<64→wr.drew.cell? ⟨x,8+i,none⟩=some (dJ (kM.getD i 0)):=fun i hi=>by
        have h9:=Et.out i hi
        rw[←h9]
        exact World.cell?_of_block (w:=w5) (w':=wr.drew) (a:=⟨x,8+i,none⟩) (Oe.block x YE hxb5)
       have Og:ah (fun b=>b≠hb5) wr.drew a' 64 (((E.drop (64*k)).take 64).map bv):=by
        have:=(Bc.take 64).below (Below.refl _ _).drew (Nat.le_refl _)
        rwa [Nat.min_eq_right h64,←List.map_take]at this
       have HT:=Lib.hid (EF hb5 x 8 245 (runM h k E) [] a' 64 c' ((E.drop (64*k)).take 64) wr.drew h8 hxk hkc hxwr Og (Nat.le_refl _) (by omega))
       have g1:(64:Int)≤(c':Int):=by omega
       have g2:(64:Int)≤(q:Int):=by omega
       have g3:(q:Int)≤(c':Int):=by omega
       clear hxk Oe Bc hq hkc Og h8
       go_wp2_with fail
       refine qF 5 ((fun _=>True)) ?_ fun hS=> ?_
       ·trivial
       refine ak 0 hS ?_
       refine ak 1 hS ?_
       refine ak 2 hS ?_
       refine ak 3 hS ?_
       refine ak 4 hS ?_
       refine bK 5 fun K hK=> ?_
       go_simp
       (with_reducible refine HT.out.mono ?_)
       rintro e w6 ⟨rfl,hx6,zo⟩
       have HX6:=Lib.hid hx6
       have wX:=Lib.hid zo
       clear hx6 zo
       go_wp2_with fail
       refine j_ hK ?_
       clear hS hK K
       go_wp2_with fail
       go_roundw
       case rel=>
        have e1:m3-64*(k+1)=q-64:=by have:=HQ.out;omega
        have hK9:Keeps (fun b=>b=hb5) w5 w6:=(HKK.out.trans (show Keeps (fun b=>b=hb5) wr wr.drew from⟨rfl,rfl,rfl,Nat.le_refl _,fun _ _ _=>rfl⟩) fun x _ hx=>hx).trans wX.out fun x _ hx=>hx
        have hr2:ah (fun b=>b≠hb5) w6 a' q ((E.drop (64*k)).map bv):=F4.out.move wX.out.size fun b hb hbw=>⟨hb,wX.out.block b hbw hb⟩
        have e2:(E.drop (64*(k+1))).map bv=((E.drop (64*k)).map bv).drop 64:=by
         rw[←List.map_drop,List.drop_drop]
         congr 2
        refine⟨k+1,_,c'-64,by rw[e1],by have:=HQ.out;omega,by rw[e1];omega,?_,?_,hK9⟩
        ·rw[e1,e2]
         obtain⟨b,off,rfl,-,-,-⟩:=F4.out.at_ (by omega)
         by_cases hc:c'=64
         ·rw[if_pos hc]
          refine ah.zero _ _ _ (by omega) (List.drop_eq_nil_of_le ?_)
          rw[List.length_map,List.length_drop,YF.out]
          have:=HQ.out
          omega
         ·rw[if_neg hc]
          exact hr2.drop 64
        ·rw[r_]
         exact HX6.out
       case measure=>show q-64<q;omega
      ·have hd:decide ((0:Int)<(q:Int))=false:=by simp;omega
       have Oa:m3/64=k:=by have:=HQ.out;omega
       have h9:=Kc.out
       rw[List.append_nil]at h9
       obtain⟨R,hR⟩:∃R,R=runM h k E:=⟨_,rfl⟩
       rw[←hR]at h9 h8
       have BR:Hid (R=runM h ((mM rest n).length/64) (mM rest n)):=by
        show R=_
        rw[hR,←YB.out,YF.out,Oa]
       have U3:=Lib.hid h9
       have hBr:Below w.heap.size w wr:=rW.out.trans (Oe.fD rW.out.size fun b hb (he:b=hb5)=>by omega)
       have xK:=Lib.hid hBr
       obtain⟨r0,r1,r2,r3,r4,r5,r6,r7,hre⟩:=eight h8
       have hbw5:hb5<wr.heap.size:=(Array.getElem?_eq_some_iff.1 hxk).1
       have HCW:Hid (∀w':World,w'.heap[hb5]? =wr.heap[hb5]? →w'.cell? ⟨hb5,0,none⟩=some (.int .u32 r0)∧w'.cell? ⟨hb5,1,none⟩=some (.int .u32 r1)∧w'.cell? ⟨hb5,2,none⟩=some (.int .u32 r2)∧w'.cell? ⟨hb5,3,none⟩=some (.int .u32 r3)∧w'.cell? ⟨hb5,4,none⟩=some (.int .u32 r4)∧w'.cell? ⟨hb5,5,none⟩=some (.int .u32 r5)∧w'.cell? ⟨hb5,6,none⟩=some (.int .u32 r6)∧w'.cell? ⟨hb5,7,none⟩=some (.int .u32 r7)):=fun w' hw=>by
        rw[U3.out,hre]at hw
        refine⟨?_,?_,?_,?_,?_,?_,?_,?_⟩<;>simp[World.cell?,hw]
       have Vs:=Lib.hid hre
       clear hxk Oe Bc hq h9 hR Oa hBr hre h8
       go_wp2_with (at_make;refine wpList_make_own _ rfl _ _ 23 rfl w.heap.size 5 i8 (.int .u8 0) 1 Tryz.underlying23 HI.out.1 HI.out.2.1 HI.out.2.2.1 .i64 .i64 32 32 rfl rfl rfl (by rw[HI.out.2.2.2];omega) (by unfold maxLen;omega) xK.out.size ?_;intro w7 wY Hg;have Uj:=Lib.hid wY;have YG:=Hg.block hb5 hbw5 (fun e=>by cases e);obtain⟨z0,z1,z2,z3,z4,z5,z6,z7⟩:=HCW.out w7 YG;have wS:=Lib.hid (xK.out.grown Hg xK.out.size (fun k hk=>by cases hk));clear wY Hg YG)
       go_loopw [7,9,59] (fun v _ iv wx=>∃(k:Nat) (a':Option Addr) (c':Nat),v= .slice a' (4*k) c'∧iv= .int .i64 k∧k≤8∧wx.ownsRow w.heap.size 5 1 v (4*k) ((xM (R.take k)).map bv)∧Below w.heap.size w wx) (fun _ _ iv _=>8-(intOf iv).toNat)
       case atStart=>exact⟨0,_,32,rfl,rfl,by omega,Uj.out,wS.out⟩
       case round=>
        obtain⟨k,a',c',rfl,rfl,hk,hown,hb⟩:=hrel
        have MP:=Lib.hid hown
        have vK:=Lib.hid hb
        clear hown hb
        by_cases hlt:k<8
        ·have hd:decide ((k:Int)<8)=true:=by simp;omega
         have hix:=Vr r0 r1 r2 r3 r4 r5 r6 r7 k hlt
         rw[←Vs.out]at hix
         obtain⟨z,hz⟩:∃z,z=R.getD k 0:=⟨_,rfl⟩
         rw[←hz]at hix
         have HZ:=Lib.hid hz
         clear hz
         go_wp2_with (at_builtin;refine dw rfl _ _ 23 rfl w.heap.size 5 i8 _ 1 1 Tryz.underlying23 HI.out.1 HI.out.2.1 HI.out.2.2.1 HI.out.2.2.2 rfl (by omega) (.slice a' (4*k) c') (4*k) ((xM (R.take k)).map bv) rfl (dh MP.out fun b hb hbw=>(wall wr _).block b hbw) (some ⟨wr.heap.size,0,none⟩) 4 4 [.int .u8 (z/16777216%256), .int .u8 (z/65536%256), .int .u8 (z/256%256), .int .u8 (z%256)] rfl (gH (w:=wr) [.int .u8 (z/16777216%256), .int .u8 (z/65536%256), .int .u8 (z/256%256), .int .u8 (z%256)] 5 (by simp[maxLen])) (by simp[Value.oneCell']) (by unfold maxLen;omega) (by omega) (by have:=vK.out.size;simp;omega) ?_;intro A9 c9 w9 nD yg;have RG:=Lib.hid nD;have AB:=Lib.hid ((vK.out.trans ((wall wr _).mono vK.out.size)).trans yg);clear nD yg)
         go_roundw
         case rel=>
          have e9:4*(k+1)=4*k+4:=by omega
          refine⟨k+1,A9,c9,by rw[e9],by go_num,by omega,?_,AB.out⟩
          rw[e9,BP (by rw[Vs.out];exact hlt),List.map_append,←HZ.out,←be4]
          exact RG.out
         case measure=>simp[intOf];omega
        ·have hd:decide ((k:Int)<8)=false:=by simp;omega
         have hk8:k=8:=by omega
         go_wp2_with fail
         go_ret
         have h9:=MP.out
         rw[hk8,List.take_of_length_le (by rw[Vs.out];exact Nat.le_refl 8),BR.out]at h9
         obtain⟨-,QA,Q9⟩:=ah.nZ h9 (by unfold maxLen;omega)
         rw[hk8]
         exact⟨a',4*8,c',rfl,QA,by simpa using Q9,vK.out⟩
    |succ k=>
     have hk0:(0:Int)≤k:=by omega
     have e3:((k+1:Nat):Int)-1=(k:Int):=by omega
     rw[e3]
     have e4:IntKind.i64.wrap (8*(k:Int))=8*(k:Int):=IntWalk.i64_in _ (by omega)
     have hge:decide ((0:Int)≤(k:Int))=true:=by simp
     have hbw:=lq hN0 k
     obtain⟨b0,hb0⟩:∃b0,b0=UInt8.ofNat ((N/2^(8*k)).toNat%256):=⟨_,rfl⟩
     rw[←hb0]at hbw
     have HBV:Hid (Value.int .u8 (N/2^(8*k)%256)=bv b0):=by
      show Value.int .u8 (N/2^(8*k)%256)=bv b0
      have e9:(8*(k:Int)).toNat=8*k:=by omega
      rw[e9]at hbw
      simp only[IntKind.wrap,IntKind.bits,IntKind.signed]at hbw
      simp at hbw
      simp[bv]
      omega
     have HB0:=Lib.hid hb0
     clear hb0 hbw
     go_wp2_with (at_builtin;refine dw rfl _ _ 23 rfl w.heap.size 5 i8 _ 1 1 Tryz.underlying23 HI.out.1 HI.out.2.1 HI.out.2.2.1 HI.out.2.2.2 rfl (by omega) (.slice a3 m3 c3) m3 ((P++dn).map bv) rfl (dh Hf.out fun b hb hbw=>(wall wr _).block b hbw) (some ⟨wr.heap.size,0,none⟩) 1 1 [.int .u8 (N/2^(8*k)%256)] rfl (gH (w:=wr) [.int .u8 (N/2^(8*k)%256)] 5 (by simp[maxLen])) (by simp[Value.oneCell']) (by unfold maxLen;omega) (by omega) (by have:=HB3.out.size;simp;omega) ?_;intro A4 c4 w4 kQ hb4;have Ox:=Lib.hid kQ;have kG:=Lib.hid ((HB3.out.trans ((wall wr _).mono HB3.out.size)).trans hb4);clear kQ hb4)
     go_roundw
     case rel=>
      have e9:m+(dn++[b0]).length=m3+1:=by have:=tF.out;simp;omega
      refine⟨k,dn++[b0],A4,c4,by rw[e9],by go_num,by omega,?_,by simp;omega,?_,kG.out⟩
      ·rw[List.append_assoc,←vJ.out,HB0.out]
       rfl
      ·rw[e9]
       have h8:=Ox.out
       rw[HBV.out]at h8
       simpa using h8
     case measure=>simp[intOf]
  ·have YA:¬m%64=56:=fun e=>hjz (hsp.1 e)
   have hd:((m:Int)%64 !=56)=true:=by simp;omega
   clear hsp
   go_wp2_with (at_builtin;refine dw rfl _ _ 23 rfl w.heap.size 5 i8 _ 1 1 Tryz.underlying23 HI.out.1 HI.out.2.1 HI.out.2.2.1 HI.out.2.2.2 rfl (by omega) (.slice a' m c') m ((rest++[128]++List.replicate j 0).map bv) rfl (dh HO.out fun b hb hbw=>(wall wr _).block b hbw) (some ⟨wr.heap.size,0,none⟩) 1 1 [bv 0] rfl (gH (w:=wr) [bv 0] 5 (by simp[maxLen])) (by simp[Value.oneCell',bv]) (by unfold maxLen;omega) (by omega) (by have:=HB.out.size;simp;omega) ?_;intro A4 c4 w4 kQ hb4;have Ox:=Lib.hid kQ;have kG:=Lib.hid ((HB.out.trans ((wall wr _).mono HB.out.size)).trans hb4);clear kQ hb4)
   go_roundw
   case rel=>
    have e9:r+1+(j+1)=m+1:=by have:=HM.out;omega
    refine⟨j+1,A4,c4,by rw[e9],by omega,?_,kG.out⟩
    rw[e9,List.replicate_succ']
    simpa using Ox.out
   case measure=>show 200-(m+1)<200-m;have:=HM.out;omega
theorem zq {w:World} {B B':Nat} {e:TypeId} {k:Nat} {v:Value} {n:Nat} {xs:List Value} (h:w.ownsRow B e k v n xs) (hB:B'≤B):w.ownsRow B' e k v n xs:=by
 obtain⟨h1,h2⟩:=h
 refine⟨h1,?_⟩
 rcases h2 with h2|⟨g,cap,cur,e1,e2,e3⟩
 ·exact .inl h2
 ·exact .inr ⟨g,cap,cur,e1,Nat.le_trans hB e2,e3⟩
set_option maxRecDepth 100000 in
set_option maxHeartbeats 4000000 in
theorem Vt {S:Nat→Prop} (nb:Nat) (a:Option Addr) (n c:Nat) (bs:List UInt8) (w:World) (hc:w.cell? ⟨nb,0,none⟩=some (.slice a n c)) (hnb:nb<w.heap.size) (hr:ah S w a n (bs.map bv)) (hn:n≤100000000) (hnc:n≤c):
  Calls Tryz.prog 140 #[.slice (some ⟨nb,0,none⟩) 1 1] w (ou w (jR bs)):=by
 have hr1:ah (fun b=>b<w.heap.size) w a n (bs.map bv):=hr.move (Nat.le_refl _) fun b hb hbw=>⟨hbw,rfl⟩
 have hbl:bs.length=n:=by simpa using hr.length
 have HR:=Lib.hid hr1
 have BJ:=Lib.hid hbl
 clear hr hr1 hbl
 go_enter Tryz.func140,Tryz.ntmps140
 go_wp2_with fail
 (with_reducible refine(G_ _).mono ?_)
 rintro e w1 ⟨x,rfl,hxw,hx,hb1⟩
 have HX:=Lib.hid hx
 have HB1:=Lib.hid hb1
 clear hx hb1
 go_wp2_with fail
 go_loopw [5,9] (fun _ iv wx=>(iv= .int .i64 0∧wx.heap[x]? =some (.cells (dP rz (.slice none 0 0) 0) 249 (0,0))∧Below w.heap.size w wx)∨(iv= .int .i64 1∧∃v,wx.heap[x]? =some (.cells (dP (runM rz (n/64) bs) v n) 249 (0,0))∧wx.ownsRow 0 5 1 v (n%64) ((bs.drop (64*(n/64))).map bv)∧Below w.heap.size w wx)) (fun _ iv _=>1-(intOf iv).toNat)
 case atStart=>exact .inl ⟨rfl,HX.out,HB1.out⟩
 case round=>
  rcases hrel with⟨rfl,hx,hb⟩|⟨rfl,v,hx,hv,hb⟩
  ·have hcr:=(hb.cell (p:=⟨nb,0,none⟩) hnb).trans hc
   have HWR:=Lib.hid (KL x a n c bs wr hx (HR.out.below hb (Nat.le_refl _)) (fun b hb'=>by omega) hn hnc)
   have HB:=Lib.hid hb
   clear hx hb
   go_wp2_with fail
   (with_reducible refine HWR.out.mono ?_)
   rintro e w2 ⟨rfl,v,hx2,hv2,hK2⟩
   have QE:=Lib.hid hx2
   have HV2:=Lib.hid hv2
   have BI:=Lib.hid hK2
   clear hx2 hv2 hK2
   go_wp2_with fail
   go_roundw
   case rel=>exact .inr ⟨rfl,v,QE.out,zq HV2.out (Nat.zero_le _),HB.out.trans (BI.out.fD HB.out.size fun b hb (he:b=x)=>by omega)⟩
   case measure=>decide
  ·have HS:=Lib.hid (Ov x (runM rz (n/64) bs) v n (n%64) (bs.drop (64*(n/64))) wr (lT _ _ _ rfl) hx hv (Nat.mod_lt _ (by omega)) hn)
   have HB:=Lib.hid hb
   clear hx hv hb
   go_wp2_with fail
   (with_reducible refine HS.out.mono ?_)
   rintro e w2 ⟨a2,n2,c2,rfl,hn2,hr2,hb2⟩
   have HR2:=Lib.hid hr2
   have HB2:=Lib.hid hb2
   clear hr2 hb2
   go_wp2_with fail
   go_ret
   have hs:=HB.out.size
   refine⟨a2,n2,c2,rfl,hn2,?_,HB.out.trans (HB2.out.mono hs)⟩
   have h9:=HR2.out.mono (S':=fun b=>w.heap.size≤b∧b<w2.heap.size) fun b hb=>⟨by omega,hb.2⟩
   unfold jR
   rw[BJ.out,Nat.mul_comm (n/64) 64]
   exact h9
theorem RJ {S:Nat→Prop} (a:Option Addr) (n c:Nat) (bs:List UInt8) (w:World) (hr:ah S w a n (bs.map bv)) (hn:n≤100000000) (hnc:n≤c):
  Calls Tryz.prog 88 #[.slice a n c] w (ou w (jR bs)):=by
 have HO:=Lib.hid (Vt (w:=w.alloc (.cells #[.slice a n c] 23)) w.heap.size a n c bs jN (by simp) (hr.below (wall w _) (Nat.le_refl _)) hn hnc)
 clear hr
 go_enter Tryz.func88,Tryz.ntmps88
 go_wp2_with fail
 (with_reducible refine HO.out.mono ?_)
 rintro e w2 ⟨a2,n2,c2,rfl,hn2,hr2,hb2⟩
 have HR2:=Lib.hid hr2
 have HB2:=Lib.hid hb2
 clear hr2 hb2
 go_wp2_with fail
 go_ret
 exact⟨a2,n2,c2,rfl,hn2,HR2.out.mono fun b hb=>⟨by have:=hb.1;simp at this;omega,hb.2⟩,(wall w _).trans (HB2.out.mono (by simp))⟩
end Go.Proofs.YtjnhnlabpccgjaaGreat
