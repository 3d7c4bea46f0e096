/- package -/
import Derived.Test.YtjnhnlabpccgjaaGreatDoorM23
import Derived.Test.YtjnhnlabpccgjaaGreatDoorM14
import Derived.Test.YtjnhnlabpccgjaaGreatDoorM18
import Derived.Deep.WholeRow
set_option maxRecDepth 100000
set_option maxHeartbeats 64000000
set_option linter.all false
namespace Go.Proofs.YtjnhnlabpccgjaaGreatDoor
open Go.ChangeShapes Go.WideShapes Go.ChangeAt Go.RowKit
def RetO(w:World)(bs:List UInt8)(e:Ending)(w':World):Prop:=
 ∃v,e= .returned v∧w'.ownsRow w.heap.size 5 1 v bs.length (bs.map bv)∧Below w.heap.size w w'
theorem LY{S:Nat→Prop}(a:Option Addr)(n cap:Nat)(bs:List UInt8)(w:World)(hm:n≤1000000000)(hr:ah S w a n (bs.map bv)):
  Calls Tryz.prog 126 #[.slice a n cap] w (RetO w bs):=by
 obtain⟨i0,hi,hz0,hz1,hz2⟩:=aap Tryz.Ny;have hll:bs.length=n:=by have:=hr.length;simpa using this
 have heq:=fun w=>Lib.run_eql_slice_nil (P:=Tryz.prog) w 28 5 a n cap 0 0 Tryz.underlying28;have HR:=acA hr;have HL:=acA hll;clear hr hll;cases a with
 |none=>
  have h0:n=0:=by
   rcases abh n with h0|h0
   ·exact h0
   ·obtain⟨_,_,e,_⟩:=HR.o.at_ h0;cases e
  subst h0;have hb0:bs=[]:=aai HL.o;subst hb0;go_enter Tryz.func126,Tryz.ntmps126;go_wp2;go_ret;exact⟨_,rfl,⟨rfl,.inl ⟨rfl,rfl⟩⟩,Below.refl _ _⟩
 |some ad=>
  have HS:=acA (HR.o.below (wall w (.cells #[] 5)) acC);go_enter Tryz.func126,Tryz.ntmps126;go_wp2_with (at_builtin;refine dQ rfl _ _ 28 rfl w.heap.size 5 i0 (.int .u8 0) 1 1 Tryz.underlying28 hi hz0 hz1 hz2 rfl (by omega) _ 0 [] rfl (oQ (MapKept.heap_alloc w _).1 acC) (some ad) n cap (bs.map bv) rfl (by rw[Nat.mul_one];exact HS.o) (eZ bs) (by unfold maxLen;omega) (by omega) (by simp) ?_;intro A1 c1 w1 hown1 hb1;rw[Nat.zero_add,List.nil_append]at hown1;have uO:=acA hown1;have HB1:=acA ((wall w _).trans hb1);clear hown1 hb1;rw[Nat.zero_add]);go_ret;refine⟨_,rfl,?_,HB1.o⟩;rw[HL.o];exact uO.o
def fD(h:List Int)(rest:Value)(n:Int):Array Value:=(h.map eP++(kM.map eP++[rest,.int .i64 n])).toArray
theorem qj{P:Program}{fn:Func}{a:Nat}{t:TypeId}{tmps:Array Value}{ad:Addr}{v:Value}{w:World}(h:fn.results= #[.cell a t])(ha:tmps.getD a undef= .pointer (some ad))(hl:(loadVar t ad).run P w= .ok v w):(results fn tmps).run P w= .ok v w:=by
 have ha2:tmps[a]?.getD undef= .pointer (some ad):=by simpa using ha
 simp[results,h,asAddr,ha2,hl]
theorem og{P:Program}{ops:Array Oper}{rest:List Oper}{o:Oper}{a:Act}{w w':World}{Q:Exit→Act→World→Prop}(hgd:o.guard=none)(t:TypeId)(p v:Operand)(hop:o.op=Op.store t p v)(hrun:(Instr.storeAt t (a.eval p) (a.eval v)).run P w= .ok () w')(h:wpList P ops Q rest (a.put o.dst undef) w'):wpList P ops Q (o::rest) a w:=by
 refine abR hgd fun K hK=> ?_;unfold Oper.wp;simp[execOp,hop,hrun,Result.andThen];exact hK _ _ h
theorem Pw(w:World):Calls Tryz.prog 234 #[] w fun e w'=>e= .returned (.agg (vL.map eP).toArray)∧Below w.heap.size w w':=by
 go_enter Tryz.func234,Tryz.ntmps234;go_wp2;refine aa3 (v:= .agg (vL.map eP).toArray) (qj rfl rfl ?_) rfl ⟨rfl,wall w _⟩;exact run_loadVar_new w 267 (vL.map eP).toArray 8 216 Tryz.underlying267 (by kernel_rfl)
abbrev xX:Array Value:=(kM.map eP).toArray
abbrev z64:Array Value:=(List.replicate 64 (Value.int .u32 0)).toArray
theorem Dm(w:World):(Instr.storeAt 218 (.pointer (some ⟨w.heap.size,0,none⟩)) (.agg xX)).run Tryz.prog (w.alloc (.cells z64 218))= .ok () (w.alloc (.cells xX 218)):=run_storeAt_new (P:=Tryz.prog) w 218 z64 xX (by kernel_rfl) (by kernel_rfl) (by kernel_rfl)
theorem LZ(w:World):Calls Tryz.prog 235 #[] w fun e w'=>e= .returned (.agg (kM.map eP).toArray)∧Below w.heap.size w w':=by
 have HST:=acA (Dm w);go_enter Tryz.func235,Tryz.ntmps235;go_wp2_with (refine og rfl 218 _ _ rfl HST.o ?_);refine aa3 (v:= .agg (kM.map eP).toArray) (qj rfl rfl ?_) rfl ⟨rfl,wall w _⟩;exact run_loadVar_new w 218 (kM.map eP).toArray 64 216 Tryz.underlying218 (by kernel_rfl)
theorem sS{P:Program}{ops:Array Oper}{rest:List Oper}{o:Oper}{a:Act}{w:World}{Q:Exit→Act→World→Prop}{v:Value}(hgd:o.guard=none)(t:TypeId)(parts:Array (Nat×Operand))(hop:o.op=Op.build t parts)(hrun:(Instr.build t (parts.map fun(i,x)=>(i,a.eval x))).run P w= .ok v w)(h:wpList P ops Q rest (a.put o.dst v) w):wpList P ops Q (o::rest) a w:=by
 refine abR hgd fun K hK=> ?_;unfold Oper.wp;simp only[execOp,hop,hrun,abA,abD,Result.andThen];exact hK _ _ h
theorem L8(w:World):Calls Tryz.prog 213 #[] w fun e w'=>∃x,e= .returned (ptr x)∧w.heap.size≤x∧w'.heap[x]? =some (.cells (fD vL (.slice none 0 0) 0) 271 (0,0))∧Below w.heap.size w w':=by
 have HB:acB (∀w:World,(Instr.build 271 #[(0,.agg (vL.map eP).toArray),(1,.agg (kM.map eP).toArray)]).run Tryz.prog w= .ok (.agg (fD vL (.slice none 0 0) 0)) w):=by
  intro w;kernel_rfl
 go_enter Tryz.func213,Tryz.ntmps213;go_wp2_with fail;refine(Pw _).mono ?_;rintro e w1 ⟨rfl,hb1⟩;go_wp2_with fail;refine(LZ _).mono ?_;rintro e w2 ⟨rfl,hb2⟩;go_wp2_with (refine sS rfl 271 _ rfl (HB.o _) ?_);go_ret;have hb:=hb1.trans (hb2.mono hb1.size);exact⟨w2.heap.size,rfl,hb.size,(MapKept.heap_alloc w2 _).1,hb.trans ((wall w2 _).mono hb.size)⟩
theorem GV{h:List Int}(hl:h.length=8)(r:Value)(n:Int):(fD h r n)[72]? =some r:=by
 obtain⟨a0,a1,a2,a3,a4,a5,a6,a7,rfl⟩:=eight hl;unfold fD;rw[aaq];rfl
theorem st_n{h:List Int}(hl:h.length=8)(r:Value)(n:Int):(fD h r n)[73]? =some (.int .i64 n):=by
 obtain⟨a0,a1,a2,a3,a4,a5,a6,a7,rfl⟩:=eight hl;unfold fD;rw[aaq];rfl
theorem Tq{h:List Int}(hl:h.length=8)(r r':Value)(n:Int):(fD h r n).setIfInBounds 72 r'=fD h r' n:=by
 obtain⟨a0,a1,a2,a3,a4,a5,a6,a7,rfl⟩:=eight hl;unfold fD;rw[aas];rfl
theorem Tt{h:List Int}(hl:h.length=8)(r:Value)(n n':Int):(fD h r n).setIfInBounds 73 (.int .i64 n')=fD h r n':=by
 obtain⟨a0,a1,a2,a3,a4,a5,a6,a7,rfl⟩:=eight hl;unfold fD;rw[aas];rfl
theorem st_k{h:List Int}(hl:h.length=8)(r:Value)(n:Int)(i:Nat)(hi:i<64):(fD h r n)[8+i]? =some (eP (kM.getD i 0)):=by
 have hk:kM.length=64:=rfl;unfold fD;rw[aaq,aaz (by simp[hl]),List.length_map,hl,Nat.add_sub_cancel_left,aaG (by simp[hk];exact hi),List.getElem?_map,aaB,List.getElem?_eq_getElem (by rw[hk];exact hi)];rfl
theorem st_h{h:List Int}(hl:h.length=8)(r:Value)(n:Int)(i:Nat)(hi:i<8):(fD h r n)[i]? =some (eP (h.getD i 0)):=by
 unfold fD;rw[aaq,aaG (by simp[hl];exact hi),List.getElem?_map,aaB,List.getElem?_eq_getElem (by rw[hl];exact hi)];rfl
theorem wN:∀(k:Nat) (h:List Int) (b:List UInt8),runM h (k+1) b=iG (runM h k b) ((b.drop (64*k)).take 64)
 |0,h,b=>rfl
 |k+1,h,b=>by
  have e1:runM h (k+1+1) b=runM (iG h (b.take 64)) (k+1) (b.drop 64):=rfl;have e2:runM h (k+1) b=runM (iG h (b.take 64)) k (b.drop 64):=rfl;rw[e1,e2,wN k,acz];congr 3;omega
theorem Tv{S:Nat→Prop}{w:World}{a:Option Addr}{m:Nat}{vs:List Value}(h:ah S w a m vs):ah S w a (m*1) vs:=by rw[Nat.mul_one];exact h
def Wrote(x:Nat)(w:World)(bs:List UInt8)(n:Nat)(e:Ending)(w':World):Prop:=
 e= .returned (.tuple #[])∧∃v,w'.heap[x]? =some (.cells (fD (runM vL (n/64) bs) v n) 271 (0,0))∧w'.ownsRow w.heap.size 5 1 v (n%64) ((bs.drop (64*(n/64))).map bv)∧Keeps (fun b=>b=x) w w'
theorem Px{S:Nat→Prop}(x:Nat)(a:Option Addr)(n c:Nat)(bs:List UInt8)(w:World)(hx:w.heap[x]? =some (.cells (fD vL (.slice none 0 0) 0) 271 (0,0)))(hr:ah S w a n (bs.map bv))(hS:∀b,S b→b≠x)(hn:n≤100000000)(hnc:n≤c):
  Calls Tryz.prog 214 #[ptr x,.slice a n c] w (Wrote x w bs n):=by
 obtain⟨i8,hi⟩:∃i,Tryz.prog.info? 5=some i∧i.zero=some (.int .u8 0)∧i.size=1∧i.bytes=1:=aap (by kernel_rfl);have HI:=acA hi;have h8:vL.length=8:=rfl;have hxw:=(iA.1 hx).1;have c73:w.cell? ⟨x,73,none⟩=some (.int .i64 0):=by simp only[World.cell?,hx];exact st_n h8 _ _
 have f73:w.frozen? ⟨x,73,none⟩=false:=by simp[World.frozen?,hx]
 have hx1:(w.setCell ⟨x,73,none⟩ (.int .i64 n)).heap[x]? =some (.cells (fD vL (.slice none 0 0) n) 271 (0,0)):=by
  rw[aI hx,Tt h8]
 have hK1:Keeps (fun b=>b=x) w (w.setCell ⟨x,73,none⟩ (.int .i64 n)):=Keeps.f_ w ⟨x,73,none⟩ (.int .i64 n);have q72:(w.setCell ⟨x,73,none⟩ (.int .i64 n)).cell? ⟨x,72,none⟩=some (.slice none 0 0):=by simp only[World.cell?,hx1];exact GV h8 _ _
 have e0:IntKind.i64.wrap (0+(n:Int))=(n:Int):=by rw[Int.zero_add];exact aak _ (by omega)
 have e0':IntKind.i64.wrap (n:Int)=(n:Int):=aak _ (by omega);have HR1:acB (ah S (w.setCell ⟨x,73,none⟩ (.int .i64 n)) a n (bs.map bv)):=hr.move (by rw[size_set];exact Nat.le_refl _) fun b hb hbw=>⟨hb,aV _ _ _ _ (hS b hb)⟩;have NR:=acA hx1;have yF:=acA hK1;have HS:=acA hS;have hbl:bs.length=n:=by simpa using hr.length
 have KY:=acA hbl;clear hi hx hx1 hr hS hK1 hbl h8;go_enter Tryz.func214,Tryz.ntmps214;go_wp2_with fail;have hz1:(w.setCell ⟨x,73,none⟩ (.int .i64 n)).heap.size=w.heap.size:=size_set _ _ _;generalize w.setCell ⟨x,73,none⟩ (.int .i64 n)=w1 at*;have HZ1:=acA hz1;clear hz1
 go_loopw [1] (fun v wx=>∃(k:Nat) (a':Option Addr) (c':Nat),v= .slice a' (n-64*k) c'∧64*k≤n∧n-64*k≤c'∧ah S wx a' (n-64*k) ((bs.drop (64*k)).map bv)∧wx.heap[x]? =some (.cells (fD (runM vL k bs) (.slice none 0 0) n) 271 (0,0))∧Keeps (fun b=>b=x) w wx) (fun v _=>match v with| .slice _ m _=>m|_=>0)
 case atStart=>exact⟨0,a,c,rfl,by omega,by omega,HR1.o,NR.o,yF.o⟩
 case round=>
  obtain⟨k,a',c',rfl,hk,hc',EK,hxk,Tw⟩:=hrel;have h8:(runM vL k bs).length=8:=oU k _ _ rfl;obtain⟨m,hm⟩:∃m,m=n-64*k:=⟨_,rfl⟩;rw[←hm]at EK hc'⊢;have hxw2:x<wr.heap.size:=(iA.1 hxk).1;have Ba:=acA hxk;have HKK:=acA Tw;have K3:=acA EK;have HM:=acA hm;have HK0:=acA hk;have hmn:m≤n:=by omega
  by_cases h64:64≤m
  ·have hd:decide ((64:Int)≤(m:Int))=true:=by simp;omega
   have hxd:wr.drew.heap[x]? =some (.cells ((runM vL k bs).map eP++(kM.map eP++[Value.slice none 0 0,Value.int .i64 n])).toArray 271 (0,0)):=by
    have h9:=hxk;unfold fD at h9;exact h9
   have hkc:∀i,i<64→wr.drew.cell? ⟨x,8+i,none⟩=some (eP (kM.getD i 0)):=fun i hi=>by
    have h9:=st_k h8 (.slice none 0 0) n i hi;show wr.cell? ⟨x,8+i,none⟩=_;simp only[World.cell?,hxk];exact h9
   have Tx:ah S wr.drew a' 64 (((bs.drop (64*k)).take 64).map bv):=by
    have:=(EK.take 64).below acD.drew acC
    rwa [abv h64,←aa9]at this
   have HT:=acA (JI x x 8 271 (runM vL k bs) (kM.map eP++[Value.slice none 0 0,Value.int .i64 n]) a' 64 c' ((bs.drop (64*k)).take 64) wr.drew h8 hxd hkc hxw2 Tx acC (by omega));have g1:(64:Int)≤(c':Int):=by omega
   have g2:(64:Int)≤(m:Int):=by omega
   have g3:(m:Int)≤(c':Int):=by omega
   clear hxk Tw EK hm hxd hkc Tx h8;go_wp2_with fail;refine qA 8 ((fun _=>True)) ?_ fun hS=> ?_
   ·trivial
   refine au 0 hS ?_;refine au 1 hS ?_;refine au 2 hS ?_;refine au 3 hS ?_;refine au 4 hS ?_;refine au 5 hS ?_;refine au 6 hS ?_;refine au 7 hS ?_;refine bB 8 fun K hK=> ?_;go_simp;refine HT.o.mono ?_;rintro e w2 ⟨rfl,hx2,hK2⟩;have NZ:=acA hx2;have Je:=acA hK2;clear hx2 hK2;go_wp2_with fail;refine kX hK ?_;clear hS hK K;go_wp2_with fail;go_roundw
   case rel=>
    have e1:n-64*(k+1)=m-64:=by have:=HM.o;omega
    have Xn:Keeps (fun b=>b=x) w w2:=(HKK.o.trans (show Keeps (fun b=>b=x) wr wr.drew from⟨rfl,rfl,rfl,Nat.le_refl _,fun _ _ _=>rfl⟩) fun x _ hx=>hx).trans Je.o fun x _ hx=>hx;have hr2:ah S w2 a' m ((bs.drop (64*k)).map bv):=K3.o.move Je.o.size fun b hb hbw=>⟨hb,Je.o.block b hbw (HS.o b hb)⟩;have e2:(bs.drop (64*(k+1))).map bv=((bs.drop (64*k)).map bv).drop 64:=by
     rw[←abB,acz];congr 2
    refine⟨k+1,_,c'-64,by rw[e1],by have:=HM.o;omega,by rw[e1];omega,?_,?_,Xn⟩
    ·rw[e1,e2];obtain⟨b,off,rfl,-,-,-⟩:=K3.o.at_ (by omega);by_cases hc:c'=64
     ·rw[if_pos hc];refine ah.zero _ _ _ (by omega) (abp ?_);rw[List.length_map,aaM,KY.o];have:=HM.o;omega
     ·rw[if_neg hc];exact hr2.drop 64
    ·rw[wN];exact NZ.o
   case measure=>show m-64<m;omega
  ·have hd:decide ((64:Int)≤(m:Int))=false:=by simp;omega
   have hkn:n/64=k:=by have:=HM.o;have:=HK0.o;omega
   have hm64:n%64=m:=by have:=HM.o;have:=HK0.o;omega
   have q72:wr.cell? ⟨x,72,none⟩=some (.slice none 0 0):=by simp only[World.cell?,hxk];exact GV h8 _ _
   have f72:wr.frozen? ⟨x,72,none⟩=false:=by simp[World.frozen?,hxk]
   have HKN:=acA hkn;have HM64:=acA hm64;have Xm:w.heap.size≤wr.heap.size:=Tw.size;have hml:0+m≤maxLen:=by unfold maxLen;omega
   have hmb:(0+m)*1≤140737488355328:=by omega
   have HML:=acA hml;have HMB:=acA hmb;clear hml hmb;clear hxk Tw EK hm hkn hm64 h8;go_wp2_with (at_builtin;refine xR rfl _ _ 28 rfl w.heap.size 5 i8 _ 1 1 Tryz.underlying28 HI.o.1 HI.o.2.1 HI.o.2.2.1 HI.o.2.2.2 rfl (by omega) (.slice none 0 0) 0 [] rfl ⟨rfl,.inl ⟨rfl,rfl⟩⟩ a' m c' ((bs.drop (64*k)).map bv) rfl (Tv K3.o) (eZ _) HML.o HMB.o Xm ?_;intro A9 c9 w9 nS Tz GX;rw[Nat.zero_add,List.nil_append]at nS;have hx9:w9.heap[x]? =wr.heap[x]? :=Tz.block x hxw2 (by simp[Value.ownBlock]);have TA:=acA nS;have HX9:=acA hx9;have q9:w9.cell? ⟨x,72,none⟩=some (.slice none 0 0):=(Pe (w:=wr) (w':=w9) (a:=⟨x,72,none⟩) hx9).trans q72;have f9:w9.frozen? ⟨x,72,none⟩=false:=(by simp[World.frozen?,hx9,Ba.o]);have HG9:=acA Tz;have HAT9:=acA GX;clear nS hx9 Tz GX;rw[Nat.zero_add])
   go_end0
   refine⟨rfl,.slice A9 m c9,?_,?_,?_⟩
   ·rw[aI (HX9.o.trans Ba.o),HKN.o];rw[Tq (oU k _ _ rfl)]
   ·rw[HM64.o,HKN.o];refine dJ TA.o fun b hb hbw=>aV _ _ _ _ ?_;intro e;have GX:=HAT9.o;rw[Nat.zero_add]at GX;rcases GX with h9|h9
    ·rw[h9]at hb;simp[Value.ownBlock]at hb
    ·rw[h9]at hb;cases hb;have:wr.heap.size=x:=e;omega
   ·exact(HKK.o.trans ((Keeps.grown HG9.o).mono fun y _ hy=>by simp[Value.ownBlock]at hy) fun x _ hx=>hx).trans (Keeps.f_ w9 ⟨x,72,none⟩ _) fun x _ hx=>hx
def mY(n:Nat):Nat:=(119-n%64)%64
def ql(rest:List UInt8)(n:Nat):List UInt8:=rest++[128]++List.replicate (mY rest.length) 0++fT ((n:Int)*8) 8
def BO(h:List Int):List UInt8:=h.flatMap fun z=>fT (z%4294967296) 4
def nM(bs:List UInt8):List UInt8:=
 BO (runM (runM vL (bs.length/64) bs) ((ql (bs.drop (bs.length/64*64)) bs.length).length/64) (ql (bs.drop (bs.length/64*64)) bs.length))
theorem JK(bs:List UInt8):(nM bs).length=32:=by
 unfold nM BO;have h1:=oU ((ql (bs.drop (bs.length/64*64)) bs.length).length/64) (runM vL (bs.length/64) bs) (ql (bs.drop (bs.length/64*64)) bs.length) (oU _ _ _ rfl);generalize runM _ _ _=h at h1
 match h,h1 with
 |[a,b,c,d,e,f,g,i],_=>rfl
theorem Bl(r j:Nat)(hj:j≤mY r):((r+1+j)%64=56↔j=mY r):=by
 unfold mY at*;omega
theorem TB(r0 r1 r2 r3 r4 r5 r6 r7:Int)(w:World):(Instr.index 267 (.agg #[.int .u32 r0,.int .u32 r1,.int .u32 r2,.int .u32 r3,.int .u32 r4,.int .u32 r5,.int .u32 r6,.int .u32 r7]) (.int .i64 0)).run Tryz.prog w= .ok (.int .u32 r0) w:=by
 kernel_rfl
theorem TD(r0 r1 r2 r3 r4 r5 r6 r7:Int)(w:World):(Instr.index 267 (.agg #[.int .u32 r0,.int .u32 r1,.int .u32 r2,.int .u32 r3,.int .u32 r4,.int .u32 r5,.int .u32 r6,.int .u32 r7]) (.int .i64 1)).run Tryz.prog w= .ok (.int .u32 r1) w:=by
 kernel_rfl
theorem TF(r0 r1 r2 r3 r4 r5 r6 r7:Int)(w:World):(Instr.index 267 (.agg #[.int .u32 r0,.int .u32 r1,.int .u32 r2,.int .u32 r3,.int .u32 r4,.int .u32 r5,.int .u32 r6,.int .u32 r7]) (.int .i64 2)).run Tryz.prog w= .ok (.int .u32 r2) w:=by
 kernel_rfl
theorem TG(r0 r1 r2 r3 r4 r5 r6 r7:Int)(w:World):(Instr.index 267 (.agg #[.int .u32 r0,.int .u32 r1,.int .u32 r2,.int .u32 r3,.int .u32 r4,.int .u32 r5,.int .u32 r6,.int .u32 r7]) (.int .i64 3)).run Tryz.prog w= .ok (.int .u32 r3) w:=by
 kernel_rfl
theorem TH(r0 r1 r2 r3 r4 r5 r6 r7:Int)(w:World):(Instr.index 267 (.agg #[.int .u32 r0,.int .u32 r1,.int .u32 r2,.int .u32 r3,.int .u32 r4,.int .u32 r5,.int .u32 r6,.int .u32 r7]) (.int .i64 4)).run Tryz.prog w= .ok (.int .u32 r4) w:=by
 kernel_rfl
theorem TI(r0 r1 r2 r3 r4 r5 r6 r7:Int)(w:World):(Instr.index 267 (.agg #[.int .u32 r0,.int .u32 r1,.int .u32 r2,.int .u32 r3,.int .u32 r4,.int .u32 r5,.int .u32 r6,.int .u32 r7]) (.int .i64 5)).run Tryz.prog w= .ok (.int .u32 r5) w:=by
 kernel_rfl
theorem TJ(r0 r1 r2 r3 r4 r5 r6 r7:Int)(w:World):(Instr.index 267 (.agg #[.int .u32 r0,.int .u32 r1,.int .u32 r2,.int .u32 r3,.int .u32 r4,.int .u32 r5,.int .u32 r6,.int .u32 r7]) (.int .i64 6)).run Tryz.prog w= .ok (.int .u32 r6) w:=by
 kernel_rfl
theorem TK(r0 r1 r2 r3 r4 r5 r6 r7:Int)(w:World):(Instr.index 267 (.agg #[.int .u32 r0,.int .u32 r1,.int .u32 r2,.int .u32 r3,.int .u32 r4,.int .u32 r5,.int .u32 r6,.int .u32 r7]) (.int .i64 7)).run Tryz.prog w= .ok (.int .u32 r7) w:=by
 kernel_rfl
theorem index8(r0 r1 r2 r3 r4 r5 r6 r7:Int)(k:Nat)(hk:k<8)(w:World):(Instr.index 267 (.agg #[.int .u32 r0,.int .u32 r1,.int .u32 r2,.int .u32 r3,.int .u32 r4,.int .u32 r5,.int .u32 r6,.int .u32 r7]) (.int .i64 k)).run Tryz.prog w= .ok (.int .u32 (([r0,r1,r2,r3,r4,r5,r6,r7]:List Int).getD k 0)) w:=by
 match k,hk with
 |0,_=>exact TB r0 r1 r2 r3 r4 r5 r6 r7 w
 |1,_=>exact TD r0 r1 r2 r3 r4 r5 r6 r7 w
 |2,_=>exact TF r0 r1 r2 r3 r4 r5 r6 r7 w
 |3,_=>exact TG r0 r1 r2 r3 r4 r5 r6 r7 w
 |4,_=>exact TH r0 r1 r2 r3 r4 r5 r6 r7 w
 |5,_=>exact TI r0 r1 r2 r3 r4 r5 r6 r7 w
 |6,_=>exact TJ r0 r1 r2 r3 r4 r5 r6 r7 w
 |7,_=>exact TK r0 r1 r2 r3 r4 r5 r6 r7 w
theorem be4(z:Int):[Value.int .u8 (z/16777216%256),.int .u8 (z/65536%256),.int .u8 (z/256%256),.int .u8 (z%256)]=(fT (z%4294967296) 4).map bv:=by
 unfold fT fT fT fT fT;simp[bv];refine⟨?_,?_,?_,?_⟩<;>omega
theorem FI{R:List Int}{k:Nat}(hk:k<R.length):BO (R.take (k+1))=BO (R.take k)++fT (R.getD k 0%4294967296) 4:=by
 unfold BO;rw[aah hk,aaX,aaB,List.getElem?_eq_getElem hk];simp
theorem FJ(r:Nat):mY r<64:=by unfold mY;omega
theorem TL(x:Nat)(h:List Int)(v:Value)(n r:Nat)(rest:List UInt8)(w:World)(hh:h.length=8)(hx:w.heap[x]? =some (.cells (fD h v n) 271 (0,0)))(hv:w.ownsRow 0 5 1 v r (rest.map bv))(hr:r<64)(hn:n≤100000000):
  Calls Tryz.prog 215 #[ptr x] w (tT w (BO (runM h ((ql rest n).length/64) (ql rest n)))):=by
 obtain⟨i8,hi⟩:∃i,Tryz.prog.info? 5=some i∧i.zero=some (.int .u8 0)∧i.size=1∧i.bytes=1:=aap (by kernel_rfl);have HI:=acA hi;obtain⟨a,c,rfl,hac⟩:=dI hv;obtain⟨-,-,hrow⟩:=ah.qd hv (by unfold maxLen;omega);rw[Nat.mul_one]at hrow;have hrl:rest.length=r:=by simpa using hrow.length
 have hxw:=(iA.1 hx).1;have c72:w.cell? ⟨x,72,none⟩=some (.slice a r c):=by simp only[World.cell?,hx];exact GV hh _ _
 have Py:=acA (LY a r c rest w (by omega) hrow);have HX:=acA hx;have Zd:=acA hh;have HRL:=acA hrl;clear hi hx hv hrow hh hrl;go_enter Tryz.func215,Tryz.ntmps215;go_wp2_with fail;refine Py.o.mono ?_;rintro e w1 ⟨v1,rfl,hown1,hb1⟩;obtain⟨a1,c1,rfl,hac1⟩:=dI hown1;rw[HRL.o]at hown1 hac1⊢;have uO:=acA hown1;have HB1:=acA hb1;clear hown1 hb1;go_wp2_with (at_builtin;refine dQ rfl _ _ 28 rfl w.heap.size 5 i8 _ 1 1 Tryz.underlying28 HI.o.1 HI.o.2.1 HI.o.2.2.1 HI.o.2.2.2 rfl (by omega) (.slice a1 r c1) r (rest.map bv) rfl (dJ uO.o fun b hb hbw=>(wall w1 _).block b hbw) (some ⟨w1.heap.size,0,none⟩) 1 1 [bv 128] rfl (jY (w:=w1) [bv 128] 5 (by simp[maxLen])) (by simp[Value.oneCell',bv]) (by unfold maxLen;omega) (by omega) (by have:=HB1.o.size;simp;omega) ?_;intro A2 c2 w2 hown2 hb2;have EI:=acA hown2;have HB2:=acA ((HB1.o.trans ((wall w1 _).mono HB1.o.size)).trans hb2);clear hown2 hb2)
 go_loopw [3] (fun v wx=>∃(j:Nat) (a':Option Addr) (c':Nat),v= .slice a' (r+1+j) c'∧j≤mY r∧wx.ownsRow w.heap.size 5 1 v (r+1+j) ((rest++[128]++List.replicate j 0).map bv)∧Below w.heap.size w wx) (fun v _=>200-(match v with| .slice _ m _=>m|_=>0))
 case atStart=>exact⟨0,A2,c2,rfl,Nat.zero_le _,by simpa using EI.o,HB2.o⟩
 case round=>
  obtain⟨j,a',c',rfl,hj,hown,hb⟩:=hrel;have HO:=acA hown;have HB:=acA hb;have hz:=FJ r;have hsp:=Bl r j hj;obtain⟨m,hm⟩:∃m,m=r+1+j:=⟨_,rfl⟩;rw[←hm]at HO hsp⊢;have HM:=acA hm;have hm200:m≤200:=by omega
  clear hown hb hm;by_cases hjz:j=mY r
  ·have h56:m%64=56:=hsp.2 hjz;have hd:((m:Int)%64 !=56)=false:=by simp;omega
   have Y_:wr.heap[x]? =some (.cells (fD h (.slice a r c) n) 271 (0,0)):=(HB.o.block x hxw).trans HX.o;have c73:wr.cell? ⟨x,73,none⟩=some (.int .i64 n):=by simp only[World.cell?,Y_];exact st_n Zd.o _ _
   have e1:IntKind.u64.wrap (n:Int)=(n:Int):=by simp[IntKind.wrap,IntKind.bits,IntKind.signed];omega
   have e2:IntKind.u64.wrap ((n:Int)*8)=(n:Int)*8:=by simp[IntKind.wrap,IntKind.bits,IntKind.signed];omega
   obtain⟨P,hP⟩:∃P,P=rest++[128]++List.replicate j 0:=⟨_,rfl⟩;rw[←hP]at HO;have HPE:acB (P=rest++[128]++List.replicate (mY rest.length) 0):=by
    show P=_;rw[hP,hjz,HRL.o]
   have Wi:acB ((m+8)%64=0):=by show(m+8)%64=0;omega
   clear hsp h56 hjz Y_ hP;go_wp2_with fail;obtain⟨N,hN⟩:∃N:Int,N=(n:Int)*8:=⟨_,rfl⟩;rw[←hN];have hN0:0≤N:=by omega
   have HN:=acA hN;clear hN e2
   go_loopw [3,5] (fun v kv wx=>∃(k:Nat) (dn:List UInt8) (a':Option Addr) (c':Nat),v= .slice a' (m+dn.length) c'∧kv= .int .i64 ((k:Int)-1)∧k≤8∧dn++fT N k=fT N 8∧dn.length+k=8∧wx.ownsRow w.heap.size 5 1 v (m+dn.length) ((P++dn).map bv)∧Below w.heap.size w wx) (fun _ kv _=>((intOf kv)+1).toNat)
   case atStart=>exact⟨8,[],a',c',rfl,by go_num,by omega,rfl,rfl,by simpa using HO.o,HB.o⟩
   case round=>
    obtain⟨k,dn,a3,c3,rfl,rfl,hk,hdn,hdl,hown,hb⟩:=hrel;have GY:=acA hown;have HB3:=acA hb;have Cc:=acA hdn;obtain⟨m3,Fx⟩:∃m3,m3=m+dn.length:=⟨_,rfl⟩;rw[←Fx]at GY⊢;have HM3:=acA Fx;have hm3b:m3≤208:=by omega
    clear hown hb hdn Fx;cases k with
    |zero=>
     have e0:((0:Nat):Int)-1= -1:=by omega
     rw[e0];have TM:dn=fT N 8:=by
      have h9:=Cc.o;unfold fT at h9;rw[aaE]at h9;rw[h9];rfl
     obtain⟨E,hE⟩:∃E,E=P++dn:=⟨_,rfl⟩;rw[←hE]at GY;have hEl:E.length=m3:=by have:=GY.o.1;simp at this;omega
     have HEE:acB (E=ql rest n):=by
      show E=ql rest n;rw[hE,TM,HPE.o,HN.o];rfl
     have hm64:m3%64=0:=by have:=HM3.o;have:=Wi.o;omega
     have Y_:wr.heap[x]? =some (.cells (fD h (.slice a r c) n) 271 (0,0)):=(HB3.o.block x hxw).trans HX.o;have hxw3:x<wr.heap.size:=(iA.1 Y_).1;obtain⟨h0,h1,h2,h3,h4,h5,h6,h7,Wj⟩:=eight Zd.o;have hc:∀i,i<8→wr.cell? ⟨x,i,none⟩=some (eP (h.getD i 0)):=fun i hi=>by
      have h9:=st_h Zd.o (.slice a r c) n i hi;simp only[World.cell?,Y_];exact h9
     have c0:wr.cell? ⟨x,0,none⟩=some (.int .u32 h0):=by have:=hc 0 (by omega);rw[Wj]at this;exact this
     have c1:wr.cell? ⟨x,1,none⟩=some (.int .u32 h1):=by have:=hc 1 (by omega);rw[Wj]at this;exact this
     have c2:wr.cell? ⟨x,2,none⟩=some (.int .u32 h2):=by have:=hc 2 (by omega);rw[Wj]at this;exact this
     have c3':wr.cell? ⟨x,3,none⟩=some (.int .u32 h3):=by have:=hc 3 (by omega);rw[Wj]at this;exact this
     have c4:wr.cell? ⟨x,4,none⟩=some (.int .u32 h4):=by have:=hc 4 (by omega);rw[Wj]at this;exact this
     have c5:wr.cell? ⟨x,5,none⟩=some (.int .u32 h5):=by have:=hc 5 (by omega);rw[Wj]at this;exact this
     have c6:wr.cell? ⟨x,6,none⟩=some (.int .u32 h6):=by have:=hc 6 (by omega);rw[Wj]at this;exact this
     have c7:wr.cell? ⟨x,7,none⟩=some (.int .u32 h7):=by have:=hc 7 (by omega);rw[Wj]at this;exact this
     have Ry:=acA Wj;have HXR:=acA Y_;have HE:=acA hE;clear hc Wj Y_ hE TM hdl hk;go_wp2_with fail;have hal:=(MapKept.heap_alloc wr (.cells #[.int .u32 h0,.int .u32 h1,.int .u32 h2,.int .u32 h3,.int .u32 h4,.int .u32 h5,.int .u32 h6,.int .u32 h7] 267)).1;have hwl:=wall wr (.cells #[.int .u32 h0,.int .u32 h1,.int .u32 h2,.int .u32 h3,.int .u32 h4,.int .u32 h5,.int .u32 h6,.int .u32 h7] 267);obtain⟨hb5,Xo⟩:∃z,z=wr.heap.size:=⟨_,rfl⟩;rw[←Xo]at hal⊢;have hB5:Below w.heap.size w (wr.alloc (.cells #[.int .u32 h0,.int .u32 h1,.int .u32 h2,.int .u32 h3,.int .u32 h4,.int .u32 h5,.int .u32 h6,.int .u32 h7] 267)):=HB3.o.trans (hwl.mono HB3.o.size);have hO5:=dJ GY.o fun b hb hbw=>hwl.block b hbw;have hb5w:w.heap.size≤hb5:=by rw[Xo];exact HB3.o.size
     have hob:∀b,(Value.slice a3 m3 c3).ownBlock=some b→b<hb5:=fun b hb=>by rw[Xo];exact kR GY.o b hb
     generalize wr.alloc (.cells #[.int .u32 h0,.int .u32 h1,.int .u32 h2,.int .u32 h3,.int .u32 h4,.int .u32 h5,.int .u32 h6,.int .u32 h7] 267)=w5 at*;have hal2:w5.heap[hb5]? =some (.cells ((h.map eP++[]).toArray) 267 (0,0)):=by
      rw[Ry.o,aaE];exact hal
     have Lu:acB (∀i,i<64→w5.cell? ⟨x,8+i,none⟩=some (eP (kM.getD i 0))):=fun i hi=>by
      have h9:=st_k Zd.o (.slice a r c) n i hi;rw[hwl.cell (p:=⟨x,8+i,none⟩) hxw3];simp only[World.cell?,HXR.o];exact h9
     have hxw5:x<w5.heap.size:=Pd hxw3 hwl.size;have hxb5:x≠hb5:=by omega
     have Ze:ah (fun b=>b≠hb5) w5 a3 m3 (E.map bv):=by
      obtain⟨-,-,h9⟩:=ah.qd GY.o (by unfold maxLen;omega);rw[Nat.mul_one]at h9;exact(h9.below hwl acC).mono fun b hb=>by omega
     have hac3:m3≤c3:=by
      obtain⟨_,_,e,h9⟩:=dI GY.o;cases e;exact h9
     have HROW5:=acA Ze;have HAL2:=acA hal2;have fH:=acA hB5;have JL:=acA hO5;have Y8:=acA hob;have HEL:=acA hEl;clear Ze hal hal2 hB5 hO5 hob hEl hwl Xo c0 c1 c2 c3' c4 c5 c6 c7
     go_loopw [3] (fun v wx=>∃(k:Nat) (a':Option Addr) (c':Nat),v= .slice a' (m3-64*k) c'∧64*k≤m3∧m3-64*k≤c'∧ah (fun b=>b≠hb5) wx a' (m3-64*k) ((E.drop (64*k)).map bv)∧wx.heap[hb5]? =some (.cells (((runM h k E).map eP++[]).toArray) 267 (0,0))∧Keeps (fun b=>b=hb5) w5 wx) (fun v _=>match v with| .slice _ m _=>m|_=>0)
     case atStart=>exact⟨0,a3,c3,rfl,by omega,by omega,HROW5.o,HAL2.o,Keeps.refl _ _⟩
     case round=>
      obtain⟨k,a',c',rfl,hk,hc',EK,hxk,Tw⟩:=hrel;have h8:(runM h k E).length=8:=oU k _ _ Zd.o;obtain⟨q,hq⟩:∃q,q=m3-64*k:=⟨_,rfl⟩;rw[←hq]at EK hc'⊢;have Ba:=acA hxk;have HKK:=acA Tw;have K3:=acA EK;have HQ:=acA hq;have hxwr:x<wr.heap.size:=Pd hxw5 Tw.size;by_cases h0q:0<q
      ·have h64:64≤q:=by omega
       have hd:decide ((0:Int)<(q:Int))=true:=by simp;omega
       have hkc:∀i,i<64→wr.drew.cell? ⟨x,8+i,none⟩=some (eP (kM.getD i 0)):=fun i hi=>by
        have h9:=Lu.o i hi;rw[←h9];exact Pe (w:=w5) (w':=wr.drew) (a:=⟨x,8+i,none⟩) (Tw.block x hxw5 hxb5)
       have Tx:ah (fun b=>b≠hb5) wr.drew a' 64 (((E.drop (64*k)).take 64).map bv):=by
        have:=(EK.take 64).below acD.drew acC
        rwa [abv h64,←aa9]at this
       have HT:=acA (JI hb5 x 8 267 (runM h k E) [] a' 64 c' ((E.drop (64*k)).take 64) wr.drew h8 hxk hkc hxwr Tx acC (by omega));have g1:(64:Int)≤(c':Int):=by omega
       have g2:(64:Int)≤(q:Int):=by omega
       have g3:(q:Int)≤(c':Int):=by omega
       clear hxk Tw EK hq hkc Tx h8;go_wp2_with fail;refine qA 5 ((fun _=>True)) ?_ fun hS=> ?_
       ·trivial
       refine au 0 hS ?_;refine au 1 hS ?_;refine au 2 hS ?_;refine au 3 hS ?_;refine au 4 hS ?_;refine bB 5 fun K hK=> ?_;go_simp;refine HT.o.mono ?_;rintro e w6 ⟨rfl,hx6,FK⟩;have HX6:=acA hx6;have Ch:=acA FK;clear hx6 FK;go_wp2_with fail;refine kX hK ?_;clear hS hK K;go_wp2_with fail;go_roundw
       case rel=>
        have e1:m3-64*(k+1)=q-64:=by have:=HQ.o;omega
        have Xn:Keeps (fun b=>b=hb5) w5 w6:=(HKK.o.trans (show Keeps (fun b=>b=hb5) wr wr.drew from⟨rfl,rfl,rfl,Nat.le_refl _,fun _ _ _=>rfl⟩) fun x _ hx=>hx).trans Ch.o fun x _ hx=>hx;have hr2:ah (fun b=>b≠hb5) w6 a' q ((E.drop (64*k)).map bv):=K3.o.move Ch.o.size fun b hb hbw=>⟨hb,Ch.o.block b hbw hb⟩;have e2:(E.drop (64*(k+1))).map bv=((E.drop (64*k)).map bv).drop 64:=by
         rw[←abB,acz];congr 2
        refine⟨k+1,_,c'-64,by rw[e1],by have:=HQ.o;omega,by rw[e1];omega,?_,?_,Xn⟩
        ·rw[e1,e2];obtain⟨b,off,rfl,-,-,-⟩:=K3.o.at_ (by omega);by_cases hc:c'=64
         ·rw[if_pos hc];refine ah.zero _ _ _ (by omega) (abp ?_);rw[List.length_map,aaM,HEL.o];have:=HQ.o;omega
         ·rw[if_neg hc];exact hr2.drop 64
        ·rw[wN];exact HX6.o
       case measure=>show q-64<q;omega
      ·have hd:decide ((0:Int)<(q:Int))=false:=by simp;omega
       have Tn:m3/64=k:=by have:=HQ.o;omega
       have h9:=Ba.o;rw[aaE]at h9;obtain⟨R,hR⟩:∃R,R=runM h k E:=⟨_,rfl⟩;rw[←hR]at h9 h8;have sU:acB (R=runM h ((ql rest n).length/64) (ql rest n)):=by
        show R=_;rw[hR,←HEE.o,HEL.o,Tn]
       have fQ:=acA h9;have hBr:Below w.heap.size w wr:=fH.o.trans (Tw.mh fH.o.size fun b hb (he:b=hb5)=>by omega);have JD:=acA hBr;obtain⟨r0,r1,r2,r3,r4,r5,r6,r7,hre⟩:=eight h8;have hbw5:hb5<wr.heap.size:=(iA.1 hxk).1;have HCW:acB (∀w':World,w'.heap[hb5]? =wr.heap[hb5]? →w'.cell? ⟨hb5,0,none⟩=some (.int .u32 r0)∧w'.cell? ⟨hb5,1,none⟩=some (.int .u32 r1)∧w'.cell? ⟨hb5,2,none⟩=some (.int .u32 r2)∧w'.cell? ⟨hb5,3,none⟩=some (.int .u32 r3)∧w'.cell? ⟨hb5,4,none⟩=some (.int .u32 r4)∧w'.cell? ⟨hb5,5,none⟩=some (.int .u32 r5)∧w'.cell? ⟨hb5,6,none⟩=some (.int .u32 r6)∧w'.cell? ⟨hb5,7,none⟩=some (.int .u32 r7)):=fun w' hw=>by
        rw[fQ.o,hre]at hw;refine⟨?_,?_,?_,?_,?_,?_,?_,?_⟩<;>simp[World.cell?,hw]
       have HREL:=acA hre;clear hxk Tw EK hq h9 hR Tn hBr hre h8;go_wp2_with (at_make;refine wpList_make_own _ rfl _ _ 28 rfl w.heap.size 5 i8 (.int .u8 0) 1 Tryz.underlying28 HI.o.1 HI.o.2.1 HI.o.2.2.1 .i64 .i64 32 32 rfl rfl rfl (by rw[HI.o.2.2.2];omega) (by unfold maxLen;omega) JD.o.size ?_;intro w7 qO L9;have Rz:=acA qO;have hbb7:=L9.block hb5 hbw5 (fun e=>by cases e);obtain⟨z0,z1,z2,z3,z4,z5,z6,z7⟩:=HCW.o w7 hbb7;have wZ:=acA (JD.o.grown L9 JD.o.size (fun k hk=>by cases hk));clear qO L9 hbb7)
       go_loopw [7,9,59] (fun v _ iv wx=>∃(k:Nat) (a':Option Addr) (c':Nat),v= .slice a' (4*k) c'∧iv= .int .i64 k∧k≤8∧wx.ownsRow w.heap.size 5 1 v (4*k) ((BO (R.take k)).map bv)∧Below w.heap.size w wx) (fun _ _ iv _=>8-(intOf iv).toNat)
       case atStart=>exact⟨0,_,32,rfl,rfl,by omega,Rz.o,wZ.o⟩
       case round=>
        obtain⟨k,a',c',rfl,rfl,hk,hown,hb⟩:=hrel;have zL:=acA hown;have rD:=acA hb;clear hown hb;by_cases hlt:k<8
        ·have hd:decide ((k:Int)<8)=true:=by simp;omega
         have hix:=index8 r0 r1 r2 r3 r4 r5 r6 r7 k hlt;rw[←HREL.o]at hix;obtain⟨z,hz⟩:∃z,z=R.getD k 0:=⟨_,rfl⟩;rw[←hz]at hix;have HZ:=acA hz;clear hz;go_wp2_with (at_builtin;refine dQ rfl _ _ 28 rfl w.heap.size 5 i8 _ 1 1 Tryz.underlying28 HI.o.1 HI.o.2.1 HI.o.2.2.1 HI.o.2.2.2 rfl (by omega) (.slice a' (4*k) c') (4*k) ((BO (R.take k)).map bv) rfl (dJ zL.o fun b hb hbw=>(wall wr _).block b hbw) (some ⟨wr.heap.size,0,none⟩) 4 4 [.int .u8 (z/16777216%256),.int .u8 (z/65536%256),.int .u8 (z/256%256),.int .u8 (z%256)] rfl (jY (w:=wr) [.int .u8 (z/16777216%256),.int .u8 (z/65536%256),.int .u8 (z/256%256),.int .u8 (z%256)] 5 (by simp[maxLen])) (by simp[Value.oneCell']) (by unfold maxLen;omega) (by omega) (by have:=rD.o.size;simp;omega) ?_;intro A9 c9 w9 nS cO;have TA:=acA nS;have uL:=acA ((rD.o.trans ((wall wr _).mono rD.o.size)).trans cO);clear nS cO);go_roundw
         case rel=>
          have e9:4*(k+1)=4*k+4:=by omega
          refine⟨k+1,A9,c9,by rw[e9],by go_num,by omega,?_,uL.o⟩;rw[e9,FI (by rw[HREL.o];exact hlt),List.map_append,←HZ.o,←be4];exact TA.o
         case measure=>simp[intOf];omega
        ·have hd:decide ((k:Int)<8)=false:=by simp;omega
         have Pv:k=8:=by omega
         go_wp2_with fail;go_ret;have h9:=zL.o;rw[Pv,List.take_of_length_le (by rw[HREL.o];exact Nat.le_refl 8),sU.o]at h9;obtain⟨-,Y3,Ru⟩:=ah.qd h9 (by unfold maxLen;omega);rw[Pv];exact⟨a',4*8,c',rfl,Y3,by simpa using Ru,rD.o⟩
    |succ k=>
     have hk0:(0:Int)≤k:=by omega
     have e3:((k+1:Nat):Int)-1=(k:Int):=by omega
     rw[e3];have e4:IntKind.i64.wrap (8*(k:Int))=8*(k:Int):=aak _ (by omega);have hge:decide ((0:Int)≤(k:Int))=true:=by simp
     have hbw:=nY hN0 k;obtain⟨b0,hb0⟩:∃b0,b0=UInt8.ofNat ((N/2^(8*k)).toNat%256):=⟨_,rfl⟩;rw[←hb0]at hbw;have HBV:acB (Value.int .u8 (N/2^(8*k)%256)=bv b0):=by
      show Value.int .u8 (N/2^(8*k)%256)=bv b0;have e9:(8*(k:Int)).toNat=8*k:=by omega
      rw[e9]at hbw;simp only[IntKind.wrap,IntKind.bits,IntKind.signed]at hbw;simp at hbw;simp[bv];omega
     have HB0:=acA hb0;clear hb0 hbw;go_wp2_with (at_builtin;refine dQ rfl _ _ 28 rfl w.heap.size 5 i8 _ 1 1 Tryz.underlying28 HI.o.1 HI.o.2.1 HI.o.2.2.1 HI.o.2.2.2 rfl (by omega) (.slice a3 m3 c3) m3 ((P++dn).map bv) rfl (dJ GY.o fun b hb hbw=>(wall wr _).block b hbw) (some ⟨wr.heap.size,0,none⟩) 1 1 [.int .u8 (N/2^(8*k)%256)] rfl (jY (w:=wr) [.int .u8 (N/2^(8*k)%256)] 5 (by simp[maxLen])) (by simp[Value.oneCell']) (by unfold maxLen;omega) (by omega) (by have:=HB3.o.size;simp;omega) ?_;intro A4 c4 w4 kL hb4;have L_:=acA kL;have dY:=acA ((HB3.o.trans ((wall wr _).mono HB3.o.size)).trans hb4);clear kL hb4);go_roundw
     case rel=>
      have e9:m+(dn++[b0]).length=m3+1:=by have:=HM3.o;simp;omega
      refine⟨k,dn++[b0],A4,c4,by rw[e9],by go_num,by omega,?_,by simp;omega,?_,dY.o⟩
      ·rw[aau,←Cc.o,HB0.o];rfl
      ·rw[e9];have h8:=L_.o;rw[HBV.o]at h8;simpa using h8
     case measure=>simp[intOf]
  ·have h56:¬m%64=56:=fun e=>hjz (hsp.1 e);have hd:((m:Int)%64 !=56)=true:=by simp;omega
   clear hsp;go_wp2_with (at_builtin;refine dQ rfl _ _ 28 rfl w.heap.size 5 i8 _ 1 1 Tryz.underlying28 HI.o.1 HI.o.2.1 HI.o.2.2.1 HI.o.2.2.2 rfl (by omega) (.slice a' m c') m ((rest++[128]++List.replicate j 0).map bv) rfl (dJ HO.o fun b hb hbw=>(wall wr _).block b hbw) (some ⟨wr.heap.size,0,none⟩) 1 1 [bv 0] rfl (jY (w:=wr) [bv 0] 5 (by simp[maxLen])) (by simp[Value.oneCell',bv]) (by unfold maxLen;omega) (by omega) (by have:=HB.o.size;simp;omega) ?_;intro A4 c4 w4 kL hb4;have L_:=acA kL;have dY:=acA ((HB.o.trans ((wall wr _).mono HB.o.size)).trans hb4);clear kL hb4);go_roundw
   case rel=>
    have e9:r+1+(j+1)=m+1:=by have:=HM.o;omega
    refine⟨j+1,A4,c4,by rw[e9],by omega,?_,dY.o⟩;rw[e9,List.replicate_succ'];simpa using L_.o
   case measure=>show 200-(m+1)<200-m;have:=HM.o;omega
theorem zk{w:World}{B B':Nat}{e:TypeId}{k:Nat}{v:Value}{n:Nat}{xs:List Value}(h:w.ownsRow B e k v n xs)(hB:B'≤B):w.ownsRow B' e k v n xs:=by
 obtain⟨h1,h2⟩:=h;refine⟨h1,?_⟩;rcases h2 with h2|⟨g,cap,cur,e1,e2,e3⟩
 ·exact .inl h2
 ·exact .inr ⟨g,cap,cur,e1,Nat.le_trans hB e2,e3⟩
theorem of_one{S:Nat→Prop}(nb:Nat)(a:Option Addr)(n c:Nat)(bs:List UInt8)(w:World)(hc:w.cell? ⟨nb,0,none⟩=some (.slice a n c))(hnb:nb<w.heap.size)(hr:ah S w a n (bs.map bv))(hn:n≤100000000)(hnc:n≤c):
  Calls Tryz.prog 194 #[.slice (some ⟨nb,0,none⟩) 1 1] w (tT w (nM bs)):=by
 have hr1:ah (fun b=>b<w.heap.size) w a n (bs.map bv):=hr.move acC fun b hb hbw=>⟨hbw,rfl⟩;have hbl:bs.length=n:=by simpa using hr.length
 have HR:=acA hr1;have KY:=acA hbl;clear hr hr1 hbl;go_enter Tryz.func194,Tryz.ntmps194;go_wp2_with fail;refine(L8 _).mono ?_;rintro e w1 ⟨x,rfl,hxw,hx,hb1⟩;have HX:=acA hx;have HB1:=acA hb1;clear hx hb1;go_wp2_with fail
 go_loopw [5,9] (fun _ iv wx=>(iv= .int .i64 0∧wx.heap[x]? =some (.cells (fD vL (.slice none 0 0) 0) 271 (0,0))∧Below w.heap.size w wx)∨(iv= .int .i64 1∧∃v,wx.heap[x]? =some (.cells (fD (runM vL (n/64) bs) v n) 271 (0,0))∧wx.ownsRow 0 5 1 v (n%64) ((bs.drop (64*(n/64))).map bv)∧Below w.heap.size w wx)) (fun _ iv _=>1-(intOf iv).toNat)
 case atStart=>exact .inl ⟨rfl,HX.o,HB1.o⟩
 case round=>
  rcases hrel with⟨rfl,hx,hb⟩|⟨rfl,v,hx,hv,hb⟩
  ·have hcr:=(hb.cell (p:=⟨nb,0,none⟩) hnb).trans hc;have HWR:=acA (Px x a n c bs wr hx (HR.o.below hb acC) (fun b hb'=>by omega) hn hnc);have HB:=acA hb;clear hx hb;go_wp2_with fail;refine HWR.o.mono ?_;rintro e w2 ⟨rfl,v,hx2,hv2,hK2⟩;have NZ:=acA hx2;have HV2:=acA hv2;have Je:=acA hK2;clear hx2 hv2 hK2;go_wp2_with fail;go_roundw
   case rel=>exact .inr ⟨rfl,v,NZ.o,zk HV2.o (Nat.zero_le _),HB.o.trans (Je.o.mh HB.o.size fun b hb (he:b=x)=>by omega)⟩
   case measure=>decide
  ·have HS:=acA (TL x (runM vL (n/64) bs) v n (n%64) (bs.drop (64*(n/64))) wr (oU _ _ _ rfl) hx hv (Nat.mod_lt _ (by omega)) hn);have HB:=acA hb;clear hx hv hb;go_wp2_with fail;refine HS.o.mono ?_;rintro e w2 ⟨a2,n2,c2,rfl,hn2,hr2,hb2⟩;have HR2:=acA hr2;have HB2:=acA hb2;clear hr2 hb2;go_wp2_with fail;go_ret;have hs:=HB.o.size;refine⟨a2,n2,c2,rfl,hn2,?_,HB.o.trans (HB2.o.mono hs)⟩;have h9:=HR2.o.mono (S':=fun b=>w.heap.size≤b∧b<w2.heap.size) fun b hb=>⟨by omega,hb.2⟩;unfold nM;rw[KY.o,Nat.mul_comm (n/64) 64];exact h9
theorem Xp{S:Nat→Prop}(a:Option Addr)(n c:Nat)(bs:List UInt8)(w:World)(hr:ah S w a n (bs.map bv))(hn:n≤100000000)(hnc:n≤c):
  Calls Tryz.prog 158 #[.slice a n c] w (tT w (nM bs)):=by
 have HO:=acA (of_one (w:=w.alloc (.cells #[.slice a n c] 28)) w.heap.size a n c bs mU (by simp) (hr.below (wall w _) acC) hn hnc);clear hr;go_enter Tryz.func158,Tryz.ntmps158;go_wp2_with fail;refine HO.o.mono ?_;rintro e w2 ⟨a2,n2,c2,rfl,hn2,hr2,hb2⟩;have HR2:=acA hr2;have HB2:=acA hb2;clear hr2 hb2;go_wp2_with fail;go_ret;exact⟨a2,n2,c2,rfl,hn2,HR2.o.mono fun b hb=>⟨by have:=hb.1;simp at this;omega,hb.2⟩,(wall w _).trans (HB2.o.mono (by simp))⟩
end Go.Proofs.YtjnhnlabpccgjaaGreatDoor
