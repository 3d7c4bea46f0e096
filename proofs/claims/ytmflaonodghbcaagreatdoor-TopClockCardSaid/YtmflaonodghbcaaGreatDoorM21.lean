/- package -/
import Derived.Test.YtmflaonodghbcaaGreatDoorM20
import Derived.Test.YtmflaonodghbcaaGreatDoorM13
import Derived.Test.YtmflaonodghbcaaGreatDoorM19
import Derived.Deep.WholeRow
set_option maxRecDepth 100000
set_option maxHeartbeats 64000000
set_option linter.all false
namespace Go.Proofs.YtmflaonodghbcaaGreatDoor
open Go.ChangeShapes Go.WideShapes Go.ChangeAt Go.RowKit
def RetO(w:World)(bs:List UInt8)(e:Ending)(w':World):Prop:=
 ∃v,e= .returned v∧w'.ownsRow w.heap.size 5 1 v bs.length (bs.map bv)∧Below w.heap.size w w'
theorem NU{S:Nat→Prop}(a:Option Addr)(n cap:Nat)(bs:List UInt8)(w:World)(hm:n≤1000000000)(hr:ah S w a n (bs.map bv)):
  Calls Tryz.prog 75 #[.slice a n cap] w (RetO w bs):=by
 obtain⟨i0,hi,hz0,hz1,hz2⟩:=aay Tryz.uP;have hll:bs.length=n:=by have:=hr.length;simpa using this
 have heq:=fun w=>Lib.run_eql_slice_nil (P:=Tryz.prog) w 32 5 a n cap 0 0 Tryz.underlying32;have HR:=ab9 hr;have HL:=ab9 hll;clear hr hll;cases a with
 |none=>
  have h0:n=0:=by
   rcases aaF n with h0|h0
   ·exact h0
   ·obtain⟨_,_,e,_⟩:=HR.o.at_ h0;cases e
  subst h0;have hb0:bs=[]:=Pe HL.o;subst hb0;go_enter abC,abu;go_wp2;go_ret;exact⟨_,rfl,⟨rfl,.inl ⟨rfl,rfl⟩⟩,Below.refl _ _⟩
 |some ad=>
  have HS:=ab9 (HR.o.below (wall w (.cells #[] 5)) ace);go_enter abC,abu;go_wp2_with (at_builtin;refine eO rfl _ _ 32 rfl w.heap.size 5 i0 (.int .u8 0) 1 1 Tryz.underlying32 hi hz0 hz1 hz2 rfl (by omega) _ 0 [] rfl (rV (MapKept.heap_alloc w _).1 ace) (some ad) n cap (bs.map bv) rfl (by rw[Nat.mul_one];exact HS.o) (iU bs) (by unfold maxLen;omega) (by omega) (by simp) ?_;intro A1 c1 w1 hown1 hb1;rw[Nat.zero_add,List.nil_append]at hown1;have HO1:=ab9 hown1;have HB1:=ab9 ((wall w _).trans hb1);clear hown1 hb1;rw[Nat.zero_add]);go_ret;refine⟨_,rfl,?_,HB1.o⟩;rw[HL.o];exact HO1.o
def bP(h:List Int)(rest:Value)(n:Int):Array Value:=(h.map gq++(kM.map gq++[rest,.int .i64 n])).toArray
theorem tH{P:Program}{fn:Func}{a:Nat}{t:TypeId}{tmps:Array Value}{ad:Addr}{v:Value}{w:World}(h:fn.results= #[.cell a t])(ha:tmps.getD a undef= .pointer (some ad))(hl:(loadVar t ad).run P w= .ok v w):(results fn tmps).run P w= .ok v w:=by
 have ha2:tmps[a]?.getD undef= .pointer (some ad):=by simpa using ha
 simp[results,h,asAddr,ha2,hl]
theorem AV{P:Program}{ops:Array Oper}{rest:List Oper}{o:Oper}{a:Act}{w w':World}{Q:Exit→Act→World→Prop}(hgd:o.guard=none)(t:TypeId)(p v:Operand)(hop:o.op=Op.store t p v)(hrun:(Instr.storeAt t (a.eval p) (a.eval v)).run P w= .ok () w')(h:wpList P ops Q rest (a.put o.dst undef) w'):wpList P ops Q (o::rest) a w:=by
 refine abI hgd fun K hK=> ?_;unfold Oper.wp;simp[execOp,hop,hrun,Result.andThen];exact hK _ _ h
theorem R9(w:World):Calls Tryz.prog 257 #[] w fun e w'=>e= .returned (.agg (FK.map gq).toArray)∧Below w.heap.size w w':=by
 go_enter Tryz.func257,Tryz.ntmps257;go_wp2;refine aap (v:= .agg (FK.map gq).toArray) (tH rfl rfl ?_) rfl ⟨rfl,wall w _⟩;exact run_loadVar_new w 342 (FK.map gq).toArray 8 165 Tryz.underlying342 (by kernel_rfl)
abbrev kArr:Array Value:=(kM.map gq).toArray
abbrev z64:Array Value:=(List.replicate 64 (Value.int .u32 0)).toArray
theorem NV(w:World):(Instr.storeAt 344 (.pointer (some ⟨w.heap.size,0,none⟩)) (.agg kArr)).run Tryz.prog (w.alloc (.cells z64 344))= .ok () (w.alloc (.cells kArr 344)):=run_storeAt_new (P:=Tryz.prog) w 344 z64 kArr (by kernel_rfl) (by kernel_rfl) (by kernel_rfl)
theorem NW(w:World):Calls Tryz.prog 258 #[] w fun e w'=>e= .returned (.agg (kM.map gq).toArray)∧Below w.heap.size w w':=by
 have HST:=ab9 (NV w);go_enter Tryz.func258,Tryz.ntmps258;go_wp2_with (refine AV rfl 344 _ _ rfl HST.o ?_);refine aap (v:= .agg (kM.map gq).toArray) (tH rfl rfl ?_) rfl ⟨rfl,wall w _⟩;exact run_loadVar_new w 344 (kM.map gq).toArray 64 165 Tryz.underlying344 (by kernel_rfl)
theorem AX{P:Program}{ops:Array Oper}{rest:List Oper}{o:Oper}{a:Act}{w:World}{Q:Exit→Act→World→Prop}{v:Value}(hgd:o.guard=none)(t:TypeId)(parts:Array (Nat×Operand))(hop:o.op=Op.build t parts)(hrun:(Instr.build t (parts.map fun(i,x)=>(i,a.eval x))).run P w= .ok v w)(h:wpList P ops Q rest (a.put o.dst v) w):wpList P ops Q (o::rest) a w:=by
 refine abI hgd fun K hK=> ?_;unfold Oper.wp;simp only[execOp,hop,hrun,abJ,ab5,Result.andThen];exact hK _ _ h
theorem En(w:World):Calls Tryz.prog 219 #[] w fun e w'=>∃x,e= .returned (ptr x)∧w.heap.size≤x∧w'.heap[x]? =some (.cells (bP FK (.slice none 0 0) 0) 347 (0,0))∧Below w.heap.size w w':=by
 have HB:acd (∀w:World,(Instr.build 347 #[(0,.agg (FK.map gq).toArray),(1,.agg (kM.map gq).toArray)]).run Tryz.prog w= .ok (.agg (bP FK (.slice none 0 0) 0)) w):=by
  intro w;kernel_rfl
 go_enter Tryz.func219,Tryz.ntmps219;go_wp2_with fail;refine(R9 _).mono ?_;rintro e w1 ⟨rfl,hb1⟩;go_wp2_with fail;refine(NW _).mono ?_;rintro e w2 ⟨rfl,hb2⟩;go_wp2_with (refine AX rfl 347 _ rfl (HB.o _) ?_);go_ret;have hb:=hb1.trans (hb2.mono hb1.size);exact⟨w2.heap.size,rfl,hb.size,(MapKept.heap_alloc w2 _).1,hb.trans ((wall w2 _).mono hb.size)⟩
theorem tJ{h:List Int}(hl:h.length=8)(r:Value)(n:Int):(bP h r n)[72]? =some r:=by
 obtain⟨a0,a1,a2,a3,a4,a5,a6,a7,rfl⟩:=eight hl;unfold bP;rw[aan];rfl
theorem st_n{h:List Int}(hl:h.length=8)(r:Value)(n:Int):(bP h r n)[73]? =some (.int .i64 n):=by
 obtain⟨a0,a1,a2,a3,a4,a5,a6,a7,rfl⟩:=eight hl;unfold bP;rw[aan];rfl
theorem zL{h:List Int}(hl:h.length=8)(r r':Value)(n:Int):(bP h r n).setIfInBounds 72 r'=bP h r' n:=by
 obtain⟨a0,a1,a2,a3,a4,a5,a6,a7,rfl⟩:=eight hl;unfold bP;rw[aao];rfl
theorem K3{h:List Int}(hl:h.length=8)(r:Value)(n n':Int):(bP h r n).setIfInBounds 73 (.int .i64 n')=bP h r n':=by
 obtain⟨a0,a1,a2,a3,a4,a5,a6,a7,rfl⟩:=eight hl;unfold bP;rw[aao];rfl
theorem ZC{h:List Int}(hl:h.length=8)(r:Value)(n:Int)(i:Nat)(hi:i<64):(bP h r n)[8+i]? =some (gq (kM.getD i 0)):=by
 have hk:kM.length=64:=rfl;unfold bP;rw[aan,aaD (by simp[hl]),List.length_map,hl,Nat.add_sub_cancel_left,aaZ (by simp[hk];exact hi),List.getElem?_map,aaX,List.getElem?_eq_getElem (by rw[hk];exact hi)];rfl
theorem st_h{h:List Int}(hl:h.length=8)(r:Value)(n:Int)(i:Nat)(hi:i<8):(bP h r n)[i]? =some (gq (h.getD i 0)):=by
 unfold bP;rw[aan,aaZ (by simp[hl];exact hi),List.getElem?_map,aaX,List.getElem?_eq_getElem (by rw[hl];exact hi)];rfl
theorem wz:∀(k:Nat) (h:List Int) (b:List UInt8),runM h (k+1) b=jP (runM h k b) ((b.drop (64*k)).take 64)
 |0,h,b=>rfl
 |k+1,h,b=>by
  have e1:runM h (k+1+1) b=runM (jP h (b.take 64)) (k+1) (b.drop 64):=rfl;have e2:runM h (k+1) b=runM (jP h (b.take 64)) k (b.drop 64):=rfl;rw[e1,e2,wz k,aaS];congr 3;omega
theorem Eo{S:Nat→Prop}{w:World}{a:Option Addr}{m:Nat}{vs:List Value}(h:ah S w a m vs):ah S w a (m*1) vs:=by rw[Nat.mul_one];exact h
def Wrote(x:Nat)(w:World)(bs:List UInt8)(n:Nat)(e:Ending)(w':World):Prop:=
 e= .returned (.tuple #[])∧∃v,w'.heap[x]? =some (.cells (bP (runM FK (n/64) bs) v n) 347 (0,0))∧w'.ownsRow w.heap.size 5 1 v (n%64) ((bs.drop (64*(n/64))).map bv)∧Keeps (fun b=>b=x) w w'
theorem R_{S:Nat→Prop}(x:Nat)(a:Option Addr)(n c:Nat)(bs:List UInt8)(w:World)(hx:w.heap[x]? =some (.cells (bP FK (.slice none 0 0) 0) 347 (0,0)))(hr:ah S w a n (bs.map bv))(hS:∀b,S b→b≠x)(hn:n≤100000000)(hnc:n≤c):
  Calls Tryz.prog 220 #[ptr x,.slice a n c] w (Wrote x w bs n):=by
 obtain⟨i8,hi⟩:∃i,Tryz.prog.info? 5=some i∧i.zero=some (.int .u8 0)∧i.size=1∧i.bytes=1:=aay (by kernel_rfl);have HI:=ab9 hi;have h8:FK.length=8:=rfl;have hxw:=(uh.1 hx).1;have c73:w.cell? ⟨x,73,none⟩=some (.int .i64 0):=by simp only[World.cell?,hx];exact st_n h8 _ _
 have f73:w.frozen? ⟨x,73,none⟩=false:=by simp[World.frozen?,hx]
 have hx1:(w.setCell ⟨x,73,none⟩ (.int .i64 n)).heap[x]? =some (.cells (bP FK (.slice none 0 0) n) 347 (0,0)):=by
  rw[aK hx,K3 h8]
 have hK1:Keeps (fun b=>b=x) w (w.setCell ⟨x,73,none⟩ (.int .i64 n)):=Keeps.kX w ⟨x,73,none⟩ (.int .i64 n);have VH:(w.setCell ⟨x,73,none⟩ (.int .i64 n)).cell? ⟨x,72,none⟩=some (.slice none 0 0):=by simp only[World.cell?,hx1];exact tJ h8 _ _
 have e0:IntKind.i64.wrap (0+(n:Int))=(n:Int):=by rw[Int.zero_add];exact aah _ (by omega)
 have e0':IntKind.i64.wrap (n:Int)=(n:Int):=aah _ (by omega);have HR1:acd (ah S (w.setCell ⟨x,73,none⟩ (.int .i64 n)) a n (bs.map bv)):=hr.move (by rw[size_set];exact Nat.le_refl _) fun b hb hbw=>⟨hb,aL _ _ _ _ (hS b hb)⟩;have BS:=ab9 hx1;have AL:=ab9 hK1;have HS:=ab9 hS;have hbl:bs.length=n:=by simpa using hr.length
 have xC:=ab9 hbl;clear hi hx hx1 hr hS hK1 hbl h8;go_enter Tryz.func220,Tryz.ntmps220;go_wp2_with fail;have hz1:(w.setCell ⟨x,73,none⟩ (.int .i64 n)).heap.size=w.heap.size:=size_set _ _ _;generalize w.setCell ⟨x,73,none⟩ (.int .i64 n)=w1 at*;have HZ1:=ab9 hz1;clear hz1
 go_loopw [1] (fun v wx=>∃(k:Nat) (a':Option Addr) (c':Nat),v= .slice a' (n-64*k) c'∧64*k≤n∧n-64*k≤c'∧ah S wx a' (n-64*k) ((bs.drop (64*k)).map bv)∧wx.heap[x]? =some (.cells (bP (runM FK k bs) (.slice none 0 0) n) 347 (0,0))∧Keeps (fun b=>b=x) w wx) (fun v _=>match v with| .slice _ m _=>m|_=>0)
 case atStart=>exact⟨0,a,c,rfl,by omega,by omega,HR1.o,BS.o,AL.o⟩
 case round=>
  obtain⟨k,a',c',rfl,hk,hc',Gj,hxk,K4⟩:=hrel;have h8:(runM FK k bs).length=8:=jQ k _ _ rfl;obtain⟨m,hm⟩:∃m,m=n-64*k:=⟨_,rfl⟩;rw[←hm]at Gj hc'⊢;have VI:x<wr.heap.size:=(uh.1 hxk).1;have ML:=ab9 hxk;have HKK:=ab9 K4;have NY:=ab9 Gj;have HM:=ab9 hm;have VJ:=ab9 hk;have hmn:m≤n:=by omega
  by_cases h64:64≤m
  ·have hd:decide ((64:Int)≤(m:Int))=true:=by simp;omega
   have hxd:wr.drew.heap[x]? =some (.cells ((runM FK k bs).map gq++(kM.map gq++[Value.slice none 0 0,Value.int .i64 n])).toArray 347 (0,0)):=by
    have h9:=hxk;unfold bP at h9;exact h9
   have hkc:∀i,i<64→wr.drew.cell? ⟨x,8+i,none⟩=some (gq (kM.getD i 0)):=fun i hi=>by
    have h9:=ZC h8 (.slice none 0 0) n i hi;show wr.cell? ⟨x,8+i,none⟩=_;simp only[World.cell?,hxk];exact h9
   have K5:ah S wr.drew a' 64 (((bs.drop (64*k)).take 64).map bv):=by
    have:=(Gj.take 64).below acf.drew ace
    rwa [aa4 h64,←aaO]at this
   have HT:=ab9 (zK x x 8 347 (runM FK k bs) (kM.map gq++[Value.slice none 0 0,Value.int .i64 n]) a' 64 c' ((bs.drop (64*k)).take 64) wr.drew h8 hxd hkc VI K5 ace (by omega));have g1:(64:Int)≤(c':Int):=by omega
   have g2:(64:Int)≤(m:Int):=by omega
   have g3:(m:Int)≤(c':Int):=by omega
   clear hxk K4 Gj hm hxd hkc K5 h8;go_wp2_with fail;refine Cv 8 ((fun _=>True)) ?_ fun hS=> ?_
   ·trivial
   refine aY 0 hS ?_;refine aY 1 hS ?_;refine aY 2 hS ?_;refine aY 3 hS ?_;refine aY 4 hS ?_;refine aY 5 hS ?_;refine aY 6 hS ?_;refine aY 7 hS ?_;refine dW 8 fun K hK=> ?_;go_simp;refine HT.o.mono ?_;rintro e w2 ⟨rfl,hx2,hK2⟩;have VK:=ab9 hx2;have AA:=ab9 hK2;clear hx2 hK2;go_wp2_with fail;refine sN hK ?_;clear hS hK K;go_wp2_with fail;go_roundw
   case rel=>
    have e1:n-64*(k+1)=m-64:=by have:=HM.o;omega
    have hK9:Keeps (fun b=>b=x) w w2:=(HKK.o.trans (show Keeps (fun b=>b=x) wr wr.drew from⟨rfl,rfl,rfl,Nat.le_refl _,fun _ _ _=>rfl⟩) fun x _ hx=>hx).trans AA.o fun x _ hx=>hx;have hr2:ah S w2 a' m ((bs.drop (64*k)).map bv):=NY.o.move AA.o.size fun b hb hbw=>⟨hb,AA.o.block b hbw (HS.o b hb)⟩;have e2:(bs.drop (64*(k+1))).map bv=((bs.drop (64*k)).map bv).drop 64:=by
     rw[←aaR,aaS];congr 2
    refine⟨k+1,_,c'-64,by rw[e1],by have:=HM.o;omega,by rw[e1];omega,?_,?_,hK9⟩
    ·rw[e1,e2];obtain⟨b,off,rfl,-,-,-⟩:=NY.o.at_ (by omega);by_cases hc:c'=64
     ·rw[if_pos hc];refine ah.zero _ _ _ (by omega) (aaC ?_);rw[List.length_map,List.length_drop,xC.o];have:=HM.o;omega
     ·rw[if_neg hc];exact hr2.drop 64
    ·rw[wz];exact VK.o
   case measure=>show m-64<m;omega
  ·have hd:decide ((64:Int)≤(m:Int))=false:=by simp;omega
   have hkn:n/64=k:=by have:=HM.o;have:=VJ.o;omega
   have Sb:n%64=m:=by have:=HM.o;have:=VJ.o;omega
   have VH:wr.cell? ⟨x,72,none⟩=some (.slice none 0 0):=by simp only[World.cell?,hxk];exact tJ h8 _ _
   have f72:wr.frozen? ⟨x,72,none⟩=false:=by simp[World.frozen?,hxk]
   have ZE:=ab9 hkn;have HM64:=ab9 Sb;have hww:w.heap.size≤wr.heap.size:=K4.size;have hml:0+m≤maxLen:=by unfold maxLen;omega
   have hmb:(0+m)*1≤140737488355328:=by omega
   have HML:=ab9 hml;have ZF:=ab9 hmb;clear hml hmb;clear hxk K4 Gj hm hkn Sb h8;go_wp2_with (at_builtin;refine ji rfl _ _ 32 rfl w.heap.size 5 i8 _ 1 1 Tryz.underlying32 HI.o.1 HI.o.2.1 HI.o.2.2.1 HI.o.2.2.2 rfl (by omega) (.slice none 0 0) 0 [] rfl ⟨rfl,.inl ⟨rfl,rfl⟩⟩ a' m c' ((bs.drop (64*k)).map bv) rfl (Eo NY.o) (iU _) HML.o ZF.o hww ?_;intro A9 c9 w9 rW Ep Jh;rw[Nat.zero_add,List.nil_append]at rW;have CG:w9.heap[x]? =wr.heap[x]? :=Ep.block x VI (by simp[Value.ownBlock]);have YD:=ab9 rW;have Je:=ab9 CG;have q9:w9.cell? ⟨x,72,none⟩=some (.slice none 0 0):=(World.cell?_of_block (w:=wr) (w':=w9) (a:=⟨x,72,none⟩) CG).trans VH;have f9:w9.frozen? ⟨x,72,none⟩=false:=(by simp[World.frozen?,CG,ML.o]);have Sc:=ab9 Ep;have HAT9:=ab9 Jh;clear rW CG Ep Jh;rw[Nat.zero_add])
   go_end0
   refine⟨rfl,.slice A9 m c9,?_,?_,?_⟩
   ·rw[aK (Je.o.trans ML.o),ZE.o];rw[zL (jQ k _ _ rfl)]
   ·rw[HM64.o,ZE.o];refine bR YD.o fun b hb hbw=>aL _ _ _ _ ?_;intro e;have Jh:=HAT9.o;rw[Nat.zero_add]at Jh;rcases Jh with h9|h9
    ·rw[h9]at hb;simp[Value.ownBlock]at hb
    ·rw[h9]at hb;cases hb;have:wr.heap.size=x:=e;omega
   ·exact(HKK.o.trans ((Keeps.grown Sc.o).mono fun y _ hy=>by simp[Value.ownBlock]at hy) fun x _ hx=>hx).trans (Keeps.kX w9 ⟨x,72,none⟩ _) fun x _ hx=>hx
def tK(n:Nat):Nat:=(119-n%64)%64
def Gl(rest:List UInt8)(n:Nat):List UInt8:=rest++[128]++List.replicate (tK rest.length) 0++bA ((n:Int)*8) 8
def K6(h:List Int):List UInt8:=h.flatMap fun z=>bA (z%4294967296) 4
def kg(bs:List UInt8):List UInt8:=
 K6 (runM (runM FK (bs.length/64) bs) ((Gl (bs.drop (bs.length/64*64)) bs.length).length/64) (Gl (bs.drop (bs.length/64*64)) bs.length))
theorem dY(bs:List UInt8):(kg bs).length=32:=by
 unfold kg K6;have h1:=jQ ((Gl (bs.drop (bs.length/64*64)) bs.length).length/64) (runM FK (bs.length/64) bs) (Gl (bs.drop (bs.length/64*64)) bs.length) (jQ _ _ _ rfl);generalize runM _ _ _=h at h1
 match h,h1 with
 |[a,b,c,d,e,f,g,i],_=>rfl
theorem K7(r j:Nat)(hj:j≤tK r):((r+1+j)%64=56↔j=tK r):=by
 unfold tK at*;omega
theorem VL(r0 r1 r2 r3 r4 r5 r6 r7:Int)(w:World):(Instr.index 342 (.agg #[.int .u32 r0,.int .u32 r1,.int .u32 r2,.int .u32 r3,.int .u32 r4,.int .u32 r5,.int .u32 r6,.int .u32 r7]) (.int .i64 0)).run Tryz.prog w= .ok (.int .u32 r0) w:=by
 kernel_rfl
theorem VN(r0 r1 r2 r3 r4 r5 r6 r7:Int)(w:World):(Instr.index 342 (.agg #[.int .u32 r0,.int .u32 r1,.int .u32 r2,.int .u32 r3,.int .u32 r4,.int .u32 r5,.int .u32 r6,.int .u32 r7]) (.int .i64 1)).run Tryz.prog w= .ok (.int .u32 r1) w:=by
 kernel_rfl
theorem VO(r0 r1 r2 r3 r4 r5 r6 r7:Int)(w:World):(Instr.index 342 (.agg #[.int .u32 r0,.int .u32 r1,.int .u32 r2,.int .u32 r3,.int .u32 r4,.int .u32 r5,.int .u32 r6,.int .u32 r7]) (.int .i64 2)).run Tryz.prog w= .ok (.int .u32 r2) w:=by
 kernel_rfl
theorem VP(r0 r1 r2 r3 r4 r5 r6 r7:Int)(w:World):(Instr.index 342 (.agg #[.int .u32 r0,.int .u32 r1,.int .u32 r2,.int .u32 r3,.int .u32 r4,.int .u32 r5,.int .u32 r6,.int .u32 r7]) (.int .i64 3)).run Tryz.prog w= .ok (.int .u32 r3) w:=by
 kernel_rfl
theorem VQ(r0 r1 r2 r3 r4 r5 r6 r7:Int)(w:World):(Instr.index 342 (.agg #[.int .u32 r0,.int .u32 r1,.int .u32 r2,.int .u32 r3,.int .u32 r4,.int .u32 r5,.int .u32 r6,.int .u32 r7]) (.int .i64 4)).run Tryz.prog w= .ok (.int .u32 r4) w:=by
 kernel_rfl
theorem VR(r0 r1 r2 r3 r4 r5 r6 r7:Int)(w:World):(Instr.index 342 (.agg #[.int .u32 r0,.int .u32 r1,.int .u32 r2,.int .u32 r3,.int .u32 r4,.int .u32 r5,.int .u32 r6,.int .u32 r7]) (.int .i64 5)).run Tryz.prog w= .ok (.int .u32 r5) w:=by
 kernel_rfl
theorem VT(r0 r1 r2 r3 r4 r5 r6 r7:Int)(w:World):(Instr.index 342 (.agg #[.int .u32 r0,.int .u32 r1,.int .u32 r2,.int .u32 r3,.int .u32 r4,.int .u32 r5,.int .u32 r6,.int .u32 r7]) (.int .i64 6)).run Tryz.prog w= .ok (.int .u32 r6) w:=by
 kernel_rfl
theorem VU(r0 r1 r2 r3 r4 r5 r6 r7:Int)(w:World):(Instr.index 342 (.agg #[.int .u32 r0,.int .u32 r1,.int .u32 r2,.int .u32 r3,.int .u32 r4,.int .u32 r5,.int .u32 r6,.int .u32 r7]) (.int .i64 7)).run Tryz.prog w= .ok (.int .u32 r7) w:=by
 kernel_rfl
theorem index8(r0 r1 r2 r3 r4 r5 r6 r7:Int)(k:Nat)(hk:k<8)(w:World):(Instr.index 342 (.agg #[.int .u32 r0,.int .u32 r1,.int .u32 r2,.int .u32 r3,.int .u32 r4,.int .u32 r5,.int .u32 r6,.int .u32 r7]) (.int .i64 k)).run Tryz.prog w= .ok (.int .u32 (([r0,r1,r2,r3,r4,r5,r6,r7]:List Int).getD k 0)) w:=by
 match k,hk with
 |0,_=>exact VL r0 r1 r2 r3 r4 r5 r6 r7 w
 |1,_=>exact VN r0 r1 r2 r3 r4 r5 r6 r7 w
 |2,_=>exact VO r0 r1 r2 r3 r4 r5 r6 r7 w
 |3,_=>exact VP r0 r1 r2 r3 r4 r5 r6 r7 w
 |4,_=>exact VQ r0 r1 r2 r3 r4 r5 r6 r7 w
 |5,_=>exact VR r0 r1 r2 r3 r4 r5 r6 r7 w
 |6,_=>exact VT r0 r1 r2 r3 r4 r5 r6 r7 w
 |7,_=>exact VU r0 r1 r2 r3 r4 r5 r6 r7 w
theorem be4(z:Int):[Value.int .u8 (z/16777216%256),.int .u8 (z/65536%256),.int .u8 (z/256%256),.int .u8 (z%256)]=(bA (z%4294967296) 4).map bv:=by
 unfold bA bA bA bA bA;simp[bv];refine⟨?_,?_,?_,?_⟩<;>omega
theorem Sd{R:List Int}{k:Nat}(hk:k<R.length):K6 (R.take (k+1))=K6 (R.take k)++bA (R.getD k 0%4294967296) 4:=by
 unfold K6;rw[aai hk,abf,aaX,List.getElem?_eq_getElem hk];simp
theorem Sg(r:Nat):tK r<64:=by unfold tK;omega
theorem K8(x:Nat)(h:List Int)(v:Value)(n r:Nat)(rest:List UInt8)(w:World)(hh:h.length=8)(hx:w.heap[x]? =some (.cells (bP h v n) 347 (0,0)))(hv:w.ownsRow 0 5 1 v r (rest.map bv))(hr:r<64)(hn:n≤100000000):
  Calls Tryz.prog 221 #[ptr x] w (fJ w (K6 (runM h ((Gl rest n).length/64) (Gl rest n)))):=by
 obtain⟨i8,hi⟩:∃i,Tryz.prog.info? 5=some i∧i.zero=some (.int .u8 0)∧i.size=1∧i.bytes=1:=aay (by kernel_rfl);have HI:=ab9 hi;obtain⟨a,c,rfl,hac⟩:=bG hv;obtain⟨-,-,hrow⟩:=ah.mF hv (by unfold maxLen;omega);rw[Nat.mul_one]at hrow;have hrl:rest.length=r:=by simpa using hrow.length
 have hxw:=(uh.1 hx).1;have c72:w.cell? ⟨x,72,none⟩=some (.slice a r c):=by simp only[World.cell?,hx];exact tJ hh _ _
 have zF:=ab9 (NU a r c rest w (by omega) hrow);have HX:=ab9 hx;have Zx:=ab9 hh;have HRL:=ab9 hrl;clear hi hx hv hrow hh hrl;go_enter Tryz.func221,Tryz.ntmps221;go_wp2_with fail;refine zF.o.mono ?_;rintro e w1 ⟨v1,rfl,hown1,hb1⟩;obtain⟨a1,c1,rfl,hac1⟩:=bG hown1;rw[HRL.o]at hown1 hac1⊢;have HO1:=ab9 hown1;have HB1:=ab9 hb1;clear hown1 hb1;go_wp2_with (at_builtin;refine eO rfl _ _ 32 rfl w.heap.size 5 i8 _ 1 1 Tryz.underlying32 HI.o.1 HI.o.2.1 HI.o.2.2.1 HI.o.2.2.2 rfl (by omega) (.slice a1 r c1) r (rest.map bv) rfl (bR HO1.o fun b hb hbw=>(wall w1 _).block b hbw) (some ⟨w1.heap.size,0,none⟩) 1 1 [bv 128] rfl (kQ (w:=w1) [bv 128] 5 (by simp[maxLen])) (by simp[Value.oneCell',bv]) (by unfold maxLen;omega) (by omega) (by have:=HB1.o.size;simp;omega) ?_;intro A2 c2 w2 hown2 hb2;have Nj:=ab9 hown2;have HB2:=ab9 ((HB1.o.trans ((wall w1 _).mono HB1.o.size)).trans hb2);clear hown2 hb2)
 go_loopw [3] (fun v wx=>∃(j:Nat) (a':Option Addr) (c':Nat),v= .slice a' (r+1+j) c'∧j≤tK r∧wx.ownsRow w.heap.size 5 1 v (r+1+j) ((rest++[128]++List.replicate j 0).map bv)∧Below w.heap.size w wx) (fun v _=>200-(match v with| .slice _ m _=>m|_=>0))
 case atStart=>exact⟨0,A2,c2,rfl,Nat.zero_le _,by simpa using Nj.o,HB2.o⟩
 case round=>
  obtain⟨j,a',c',rfl,hj,hown,hb⟩:=hrel;have HO:=ab9 hown;have HB:=ab9 hb;have hz:=Sg r;have hsp:=K7 r j hj;obtain⟨m,hm⟩:∃m,m=r+1+j:=⟨_,rfl⟩;rw[←hm]at HO hsp⊢;have HM:=ab9 hm;have hm200:m≤200:=by omega
  clear hown hb hm;by_cases hjz:j=tK r
  ·have h56:m%64=56:=hsp.2 hjz;have hd:((m:Int)%64 !=56)=false:=by simp;omega
   have VW:wr.heap[x]? =some (.cells (bP h (.slice a r c) n) 347 (0,0)):=(HB.o.block x hxw).trans HX.o;have c73:wr.cell? ⟨x,73,none⟩=some (.int .i64 n):=by simp only[World.cell?,VW];exact st_n Zx.o _ _
   have e1:IntKind.u64.wrap (n:Int)=(n:Int):=by simp[IntKind.wrap,IntKind.bits,IntKind.signed];omega
   have e2:IntKind.u64.wrap ((n:Int)*8)=(n:Int)*8:=by simp[IntKind.wrap,IntKind.bits,IntKind.signed];omega
   obtain⟨P,hP⟩:∃P,P=rest++[128]++List.replicate j 0:=⟨_,rfl⟩;rw[←hP]at HO;have HPE:acd (P=rest++[128]++List.replicate (tK rest.length) 0):=by
    show P=_;rw[hP,hjz,HRL.o]
   have J_:acd ((m+8)%64=0):=by show(m+8)%64=0;omega
   clear hsp h56 hjz VW hP;go_wp2_with fail;obtain⟨N,hN⟩:∃N:Int,N=(n:Int)*8:=⟨_,rfl⟩;rw[←hN];have hN0:0≤N:=by omega
   have HN:=ab9 hN;clear hN e2
   go_loopw [3,5] (fun v kv wx=>∃(k:Nat) (dn:List UInt8) (a':Option Addr) (c':Nat),v= .slice a' (m+dn.length) c'∧kv= .int .i64 ((k:Int)-1)∧k≤8∧dn++bA N k=bA N 8∧dn.length+k=8∧wx.ownsRow w.heap.size 5 1 v (m+dn.length) ((P++dn).map bv)∧Below w.heap.size w wx) (fun _ kv _=>((intOf kv)+1).toNat)
   case atStart=>exact⟨8,[],a',c',rfl,by go_num,by omega,rfl,rfl,by simpa using HO.o,HB.o⟩
   case round=>
    obtain⟨k,dn,a3,c3,rfl,rfl,hk,hdn,hdl,hown,hb⟩:=hrel;have K9:=ab9 hown;have HB3:=ab9 hb;have DK:=ab9 hdn;obtain⟨m3,MP⟩:∃m3,m3=m+dn.length:=⟨_,rfl⟩;rw[←MP]at K9⊢;have uJ:=ab9 MP;have hm3b:m3≤208:=by omega
    clear hown hb hdn MP;cases k with
    |zero=>
     have e0:((0:Nat):Int)-1= -1:=by omega
     rw[e0];have hdn8:dn=bA N 8:=by
      have h9:=DK.o;unfold bA at h9;rw[aaE]at h9;rw[h9];rfl
     obtain⟨E,hE⟩:∃E,E=P++dn:=⟨_,rfl⟩;rw[←hE]at K9;have hEl:E.length=m3:=by have:=K9.o.1;simp at this;omega
     have HEE:acd (E=Gl rest n):=by
      show E=Gl rest n;rw[hE,hdn8,HPE.o,HN.o];rfl
     have Sb:m3%64=0:=by have:=uJ.o;have:=J_.o;omega
     have VW:wr.heap[x]? =some (.cells (bP h (.slice a r c) n) 347 (0,0)):=(HB3.o.block x hxw).trans HX.o;have hxw3:x<wr.heap.size:=(uh.1 VW).1;obtain⟨h0,h1,h2,h3,h4,h5,h6,h7,YE⟩:=eight Zx.o;have hc:∀i,i<8→wr.cell? ⟨x,i,none⟩=some (gq (h.getD i 0)):=fun i hi=>by
      have h9:=st_h Zx.o (.slice a r c) n i hi;simp only[World.cell?,VW];exact h9
     have c0:wr.cell? ⟨x,0,none⟩=some (.int .u32 h0):=by have:=hc 0 (by omega);rw[YE]at this;exact this
     have c1:wr.cell? ⟨x,1,none⟩=some (.int .u32 h1):=by have:=hc 1 (by omega);rw[YE]at this;exact this
     have c2:wr.cell? ⟨x,2,none⟩=some (.int .u32 h2):=by have:=hc 2 (by omega);rw[YE]at this;exact this
     have c3':wr.cell? ⟨x,3,none⟩=some (.int .u32 h3):=by have:=hc 3 (by omega);rw[YE]at this;exact this
     have c4:wr.cell? ⟨x,4,none⟩=some (.int .u32 h4):=by have:=hc 4 (by omega);rw[YE]at this;exact this
     have c5:wr.cell? ⟨x,5,none⟩=some (.int .u32 h5):=by have:=hc 5 (by omega);rw[YE]at this;exact this
     have c6:wr.cell? ⟨x,6,none⟩=some (.int .u32 h6):=by have:=hc 6 (by omega);rw[YE]at this;exact this
     have c7:wr.cell? ⟨x,7,none⟩=some (.int .u32 h7):=by have:=hc 7 (by omega);rw[YE]at this;exact this
     have HHE:=ab9 YE;have HXR:=ab9 VW;have HE:=ab9 hE;clear hc YE VW hE hdn8 hdl hk;go_wp2_with fail;have hal:=(MapKept.heap_alloc wr (.cells #[.int .u32 h0,.int .u32 h1,.int .u32 h2,.int .u32 h3,.int .u32 h4,.int .u32 h5,.int .u32 h6,.int .u32 h7] 342)).1;have hwl:=wall wr (.cells #[.int .u32 h0,.int .u32 h1,.int .u32 h2,.int .u32 h3,.int .u32 h4,.int .u32 h5,.int .u32 h6,.int .u32 h7] 342);obtain⟨hb5,ZG⟩:∃z,z=wr.heap.size:=⟨_,rfl⟩;rw[←ZG]at hal⊢;have VX:Below w.heap.size w (wr.alloc (.cells #[.int .u32 h0,.int .u32 h1,.int .u32 h2,.int .u32 h3,.int .u32 h4,.int .u32 h5,.int .u32 h6,.int .u32 h7] 342)):=HB3.o.trans (hwl.mono HB3.o.size);have hO5:=bR K9.o fun b hb hbw=>hwl.block b hbw;have hb5w:w.heap.size≤hb5:=by rw[ZG];exact HB3.o.size
     have NZ:∀b,(Value.slice a3 m3 c3).ownBlock=some b→b<hb5:=fun b hb=>by rw[ZG];exact jf K9.o b hb
     generalize wr.alloc (.cells #[.int .u32 h0,.int .u32 h1,.int .u32 h2,.int .u32 h3,.int .u32 h4,.int .u32 h5,.int .u32 h6,.int .u32 h7] 342)=w5 at*;have hal2:w5.heap[hb5]? =some (.cells ((h.map gq++[]).toArray) 342 (0,0)):=by
      rw[HHE.o,aaE];exact hal
     have J6:acd (∀i,i<64→w5.cell? ⟨x,8+i,none⟩=some (gq (kM.getD i 0))):=fun i hi=>by
      have h9:=ZC Zx.o (.slice a r c) n i hi;rw[hwl.cell (p:=⟨x,8+i,none⟩) hxw3];simp only[World.cell?,HXR.o];exact h9
     have hxw5:x<w5.heap.size:=Nat.lt_of_lt_of_le hxw3 hwl.size;have hxb5:x≠hb5:=by omega
     have hrow5:ah (fun b=>b≠hb5) w5 a3 m3 (E.map bv):=by
      obtain⟨-,-,h9⟩:=ah.mF K9.o (by unfold maxLen;omega);rw[Nat.mul_one]at h9;exact(h9.below hwl ace).mono fun b hb=>by omega
     have hac3:m3≤c3:=by
      obtain⟨_,_,e,h9⟩:=bG K9.o;cases e;exact h9
     have Ei:=ab9 hrow5;have HAL2:=ab9 hal2;have dX:=ab9 VX;have YF:=ab9 hO5;have HOB:=ab9 NZ;have HEL:=ab9 hEl;clear hrow5 hal hal2 VX hO5 NZ hEl hwl ZG c0 c1 c2 c3' c4 c5 c6 c7
     go_loopw [3] (fun v wx=>∃(k:Nat) (a':Option Addr) (c':Nat),v= .slice a' (m3-64*k) c'∧64*k≤m3∧m3-64*k≤c'∧ah (fun b=>b≠hb5) wx a' (m3-64*k) ((E.drop (64*k)).map bv)∧wx.heap[hb5]? =some (.cells (((runM h k E).map gq++[]).toArray) 342 (0,0))∧Keeps (fun b=>b=hb5) w5 wx) (fun v _=>match v with| .slice _ m _=>m|_=>0)
     case atStart=>exact⟨0,a3,c3,rfl,by omega,by omega,Ei.o,HAL2.o,Keeps.refl _ _⟩
     case round=>
      obtain⟨k,a',c',rfl,hk,hc',Gj,hxk,K4⟩:=hrel;have h8:(runM h k E).length=8:=jQ k _ _ Zx.o;obtain⟨q,hq⟩:∃q,q=m3-64*k:=⟨_,rfl⟩;rw[←hq]at Gj hc'⊢;have ML:=ab9 hxk;have HKK:=ab9 K4;have NY:=ab9 Gj;have HQ:=ab9 hq;have hxwr:x<wr.heap.size:=Nat.lt_of_lt_of_le hxw5 K4.size;by_cases h0q:0<q
      ·have h64:64≤q:=by omega
       have hd:decide ((0:Int)<(q:Int))=true:=by simp;omega
       have hkc:∀i,i<64→wr.drew.cell? ⟨x,8+i,none⟩=some (gq (kM.getD i 0)):=fun i hi=>by
        have h9:=J6.o i hi;rw[←h9];exact World.cell?_of_block (w:=w5) (w':=wr.drew) (a:=⟨x,8+i,none⟩) (K4.block x hxw5 hxb5)
       have K5:ah (fun b=>b≠hb5) wr.drew a' 64 (((E.drop (64*k)).take 64).map bv):=by
        have:=(Gj.take 64).below acf.drew ace
        rwa [aa4 h64,←aaO]at this
       have HT:=ab9 (zK hb5 x 8 342 (runM h k E) [] a' 64 c' ((E.drop (64*k)).take 64) wr.drew h8 hxk hkc hxwr K5 ace (by omega));have g1:(64:Int)≤(c':Int):=by omega
       have g2:(64:Int)≤(q:Int):=by omega
       have g3:(q:Int)≤(c':Int):=by omega
       clear hxk K4 Gj hq hkc K5 h8;go_wp2_with fail;refine Cv 5 ((fun _=>True)) ?_ fun hS=> ?_
       ·trivial
       refine aY 0 hS ?_;refine aY 1 hS ?_;refine aY 2 hS ?_;refine aY 3 hS ?_;refine aY 4 hS ?_;refine dW 5 fun K hK=> ?_;go_simp;refine HT.o.mono ?_;rintro e w6 ⟨rfl,hx6,hK6⟩;have HX6:=ab9 hx6;have HK6:=ab9 hK6;clear hx6 hK6;go_wp2_with fail;refine sN hK ?_;clear hS hK K;go_wp2_with fail;go_roundw
       case rel=>
        have e1:m3-64*(k+1)=q-64:=by have:=HQ.o;omega
        have hK9:Keeps (fun b=>b=hb5) w5 w6:=(HKK.o.trans (show Keeps (fun b=>b=hb5) wr wr.drew from⟨rfl,rfl,rfl,Nat.le_refl _,fun _ _ _=>rfl⟩) fun x _ hx=>hx).trans HK6.o fun x _ hx=>hx;have hr2:ah (fun b=>b≠hb5) w6 a' q ((E.drop (64*k)).map bv):=NY.o.move HK6.o.size fun b hb hbw=>⟨hb,HK6.o.block b hbw hb⟩;have e2:(E.drop (64*(k+1))).map bv=((E.drop (64*k)).map bv).drop 64:=by
         rw[←aaR,aaS];congr 2
        refine⟨k+1,_,c'-64,by rw[e1],by have:=HQ.o;omega,by rw[e1];omega,?_,?_,hK9⟩
        ·rw[e1,e2];obtain⟨b,off,rfl,-,-,-⟩:=NY.o.at_ (by omega);by_cases hc:c'=64
         ·rw[if_pos hc];refine ah.zero _ _ _ (by omega) (aaC ?_);rw[List.length_map,List.length_drop,HEL.o];have:=HQ.o;omega
         ·rw[if_neg hc];exact hr2.drop 64
        ·rw[wz];exact HX6.o
       case measure=>show q-64<q;omega
      ·have hd:decide ((0:Int)<(q:Int))=false:=by simp;omega
       have Jg:m3/64=k:=by have:=HQ.o;omega
       have h9:=ML.o;rw[aaE]at h9;obtain⟨R,hR⟩:∃R,R=runM h k E:=⟨_,rfl⟩;rw[←hR]at h9 h8;have rG:acd (R=runM h ((Gl rest n).length/64) (Gl rest n)):=by
        show R=_;rw[hR,←HEE.o,HEL.o,Jg]
       have Gg:=ab9 h9;have hBr:Below w.heap.size w wr:=dX.o.trans (K4.bQ dX.o.size fun b hb (he:b=hb5)=>by omega);have FM:=ab9 hBr;obtain⟨r0,r1,r2,r3,r4,r5,r6,r7,hre⟩:=eight h8;have hbw5:hb5<wr.heap.size:=(uh.1 hxk).1;have HCW:acd (∀w':World,w'.heap[hb5]? =wr.heap[hb5]? →w'.cell? ⟨hb5,0,none⟩=some (.int .u32 r0)∧w'.cell? ⟨hb5,1,none⟩=some (.int .u32 r1)∧w'.cell? ⟨hb5,2,none⟩=some (.int .u32 r2)∧w'.cell? ⟨hb5,3,none⟩=some (.int .u32 r3)∧w'.cell? ⟨hb5,4,none⟩=some (.int .u32 r4)∧w'.cell? ⟨hb5,5,none⟩=some (.int .u32 r5)∧w'.cell? ⟨hb5,6,none⟩=some (.int .u32 r6)∧w'.cell? ⟨hb5,7,none⟩=some (.int .u32 r7)):=fun w' hw=>by
        rw[Gg.o,hre]at hw;refine⟨?_,?_,?_,?_,?_,?_,?_,?_⟩<;>simp[World.cell?,hw]
       have VY:=ab9 hre;clear hxk K4 Gj hq h9 hR Jg hBr hre h8;go_wp2_with (at_make;refine wpList_make_own _ rfl _ _ 32 rfl w.heap.size 5 i8 (.int .u8 0) 1 Tryz.underlying32 HI.o.1 HI.o.2.1 HI.o.2.2.1 .i64 .i64 32 32 rfl rfl rfl (by rw[HI.o.2.2.2];omega) (by unfold maxLen;omega) FM.o.size ?_;intro w7 hown7 N7;have HO7:=ab9 hown7;have hbb7:=N7.block hb5 hbw5 (fun e=>by cases e);obtain⟨z0,z1,z2,z3,z4,z5,z6,z7⟩:=HCW.o w7 hbb7;have jw:=ab9 (FM.o.grown N7 FM.o.size (fun k hk=>by cases hk));clear hown7 N7 hbb7)
       go_loopw [7,9,59] (fun v _ iv wx=>∃(k:Nat) (a':Option Addr) (c':Nat),v= .slice a' (4*k) c'∧iv= .int .i64 k∧k≤8∧wx.ownsRow w.heap.size 5 1 v (4*k) ((K6 (R.take k)).map bv)∧Below w.heap.size w wx) (fun _ _ iv _=>8-(intOf iv).toNat)
       case atStart=>exact⟨0,_,32,rfl,rfl,by omega,HO7.o,jw.o⟩
       case round=>
        obtain⟨k,a',c',rfl,rfl,hk,hown,hb⟩:=hrel;have HO8:=ab9 hown;have nG:=ab9 hb;clear hown hb;by_cases hlt:k<8
        ·have hd:decide ((k:Int)<8)=true:=by simp;omega
         have hix:=index8 r0 r1 r2 r3 r4 r5 r6 r7 k hlt;rw[←VY.o]at hix;obtain⟨z,hz⟩:∃z,z=R.getD k 0:=⟨_,rfl⟩;rw[←hz]at hix;have HZ:=ab9 hz;clear hz;go_wp2_with (at_builtin;refine eO rfl _ _ 32 rfl w.heap.size 5 i8 _ 1 1 Tryz.underlying32 HI.o.1 HI.o.2.1 HI.o.2.2.1 HI.o.2.2.2 rfl (by omega) (.slice a' (4*k) c') (4*k) ((K6 (R.take k)).map bv) rfl (bR HO8.o fun b hb hbw=>(wall wr _).block b hbw) (some ⟨wr.heap.size,0,none⟩) 4 4 [.int .u8 (z/16777216%256),.int .u8 (z/65536%256),.int .u8 (z/256%256),.int .u8 (z%256)] rfl (kQ (w:=wr) [.int .u8 (z/16777216%256),.int .u8 (z/65536%256),.int .u8 (z/256%256),.int .u8 (z%256)] 5 (by simp[maxLen])) (by simp[Value.oneCell']) (by unfold maxLen;omega) (by omega) (by have:=nG.o.size;simp;omega) ?_;intro A9 c9 w9 rW iT;have YD:=ab9 rW;have sU:=ab9 ((nG.o.trans ((wall wr _).mono nG.o.size)).trans iT);clear rW iT);go_roundw
         case rel=>
          have e9:4*(k+1)=4*k+4:=by omega
          refine⟨k+1,A9,c9,by rw[e9],by go_num,by omega,?_,sU.o⟩;rw[e9,Sd (by rw[VY.o];exact hlt),aaz,←HZ.o,←be4];exact YD.o
         case measure=>simp[intOf];omega
        ·have hd:decide ((k:Int)<8)=false:=by simp;omega
         have MS:k=8:=by omega
         go_wp2_with fail;go_ret;have h9:=HO8.o;rw[MS,List.take_of_length_le (by rw[VY.o];exact Nat.le_refl 8),rG.o]at h9;obtain⟨-,xw,jK⟩:=ah.mF h9 (by unfold maxLen;omega);rw[MS];exact⟨a',4*8,c',rfl,xw,by simpa using jK,nG.o⟩
    |succ k=>
     have hk0:(0:Int)≤k:=by omega
     have e3:((k+1:Nat):Int)-1=(k:Int):=by omega
     rw[e3];have e4:IntKind.i64.wrap (8*(k:Int))=8*(k:Int):=aah _ (by omega);have hge:decide ((0:Int)≤(k:Int))=true:=by simp
     have hbw:=GK hN0 k;obtain⟨b0,hb0⟩:∃b0,b0=UInt8.ofNat ((N/2^(8*k)).toNat%256):=⟨_,rfl⟩;rw[←hb0]at hbw;have HBV:acd (Value.int .u8 (N/2^(8*k)%256)=bv b0):=by
      show Value.int .u8 (N/2^(8*k)%256)=bv b0;have e9:(8*(k:Int)).toNat=8*k:=by omega
      rw[e9]at hbw;simp only[IntKind.wrap,IntKind.bits,IntKind.signed]at hbw;simp at hbw;simp[bv];omega
     have HB0:=ab9 hb0;clear hb0 hbw;go_wp2_with (at_builtin;refine eO rfl _ _ 32 rfl w.heap.size 5 i8 _ 1 1 Tryz.underlying32 HI.o.1 HI.o.2.1 HI.o.2.2.1 HI.o.2.2.2 rfl (by omega) (.slice a3 m3 c3) m3 ((P++dn).map bv) rfl (bR K9.o fun b hb hbw=>(wall wr _).block b hbw) (some ⟨wr.heap.size,0,none⟩) 1 1 [.int .u8 (N/2^(8*k)%256)] rfl (kQ (w:=wr) [.int .u8 (N/2^(8*k)%256)] 5 (by simp[maxLen])) (by simp[Value.oneCell']) (by unfold maxLen;omega) (by omega) (by have:=HB3.o.size;simp;omega) ?_;intro A4 c4 w4 lK hb4;have ZH:=ab9 lK;have dh:=ab9 ((HB3.o.trans ((wall wr _).mono HB3.o.size)).trans hb4);clear lK hb4);go_roundw
     case rel=>
      have e9:m+(dn++[b0]).length=m3+1:=by have:=uJ.o;simp;omega
      refine⟨k,dn++[b0],A4,c4,by rw[e9],by go_num,by omega,?_,by simp;omega,?_,dh.o⟩
      ·rw[List.append_assoc,←DK.o,HB0.o];rfl
      ·rw[e9];have h8:=ZH.o;rw[HBV.o]at h8;simpa using h8
     case measure=>simp[intOf]
  ·have h56:¬m%64=56:=fun e=>hjz (hsp.1 e);have hd:((m:Int)%64 !=56)=true:=by simp;omega
   clear hsp;go_wp2_with (at_builtin;refine eO rfl _ _ 32 rfl w.heap.size 5 i8 _ 1 1 Tryz.underlying32 HI.o.1 HI.o.2.1 HI.o.2.2.1 HI.o.2.2.2 rfl (by omega) (.slice a' m c') m ((rest++[128]++List.replicate j 0).map bv) rfl (bR HO.o fun b hb hbw=>(wall wr _).block b hbw) (some ⟨wr.heap.size,0,none⟩) 1 1 [bv 0] rfl (kQ (w:=wr) [bv 0] 5 (by simp[maxLen])) (by simp[Value.oneCell',bv]) (by unfold maxLen;omega) (by omega) (by have:=HB.o.size;simp;omega) ?_;intro A4 c4 w4 lK hb4;have ZH:=ab9 lK;have dh:=ab9 ((HB.o.trans ((wall wr _).mono HB.o.size)).trans hb4);clear lK hb4);go_roundw
   case rel=>
    have e9:r+1+(j+1)=m+1:=by have:=HM.o;omega
    refine⟨j+1,A4,c4,by rw[e9],by omega,?_,dh.o⟩;rw[e9,List.replicate_succ'];simpa using ZH.o
   case measure=>show 200-(m+1)<200-m;have:=HM.o;omega
theorem Er{w:World}{B B':Nat}{e:TypeId}{k:Nat}{v:Value}{n:Nat}{xs:List Value}(h:w.ownsRow B e k v n xs)(hB:B'≤B):w.ownsRow B' e k v n xs:=by
 obtain⟨h1,h2⟩:=h;refine⟨h1,?_⟩;rcases h2 with h2|⟨g,cap,cur,e1,e2,e3⟩
 ·exact .inl h2
 ·exact .inr ⟨g,cap,cur,e1,Nat.le_trans hB e2,e3⟩
theorem of_one{S:Nat→Prop}(nb:Nat)(a:Option Addr)(n c:Nat)(bs:List UInt8)(w:World)(hc:w.cell? ⟨nb,0,none⟩=some (.slice a n c))(hnb:nb<w.heap.size)(hr:ah S w a n (bs.map bv))(hn:n≤100000000)(hnc:n≤c):
  Calls Tryz.prog 175 #[.slice (some ⟨nb,0,none⟩) 1 1] w (fJ w (kg bs)):=by
 have hr1:ah (fun b=>b<w.heap.size) w a n (bs.map bv):=hr.move ace fun b hb hbw=>⟨hbw,rfl⟩;have hbl:bs.length=n:=by simpa using hr.length
 have HR:=ab9 hr1;have xC:=ab9 hbl;clear hr hr1 hbl;go_enter Tryz.func175,Tryz.ntmps175;go_wp2_with fail;refine(En _).mono ?_;rintro e w1 ⟨x,rfl,hxw,hx,hb1⟩;have HX:=ab9 hx;have HB1:=ab9 hb1;clear hx hb1;go_wp2_with fail
 go_loopw [5,9] (fun _ iv wx=>(iv= .int .i64 0∧wx.heap[x]? =some (.cells (bP FK (.slice none 0 0) 0) 347 (0,0))∧Below w.heap.size w wx)∨(iv= .int .i64 1∧∃v,wx.heap[x]? =some (.cells (bP (runM FK (n/64) bs) v n) 347 (0,0))∧wx.ownsRow 0 5 1 v (n%64) ((bs.drop (64*(n/64))).map bv)∧Below w.heap.size w wx)) (fun _ iv _=>1-(intOf iv).toNat)
 case atStart=>exact .inl ⟨rfl,HX.o,HB1.o⟩
 case round=>
  rcases hrel with⟨rfl,hx,hb⟩|⟨rfl,v,hx,hv,hb⟩
  ·have hcr:=(hb.cell (p:=⟨nb,0,none⟩) hnb).trans hc;have HWR:=ab9 (R_ x a n c bs wr hx (HR.o.below hb ace) (fun b hb'=>by omega) hn hnc);have HB:=ab9 hb;clear hx hb;go_wp2_with fail;refine HWR.o.mono ?_;rintro e w2 ⟨rfl,v,hx2,hv2,hK2⟩;have VK:=ab9 hx2;have C_:=ab9 hv2;have AA:=ab9 hK2;clear hx2 hv2 hK2;go_wp2_with fail;go_roundw
   case rel=>exact .inr ⟨rfl,v,VK.o,Er C_.o (Nat.zero_le _),HB.o.trans (AA.o.bQ HB.o.size fun b hb (he:b=x)=>by omega)⟩
   case measure=>decide
  ·have HS:=ab9 (K8 x (runM FK (n/64) bs) v n (n%64) (bs.drop (64*(n/64))) wr (jQ _ _ _ rfl) hx hv (Nat.mod_lt _ (by omega)) hn);have HB:=ab9 hb;clear hx hv hb;go_wp2_with fail;refine HS.o.mono ?_;rintro e w2 ⟨a2,n2,c2,rfl,hn2,hr2,hb2⟩;have HR2:=ab9 hr2;have HB2:=ab9 hb2;clear hr2 hb2;go_wp2_with fail;go_ret;have hs:=HB.o.size;refine⟨a2,n2,c2,rfl,hn2,?_,HB.o.trans (HB2.o.mono hs)⟩;have h9:=HR2.o.mono (S':=fun b=>w.heap.size≤b∧b<w2.heap.size) fun b hb=>⟨by omega,hb.2⟩;unfold kg;rw[xC.o,Nat.mul_comm (n/64) 64];exact h9
theorem zM{S:Nat→Prop}(a:Option Addr)(n c:Nat)(bs:List UInt8)(w:World)(hr:ah S w a n (bs.map bv))(hn:n≤100000000)(hnc:n≤c):
  Calls Tryz.prog 100 #[.slice a n c] w (fJ w (kg bs)):=by
 have HO:=ab9 (of_one (w:=w.alloc (.cells #[.slice a n c] 32)) w.heap.size a n c bs lq (by simp) (hr.below (wall w _) ace) hn hnc);clear hr;go_enter Tryz.func100,Tryz.ntmps100;go_wp2_with fail;refine HO.o.mono ?_;rintro e w2 ⟨a2,n2,c2,rfl,hn2,hr2,hb2⟩;have HR2:=ab9 hr2;have HB2:=ab9 hb2;clear hr2 hb2;go_wp2_with fail;go_ret;exact⟨a2,n2,c2,rfl,hn2,HR2.o.mono fun b hb=>⟨by have:=hb.1;simp at this;omega,hb.2⟩,(wall w _).trans (HB2.o.mono (by simp))⟩
end Go.Proofs.YtmflaonodghbcaaGreatDoor
