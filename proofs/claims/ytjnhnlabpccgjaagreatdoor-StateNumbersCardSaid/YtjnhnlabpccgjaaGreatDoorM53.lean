/- StateNumbers -/
import Derived.Test.YtjnhnlabpccgjaaGreatDoorM50
import Derived.Maps.OwnSet
import Derived.Lib.SlBytesConst
set_option maxRecDepth 100000
set_option maxHeartbeats 64000000
set_option linter.all false
namespace Go.Proofs.YtjnhnlabpccgjaaGreatDoor.stateNumbers
open Go.ChangeShapes Go.WideShapes Go.ChangeAt Go.RowKit
theorem Ns{w w2:World}{n:Nat}(hn:n≤maxLen)(hown:w2.ownsRow w.heap.size 5 1 (.slice (some ⟨w.heap.size,0,none⟩) n n) n (madeCells (Value.int .u8 0).cells (n*1)).toList)(hg:w.grownBy w2 none):ah (fun b=>b=w.heap.size) w2 (some ⟨w.heap.size,0,none⟩) n ((List.replicate n (0:UInt8)).map bv)∧Below w.heap.size w w2:=by
 have hB:Below w.heap.size w w2:=⟨hg.os,hg.tape,hg.output,hg.size,fun i hi=>hg.block i hi (by simp)⟩;have h1:w2.heap[w.heap.size]? =some (.cells ((List.replicate n (0:UInt8)).map bv).toArray 5 (0,0)):=by
  rw[show Value.cells (.int .u8 0)= #[.int .u8 0]from rfl,toList_madeCells_one]at hown;obtain⟨_,hown⟩:=hown;rcases hown with⟨hx,_⟩|⟨g,cap,cur,hx,_,hcur,_,_,hcs,htake⟩
  ·cases hx
  ·simp only[aar,aac,aaS,aaI,abG]at hx;obtain⟨rfl,_,rfl⟩:=hx;show _=_;rw[hcur];congr 2;rw[List.take_of_length_le (by simp;omega)]at htake;apply Array.toList_inj.1;rw[htake];simp[bv]
 have h2:=lS h1 (by simpa using hn);simp only[List.length_map,List.length_replicate]at h2;exact⟨h2,hB⟩
theorem wC{z:Int}(h: -2≤z∧z≤1000):(Lit.int .i64 z).wf=true:=by
 simp[Lit.wf,IntKind.min,IntKind.max,IntKind.signed,IntKind.bits];omega
def EX(o:Mark)(w:World)(lb:Nat):Prop:=Free o w lb∧∀j,j<8→∃l:List UInt8,w.cell? ⟨lb,j,none⟩=some (.string (strOf l))∧l.length≤100
structure yH(W:World)(p q lb:Nat)(B:Int)(g:Nat)(o:Mark)(w:World)(x:jD)(da:Option Addr)(dc:Nat)(c:Int)(M:dS):Prop where
 two:g_ W o 1 w p q c M
 ids:lD M.s
 le:c≤B
 tab:EX o w lb
 op:Q8 11 o w g x da dc
 ok:lY x
 few:x.data.length≤1000
 row:ah (Free o w) w da x.data.length (x.data.map bv)
def Nt(W:World)(p q:Nat)(B:Int)(w:World):Prop:=∃o M c,c≤B∧g_ W o 1 w p q c M∧lD M.s
def BH(W:World)(p q lb:Nat)(B:Int)(w:World):Prop:=∃o M c,c≤B∧g_ W o 1 w p q c M∧lD M.s∧EX o w lb
theorem BH.o{W w:World}{p q lb:Nat}{B:Int}(h:BH W p q lb B w):Nt W p q B w:=by
 obtain⟨o,M,c,h1,h2,h3,-⟩:=h;exact⟨o,M,c,h1,h2,h3⟩
section
variable{W w w':World}{o o':Mark}{i p q g lb:Nat}{B c:Int}{M:dS}{x y:jD}{da db:Option Addr}{dc dd:Nat}
theorem Nt.mono{B':Int}(h:Nt W p q B w)(hB:B≤B'):Nt W p q B' w:=by
 obtain⟨o,M,c,h1,h2,h3⟩:=h;exact⟨o,M,c,Int.le_trans h1 hB,h2,h3⟩
theorem BH.mono{B':Int}(h:BH W p q lb B w)(hB:B≤B'):BH W p q lb B' w:=by
 obtain⟨o,M,c,h1,h2,h3,h4⟩:=h;exact⟨o,M,c,Int.le_trans h1 hB,h2,h3,h4⟩
theorem EX.step{I:Nat→Prop}(h:EX o w lb)(hi:¬I 0)(hs:Step o I w o' w'):EX o' w' lb:=
 ⟨⟨(hs.old lb h.1.2).trans h.1.1,Pd h.1.2 hs.keep.size⟩,fun j hj=>by
  obtain⟨z,h1,h2⟩:=h.2 j hj;exact⟨z,(Pe (w:=w) (w':=w') (a:=⟨lb,j,none⟩) (hs.block h.1.2 (by rw[h.1.1];exact hi))).trans h1,h2⟩⟩
theorem EX.grow(h:EX o w lb)(hb:Below w.heap.size w w'):EX o w' lb:=
 ⟨⟨h.1.1,Pd h.1.2 hb.size⟩,fun j hj=>by
  obtain⟨z,h1,h2⟩:=h.2 j hj;exact⟨z,(hb.cell (p:=⟨lb,j,none⟩) h.1.2).trans h1,h2⟩⟩
theorem V6{t:TypeId}(hz:o w.heap.size=0):EX o (w.alloc (.cells #[.string ⟨#[47,97]⟩,.string ⟨#[47,100]⟩,.string ⟨#[47,100,47,102]⟩,.string ⟨#[47]⟩,.string ⟨#[120]⟩,.string ⟨#[47,110,111,110,101,47,120]⟩,.string ⟨#[47,97,47,98]⟩,.string ⟨#[47,97,47,98,47,99,47,100,47,101,47,102,47,103,47,104,47,105]⟩] t)) w.heap.size:=by
 have h:=(MapKept.heap_alloc w (.cells #[.string ⟨#[47,97]⟩,.string ⟨#[47,100]⟩,.string ⟨#[47,100,47,102]⟩,.string ⟨#[47]⟩,.string ⟨#[120]⟩,.string ⟨#[47,110,111,110,101,47,120]⟩,.string ⟨#[47,97,47,98]⟩,.string ⟨#[47,97,47,98,47,99,47,100,47,101,47,102,47,103,47,104,47,105]⟩] t)).1;refine⟨⟨hz,by simp⟩,fun j hj=> ?_⟩;have hc:∀v,(#[Value.string ⟨#[47,97]⟩,.string ⟨#[47,100]⟩,.string ⟨#[47,100,47,102]⟩,.string ⟨#[47]⟩,.string ⟨#[120]⟩,.string ⟨#[47,110,111,110,101,47,120]⟩,.string ⟨#[47,97,47,98]⟩,.string ⟨#[47,97,47,98,47,99,47,100,47,101,47,102,47,103,47,104,47,105]⟩]:Array Value)[j]? =some v→(w.alloc (.cells #[.string ⟨#[47,97]⟩,.string ⟨#[47,100]⟩,.string ⟨#[47,100,47,102]⟩,.string ⟨#[47]⟩,.string ⟨#[120]⟩,.string ⟨#[47,110,111,110,101,47,120]⟩,.string ⟨#[47,97,47,98]⟩,.string ⟨#[47,97,47,98,47,99,47,100,47,101,47,102,47,103,47,104,47,105]⟩] t)).cell? ⟨w.heap.size,j,none⟩=some v:=fun v hv=>by
  simp only[World.cell?,h];exact hv
 match j,hj with
 |0,_=>exact⟨[47,97],hc _ rfl,by simp⟩
 |1,_=>exact⟨[47,100],hc _ rfl,by simp⟩
 |2,_=>exact⟨[47,100,47,102],hc _ rfl,by simp⟩
 |3,_=>exact⟨[47],hc _ rfl,by simp⟩
 |4,_=>exact⟨[120],hc _ rfl,by simp⟩
 |5,_=>exact⟨[47,110,111,110,101,47,120],hc _ rfl,by simp⟩
 |6,_=>exact⟨[47,97,47,98],hc _ rfl,by simp⟩
 |7,_=>exact⟨[47,97,47,98,47,99,47,100,47,101,47,102,47,103,47,104,47,105],hc _ rfl,by simp⟩
 |n+8,h=>omega
theorem g_.zero(h:g_ W o i w p q c M){b:Nat}(hb:w.heap.size≤b):o b=0:=aaj fun h9=>by have:=(h.s.marks.new b h9).2;omega
theorem g_.one(h:g_ W o 1 w p q c M)(hs:Step o (fun m=>m=11) w o' w'):g_ W o' 1 w' p q c M:=
 ⟨h.s.one ⟨by omega,by omega⟩ hs,h.r.step (fun e=>by omega) (fun e=>by omega) (fun e=>by omega) (fun e=>by omega) hs⟩
theorem YS{z:Nat×Nat}(h:g_ W o 1 w p q c M)(hid:lD M.s)(hc:c≤B)(hl:EX o w lb)(ok:lY x)(few:x.data.length≤1000):∃o',yH W p q lb B (w.heap.size+1) o' ((w.alloc (.cells (x.data.map bv).toArray 5 z)).alloc (.cells (opC x (some ⟨w.heap.size,0,none⟩) dc) 30)) x (some ⟨w.heap.size,0,none⟩) dc c M:=by
 obtain⟨w7,hw7⟩:∃w7,w7=(w.alloc (.cells (x.data.map bv).toArray 5 z)).alloc (.cells (opC x (some ⟨w.heap.size,0,none⟩) dc) 30):=⟨_,rfl⟩;have vY:Below w.heap.size w w7:=by rw[hw7];exact(wall w _).trans ((wall _ _).mono (by simp))
 have hd7:w7.heap[w.heap.size]? =some (.cells (x.data.map bv).toArray 5 z):=by
  rw[hw7];exact((wall _ _).block _ (by simp)).trans (MapKept.heap_alloc w _).1
 have Gj:w7.heap[w.heap.size+1]? =some (.cells (opC x (some ⟨w.heap.size,0,none⟩) dc) 30 (0,0)):=by
  rw[hw7];have:=(MapKept.heap_alloc (w.alloc (.cells (x.data.map bv).toArray 5 z)) (.cells (opC x (some ⟨w.heap.size,0,none⟩) dc) 30)).1;rw[aad]at this;exact this
 rw[←hw7];clear hw7;have hgl:=(iA.1 Gj).1;obtain⟨o',hs',h1,h2⟩:=gW h.s.marks 11 (fun b=>b=w.heap.size+1) (w':=w7) (fun b hb=>by subst hb;exact⟨by omega,hgl⟩) vY;have hr:=lS hd7 (by rw[List.length_map];unfold maxLen;omega);rw[List.length_map]at hr;refine⟨o',g_.one h hs',hid,hc,hl.step (fun e=>by omega) hs',⟨h1 _ rfl,hgl,Gj⟩,ok,few,hr.mono fun b hb=> ?_⟩;have hb:b=w.heap.size:=hb;subst hb;exact⟨(h2 _ (fun e=>by omega)).trans (g_.zero h acC),by omega⟩
theorem yH.set{k:Nat}{v:Value}(h:yH W p q lb B g o w x da dc c M)(hy:lY y)(hf:y.data.length≤1000)(hr:ah (Free o w) w db y.data.length (y.data.map bv))(he:w.setCell ⟨g,k,none⟩ v=w'∧w'.heap[g]? =some (.cells (opC y db dd) 30 (0,0))):yH W p q lb B g o w' y db dd c M:=by
 obtain⟨rfl,hg⟩:=he;have hz:=size_set w ⟨g,k,none⟩ v;have hst:Step o (fun m=>m=11) w o (w.setCell ⟨g,k,none⟩ v):=⟨fun _ _=>rfl,fun b hb hn=>absurd (h.two.s.marks.new b hn).2 (by omega),(Keeps.f_ w ⟨g,k,none⟩ _).mono fun x _ hx=>by
  have hx:x=g:=hx;rw[hx];exact h.op.own⟩
 have h0:¬(fun m=>m=11) 0:=fun e=>by omega
 exact⟨g_.one h.two hst,h.ids,h.le,h.tab.step h0 hst,⟨h.op.own,by have:=h.op.low;omega,hg⟩,hy,hf,hr.free h0 hst⟩
theorem yH.grow(h:yH W p q lb B g o w x da dc c M)(hb:Below w.heap.size w w'):yH W p q lb B g o w' x da dc c M:=
 ⟨h.two.grow hb,h.ids,h.le,h.tab.grow hb,h.op.grow h.two.s.marks hb,h.ok,h.few,h.row.qG hb⟩
theorem yH.path(h:yH W p q lb B g o w x da dc c M):w.cell? ⟨g,1,none⟩=some (.string (strOf x.path))∧w.frozen? ⟨g,1,none⟩=false∧yH W p q lb B g o (w.setCell ⟨g,1,none⟩ (.string ⟨#[47,100]⟩)) {x with path:=[47,100]} da dc c M:=
 ⟨h.op.cells.2.1,by have:=h.op.at_;simp[World.frozen?,this],h.set (y:={x with path:=[47,100]}) ⟨h.ok.wk,h.ok.wf,h.ok.wa,h.ok.wn,h.ok.ws,h.ok.wt,by show([47,100]:List UInt8).length<_;simp,h.ok.wq,h.ok.wd⟩ h.few h.row ⟨rfl,aI (i:=1) (v:= .string ⟨#[47,100]⟩) h.op.at_⟩⟩
theorem yH.aA(h:yH W p q lb B g o w x da dc c M):w.cell? ⟨g,6,none⟩=some (.int .u64 x.aA)∧w.frozen? ⟨g,6,none⟩=false∧yH W p q lb B g o (w.setCell ⟨g,6,none⟩ (.int .u64 1099511627777)) {x with aA:=1099511627777} da dc c M:=
 ⟨h.op.cells.2.2.2.2.2.2.1,by have:=h.op.at_;simp[World.frozen?,this],h.set (y:={x with aA:=1099511627777}) ⟨h.ok.wk,h.ok.wf,h.ok.wa,h.ok.wn,h.ok.ws,by show(0:Int)≤1099511627777∧(1099511627777:Int)≤18446744073709551615;omega,h.ok.wp,h.ok.wq,h.ok.wd⟩ h.few h.row ⟨rfl,aI (i:=6) (v:= .int .u64 1099511627777) h.op.at_⟩⟩
theorem yH.data{w':World}{zs:List UInt8}{n:Nat}(h:yH W p q lb B g o w x da dc c M)(hn:n=zs.length)(h10:n≤1000)(hz:ah (fun b=>b=w.heap.size) w' (some ⟨w.heap.size,0,none⟩) n (zs.map bv)∧Below w.heap.size w w')(h0:0<n):w'.cell? ⟨g,8,none⟩=some (.slice da x.data.length dc)∧w'.frozen? ⟨g,8,none⟩=false∧yH W p q lb B g o (w'.setCell ⟨g,8,none⟩ (.slice (some ⟨w.heap.size,0,none⟩) n n)) {x with data:=zs} (some ⟨w.heap.size,0,none⟩) n c M:=by
 subst hn;have h':=h.grow hz.2;have hlt:w.heap.size<w'.heap.size:=by
  obtain⟨b,off,e,hS,hb,-⟩:=hz.1.at_ h0;cases e;exact hb
 exact⟨h'.op.cells.2.2.2.2.2.2.2.2.1,by have:=h'.op.at_;simp[World.frozen?,this],h'.set (y:={x with data:=zs}) ⟨h.ok.wk,h.ok.wf,h.ok.wa,h.ok.wn,h.ok.ws,h.ok.wt,h.ok.wp,h.ok.wq,by show zs.length≤_;omega⟩ h10 (hz.1.mono fun b hb=>by
  have hb:b=w.heap.size:=hb;subst hb;exact⟨g_.zero h.two acC,hlt⟩) ⟨rfl,aI (i:=8) (v:= .slice (some ⟨w.heap.size,0,none⟩) zs.length zs.length) h'.op.at_⟩⟩
theorem yH.all(h:yH W p q lb B g o w x da dc c M):w.cell? ⟨g,0,none⟩=some (.int .i64 x.kind)∧w.cell? ⟨g,1,none⟩=some (.string (strOf x.path))∧w.cell? ⟨g,2,none⟩=some (.string (strOf x.dD))∧w.cell? ⟨g,3,none⟩=some (.int .i64 x.fd)∧w.cell? ⟨g,4,none⟩=some (.int .i64 x.at_)∧w.cell? ⟨g,5,none⟩=some (.int .i64 x.n)∧w.cell? ⟨g,6,none⟩=some (.int .u64 x.aA)∧w.cell? ⟨g,7,none⟩=some (.int .i64 x.snap)∧w.cell? ⟨g,8,none⟩=some (.slice da x.data.length dc):=
 ⟨h.op.cells.1,h.op.cells.2.1,h.op.cells.2.2.1,h.op.cells.2.2.2.1,h.op.cells.2.2.2.2.1,h.op.cells.2.2.2.2.2.1,h.op.cells.2.2.2.2.2.2.1,h.op.cells.2.2.2.2.2.2.2.1,h.op.cells.2.2.2.2.2.2.2.2.1⟩
theorem yH.did(h:yH W p q lb B g o w x da dc c M)(hs:Step o (Ten 1) w o' w')(hT:g_ W o' 1 w' p q (c+1) (dH M x).2):BH W p q lb (B+1) w':=
 ⟨o',_,c+1,by have:=h.le;omega,hT,h.two.OB h.ids x,h.tab.step (fun e=>by have:=e.1;omega) hs⟩
end
theorem walk(W:World)(hsh:W.ShapedOpen Tryz.prog):Calls Tryz.prog 3 #[] W (ZI W):=by
 obtain⟨m,hm,-⟩:=wB hsh;obtain⟨iU,hU⟩:∃i,Tryz.prog.info? 5=some i∧i.zero=some (.int .u8 0)∧i.size=1∧i.bytes=1:=aap (by kernel_rfl);have HIU:=acA hU;have HM:=acA hm;have kc:=fun(w:World) (C:Array Value) (n c:Nat)=>Lib.run_convert_bytes_const (P:=Tryz.prog) w 28 5 C n c Tryz.underlying28 abr;clear hm hsh hU;go_enter Tryz.func3,Tryz.ntmps3;go_wp2_with fail;refine(Hf (i:=1) (Hg W) (by omega)).mono ?_;rintro e w1 ⟨p,o1,rfl,hs1,hS1⟩;have jI:=acA hS1;clear hs1 hS1;go_wp2_with fail;refine(Ia (i:=6) jI.o.marks (by omega)).mono ?_;rintro e w2 ⟨q,o2,rfl,hs2,-,hR2⟩;have HT2:acB (g_ W o2 1 w2 p q 1 sQ):=⟨jI.o.other (by omega) (by omega) (by omega) hs2,hR2⟩;clear hs2 hR2 jI;go_wp2_with fail
 go_loopw [3] (fun i wr=>∃r:Nat,i= .int .i64 r∧r≤3∧Nt W p q (1+840*(r:Int)) wr) (fun i _=>3-(intOf i).toNat)
 case atStart=>exact⟨0,rfl,by omega,o2,sQ,1,by omega,HT2.o,lD.new⟩
 case round=>
  clear HT2;obtain⟨r,rfl,hr3,hN⟩:=hrel;have HN:=acA hN;clear hN;by_cases hrl:r<3
  ·have hd1:decide ((r:Int)<3)=true:=by simp;omega
   go_wp2_with fail
   go_loopw [4] (fun i wr=>∃k:Int,i= .int .i64 k∧-1≤k∧k≤20∧Nt W p q (1+840*(r:Int)+40*(k+1)) wr) (fun i _=>(20-intOf i).toNat)
   case atStart=>exact⟨-1,rfl,by omega,by omega,HN.o.mono (by omega)⟩
   case round=>
    clear HN;obtain⟨k,rfl,hk1,hk2,hN⟩:=hrel;have HN:=acA hN;clear hN;by_cases hkl:k<20
    ·have hd2:decide (k<20)=true:=by simpa using hkl
     obtain⟨o,M,c,hc,hT,Iz⟩:=HN.o;have HZ:acB (o wr.heap.size=0):=acA (g_.zero hT acC);have HR:=acA (show _∧_∧_ from⟨hc,hT,Iz⟩);clear hc hT Iz HN;go_wp2_with fail;obtain⟨lb,hlb⟩:∃lb,lb=wr.heap.size:=⟨_,rfl⟩;rw[←hlb];have HLB:=acA hlb;clear hlb
     go_loopw [23] (fun i wr=>∃j:Nat,i= .int .i64 j∧j≤8∧BH W p q lb (1+840*(r:Int)+40*(k+1)+5*(j:Int)) wr) (fun i _=>8-(intOf i).toNat)
     case atStart=>
      refine⟨0,rfl,by omega,o,M,c,by have:=HR.o.1;omega,HR.o.2.1.grow (wall _ _),HR.o.2.2,?_⟩;rw[HLB.o];exact V6 HZ.o
     case round=>
      clear HR HZ HLB;obtain⟨j,rfl,hj,hN⟩:=hrel;have HN:=acA hN;clear hN;by_cases hjl:j<8
      ·have hd3:decide ((j:Int)<8)=true:=by simp;omega
       obtain⟨o,M,c,hc,hT,Iz,hL⟩:=HN.o;obtain⟨l,d1,hl100⟩:=hL.2 j hjl;have i0:(0:Int)≤(j:Int):=by omega
       have i1:(j:Int)<8:=by omega
       have hB:(1:Int)+840*(r:Int)+40*(k+1)+5*(j:Int)≤10000:=by omega
       clear hc hT Iz hL;go_wp2_with fail;clear d1
       go_loopw [7] (fun i wr=>∃f:Int,i= .int .i64 f∧-1≤f∧f≤4∧BH W p q lb (1+840*(r:Int)+40*(k+1)+5*(j:Int)+(f+1)) wr) (fun i _=>(4-intOf i).toNat)
       case atStart=>exact⟨-1,rfl,by omega,by omega,HN.o.mono (by omega)⟩
       case round=>
        clear HN;obtain⟨f,rfl,hf1,hf2,hN⟩:=hrel;have HN:=acA hN;clear hN;by_cases hfl:f<4
        ·have hd4:decide (f<4)=true:=by simpa using hfl
         have e1:IntKind.u64.wrap (5+f)=5+f:=by simp[IntKind.wrap,IntKind.bits,IntKind.signed];omega
         obtain⟨B,hBB⟩:∃B,B=(1:Int)+840*(r:Int)+40*(k+1)+5*(j:Int)+(f+1):=⟨_,rfl⟩;rw[←hBB]at HN;obtain⟨o,M,c,hc,hT,Iz,hL⟩:=HN.o;have HD:=acA (YS (x:=⟨k,l,[47,116],f,f,f+1,5+f,f,[100,97,116,97]⟩) (dc:=4) (z:=(4,5)) hT Iz hc hL ⟨wC (z:=k) (by omega),wC (z:=f) (by omega),wC (z:=f) (by omega),wC (z:=f+1) (by omega),wC (z:=f) (by omega),by show(0:Int)≤5+f∧5+f≤18446744073709551615;omega,by show l.length<_;omega,by show([47,116]:List UInt8).length<_;simp,by show([100,97,116,97]:List UInt8).length≤_;simp⟩ (by show([100,97,116,97]:List UInt8).length≤_;simp));clear hc hT Iz hL HN;obtain⟨g,hg⟩:∃g,g=wr.heap.size+1:=⟨_,rfl⟩;have HG:=acA hg;go_upto_region 17 with(fail);rw[←hg];clear hg;revert HD;rw[←HG.o];intro HD;obtain⟨o7,w7,hw7,h7⟩:∃o7 w7,w7=((wr.alloc (.cells #[.int .u8 100,.int .u8 97,.int .u8 116,.int .u8 97] 5 (4,5))).alloc (.cells #[.int .i64 k,.string (strOf l),.string ⟨#[47,116]⟩,.int .i64 f,.int .i64 f,.int .i64 (f+1),.int .u64 (5+f),.int .i64 f,.slice (some ⟨wr.heap.size,0,none⟩) 4 4] 30))∧∃x da dc,acB (yH W p q lb B g o7 w7 x da dc c M):=by
          obtain⟨o7,h⟩:=HD.o;exact⟨o7,_,rfl,_,_,_,h⟩
         rw[←hw7];obtain⟨x7,da7,dc7,uX⟩:=h7;clear hw7 HD HG
         go_cut [49] (fun c wx=>(∃b,c= .bool b)∧w7=wx)
         case first=>
          obtain⟨b1,hb1⟩:∃b,(k==2)=b:=⟨_,rfl⟩;cases b1
          all_goals (
           go_wp2_with fail
           go_meet
           exact⟨⟨_,rfl⟩,rfl⟩)
         case rest=>
          obtain⟨⟨b,rfl⟩,rfl⟩:=hcut;cases b
          all_goals (
           obtain⟨c1,f1,hp⟩:=uX.o.path;have HP:=acA hp;clear hp;go_upto_region 19 with(fail);clear c1 f1
           (first|(obtain⟨w8,hw8,x8,Wo,Wp,zL⟩:∃w8,w8=w7.setCell ⟨g,1,none⟩ (.string ⟨#[47,100]⟩)∧∃x da dc,acB (yH W p q lb B g o7 w8 x da dc c M):=⟨_,rfl,_,_,_,HP⟩;rw[←hw8];clear hw8 uX HP)|(obtain⟨w8,hw8,x8,Wo,Wp,zL⟩:∃w8,w8=w7∧∃x da dc,acB (yH W p q lb B g o7 w8 x da dc c M):=⟨_,rfl,_,_,_,uX⟩;rw[←hw8];clear hw8 uX HP))
           try clear w7 x7 da7 dc7
           obtain⟨w7,x7,da7,dc7,hw7,uX⟩:∃w7 x da dc,w7=w8∧acB (yH W p q lb B g o7 w7 x da dc c M):=⟨_,_,_,_,rfl,zL⟩;rw[←hw7];clear hw7 zL w8 x8 Wo Wp
           go_cut [56] (fun c wx=>(∃b,c= .bool b)∧w7=wx)
           case first=>
            obtain⟨b1,hb1⟩:∃b,(k==5)=b:=⟨_,rfl⟩;cases b1
            all_goals (
             go_wp2_with fail
             go_meet
             exact⟨⟨_,rfl⟩,rfl⟩)
           case rest=>
            obtain⟨⟨b,rfl⟩,rfl⟩:=hcut;cases b
            all_goals (
             go_upto_region 21 with(at_make;refine wpList_make_full _ rfl _ _ 28 rfl w7.heap.size 5 iU (.int .u8 0) 1 Tryz.underlying28 HIU.o.1 HIU.o.2.1 HIU.o.2.2.1 .i64 .i64 (601:Int) (601:Int) 601 rfl rfl rfl rfl (by rw[HIU.o.2.2.2];omega) (by unfold maxLen;omega) acC ?_;intro wz hown hgrow;have HMZ:=acA (Ns (by unfold maxLen;omega) hown hgrow);clear hown hgrow;obtain⟨c1,f1,hp⟩:=uX.o.data (by rw[List.length_replicate]) (by omega) HMZ.o (by omega);have HP:=acA hp;clear hp)
             (first|(obtain⟨w8,hw8,x8,Wo,Wp,zL⟩:∃w8,w8=wz.setCell ⟨g,8,none⟩ (.slice (some ⟨w7.heap.size,0,none⟩) 601 601)∧∃x da dc,acB (yH W p q lb B g o7 w8 x da dc c M):=⟨_,rfl,_,_,_,HP⟩;rw[←hw8];clear hw8 uX HP c1 f1 HMZ wz)|(obtain⟨w8,hw8,x8,Wo,Wp,zL⟩:∃w8,w8=w7∧∃x da dc,acB (yH W p q lb B g o7 w8 x da dc c M):=⟨_,rfl,_,_,_,uX⟩;rw[←hw8];clear hw8 uX))
             try clear w7 x7 da7 dc7
             obtain⟨w7,x7,da7,dc7,hw7,uX⟩:∃w7 x da dc,w7=w8∧acB (yH W p q lb B g o7 w7 x da dc c M):=⟨_,_,_,_,rfl,zL⟩;rw[←hw7];clear hw7 zL w8 x8 Wo Wp
             go_cut [64] (fun c wx=>(∃b,c= .bool b)∧w7=wx)
             case first=>
              obtain⟨b1,hb1⟩:∃b,(k==6)=b:=⟨_,rfl⟩;cases b1
              all_goals (
               go_wp2_with fail
               go_meet
               exact⟨⟨_,rfl⟩,rfl⟩)
             case rest=>
              obtain⟨⟨b,rfl⟩,rfl⟩:=hcut;cases b
              all_goals (
               obtain⟨c1,f1,hp⟩:=uX.o.aA;have HP:=acA hp;clear hp;go_upto_region 23 with(fail);clear c1 f1
               (first|(obtain⟨w8,hw8,x8,Wo,Wp,zL⟩:∃w8,w8=w7.setCell ⟨g,6,none⟩ (.int .u64 1099511627777)∧∃x da dc,acB (yH W p q lb B g o7 w8 x da dc c M):=⟨_,rfl,_,_,_,HP⟩;rw[←hw8];clear hw8 uX HP)|(obtain⟨w8,hw8,x8,Wo,Wp,zL⟩:∃w8,w8=w7∧∃x da dc,acB (yH W p q lb B g o7 w8 x da dc c M):=⟨_,rfl,_,_,_,uX⟩;rw[←hw8];clear hw8 uX HP))
               try clear w7 x7 da7 dc7
               obtain⟨w7,x7,da7,dc7,hw7,uX⟩:∃w7 x da dc,w7=w8∧acB (yH W p q lb B g o7 w7 x da dc c M):=⟨_,_,_,_,rfl,zL⟩;rw[←hw7];clear hw7 zL w8 x8 Wo Wp;obtain⟨v0,v1,v2,v3,v4,v5,v6,v7,v8⟩:=uX.o.all;have OC:=acA (zI uX.o.two (by omega) (by have:=uX.o.le;omega) x7 uX.o.ok (by have:=uX.o.few;omega) da7 dc7 uX.o.row m HM.o);unfold opC at OC;go_wp2_with fail;refine OC.o.mono ?_;rintro e Xd ⟨rfl,o11,zG,hT11⟩;have HN11:=acA (uX.o.did zG hT11);clear zG hT11 OC uX v0 v1 v2 v3 v4 v5 v6 v7 v8;go_wp2_with fail;go_roundw
               case rel=>exact⟨f+1,by go_num,by omega,by omega,HN11.o.mono (by omega)⟩
               case measure=>simp[intOf];omega)))
        ·have hd4:decide (f<4)=false:=by simpa using hfl
         go_wp2_with fail;go_roundw
         case rel=>exact⟨j+1,by go_num,by omega,HN.o.mono (by omega)⟩
         case measure=>simp[intOf];omega
      ·have hd3:decide ((j:Int)<8)=false:=by simp;omega
       have IL:=acA HN.o.o;go_wp2_with fail;go_roundw
       case rel=>exact⟨k+1,by go_num,by omega,by omega,IL.o.mono (by omega)⟩
       case measure=>simp[intOf];omega
    ·have hd2:decide (k<20)=false:=by simpa using hkl
     obtain⟨o,M,c,hc,hT,Iz⟩:=HN.o;have HB:acB (∀w5,Below wr.heap.size wr w5→Nt W p q (1+840*((r+1:Nat):Int)) w5):=fun w5 hb=>⟨o,M,c,by omega,hT.grow hb,Iz⟩;have RP:=acA (wh hT (by omega) (by omega) Iz);clear hc hT Iz HN;go_wp2_with fail;refine RP.o.mono ?_;rintro e w5 ⟨rfl,hb5⟩;have Hr:=acA (HB.o w5 hb5);clear hb5 RP HB;go_wp2_with fail;go_roundw
     case rel=>exact⟨r+1,by go_num,by omega,Hr.o⟩
     case measure=>simp[intOf];omega
  ·have hd1:decide ((r:Int)<3)=false:=by simp;omega
   obtain⟨o,M,c,hc,hT,Iz⟩:=HN.o;have HK:=acA (o_ wr m (g_.first hT HM.o acD));have HB:=acA hT.s.below;clear hc hT Iz HN;go_wp2_with fail;refine HK.o.mono ?_;rintro e w6 ⟨rfl,hb6⟩;have mM:=acA (HB.o.trans (hb6.mono HB.o.size));clear hb6 HK;go_wp2_with fail;go_ret;exact⟨rfl,mM.o⟩
end Go.Proofs.YtjnhnlabpccgjaaGreatDoor.stateNumbers
