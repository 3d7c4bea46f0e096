/- package -/
import Derived.Test.YtmflaonodghbcaaGreatDoorM42
import Derived.Test.YtmflaonodghbcaaGreatDoorM30
import Derived.Test.YtmflaonodghbcaaGreatDoorM39
import Derived.Lib.SlBytesConst
set_option maxRecDepth 100000
set_option maxHeartbeats 64000000
set_option linter.all false
namespace Go.Proofs.YtmflaonodghbcaaGreatDoor
open Go.ChangeShapes Go.WideShapes Go.ChangeAt Go.RowKit
structure Co where
 b:List UInt8
 c:Int
 M:dN
 cs:Int
 L:vN
 gen:Int
 seq:Int
 dx:Int
 recs:Int
 id:List UInt8
def vaC(n d q p:Nat)(ia:Option Addr)(ic:Nat)(gen seq dx recs:Int)(ha:Option Addr)(hc:Nat):Array Value:= #[ptr d,ptr q,ptr p,.int .i64 (n:Int),.int .i64 ((n:Int)/4),.int .i64 (((n:Int)-1-2*((n:Int)/4))/8),.slice ia 16 ic,.int .u64 gen,.int .u64 seq,.int .i64 dx,.int .i64 recs,.slice ha 32 hc]
structure fO(W:World)(o:Mark)(i B sb:Nat)(w:World)(v n d:Nat)(V:Co):Prop where
 at_:∃q p ia ic ha hc,w.heap[v]? =some (.cells (vaC n d q p ia ic V.gen V.seq V.dx V.recs ha hc) 61 (0,0))∧xK W o sb w q V.cs V.M∧jm o (B+20) w p n d V.L∧ah (Free o w) w ia 16 (V.id.map bv)
 own:o v=B+19
 low:v<w.heap.size
 disk:dP o i w d n V.b True V.c
section
variable{W w w':World}{o o':Mark}{i B sb v n d q p:Nat}{V:Co}
theorem fO.marks(h:fO W o i B sb w v n d V):Marks W o w:=by
 obtain⟨q,p,ia,ic,ha,hc,h1,h2,h3⟩:=h.at_;exact h2.marks
theorem xK.xL{c:Int}{M:dN}{I:Nat→Prop}(h:xK W o sb w p c M)(h0:¬I 0)(h1:¬I sb)(h2:¬I (sb+1))(h3:¬I (sb+2))(hs:Step o I w o' w'):xK W o' sb w' p c M:=
 ⟨h.st.step h0 h1 h2 h3 hs,h.marks.step h0 hs,h.ok⟩
theorem jc{w:World}{b n d q p:Nat}{ia ha:Option Addr}{ic hc:Nat}{gen seq dx recs:Int}(h:w.heap[b]? =some (.cells (vaC n d q p ia ic gen seq dx recs ha hc) 61 (0,0))):w.cell? ⟨b,0,none⟩=some (ptr d)∧w.cell? ⟨b,1,none⟩=some (ptr q)∧w.cell? ⟨b,2,none⟩=some (ptr p)∧w.cell? ⟨b,3,none⟩=some (.int .i64 (n:Int))∧w.cell? ⟨b,4,none⟩=some (.int .i64 ((n:Int)/4))∧w.cell? ⟨b,5,none⟩=some (.int .i64 (((n:Int)-1-2*((n:Int)/4))/8))∧w.cell? ⟨b,6,none⟩=some (.slice ia 16 ic)∧w.cell? ⟨b,7,none⟩=some (.int .u64 gen)∧w.cell? ⟨b,8,none⟩=some (.int .u64 seq)∧w.cell? ⟨b,9,none⟩=some (.int .i64 dx)∧w.cell? ⟨b,10,none⟩=some (.int .i64 recs)∧w.cell? ⟨b,11,none⟩=some (.slice ha 32 hc):=by
 refine⟨?_,?_,?_,?_,?_,?_,?_,?_,?_,?_,?_,?_⟩<;>simp[World.cell?,h,vaC]
def BgGive(W:World)(o:Mark)(i B sb:Nat)(w:World)(n d:Nat)(V:Co)(e:Ending)(w':World):Prop:=
 ∃v o',e= .returned (ptr v)∧Step o (fun m=>m=B+19∨m=B+20) w o' w'∧fO W o' i B sb w' v n d V
theorem PV{b:List UInt8}{c cs:Int}{M:dN}{k:Nat}{head:List UInt8}{next:Int}(hD:dP o i w d n b True c)(hS:xK W o sb w q cs M)(hL:jm o (B+20) w p n d ⟨k,head,next,[]⟩)(hB:0<B)(hi:i<B)(hsb:sb+4<B+19)(hk:k<gV n)(hz:secs b (je n k) 8=List.replicate 1024 0)(hnx:1≤next∧next≤1099511627776)
  (gen seq dx recs:Int)(id:List UInt8)(ia ha:Option Addr)(ic hc:Nat)(hid:ah (Free o w) w ia 16 (id.map bv)):
  Calls Tryz.prog 30 #[ptr d,ptr q,ptr p,.agg (vR n ia ic gen seq dx recs ha hc)] w (BgGive W o i B sb w n d ⟨b,c,M,cs,⟨k,head,next,[⟨2,next,[]⟩]⟩,gen,seq,dx,recs,id⟩):=by
 have hM:=hS.marks;have hl:=hD.len;obtain⟨w1,hw1⟩:∃w1,w1=w.alloc (.cells (vR n ia ic gen seq dx recs ha hc) 59):=⟨_,rfl⟩;have hb1:Below w.heap.size w w1:=by rw[hw1];exact wall w _
 have hx1:w1.heap[w.heap.size]? =some (.cells (vR n ia ic gen seq dx recs ha hc) 59 (0,0)):=by rw[hw1];exact(MapKept.heap_alloc w _).1
 have hz1:w.heap.size<w1.heap.size:=(uh.1 hx1).1;have HF:=ab9 (fun(u:World) (hb:Below w1.heap.size w1 u)=>qw ((hb.block _ hz1).trans hx1));have Gh:acd (∀u:World,Below w1.heap.size w1 u→Calls Tryz.prog 81 #[ptr p] u fun e u'=>e= .returned (.int .i64 (k:Int))∧u=u'):=ab9 fun u hb=>E9 (hL.grow hM (hb1.trans (hb.mono hb1.size)));have KZ:acd (∀u:World,Below w1.heap.size w1 u→Calls Tryz.prog 22 #[ptr p] u fun e u'=>e= .returned (.int .u64 next)∧Below u.heap.size u u'):=ab9 fun u hb=>by
  have h9:=E8 (hL.grow hM (hb1.trans (hb.mono hb1.size))) (by show 0≤next∧next≤1099511627776;omega) (Nat.zero_le _);rw[show(⟨k,head,next,[]⟩:vN).next+(([]:List RecM).length:Int)=next from Int.add_zero _]at h9;exact h9
 have Aw:acd (∀u:World,Below w1.heap.size w1 u→Calls Tryz.prog 92 #[ptr d,.agg (aW n),.int .i64 (k:Int)] u fun e w'=>∃a c,e= .returned (.slice a 1024 c)∧1024≤c∧ah (fun x=>u.heap.size≤x∧x<w'.heap.size) w' a 1024 ((List.replicate 1024 (0:UInt8)).map bv)∧Below u.heap.size u w'):=ab9 fun u hb=>by
  have h9:=E_ (hD.grow (hb1.trans (hb.mono hb1.size))) k hk;rw[hz]at h9;exact h9
 have hrc:zl ⟨2,next,[]⟩:=⟨.inr ⟨rfl,rfl⟩,by show 0≤next∧next≤1099511627776;omega,Nat.zero_le _⟩;have LH:acd (∀u:World,Below w1.heap.size w1 u→Calls Tryz.prog 21 #[ptr p,.agg #[.int .i64 2,.int .u64 next,.slice none 0 0]] u fun e w'=>e= .returned (.int .i64 0)∧∃o',Step o (fun m=>m=B+20) u o' w'∧jm o' (B+20) w' p n d ⟨k,head,next,[⟨2,next,[]⟩]⟩):=ab9 fun u hb=>by
  have hb':=hb1.trans (hb.mono hb1.size);exact Fa (S:=fun _=>True) (hL.grow hM hb') (hM.grow hb') (by omega) ⟨hl.2.1,hl.2.2⟩ hk (by show 0≤next∧next≤1099511627776;omega) (Nat.zero_le _) (fun x hx=>by cases hx) ⟨2,next,[]⟩ hrc (Int.add_zero _).symm (by show uy [⟨2,next,[]⟩]≤942;unfold uy;simp[sP]) none 0 (ah.nil _ _ _) ace
 have Oi:=ab9 (fun(a:Option Addr) (c:Nat) (u:World) (S:Nat→Prop) (hr:ah S u a 1024 ((List.replicate 1024 (0:UInt8)).map bv)) (hc:1024≤c)=>Bo a 1024 c u hr (by omega) hc);have HD:=ab9 hD;have HS:=ab9 hS;have Ka:=ab9 hid;have HM:=ab9 hM;have HB1:=ab9 hb1;have BS:=ab9 hx1;unfold vR at hw1⊢;unfold aW at Aw;have HW1:=ab9 hw1;clear hD hS hL hM hid hb1 hx1 hw1 hl hrc hz;go_enter Tryz.func30,Tryz.ntmps30;go_wp2_with fail;rw[←HW1.o];refine xG ((fun w'=>w'.cell? ⟨w.heap.size,0,none⟩=some (.int .i64 (n:Int))∧w'.cell? ⟨w.heap.size,1,none⟩=some (.int .i64 ((n:Int)/4))∧w'.cell? ⟨w.heap.size,2,none⟩=some (.int .i64 (((n:Int)-1-2*((n:Int)/4))/8)))) ?_ fun hS=> ?_
 ·obtain⟨f0,f1,f2,-⟩:=HF.o _ (Below.refl _ w1).drew;exact⟨f0,f1,f2⟩
 refine aR 0 hS ?_;refine aR 1 hS ?_;refine aR 2 hS ?_;refine aR 3 hS ?_;refine nK 4 fun K hK=> ?_;go_simp;refine(Gh.o _ (Below.refl _ w1).drew).mono ?_;rintro e _ ⟨rfl,rfl⟩;go_wp2_with fail;refine mQ hK (hS) fun hS=> ?_;clear hK K;refine nK 5 fun K hK=> ?_;go_simp;refine(Aw.o _ (Below.refl _ w1).drew).mono ?_;rintro e w2 ⟨a2,c2,rfl,hc2,hr2,hb2⟩;have HB2:acd (Below w1.heap.size w1 w2):=ab9 ((Below.refl _ w1).drew.trans hb2);have HT2:=ab9 (Oi.o a2 c2 w2 _ hr2 hc2);clear hr2 hb2;go_wp2_with fail;refine mQ hK (by obtain⟨f0,f1,f2,-⟩:=HF.o _ HB2.o;exact⟨f0,f1,f2⟩) fun hS=> ?_;clear hK K;refine aR 6 hS ?_;refine wQ ?_;clear hS;go_wp2_with fail;refine HT2.o.mono ?_;rintro e w3 ⟨rfl,hb3⟩;have HB3:=ab9 (HB2.o.trans (hb3.mono HB2.o.size));clear hb3 HT2;go_wp2_with fail;refine(KZ.o _ HB3.o).mono ?_;rintro e w4 ⟨rfl,hb4⟩;have dh:=ab9 (HB3.o.trans (hb4.mono HB3.o.size));clear hb4;go_wp2_with fail;refine(LH.o _ dh.o).mono ?_;rintro e w5 ⟨rfl,o5,hs5,hL5⟩;have jV:=ab9 hs5;have YR:=ab9 hL5;clear hs5 hL5;have hn0:o w.heap.size=0:=Vh fun h9=>by have:=(HM.o.new _ h9).2;omega
 have h0l:¬(0=B+20):=by omega
 have hx5:w5.heap[w.heap.size]? =some (.cells (vR n ia ic gen seq dx recs ha hc) 59 (0,0)):=(jV.o.block (by have:=dh.o.size;omega) (by rw[hn0];exact h0l)).trans ((dh.o.block _ hz1).trans BS.o);obtain⟨f0,f1,f2,f3,f4,f5,f6,f7,f8⟩:=qw hx5;clear hx5;go_wp2_with fail;go_ret;obtain⟨w6,J8⟩:∃w6,w6=w5.alloc (.cells (vaC n d q p ia ic gen seq dx recs ha hc) 61):=⟨_,rfl⟩;have hx6:w6.heap[w5.heap.size]? =some (.cells (vaC n d q p ia ic gen seq dx recs ha hc) 61 (0,0)):=by rw[J8];exact(MapKept.heap_alloc w5 _).1
 have hb6:Below w5.heap.size w5 w6:=by rw[J8];exact wall w5 _
 have hz6:w5.heap.size<w6.heap.size:=(uh.1 hx6).1;unfold vaC at J8;rw[←J8];have Zb:=HB1.o.trans (dh.o.mono HB1.o.size);have X8:Step o (fun m=>m=B+20) w o5 w5:=Step.behind HM.o Zb jV.o;have Ni:=HM.o.step h0l X8;obtain⟨o6,hs6,g1,g2⟩:=dI Ni (B+19) (fun b=>b=w5.heap.size) (w':=w6) (fun b hb=>by subst hb;exact⟨Nat.le_refl _,hz6⟩) hb6;have Rj:¬(0=B+19):=by omega
 refine⟨w5.heap.size,o6,rfl,(X8.mono fun m hm=> .inr hm).trans (hs6.mono fun m hm=> .inl hm),⟨⟨q,p,ia,ic,ha,hc,hx6,(HS.o.xL h0l (by omega) (by omega) (by omega) X8).xL Rj (by omega) (by omega) (by omega) hs6,YR.o.step Rj (by omega) hs6,(Ka.o.free h0l X8).free Rj hs6⟩,g1 _ rfl,hz6,(HD.o.step (by omega) X8).step (by omega) hs6⟩⟩
theorem TY{b:List UInt8}{cw c:Int}(hD:dP o i w d n b True cw)(hM:Marks W o w)(hB:0<B)(hi:i<B)(hf:∀x,o x≠B+15)(id:List UInt8)(x y z:wT)(M N L:dN)(k:Nat)(hI:XY n b id c x y M N)(hN:XZ x y z M N L)(hL:Last n b id z k)(hk:k<gV n):
  Calls Tryz.prog 8 #[ptr d] w fun e w'=>∃v o',e= .returned (.tuple #[ptr v,.int .i64 0])∧Step o (Mm B) w o' w'∧fO W o' i B (B+14) w' v n d ⟨b,cw,iH (iH L),c,⟨k,z.head,z.seq+1,[⟨2,z.seq+1,[]⟩]⟩,z.gen,z.seq,(k:Int),0,id⟩:=by
 have HMT:=ab9 (PG hD hM hB hi hf id x y z M N L k hI hN hL);have hzm:0≤z.seq:=by
  rcases hN with⟨h3,rfl,rfl⟩|⟨h3,rfl,rfl⟩
  ·exact hI.ok0.mark.seq.1
  ·exact hI.ok1.mark.seq.1
 have Wn:=hL.seq;have hzz:=hL.zero k ace hk;have HD:=ab9 hD;have HM:=ab9 hM;clear hD hM hI hN hL;go_enter Tryz.func8,Tryz.ntmps8;go_wp2_with fail;refine HMT.o.mono ?_;rintro e w1 ⟨q,p,ia,ic,ha,hc,o1,rfl,hs1,hS1,hL1,hr1,hr2⟩;have nH:=ab9 hs1;have qH:=ab9 hS1;have LJ:=ab9 hL1;have HR1:=ab9 hr1;clear hs1 hS1 hL1 hr1 hr2 HMT;unfold vR;go_wp2_with fail;have hm0:¬Mm B 0:=fun e=>by have:=e.1;omega
 have hb2:Below w1.heap.size w1 (w1.alloc (.cells (vR n ia ic z.gen z.seq k 0 ha hc) 59)):=wall w1 _;have hbg:=PV (B:=B) ((HD.o.step (fun e=>by have:=e.1;omega) nH.o).grow hb2) (qH.o.grow hb2) (LJ.o.grow qH.o.marks hb2) hB hi (by omega) hk hzz (by omega) z.gen z.seq k 0 id ia ha ic hc (HR1.o.grow' hb2 qH.o.marks);unfold vR at hbg;refine hbg.mono ?_;rintro e w3 ⟨v,o3,rfl,hs3,hV3⟩;have xV:=ab9 (((nH.o.then_ HM.o hm0 hb2).trans (hs3.mono fun m hm=>⟨by omega,by omega⟩)));have YI:=ab9 hV3;unfold vR at xV;clear hs3 hV3 hbg hb2;go_wp2_with fail
 go_ret2
 exact⟨v,o3,rfl,xV.o,YI.o⟩
end
def qy(k:Int)(wr:Bool):Int:=if k=17 then 2 else if k=14∨(k=6∧wr=true)then 1 else 0
theorem wO(x:lN)(wr:Bool)(da:Option Addr)(dc:Nat)(w:World):Calls Tryz.prog 23 #[.agg (opC x da dc),.bool wr] w fun e w'=>e= .returned (.int .i64 (qy x.kind wr))∧Below w.heap.size w w':=by
 obtain⟨w1,hw1⟩:∃w1,w1=w.alloc (.cells (opC x da dc) 40):=⟨_,rfl⟩;have HB1:acd (Below w.heap.size w w1):=by rw[hw1];exact wall w _
 have hx1:w1.heap[w.heap.size]? =some (.cells (opC x da dc) 40 (0,0)):=by rw[hw1];exact(MapKept.heap_alloc w _).1
 obtain⟨c0,-⟩:=lQ hx1;clear hx1;unfold opC at hw1⊢;have HW1:=ab9 hw1;rw[hw1]at c0;clear hw1;by_cases IC:x.kind=17
 ·have hs:acd (qy x.kind wr=2):=ab9 (by unfold qy;rw[if_pos IC]);rw[hs.o];rw[IC]at c0 HW1⊢;clear IC;go_enter Tryz.func23,Tryz.ntmps23;go_wp2_with fail;rw[←HW1.o];go_ret;exact⟨rfl,HB1.o⟩
 ·have e17:(x.kind==17)=false:=by simpa using IC
  by_cases X9:x.kind=14
  ·have hs:acd (qy x.kind wr=1):=ab9 (by unfold qy;rw[if_neg IC,if_pos (.inl X9)]);rw[hs.o];rw[X9]at c0 HW1⊢;clear IC e17 X9;go_enter Tryz.func23,Tryz.ntmps23;go_wp2_with fail;rw[←HW1.o];go_ret;exact⟨rfl,HB1.o⟩
  ·by_cases h6:x.kind=6
   ·cases wr
    ·have hs:acd (qy x.kind false=0):=ab9 (by unfold qy;rw[if_neg IC,if_neg (by intro h;rcases h with h|h;exact X9 h;cases h.2)]);rw[hs.o];rw[h6]at c0 HW1⊢;clear IC e17 X9 h6;go_enter Tryz.func23,Tryz.ntmps23;go_wp2_with fail;rw[←HW1.o];go_ret;exact⟨rfl,HB1.o⟩
    ·have hs:acd (qy x.kind true=1):=ab9 (by unfold qy;rw[if_neg IC,if_pos (.inr ⟨h6,rfl⟩)]);rw[hs.o];rw[h6]at c0 HW1⊢;clear IC e17 X9 h6;go_enter Tryz.func23,Tryz.ntmps23;go_wp2_with fail;rw[←HW1.o];go_ret;exact⟨rfl,HB1.o⟩
   ·have hs:acd (qy x.kind wr=0):=ab9 (by unfold qy;rw[if_neg IC,if_neg (by intro h;rcases h with h|h;exact X9 h;exact h6 h.1)]);have e14:(x.kind==14)=false:=by simpa using X9
    have e6:(x.kind==6)=false:=by simpa using h6
    rw[hs.o];clear IC X9 h6;go_enter Tryz.func23,Tryz.ntmps23;go_wp2_with fail;rw[←HW1.o];go_ret;exact⟨rfl,HB1.o⟩
section
variable{W w w':World}{o o':Mark}{i B sb v n d q p:Nat}{V:Co}
theorem Af(h:fO W o i B sb w v n d V):Calls Tryz.prog 5 #[ptr v] w fun e w'=>e= .returned (.int .u64 V.M.now)∧Below w.heap.size w w':=by
 obtain⟨q,p,ia,ic,ha,hc,h1,h2,h3⟩:=h.at_;obtain⟨c0,c1,-⟩:=jc h1;have HN:=ab9 (now_any h2.st);clear h h1 h2 h3;go_enter Tryz.func5,Tryz.ntmps5;go_wp2_with fail;refine HN.o.mono ?_;rintro e w1 ⟨rfl,hb⟩;have HB:=ab9 hb;clear hb;go_wp2_with fail;go_ret;exact⟨rfl,HB.o⟩
end
abbrev opA(kind:Int)(path gy:ByteArray)(fd at_ n aT snap:Int)(da:Option Addr)(dl dc:Nat):Value:= .agg #[.int .i64 kind,.string path,.string gy,.int .i64 fd,.int .i64 at_,.int .i64 n,.int .u64 aT,.int .i64 snap,.slice da dl dc]
structure yM(o:Mark)(w:World)(g:Nat)(r:wK)(da la:Option Addr)(dc lc:Nat):Prop where
 own:o g=0
 low:g<w.heap.size
 at_:w.heap[g]? =some (.cells (gZ r da la dc lc) 37 (0,0))
 dcap:r.data.length≤dc
 lcap:r.names.length≤lc
 data:ah (Free o w) w da r.data.length (r.data.map bv)
 names:bH (Free o w) w la r.names.length (r.names.map strOf)
abbrev reZ:Array Value:= #[.int .i64 0,.int .i64 0,.slice none 0 0,.slice none 0 0,.int .i64 0,.int .i64 0,.int .i64 0,.int .i64 0,.int .u64 0,.bool false]
section
variable{W w w' w4 w5:World}{o o':Mark}{g:Nat}{r:wK}{da la:Option Addr}{dc lc:Nat}
theorem yM.step{I:Nat→Prop}(h:yM o w g r da la dc lc)(h0:¬I 0)(hs:Step o I w o' w'):yM o' w' g r da la dc lc:=
 ⟨(hs.old g h.low).trans h.own,Nat.lt_of_lt_of_le h.low hs.keep.size,(hs.block h.low (by rw[h.own];exact h0)).trans h.at_,h.dcap,h.lcap,h.data.free h0 hs,⟨h.names.row.free h0 hs,h.names.short⟩⟩
theorem yM.grow(h:yM o w g r da la dc lc)(hM:Marks W o w)(hb:Below w.heap.size w w'):yM o w' g r da la dc lc:=h.step (I:=fun _=>False) (fun e=>e) (Step.grow hM hb)
theorem uf(hM:Marks W o w4)(h1:r.data.length≤dc)(h2:r.names.length≤lc)(h3:ah (Free o w4) w4 da r.data.length (r.data.map bv))(h4:bH (Free o w4) w4 la r.names.length (r.names.map strOf))
  (hs:mE (w4.alloc (.cells reZ 37)) w4.heap.size (gZ r da la dc lc) 37 w5):yM o w5 w4.heap.size r da la dc lc∧Below w4.heap.size w4 w5:=by
 have hb:=hs.below (wall w4 (.cells reZ 37)) ace;have hlt:w4.heap.size<w5.heap.size:=(uh.1 hs.1).1;have hst:Step o (fun _=>False) w4 o w5:=Step.grow hM hb;exact⟨⟨Vh fun h0=>by have:=(hM.new _ h0).2;omega,hlt,hs.1,h1,h2,h3.free (fun e=>e) hst,⟨h4.row.free (fun e=>e) hst,h4.short⟩⟩,hb⟩
theorem yM.er(h:yM o w g r da la dc lc):w.cell? ⟨g,0,none⟩=some (.int .i64 r.er):=by simp[World.cell?,h.at_,gZ]
theorem yM.n(h:yM o w g r da la dc lc):w.cell? ⟨g,1,none⟩=some (.int .i64 r.n):=by simp[World.cell?,h.at_,gZ]
theorem Mx(vs:List Value)(t:TypeId)(m:Nat×Nat)(hm:vs.length≤maxLen):ah (fun x=>x=w.heap.size) (w.alloc (.cells vs.toArray t m)) (some ⟨w.heap.size,0,none⟩) vs.length vs:=by
 refine⟨rfl,hm,fun _=>⟨_,0,rfl,rfl,by simp,fun i hi=> ?_⟩⟩;have hh:(w.alloc (.cells vs.toArray t m)).heap[w.heap.size]? =some (.cells vs.toArray t m):=(MapKept.heap_alloc w _).1;simp only[World.cell?,hh];simp
end
structure OpV(q:Nat)(o:Mark)(w:World)(g:Nat)(x:lN)(da:Option Addr)(dc:Nat):Prop where
 own:o g=q
 low:g<w.heap.size
 at_:w.heap[g]? =some (.cells (opC x da dc) 40 (0,0))
section
variable{W w w' w4 w5:World}{o o':Mark}{q g i p:Nat}{c:Int}{x:lN}{M:dN}{da:Option Addr}{dc:Nat}
theorem OpV.step{I:Nat→Prop}(h:OpV q o w g x da dc)(h0:¬I q)(hs:Step o I w o' w'):OpV q o' w' g x da dc:=
 ⟨(hs.old g h.low).trans h.own,Nat.lt_of_lt_of_le h.low hs.keep.size,(hs.block h.low (by rw[h.own];exact h0)).trans h.at_⟩
theorem OpV.grow(h:OpV q o w g x da dc)(hM:Marks W o w)(hb:Below w.heap.size w w'):OpV q o w' g x da dc:=h.step (I:=fun _=>False) (fun e=>e) (Step.grow hM hb)
theorem OpV.cells(h:OpV q o w g x da dc):w.cell? ⟨g,0,none⟩=some (.int .i64 x.kind)∧w.cell? ⟨g,1,none⟩=some (.string (strOf x.path))∧w.cell? ⟨g,2,none⟩=some (.string (strOf x.gy))∧w.cell? ⟨g,3,none⟩=some (.int .i64 x.fd)∧w.cell? ⟨g,4,none⟩=some (.int .i64 x.at_)∧w.cell? ⟨g,5,none⟩=some (.int .i64 x.n)∧w.cell? ⟨g,6,none⟩=some (.int .u64 x.aT)∧w.cell? ⟨g,7,none⟩=some (.int .i64 x.snap)∧w.cell? ⟨g,8,none⟩=some (.slice da x.data.length dc)∧w.frozen? ⟨g,6,none⟩=false:=by
 have:=h.at_;unfold opC at this;refine⟨?_,?_,?_,?_,?_,?_,?_,?_,?_,?_⟩<;>simp[World.cell?,World.frozen?,this]
theorem xK.one(h:xK W o i w p c M)(hq:q≠0∧(q<i∨i+2<q))(hs:Step o (fun m=>m=q) w o' w'):xK W o' i w' p c M:=
 ⟨h.st.step (fun e=>by omega) (fun e=>by omega) (fun e=>by omega) (fun e=>by omega) hs,h.marks.step (fun e=>by omega) hs,h.ok⟩
theorem yM.one{r:wK}{la:Option Addr}{lc:Nat}(h:yM o w g r da la dc lc)(hq:q≠0)(hs:Step o (fun m=>m=q) w o' w'):yM o' w' g r da la dc lc:=h.step (fun e=>hq e.symm) hs
end
def CK(x:lN):Prop:=x.kind=1∨x.kind=5∨x.kind=6∨x.kind=8∨x.kind=12∨x.kind=16∨x.kind=17
theorem fP.do7{c:Int}{M:dN}(h:fP c M)(x:lN)(hx:wU x)(hF:CK x):fP (c+1) (gB M x).2:=by
 have h':=h.mono (show c≤c+1 by omega);unfold gB;by_cases h0:(ig x).2≠0
 ·rw[if_pos h0];exact h'
 ·rw[if_neg h0];unfold sdoP;rcases hF with e|e|e|e|e|e|e
  ·rw[if_pos e];exact h'.create _
  ·rw[if_neg (by omega),if_neg (by omega),if_neg (by omega),if_neg (by omega),if_pos e];exact h'.write _
  ·rw[if_neg (by omega),if_neg (by omega),if_neg (by omega),if_neg (by omega),if_neg (by omega),if_pos e];exact h'.close _ hx
  ·rw[if_neg (by omega),if_neg (by omega),if_neg (by omega),if_neg (by omega),if_neg (by omega),if_neg (by omega),if_neg (by omega),if_pos e];exact h'.unlink _
  ·rw[if_neg (by omega),if_neg (by omega),if_neg (by omega),if_neg (by omega),if_neg (by omega),if_neg (by omega),if_neg (by omega),if_neg (by omega),if_neg (by omega),if_neg (by omega),if_pos (.inr e)];exact h'
  ·rw[if_neg (by omega),if_neg (by omega),if_neg (by omega),if_neg (by omega),if_neg (by omega),if_neg (by omega),if_neg (by omega),if_neg (by omega),if_neg (by omega),if_neg (by omega),if_neg (by omega),if_neg (by omega),if_neg (by omega),if_neg (by omega),if_pos e];exact⟨h.t,h.s,h'.next,XA h.now,h.fd⟩
  ·rw[if_neg (by omega),if_neg (by omega),if_neg (by omega),if_neg (by omega),if_neg (by omega),if_neg (by omega),if_neg (by omega),if_neg (by omega),if_neg (by omega),if_neg (by omega),if_neg (by omega),if_neg (by omega),if_neg (by omega),if_neg (by omega),if_neg (by omega)];exact h'
section
variable{W w:World}{o:Mark}{i j k l n p:Nat}{M:dN}{c:Int}
theorem X_{S:Nat→Prop}(hS:bT o i j k w p M)(hM:Marks W o w)(hk:Mk5 i j k l n)(cc:Int)(hok:fP cc M)(hcc:cc≤1000000000)(x:lN)(hx:wU x)(hF:CK x)(da:Option Addr)(dc:Nat)(hda:ah S w da x.data.length (x.data.map bv))(m:Int)(hm:w.cell? ⟨2,0,none⟩=some (.int .i64 m)):
  Calls Tryz.prog 18 #[ptr p,.agg (opC x da dc)] w (uG o i j k l n w p (gB M x)):=by
 by_cases hp:(ig x).2=0
 ·obtain⟨kd,pa,gy,fd,at_,nn,aT,sn,dt⟩:=x;rcases hF with e|e|e|e|e|e|e<;>dsimp only at e<;>subst e
  ·exact sdo_k1 ⟨hS,hM,hk,hok,hcc,hx,hda,hm,hp⟩
  ·exact sdo_k5 ⟨hS,hM,hk,hok,hcc,hx,hda,hm,hp⟩
  ·exact sdo_k6 ⟨hS,hM,hk,hok,hcc,hx,hda,hm,hp⟩
  ·exact sdo_k8 ⟨hS,hM,hk,hok,hcc,hx,hda,hm,hp⟩
  ·exact sdo_k12 ⟨hS,hM,hk,hok,hcc,hx,hda,hm,hp⟩
  ·exact sdo_k16 ⟨hS,hM,hk,hok,hcc,hx,hda,hm,hp⟩
  ·exact sdo_k17 ⟨hS,hM,hk,hok,hcc,hx,hda,hm,hp⟩
 ·exact sdo_bad hS hM hk x hx da dc m hm hp
theorem st_do7{S:Nat→Prop}(h:xK W o i w p c M)(hi:0<i)(hc:c≤1000000000)(x:lN)(hx:wU x)(hF:CK x)(da:Option Addr)(dc:Nat)(hda:ah S w da x.data.length (x.data.map bv))(m:Int)(hm:W.cell? ⟨2,0,none⟩=some (.int .i64 m)):
  Calls Tryz.prog 18 #[ptr p,.agg (opC x da dc)] w (DoW W o i w p c M x):=by
 have hmw:w.cell? ⟨2,0,none⟩=some (.int .i64 m):=(h.marks.below.cell (p:=⟨2,0,none⟩) (aaW W _ hm)).trans hm;refine(X_ h.st h.marks (mk5 hi) c h.ok hc x hx hF da dc hda m hmw).mono ?_;rintro e w' ⟨o',h1,hs,hS⟩;have hs5:Step o (Five i) w o' w':=hs.mono fun m hm=>oW hm;exact⟨o',h1,hs5,⟨hS,h.marks.step (fun e=>by have:=e.1;omega) hs5,h.ok.do7 x hx hF⟩⟩
end
end Go.Proofs.YtmflaonodghbcaaGreatDoor
