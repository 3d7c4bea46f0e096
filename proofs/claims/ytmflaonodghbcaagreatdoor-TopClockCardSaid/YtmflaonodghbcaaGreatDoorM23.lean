/- package -/
import Derived.Test.YtmflaonodghbcaaGreatDoorM22
set_option maxRecDepth 100000
set_option maxHeartbeats 64000000
set_option linter.all false
namespace Go.Proofs.YtmflaonodghbcaaGreatDoor
open Go.ChangeShapes Go.WideShapes Go.ChangeAt Go.RowKit
structure QM where
 index:Int
 first:Int
 count:Int
 bytes:Int
 prev:List UInt8
 root:List UInt8
def BX(x:QM)(pa:Option Addr)(pc:Nat)(ra:Option Addr)(rc:Nat):Array Value:= #[.int .i64 x.index,.int .u64 x.first,.int .i64 x.count,.int .i64 x.bytes,.slice pa 32 pc,.slice ra 32 rc]
structure Sl(x:QM):Prop where
 index:0≤x.index∧x.index≤65535
 first:0≤x.first∧x.first≤1099511627776
 count:0≤x.count∧x.count≤65535
 bytes:0≤x.bytes∧x.bytes≤65535
 prev:x.prev.length=32
 root:x.root.length=32
def uz(x:QM):List UInt8:=bA 2 1++bA x.index 2++bA x.first 8++bA x.count 2++x.prev++x.root
theorem AZ{x:QM}(h:Sl x):(uz x).length=77:=by simp[uz,ay,h.prev,h.root]
theorem Hg(a:Option Addr)(c:Nat)(w:World):Calls Tryz.prog 241 #[.slice a 32 c] w fun e w'=>e= .returned (.slice a 32 c)∧w=w':=by
 go_enter Tryz.func241,Tryz.ntmps241;go_wp2_with fail;go_ret;exact⟨rfl,rfl⟩
theorem Sm{S S':Nat→Prop}(x:QM)(h:Sl x)(pa ra:Option Addr)(pc rc:Nat)(w:World)(hp:ah S w pa 32 (x.prev.map bv))(hr:ah S' w ra 32 (x.root.map bv)):Calls Tryz.prog 205 #[.agg (BX x pa pc ra rc)] w (fJ w (uz x)):=by
 have g1:=h.index;have g2:=h.first;have g3:=h.count;have HRP:=ab9 (fB hp);have HRR:=ab9 (fB hr);have hl:=AZ h;have Aw:=ab9 h.prev;have HX:acd (uz x=[]++bA 2 1++bA x.index 2++bA x.first 8++bA x.count 2++x.prev++x.root):=by show uz x=_;unfold uz;simp
 unfold BX;obtain⟨w1,hw1⟩:∃w1,w1=w.alloc (.cells #[.int .i64 x.index,.int .u64 x.first,.int .i64 x.count,.int .i64 x.bytes,.slice pa 32 pc,.slice ra 32 rc] 144):=⟨_,rfl⟩;have HB1:acd (Below w.heap.size w w1):=by rw[hw1];exact wall w _
 have hx1:w1.heap[w.heap.size]? =some (.cells #[.int .i64 x.index,.int .u64 x.first,.int .i64 x.count,.int .i64 x.bytes,.slice pa 32 pc,.slice ra 32 rc] 144 (0,0)):=by rw[hw1];exact(MapKept.heap_alloc w _).1
 have hz1:w.heap.size<w1.heap.size:=(uh.1 hx1).1;have HH:acd (∀u,Below w1.heap.size w1 u→u.cell? ⟨w.heap.size,0,none⟩=some (.int .i64 x.index)∧u.cell? ⟨w.heap.size,1,none⟩=some (.int .u64 x.first)∧u.cell? ⟨w.heap.size,2,none⟩=some (.int .i64 x.count)∧u.cell? ⟨w.heap.size,4,none⟩=some (.slice pa 32 pc)∧u.cell? ⟨w.heap.size,5,none⟩=some (.slice ra 32 rc)):=fun u hb=>by
  have h1:=(hb.block w.heap.size hz1).trans hx1;refine⟨?_,?_,?_,?_,?_⟩<;>simp[World.cell?,h1]
 have HW1:=ab9 hw1;clear h hp hr hw1 hx1;go_enter Tryz.func205,Tryz.ntmps205;go_wp2_with fail;rw[←HW1.o];refine(dB w1).mono ?_;rintro e w3 ⟨rfl,hW3,hb3⟩;have HW3:=ab9 hW3;have HB3:=ab9 hb3;clear hW3 hb3;go_wp2_with fail;refine(kI HW3.o 2 (by omega) (by omega) (by simp)).mono ?_;intro e w4 ht;obtain⟨rfl,x4,Np,hb4⟩:=b_.more HW3.o HB3.o ht;have zm:=ab9 Np;have dh:=ab9 hb4;obtain⟨c0,c1,c2,c4,c5⟩:=HH.o w4 hb4;clear ht Np hb4 HW3 HB3;go_wp2_with fail;refine(dV zm.o x.index g1.1 (by omega) (by simp[ay])).mono ?_;intro e w5 ht;obtain⟨rfl,x5,D5,hb5⟩:=b_.more zm.o dh.o ht;have qB:=ab9 D5;have dX:=ab9 hb5;clear c0 c1 c2 c4 c5;obtain⟨c0,c1,c2,c4,c5⟩:=HH.o w5 hb5;clear ht D5 hb5 zm dh;go_wp2_with fail;refine(iy qB.o x.first g2.1 (by omega) (by simp[ay])).mono ?_;intro e w6 ht;obtain⟨rfl,x6,CW,hb6⟩:=b_.more qB.o dX.o ht;have qN:=ab9 CW;have oK:=ab9 hb6;clear c0 c1 c2 c4 c5;obtain⟨c0,c1,c2,c4,c5⟩:=HH.o w6 hb6;clear ht CW hb6 qB dX;go_wp2_with fail;refine(dV qN.o x.count g3.1 (by omega) (by simp[ay])).mono ?_;intro e w7 ht;obtain⟨rfl,x7,Jj,iR⟩:=b_.more qN.o oK.o ht;have sQ:=ab9 Jj;have jw:=ab9 iR;clear c0 c1 c2 c4 c5;obtain⟨c0,c1,c2,c4,c5⟩:=HH.o w7 iR;have tu:=ab9 (HRP.o.below (HB1.o.trans (iR.mono HB1.o.size)) ace);clear ht Jj iR qN oK;go_wp2_with fail;refine(Hg pa pc w7).mono ?_;rintro e _ ⟨rfl,rfl⟩;go_wp2_with fail;refine(gF sQ.o pa 32 pc x.prev tu.o (by simp[ay]) (by omega)).mono ?_;intro e w8 ht;obtain⟨rfl,x8,Lb,gJ⟩:=b_.more sQ.o jw.o ht;have Cy:=ab9 Lb;have nG:=ab9 gJ;clear c0 c1 c2 c4 c5;obtain⟨c0,c1,c2,c4,c5⟩:=HH.o w8 gJ;have Nq:=ab9 (HRR.o.below (HB1.o.trans (gJ.mono HB1.o.size)) ace);clear ht Lb gJ sQ jw tu;go_wp2_with fail;refine(Hg ra rc w8).mono ?_;rintro e _ ⟨rfl,rfl⟩;go_wp2_with fail;refine(gF Cy.o ra 32 rc x.root Nq.o (by simp[ay,Aw.o]) (by omega)).mono ?_;intro e w9 ht;obtain⟨rfl,x9,hW9,iT⟩:=b_.more Cy.o nG.o ht;rw[←HX.o]at hW9;have KL:=ab9 hW9;have sU:=ab9 iT;clear ht hW9 iT Cy nG Nq c0 c1 c2 c4 c5;go_wp2_with fail;refine(fK KL.o (by omega)).mono ?_;rintro e wA ⟨aA,nA,cA,rfl,hcA,hrA,MO⟩;have YB:=ab9 hrA;have CX:=ab9 MO;clear hrA MO;go_wp2_with fail;go_ret;have hs1:=HB1.o.size;have Gd:=sU.o.size;exact⟨aA,nA,cA,rfl,hcA,YB.o.mono fun b hb=>⟨by omega,hb.2⟩,(HB1.o.trans (sU.o.mono hs1)).trans (CX.o.mono (by omega))⟩
theorem N9{S S':Nat→Prop}(x:QM)(h:Sl x)(pa ra:Option Addr)(pc rc:Nat)(w:World)(hp:ah S w pa 32 (x.prev.map bv))(hr:ah S' w ra 32 (x.root.map bv)):Calls Tryz.prog 152 #[.agg (BX x pa pc ra rc)] w (fJ w (kg (uz x))):=by
 have hl:=AZ h;have HRW:=ab9 (Sm x h pa ra pc rc (w.alloc (.cells (BX x pa pc ra rc) 144)) (hp.below (wall w _) ace) (hr.below (wall w _) ace));have HB1:=ab9 (wall w (.cells (BX x pa pc ra rc) 144));unfold BX at HRW HB1⊢;obtain⟨w1,hw1⟩:∃w1,w1=w.alloc (.cells #[.int .i64 x.index,.int .u64 x.first,.int .i64 x.count,.int .i64 x.bytes,.slice pa 32 pc,.slice ra 32 rc] 144):=⟨_,rfl⟩;rw[←hw1]at HRW HB1;have HW1:=ab9 hw1;clear h hp hr hw1;go_enter Tryz.func152,Tryz.ntmps152;go_wp2_with fail;rw[←HW1.o];refine HRW.o.mono ?_;rintro e w2 ⟨a2,n2,c2,rfl,hc2,hr2,hb2⟩;have hn2:n2≤77:=by have:=hr2.length;rw[List.length_map]at this;omega
 have HS:=ab9 (zM a2 n2 c2 (uz x) w2 hr2 (by omega) hc2);have HB2:=ab9 (HB1.o.trans (hb2.mono HB1.o.size));clear hr2 hb2 HRW;go_wp2_with fail;refine HS.o.mono ?_;rintro e w3 ⟨a3,n3,c3,rfl,hc3,hr3,hb3⟩;have HR3:=ab9 hr3;have HB3:=ab9 (HB2.o.trans (hb3.mono HB2.o.size));have hs2:=HB2.o.size;clear hr3 hb3;go_wp2_with fail;go_ret;exact⟨a3,n3,c3,rfl,hc3,HR3.o.mono fun b hb=>⟨by omega,hb.2⟩,HB3.o⟩
end Go.Proofs.YtmflaonodghbcaaGreatDoor
