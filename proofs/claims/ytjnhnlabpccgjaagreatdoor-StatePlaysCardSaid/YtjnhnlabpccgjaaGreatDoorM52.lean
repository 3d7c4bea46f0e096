/- permafrostkeep -/
import Derived.Test.YtjnhnlabpccgjaaGreatDoorM08
import Derived.Test.YtjnhnlabpccgjaaGreatDoorM04
import Derived.Lib.Split
import Derived.Test.YtjnhnlabpccgjaaGreatDoorM50
import Derived.Test.YtjnhnlabpccgjaaGreatDoorM47
set_option maxRecDepth 100000
set_option maxHeartbeats 64000000
set_option linter.all false
namespace Go.Proofs.YtjnhnlabpccgjaaGreatDoor
open Go.ChangeShapes Go.WideShapes Go.ChangeAt Go.RowKit
theorem Nr(l:List UInt8):(strOf l).data.toList=l:=rfl
theorem Ro(s:ByteArray):strOf s.data.toList=s:=by cases s;rfl
theorem OD{a b:ByteArray}(h:a=b):Ending.returned (.string a)= .returned (.string b):=by rw[h]
theorem KX(s:ByteArray)(n:Int)(w:World)(h0:0≤n)(hs:s.size≤maxLen)(hn:n≤1000000):
  Calls Tryz.prog 38 #[.string s,.int .i64 n] w fun e w'=>e= .returned (.string (strOf (s.data.toList.take n.toNat)))∧w=w':=by
 unfold maxLen at hs;have hl:s.data.toList.length=s.size:=by simp
 by_cases h:n<(s.size:Int)
 ·go_enter Tryz.func38,Tryz.ntmps38;go_wp2;go_ret;refine⟨OD (WideShapes.bytes_inj ?_),rfl⟩;rw[Lib.extract_data,Nr];simp
 ·go_enter Tryz.func38,Tryz.ntmps38;go_wp2;go_ret;refine⟨OD ?_,rfl⟩;rw[List.take_of_length_le (by omega),Ro]
def nQ(x:jD):jD:={x with path:=x.path.take 210,dD:=x.dD.take 210,data:=x.data.take 610}
theorem VZ{x:jD}(hx:Et x):lY (nQ x):=
 ⟨hx.wk,hx.wf,hx.wa,hx.wn,hx.ws,hx.wt,by show(x.path.take 210).length<_;rw[aan];omega,by show(x.dD.take 210).length<_;rw[aan];omega,by show(x.data.take 610).length≤_;rw[aan];omega⟩
theorem V3{S:Nat→Prop}(w:World)(x:jD)(hx:Et x)(da:Option Addr)(dc:Nat)(hdc:x.data.length≤dc)(hda:ah S w da x.data.length (x.data.map bv)):
  Calls Tryz.prog 12 #[.agg (opC x da dc)] w fun e w'=>e= .returned (.agg (opC (nQ x) da dc))∧ah S w' da (nQ x).data.length ((nQ x).data.map bv)∧Below w.heap.size w w':=by
 obtain⟨w2,hw2⟩:∃w2,w2=(w.alloc (.cells (opC x da dc) 30)).alloc (.cells opZ 30):=⟨_,rfl⟩;have hb2:Below w.heap.size w w2:=by rw[hw2];exact(acD.alloc acC _).trans ((acD.alloc acC _).mono (by simp))
 have hop:w2.heap[w.heap.size]? =some (.cells (opC x da dc) 30 (0,0)):=by
  rw[hw2];exact((acD.alloc acC _).block _ (by simp)).trans (MapKept.heap_alloc w _).1
 have hre:w2.heap[w.heap.size+1]? =some (.cells opZ 30 (0,0)):=by
  rw[hw2];have:=(MapKept.heap_alloc (w.alloc (.cells (opC x da dc) 30)) (.cells opZ 30)).1;rw[aad]at this;exact this
 have hc:(w2.cell? ⟨w.heap.size,0,none⟩=some (.int .i64 x.kind)∧w2.cell? ⟨w.heap.size,1,none⟩=some (.string (strOf x.path))∧w2.cell? ⟨w.heap.size,2,none⟩=some (.string (strOf x.dD))∧w2.cell? ⟨w.heap.size,3,none⟩=some (.int .i64 x.fd)∧w2.cell? ⟨w.heap.size,4,none⟩=some (.int .i64 x.at_)∧w2.cell? ⟨w.heap.size,5,none⟩=some (.int .i64 x.n)∧w2.cell? ⟨w.heap.size,6,none⟩=some (.int .u64 x.aA)∧w2.cell? ⟨w.heap.size,7,none⟩=some (.int .i64 x.snap)∧w2.cell? ⟨w.heap.size,8,none⟩=some (.slice da x.data.length dc))∧∀j,w2.frozen? ⟨w.heap.size,j,none⟩=false:=by
  unfold opC at hop;refine⟨?_,fun j=> ?_⟩
  ·refine⟨?_,?_,?_,?_,?_,?_,?_,?_,?_⟩<;>simp[World.cell?,hop]
  ·simp[World.frozen?,hop]
 have hret:∀u v z:Value,((((w2.setCell ⟨w.heap.size,1,none⟩ u).setCell ⟨w.heap.size,2,none⟩ v).setCell ⟨w.heap.size,8,none⟩ z)).heap[w.heap.size+1]? =some (.cells opZ 30 (0,0))∧Below w.heap.size w (((w2.setCell ⟨w.heap.size,1,none⟩ u).setCell ⟨w.heap.size,2,none⟩ v).setCell ⟨w.heap.size,8,none⟩ z):=fun u v z=>by
  have hbs:=hb2.size;have hz:=fun(w:World) a v=>size_set w a v;refine⟨(aV _ _ _ _ (by simp)).trans ((aV _ _ _ _ (by simp)).trans ((aV _ _ _ _ (by simp)).trans hre)),((hb2.trans (uG _ _ _ hbs acC)).trans (uG _ _ _ (by rw[hz];exact hbs) acC)).trans (uG _ _ _ (by rw[hz,hz];exact hbs) acC)⟩
 obtain⟨n6,XO⟩:∃n6,n6=(x.data.take 610).length:=⟨_,rfl⟩;have HN6:=acA XO;have h1:=aI (i:=1) (v:= .string (strOf (x.path.take 210))) hop;have h2:=aI (i:=2) (v:= .string (strOf (x.dD.take 210))) h1;have hfin:((((w2.setCell ⟨w.heap.size,1,none⟩ (.string (strOf (x.path.take 210)))).setCell ⟨w.heap.size,2,none⟩ (.string (strOf (x.dD.take 210)))).setCell ⟨w.heap.size,8,none⟩ (.slice da n6 dc))).heap[w.heap.size]? =some (.cells (opC (nQ x) da dc) 30 (0,0)):=by rw[XO];exact aI (i:=8) (v:= .slice da (x.data.take 610).length dc) h2
 have lQ:=acA (And.intro hfin (hret (.string (strOf (x.path.take 210))) (.string (strOf (x.dD.take 210))) (.slice da n6 dc)));clear h1 h2 hfin XO;obtain⟨⟨z0,z1,z2,z3,z4,z5,z6,z7,z8⟩,zf⟩:=hc;have HX:=acA hx;have HW2:=acA hw2;have PV:acB (∀w:World,Calls Tryz.prog 38 #[.string (strOf x.path),.int .i64 210] w fun e w'=>e= .returned (.string (strOf (x.path.take 210)))∧w=w'):=acA fun w=>KX (strOf x.path) 210 w (by omega) (by rw[fu];exact hx.wp) (by omega);have HH2:acB (∀w:World,Calls Tryz.prog 38 #[.string (strOf x.dD),.int .i64 210] w fun e w'=>e= .returned (.string (strOf (x.dD.take 210)))∧w=w'):=acA fun w=>KX (strOf x.dD) 210 w (by omega) (by rw[fu];exact hx.wq) (by omega);have Ag:acB (∀w:World,Calls Tryz.prog 17 #[.slice da x.data.length dc,.int .i64 610] w fun e w'=>e= .returned (.slice da n6 dc)∧w=w'):=acA fun w=>by
  have:=OA da x.data.length dc 610 hdc (by omega) hda.small w;rw[show min x.data.length 610=n6 by rw[HN6.o,aan,Nat.min_comm]]at this;exact this
 have iL:acB (∀w',Below w.heap.size w w'→ah S w' da (nQ x).data.length ((nQ x).data.map bv)):=acA fun w' hb=>by
  have:=(hda.take 610).below hb acC;show ah S w' da (x.data.take 610).length ((x.data.take 610).map bv);rw[aan,Nat.min_comm,aa9];exact this
 clear hw2 hb2 hop hre hret hx hda hdc;unfold opC at HW2;unfold opC;go_enter Tryz.func12,Tryz.ntmps12;go_upto_region 1 with(fail);rw[←HW2.o];clear HW2;go_wp2_with fail;refine(PV.o _).mono ?_;rintro e w3 ⟨rfl,rfl⟩;go_wp2_with fail;refine(HH2.o _).mono ?_;rintro e w3 ⟨rfl,rfl⟩;go_wp2_with fail;refine(Ag.o _).mono ?_;rintro e w3 ⟨rfl,rfl⟩;go_upto_region 4 with(fail);clear z0 z1 z2 z3 z4 z5 z6 z7 z8 zf;revert lQ;generalize (((w2.setCell ⟨w.heap.size,1,none⟩ (.string (strOf (x.path.take 210)))).setCell ⟨w.heap.size,2,none⟩ (.string (strOf (x.dD.take 210)))).setCell ⟨w.heap.size,8,none⟩ (.slice da n6 dc))=w5;intro lQ;have hc:w5.cell? ⟨w.heap.size,0,none⟩=some (.int .i64 x.kind)∧w5.cell? ⟨w.heap.size,1,none⟩=some (.string (strOf (x.path.take 210)))∧w5.cell? ⟨w.heap.size,2,none⟩=some (.string (strOf (x.dD.take 210)))∧w5.cell? ⟨w.heap.size,3,none⟩=some (.int .i64 x.fd)∧w5.cell? ⟨w.heap.size,4,none⟩=some (.int .i64 x.at_)∧w5.cell? ⟨w.heap.size,5,none⟩=some (.int .i64 x.n)∧w5.cell? ⟨w.heap.size,6,none⟩=some (.int .u64 x.aA)∧w5.cell? ⟨w.heap.size,7,none⟩=some (.int .i64 x.snap)∧w5.cell? ⟨w.heap.size,8,none⟩=some (.slice da n6 dc):=by
  rw[HN6.o];have:=lQ.o.1;unfold opC nQ at this;refine⟨?_,?_,?_,?_,?_,?_,?_,?_,?_⟩<;>simp[World.cell?,this]
 obtain⟨z0,z1,z2,z3,z4,z5,z6,z7,z8⟩:=hc;go_wp2_with (refine ak (by rfl) 30 _ _ (by rfl) (w.heap.size+1) (opC (nQ x) da dc) (by rfl) (by rw[HN6.o];rfl) _ lQ.o.2.1 oF rfl (mQ _ _ _) ?_;intro w6 hs6;have lg:=acA hs6;clear hs6);have hb6:=lg.o.below lQ.o.2.2 (ab2 _);exact wu rfl rfl rfl lg.o.1 ⟨rfl,iL.o _ hb6,hb6⟩
end Go.Proofs.YtjnhnlabpccgjaaGreatDoor
namespace Go.Proofs.YtjnhnlabpccgjaaGreatDoor.statePlays
open Go.ChangeShapes Go.WideShapes Go.ChangeAt Go.RowKit
section
variable{W w w':World}{o o':Mark}{i p q g r:Nat}{c:Int}{M:dS}{x y:jD}{da db:Option Addr}{dc dd:Nat}
theorem IB(h:g_ W o i w p q c M)(hr:r≠0∧(r<i∨i+9<r))(hs:Step o (fun m=>m=r) w o' w'):g_ W o' i w' p q c M:=
 ⟨h.s.one ⟨hr.1,by omega⟩ hs,h.r.step (fun e=>hr.1 e.symm) (fun e=>by omega) (fun e=>by omega) (fun e=>by omega) hs⟩
theorem put_op(h:Q8 r o w g x da dc)(hM:Marks W o w)(hs:jo w g (opC y db dd) 30 w'):Step o (fun m=>m=r) w o w'∧Q8 r o w' g y db dd:=
 ⟨hs.step hM h.own,h.own,by have:=hs.2.2;have:=h.low;omega,hs.1⟩
theorem V4(h:Q8 r o w g x da dc):w.cell? ⟨g,0,none⟩=some (.int .i64 x.kind)∧w.cell? ⟨g,1,none⟩=some (.string (strOf x.path))∧w.cell? ⟨g,2,none⟩=some (.string (strOf x.dD))∧w.cell? ⟨g,3,none⟩=some (.int .i64 x.fd)∧w.cell? ⟨g,4,none⟩=some (.int .i64 x.at_)∧w.cell? ⟨g,5,none⟩=some (.int .i64 x.n)∧w.cell? ⟨g,6,none⟩=some (.int .u64 x.aA)∧w.cell? ⟨g,7,none⟩=some (.int .i64 x.snap)∧w.cell? ⟨g,8,none⟩=some (.slice da x.data.length dc):=
 ⟨h.cells.1,h.cells.2.1,h.cells.2.2.1,h.cells.2.2.2.1,h.cells.2.2.2.2.1,h.cells.2.2.2.2.2.1,h.cells.2.2.2.2.2.2.1,h.cells.2.2.2.2.2.2.2.1,h.cells.2.2.2.2.2.2.2.2.1⟩
theorem Rp(x:jD):(nQ x).data.length≤1000000:=by
 show(x.data.take 610).length≤_;rw[aan];omega
end
theorem walk{H:Type}{enc:TypeId×Value→H}(W:World)(base:Nat)(hsh:W.ShapedOpen Tryz.prog)(v0:Value)(d0:DataW H)(p0:List MemPlace)(o0:Value.okWide Tryz.prog W .any base 34 v0)(h0:DataW.Trod enc Tryz.prog W 0 (fun _=>true) true 34 v0 d0 p0)(l0:∀x∈p0,x.block<W.heap.size)(hsz:(DataW.weightsEach Tryz.prog [34] ([d0]:List (DataW H))).all (· ≤reachBytes)=true):
  Calls Tryz.prog 4 #[v0] W (ZI W):=by
 obtain⟨m,hm,-⟩:=wB hsh;obtain⟨a,len,cap,rfl,hlc,hops⟩:=Ev h0 l0 o0 (fun n hn=>by
  rw[List.all_eq_true]at hsz;exact of_decide_eq_true (hsz n (nP (j:=0) rfl rfl n hn)))
 have hlm:=hops.1;unfold maxLen at hlm;have HM:=acA hm;have HO:=acA hops;clear hm hops o0 h0 l0 hsz hsh;go_enter Tryz.func4,Tryz.ntmps4;go_wp2_with fail;refine(Hf (i:=1) (Hg W) (by omega)).mono ?_;rintro e w1 ⟨p,o1,rfl,hs1,hS1⟩;have jI:=acA hS1;clear hs1 hS1;go_wp2_with fail;refine(Ia (i:=6) jI.o.marks (by omega)).mono ?_;rintro e w2 ⟨q,o2,rfl,hs2,-,hR2⟩;have HT2:acB (g_ W o2 1 w2 p q 1 sQ):=⟨jI.o.other (by omega) (by omega) (by omega) hs2,hR2⟩;clear hs2 hR2 jI;go_wp2_with fail
 go_loopw [5] (fun iv wr=>ZH W p q 60 iv wr) (fun iv _=>60-(intOf iv).toNat)
 case atStart=>exact⟨0,o2,sQ,rfl,by omega,HT2.o,lD.new⟩
 case round=>
  clear HT2;obtain⟨k,o2,M,rfl,hk,hT,Iz⟩:=hrel;have HT:=acA hT;have Di:=acA Iz;have hbW:=hT.s.below;clear hT Iz;by_cases hgo:k<len∧k<60
  ·obtain⟨hlt,h60⟩:=hgo;obtain⟨b,off,rfl,hbl,hat⟩:=HO.o.2 (by omega);obtain⟨x,da,dc,hx⟩:=hat k hlt;obtain⟨d0,d1,d2,d3,d4,d5,d6,d7,d8⟩:=hx.up hbW hbl;have HX:=acA hx;have hd1:decide ((k:Int)<(len:Int))=true:=by simp;omega
   have hd2:decide ((k:Int)<60)=true:=by simp;omega
   have i0:(0:Int)≤(k:Int):=by omega
   have i1:(k:Int)<(len:Int):=by omega
   have LP:=acA (V3 wr x hx.ok da dc hx.cap (hx.row.below hbW acC));unfold opC at LP;clear hx hat hbW;go_wp2_with fail;refine LP.o.mono ?_;rintro e w3 ⟨rfl,hrow,hb3⟩;have iL:=acA hrow;have HT3:=acA (HT.o.grow hb3);clear hrow hb3 LP HT d0 d1 d2 d3 d4 d5 d6 d7 d8;cases hb4:(x.at_.tmod 4 !=0)with
   |false=>
    go_wp2_with (refine ak (by rfl) 30 _ _ (by rfl) _ (opC (nQ x) da dc) (by rfl) (by rfl) _ (MapKept.heap_alloc _ _).1 oF rfl (mQ _ _ _) ?_;intro w4 hs4;obtain⟨o4,V5,hv4⟩:=Vw HT3.o.s.marks 11 hs4;have HR4:=acA (iL.o.below (hs4.below (wall w3 (.cells opZ 30)) acC) (by have:=HT3.o.s.below.size;omega));have HV4:=acA hv4;have wG:=acA (IB HT3.o (by omega) V5);obtain⟨d0,d1,d2,d3,d4,d5,d6,d7,d8⟩:=HX.o.up wG.o.s.below hbl;obtain⟨v0,v1,v2,v3,v4,v5,v6,v7,v8⟩:=V4 HV4.o;clear hs4 V5 hv4 HT3 iL d0 d1 d2 d3 d5 d6 d7 d8);have OC:=acA (zI wG.o (by omega) (by omega) (nQ x) (VZ HX.o.ok) (Rp x) da dc (wG.o.free HR4.o) m HM.o);unfold opC at OC;have HI2:=acA (wG.o.OB Di.o (nQ x));clear wG HV4 HR4 v0 v1 v2 v3 v4 v5 v6 v7 v8 d4;refine OC.o.mono ?_;rintro e w5 ⟨rfl,o5,hs5,Jb⟩;have zK:=acA Jb;clear hs5 Jb OC;go_wp2_with fail;go_roundw
    case rel=>
     refine⟨k+1,o5,_,by go_num,by omega,?_,HI2.o⟩;have h9:=zK.o
     rwa [show(1:Int)+((k+1:Nat):Int)=1+(k:Int)+1 by omega]
    case measure=>simp[intOf];omega
   |true=>
    go_wp2_with (refine ak (by rfl) 30 _ _ (by rfl) _ (opC (nQ x) da dc) (by rfl) (by rfl) _ (MapKept.heap_alloc _ _).1 oF rfl (mQ _ _ _) ?_;intro w4 hs4;obtain⟨o4,V5,hv4⟩:=Vw HT3.o.s.marks 11 hs4;have HV4:=acA hv4;have wG:=acA (IB HT3.o (by omega) V5);obtain⟨d0,d1,d2,d3,d4,d5,d6,d7,d8⟩:=HX.o.up wG.o.s.below hbl;clear hs4 V5 hv4 HT3 iL);have HTM:=acA (KW w4 x HX.o.ok da dc HX.o.cap (HX.o.row.below wG.o.s.below acC));unfold opC at HTM;refine HTM.o.mono ?_;rintro e w6 ⟨y,dc2,rfl,hty,hcap,hrow,hb6⟩;have HTY:=acA hty;have iL:=acA hrow;have BM:=acA (wG.o.grow hb6);have HV6:=acA (HV4.o.grow wG.o.s.marks hb6);clear hty hcap hrow hb6 HTM wG HV4 d0 d1 d2 d3 d4 d5 d6 d7 d8;go_wp2_with (refine ak (by rfl) 30 _ _ (by rfl) _ (opC y da dc2) (by rfl) (by rfl) _ HV6.o.at_ oF rfl (mQ _ _ _) ?_;intro w7 hs7;obtain⟨hs7',hv7⟩:=put_op HV6.o BM.o.s.marks hs7;have Gd:=acA ((BM.o.free iL.o).free (o':=o4) (by omega) hs7');have HV7:=acA hv7;have Pj:=acA (IB BM.o (by omega) hs7');obtain⟨v0,v1,v2,v3,v4,v5,v6,v7,v8⟩:=V4 HV7.o;clear hs7 hs7' hv7 BM HV6 iL);have OC:=acA (zI Pj.o (by omega) (by omega) y (HTY.o.ok HX.o.ok) (by rw[HTY.o.data,aan];omega) da dc2 Gd.o m HM.o);unfold opC at OC;have HI2:=acA (Pj.o.OB Di.o y);clear Pj HV7 Gd v0 v1 v2 v3 v4 v5 v6 v7 v8;refine OC.o.mono ?_;rintro e w5 ⟨rfl,o5,hs5,Jb⟩;have zK:=acA Jb;clear hs5 Jb OC;go_wp2_with fail;go_roundw
    case rel=>
     refine⟨k+1,o5,_,by go_num,by omega,?_,HI2.o⟩;have h9:=zK.o
     rwa [show(1:Int)+((k+1:Nat):Int)=1+(k:Int)+1 by omega]
    case measure=>simp[intOf];omega
  ·have RP:=acA (wh HT.o (by omega) (by omega) Di.o);have nD:acB (∀w5,Below wr.heap.size wr w5→w5.cell? ⟨0,0,none⟩=some (.int .i64 m)∧Below W.heap.size W w5):=fun w5 hb=>⟨HT.o.first HM.o hb,hbW.trans (hb.mono hbW.size)⟩;clear hbW HT;by_cases hlt:k<len
   ·have hd1:decide ((k:Int)<(len:Int))=true:=by simp;omega
    have hd2:decide ((k:Int)<60)=false:=by simp;omega
    have h60:¬k<60:=fun h=>hgo ⟨hlt,h⟩;clear hgo;go_wp2_with fail;refine RP.o.mono ?_;rintro e w5 ⟨rfl,hb5⟩;have HK:=acA (o_ w5 m (nD.o w5 hb5).1);have fH:=acA (nD.o w5 hb5).2;clear hb5 RP;go_wp2_with fail;refine HK.o.mono ?_;rintro e w6 ⟨rfl,hb6⟩;have mM:=acA (fH.o.trans (hb6.mono fH.o.size));clear hb6 HK;go_wp2_with fail;go_ret;exact⟨rfl,mM.o⟩
   ·have hd1:decide ((k:Int)<(len:Int))=false:=by simp;omega
    clear hgo;go_wp2_with fail;refine RP.o.mono ?_;rintro e w5 ⟨rfl,hb5⟩;have HK:=acA (o_ w5 m (nD.o w5 hb5).1);have fH:=acA (nD.o w5 hb5).2;clear hb5 RP;go_wp2_with fail;refine HK.o.mono ?_;rintro e w6 ⟨rfl,hb6⟩;have mM:=acA (fH.o.trans (hb6.mono fH.o.size));clear hb6 HK;go_wp2_with fail;go_ret;exact⟨rfl,mM.o⟩
end Go.Proofs.YtjnhnlabpccgjaaGreatDoor.statePlays
