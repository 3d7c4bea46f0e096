/- StateSmall -/
import Derived.Test.YtjnhnlabpccgjaaGreatDoorM50
set_option maxRecDepth 100000
set_option maxHeartbeats 64000000
set_option linter.all false
namespace Go.Proofs.YtjnhnlabpccgjaaGreatDoor.stateSmall
open Go.ChangeShapes Go.WideShapes Go.ChangeAt Go.RowKit
theorem walk{H:Type}{enc:TypeId×Value→H}(W:World)(base:Nat)(hsh:W.ShapedOpen Tryz.prog)(v0:Value)(d0:DataW H)(p0:List MemPlace)(o0:Value.okWide Tryz.prog W .any base 34 v0)(h0:DataW.Trod enc Tryz.prog W 0 (fun _=>true) true 34 v0 d0 p0)(l0:∀x∈p0,x.block<W.heap.size)(hsz:(DataW.weightsEach Tryz.prog [34] ([d0]:List (DataW H))).all (· ≤reachBytes)=true):
  Calls Tryz.prog 5 #[v0] W (ZI W):=by
 obtain⟨m,hm,-⟩:=wB hsh;obtain⟨a,len,cap,rfl,hlc,hops⟩:=Ev h0 l0 o0 (fun n hn=>by
  rw[List.all_eq_true]at hsz;exact of_decide_eq_true (hsz n (nP (j:=0) rfl rfl n hn)))
 have hlm:=hops.1;unfold maxLen at hlm;have HM:=acA hm;have HO:=acA hops;clear hm hops o0 h0 l0 hsz hsh;go_enter Tryz.func5,Tryz.ntmps5;go_wp2_with fail;refine(Hf (i:=1) (Hg W) (by omega)).mono ?_;rintro e w1 ⟨p,o1,rfl,hs1,hS1⟩;have jI:=acA hS1;clear hs1 hS1;go_wp2_with fail;refine(Ia (i:=6) jI.o.marks (by omega)).mono ?_;rintro e w2 ⟨q,o2,rfl,hs2,-,hR2⟩;have HT2:acB (g_ W o2 1 w2 p q 1 sQ):=⟨jI.o.other (by omega) (by omega) (by omega) hs2,hR2⟩;clear hs2 hR2 jI;go_wp2_with fail
 go_loopw [5] (fun iv wr=>ZH W p q 80 iv wr) (fun iv _=>80-(intOf iv).toNat)
 case atStart=>exact⟨0,o2,sQ,rfl,by omega,HT2.o,lD.new⟩
 case round=>
  clear HT2;obtain⟨k,o2,M,rfl,hk,hT,Iz⟩:=hrel;have HT:=acA hT;have Di:=acA Iz;have hbW:=hT.s.below;clear hT Iz;by_cases hgo:k<len∧k<80
  ·obtain⟨hlt,h80⟩:=hgo;obtain⟨b,off,rfl,hbl,hat⟩:=HO.o.2 (by omega);obtain⟨x,da,dc,hx⟩:=hat k hlt;obtain⟨d0,d1,d2,d3,d4,d5,d6,d7,d8⟩:=hx.up hbW hbl;have HX:=acA hx;have hd1:decide ((k:Int)<(len:Int))=true:=by simp;omega
   have hd2:decide ((k:Int)<80)=true:=by simp;omega
   have i0:(0:Int)≤(k:Int):=by omega
   have i1:(k:Int)<(len:Int):=by omega
   have HTM:=acA (KW wr x hx.ok da dc hx.cap (hx.row.below hbW acC));unfold opC at HTM;clear hx hat;go_wp2_with fail;refine HTM.o.mono ?_;rintro e w3 ⟨y,dc2,rfl,hty,hcap,hrow,hb3⟩;have HT3:=acA (HT.o.grow hb3);have OC:=acA (zI HT3.o (by omega) (by omega) y (hty.ok HX.o.ok) (by rw[hty.data,aan];omega) da dc2 (HT3.o.free hrow) m HM.o);have HI2:=acA (HT3.o.OB Di.o y);clear hty hcap hrow hb3 HTM HT d0 d1 d2 d3 d4 d5 d6 d7 d8;go_wp2_with fail;refine OC.o.mono ?_;rintro e w4 ⟨rfl,o4,hs4,kV⟩;have wG:=acA kV;clear hs4 kV OC HT3;go_wp2_with fail;go_roundw
   case rel=>
    refine⟨k+1,o4,(dH M y).2,by go_num,by omega,?_,HI2.o⟩;have h9:=wG.o
    rwa [show(1:Int)+((k+1:Nat):Int)=1+(k:Int)+1 by omega]
   case measure=>simp[intOf];omega
  ·have RP:=acA (wh HT.o (by omega) (by omega) Di.o);have nD:acB (∀w5,Below wr.heap.size wr w5→w5.cell? ⟨0,0,none⟩=some (.int .i64 m)∧Below W.heap.size W w5):=fun w5 hb=>⟨HT.o.first HM.o hb,hbW.trans (hb.mono hbW.size)⟩;clear hbW HT;by_cases hlt:k<len
   ·have hd1:decide ((k:Int)<(len:Int))=true:=by simp;omega
    have hd2:decide ((k:Int)<80)=false:=by simp;omega
    have h80:¬k<80:=fun h=>hgo ⟨hlt,h⟩;clear hgo;go_wp2_with fail;refine RP.o.mono ?_;rintro e w5 ⟨rfl,hb5⟩;have HK:=acA (o_ w5 m (nD.o w5 hb5).1);have fH:=acA (nD.o w5 hb5).2;clear hb5 RP;go_wp2_with fail;refine HK.o.mono ?_;rintro e w6 ⟨rfl,hb6⟩;have mM:=acA (fH.o.trans (hb6.mono fH.o.size));clear hb6 HK;go_wp2_with fail;go_ret;exact⟨rfl,mM.o⟩
   ·have hd1:decide ((k:Int)<(len:Int))=false:=by simp;omega
    clear hgo;go_wp2_with fail;refine RP.o.mono ?_;rintro e w5 ⟨rfl,hb5⟩;have HK:=acA (o_ w5 m (nD.o w5 hb5).1);have fH:=acA (nD.o w5 hb5).2;clear hb5 RP;go_wp2_with fail;refine HK.o.mono ?_;rintro e w6 ⟨rfl,hb6⟩;have mM:=acA (fH.o.trans (hb6.mono fH.o.size));clear hb6 HK;go_wp2_with fail;go_ret;exact⟨rfl,mM.o⟩
end Go.Proofs.YtjnhnlabpccgjaaGreatDoor.stateSmall
