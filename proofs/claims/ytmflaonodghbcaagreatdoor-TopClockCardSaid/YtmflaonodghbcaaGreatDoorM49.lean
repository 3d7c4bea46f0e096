/- TopClock -/
import Derived.Test.YtmflaonodghbcaaGreatDoorM46
import Derived.Test.YtmflaonodghbcaaGreatDoorM47
import Derived.Test.YtmflaonodghbcaaGreatDoorM48
import Derived.Deep.CutBlock
import Derived.Deep.DeepCutAuto
set_option maxRecDepth 100000
set_option maxHeartbeats 64000000
set_option linter.all false
namespace Go.Proofs.YtmflaonodghbcaaGreatDoor.topClock
open Go.ChangeShapes Go.WideShapes Go.ChangeAt Go.RowKit
def MK(W:World)(d j m v:Nat)(l:Int)(wx:World):Prop:=∃o sb V t0 t,(sb=2∨sb=16)∧0≤l∧l≤t0∧fO W o 1 2 sb wx v 1500 d V∧Kc 1500 V t0 t j m
theorem MK.mono{W:World}{d j m v:Nat}{l:Int}{wx:World}(h:MK W d j m v l wx){j' m':Nat}(hj:j≤j')(hm:m≤m'):MK W d j' m' v l wx:=by
 obtain⟨o,sb,V,t0,t,h1,h2,h3,h4,h5⟩:=h;exact⟨o,sb,V,t0,t,h1,h2,h3,h4,h5.mono hj hm⟩
theorem Ui{W w:World}{o:Mark}{d:Nat}{V:Co}{t0 t:Int}{j m:Nat}{c:Int}(hD:dP o 1 w d 1500 V.b True c)(hM:Marks W o w)(hT:Kc 1500 V t0 t j m)(hj:j≤60)(h0:0≤t0)(hc:c=V.c):
  Calls Tryz.prog 8 #[ptr d] w fun e w'=>∃v o' V',e= .returned (.tuple #[ptr v,.int .i64 0])∧fO W o' 1 2 16 w' v 1500 d V'∧Kc 1500 V' t0 t0 j 1:=by
 subst hc;obtain⟨o1,ho⟩:∃o1:Mark,∀x,o1 x=if o x=1 then 1 else 0:=⟨_,fun _=>rfl⟩;have hM1:Marks W o1 w:=⟨fun b hb=>hM.new b fun e=>hb (by rw[ho,if_neg (by omega)]),hM.below⟩;have hD1:dP o1 1 w d 1500 V.b True V.c:=by
  obtain⟨F,sb,mb,l,M,h1,h2,h3⟩:=hD.at_;exact⟨F,sb,mb,l,M,h1,fun x hx=>by rw[ho,if_pos (h2 x hx)],h3⟩
 have hse:=hT.sealed;refine(II hD1 hM1 (fun x=>by rw[ho];split<;>omega) hT.rest (by have:gV 1500=93:=(by decide);omega)).mono ?_;rintro e w' ⟨v,o',seq,rfl,h2,h3⟩;exact⟨v,o',_,rfl,h3,hT.opened hj h0 seq⟩
theorem FI{W w:World}{a:Option Addr}{n i:Nat}{vs:List Value}(hr:ah (Old W) W a n vs)(hb:Below W.heap.size W w)(hi:i<n):∃b off,a=some ⟨b,off,none⟩∧b<w.heap.size∧w.cell? ⟨b,off+i,none⟩=vs[i]? :=by
 obtain⟨b,off,h1,h2,h3,h4⟩:=hr.at_ (by omega);exact⟨b,off,h1,Nat.lt_of_lt_of_le h3 hb.size,((Qf hb).1 b _ h3).trans (h4 i hi)⟩
theorem walk{H:Type}{enc:TypeId×Value→H}(W:World)(base:Nat)(hsh:W.ShapedOpen Tryz.prog)(v0:Value)(d0:DataW H)(p0:List MemPlace)(o0:Value.okWide Tryz.prog W .any base 22 v0)(h0:DataW.Trod enc Tryz.prog W 0 (fun _=>true) true 22 v0 d0 p0)(l0:∀x∈p0,x.block<W.heap.size)(v1:Value)(d1:DataW H)(p1:List MemPlace)(o1:Value.okWide Tryz.prog W .any base 23 v1)(h1:DataW.Trod enc Tryz.prog W 0 (fun _=>true) true 23 v1 d1 p1)(l1:∀x∈p1,x.block<W.heap.size)(v2:Value)(d2:DataW H)(p2:List MemPlace)(o2:Value.okWide Tryz.prog W .any base 23 v2)(h2:DataW.Trod enc Tryz.prog W 0 (fun _=>true) true 23 v2 d2 p2)(l2:∀x∈p2,x.block<W.heap.size)(hsz:(DataW.weightsEach Tryz.prog [22,23,23] ([d0,d1,d2]:List (DataW H))).all (· ≤reachBytes)=true):
  Calls Tryz.prog 3 #[v0,v1,v2] W (Fine W):=by
 obtain⟨mx,hm,hml⟩:=MJ hsh;obtain⟨a0,Uj,cap0,us,rfl,hc0,hr0,hus⟩:∃a len cap us,v0= .slice a len cap∧len≤cap∧ah (Old W) W a len ((us:List Int).map (Value.int .u64))∧∀u∈us,0≤u∧u≤18446744073709551615:=by
  obtain⟨a,len,cap,rfl⟩:=okWide_slice Tryz.underlying22 o0;obtain⟨fuel,hf⟩:=h0;exact Ug hf l0
 obtain⟨a1,len1,cap1,bs1,rfl,hc1,hr1⟩:∃a len cap bs,v1= .slice a len cap∧len≤cap∧ah (Old W) W a len ((bs:List Bool).map Value.bool):=by
  obtain⟨a,len,cap,rfl⟩:=okWide_slice Tryz.underlying23 o1;obtain⟨fuel,hf⟩:=h1;exact Ct hf l1
 obtain⟨a2,len2,cap2,bs2,rfl,hc2,hr2⟩:∃a len cap bs,v2= .slice a len cap∧len≤cap∧ah (Old W) W a len ((bs:List Bool).map Value.bool):=by
  obtain⟨a,len,cap,rfl⟩:=okWide_slice Tryz.underlying23 o2;obtain⟨fuel,hf⟩:=h2;exact Ct hf l2
 have HM:=ab9 hm;have HML:=ab9 hml;have HR0:=ab9 hr0;have HR1:=ab9 hr1;have HR2:=ab9 hr2;have HUS:=ab9 hus;have Xo:acd (Calls Tryz.prog 4 #[.int .i64 1500] W (P_ W 1500)):=ab9 (IJ 1500 (by omega) (by omega) (by decide) W);have hfl:=Yo;clear hm hml hr0 hr1 hr2 hus o0 h0 l0 o1 h1 l1 o2 h2 l2 hsz hsh;go_enter Tryz.func3,Tryz.ntmps3;go_wp2_with fail;refine Xo.o.mono ?_;rintro e w1 ⟨d,v,q,o1,V1,rfl,hV1,hT1⟩;have VY:acd (MK W d 0 1 v 0 w1):=ab9 ⟨o1,16,V1,0,0,.inr rfl,Int.le_refl _,Int.le_refl _,hV1,hT1⟩;clear hV1 hT1 Xo;go_wp2_with fail
 go_loopw [8,10,11,12,13,14,15] (fun vv lv iv _ _ _ _ wr=>∃(k v:Nat) (l:Int),vv=ptr v∧lv= .int .u64 l∧iv= .int .i64 k∧k≤25∧MK W d (2*k) (1+k) v l wr) (fun _ _ iv _ _ _ _ _=>25-(intOf iv).toNat)
 case atStart=>exact⟨0,v,0,rfl,rfl,rfl,by omega,VY.o⟩
 case round=>
  obtain⟨k,v,l,rfl,rfl,rfl,hk,o,sb,V,t0,t,hsb,hl0,hl1,hV,hT⟩:=hrel;have HV:=ab9 hV;have HT:=ab9 hT;clear hV hT;by_cases hlt:k<Uj
  ·by_cases h25:k<25
   ·obtain⟨b0,off0,rfl,hb0,hat⟩:=FI HR0.o HV.o.marks.below hlt;have e0:Uj=us.length:=by have:=HR0.o.length;simpa using this.symm
    have hk2:k<us.length:=by omega
    obtain⟨u,hu⟩:∃u,u=us[k]:=⟨_,rfl⟩;have hub:0≤u∧u≤18446744073709551615:=by rw[hu];exact HUS.o _ (List.getElem_mem hk2)
    rw[List.getElem?_map,List.getElem?_eq_getElem hk2,←hu,aam]at hat;clear hu hk2 e0;have hd1:decide ((k:Int)<(Uj:Int))=true:=by simp;omega
    have hd2:decide ((k:Int)<25)=true:=by simp;omega
    have i0:(0:Int)≤(k:Int):=by omega
    have i1:(k:Int)<(Uj:Int):=by omega
    have mP:=Af HV.o;rw[HT.o.mm,show(lG t).now=t from rfl]at mP;obtain⟨V2,hC,BM,hne⟩:=HT.o.tick (by omega) (by omega) (by decide) hub;have TS:=ab9 mP;have HT2:=ab9 BM;have FP:=ab9 hne;have HTT:=ab9 (Ag (u:=u) HT.o.tt.2 HT.o.tt.1);have HDO:=ab9 (fun(u9:World) (hb:Below wr.heap.size wr u9)=>Qd (r:=iw 0) (M':=lG (g_ t u)) (HV.o.grow hb) hsb (by have:=HT.o.cs;omega) (tick_ok hub) (by simp[CK,Cr]) (by rw[HT.o.mm];exact tick_do t u) hC none 0 (ah.nil _ _ _) (Nat.le_refl 0) mx HM.o (opA 16 ⟨#[]⟩ ⟨#[]⟩ 0 0 0 u 0 none 0 0) rfl);have HAT:=ab9 hat;have HB0:=ab9 hb0;clear mP hC BM hne hat hb0 hub;go_wp2_with fail;refine TS.o.mono ?_;rintro e w2 ⟨rfl,hb2⟩;have hat:w2.cell? ⟨b0,off0+k,none⟩=some (.int .u64 u):=((Qf hb2).1 b0 _ HB0.o).trans HAT.o;have HD2:=ab9 (HDO.o w2 hb2);clear hb2 HDO TS;go_wp2_with fail;refine HD2.o.mono ?_;rintro e w3 ⟨o3,s3,NT,⟨y3,rfl,da3,la3,dc3,lc3,rfl,p1,p2,p3,p4⟩,-,hV3⟩;have YI:=ab9 hV3;have HR3:=ab9 (And.intro p1 (And.intro p2 (And.intro p3 p4)));clear hV3 p1 p2 p3 p4 HD2 hat;go_wp2_with (refine au (by rfl) 37 _ _ (by rfl) _ (gZ (iw 0) da3 la3 dc3 lc3) (by rfl) (by rfl) _ (MapKept.heap_alloc _ _).1 bZ rfl (cO _ _ _ _ _) ?_;intro w4 hs;obtain⟨hv,hb⟩:=uf YI.o.marks HR3.o.1 HR3.o.2.1 HR3.o.2.2.1 HR3.o.2.2.2 hs;have HP4:=ab9 hv;have HV4:=ab9 (YI.o.grow hb);clear hs hv hb HR3 YI);have mP:=Af HV4.o;rw[HT2.o.mm,show(lG (g_ t u)).now=g_ t u from rfl]at mP;refine mP.mono ?_;rintro e w5 ⟨rfl,hb5⟩;have HV5:=ab9 (HV4.o.grow hb5);have c4:=(HP4.o.grow HV4.o.marks hb5).er;rw[show(iw 0).er=0 from rfl]at c4;have d5:decide (g_ t u<t)=false:=by have:=HTT.o.1;simp;omega
    clear mP hb5 HV4 HP4;go_upto_region 12 with(fail);clear c4 d5
    go_cut [60]from 23 to 97 (fun s wx=>∃b:Bool,s= .bool b∧fO W o3 1 2 s3 wx v 1500 d V2)
    case first=>
     by_cases hl:k<len1
     ·obtain⟨b1,off1,rfl,hb1,hat⟩:=FI HR1.o HV5.o.marks.below hl;have e1:len1=bs1.length:=by have:=HR1.o.length;simpa using this.symm
      have hk2:k<bs1.length:=by omega
      rw[List.getElem?_map,List.getElem?_eq_getElem hk2,aam]at hat;obtain⟨x,hx⟩:∃x,x=bs1[k]:=⟨_,rfl⟩;rw[←hx]at hat;have hd:decide ((k:Int)<(len1:Int))=true:=by simp;omega
      have j1:(k:Int)<(len1:Int):=by omega
      clear hx hk2 e1;go_wp2_with fail
      go_meet
      exact⟨x,rfl,HV5.o⟩
     ·have hd:decide ((k:Int)<(len1:Int))=false:=by simp;omega
      go_wp2_with fail
      go_meet
      exact⟨false,rfl,HV5.o⟩
    case rest=>
     obtain⟨b,rfl,hV⟩:=hcut;obtain⟨w6,rfl⟩:∃w6:World,w6=wc:=⟨_,rfl⟩;have Tv:=ab9 hV;clear hV HV5;go_upto_if 60 with(fail)
     go_cut [10]from 23 to 97 (fun lv wx=>∃l':Int,lv= .int .u64 l'∧MK W d (2*k+2) (2+k) v l' wx)
     case first=>
      cases b
      ·go_wp2_with fail
       go_meet
       exact⟨l,rfl,o3,s3,V2,t0,g_ t u,NT,hl0,hl1,Tv.o,HT2.o.mono (by omega) (by omega)⟩
      ·obtain⟨V3,YV,hT3⟩:=HT2.o.sync (by omega) (by omega) (by omega) (by decide) (by omega) (by decide) FP.o;have HT3:=ab9 hT3;have HDS:=ab9 (Qd (r:=iw 0) (M':=lG (g_ t u)) Tv.o NT (by have:=HT2.o.cs;omega) sync_ok (by simp[CK,J4]) (by rw[HT2.o.mm];exact sync_do _) YV none 0 (ah.nil _ _ _) (Nat.le_refl 0) mx HM.o (opA 17 ⟨#[]⟩ ⟨#[]⟩ 0 0 0 0 0 none 0 0) rfl);clear YV hT3;go_wp2_with fail;refine HDS.o.mono ?_;rintro e w7 ⟨o7,s7,hsb7,⟨y7,rfl,da7,la7,dc7,lc7,rfl,-⟩,-,hV7⟩;have Xm:=ab9 hV7;unfold gZ iw;clear hV7 HDS;go_wp2_with fail;have mP:=Af Xm.o;rw[HT3.o.mm,show(lG (g_ t u)).now=g_ t u from rfl]at mP;refine mP.mono ?_;rintro e w8 ⟨rfl,gJ⟩;have HV8:=ab9 (Xm.o.grow gJ);clear mP gJ Xm;go_wp2_with fail
       go_meet
       exact⟨g_ t u,rfl,o7,s7,V3,g_ t u,g_ t u,hsb7,by have:=HTT.o;have:=HT.o.tt;omega,Int.le_refl _,HV8.o,HT3.o.mono (by omega) (by omega)⟩
     case rest=>
      obtain⟨l',rfl,hR⟩:=hcut;obtain⟨w9,rfl⟩:∃w9:World,w9=wc:=⟨_,rfl⟩;clear Tv HT2 FP HTT HT HV;obtain⟨o9,s9,V9,t9,q9,hsb9,hl9,hle9,hV9,hT9⟩:=hR;have L8:=ab9 hV9;have HT9:=ab9 hT9;clear hV9 hT9;go_upto_region 16 with(fail)
      go_cut [77]from 23 to 97 (fun s wx=>∃b:Bool,s= .bool b∧fO W o9 1 2 s9 wx v 1500 d V9)
      case first=>
       by_cases hl:k<len2
       ·obtain⟨b1,off1,rfl,hb1,hat⟩:=FI HR2.o L8.o.marks.below hl;have e1:len2=bs2.length:=by have:=HR2.o.length;simpa using this.symm
        have hk2:k<bs2.length:=by omega
        rw[List.getElem?_map,List.getElem?_eq_getElem hk2,aam]at hat;obtain⟨x,hx⟩:∃x,x=bs2[k]:=⟨_,rfl⟩;rw[←hx]at hat;have hd:decide ((k:Int)<(len2:Int))=true:=by simp;omega
        have j1:(k:Int)<(len2:Int):=by omega
        clear hx hk2 e1;go_wp2_with fail
        go_meet
        exact⟨x,rfl,L8.o⟩
       ·have hd:decide ((k:Int)<(len2:Int))=false:=by simp;omega
        go_wp2_with fail
        go_meet
        exact⟨false,rfl,L8.o⟩
      case rest=>
       obtain⟨b,rfl,hV⟩:=hcut;obtain⟨wA,rfl⟩:∃wA:World,wA=wc:=⟨_,rfl⟩;have MZ:=ab9 hV;clear hV L8;cases b
       ·go_wp2_with fail;have rG:acd (MK W d (2*k+2) (2+k) v l' wA):=ab9 ⟨o9,s9,V9,t9,q9,hsb9,hl9,hle9,MZ.o,HT9.o⟩;go_roundw
        case rel=>exact⟨k+1,v,l',rfl,rfl,by go_num,by omega,rG.o.mono (by omega) (by omega)⟩
        case measure=>simp[intOf];omega
       ·have ZN:=ab9 (Xe MZ.o.disk MZ.o.marks (by omega) (-1) 0);go_wp2_with fail;refine ZN.o.mono ?_;rintro e wB ⟨rfl,oB,hsB,hDB⟩;have Fj:=ab9 (Ui hDB (MZ.o.marks.step (by omega) hsB) HT9.o (by omega) (by omega) rfl);clear hsB hDB ZN;go_wp2_with fail;refine Fj.o.mono ?_;rintro e wC ⟨v',oC,VC,rfl,hVC,hTC⟩;have mP:=Af hVC;rw[hTC.mm,show(lG t9).now=t9 from rfl]at mP;have HNW:=ab9 mP;have WV:=ab9 hVC;have HTC:=ab9 hTC;have d9:decide (t9<l')=false:=by simp;omega
        clear mP hVC hTC Fj;go_wp2_with fail;refine HNW.o.mono ?_;rintro e wD ⟨rfl,hbD⟩;have rG:acd (MK W d (2*k+2) (2+k) v' l' wD):=ab9 ⟨oC,16,VC,t9,t9,.inr rfl,hl9,hle9,WV.o.grow hbD,HTC.o.mono (by omega) (by omega)⟩;clear hbD HNW WV;go_wp2_with fail;go_roundw
        case rel=>exact⟨k+1,v',l',rfl,rfl,by go_num,by omega,rG.o.mono (by omega) (by omega)⟩
        case measure=>simp[intOf];omega
   ·have hd1:decide ((k:Int)<(Uj:Int))=true:=by simp;omega
    have hd2:decide ((k:Int)<25)=false:=by simp;omega
    have HAW:=ab9 (IK wr mx ((Qf HV.o.marks.below).1 _ 0 HML.o|>.trans HM.o));go_wp2_with fail;refine HAW.o.mono ?_;rintro e wF ⟨rfl,Lc⟩;have Da:=ab9 (HV.o.marks.below.trans (Lc.mono HV.o.marks.below.size));clear Lc HAW;go_wp2_with fail;go_ret;exact⟨rfl,Da.o⟩
  ·have hd1:decide ((k:Int)<(Uj:Int))=false:=by simp;omega
   have HAW:=ab9 (IK wr mx ((Qf HV.o.marks.below).1 _ 0 HML.o|>.trans HM.o));go_wp2_with fail;refine HAW.o.mono ?_;rintro e wF ⟨rfl,Lc⟩;have Da:=ab9 (HV.o.marks.below.trans (Lc.mono HV.o.marks.below.size));clear Lc HAW;go_wp2_with fail;go_ret;exact⟨rfl,Da.o⟩
end Go.Proofs.YtmflaonodghbcaaGreatDoor.topClock
