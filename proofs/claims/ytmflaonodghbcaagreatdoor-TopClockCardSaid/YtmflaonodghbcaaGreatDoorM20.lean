/- package -/
import Derived.Test.YtmflaonodghbcaaGreatDoorM19
import Derived.Test.YtmflaonodghbcaaGreatDoorM18
import Derived.Test.YtmflaonodghbcaaGreatDoorM04
import Derived.WalkLawsBesides
import Derived.BigQuiet
set_option maxRecDepth 100000
set_option maxHeartbeats 64000000
set_option linter.all false
namespace Go.Proofs.YtmflaonodghbcaaGreatDoor
open Go.ChangeShapes Go.WideShapes Go.ChangeAt Go.RowKit
def J9(ws:List Int):Array Value:=((ws++List.replicate (64-ws.length) 0).map gq).toArray
theorem VE(ws:List Int)(x:Int)(h:ws.length<64):(J9 ws).setIfInBounds ws.length (gq x)=J9 (ws++[x]):=by
 unfold J9;rw[aao];congr 1;have e:64-ws.length=(64-(ws++[x]).length)+1:=by simp;omega
 rw[e,List.replicate_succ,aaz,aaz,List.map_cons,List.set_append_right _ _ (by simp)];simp
theorem Zz(ws:List Int)(i:Nat)(h:i<ws.length):(J9 ws)[i]? =some (gq (ws.getD i 0)):=by
 unfold J9;rw[aan,List.getElem?_map,aaZ h,aaX,List.getElem?_eq_getElem h];rfl
theorem zJ{w:World}{b i:Nat}{ws:List Int}(hw:w.heap[b]? =some (.cells (J9 ws) 344 (0,0)))(h:i<ws.length):w.cell? ⟨b,i,none⟩=some (gq (ws.getD i 0)):=by
 rw[←Zz ws i h];simp[World.cell?,hw]
theorem QK{w:World}{b i:Nat}{ws:List Int}(hw:w.heap[b]? =some (.cells (J9 ws) 344 (0,0)))(h:ws.length≤i)(h64:i<64):w.cell? ⟨b,i,none⟩=some (.int .u32 0):=by
 have:(J9 ws)[i]? =some (.int .u32 0):=by
  unfold J9;rw[aan,List.getElem?_map,aaD h,abd,if_pos (by omega)];rfl
 rw[←this];simp[World.cell?,hw]
theorem VF{w:World}{b:Nat}{ws:List Int}(hw:w.heap[b]? =some (.cells (J9 ws) 344 (0,0)))(h:ws.length<64)(x:Int):(w.setCell ⟨b,ws.length,none⟩ (gq x)).heap[b]? =some (.cells (J9 (ws++[x])) 344 (0,0)):=by
 rw[aK hw,VE ws x h]
theorem He{B:Nat}{w wr:World}(hb:Below B w wr)(hB:B≤wr.heap.size){x:Nat}(hx:B≤x)(i:Nat)(v:Value):Below B w (wr.setCell ⟨x,i,none⟩ v):=
 hb.trans ((Keeps.kX wr ⟨x,i,none⟩ v).bQ hB fun y hy (he:y=x)=>by omega)
theorem eight{α:Type}{l:List α}(h:l.length=8):∃a b c d e f g i,l=[a,b,c,d,e,f,g,i]:=by
 match l,h with
 |[a,b,c,d,e,f,g,i],_=>exact⟨a,b,c,d,e,f,g,i,rfl⟩
theorem ZA{A B:List Int}{tail:List Value}{k:Nat}(hA:A.length=8)(hB:B.length=8)(hk:k<8):(((A.take k++B.drop k).map gq++tail).toArray).setIfInBounds k (gq (A.getD k 0))=((A.take (k+1)++B.drop (k+1)).map gq++tail).toArray:=by
 obtain⟨a0,a1,a2,a3,a4,a5,a6,a7,rfl⟩:=eight hA;obtain⟨b0,b1,b2,b3,b4,b5,b6,b7,rfl⟩:=eight hB;rw[aao]
 match k,hk with
 |0,_=>rfl
 |1,_=>rfl
 |2,_=>rfl
 |3,_=>rfl
 |4,_=>rfl
 |5,_=>rfl
 |6,_=>rfl
 |7,_=>rfl
theorem QL{A B:List Int}{tail:List Value}{k:Nat}(hA:A.length=8)(hB:B.length=8)(hk:k<8):(((A.take k++B.drop k).map gq++tail).toArray)[k]? =some (gq (B.getD k 0)):=by
 obtain⟨a0,a1,a2,a3,a4,a5,a6,a7,rfl⟩:=eight hA;obtain⟨b0,b1,b2,b3,b4,b5,b6,b7,rfl⟩:=eight hB;rw[aan]
 match k,hk with
 |0,_=>rfl
 |1,_=>rfl
 |2,_=>rfl
 |3,_=>rfl
 |4,_=>rfl
 |5,_=>rfl
 |6,_=>rfl
 |7,_=>rfl
theorem R8{A:List Int}{k:Nat}(hA:A.length=8)(hk:k<8):((A.map gq).toArray)[k]? =some (gq (A.getD k 0)):=by
 have:=QL (A:=A) (B:=A) (tail:=[]) hA hA hk;rw[aaQ,aaE]at this;exact this
theorem NS{h:List Int}{b:List UInt8}{k:Nat}(hl:h.length=8)(hk:k<8):(jP h b).getD k 0=R7 (h.getD k 0+(tF (NQ.of h) (fE b 48) 64).list.getD k 0):=by
 unfold jP;obtain⟨a0,a1,a2,a3,a4,a5,a6,a7,rfl⟩:=eight hl;generalize tF _ _ _=st
 match k,hk with
 |0,_=>rfl
 |1,_=>rfl
 |2,_=>rfl
 |3,_=>rfl
 |4,_=>rfl
 |5,_=>rfl
 |6,_=>rfl
 |7,_=>rfl
theorem AU{P:Program}{f:FuncId}{args:Array Value}{w:World}{v:Value}(h:Calls P f args w fun e w'=>e= .returned v∧w=w'):Calls P f args w fun e w'=>e= .returned v∧w'=w:=h.mono fun e w' ⟨h1,h2⟩=>⟨h1,h2.symm⟩
theorem hBQD{B:Nat}{w w1:World}(h:Below B w w1):Below B w w1.drew:=⟨h.os,h.tape,h.output,h.size,h.block⟩
theorem zK{S:Nat→Prop}(sb kb ko:Nat)(ty:TypeId)(h:List Int)(tail:List Value)(ad:Option Addr)(n c:Nat)(bs:List UInt8)(w:World)(hl:h.length=8)(hS:w.heap[sb]? =some (.cells (h.map gq++tail).toArray ty (0,0)))(hK:∀i,i<64→w.cell? ⟨kb,ko+i,none⟩=some (gq (kM.getD i 0)))(hkb:kb<w.heap.size)(hr:ah S w ad n (bs.map bv))(hn:64≤n)(hnc:n≤c):
  Calls Tryz.prog 259 #[.pointer (some ⟨sb,0,none⟩),.slice ad n c,.pointer (some ⟨kb,ko,none⟩)] w fun e w'=>e= .returned (.tuple #[])∧w'.heap[sb]? =some (.cells ((jP h bs).map gq++tail).toArray ty (0,0))∧Keeps (fun x=>x=sb) w w':=by
 obtain⟨h0,h1,h2,h3,h4,h5,h6,h7,rfl⟩:∃h0 h1 h2 h3 h4 h5 h6 h7,h=[h0,h1,h2,h3,h4,h5,h6,h7]:=by
  match h,hl with
  |[h0,h1,h2,h3,h4,h5,h6,h7],_=>exact⟨h0,h1,h2,h3,h4,h5,h6,h7,rfl⟩
 have HS:=ab9 hS;have HK:=ab9 hK;have r7:=ab9 (fun x w=>nM x (-7) 25 w (by kernel_rfl) (by omega) (by omega));have r18:=ab9 (fun x w=>nM x (-18) 14 w (by kernel_rfl) (by omega) (by omega));have r17:=ab9 (fun x w=>nM x (-17) 15 w (by kernel_rfl) (by omega) (by omega));have r19:=ab9 (fun x w=>nM x (-19) 13 w (by kernel_rfl) (by omega) (by omega));have r6:=ab9 (fun x w=>nM x (-6) 26 w (by kernel_rfl) (by omega) (by omega));have r11:=ab9 (fun x w=>nM x (-11) 21 w (by kernel_rfl) (by omega) (by omega));have r25:=ab9 (fun x w=>nM x (-25) 7 w (by kernel_rfl) (by omega) (by omega));have r2:=ab9 (fun x w=>nM x (-2) 30 w (by kernel_rfl) (by omega) (by omega));have r13:=ab9 (fun x w=>nM x (-13) 19 w (by kernel_rfl) (by omega) (by omega));have r22:=ab9 (fun x w=>nM x (-22) 10 w (by kernel_rfl) (by omega) (by omega));have HR:=ab9 hr;have hm:=hr.small;unfold maxLen at hm;clear hS hK hr hl;go_enter Tryz.func259,Tryz.ntmps259;go_wp2_with fail
 go_loopw [7,26] (fun _ iv wr=>∃k:Nat,iv= .int .i64 k∧k≤16∧wr.heap[w.heap.size]? =some (.cells (J9 ((List.range k).map (QI bs))) 344 (0,0))∧Below w.heap.size w wr) (fun _ iv _=>16-(intOf iv).toNat)
 case atStart=>
  exact⟨0,rfl,by omega,(MapKept.heap_alloc w _).1,wall w _⟩
 case round=>
  obtain⟨k,rfl,hk,hw,hb⟩:=hrel;by_cases hlt:k<16
  ·have hd:decide ((k:Int)<16)=true:=by simp;omega
   obtain⟨rb,ro,rfl,hrs,hrb,hrc⟩:=HR.o.at_ (by omega);have e1:IntKind.i64.wrap ((k:Int)*4)=(k:Int)*4:=aah _ (by omega);have g0:(0:Int)≤(k:Int)*4:=by omega
   have g1:(k:Int)*4≤(n:Int):=by omega
   have g2:(n:Int)≤(c:Int):=by omega
   have g3:¬c=k*4:=by omega
   have g4:((k:Int)*4).toNat=k*4:=by omega
   have VG:=ab9 (VD (some ⟨rb,ro+k*4,none⟩) (n-k*4) (c-k*4) (bs.drop (k*4)) wr (by have:=(HR.o.below hb ace).drop (k*4);rwa [←aaR]at this) (by omega));have hfz:wr.frozen? ⟨w.heap.size,k,none⟩=false:=by simp[World.frozen?,hw]
   have hz:wr.cell? ⟨w.heap.size,k,none⟩=some (.int .u32 0):=QK hw (by simp) (by omega);have HW:=ab9 hw;have HB:=ab9 hb;obtain⟨wd,hwd⟩:∃wd,wd=QI bs k:=⟨_,rfl⟩;change acd (Calls _ _ _ _ fun e w'=>e= .returned (.int .u32 (QI bs k))∧wr=w')at VG;rw[←hwd]at VG;have YC:=ab9 hwd;have k64:(k:Int)<64:=by omega
   have k0:(0:Int)≤(k:Int):=by omega
   have ht:((k:Int)).toNat=k:=by omega
   clear hw hb hwd hrc hrs;go_wp2_with fail;refine VG.o.mono ?_;rintro e w2 ⟨rfl,rfl⟩;go_wp2_with fail;go_roundw
   case rel=>
    refine⟨k+1,by go_num,by omega,?_,?_⟩
    ·have h9:=VF HW.o (by simp;omega) wd;rw[List.length_map,List.length_range]at h9;rw[ab3,aaz,List.map_cons,abl,←YC.o];exact h9
    ·exact He HB.o HB.o.size ace _ _
   case measure=>simp[intOf];omega
  ·have hk16:k=16:=by omega
   have hd:decide ((k:Int)<16)=false:=by simp;omega
   rw[hk16]at hw;have HW:=ab9 hw;clear hk16;have HB:=ab9 hb;clear hw hb hk hlt;go_wp2_with fail
   go_loopw [8,9,10,11,12] (fun iv _ _ _ _ wr=>∃i:Nat,iv= .int .i64 i∧16≤i∧i≤64∧wr.heap[w.heap.size]? =some (.cells (J9 (fE bs (i-16))) 344 (0,0))∧Below w.heap.size w wr) (fun iv _ _ _ _ _=>64-(intOf iv).toNat)
   case atStart=>exact⟨16,rfl,by omega,by omega,HW.o,HB.o⟩
   case round=>
    obtain⟨i,rfl,hi16,hi64,hw,hb⟩:=hrel;have HW:=ab9 hw;have HB:=ab9 hb;by_cases hlt:i<64
    ·have hd:decide ((i:Int)<64)=true:=by simp;omega
     have hsl:=yc bs (i-16);have s15:=zJ hw (show i-15<_ by rw[hsl];omega);have s2:=zJ hw (show i-2<_ by rw[hsl];omega);have s16:=zJ hw (show i-16<_ by rw[hsl];omega);have s7:=zJ hw (show i-7<_ by rw[hsl];omega);have hz:=QK hw (show(fE bs (i-16)).length≤i by rw[hsl];omega) hlt;have hfz:wr.frozen? ⟨w.heap.size,i,none⟩=false:=by simp[World.frozen?,hw]
     have e15:IntKind.i64.wrap ((i:Int)-15)=(i:Int)-15:=aah _ (by omega);have e2:IntKind.i64.wrap ((i:Int)-2)=(i:Int)-2:=aah _ (by omega);have e16:IntKind.i64.wrap ((i:Int)-16)=(i:Int)-16:=aah _ (by omega);have e7:IntKind.i64.wrap ((i:Int)-7)=(i:Int)-7:=aah _ (by omega);have n15:((i:Int)-15).toNat=i-15:=by omega
     have n2:((i:Int)-2).toNat=i-2:=by omega
     have n16:((i:Int)-16).toNat=i-16:=by omega
     have n7:((i:Int)-7).toNat=i-7:=by omega
     have g15:(0:Int)≤(i:Int)-15:=by omega
     have g2':(0:Int)≤(i:Int)-2:=by omega
     have g16:(0:Int)≤(i:Int)-16:=by omega
     have g7:(0:Int)≤(i:Int)-7:=by omega
     have l15:(i:Int)-15<64:=by omega
     have l2:(i:Int)-2<64:=by omega
     have l16:(i:Int)-16<64:=by omega
     have l7:(i:Int)-7<64:=by omega
     have li:(i:Int)<64:=by omega
     have q16:(16:Int)≤(i:Int):=by omega
     have q7:(7:Int)≤(i:Int):=by omega
     have gi:(0:Int)≤(i:Int):=by omega
     have HSL:=ab9 hsl;clear hw hb hsl;obtain⟨w15,hw15⟩:∃z,z=(fE bs (i-16)).getD (i-15) 0:=⟨_,rfl⟩;obtain⟨w2,hw2⟩:∃z,z=(fE bs (i-16)).getD (i-2) 0:=⟨_,rfl⟩;obtain⟨w16,hw16⟩:∃z,z=(fE bs (i-16)).getD (i-16) 0:=⟨_,rfl⟩;obtain⟨w7,hw7⟩:∃z,z=(fE bs (i-16)).getD (i-7) 0:=⟨_,rfl⟩;rw[←hw15]at s15;rw[←hw2]at s2;rw[←hw16]at s16;rw[←hw7]at s7;have HWS:=ab9 (And.intro hw15 (And.intro hw2 (And.intro hw16 hw7)));clear hw15 hw2 hw16 hw7;go_wp2_with fail
     go_quiet (fail)
     have t16:(wr.drewN nq).cell? ⟨w.heap.size,i-16,none⟩=some (.int .u32 w16):=s16;have t7:(wr.drewN nq).cell? ⟨w.heap.size,i-7,none⟩=some (.int .u32 w7):=s7;have tz:(wr.drewN nq).cell? ⟨w.heap.size,i,none⟩=some (.int .u32 0):=hz;have tf:(wr.drewN nq).frozen? ⟨w.heap.size,i,none⟩=false:=hfz;have hWQ:(wr.drewN nq).heap[w.heap.size]? =some (.cells (J9 (fE bs (i-16))) 344 (0,0)):=HW.o;have hBQ:Below w.heap.size w (wr.drewN nq):=⟨HB.o.os,HB.o.tape,HB.o.output,HB.o.size,HB.o.block⟩;generalize wr.drewN nq=wq at*;have HWQ:=ab9 hWQ;have HBQ:=ab9 hBQ;clear hWQ hBQ s15 s2 s16 s7 hz hfz;go_wp2_with (first|(go_at_call 279;(first|(with_reducible refine(r7.o _ _).mono ?_)|(with_reducible refine(r18.o _ _).mono ?_)|(with_reducible refine(r17.o _ _).mono ?_)|(with_reducible refine(r19.o _ _).mono ?_));rintro e w' ⟨rfl,rfl⟩));refine Cv 15 ((fun w'=>w'.cell? ⟨w.heap.size,i-16,none⟩=some (.int .u32 w16)∧w'.cell? ⟨w.heap.size,i-7,none⟩=some (.int .u32 w7)∧w'.cell? ⟨w.heap.size,i,none⟩=some (.int .u32 0)∧w'.frozen? ⟨w.heap.size,i,none⟩=false)) ?_ fun hS=> ?_
     ·exact⟨t16,t7,tz,tf⟩
     refine aY 0 hS ?_;refine aY 1 hS ?_;refine aY 2 hS ?_;refine aY 3 hS ?_;refine aY 4 hS ?_;refine aY 5 hS ?_;refine aY 6 hS ?_;refine aY 7 hS ?_;refine aY 8 hS ?_;refine aY 9 hS ?_;refine aY 10 hS ?_;refine aY 11 hS ?_;refine aY 12 hS ?_;refine aY 13 hS ?_;refine aY 14 hS ?_;refine dW 15 fun K hK=> ?_;go_simp;refine sN hK ?_;clear hS hK K;go_wp2_with fail;go_roundw
     case rel=>
      refine⟨i+1,by go_num,by omega,by omega,?_,?_⟩
      ·have h9:=VF (w:=wq.drew) HWQ.o (by rw[HSL.o];omega) (QJ (fE bs (i-16)));have e9:i+1-16=(i-16)+1:=by omega
       have e8:(fE bs (i-16)).length=i:=by rw[HSL.o];omega
       rw[e8]at h9;rw[e9];unfold fE;have e7:QJ (fE bs (i-16))=R7 (R7 (R7 (w16+sg0 w15)+w7)+sg1 w2):=by
        unfold QJ;rw[e8,HWS.o.1,HWS.o.2.1,HWS.o.2.2.1,HWS.o.2.2.2]
       rw[e7]at h9⊢;exact h9
      ·exact He (hBQD HBQ.o) HBQ.o.size ace _ _
     case measure=>simp[intOf];omega
    ·have hi64':i=64:=by omega
     have hd:decide ((i:Int)<64)=false:=by simp;omega
     rw[hi64']at HW;have HWS:acd (wr.heap[w.heap.size]? =some (.cells (J9 (fE bs 48)) 344 (0,0))):=HW.o;have hsw:sb<w.heap.size:=(uh.1 HS.o).1;have hcs:∀q,q<w.heap.size→wr.heap[q]? =w.heap[q]? :=fun q hq=>hb.block q hq;have hs0:wr.heap[sb]? =some (.cells (List.map gq [h0,h1,h2,h3,h4,h5,h6,h7]++tail).toArray ty (0,0)):=(hcs sb hsw).trans HS.o;have c0:wr.cell? ⟨sb,0,none⟩=some (.int .u32 h0):=by simp[World.cell?,hs0]
     have c1:wr.cell? ⟨sb,1,none⟩=some (.int .u32 h1):=by simp[World.cell?,hs0]
     have c2:wr.cell? ⟨sb,2,none⟩=some (.int .u32 h2):=by simp[World.cell?,hs0]
     have c3:wr.cell? ⟨sb,3,none⟩=some (.int .u32 h3):=by simp[World.cell?,hs0]
     have c4:wr.cell? ⟨sb,4,none⟩=some (.int .u32 h4):=by simp[World.cell?,hs0]
     have c5:wr.cell? ⟨sb,5,none⟩=some (.int .u32 h5):=by simp[World.cell?,hs0]
     have c6:wr.cell? ⟨sb,6,none⟩=some (.int .u32 h6):=by simp[World.cell?,hs0]
     have c7:wr.cell? ⟨sb,7,none⟩=some (.int .u32 h7):=by simp[World.cell?,hs0]
     clear hw hb hi16 hi64 hlt hi64' HW hcs hs0;go_wp2_with fail
     go_quiet (fail)
     have hWQ:(wr.drewN nq).heap[w.heap.size]? =some (.cells (J9 (fE bs 48)) 344 (0,0)):=HWS.o;have hBQ:Below w.heap.size w (wr.drewN nq):=⟨HB.o.os,HB.o.tape,HB.o.output,HB.o.size,HB.o.block⟩;generalize wr.drewN nq=wq at*;have HWQ:=ab9 hWQ;have HBQ:=ab9 hBQ;clear hWQ hBQ c0 c1 c2 c3 c4 c5 c6 c7;go_wp2_with fail
     go_loopw [13,14,15,16,17,18,19,20,21,22,23,112] (fun va vc vd ve vf vg vh vj _ _ _ kv wx=>∃(k:Nat) (st:NQ),kv= .int .i64 k∧k≤64∧st=tF ⟨h0,h1,h2,h3,h4,h5,h6,h7⟩ (fE bs 48) k∧va= .int .u32 st.a∧vc= .int .u32 st.c∧vd= .int .u32 st.d∧ve= .int .u32 st.e∧vf= .int .u32 st.f∧vg= .int .u32 st.g∧vh= .int .u32 st.h∧vj= .int .u32 st.j∧wx.heap[w.heap.size]? =some (.cells (J9 (fE bs 48)) 344 (0,0))∧Below w.heap.size w wx) (fun _ _ _ _ _ _ _ _ _ _ _ kv _=>64-(intOf kv).toNat)
     case atStart=>exact⟨0,_,rfl,by omega,rfl,rfl,rfl,rfl,rfl,rfl,rfl,rfl,rfl,HWQ.o,HBQ.o⟩
     case round=>
      obtain⟨k,⟨sa,sc,sd,se,sf,sg,sh,sj⟩,rfl,hk,hst,rfl,rfl,rfl,rfl,rfl,rfl,rfl,rfl,hw3,hb3⟩:=hrel;have HST:=ab9 hst;have HW3:=ab9 hw3;have HB3:=ab9 hb3;simp only;by_cases hlt:k<64
      ·have hd:decide ((k:Int)<64)=true:=by simp;omega
       obtain⟨ww,hww⟩:∃ww,ww=(fE bs 48).getD k 0:=⟨_,rfl⟩;obtain⟨kk,hkk⟩:∃kk,kk=kM.getD k 0:=⟨_,rfl⟩;have hcw:wr.cell? ⟨w.heap.size,k,none⟩=some (.int .u32 ww):=by
        rw[hww];exact zJ hw3 (by rw[yc];omega)
       have hck:wr.cell? ⟨kb,ko+k,none⟩=some (.int .u32 kk):=by
        rw[hkk];exact(hb3.cell (p:=⟨kb,ko+k,none⟩) hkb).trans (HK.o k hlt)
       have HWK:=ab9 (And.intro hww hkk);have hkb3:kb<wr.heap.size:=Nat.lt_of_lt_of_le hkb hb3.size;have k64:(k:Int)<64:=by omega
       have k0:(0:Int)≤(k:Int):=by omega
       have ht:((k:Int)).toNat=k:=by omega
       clear hww hkk hst hw3 hb3;go_wp2_with fail
       go_quiet ((go_at_call 279;first|(with_reducible exact Calls.quiet_of_same (AU (r6.o sf _)))|(with_reducible exact Calls.quiet_of_same (AU (r11.o sf _)))|(with_reducible exact Calls.quiet_of_same (AU (r25.o sf _)))))
       have hWQ:(wr.drewN nq).heap[w.heap.size]? =some (.cells (J9 (fE bs 48)) 344 (0,0)):=HW3.o;have hBQ:Below w.heap.size w (wr.drewN nq):=⟨HB3.o.os,HB3.o.tape,HB3.o.output,HB3.o.size,HB3.o.block⟩;generalize wr.drewN nq=wq at*;have HWQ:=ab9 hWQ;have HBQ:=ab9 hBQ;clear hWQ hBQ hcw hck;go_wp2_with (first|(go_at_call 279;(first|(with_reducible refine(r2.o _ _).mono ?_)|(with_reducible refine(r13.o _ _).mono ?_)|(with_reducible refine(r22.o _ _).mono ?_));rintro e w' ⟨rfl,rfl⟩));go_roundw
       case rel=>
        refine⟨k+1,NR ⟨sa,sc,sd,se,sf,sg,sh,sj⟩ kk ww,by go_num,by omega,?_,rfl,rfl,rfl,rfl,rfl,rfl,rfl,rfl,HWQ.o,HBQ.o⟩;show _=NR (tF ⟨h0,h1,h2,h3,h4,h5,h6,h7⟩ (fE bs 48) k) (kM.getD k 0) ((fE bs 48).getD k 0);rw[←HST.o,HWK.o.1,HWK.o.2]
       case measure=>simp[intOf];omega
      ·have Jg:k=64:=by omega
       have hd:decide ((k:Int)<64)=false:=by simp;omega
       rw[Jg]at HST;clear Jg hk hlt hst hw3 hb3;have NT:sb<wr.heap.size:=Nat.lt_of_lt_of_le hsw HB3.o.size;go_wp2_with fail;have hnb:=(MapKept.heap_alloc wr (.cells #[.int .u32 sa,.int .u32 sc,.int .u32 sd,.int .u32 se,.int .u32 sf,.int .u32 sg,.int .u32 sh,.int .u32 sj] 165)).1;have hwb:=wall wr (.cells #[.int .u32 sa,.int .u32 sc,.int .u32 sd,.int .u32 se,.int .u32 sf,.int .u32 sg,.int .u32 sh,.int .u32 sj] 165);have hsz:=Pd wr (.cells #[.int .u32 sa,.int .u32 sc,.int .u32 sd,.int .u32 se,.int .u32 sf,.int .u32 sg,.int .u32 sh,.int .u32 sj] 165);have hK1:Keeps (fun x=>x=sb) w (wr.alloc (.cells #[.int .u32 sa,.int .u32 sc,.int .u32 sd,.int .u32 se,.int .u32 sf,.int .u32 sg,.int .u32 sh,.int .u32 sj] 165)):=(Keeps.below (HB3.o.trans (hwb.mono HB3.o.size))).mono fun x hx hx'=>absurd hx (by omega);have hs1:(wr.alloc (.cells #[.int .u32 sa,.int .u32 sc,.int .u32 sd,.int .u32 se,.int .u32 sf,.int .u32 sg,.int .u32 sh,.int .u32 sj] 165)).heap[sb]? =some (.cells (List.map gq [h0,h1,h2,h3,h4,h5,h6,h7]++tail).toArray ty (0,0)):=(hwb.block sb NT).trans ((HB3.o.block sb hsw).trans HS.o);obtain⟨nb,hnbe⟩:∃nb,nb=wr.heap.size:=⟨_,rfl⟩;have hnbw:w.heap.size≤nb:=by rw[hnbe];exact HB3.o.size
       rw[←hnbe]at hnb hsz⊢;generalize wr.alloc (.cells #[.int .u32 sa,.int .u32 sc,.int .u32 sd,.int .u32 se,.int .u32 sf,.int .u32 sg,.int .u32 sh,.int .u32 sj] 165)=w1 at*;have hL:([sa,sc,sd,se,sf,sg,sh,sj]:List Int)=(tF (NQ.of [h0,h1,h2,h3,h4,h5,h6,h7]) (fE bs 48) 64).list:=by
        have:=aaG NQ.list HST.o;exact this
       have hnb2:w1.heap[nb]? =some (.cells ((([sa,sc,sd,se,sf,sg,sh,sj]:List Int).map gq).toArray) 165 (0,0)):=hnb;obtain⟨L,ZB⟩:∃L:List Int,L=[sa,sc,sd,se,sf,sg,sh,sj]:=⟨_,rfl⟩;rw[←ZB]at hnb2 hL;have J7:=ab9 hL;have HL8:acd (L.length=8):=by rw[ZB];rfl
       obtain⟨H,hHe⟩:∃H:List Int,H=[h0,h1,h2,h3,h4,h5,h6,h7]:=⟨_,rfl⟩;have HH8:acd (H.length=8):=by rw[hHe];rfl
       rw[←hHe]at hs1 J7;have HHE:=ab9 hHe;have nH:=ab9 hs1;have AL:=ab9 hK1;have HNB2:=ab9 hnb2;clear hnb hwb hsz hK1 hs1 hL hnb2 ZB hHe hnbe
       go_loopw [24,25,187] (fun _ _ kv wx=>∃k:Nat,kv= .int .i64 k∧k≤8∧wx.heap[sb]? =some (.cells (((jP H bs).take k++H.drop k).map gq++tail).toArray ty (0,0))∧wx.heap[nb]? =some (.cells ((L.map gq).toArray) 165 (0,0))∧Keeps (fun x=>x=sb) w wx) (fun _ _ kv _=>8-(intOf kv).toNat)
       case atStart=>exact⟨0,rfl,by omega,by simpa using nH.o,HNB2.o,AL.o⟩
       case round=>
        obtain⟨k,rfl,hk,hsx,hnx,hkx⟩:=hrel;have HSX:=ab9 hsx;have KZ:=ab9 hnx;have HKX:=ab9 hkx;by_cases hlt:k<8
        ·have hd:decide ((k:Int)<8)=true:=by simp;omega
         have FL:=qd H bs HH8.o;obtain⟨x,hx⟩:∃x,x=L.getD k 0:=⟨_,rfl⟩;obtain⟨y,hy⟩:∃y,y=H.getD k 0:=⟨_,rfl⟩;have d1:wr.cell? ⟨nb,k,none⟩=some (.int .u32 x):=by
          rw[hx];have:=R8 HL8.o hlt;simp only[World.cell?,hnx];exact this
         have d2:wr.cell? ⟨sb,k,none⟩=some (.int .u32 y):=by
          rw[hy];have:=QL (A:=jP H bs) (B:=H) (tail:=tail) FL HH8.o hlt;simp only[World.cell?,hsx];exact this
         have df:wr.frozen? ⟨sb,k,none⟩=false:=by simp[World.frozen?,hsx]
         have HXY:=ab9 (And.intro hx hy);have k8:(k:Int)<8:=by omega
         have k0:(0:Int)≤(k:Int):=by omega
         have ht:((k:Int)).toNat=k:=by omega
         clear hx hy hsx hnx hkx FL;go_wp2_with fail;refine Cv 9 ((fun w'=>w'.cell? ⟨sb,k,none⟩=some (.int .u32 y)∧w'.frozen? ⟨sb,k,none⟩=false)) ?_ fun hS=> ?_
         ·exact⟨d2,df⟩
         refine aY 0 hS ?_;refine aY 1 hS ?_;refine aY 2 hS ?_;refine aY 3 hS ?_;refine aY 4 hS ?_;refine aY 5 hS ?_;refine aY 6 hS ?_;refine aY 7 hS ?_;refine aY 8 hS ?_;refine dW 9 fun K hK=> ?_;go_simp;refine sN hK ?_;clear hS hK K;go_wp2_with fail;go_roundw
         case rel=>
          have FL:=qd H bs HH8.o;have e9:R7 (y+x)=(jP H bs).getD k 0:=by
           rw[NS HH8.o hlt,←J7.o,HXY.o.1,HXY.o.2]
          refine⟨k+1,by go_num,by omega,?_,?_,?_⟩
          ·rw[←ZA FL HH8.o hlt,←e9];exact aK (w:=wr.drew) HSX.o
          ·refine(aL wr.drew ⟨sb,k,none⟩ _ nb ?_).trans KZ.o;show nb≠sb;omega
          ·exact((HKX.o.trans (show Keeps (fun x=>x=sb) wr wr.drew from⟨rfl,rfl,rfl,Nat.le_refl _,fun _ _ _=>rfl⟩) fun x _ hx=>hx).trans (Keeps.kX wr.drew ⟨sb,k,none⟩ _) fun x _ hx=>hx)
         case measure=>simp[intOf];omega
        ·have hd:decide ((k:Int)<8)=false:=by simp;omega
         have MS:k=8:=by omega
         rw[MS]at HSX;go_wp2_with fail
         go_end0
         refine⟨rfl,?_,HKX.o⟩;have h9:=HSX.o;have e1:(jP H bs).take 8=jP H bs:=List.take_of_length_le (by rw[qd H bs HH8.o];omega);have e2:H.drop 8=[]:=aaC (by rw[HH8.o];omega);rw[e1,e2,aaE,HHE.o]at h9;exact h9
end Go.Proofs.YtmflaonodghbcaaGreatDoor
