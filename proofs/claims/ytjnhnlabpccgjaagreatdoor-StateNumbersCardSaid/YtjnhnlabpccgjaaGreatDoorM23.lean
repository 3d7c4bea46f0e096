/- package -/
import Derived.Test.YtjnhnlabpccgjaaGreatDoorM21
import Derived.Test.YtjnhnlabpccgjaaGreatDoorM22
import Derived.Test.YtjnhnlabpccgjaaGreatDoorM13
import Derived.WalkLawsBesides
import Derived.BigQuiet
set_option maxRecDepth 100000
set_option maxHeartbeats 64000000
set_option linter.all false
namespace Go.Proofs.YtjnhnlabpccgjaaGreatDoor
open Go.ChangeShapes Go.WideShapes Go.ChangeAt Go.RowKit
def Ey(ws:List Int):Array Value:=((ws++List.replicate (64-ws.length) 0).map eP).toArray
theorem Tg(ws:List Int)(x:Int)(h:ws.length<64):(Ey ws).setIfInBounds ws.length (eP x)=Ey (ws++[x]):=by
 unfold Ey;rw[aas];congr 1;have e:64-ws.length=(64-(ws++[x]).length)+1:=by simp;omega
 rw[e,List.replicate_succ,List.map_append,List.map_append,aaA,List.set_append_right _ _ (by simp)];simp
theorem Xl(ws:List Int)(i:Nat)(h:i<ws.length):(Ey ws)[i]? =some (eP (ws.getD i 0)):=by
 unfold Ey;rw[aaq,List.getElem?_map,aaG h,aaB,List.getElem?_eq_getElem h];rfl
theorem oK{w:World}{b i:Nat}{ws:List Int}(hw:w.heap[b]? =some (.cells (Ey ws) 218 (0,0)))(h:i<ws.length):w.cell? ⟨b,i,none⟩=some (eP (ws.getD i 0)):=by
 rw[←Xl ws i h];simp[World.cell?,hw]
theorem GQ{w:World}{b i:Nat}{ws:List Int}(hw:w.heap[b]? =some (.cells (Ey ws) 218 (0,0)))(h:ws.length≤i)(h64:i<64):w.cell? ⟨b,i,none⟩=some (.int .u32 0):=by
 have:(Ey ws)[i]? =some (.int .u32 0):=by
  unfold Ey;rw[aaq,List.getElem?_map,aaz h,List.getElem?_replicate,if_pos (by omega)];rfl
 rw[←this];simp[World.cell?,hw]
theorem GR{w:World}{b:Nat}{ws:List Int}(hw:w.heap[b]? =some (.cells (Ey ws) 218 (0,0)))(h:ws.length<64)(x:Int):(w.setCell ⟨b,ws.length,none⟩ (eP x)).heap[b]? =some (.cells (Ey (ws++[x])) 218 (0,0)):=by
 rw[aI hw,Tg ws x h]
theorem wM{B:Nat}{w wr:World}(hb:Below B w wr)(hB:B≤wr.heap.size){x:Nat}(hx:B≤x)(i:Nat)(v:Value):Below B w (wr.setCell ⟨x,i,none⟩ v):=
 hb.trans ((Keeps.f_ wr ⟨x,i,none⟩ v).mh hB fun y hy (he:y=x)=>by omega)
theorem eight{α:Type}{l:List α}(h:l.length=8):∃a b c d e f g i,l=[a,b,c,d,e,f,g,i]:=by
 match l,h with
 |[a,b,c,d,e,f,g,i],_=>exact⟨a,b,c,d,e,f,g,i,rfl⟩
theorem NW{A B:List Int}{tail:List Value}{k:Nat}(hA:A.length=8)(hB:B.length=8)(hk:k<8):(((A.take k++B.drop k).map eP++tail).toArray).setIfInBounds k (eP (A.getD k 0))=((A.take (k+1)++B.drop (k+1)).map eP++tail).toArray:=by
 obtain⟨a0,a1,a2,a3,a4,a5,a6,a7,rfl⟩:=eight hA;obtain⟨b0,b1,b2,b3,b4,b5,b6,b7,rfl⟩:=eight hB;rw[aas]
 match k,hk with
 |0,_=>rfl
 |1,_=>rfl
 |2,_=>rfl
 |3,_=>rfl
 |4,_=>rfl
 |5,_=>rfl
 |6,_=>rfl
 |7,_=>rfl
theorem GU{A B:List Int}{tail:List Value}{k:Nat}(hA:A.length=8)(hB:B.length=8)(hk:k<8):(((A.take k++B.drop k).map eP++tail).toArray)[k]? =some (eP (B.getD k 0)):=by
 obtain⟨a0,a1,a2,a3,a4,a5,a6,a7,rfl⟩:=eight hA;obtain⟨b0,b1,b2,b3,b4,b5,b6,b7,rfl⟩:=eight hB;rw[aaq]
 match k,hk with
 |0,_=>rfl
 |1,_=>rfl
 |2,_=>rfl
 |3,_=>rfl
 |4,_=>rfl
 |5,_=>rfl
 |6,_=>rfl
 |7,_=>rfl
theorem Am{A:List Int}{k:Nat}(hA:A.length=8)(hk:k<8):((A.map eP).toArray)[k]? =some (eP (A.getD k 0)):=by
 have:=GU (A:=A) (B:=A) (tail:=[]) hA hA hk;rw[abg,aaE]at this;exact this
theorem Dl{h:List Int}{b:List UInt8}{k:Nat}(hl:h.length=8)(hk:k<8):(iG h b).getD k 0=IJ (h.getD k 0+(nL (wL.of h) (fI b 48) 64).list.getD k 0):=by
 unfold iG;obtain⟨a0,a1,a2,a3,a4,a5,a6,a7,rfl⟩:=eight hl;generalize nL _ _ _=st
 match k,hk with
 |0,_=>rfl
 |1,_=>rfl
 |2,_=>rfl
 |3,_=>rfl
 |4,_=>rfl
 |5,_=>rfl
 |6,_=>rfl
 |7,_=>rfl
theorem lM{P:Program}{f:FuncId}{args:Array Value}{w:World}{v:Value}(h:Calls P f args w fun e w'=>e= .returned v∧w=w'):Calls P f args w fun e w'=>e= .returned v∧w'=w:=h.mono fun e w' ⟨h1,h2⟩=>⟨h1,h2.symm⟩
theorem hBQD{B:Nat}{w w1:World}(h:Below B w w1):Below B w w1.drew:=⟨h.os,h.tape,h.output,h.size,h.block⟩
theorem JI{S:Nat→Prop}(sb kb ko:Nat)(ty:TypeId)(h:List Int)(tail:List Value)(ad:Option Addr)(n c:Nat)(bs:List UInt8)(w:World)(hl:h.length=8)(hS:w.heap[sb]? =some (.cells (h.map eP++tail).toArray ty (0,0)))(hK:∀i,i<64→w.cell? ⟨kb,ko+i,none⟩=some (eP (kM.getD i 0)))(hkb:kb<w.heap.size)(hr:ah S w ad n (bs.map bv))(hn:64≤n)(hnc:n≤c):
  Calls Tryz.prog 236 #[.pointer (some ⟨sb,0,none⟩),.slice ad n c,.pointer (some ⟨kb,ko,none⟩)] w fun e w'=>e= .returned (.tuple #[])∧w'.heap[sb]? =some (.cells ((iG h bs).map eP++tail).toArray ty (0,0))∧Keeps (fun x=>x=sb) w w':=by
 obtain⟨h0,h1,h2,h3,h4,h5,h6,h7,rfl⟩:∃h0 h1 h2 h3 h4 h5 h6 h7,h=[h0,h1,h2,h3,h4,h5,h6,h7]:=by
  match h,hl with
  |[h0,h1,h2,h3,h4,h5,h6,h7],_=>exact⟨h0,h1,h2,h3,h4,h5,h6,h7,rfl⟩
 have HS:=acA hS;have HK:=acA hK;have r7:=acA (fun x w=>oJ x (-7) 25 w (by kernel_rfl) (by omega) (by omega));have r18:=acA (fun x w=>oJ x (-18) 14 w (by kernel_rfl) (by omega) (by omega));have r17:=acA (fun x w=>oJ x (-17) 15 w (by kernel_rfl) (by omega) (by omega));have r19:=acA (fun x w=>oJ x (-19) 13 w (by kernel_rfl) (by omega) (by omega));have r6:=acA (fun x w=>oJ x (-6) 26 w (by kernel_rfl) (by omega) (by omega));have r11:=acA (fun x w=>oJ x (-11) 21 w (by kernel_rfl) (by omega) (by omega));have r25:=acA (fun x w=>oJ x (-25) 7 w (by kernel_rfl) (by omega) (by omega));have r2:=acA (fun x w=>oJ x (-2) 30 w (by kernel_rfl) (by omega) (by omega));have r13:=acA (fun x w=>oJ x (-13) 19 w (by kernel_rfl) (by omega) (by omega));have r22:=acA (fun x w=>oJ x (-22) 10 w (by kernel_rfl) (by omega) (by omega));have HR:=acA hr;have hm:=hr.small;unfold maxLen at hm;clear hS hK hr hl;go_enter Tryz.func236,Tryz.ntmps236;go_wp2_with fail
 go_loopw [7,26] (fun _ iv wr=>∃k:Nat,iv= .int .i64 k∧k≤16∧wr.heap[w.heap.size]? =some (.cells (Ey ((List.range k).map (vM bs))) 218 (0,0))∧Below w.heap.size w wr) (fun _ iv _=>16-(intOf iv).toNat)
 case atStart=>
  exact⟨0,rfl,by omega,(MapKept.heap_alloc w _).1,wall w _⟩
 case round=>
  obtain⟨k,rfl,hk,hw,hb⟩:=hrel;by_cases hlt:k<16
  ·have hd:decide ((k:Int)<16)=true:=by simp;omega
   obtain⟨rb,ro,rfl,hrs,hrb,hrc⟩:=HR.o.at_ (by omega);have e1:IntKind.i64.wrap ((k:Int)*4)=(k:Int)*4:=aak _ (by omega);have g0:(0:Int)≤(k:Int)*4:=by omega
   have g1:(k:Int)*4≤(n:Int):=by omega
   have g2:(n:Int)≤(c:Int):=by omega
   have g3:¬c=k*4:=by omega
   have g4:((k:Int)*4).toNat=k*4:=by omega
   have HLD:=acA (Tf (some ⟨rb,ro+k*4,none⟩) (n-k*4) (c-k*4) (bs.drop (k*4)) wr (by have:=(HR.o.below hb acC).drop (k*4);rwa [←abB]at this) (by omega));have hfz:wr.frozen? ⟨w.heap.size,k,none⟩=false:=by simp[World.frozen?,hw]
   have hz:wr.cell? ⟨w.heap.size,k,none⟩=some (.int .u32 0):=GQ hw (by simp) (by omega);have HW:=acA hw;have HB:=acA hb;obtain⟨wd,hwd⟩:∃wd,wd=vM bs k:=⟨_,rfl⟩;change acB (Calls _ _ _ _ fun e w'=>e= .returned (.int .u32 (vM bs k))∧wr=w')at HLD;rw[←hwd]at HLD;have HWD:=acA hwd;have k64:(k:Int)<64:=by omega
   have k0:(0:Int)≤(k:Int):=by omega
   have ht:((k:Int)).toNat=k:=by omega
   clear hw hb hwd hrc hrs;go_wp2_with fail;refine HLD.o.mono ?_;rintro e w2 ⟨rfl,rfl⟩;go_wp2_with fail;go_roundw
   case rel=>
    refine⟨k+1,by go_num,by omega,?_,?_⟩
    ·have h9:=GR HW.o (by simp;omega) wd;rw[List.length_map,List.length_range]at h9;rw[acs,List.map_append,aaA,abb,←HWD.o];exact h9
    ·exact wM HB.o HB.o.size acC _ _
   case measure=>simp[intOf];omega
  ·have hk16:k=16:=by omega
   have hd:decide ((k:Int)<16)=false:=by simp;omega
   rw[hk16]at hw;have HW:=acA hw;clear hk16;have HB:=acA hb;clear hw hb hk hlt;go_wp2_with fail
   go_loopw [8,9,10,11,12] (fun iv _ _ _ _ wr=>∃i:Nat,iv= .int .i64 i∧16≤i∧i≤64∧wr.heap[w.heap.size]? =some (.cells (Ey (fI bs (i-16))) 218 (0,0))∧Below w.heap.size w wr) (fun iv _ _ _ _ _=>64-(intOf iv).toNat)
   case atStart=>exact⟨16,rfl,by omega,by omega,HW.o,HB.o⟩
   case round=>
    obtain⟨i,rfl,hi16,Ti,hw,hb⟩:=hrel;have HW:=acA hw;have HB:=acA hb;by_cases hlt:i<64
    ·have hd:decide ((i:Int)<64)=true:=by simp;omega
     have hsl:=qN bs (i-16);have s15:=oK hw (show i-15<_ by rw[hsl];omega);have s2:=oK hw (show i-2<_ by rw[hsl];omega);have s16:=oK hw (show i-16<_ by rw[hsl];omega);have s7:=oK hw (show i-7<_ by rw[hsl];omega);have hz:=GQ hw (show(fI bs (i-16)).length≤i by rw[hsl];omega) hlt;have hfz:wr.frozen? ⟨w.heap.size,i,none⟩=false:=by simp[World.frozen?,hw]
     have e15:IntKind.i64.wrap ((i:Int)-15)=(i:Int)-15:=aak _ (by omega);have e2:IntKind.i64.wrap ((i:Int)-2)=(i:Int)-2:=aak _ (by omega);have e16:IntKind.i64.wrap ((i:Int)-16)=(i:Int)-16:=aak _ (by omega);have e7:IntKind.i64.wrap ((i:Int)-7)=(i:Int)-7:=aak _ (by omega);have n15:((i:Int)-15).toNat=i-15:=by omega
     have n2:((i:Int)-2).toNat=i-2:=by omega
     have n16:((i:Int)-16).toNat=i-16:=by omega
     have n7:((i:Int)-7).toNat=i-7:=by omega
     have g15:(0:Int)≤(i:Int)-15:=by omega
     have g2':(0:Int)≤(i:Int)-2:=by omega
     have g16:(0:Int)≤(i:Int)-16:=by omega
     have g7:(0:Int)≤(i:Int)-7:=by omega
     have l15:(i:Int)-15<64:=by omega
     have l2:(i:Int)-2<64:=by omega
     have l16:(i:Int)-16<64:=by omega
     have l7:(i:Int)-7<64:=by omega
     have li:(i:Int)<64:=by omega
     have q16:(16:Int)≤(i:Int):=by omega
     have q7:(7:Int)≤(i:Int):=by omega
     have gi:(0:Int)≤(i:Int):=by omega
     have HSL:=acA hsl;clear hw hb hsl;obtain⟨w15,LV⟩:∃z,z=(fI bs (i-16)).getD (i-15) 0:=⟨_,rfl⟩;obtain⟨w2,hw2⟩:∃z,z=(fI bs (i-16)).getD (i-2) 0:=⟨_,rfl⟩;obtain⟨w16,hw16⟩:∃z,z=(fI bs (i-16)).getD (i-16) 0:=⟨_,rfl⟩;obtain⟨w7,hw7⟩:∃z,z=(fI bs (i-16)).getD (i-7) 0:=⟨_,rfl⟩;rw[←LV]at s15;rw[←hw2]at s2;rw[←hw16]at s16;rw[←hw7]at s7;have Tj:=acA (And.intro LV (And.intro hw2 (And.intro hw16 hw7)));clear LV hw2 hw16 hw7;go_wp2_with fail
     go_quiet (fail)
     have t16:(wr.drewN nq).cell? ⟨w.heap.size,i-16,none⟩=some (.int .u32 w16):=s16;have t7:(wr.drewN nq).cell? ⟨w.heap.size,i-7,none⟩=some (.int .u32 w7):=s7;have tz:(wr.drewN nq).cell? ⟨w.heap.size,i,none⟩=some (.int .u32 0):=hz;have tf:(wr.drewN nq).frozen? ⟨w.heap.size,i,none⟩=false:=hfz;have Tk:(wr.drewN nq).heap[w.heap.size]? =some (.cells (Ey (fI bs (i-16))) 218 (0,0)):=HW.o;have Tm:Below w.heap.size w (wr.drewN nq):=⟨HB.o.os,HB.o.tape,HB.o.output,HB.o.size,HB.o.block⟩;generalize wr.drewN nq=wq at*;have HWQ:=acA Tk;have LW:=acA Tm;clear Tk Tm s15 s2 s16 s7 hz hfz;go_wp2_with (first|(go_at_call 257;(first|(with_reducible refine(r7.o _ _).mono ?_)|(with_reducible refine(r18.o _ _).mono ?_)|(with_reducible refine(r17.o _ _).mono ?_)|(with_reducible refine(r19.o _ _).mono ?_));rintro e w' ⟨rfl,rfl⟩));refine qA 15 ((fun w'=>w'.cell? ⟨w.heap.size,i-16,none⟩=some (.int .u32 w16)∧w'.cell? ⟨w.heap.size,i-7,none⟩=some (.int .u32 w7)∧w'.cell? ⟨w.heap.size,i,none⟩=some (.int .u32 0)∧w'.frozen? ⟨w.heap.size,i,none⟩=false)) ?_ fun hS=> ?_
     ·exact⟨t16,t7,tz,tf⟩
     refine au 0 hS ?_;refine au 1 hS ?_;refine au 2 hS ?_;refine au 3 hS ?_;refine au 4 hS ?_;refine au 5 hS ?_;refine au 6 hS ?_;refine au 7 hS ?_;refine au 8 hS ?_;refine au 9 hS ?_;refine au 10 hS ?_;refine au 11 hS ?_;refine au 12 hS ?_;refine au 13 hS ?_;refine au 14 hS ?_;refine bB 15 fun K hK=> ?_;go_simp;refine kX hK ?_;clear hS hK K;go_wp2_with fail;go_roundw
     case rel=>
      refine⟨i+1,by go_num,by omega,by omega,?_,?_⟩
      ·have h9:=GR (w:=wq.drew) HWQ.o (by rw[HSL.o];omega) (Bj (fI bs (i-16)));have e9:i+1-16=(i-16)+1:=by omega
       have e8:(fI bs (i-16)).length=i:=by rw[HSL.o];omega
       rw[e8]at h9;rw[e9];unfold fI;have e7:Bj (fI bs (i-16))=IJ (IJ (IJ (w16+sg0 w15)+w7)+sg1 w2):=by
        unfold Bj;rw[e8,Tj.o.1,Tj.o.2.1,Tj.o.2.2.1,Tj.o.2.2.2]
       rw[e7]at h9⊢;exact h9
      ·exact wM (hBQD LW.o) LW.o.size acC _ _
     case measure=>simp[intOf];omega
    ·have JJ:i=64:=by omega
     have hd:decide ((i:Int)<64)=false:=by simp;omega
     rw[JJ]at HW;have Tj:acB (wr.heap[w.heap.size]? =some (.cells (Ey (fI bs 48)) 218 (0,0))):=HW.o;have hsw:sb<w.heap.size:=(iA.1 HS.o).1;have hcs:∀q,q<w.heap.size→wr.heap[q]? =w.heap[q]? :=fun q hq=>hb.block q hq;have hs0:wr.heap[sb]? =some (.cells (List.map eP [h0,h1,h2,h3,h4,h5,h6,h7]++tail).toArray ty (0,0)):=(hcs sb hsw).trans HS.o;have c0:wr.cell? ⟨sb,0,none⟩=some (.int .u32 h0):=by simp[World.cell?,hs0]
     have c1:wr.cell? ⟨sb,1,none⟩=some (.int .u32 h1):=by simp[World.cell?,hs0]
     have c2:wr.cell? ⟨sb,2,none⟩=some (.int .u32 h2):=by simp[World.cell?,hs0]
     have c3:wr.cell? ⟨sb,3,none⟩=some (.int .u32 h3):=by simp[World.cell?,hs0]
     have c4:wr.cell? ⟨sb,4,none⟩=some (.int .u32 h4):=by simp[World.cell?,hs0]
     have c5:wr.cell? ⟨sb,5,none⟩=some (.int .u32 h5):=by simp[World.cell?,hs0]
     have c6:wr.cell? ⟨sb,6,none⟩=some (.int .u32 h6):=by simp[World.cell?,hs0]
     have c7:wr.cell? ⟨sb,7,none⟩=some (.int .u32 h7):=by simp[World.cell?,hs0]
     clear hw hb hi16 Ti hlt JJ HW hcs hs0;go_wp2_with fail
     go_quiet (fail)
     have Tk:(wr.drewN nq).heap[w.heap.size]? =some (.cells (Ey (fI bs 48)) 218 (0,0)):=Tj.o;have Tm:Below w.heap.size w (wr.drewN nq):=⟨HB.o.os,HB.o.tape,HB.o.output,HB.o.size,HB.o.block⟩;generalize wr.drewN nq=wq at*;have HWQ:=acA Tk;have LW:=acA Tm;clear Tk Tm c0 c1 c2 c3 c4 c5 c6 c7;go_wp2_with fail
     go_loopw [13,14,15,16,17,18,19,20,21,22,23,112] (fun va vc vd ve vf vg vh vj _ _ _ kv wx=>∃(k:Nat) (st:wL),kv= .int .i64 k∧k≤64∧st=nL ⟨h0,h1,h2,h3,h4,h5,h6,h7⟩ (fI bs 48) k∧va= .int .u32 st.a∧vc= .int .u32 st.c∧vd= .int .u32 st.d∧ve= .int .u32 st.e∧vf= .int .u32 st.f∧vg= .int .u32 st.g∧vh= .int .u32 st.h∧vj= .int .u32 st.j∧wx.heap[w.heap.size]? =some (.cells (Ey (fI bs 48)) 218 (0,0))∧Below w.heap.size w wx) (fun _ _ _ _ _ _ _ _ _ _ _ kv _=>64-(intOf kv).toNat)
     case atStart=>exact⟨0,_,rfl,by omega,rfl,rfl,rfl,rfl,rfl,rfl,rfl,rfl,rfl,HWQ.o,LW.o⟩
     case round=>
      obtain⟨k,⟨sa,sc,sd,se,sf,sg,sh,sj⟩,rfl,hk,hst,rfl,rfl,rfl,rfl,rfl,rfl,rfl,rfl,hw3,hb3⟩:=hrel;have HST:=acA hst;have HW3:=acA hw3;have HB3:=acA hb3;simp only;by_cases hlt:k<64
      ·have hd:decide ((k:Int)<64)=true:=by simp;omega
       obtain⟨ww,Xm⟩:∃ww,ww=(fI bs 48).getD k 0:=⟨_,rfl⟩;obtain⟨kk,hkk⟩:∃kk,kk=kM.getD k 0:=⟨_,rfl⟩;have hcw:wr.cell? ⟨w.heap.size,k,none⟩=some (.int .u32 ww):=by
        rw[Xm];exact oK hw3 (by rw[qN];omega)
       have hck:wr.cell? ⟨kb,ko+k,none⟩=some (.int .u32 kk):=by
        rw[hkk];exact(hb3.cell (p:=⟨kb,ko+k,none⟩) hkb).trans (HK.o k hlt)
       have HWK:=acA (And.intro Xm hkk);have hkb3:kb<wr.heap.size:=Pd hkb hb3.size;have k64:(k:Int)<64:=by omega
       have k0:(0:Int)≤(k:Int):=by omega
       have ht:((k:Int)).toNat=k:=by omega
       clear Xm hkk hst hw3 hb3;go_wp2_with fail
       go_quiet ((go_at_call 257;first|(with_reducible exact Calls.quiet_of_same (lM (r6.o sf _)))|(with_reducible exact Calls.quiet_of_same (lM (r11.o sf _)))|(with_reducible exact Calls.quiet_of_same (lM (r25.o sf _)))))
       have Tk:(wr.drewN nq).heap[w.heap.size]? =some (.cells (Ey (fI bs 48)) 218 (0,0)):=HW3.o;have Tm:Below w.heap.size w (wr.drewN nq):=⟨HB3.o.os,HB3.o.tape,HB3.o.output,HB3.o.size,HB3.o.block⟩;generalize wr.drewN nq=wq at*;have HWQ:=acA Tk;have LW:=acA Tm;clear Tk Tm hcw hck;go_wp2_with (first|(go_at_call 257;(first|(with_reducible refine(r2.o _ _).mono ?_)|(with_reducible refine(r13.o _ _).mono ?_)|(with_reducible refine(r22.o _ _).mono ?_));rintro e w' ⟨rfl,rfl⟩));go_roundw
       case rel=>
        refine⟨k+1,xV ⟨sa,sc,sd,se,sf,sg,sh,sj⟩ kk ww,by go_num,by omega,?_,rfl,rfl,rfl,rfl,rfl,rfl,rfl,rfl,HWQ.o,LW.o⟩;show _=xV (nL ⟨h0,h1,h2,h3,h4,h5,h6,h7⟩ (fI bs 48) k) (kM.getD k 0) ((fI bs 48).getD k 0);rw[←HST.o,HWK.o.1,HWK.o.2]
       case measure=>simp[intOf];omega
      ·have Tn:k=64:=by omega
       have hd:decide ((k:Int)<64)=false:=by simp;omega
       rw[Tn]at HST;clear Tn hk hlt hst hw3 hb3;have hsb3:sb<wr.heap.size:=Pd hsw HB3.o.size;go_wp2_with fail;have hnb:=(MapKept.heap_alloc wr (.cells #[.int .u32 sa,.int .u32 sc,.int .u32 sd,.int .u32 se,.int .u32 sf,.int .u32 sg,.int .u32 sh,.int .u32 sj] 216)).1;have hwb:=wall wr (.cells #[.int .u32 sa,.int .u32 sc,.int .u32 sd,.int .u32 se,.int .u32 sf,.int .u32 sg,.int .u32 sh,.int .u32 sj] 216);have hsz:=aad wr (.cells #[.int .u32 sa,.int .u32 sc,.int .u32 sd,.int .u32 se,.int .u32 sf,.int .u32 sg,.int .u32 sh,.int .u32 sj] 216);have hK1:Keeps (fun x=>x=sb) w (wr.alloc (.cells #[.int .u32 sa,.int .u32 sc,.int .u32 sd,.int .u32 se,.int .u32 sf,.int .u32 sg,.int .u32 sh,.int .u32 sj] 216)):=(Keeps.below (HB3.o.trans (hwb.mono HB3.o.size))).mono fun x hx hx'=>absurd hx (by omega);have hs1:(wr.alloc (.cells #[.int .u32 sa,.int .u32 sc,.int .u32 sd,.int .u32 se,.int .u32 sf,.int .u32 sg,.int .u32 sh,.int .u32 sj] 216)).heap[sb]? =some (.cells (List.map eP [h0,h1,h2,h3,h4,h5,h6,h7]++tail).toArray ty (0,0)):=(hwb.block sb hsb3).trans ((HB3.o.block sb hsw).trans HS.o);obtain⟨nb,hnbe⟩:∃nb,nb=wr.heap.size:=⟨_,rfl⟩;have hnbw:w.heap.size≤nb:=by rw[hnbe];exact HB3.o.size
       rw[←hnbe]at hnb hsz⊢;generalize wr.alloc (.cells #[.int .u32 sa,.int .u32 sc,.int .u32 sd,.int .u32 se,.int .u32 sf,.int .u32 sg,.int .u32 sh,.int .u32 sj] 216)=w1 at*;have hL:([sa,sc,sd,se,sf,sg,sh,sj]:List Int)=(nL (wL.of [h0,h1,h2,h3,h4,h5,h6,h7]) (fI bs 48) 64).list:=by
        have:=aaT wL.list HST.o;exact this
       have hnb2:w1.heap[nb]? =some (.cells ((([sa,sc,sd,se,sf,sg,sh,sj]:List Int).map eP).toArray) 216 (0,0)):=hnb;obtain⟨L,Zc⟩:∃L:List Int,L=[sa,sc,sd,se,sf,sg,sh,sj]:=⟨_,rfl⟩;rw[←Zc]at hnb2 hL;have FH:=acA hL;have HL8:acB (L.length=8):=by rw[Zc];rfl
       obtain⟨H,hHe⟩:∃H:List Int,H=[h0,h1,h2,h3,h4,h5,h6,h7]:=⟨_,rfl⟩;have HH8:acB (H.length=8):=by rw[hHe];rfl
       rw[←hHe]at hs1 FH;have Ry:=acA hHe;have jI:=acA hs1;have yF:=acA hK1;have HNB2:=acA hnb2;clear hnb hwb hsz hK1 hs1 hL hnb2 Zc hHe hnbe
       go_loopw [24,25,187] (fun _ _ kv wx=>∃k:Nat,kv= .int .i64 k∧k≤8∧wx.heap[sb]? =some (.cells (((iG H bs).take k++H.drop k).map eP++tail).toArray ty (0,0))∧wx.heap[nb]? =some (.cells ((L.map eP).toArray) 216 (0,0))∧Keeps (fun x=>x=sb) w wx) (fun _ _ kv _=>8-(intOf kv).toNat)
       case atStart=>exact⟨0,rfl,by omega,by simpa using jI.o,HNB2.o,yF.o⟩
       case round=>
        obtain⟨k,rfl,hk,hsx,hnx,hkx⟩:=hrel;have HSX:=acA hsx;have LX:=acA hnx;have Tp:=acA hkx;by_cases hlt:k<8
        ·have hd:decide ((k:Int)<8)=true:=by simp;omega
         have NY:=mX H bs HH8.o;obtain⟨x,hx⟩:∃x,x=L.getD k 0:=⟨_,rfl⟩;obtain⟨y,hy⟩:∃y,y=H.getD k 0:=⟨_,rfl⟩;have d1:wr.cell? ⟨nb,k,none⟩=some (.int .u32 x):=by
          rw[hx];have:=Am HL8.o hlt;simp only[World.cell?,hnx];exact this
         have d2:wr.cell? ⟨sb,k,none⟩=some (.int .u32 y):=by
          rw[hy];have:=GU (A:=iG H bs) (B:=H) (tail:=tail) NY HH8.o hlt;simp only[World.cell?,hsx];exact this
         have df:wr.frozen? ⟨sb,k,none⟩=false:=by simp[World.frozen?,hsx]
         have HXY:=acA (And.intro hx hy);have k8:(k:Int)<8:=by omega
         have k0:(0:Int)≤(k:Int):=by omega
         have ht:((k:Int)).toNat=k:=by omega
         clear hx hy hsx hnx hkx NY;go_wp2_with fail;refine qA 9 ((fun w'=>w'.cell? ⟨sb,k,none⟩=some (.int .u32 y)∧w'.frozen? ⟨sb,k,none⟩=false)) ?_ fun hS=> ?_
         ·exact⟨d2,df⟩
         refine au 0 hS ?_;refine au 1 hS ?_;refine au 2 hS ?_;refine au 3 hS ?_;refine au 4 hS ?_;refine au 5 hS ?_;refine au 6 hS ?_;refine au 7 hS ?_;refine au 8 hS ?_;refine bB 9 fun K hK=> ?_;go_simp;refine kX hK ?_;clear hS hK K;go_wp2_with fail;go_roundw
         case rel=>
          have NY:=mX H bs HH8.o;have e9:IJ (y+x)=(iG H bs).getD k 0:=by
           rw[Dl HH8.o hlt,←FH.o,HXY.o.1,HXY.o.2]
          refine⟨k+1,by go_num,by omega,?_,?_,?_⟩
          ·rw[←NW NY HH8.o hlt,←e9];exact aI (w:=wr.drew) HSX.o
          ·refine(aV wr.drew ⟨sb,k,none⟩ _ nb ?_).trans LX.o;show nb≠sb;omega
          ·exact((Tp.o.trans (show Keeps (fun x=>x=sb) wr wr.drew from⟨rfl,rfl,rfl,Nat.le_refl _,fun _ _ _=>rfl⟩) fun x _ hx=>hx).trans (Keeps.f_ wr.drew ⟨sb,k,none⟩ _) fun x _ hx=>hx)
         case measure=>simp[intOf];omega
        ·have hd:decide ((k:Int)<8)=false:=by simp;omega
         have Pv:k=8:=by omega
         rw[Pv]at HSX;go_wp2_with fail
         go_end0
         refine⟨rfl,?_,Tp.o⟩;have h9:=HSX.o;have e1:(iG H bs).take 8=iG H bs:=List.take_of_length_le (by rw[mX H bs HH8.o];omega);have e2:H.drop 8=[]:=abp (by rw[HH8.o];omega);rw[e1,e2,aaE,Ry.o]at h9;exact h9
end Go.Proofs.YtjnhnlabpccgjaaGreatDoor
