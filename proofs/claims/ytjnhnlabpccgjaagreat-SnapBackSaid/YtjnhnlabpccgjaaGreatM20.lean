/- package sha: turn. -/
import Derived.Test.YtjnhnlabpccgjaaGreatM19
import Derived.Test.YtjnhnlabpccgjaaGreatM12
import Derived.WalkLawsBesides
import Derived.BigQuiet
namespace Go.Proofs.YtjnhnlabpccgjaaGreat
open Go.ChangeShapes Go.WideShapes Go.ChangeAt Go.RowKit
set_option linter.unusedVariables false
set_option linter.unusedSimpArgs false
def AL (ws:List Int):Array Value:=((ws++List.replicate (64-ws.length) 0).map dJ).toArray
theorem NZ (ws:List Int) (x:Int) (h:ws.length<64):(AL ws).setIfInBounds ws.length (dJ x)=AL (ws++[x]):=by
 unfold AL
 rw[List.setIfInBounds_toArray]
 congr 1
 have e:64-ws.length=(64-(ws++[x]).length)+1:=by simp;omega
 rw[e,List.replicate_succ,List.map_append,List.map_append,List.map_cons,List.set_append_right _ _ (by simp)]
 simp
theorem RB (ws:List Int) (i:Nat) (h:i<ws.length):(AL ws)[i]? =some (dJ (ws.getD i 0)):=by
 unfold AL
 rw[List.getElem?_toArray,List.getElem?_map,List.getElem?_append_left h,List.getD_eq_getElem?_getD,List.getElem?_eq_getElem h]
 rfl
theorem lK {w:World} {b i:Nat} {ws:List Int} (hw:w.heap[b]? =some (.cells (AL ws) 194 (0,0))) (h:i<ws.length):w.cell? ⟨b,i,none⟩=some (dJ (ws.getD i 0)):=by
 rw[←RB ws i h]
 simp[World.cell?,hw]
theorem CZ {w:World} {b i:Nat} {ws:List Int} (hw:w.heap[b]? =some (.cells (AL ws) 194 (0,0))) (h:ws.length≤i) (h64:i<64):w.cell? ⟨b,i,none⟩=some (.int .u32 0):=by
 have:(AL ws)[i]? =some (.int .u32 0):=by
  unfold AL
  rw[List.getElem?_toArray,List.getElem?_map,List.getElem?_append_right h,List.getElem?_replicate,if_pos (by omega)]
  rfl
 rw[←this]
 simp[World.cell?,hw]
theorem C8 {w:World} {b:Nat} {ws:List Int} (hw:w.heap[b]? =some (.cells (AL ws) 194 (0,0))) (h:ws.length<64) (x:Int):(w.setCell ⟨b,ws.length,none⟩ (dJ x)).heap[b]? =some (.cells (AL (ws++[x])) 194 (0,0)):=by
 rw[aG hw,NZ ws x h]
theorem rZ {B:Nat} {w wr:World} (hb:Below B w wr) (hB:B≤wr.heap.size) {x:Nat} (hx:B≤x) (i:Nat) (v:Value):Below B w (wr.setCell ⟨x,i,none⟩ v):=
 hb.trans ((Keeps.fq wr ⟨x,i,none⟩ v).fD hB fun y hy (he:y=x)=>by omega)
theorem eight {α:Type} {l:List α} (h:l.length=8):∃a b c d e f g i,l=[a,b,c,d,e,f,g,i]:=by
 match l,h with
 |[a,b,c,d,e,f,g,i],_=>exact⟨a,b,c,d,e,f,g,i,rfl⟩
theorem Jk {A B:List Int} {tail:List Value} {k:Nat} (hA:A.length=8) (hB:B.length=8) (hk:k<8):(((A.take k++B.drop k).map dJ++tail).toArray).setIfInBounds k (dJ (A.getD k 0))=((A.take (k+1)++B.drop (k+1)).map dJ++tail).toArray:=by
 obtain⟨a0,a1,a2,a3,a4,a5,a6,a7,rfl⟩:=eight hA
 obtain⟨b0,b1,b2,b3,b4,b5,b6,b7,rfl⟩:=eight hB
 rw[List.setIfInBounds_toArray]
 match k,hk with
 |0,_=>rfl
 |1,_=>rfl
 |2,_=>rfl
 |3,_=>rfl
 |4,_=>rfl
 |5,_=>rfl
 |6,_=>rfl
 |7,_=>rfl
theorem C9 {A B:List Int} {tail:List Value} {k:Nat} (hA:A.length=8) (hB:B.length=8) (hk:k<8):(((A.take k++B.drop k).map dJ++tail).toArray)[k]? =some (dJ (B.getD k 0)):=by
 obtain⟨a0,a1,a2,a3,a4,a5,a6,a7,rfl⟩:=eight hA
 obtain⟨b0,b1,b2,b3,b4,b5,b6,b7,rfl⟩:=eight hB
 rw[List.getElem?_toArray]
 match k,hk with
 |0,_=>rfl
 |1,_=>rfl
 |2,_=>rfl
 |3,_=>rfl
 |4,_=>rfl
 |5,_=>rfl
 |6,_=>rfl
 |7,_=>rfl
theorem vT {A:List Int} {k:Nat} (hA:A.length=8) (hk:k<8):((A.map dJ).toArray)[k]? =some (dJ (A.getD k 0)):=by
 have:=C9 (A:=A) (B:=A) (tail:=[]) hA hA hk
 rw[List.take_append_drop,List.append_nil]at this
 exact this
theorem zm {h:List Int} {b:List UInt8} {k:Nat} (hl:h.length=8) (hk:k<8):(fF h b).getD k 0=DW (h.getD k 0+(kP (rY.of h) (dW b 48) 64).list.getD k 0):=by
 unfold fF
 obtain⟨a0,a1,a2,a3,a4,a5,a6,a7,rfl⟩:=eight hl
 generalize kP _ _ _=st
 match k,hk with
 |0,_=>rfl
 |1,_=>rfl
 |2,_=>rfl
 |3,_=>rfl
 |4,_=>rfl
 |5,_=>rfl
 |6,_=>rfl
 |7,_=>rfl
theorem jk {P:Program} {f:FuncId} {args:Array Value} {w:World} {v:Value} (h:Calls P f args w fun e w'=>e= .returned v∧w=w'):Calls P f args w fun e w'=>e= .returned v∧w'=w:=h.mono fun e w' ⟨h1,h2⟩=>⟨h1,h2.symm⟩
theorem Vj {B:Nat} {w w1:World} (h:Below B w w1):Below B w w1.drew:=⟨h.os,h.tape,h.output,h.size,h.block⟩
set_option maxRecDepth 100000 in
set_option maxHeartbeats 8000000 in
theorem EF {S:Nat→Prop} (sb kb ko:Nat) (ty:TypeId) (h:List Int) (tail:List Value) (ad:Option Addr) (n c:Nat) (bs:List UInt8) (w:World) (hl:h.length=8) (hS:w.heap[sb]? =some (.cells (h.map dJ++tail).toArray ty (0,0))) (hK:∀i,i<64→w.cell? ⟨kb,ko+i,none⟩=some (dJ (kM.getD i 0))) (hkb:kb<w.heap.size) (hr:ah S w ad n (bs.map bv)) (hn:64≤n) (hnc:n≤c):
  Calls Tryz.prog 204 #[.pointer (some ⟨sb,0,none⟩), .slice ad n c, .pointer (some ⟨kb,ko,none⟩)] w fun e w'=>e= .returned (.tuple #[])∧w'.heap[sb]? =some (.cells ((fF h bs).map dJ++tail).toArray ty (0,0))∧Keeps (fun x=>x=sb) w w':=by
 obtain⟨h0,h1,h2,h3,h4,h5,h6,h7,rfl⟩:∃h0 h1 h2 h3 h4 h5 h6 h7,h=[h0,h1,h2,h3,h4,h5,h6,h7]:=by
  match h,hl with
  |[h0,h1,h2,h3,h4,h5,h6,h7],_=>exact⟨h0,h1,h2,h3,h4,h5,h6,h7,rfl⟩
 have HS:=Lib.hid hS
 have HK:=Lib.hid hK
 have r7:=Lib.hid (fun x w=>lJ x (-7) 25 w (by kernel_rfl) (by omega) (by omega))
 have r18:=Lib.hid (fun x w=>lJ x (-18) 14 w (by kernel_rfl) (by omega) (by omega))
 have r17:=Lib.hid (fun x w=>lJ x (-17) 15 w (by kernel_rfl) (by omega) (by omega))
 have r19:=Lib.hid (fun x w=>lJ x (-19) 13 w (by kernel_rfl) (by omega) (by omega))
 have r6:=Lib.hid (fun x w=>lJ x (-6) 26 w (by kernel_rfl) (by omega) (by omega))
 have r11:=Lib.hid (fun x w=>lJ x (-11) 21 w (by kernel_rfl) (by omega) (by omega))
 have r25:=Lib.hid (fun x w=>lJ x (-25) 7 w (by kernel_rfl) (by omega) (by omega))
 have r2:=Lib.hid (fun x w=>lJ x (-2) 30 w (by kernel_rfl) (by omega) (by omega))
 have r13:=Lib.hid (fun x w=>lJ x (-13) 19 w (by kernel_rfl) (by omega) (by omega))
 have r22:=Lib.hid (fun x w=>lJ x (-22) 10 w (by kernel_rfl) (by omega) (by omega))
 have HR:=Lib.hid hr
 have hm:=hr.small
 unfold maxLen at hm
 clear hS hK hr hl
 go_enter Tryz.func204,Tryz.ntmps204
 go_wp2_with fail
 go_loopw [7,26] (fun _ iv wr=>∃k:Nat,iv= .int .i64 k∧k≤16∧wr.heap[w.heap.size]? =some (.cells (AL ((List.range k).map (rA bs))) 194 (0,0))∧Below w.heap.size w wr) (fun _ iv _=>16-(intOf iv).toNat)
 case atStart=>
  exact⟨0,rfl,by omega,(MapKept.heap_alloc w _).1,wall w _⟩
 case round=>
  obtain⟨k,rfl,hk,hw,hb⟩:=hrel
  by_cases hlt:k<16
  ·have hd:decide ((k:Int)<16)=true:=by simp;omega
   obtain⟨rb,ro,rfl,hrs,hrb,hrc⟩:=HR.out.at_ (by omega)
   have e1:IntKind.i64.wrap ((k:Int)*4)=(k:Int)*4:=IntWalk.i64_in _ (by omega)
   have g0:(0:Int)≤(k:Int)*4:=by omega
   have g1:(k:Int)*4≤(n:Int):=by omega
   have g2:(n:Int)≤(c:Int):=by omega
   have g3:¬c=k*4:=by omega
   have g4:((k:Int)*4).toNat=k*4:=by omega
   have G5:=Lib.hid (NY (some ⟨rb,ro+k*4,none⟩) (n-k*4) (c-k*4) (bs.drop (k*4)) wr (by have:=(HR.out.below hb (Nat.le_refl _)).drop (k*4);rwa [←List.map_drop]at this) (by omega))
   have hfz:wr.frozen? ⟨w.heap.size,k,none⟩=false:=by simp[World.frozen?,hw]
   have hz:wr.cell? ⟨w.heap.size,k,none⟩=some (.int .u32 0):=CZ hw (by simp) (by omega)
   have HW:=Lib.hid hw
   have HB:=Lib.hid hb
   obtain⟨wd,hwd⟩:∃wd,wd=rA bs k:=⟨_,rfl⟩
   change Hid (Calls _ _ _ _ fun e w'=>e= .returned (.int .u32 (rA bs k))∧wr=w')at G5
   rw[←hwd]at G5
   have HWD:=Lib.hid hwd
   have k64:(k:Int)<64:=by omega
   have k0:(0:Int)≤(k:Int):=by omega
   have ht:((k:Int)).toNat=k:=by omega
   clear hw hb hwd hrc hrs
   go_wp2_with fail
   (with_reducible refine G5.out.mono ?_)
   rintro e w2 ⟨rfl,rfl⟩
   go_wp2_with fail
   go_roundw
   case rel=>
    refine⟨k+1,by go_num,by omega,?_,?_⟩
    ·have h9:=C8 HW.out (by simp;omega) wd
     rw[List.length_map,List.length_range]at h9
     rw[List.range_succ,List.map_append,List.map_cons,List.map_nil,←HWD.out]
     exact h9
    ·exact rZ HB.out HB.out.size (Nat.le_refl _) _ _
   case measure=>simp[intOf];omega
  ·have Yr:k=16:=by omega
   have hd:decide ((k:Int)<16)=false:=by simp;omega
   rw[Yr]at hw
   have HW:=Lib.hid hw
   clear Yr
   have HB:=Lib.hid hb
   clear hw hb hk hlt
   go_wp2_with fail
   go_loopw [8,9,10,11,12] (fun iv _ _ _ _ wr=>∃i:Nat,iv= .int .i64 i∧16≤i∧i≤64∧wr.heap[w.heap.size]? =some (.cells (AL (dW bs (i-16))) 194 (0,0))∧Below w.heap.size w wr) (fun iv _ _ _ _ _=>64-(intOf iv).toNat)
   case atStart=>exact⟨16,rfl,by omega,by omega,HW.out,HB.out⟩
   case round=>
    obtain⟨i,rfl,hi16,N7,hw,hb⟩:=hrel
    have HW:=Lib.hid hw
    have HB:=Lib.hid hb
    by_cases hlt:i<64
    ·have hd:decide ((i:Int)<64)=true:=by simp;omega
     have hsl:=nC bs (i-16)
     have s15:=lK hw (show i-15<_ by rw[hsl];omega)
     have s2:=lK hw (show i-2<_ by rw[hsl];omega)
     have s16:=lK hw (show i-16<_ by rw[hsl];omega)
     have s7:=lK hw (show i-7<_ by rw[hsl];omega)
     have hz:=CZ hw (show(dW bs (i-16)).length≤i by rw[hsl];omega) hlt
     have hfz:wr.frozen? ⟨w.heap.size,i,none⟩=false:=by simp[World.frozen?,hw]
     have e15:IntKind.i64.wrap ((i:Int)-15)=(i:Int)-15:=IntWalk.i64_in _ (by omega)
     have e2:IntKind.i64.wrap ((i:Int)-2)=(i:Int)-2:=IntWalk.i64_in _ (by omega)
     have e16:IntKind.i64.wrap ((i:Int)-16)=(i:Int)-16:=IntWalk.i64_in _ (by omega)
     have e7:IntKind.i64.wrap ((i:Int)-7)=(i:Int)-7:=IntWalk.i64_in _ (by omega)
     have n15:((i:Int)-15).toNat=i-15:=by omega
     have n2:((i:Int)-2).toNat=i-2:=by omega
     have n16:((i:Int)-16).toNat=i-16:=by omega
     have n7:((i:Int)-7).toNat=i-7:=by omega
     have g15:(0:Int)≤(i:Int)-15:=by omega
     have g2':(0:Int)≤(i:Int)-2:=by omega
     have g16:(0:Int)≤(i:Int)-16:=by omega
     have g7:(0:Int)≤(i:Int)-7:=by omega
     have l15:(i:Int)-15<64:=by omega
     have l2:(i:Int)-2<64:=by omega
     have l16:(i:Int)-16<64:=by omega
     have l7:(i:Int)-7<64:=by omega
     have li:(i:Int)<64:=by omega
     have q16:(16:Int)≤(i:Int):=by omega
     have q7:(7:Int)≤(i:Int):=by omega
     have gi:(0:Int)≤(i:Int):=by omega
     have HSL:=Lib.hid hsl
     clear hw hb hsl
     obtain⟨w15,G6⟩:∃z,z=(dW bs (i-16)).getD (i-15) 0:=⟨_,rfl⟩
     obtain⟨w2,hw2⟩:∃z,z=(dW bs (i-16)).getD (i-2) 0:=⟨_,rfl⟩
     obtain⟨w16,hw16⟩:∃z,z=(dW bs (i-16)).getD (i-16) 0:=⟨_,rfl⟩
     obtain⟨w7,hw7⟩:∃z,z=(dW bs (i-16)).getD (i-7) 0:=⟨_,rfl⟩
     rw[←G6]at s15
     rw[←hw2]at s2
     rw[←hw16]at s16
     rw[←hw7]at s7
     have N8:=Lib.hid (And.intro G6 (And.intro hw2 (And.intro hw16 hw7)))
     clear G6 hw2 hw16 hw7
     go_wp2_with fail
     go_quiet (fail)
     have t16:(wr.drewN nq).cell? ⟨w.heap.size,i-16,none⟩=some (.int .u32 w16):=s16
     have t7:(wr.drewN nq).cell? ⟨w.heap.size,i-7,none⟩=some (.int .u32 w7):=s7
     have tz:(wr.drewN nq).cell? ⟨w.heap.size,i,none⟩=some (.int .u32 0):=hz
     have tf:(wr.drewN nq).frozen? ⟨w.heap.size,i,none⟩=false:=hfz
     have N9:(wr.drewN nq).heap[w.heap.size]? =some (.cells (AL (dW bs (i-16))) 194 (0,0)):=HW.out
     have N_:Below w.heap.size w (wr.drewN nq):=⟨HB.out.os,HB.out.tape,HB.out.output,HB.out.size,HB.out.block⟩
     generalize wr.drewN nq=wq at*
     have Vk:=Lib.hid N9
     have G7:=Lib.hid N_
     clear N9 N_ s15 s2 s16 s7 hz hfz
     go_wp2_with (first|(go_at_call 226;(first|(with_reducible refine(r7.out _ _).mono ?_)|(with_reducible refine(r18.out _ _).mono ?_)|(with_reducible refine(r17.out _ _).mono ?_)|(with_reducible refine(r19.out _ _).mono ?_));rintro e w' ⟨rfl,rfl⟩))
     refine qF 15 ((fun w'=>w'.cell? ⟨w.heap.size,i-16,none⟩=some (.int .u32 w16)∧w'.cell? ⟨w.heap.size,i-7,none⟩=some (.int .u32 w7)∧w'.cell? ⟨w.heap.size,i,none⟩=some (.int .u32 0)∧w'.frozen? ⟨w.heap.size,i,none⟩=false)) ?_ fun hS=> ?_
     ·exact⟨t16,t7,tz,tf⟩
     refine ak 0 hS ?_
     refine ak 1 hS ?_
     refine ak 2 hS ?_
     refine ak 3 hS ?_
     refine ak 4 hS ?_
     refine ak 5 hS ?_
     refine ak 6 hS ?_
     refine ak 7 hS ?_
     refine ak 8 hS ?_
     refine ak 9 hS ?_
     refine ak 10 hS ?_
     refine ak 11 hS ?_
     refine ak 12 hS ?_
     refine ak 13 hS ?_
     refine ak 14 hS ?_
     refine bK 15 fun K hK=> ?_
     go_simp
     refine j_ hK ?_
     clear hS hK K
     go_wp2_with fail
     go_roundw
     case rel=>
      refine⟨i+1,by go_num,by omega,by omega,?_,?_⟩
      ·have h9:=C8 (w:=wq.drew) Vk.out (by rw[HSL.out];omega) (wV (dW bs (i-16)))
       have e9:i+1-16=(i-16)+1:=by omega
       have e8:(dW bs (i-16)).length=i:=by rw[HSL.out];omega
       rw[e8]at h9
       rw[e9]
       unfold dW
       have e7:wV (dW bs (i-16))=DW (DW (DW (w16+sg0 w15)+w7)+sg1 w2):=by
        unfold wV
        rw[e8,N8.out.1,N8.out.2.1,N8.out.2.2.1,N8.out.2.2.2]
       rw[e7]at h9⊢
       exact h9
      ·exact rZ (Vj G7.out) G7.out.size (Nat.le_refl _) _ _
     case measure=>simp[intOf];omega
    ·have EG:i=64:=by omega
     have hd:decide ((i:Int)<64)=false:=by simp;omega
     rw[EG]at HW
     have N8:Hid (wr.heap[w.heap.size]? =some (.cells (AL (dW bs 48)) 194 (0,0))):=HW.out
     have hsw:sb<w.heap.size:=(Array.getElem?_eq_some_iff.1 HS.out).1
     have hcs:∀q,q<w.heap.size→wr.heap[q]? =w.heap[q]? :=fun q hq=>hb.block q hq
     have hs0:wr.heap[sb]? =some (.cells (List.map dJ [h0,h1,h2,h3,h4,h5,h6,h7]++tail).toArray ty (0,0)):=(hcs sb hsw).trans HS.out
     have c0:wr.cell? ⟨sb,0,none⟩=some (.int .u32 h0):=by simp[World.cell?,hs0]
     have c1:wr.cell? ⟨sb,1,none⟩=some (.int .u32 h1):=by simp[World.cell?,hs0]
     have c2:wr.cell? ⟨sb,2,none⟩=some (.int .u32 h2):=by simp[World.cell?,hs0]
     have c3:wr.cell? ⟨sb,3,none⟩=some (.int .u32 h3):=by simp[World.cell?,hs0]
     have c4:wr.cell? ⟨sb,4,none⟩=some (.int .u32 h4):=by simp[World.cell?,hs0]
     have c5:wr.cell? ⟨sb,5,none⟩=some (.int .u32 h5):=by simp[World.cell?,hs0]
     have c6:wr.cell? ⟨sb,6,none⟩=some (.int .u32 h6):=by simp[World.cell?,hs0]
     have c7:wr.cell? ⟨sb,7,none⟩=some (.int .u32 h7):=by simp[World.cell?,hs0]
     clear hw hb hi16 N7 hlt EG HW hcs hs0
     go_wp2_with fail
     go_quiet (fail)
     have N9:(wr.drewN nq).heap[w.heap.size]? =some (.cells (AL (dW bs 48)) 194 (0,0)):=N8.out
     have N_:Below w.heap.size w (wr.drewN nq):=⟨HB.out.os,HB.out.tape,HB.out.output,HB.out.size,HB.out.block⟩
     generalize wr.drewN nq=wq at*
     have Vk:=Lib.hid N9
     have G7:=Lib.hid N_
     clear N9 N_ c0 c1 c2 c3 c4 c5 c6 c7
     go_wp2_with fail
     go_loopw [13,14,15,16,17,18,19,20,21,22,23,112] (fun va vc vd ve vf vg vh vj _ _ _ kv wx=>∃(k:Nat) (st:rY),kv= .int .i64 k∧k≤64∧st=kP ⟨h0,h1,h2,h3,h4,h5,h6,h7⟩ (dW bs 48) k∧va= .int .u32 st.a∧vc= .int .u32 st.c∧vd= .int .u32 st.d∧ve= .int .u32 st.e∧vf= .int .u32 st.f∧vg= .int .u32 st.g∧vh= .int .u32 st.h∧vj= .int .u32 st.j∧wx.heap[w.heap.size]? =some (.cells (AL (dW bs 48)) 194 (0,0))∧Below w.heap.size w wx) (fun _ _ _ _ _ _ _ _ _ _ _ kv _=>64-(intOf kv).toNat)
     case atStart=>exact⟨0,_,rfl,by omega,rfl,rfl,rfl,rfl,rfl,rfl,rfl,rfl,rfl,Vk.out,G7.out⟩
     case round=>
      obtain⟨k,⟨sa,sc,sd,se,sf,sg,sh,sj⟩,rfl,hk,hst,rfl,rfl,rfl,rfl,rfl,rfl,rfl,rfl,hw3,hb3⟩:=hrel
      have HST:=Lib.hid hst
      have HW3:=Lib.hid hw3
      have HB3:=Lib.hid hb3
      simp only
      by_cases hlt:k<64
      ·have hd:decide ((k:Int)<64)=true:=by simp;omega
       obtain⟨ww,RD⟩:∃ww,ww=(dW bs 48).getD k 0:=⟨_,rfl⟩
       obtain⟨kk,hkk⟩:∃kk,kk=kM.getD k 0:=⟨_,rfl⟩
       have hcw:wr.cell? ⟨w.heap.size,k,none⟩=some (.int .u32 ww):=by
        rw[RD]
        exact lK hw3 (by rw[nC];omega)
       have hck:wr.cell? ⟨kb,ko+k,none⟩=some (.int .u32 kk):=by
        rw[hkk]
        exact(hb3.cell (p:=⟨kb,ko+k,none⟩) hkb).trans (HK.out k hlt)
       have XC:=Lib.hid (And.intro RD hkk)
       have hkb3:kb<wr.heap.size:=Nat.lt_of_lt_of_le hkb hb3.size
       have k64:(k:Int)<64:=by omega
       have k0:(0:Int)≤(k:Int):=by omega
       have ht:((k:Int)).toNat=k:=by omega
       clear RD hkk hst hw3 hb3
       go_wp2_with fail
       go_quiet ((go_at_call 226;first|(with_reducible exact Calls.quiet_of_same (jk (r6.out sf _)))|(with_reducible exact Calls.quiet_of_same (jk (r11.out sf _)))|(with_reducible exact Calls.quiet_of_same (jk (r25.out sf _)))))
       have N9:(wr.drewN nq).heap[w.heap.size]? =some (.cells (AL (dW bs 48)) 194 (0,0)):=HW3.out
       have N_:Below w.heap.size w (wr.drewN nq):=⟨HB3.out.os,HB3.out.tape,HB3.out.output,HB3.out.size,HB3.out.block⟩
       generalize wr.drewN nq=wq at*
       have Vk:=Lib.hid N9
       have G7:=Lib.hid N_
       clear N9 N_ hcw hck
       go_wp2_with (first|(go_at_call 226;(first|(with_reducible refine(r2.out _ _).mono ?_)|(with_reducible refine(r13.out _ _).mono ?_)|(with_reducible refine(r22.out _ _).mono ?_));rintro e w' ⟨rfl,rfl⟩))
       go_roundw
       case rel=>
        refine⟨k+1,tu ⟨sa,sc,sd,se,sf,sg,sh,sj⟩ kk ww,by go_num,by omega,?_,rfl,rfl,rfl,rfl,rfl,rfl,rfl,rfl,Vk.out,G7.out⟩
        show _=tu (kP ⟨h0,h1,h2,h3,h4,h5,h6,h7⟩ (dW bs 48) k) (kM.getD k 0) ((dW bs 48).getD k 0)
        rw[←HST.out,XC.out.1,XC.out.2]
       case measure=>simp[intOf];omega
      ·have Oa:k=64:=by omega
       have hd:decide ((k:Int)<64)=false:=by simp;omega
       rw[Oa]at HST
       clear Oa hk hlt hst hw3 hb3
       have hsb3:sb<wr.heap.size:=Nat.lt_of_lt_of_le hsw HB3.out.size
       go_wp2_with fail
       have hnb:=(MapKept.heap_alloc wr (.cells #[.int .u32 sa, .int .u32 sc, .int .u32 sd, .int .u32 se, .int .u32 sf, .int .u32 sg, .int .u32 sh, .int .u32 sj] 192)).1
       have hwb:=wall wr (.cells #[.int .u32 sa, .int .u32 sc, .int .u32 sd, .int .u32 se, .int .u32 sf, .int .u32 sg, .int .u32 sh, .int .u32 sj] 192)
       have hsz:=World.size_alloc wr (.cells #[.int .u32 sa, .int .u32 sc, .int .u32 sd, .int .u32 se, .int .u32 sf, .int .u32 sg, .int .u32 sh, .int .u32 sj] 192)
       have hK1:Keeps (fun x=>x=sb) w (wr.alloc (.cells #[.int .u32 sa, .int .u32 sc, .int .u32 sd, .int .u32 se, .int .u32 sf, .int .u32 sg, .int .u32 sh, .int .u32 sj] 192)):=(Keeps.below (HB3.out.trans (hwb.mono HB3.out.size))).mono fun x hx hx'=>absurd hx (by omega)
       have hs1:(wr.alloc (.cells #[.int .u32 sa, .int .u32 sc, .int .u32 sd, .int .u32 se, .int .u32 sf, .int .u32 sg, .int .u32 sh, .int .u32 sj] 192)).heap[sb]? =some (.cells (List.map dJ [h0,h1,h2,h3,h4,h5,h6,h7]++tail).toArray ty (0,0)):=(hwb.block sb hsb3).trans ((HB3.out.block sb hsw).trans HS.out)
       obtain⟨nb,Vl⟩:∃nb,nb=wr.heap.size:=⟨_,rfl⟩
       have hnbw:w.heap.size≤nb:=by rw[Vl];exact HB3.out.size
       rw[←Vl]at hnb hsz⊢
       generalize wr.alloc (.cells #[.int .u32 sa, .int .u32 sc, .int .u32 sd, .int .u32 se, .int .u32 sf, .int .u32 sg, .int .u32 sh, .int .u32 sj] 192)=w1 at*
       have hL:([sa,sc,sd,se,sf,sg,sh,sj]:List Int)=(kP (rY.of [h0,h1,h2,h3,h4,h5,h6,h7]) (dW bs 48) 64).list:=by
        have:=congrArg rY.list HST.out
        exact this
       have Vm:w1.heap[nb]? =some (.cells ((([sa,sc,sd,se,sf,sg,sh,sj]:List Int).map dJ).toArray) 192 (0,0)):=hnb
       obtain⟨L,QD⟩:∃L:List Int,L=[sa,sc,sd,se,sf,sg,sh,sj]:=⟨_,rfl⟩
       rw[←QD]at Vm hL
       have za:=Lib.hid hL
       have Yt:Hid (L.length=8):=by rw[QD];rfl
       obtain⟨H,Uf⟩:∃H:List Int,H=[h0,h1,h2,h3,h4,h5,h6,h7]:=⟨_,rfl⟩
       have Vn:Hid (H.length=8):=by rw[Uf];rfl
       rw[←Uf]at hs1 za
       have Bd:=Lib.hid Uf
       have pK:=Lib.hid hs1
       have sF:=Lib.hid hK1
       have HNB2:=Lib.hid Vm
       clear hnb hwb hsz hK1 hs1 hL Vm QD Uf Vl
       go_loopw [24,25,187] (fun _ _ kv wx=>∃k:Nat,kv= .int .i64 k∧k≤8∧wx.heap[sb]? =some (.cells (((fF H bs).take k++H.drop k).map dJ++tail).toArray ty (0,0))∧wx.heap[nb]? =some (.cells ((L.map dJ).toArray) 192 (0,0))∧Keeps (fun x=>x=sb) w wx) (fun _ _ kv _=>8-(intOf kv).toNat)
       case atStart=>exact⟨0,rfl,by omega,by simpa using pK.out,HNB2.out,sF.out⟩
       case round=>
        obtain⟨k,rfl,hk,hsx,hnx,hkx⟩:=hrel
        have XD:=Lib.hid hsx
        have EH:=Lib.hid hnx
        have xL:=Lib.hid hkx
        by_cases hlt:k<8
        ·have hd:decide ((k:Int)<8)=true:=by simp;omega
         have RF:=jP H bs Vn.out
         obtain⟨x,hx⟩:∃x,x=L.getD k 0:=⟨_,rfl⟩
         obtain⟨y,hy⟩:∃y,y=H.getD k 0:=⟨_,rfl⟩
         have d1:wr.cell? ⟨nb,k,none⟩=some (.int .u32 x):=by
          rw[hx]
          have:=vT Yt.out hlt
          simp only[World.cell?,hnx]
          exact this
         have d2:wr.cell? ⟨sb,k,none⟩=some (.int .u32 y):=by
          rw[hy]
          have:=C9 (A:=fF H bs) (B:=H) (tail:=tail) RF Vn.out hlt
          simp only[World.cell?,hsx]
          exact this
         have df:wr.frozen? ⟨sb,k,none⟩=false:=by simp[World.frozen?,hsx]
         have Yu:=Lib.hid (And.intro hx hy)
         have k8:(k:Int)<8:=by omega
         have k0:(0:Int)≤(k:Int):=by omega
         have ht:((k:Int)).toNat=k:=by omega
         clear hx hy hsx hnx hkx RF
         go_wp2_with fail
         refine qF 9 ((fun w'=>w'.cell? ⟨sb,k,none⟩=some (.int .u32 y)∧w'.frozen? ⟨sb,k,none⟩=false)) ?_ fun hS=> ?_
         ·exact⟨d2,df⟩
         refine ak 0 hS ?_
         refine ak 1 hS ?_
         refine ak 2 hS ?_
         refine ak 3 hS ?_
         refine ak 4 hS ?_
         refine ak 5 hS ?_
         refine ak 6 hS ?_
         refine ak 7 hS ?_
         refine ak 8 hS ?_
         refine bK 9 fun K hK=> ?_
         go_simp
         refine j_ hK ?_
         clear hS hK K
         go_wp2_with fail
         go_roundw
         case rel=>
          have RF:=jP H bs Vn.out
          have e9:DW (y+x)=(fF H bs).getD k 0:=by
           rw[zm Vn.out hlt,←za.out,Yu.out.1,Yu.out.2]
          refine⟨k+1,by go_num,by omega,?_,?_,?_⟩
          ·rw[←Jk RF Vn.out hlt,←e9]
           exact aG (w:=wr.drew) XD.out
          ·refine(aK wr.drew ⟨sb,k,none⟩ _ nb ?_).trans EH.out
           show nb≠sb
           omega
          ·exact((xL.out.trans (show Keeps (fun x=>x=sb) wr wr.drew from⟨rfl,rfl,rfl,Nat.le_refl _,fun _ _ _=>rfl⟩) fun x _ hx=>hx).trans (Keeps.fq wr.drew ⟨sb,k,none⟩ _) fun x _ hx=>hx)
         case measure=>simp[intOf];omega
        ·have hd:decide ((k:Int)<8)=false:=by simp;omega
         have hk8:k=8:=by omega
         rw[hk8]at XD
         go_wp2_with fail
         go_end0
         refine⟨rfl,?_,xL.out⟩
         have h9:=XD.out
         have e1:(fF H bs).take 8=fF H bs:=List.take_of_length_le (by rw[jP H bs Vn.out];omega)
         have e2:H.drop 8=[]:=List.drop_eq_nil_of_le (by rw[Vn.out];omega)
         rw[e1,e2,List.append_nil,Bd.out]at h9
         exact h9
end Go.Proofs.YtjnhnlabpccgjaaGreat
