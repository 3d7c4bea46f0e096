/- permafrostkeep.Names. permafrostbook.Same at texts. permafrostkeep.Cut. A drawn region taken by hand: the condition S may be made stronger on the way. -/
import Derived.Test.YtohpcppeajijnaaGreatM09
import Derived.Test.YtohpcppeajijnaaGreatM29
import Derived.Deep.CutBlock
import Derived.Deep.DeepCutAuto
import Derived.Test.YtohpcppeajijnaaGreatM18
import Derived.BigQuiet
import Derived.Deep.QuietTactic
import Derived.Test.YtohpcppeajijnaaGreatM01
import Derived.Deep.RegionHeld3
namespace Go.Proofs.YtohpcppeajijnaaGreat
open Go.ChangeShapes Go.WideShapes Go.ChangeAt Go.RowKit
set_option linter.unusedVariables false
set_option linter.unusedSimpArgs false
def jh:List (List Nm):=[[[97]],[[98]],[[99]],[[97],[97]],[[97],[98]],[[98],[97]],[[98],[98],[97]],[],[[99],[97]],[[98],[98]],[[65]],[[97],[]],[[46]]]
def ji (w:World):List Obj→World
 |[]=>w
 |o::r=>ji (w.alloc o) r
theorem mo:∀(os:List Obj) (w w0:World),w0.heap.size≤w.heap.size→Below w0.heap.size w0 w→Below w0.heap.size w0 (ji w os)
 |[],w,w0,_,h=>h
 |o::r,w,w0,hs,h=>mo r (w.alloc o) w0 (by simp;omega) (h.alloc hs o)
theorem q8:∀(os:List Obj) (w:World),(ji w os).heap.size=w.heap.size+os.length
 |[],w=>rfl
 |o::r,w=>by
  show(ji (w.alloc o) r).heap.size=_
  rw[q8 r,World.size_alloc,List.length_cons]
  omega
theorem lC:∀(os:List Obj) (w:World) (i:Nat) (o:Obj),os[i]? =some o→(ji w os).heap[w.heap.size+i]? =some o
 |[],w,i,o,h=>by simp at h
 |x::r,w,0,o,h=>by
  simp only[List.getElem?_cons_zero,Option.some.injEq]at h
  subst h
  have h1:=mo r (w.alloc x) (w.alloc x) (Nat.le_refl _) (Below.refl _ _)
  exact(h1.block w.heap.size (by simp)).trans (MapKept.heap_alloc w x).1
 |x::r,w,i+1,o,h=>by
  have:=lC r (w.alloc x) i o (by simpa using h)
  rw[World.size_alloc]at this
  rw[show w.heap.size+(i+1)=w.heap.size+1+i by omega]
  exact this
def I7 (w:World) (ls:List Nm) (e:Ending) (w':World):Prop:=
 ∃a c,e= .returned (.slice a ls.length c)∧ls.length≤c∧aH (fun x=>w.heap.size≤x∧x<w'.heap.size) w' a ls.length (ls.map strOf)∧Below w.heap.size w w'
def zw (w:World) (v:Value) (wx:World):Prop:=
 ∃g,v= .slice (some ⟨g,0,none⟩) 13 13∧g<wx.heap.size∧Below w.heap.size w wx∧∀(j:Nat) (ls:List Nm),jh[j]? =some ls→∃a c,wx.cell? ⟨g,j,none⟩=some (.slice a ls.length c)∧ls.length≤c∧aH (fun x=>w.heap.size≤x∧x<wx.heap.size) wx a ls.length (ls.map strOf)
def dV (ls:List Nm):Obj:= .cells (ls.map fun n=>Value.string (strOf n)).toArray 9
theorem I8 {w0 w:World} {g:Nat} {ls:List Nm} (h:w.heap[g]? =some (dV ls)) (hg:w0.heap.size≤g) (hs:ls.length≤3) (hl:∀n∈ls,n.length≤3):aH (fun x=>w0.heap.size≤x∧x<w.heap.size) w (some ⟨g,0,none⟩) ls.length (ls.map strOf):=by
 have hgw:=(Array.getElem?_eq_some_iff.1 h).1
 refine⟨⟨by simp,by unfold maxLen;omega,fun _=>⟨g,0,rfl,⟨hg,hgw⟩,hgw,fun i hi=> ?_⟩⟩,fun s hs'=> ?_⟩
 ·simp only[World.cell?,h,dV]
  simp
  rfl
 ·obtain⟨n,hn,rfl⟩:=List.mem_map.1 hs'
  rw[fF]
  have:=hl n hn
  unfold maxLen;omega
def wV (B:Nat):List Value:=[.slice (some ⟨B,0,none⟩) 1 1, .slice (some ⟨B+1,0,none⟩) 1 1, .slice (some ⟨B+2,0,none⟩) 1 1, .slice (some ⟨B+3,0,none⟩) 2 2, .slice (some ⟨B+4,0,none⟩) 2 2, .slice (some ⟨B+5,0,none⟩) 2 2, .slice (some ⟨B+6,0,none⟩) 3 3, .slice none 0 0, .slice (some ⟨B+7,0,none⟩) 2 2, .slice (some ⟨B+8,0,none⟩) 2 2, .slice (some ⟨B+9,0,none⟩) 1 1, .slice (some ⟨B+10,0,none⟩) 2 2, .slice (some ⟨B+11,0,none⟩) 1 1]
def iW (B:Nat):List Obj:=[dV [[97]],dV [[98]],dV [[99]],dV [[97],[97]],dV [[97],[98]],dV [[98],[97]],dV [[98],[98],[97]],dV [[99],[97]],dV [[98],[98]],dV [[65]],dV [[97],[]],dV [[46]], .cells (wV B).toArray 26]
theorem Dz (w:World):zw w (.slice (some ⟨w.heap.size+12,0,none⟩) 13 13) (ji w (iW w.heap.size)):=by
 have hsz:=q8 (iW w.heap.size) w
 have hl:(iW w.heap.size).length=13:=rfl
 rw[hl]at hsz
 refine⟨w.heap.size+12,rfl,by omega,mo _ w w (Nat.le_refl _) (Below.refl _ _),fun j ls hj=> ?_⟩
 have hcell:∀v,(wV w.heap.size)[j]? =some v→(ji w (iW w.heap.size)).cell? ⟨w.heap.size+12,j,none⟩=some v:=fun v hv=>by
  have:=lC (iW w.heap.size) w 12 _ rfl
  simp only[World.cell?,this]
  simpa using hv
 have key:∀(i n:Nat) (ls':List Nm),(iW w.heap.size)[i]? =some (dV ls')→(wV w.heap.size)[j]? =some (.slice (some ⟨w.heap.size+i,0,none⟩) n n)→ls'.length=n→ls'.length≤3→(∀x∈ls',x.length≤3)→ls'=ls→
   ∃a c,(ji w (iW w.heap.size)).cell? ⟨w.heap.size+12,j,none⟩=some (.slice a ls.length c)∧ls.length≤c∧aH (fun x=>w.heap.size≤x∧x<(ji w (iW w.heap.size)).heap.size) (ji w (iW w.heap.size)) a ls.length (ls.map strOf):=fun i n ls' h1 h2 h3 h4 h5 h6=>by
  subst h6
  exact⟨_,n,by rw[h3];exact hcell _ h2,by omega,I8 (lC _ w i _ h1) (by omega) h4 h5⟩
 match j,hj with
 |0,hj=>exact key 0 1 [[97]] rfl rfl rfl (by decide) (by decide) (Option.some.inj hj)
 |1,hj=>exact key 1 1 [[98]] rfl rfl rfl (by decide) (by decide) (Option.some.inj hj)
 |2,hj=>exact key 2 1 [[99]] rfl rfl rfl (by decide) (by decide) (Option.some.inj hj)
 |3,hj=>exact key 3 2 [[97],[97]] rfl rfl rfl (by decide) (by decide) (Option.some.inj hj)
 |4,hj=>exact key 4 2 [[97],[98]] rfl rfl rfl (by decide) (by decide) (Option.some.inj hj)
 |5,hj=>exact key 5 2 [[98],[97]] rfl rfl rfl (by decide) (by decide) (Option.some.inj hj)
 |6,hj=>exact key 6 3 [[98],[98],[97]] rfl rfl rfl (by decide) (by decide) (Option.some.inj hj)
 |7,hj=>
  have:([]:List Nm)=ls:=Option.some.inj hj
  subst this
  exact⟨none,0,hcell _ rfl,Nat.le_refl _,⟨av.nil _ _ _,by simp⟩⟩
 |8,hj=>exact key 7 2 [[99],[97]] rfl rfl rfl (by decide) (by decide) (Option.some.inj hj)
 |9,hj=>exact key 8 2 [[98],[98]] rfl rfl rfl (by decide) (by decide) (Option.some.inj hj)
 |10,hj=>exact key 9 1 [[65]] rfl rfl rfl (by decide) (by decide) (Option.some.inj hj)
 |11,hj=>exact key 10 2 [[97],[]] rfl rfl rfl (by decide) (by decide) (Option.some.inj hj)
 |12,hj=>exact key 11 1 [[46]] rfl rfl rfl (by decide) (by decide) (Option.some.inj hj)
 |j+13,hj=>simp[jh]at hj
def m_ (n:Int):Nat:=(kF n 0 1048576%13).toNat
def dO (n:Int):List Nm:=jh.getD (m_ n) []
theorem lD (n:Int):(dO n).length≤3:=by
 unfold dO
 rw[List.getD_eq_getElem?_getD]
 cases h:jh[m_ n]? with
 |none=>simp
 |some ls=>
  have:=List.mem_of_getElem? h
  revert ls
  intro ls _ hm
  have:∀l∈jh,l.length≤3:=by decide
  exact this ls hm
set_option maxHeartbeats 4000000 in
theorem qG (n:Int) (hn:(Lit.int .i64 n).wf=true) (w:World):Calls Tryz.prog 98 #[.int .i64 n] w (I7 w (dO n)):=by
 have hw:=Dx n 0 1048576 (by omega)
 have HW:=Lib.hid (fun w1=>Dy n 0 1048576 w1 hn (by omega) (by omega) (by omega))
 have hI:(m_ n:Int)=kF n 0 1048576%13:=by unfold m_;omega
 have hI2:m_ n<13:=by unfold m_;omega
 obtain⟨ls,hls⟩:∃ls,jh[m_ n]? =some ls:=⟨_,List.getElem?_eq_getElem (show m_ n<jh.length by simpa[jh]using hI2)⟩
 have hL:dO n=ls:=by unfold dO;rw[List.getD_eq_getElem?_getD,hls];rfl
 rw[hL]
 generalize kF n 0 1048576=v at*
 generalize m_ n=j at*
 have Xx:=Lib.hid hls
 have e1:v%13=(j:Int):=hI.symm
 have j0:(0:Int)≤j:=by omega
 have j1:(j:Int)<13:=by omega
 clear hls hL hI hn
 go_enter Tryz.func98,Tryz.ntmps98
 go_upto_region 1 with(fail)
 go_cut [3]from 4 to 16 (fun v wx=>zw w v wx)
 case first=>
  go_wp2_with fail
  go_meet
  exact Dz w
 case rest=>
  obtain⟨g,rfl,hg,hB,hc⟩:=hcut
  obtain⟨w1,rfl⟩:∃w1:World,w1=wc:=⟨_,rfl⟩
  obtain⟨a,c,hc1,hc2,hc3⟩:=hc j ls Xx.out
  have HS:=Lib.hid hc3
  have HB:=Lib.hid hB
  clear hc hc3 hB
  go_wp2_with fail
  (with_reducible refine(HW.out _).mono ?_)
  rintro e w2 ⟨rfl,rfl⟩
  go_wp2_with fail
  go_ret
  exact⟨a,c,rfl,hc2,HS.out,HB.out⟩
theorem BO {S S':Nat→Prop} (a a':Option Addr) (len cap len' cap':Nat) (ss ss':List ByteArray) (w:World) (h:aH S w a len ss) (h':aH S' w a' len' ss'):
  Calls Tryz.prog 117 #[.slice a len cap, .slice a' len' cap'] w fun e w'=>e= .returned (.bool (decide (ss=ss')))∧Below w.heap.size w w':=by
 have hl:=h.length
 have hl':=h'.length
 have hm:=h.row.small
 have hm':=h'.row.small
 unfold maxLen at hm hm'
 by_cases hne:len=len'
 ·subst hne
  have HL:=Lib.hid hl
  have PX:=Lib.hid hl'
  clear hl hl'
  go_enter Tryz.func117,Tryz.ntmps117
  go_wp2
  go_loopw [5] (fun i wr=>∃k:Nat,k≤len∧i= .int .i64 k∧ss.take k=ss'.take k∧Below w.heap.size w wr) (fun i _=>len-(intOf i).toNat)
  case atStart=>exact⟨0,by omega,rfl,rfl,Below.refl _ _⟩
  case round=>
   obtain⟨k,hk,rfl,ht,hb⟩:=hrel
   have HT:=Lib.hid ht
   clear ht
   by_cases hlt:k<len
   ·obtain⟨b,off,x,rfl,_,_,hx,_,hc⟩:=(h.below hb (Nat.le_refl _)).cell k hlt
    obtain⟨b',off',y,rfl,_,_,hy,_,hc'⟩:=(h'.below hb (Nat.le_refl _)).cell k hlt
    have HX:=Lib.hid hx
    have HY:=Lib.hid hy
    clear hx hy h h'
    have hk0:(0:Int)≤(k:Int):=by omega
    have hk1:(k:Int)<(len:Int):=by omega
    by_cases hxy:x=y
    ·subst hxy
     go_wp2
     go_quiet (fail)
     go_wp2
     go_roundw
     case rel=>exact⟨k+1,by omega,by go_num,sF HT.out HX.out HY.out,hb.trans ⟨rfl,rfl,rfl,Nat.le_refl _,fun _ _=>rfl⟩⟩
     case measure=>simp[intOf];omega
    ·have hxl:=yU hxy
     have HN:=Lib.hid hxy
     clear hxy
     go_wp2
     go_quiet (fail)
     go_wp2
     go_ret
     exact⟨gG (by simp[qX HX.out HY.out HN.out]),hb.trans ⟨rfl,rfl,rfl,Nat.le_refl _,fun _ _=>rfl⟩⟩
   ·go_wp2
    go_ret
    refine⟨gG ?_,hb⟩
    have:=HT.out
    rw[List.take_of_length_le (by have:=HL.out;omega),List.take_of_length_le (by have:=PX.out;omega)]at this
    simp[this]
 ·have hne':ss≠ss':=fun e=>hne (by rw[←hl,←hl',e])
  have HN:=Lib.hid hne'
  have hb0:((len:Int) !=(len':Int))=true:=by simp;omega
  clear hl hl' hne hne'
  go_enter Tryz.func117,Tryz.ntmps117
  go_wp2
  go_ret
  exact⟨gG (by simp[HN.out]),Below.refl _ _⟩
theorem EK (a:Option Addr) (len cap n:Nat) (hl:len≤cap) (hn:n≤1048576) (hm:len≤maxLen) (w:World):
  Calls Tryz.prog 54 #[.slice a len cap, .int .i64 n] w fun e w'=>e= .returned (.slice a (min len n) cap)∧w=w':=by
 unfold maxLen at hm
 by_cases h:n<len
 ·have e1:n≤cap:=by omega
  go_enter Tryz.func54,Tryz.ntmps54
  go_wp2
  go_ret
  rw[show min len n=n by omega]
  exact⟨rfl,rfl⟩
 ·go_enter Tryz.func54,Tryz.ntmps54
  go_wp2
  go_ret
  rw[show min len n=len by omega]
  exact⟨rfl,rfl⟩
theorem jH {P:Program} {md:Region.Mode} {ops:Array Oper} {Q:Exit→Act→World→Prop} {S S':World→Prop} (h:∀w,S' w→S w):
  ∀(fuel:Nat) (listed:Array Bool) (a:Act) (w:World),wpAnyH P md ops Q S' fuel listed a w→wpAnyH P md ops Q S fuel listed a w
 |0,_,_,_,hw=>hw
 |fuel+1,_,_,_,hw=>⟨hw.1,fun i hi=>wpOp_mono (fun _ _ h'=>⟨h _ h'.1,jH h fuel _ _ _ h'.2⟩) (hw.2 i hi)⟩
open Go
theorem aS {P:Program} {ops:Array Oper} {Q:Exit→Act→World→Prop} {md:Region.Mode} {S:World→Prop} (i:Nat) {oi:Oper} {v:Value} {fuel:Nat} {listed l':Array Bool} {a a':Act} {w:World}
  (hi:ops[i]? =some oi:=by simp only[List.getElem?_toArray,List.getElem?_cons_succ,List.getElem?_cons_zero];rfl)
  (hs:Region.noSelect ops=true:=by kernel_rfl) (hf:Region.free md ops listed i=true:=by kernel_rfl) (hr:(Region.ready md ops listed).contains i=true:=by kernel_rfl)
  (hQ:∀c a w,Q (.panic c) (a.put oi.dst v) w→Q (.panic c) a w:=by exact fun _ _ _ h=>h)
  (hw:Region.wanted oi (yielded ops a.tmps)=true:=by rfl)
  (hy:∀w,S w→(execOp a.eval oi).run P w= .ok (.value v) w:=by intro w hSw;(try dsimp only at hSw);go_simp;(try with_reducible rfl))
  (hl:listed.setIfInBounds i true=l':=by(try simp only[List.setIfInBounds_toArray,List.set_cons_zero,List.set_cons_succ]);rfl)
  (ha:a.put oi.dst v=a':=by(try simp only[Act.put,List.setIfInBounds_toArray,List.set_cons_zero,List.set_cons_succ]);rfl)
  (hS:S w) (h:wpAnyH P md ops Q S fuel l' a' w):wpAnyH P md ops Q S (fuel+1) listed a w:=
 wpAnyH_take hi hs hf hr hQ (Or.inl ⟨hw,hy⟩) hS (by rw[hl,ha];exact h)
theorem p9 {P:Program} {ops:Array Oper} {Q:Exit→Act→World→Prop} {md:Region.Mode} {S:World→Prop} (i:Nat) {o:Oper} {fuel:Nat} {listed:Array Bool} {a:Act} {w:World}
  (ho:ops[i]? =some o:=by simp only[List.getElem?_toArray,List.getElem?_cons_succ,List.getElem?_cons_zero];rfl) (hr:Region.ready md ops listed=[i]:=by kernel_rfl)
  (h:∀K':Act→World→Prop,Shut (∀a w,S w→(S w→wpAnyH P md ops Q S fuel (listed.setIfInBounds i true) a w)→K' a w)→if Region.wanted o (yielded ops a.tmps)=true then Oper.wp P o a w K' Q else K' (a.put o.dst undef) w):wpAnyH P md ops Q S (fuel+1) listed a w:=
 wpAnyH_ready hr (by simp) (AllReadyH.cons ho h AllReadyH.nil)
end Go.Proofs.YtohpcppeajijnaaGreat
