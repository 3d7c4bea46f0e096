/- permafrostlaw11.full: the walk. -/
import Derived.Test.YtohpcppeajijnaaGreatM43
import Derived.Test.YtohpcppeajijnaaGreatM41
namespace Go.Proofs.YtohpcppeajijnaaGreat
open Go.ChangeShapes Go.WideShapes Go.ChangeAt Go.RowKit
set_option linter.unusedVariables false
set_option linter.unusedSimpArgs false
def BX (i:Nat):ByteArray:=strOf [UInt8.ofNat (97+i)]
theorem KO (i:Nat) (hi:i<26):Utf8.encode (97+(i:Int))=BX i:=by
 rcases (show i=0∨i=1∨i=2∨i=3∨i=4∨i=5∨i=6∨i=7∨i=8∨i=9∨i=10∨i=11∨i=12∨i=13∨i=14∨i=15∨i=16∨i=17∨i=18∨i=19∨i=20∨i=21∨i=22∨i=23∨i=24∨i=25 by omega)with rfl|rfl|rfl|rfl|rfl|rfl|rfl|rfl|rfl|rfl|rfl|rfl|rfl|rfl|rfl|rfl|rfl|rfl|rfl|rfl|rfl|rfl|rfl|rfl|rfl|rfl<;>rfl
theorem uj (i:Nat) (hi:i<26):∀w,(convert 3 21 (.int .i64 (97+(i:Int)))).run Tryz.prog w= .ok (.int .i32 (97+(i:Int))) w:=fun w=>by
 have hk:Tryz.prog.intKind 21= .i32:=by kernel_rfl
 have:=run_convert_int (P:=Tryz.prog) w 3 21 .i64 (97+(i:Int)) (by rw[Tryz.underlying3];rfl) (by rw[hk];exact Tryz.underlying21)
 rw[this,hk,IntWalk.i32_in _ (by omega)]
theorem um (i:Nat) (hi:i<26):∀w,(convert 21 9 (.int .i32 (97+(i:Int)))).run Tryz.prog w= .ok (.string (BX i)) w:=fun w=>by
 have:=run_convert_int_string (P:=Tryz.prog) w 21 9 .i32 (97+(i:Int)) (by rw[Tryz.underlying21];rfl) Tryz.underlying9
 rw[this,KO i hi]
theorem Dk (c:UInt8) (i:Nat) (cs:ByteArray) (hc:cs=strOf [c]):cs++BX (i%26)++BX (i/26)=strOf (bM c i):=by
 subst hc
 unfold BX bM
 rw[qw,qw]
 rfl
section
variable {W w:World} {P:Nat→Prop} {p i:Nat}
theorem KP (h:fB W P w p (aJ i)) (hi:i<63):Calls Tryz.prog 12 #[ptr p, .slice (some ⟨w.heap.size,0,none⟩) 1 1, .int .i64 1] (w.alloc (.cells #[.string (strOf (bM 110 (i+1)))] 9)) fun e w'=>gu W P (w.alloc (.cells #[.string (strOf (bM 110 (i+1)))] 9)) p (aJ (i+1)) (.tuple #[.int .i64 ((i:Int)+1), .int .i64 0]) e w':=by
 have h1:=tY (h.grow (wall w (.cells #[.string (strOf (bM 110 (i+1)))] 9))) (some ⟨w.heap.size,0,none⟩) 1 1 [bM 110 (i+1)] 1 (jZ (w:=w) (vs:=[.string (strOf (bM 110 (i+1)))]) 9 rfl rfl (by simp) (by simp[bM])) (Nat.le_refl _) (by omega)
 rw[EU i hi]at h1
 exact h1
theorem Dl {T T':aH} {v:Int} (s1 s2:Nm) (h:fB W P w p T) (hv:aO T [s1] [s2]=(v,T')) (h1:s1.length≤1000) (h2:s2.length≤1000):
  Calls Tryz.prog 16 #[ptr p, .slice (some ⟨w.heap.size,0,none⟩) 1 1, .slice (some ⟨w.heap.size+1,0,none⟩) 1 1] ((w.alloc (.cells #[.string (strOf s1)] 9)).alloc (.cells #[.string (strOf s2)] 9)) (gu W P ((w.alloc (.cells #[.string (strOf s1)] 9)).alloc (.cells #[.string (strOf s2)] 9)) p T' (.int .i64 v)):=by
 have h3:=Cv (h.grow ((wall w (.cells #[.string (strOf s1)] 9)).alloc (by simp) (.cells #[.string (strOf s2)] 9))) (some ⟨w.heap.size,0,none⟩) 1 1 [s1] (some ⟨w.heap.size+1,0,none⟩) 1 1 [s2]
  ((jZ (w:=w) (vs:=[.string (strOf s1)]) 9 rfl rfl (by simp) (by simpa using h1)).below (wall _ _) (Nat.le_refl _))
  (by
   have:=jZ (w:=w.alloc (.cells #[.string (strOf s1)] 9)) (vs:=[.string (strOf s2)]) (ls:=[s2]) 9 rfl rfl (by simp) (by simpa using h2)
   rw[World.size_alloc]at this
   exact this) (Nat.le_refl _) (by omega)
 rw[hv]at h3
 exact h3
set_option maxRecDepth 100000 in
set_option maxHeartbeats 16000000 in
theorem IX (w:World):Calls Tryz.prog 34 #[] w fun e w'=>e= .returned (.bool true)∧Below w.heap.size w w':=by
 go_enter Tryz.func34,Tryz.ntmps34
 go_wp2_with fail
 (with_reducible refine(F9 w w (Below.refl _ _)).mono ?_)
 rintro e w1 ⟨p,rfl,hT1,hb1⟩
 have HT1:=Lib.hid hT1
 rw[←BS]at HT1
 clear hT1 hb1
 go_wp2_with fail
 go_loopw [2] (fun i wr=>∃k:Nat,i= .int .i64 ((k:Int)+1)∧k≤63∧fB w (fun x=>x<w.heap.size) wr p (aJ k)) (fun i _=>64-(intOf i).toNat)
 case atStart=>exact⟨0,rfl,by omega,HT1.out⟩
 case round=>
  obtain⟨k,rfl,hk,hT⟩:=hrel
  have HT:=Lib.hid hT
  clear hT
  by_cases hlt:k<63
  ·obtain⟨j,hj⟩:∃j,j=k+1:=⟨_,rfl⟩
   have ej:(k:Int)+1=(j:Int):=by omega
   rw[ej]
   have hd:decide ((j:Int)<64)=true:=by simp;omega
   have hdl:(j:Int)<64:=by omega
   obtain⟨m,hm⟩:∃m,m=j%26:=⟨_,rfl⟩
   obtain⟨d,hdv⟩:∃d,d=j/26:=⟨_,rfl⟩
   have IY:m<26:=by omega
   have IZ:d<26:=by omega
   have em:(j:Int)%26=(m:Int):=by omega
   have et:(j:Int).tmod 26=(m:Int):=by rw[Int.tmod_eq_emod_of_nonneg (by omega)];exact em
   have ed:(j:Int)/26=(d:Int):=by omega
   have etd:(j:Int).tdiv 26=(d:Int):=by rw[Int.tdiv_eq_ediv_of_nonneg (by omega)];exact ed
   have w1':IntKind.i64.wrap (97+(m:Int))=97+(m:Int):=IntWalk.i64_in _ (by omega)
   have w2':IntKind.i64.wrap (97+(d:Int))=97+(d:Int):=IntWalk.i64_in _ (by omega)
   have w3':IntKind.i64.wrap ((d:Int))=(d:Int):=IntWalk.i64_in _ (by omega)
   have v1:=uj m IY
   have v2:=um m IY
   have v3:=uj d IZ
   have v4:=um d IZ
   have hs:(⟨#[110]⟩:ByteArray)++BX m++BX d=strOf (bM 110 (k+1)):=by
    rw[hm,hdv,←hj]
    exact Dk 110 j ⟨#[110]⟩ rfl
   have hz1:¬9223372036854775807<(⟨#[110]⟩:ByteArray).size+(BX m).size:=by show ¬9223372036854775807<1+(strOf [UInt8.ofNat (97+m)]).size;rw[dF];simp
   have hz2:¬9223372036854775807<((⟨#[110]⟩:ByteArray)++BX m).size+(BX d).size:=by
    rw[ByteArray.size_append]
    show ¬9223372036854775807<1+(strOf [UInt8.ofNat (97+m)]).size+(strOf [UInt8.ofNat (97+d)]).size
    rw[dF,dF];simp
   have Hf:=Lib.hid (KP HT.out hlt)
   have HJ:=Lib.hid hj
   clear hm hdv hj ej
   go_wp2_with fail
   (with_reducible refine Hf.out.mono ?_)
   rintro e w3 ⟨rfl,wD,hK3⟩
   have HT3:=Lib.hid wD
   have hjk:(k:Int)+1=(j:Int):=by have:=HJ.out;omega
   rw[hjk]
   have wj:IntKind.i64.wrap ((j:Int)+1)=(j:Int)+1:=IntWalk.i64_in _ (by omega)
   clear wD hK3 hjk hs hz1 hz2 v1 v2 v3 v4
   go_wp2_with fail
   go_roundw
   case rel=>exact⟨k+1,by have:=HJ.out;go_num,by omega,HT3.out⟩
   case measure=>have:=HJ.out;simp[intOf];omega
  ·have NJ:Hid (fB w (fun x=>x<w.heap.size) wr p (aJ 63)):=by
    have:=HT.out
    rw[show k=63 by omega]at this
    exact this
   have I4:(k:Int)+1=64:=by omega
   rw[I4]
   have HMX:=Lib.hid (by
    have h1:=tY (NJ.out.grow (wall wr (.cells #[.string ⟨#[120]⟩] 9))) (some ⟨wr.heap.size,0,none⟩) 1 1 [[120]] 2 (jZ (w:=wr) (vs:=[.string ⟨#[120]⟩]) 9 rfl rfl (by simp) (by simp)) (Nat.le_refl _) (by omega)
    rw[EX]at h1
    exact h1)
   clear hlt I4
   go_wp2_with fail
   (with_reducible refine HMX.out.mono ?_)
   rintro e w3 ⟨rfl,wD,hK3⟩
   have HT3:Hid (fB w (fun x=>x<w.heap.size) w3 p (aI 0)):=by rw[BU];exact wD
   clear wD hK3
   go_wp2_with fail
   go_loopw [7] (fun i wr=>∃k:Nat,i= .int .i64 ((k:Int)+1)∧k≤63∧fB w (fun x=>x<w.heap.size) wr p (aI k)) (fun i _=>64-(intOf i).toNat)
   case atStart=>exact⟨0,rfl,by omega,HT3.out⟩
   case round=>
    obtain⟨k,rfl,hk,hT⟩:=hrel
    have HT:=Lib.hid hT
    clear hT
    by_cases hlt:k<63
    ·obtain⟨j,hj⟩:∃j,j=k+1:=⟨_,rfl⟩
     have ej:(k:Int)+1=(j:Int):=by omega
     rw[ej]
     have hd:decide ((j:Int)<64)=true:=by simp;omega
     have hdl:(j:Int)<64:=by omega
     obtain⟨m,hm⟩:∃m,m=j%26:=⟨_,rfl⟩
     obtain⟨d,hdv⟩:∃d,d=j/26:=⟨_,rfl⟩
     have IY:m<26:=by omega
     have IZ:d<26:=by omega
     have em:(j:Int)%26=(m:Int):=by omega
     have et:(j:Int).tmod 26=(m:Int):=by rw[Int.tmod_eq_emod_of_nonneg (by omega)];exact em
     have ed:(j:Int)/26=(d:Int):=by omega
     have etd:(j:Int).tdiv 26=(d:Int):=by rw[Int.tdiv_eq_ediv_of_nonneg (by omega)];exact ed
     have w1':IntKind.i64.wrap (97+(m:Int))=97+(m:Int):=IntWalk.i64_in _ (by omega)
     have w2':IntKind.i64.wrap (97+(d:Int))=97+(d:Int):=IntWalk.i64_in _ (by omega)
     have w3':IntKind.i64.wrap ((d:Int))=(d:Int):=IntWalk.i64_in _ (by omega)
     have v1:=uj m IY
     have v2:=um m IY
     have v3:=uj d IZ
     have v4:=um d IZ
     have hs:(⟨#[108]⟩:ByteArray)++BX m++BX d=strOf (bM 108 (k+1)):=by
      rw[hm,hdv,←hj]
      exact Dk 108 j ⟨#[108]⟩ rfl
     have hz1:¬9223372036854775807<(⟨#[108]⟩:ByteArray).size+(BX m).size:=by show ¬9223372036854775807<1+(strOf [UInt8.ofNat (97+m)]).size;rw[dF];simp
     have hz2:¬9223372036854775807<((⟨#[108]⟩:ByteArray)++BX m).size+(BX d).size:=by
      rw[ByteArray.size_append]
      show ¬9223372036854775807<1+(strOf [UInt8.ofNat (97+m)]).size+(strOf [UInt8.ofNat (97+d)]).size
      rw[dF,dF];simp
     have kK:Hid (Calls Tryz.prog 16 #[ptr p, .slice (some ⟨wr.heap.size,0,none⟩) 1 1, .slice (some ⟨wr.heap.size+1,0,none⟩) 1 1] ((wr.alloc (.cells #[.string ⟨#[110,98,97]⟩] 9)).alloc (.cells #[.string (strOf (bM 108 (k+1)))] 9)) (gu w (fun x=>x<w.heap.size) ((wr.alloc (.cells #[.string ⟨#[110,98,97]⟩] 9)).alloc (.cells #[.string (strOf (bM 108 (k+1)))] 9)) p (aI (k+1)) (.int .i64 0))):=Dl (bM 110 1) (bM 108 (k+1)) HT.out (EW k hlt) (by simp[bM]) (by simp[bM])
     have HJ:=Lib.hid hj
     clear hm hdv hj ej
     go_wp2_with fail
     (with_reducible refine kK.out.mono ?_)
     rintro e w4 ⟨rfl,rD,hK4⟩
     have qm:=Lib.hid rD
     have wj:IntKind.i64.wrap ((j:Int)+1)=(j:Int)+1:=IntWalk.i64_in _ (by omega)
     clear rD hK4 hs hz1 hz2 v1 v2 v3 v4
     go_wp2_with fail
     go_roundw
     case rel=>exact⟨k+1,by have:=HJ.out;go_num,by omega,qm.out⟩
     case measure=>have:=HJ.out;simp[intOf];omega
    ·have NJ:Hid (fB w (fun x=>x<w.heap.size) wr p (aI 63)):=by
      have:=HT.out
      rw[show k=63 by omega]at this
      exact this
     have I4:(k:Int)+1=64:=by omega
     rw[I4]
     have kK:Hid (Calls Tryz.prog 16 #[ptr p, .slice (some ⟨wr.heap.size,0,none⟩) 1 1, .slice (some ⟨wr.heap.size+1,0,none⟩) 1 1] ((wr.alloc (.cells #[.string ⟨#[110,98,97]⟩] 9)).alloc (.cells #[.string ⟨#[121]⟩] 9)) (gu w (fun x=>x<w.heap.size) ((wr.alloc (.cells #[.string ⟨#[110,98,97]⟩] 9)).alloc (.cells #[.string ⟨#[121]⟩] 9)) p (aI 63) (.int .i64 4))):=Dl (bM 110 1) [121] NJ.out EY (by simp[bM]) (by simp)
     clear hlt I4
     go_wp2_with fail
     (with_reducible refine kK.out.mono ?_)
     rintro e w4 ⟨rfl,rD,hK4⟩
     have qm:=Lib.hid rD
     have HC:=Lib.hid (za rD)
     rw[show(aI 63).length=64 by kernel_rfl]at HC
     clear rD hK4
     go_wp2_with fail
     (with_reducible refine HC.out.mono ?_)
     rintro e w5 ⟨rfl,rfl⟩
     go_wp2_with fail
     go_ret
     exact⟨rfl,qm.out.below⟩
end
end Go.Proofs.YtohpcppeajijnaaGreat
