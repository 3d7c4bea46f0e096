/- path.Good: what it returns, for every text. path.Fine, and the slices functions that it calls. -/
import Derived.Test.YtjnhnlabpccgjaaGreatM01
import Derived.Lib.ConvBytes
namespace Go.Proofs.YtjnhnlabpccgjaaGreat
open Go.ChangeShapes Go.WideShapes Go.ChangeAt Go.RowKit
set_option linter.unusedVariables false
def gM (c:UInt8):Bool:=(97≤c&&c≤122)||(48≤c&&c≤57)||c==46||c==45||c==95
def bV (l:List UInt8):Bool:=l.all gM&&l !=[]&&decide (l.length≤16)&&l !=[46]&&l !=[46,46]
theorem Gg {P:Program} {src dst e:TypeId} {u:TypeDesc} (hs:P.underlying src=some u) (hd:P.underlying dst=some (.slice e)) (he:P.underlying e=some (.int .u8)) (w:World) (s:ByteArray):
  ∃cap w1,(convert src dst (.string s)).run P w= .ok (.slice (some ⟨w.heap.size,0,none⟩) s.size cap) w1∧Below w.heap.size w w1∧w.heap.size<w1.heap.size∧
   ∀j,j<s.size→w1.cell? ⟨w.heap.size,j,none⟩=some (.int .u8 (s.data.toList.getD j 0).toNat):=
 ⟨_,_,Lib.run_convert_string_bytes w src dst e s hs hd he,⟨rfl,rfl,rfl,by rw[Lib.bytesWorld_size];omega,fun k hk=>Lib.bytesWorld_at_old w e s k hk⟩,by rw[Lib.bytesWorld_size];omega,fun j hj=>Lib.bytesWorld_cell w e s j hj⟩
theorem I6 (c:UInt8):let n:Int:=c.toNat
  (gM c=true∧97≤n∧n≤122)∨(gM c=true∧¬97≤n∧48≤n∧n≤57)∨(gM c=true∧n=46)∨(gM c=true∧n=45)∨(gM c=true∧n=95)∨
  (gM c=false∧decide (n≤122)=false∧decide (n≤57)=false∧122<n∧(n==46)=false∧(n==45)=false∧(n==95)=false)∨(gM c=false∧decide (n≤57)=false∧57<n∧n<97∧(n==46)=false∧(n==45)=false∧(n==95)=false)∨(gM c=false∧n<48∧n<97∧(n==46)=false∧(n==45)=false∧(n==95)=false):=by
 intro n
 have e:gM c=decide ((97≤n∧n≤122)∨(48≤n∧n≤57)∨n=46∨n=45∨n=95):=by
  have h1:(c=46)↔n=46:=by rw[←UInt8.toNat_inj];show c.toNat=46↔(c.toNat:Int)=46;omega
  have h2:(c=45)↔n=45:=by rw[←UInt8.toNat_inj];show c.toNat=45↔(c.toNat:Int)=45;omega
  have h3:(c=95)↔n=95:=by rw[←UInt8.toNat_inj];show c.toNat=95↔(c.toNat:Int)=95;omega
  rw[Bool.eq_iff_iff]
  simp only[gM,Bool.or_eq_true,Bool.and_eq_true,decide_eq_true_eq,beq_iff_eq,h1,h2,h3,UInt8.le_iff_toNat_le]
  show _↔_
  have:(97:UInt8).toNat=97∧(122:UInt8).toNat=122∧(48:UInt8).toNat=48∧(57:UInt8).toNat=57:=by decide
  obtain⟨a,b,c',d⟩:=this
  rw[a,b,c',d]
  omega
 rw[e]
 simp only[decide_eq_true_eq,decide_eq_false_iff_not,beq_eq_false_iff_ne,ne_eq]
 omega
theorem I7 (c:UInt8):0≤(c.toNat:Int)∧(c.toNat:Int)≤255:=by have:=c.toNat_lt;omega
theorem D8 (p:UInt8→Bool) (l:List UInt8) (k:Nat) (h:k<l.length):(l.take (k+1)).all p=((l.take k).all p&&p (l.getD k 0)):=by
 rw[List.take_succ_eq_append_getElem h,List.all_append]
 simp[List.getD,List.getElem?_eq_getElem h]
theorem D9 (p:UInt8→Bool) (l:List UInt8) (k:Nat) (h:k<l.length) (hp:p (l.getD k 0)=false):l.all p=false:=by
 rw[List.all_eq_false]
 refine⟨l[k],List.getElem_mem h,?_⟩
 simp[List.getD,List.getElem?_eq_getElem h]at hp
 simp[hp]
theorem Bt (l:List UInt8) (ha:l.all gM=true):
  (l=[]∧l.isEmpty=true∧bV l=false)∨(¬l=[]∧l.isEmpty=false∧16<l.length∧bV l=false)∨
  (¬l=[]∧l.isEmpty=false∧l.length≤16∧l=[46]∧(l==[46])=true∧bV l=false)∨
  (¬l=[]∧l.isEmpty=false∧l.length≤16∧¬l=[46]∧(l==[46])=false∧l=[46,46]∧(l==[46,46])=true∧bV l=false)∨
  (¬l=[]∧l.isEmpty=false∧l.length≤16∧¬l=[46]∧(l==[46])=false∧¬l=[46,46]∧(l==[46,46])=false∧bV l=true):=by
 unfold bV
 by_cases h1:l=[]
 ·simp[h1]
 ·have e1:l.isEmpty=false:=by simpa using h1
  by_cases h2:l.length≤16
  ·by_cases h3:l=[46]
   ·subst h3;decide
   ·by_cases h4:l=[46,46]
    ·subst h4;decide
    ·simp[h1,e1,h2,h3,h4,ha]
  ·simp[h1,e1,h2];omega
set_option maxRecDepth 100000 in
set_option maxHeartbeats 1000000 in
theorem D_ (s:ByteArray) (w:World) (hs:s.size≤maxLen):
  Calls Tryz.prog 120 #[.string s] w fun e w'=>e= .returned (.bool (bV s.data.toList))∧Below w.heap.size w w':=by
 unfold maxLen at hs
 obtain⟨cap,w1,hcv,hb,hz,hc⟩:=Gg (P:=Tryz.prog) (e:=5) Tryz.underlying9 Tryz.underlying23 Tryz.underlying5 w s
 have HC:=Lib.hid hc
 clear hc
 go_enter Tryz.func120,Tryz.ntmps120
 go_wp2
 go_loop [8] (fun i=>∃k:Nat,k≤s.size∧i= .int .i64 k∧(s.data.toList.take k).all gM=true) (fun i=>s.size-(intOf i).toNat)
 case atStart=>exact⟨0,by omega,rfl,rfl⟩
 case round=>
  obtain⟨k,hk,rfl,ha⟩:=hrel
  have HA:=Lib.hid ha
  clear ha
  by_cases hlt:k<s.size
  ·have hcell:=HC.out k hlt
   obtain⟨c,hcc⟩:∃c,c=s.data.toList.getD k 0:=⟨_,rfl⟩
   rw[←hcc]at hcell
   have hsn:=D8 gM s.data.toList k (by simpa using hlt)
   rw[←hcc]at hsn
   have HS:=Lib.hid hsn
   have HG:Hid (gM c=false→bV s.data.toList=false):=fun h=>by
    have:=D9 gM s.data.toList k (by simpa using hlt)
    rw[←hcc]at this
    simp[bV,this h]
   clear hsn hcc
   have hbd:=I7 c
   rcases I6 c with⟨ho,h1,h2⟩|⟨ho,h1,h2,h3⟩|⟨ho,h1⟩|⟨ho,h1⟩|⟨ho,h1⟩|⟨ho,h1,h2,h3,h4,h5,h6⟩|⟨ho,h1,h2,h3,h4,h5,h6⟩|⟨ho,h1,h2,h3,h4,h5⟩
   iterate 5
    ·have HO:=Lib.hid ho
     clear ho HG
     go_wp2
     go_round
     case rel=>exact⟨k+1,by omega,by go_num,by rw[HS.out,HA.out,HO.out];rfl⟩
     case measure=>simp[intOf];omega
   iterate 3
    ·have HO:=Lib.hid ho
     clear ho
     go_wp2
     go_ret
     exact⟨iZ (HG.out HO.out).symm,hb⟩
  ·have hk':k=s.size:=by omega
   have HA2:s.data.toList.all gM=true:=by
    have:=HA.out
    rw[hk',List.take_of_length_le (by simp)]at this
    exact this
   have hl:s.data.toList.length=s.size:=by simp
   have he:=ByteArray.toList_eq s
   have ways:(s.toList=[]∧s.toList.isEmpty=true∧bV s.data.toList=false)∨
     (¬s.toList=[]∧s.toList.isEmpty=false∧16<s.size∧bV s.data.toList=false)∨
     (¬s.toList=[]∧s.toList.isEmpty=false∧s.size≤16∧s.toList=[46]∧(s.toList==[46])=true∧bV s.data.toList=false)∨
     (¬s.toList=[]∧s.toList.isEmpty=false∧s.size≤16∧¬s.toList=[46]∧(s.toList==[46])=false∧s.toList=[46,46]∧(s.toList==[46,46])=true∧bV s.data.toList=false)∨
     (¬s.toList=[]∧s.toList.isEmpty=false∧s.size≤16∧¬s.toList=[46]∧(s.toList==[46])=false∧¬s.toList=[46,46]∧(s.toList==[46,46])=false∧bV s.data.toList=true):=by
    rw[he]
    generalize s.data.toList=l at HA2 hl
    rw[←hl]
    exact Bt l HA2
   clear HA2 hl he HC hcv HA hk'
   rcases ways with⟨h1,h2,hg⟩|⟨h1,h2,h3,hg⟩|⟨h1,h2,h3,h4,h5,hg⟩|⟨h1,h2,h3,h4,h5,h6,h7,hg⟩|⟨h1,h2,h3,h4,h5,h6,h7,hg⟩
   all_goals
    have HG:=Lib.hid hg
    clear hg
    go_wp2
    go_ret
    exact⟨iZ HG.out.symm,hb⟩
def AV (s:ByteArray):Bool:= !bV s.data.toList
def Bu (ss:List ByteArray):Int:=if ss.any AV then 12 else if 8<ss.length then 3 else 0
theorem Bv (s:ByteArray) (w:World) (hs:s.size≤maxLen):
  Calls Tryz.prog 168 #[.string s] w fun e w'=>e= .returned (.bool (AV s))∧Below w.heap.size w w':=by
 go_enter Tryz.func168,Tryz.ntmps168
 go_wp2_with fail
 refine(D_ _ _ hs).mono ?_
 rintro e w1 ⟨rfl,hb⟩
 go_wp2_with fail
 go_ret
 exact⟨rfl,hb⟩
theorem AX {S:Nat→Prop} (a:Option Addr) (len cap:Nat) (ss:List ByteArray) (w:World) (h:bB S w a len ss):
  Calls Tryz.prog 200 #[.slice a len cap, .func (.func 168) #[] #[]] w fun e w'=>e= .returned (.int .i64 (oq AV ss))∧Below w.heap.size w w':=by
 have hm:=h.row.small
 unfold maxLen at hm
 go_enter Tryz.func200,Tryz.ntmps200
 go_wp2
 go_loopw [8] (fun i wr=>∃k:Nat,k≤len∧i= .int .i64 k∧(ss.take k).any AV=false∧Below w.heap.size w wr) (fun i _=>len-(intOf i).toNat)
 case atStart=>exact⟨0,by omega,rfl,rfl,Below.refl _ _⟩
 case round=>
  obtain⟨k,hk,rfl,ha,hb⟩:=hrel
  have HA:=Lib.hid ha
  clear ha
  by_cases hlt:k<len
  ·obtain⟨b,off,s,rfl,_,hbw,hs,hsz,hcell⟩:=(h.below hb (Nat.le_refl _)).cell k hlt
   have HS:=Lib.hid hs
   clear hs h
   cases hp:AV s
   ·have HP:=Lib.hid hp
    clear hp
    go_wp2_with (go_at_call 168;refine(Bv _ _ hsz).mono ?_;rintro e w1 ⟨rfl,hb1⟩;rw[HP.out])
    go_roundw
    case rel=>exact⟨k+1,by omega,by go_num,any_take_succ HA.out HS.out HP.out,hb.trans (hb1.mono hb.size)⟩
    case measure=>simp[intOf];omega
   ·have HP:=Lib.hid hp
    clear hp
    go_wp2_with (go_at_call 168;refine(Bv _ _ hsz).mono ?_;rintro e w1 ⟨rfl,hb1⟩;rw[HP.out])
    go_ret
    exact⟨gQ (vo HA.out HS.out HP.out).symm,hb.trans (hb1.mono hb.size)⟩
  ·go_wp2
   go_ret
   exact⟨gQ (mQ (by have:=HA.out;rwa [List.take_of_length_le (by have:=h.length;omega)]at this)).symm,hb⟩
theorem kY {S:Nat→Prop} (a:Option Addr) (len cap:Nat) (ss:List ByteArray) (w:World) (h:bB S w a len ss):
  Calls Tryz.prog 167 #[.slice a len cap, .func (.func 168) #[] #[]] w fun e w'=>e= .returned (.bool (ss.any AV))∧Below w.heap.size w w':=by
 go_enter Tryz.func167,Tryz.ntmps167
 go_wp2_with fail
 refine(AX _ _ _ ss _ h).mono ?_
 rintro e w1 ⟨rfl,hb⟩
 go_wp2_with fail
 go_ret
 exact⟨iZ (M0 _ _),hb⟩
theorem M8 {S:Nat→Prop} (a:Option Addr) (len cap:Nat) (ss:List ByteArray) (w:World) (h:bB S w a len ss):
  Calls Tryz.prog 134 #[.slice a len cap] w fun e w'=>e= .returned (.int .i64 (Bu ss))∧Below w.heap.size w w':=by
 have hl:=h.length
 have HL:=Lib.hid hl
 clear hl
 cases hp:ss.any AV
 ·by_cases h8:8<len
  ·go_enter Tryz.func134,Tryz.ntmps134
   go_wp2_with fail
   refine(kY _ _ _ ss _ h).mono ?_
   rintro e w1 ⟨rfl,hb⟩
   rw[hp]
   have HP:=Lib.hid hp
   clear hp
   go_wp2_with fail
   go_ret
   exact⟨gQ (by simp[Bu,HP.out,HL.out,h8]),hb⟩
  ·go_enter Tryz.func134,Tryz.ntmps134
   go_wp2_with fail
   refine(kY _ _ _ ss _ h).mono ?_
   rintro e w1 ⟨rfl,hb⟩
   rw[hp]
   have HP:=Lib.hid hp
   clear hp
   go_wp2_with fail
   go_ret
   exact⟨gQ (by have h9:¬8<len:=by omega
                simp[Bu,HP.out,HL.out,h9]),hb⟩
 ·go_enter Tryz.func134,Tryz.ntmps134
  go_wp2_with fail
  refine(kY _ _ _ ss _ h).mono ?_
  rintro e w1 ⟨rfl,hb⟩
  rw[hp]
  have HP:=Lib.hid hp
  clear hp
  go_wp2_with fail
  go_ret
  exact⟨gQ (by simp[Bu,HP.out]),hb⟩
end Go.Proofs.YtjnhnlabpccgjaaGreat
