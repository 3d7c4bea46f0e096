/- path -/
import Derived.Test.YtjnhnlabpccgjaaGreatDoorM01
import Derived.Lib.ConvBytes
set_option maxRecDepth 100000
set_option maxHeartbeats 64000000
set_option linter.all false
namespace Go.Proofs.YtjnhnlabpccgjaaGreatDoor
open Go.ChangeShapes Go.WideShapes Go.ChangeAt Go.RowKit
def jh(c:UInt8):Bool:=(97≤c&&c≤122)||(48≤c&&c≤57)||c==46||c==45||c==95
def bT(l:List UInt8):Bool:=l.all jh&&l !=[]&&decide (l.length≤16)&&l !=[46]&&l !=[46,46]
theorem Lm{P:Program}{src dst e:TypeId}{u:TypeDesc}(hs:P.underlying src=some u)(hd:P.underlying dst=some (.slice e))(he:P.underlying e=some (.int .u8))(w:World)(s:ByteArray):
  ∃cap w1,(convert src dst (.string s)).run P w= .ok (.slice (some ⟨w.heap.size,0,none⟩) s.size cap) w1∧Below w.heap.size w w1∧w.heap.size<w1.heap.size∧
   ∀j,j<s.size→w1.cell? ⟨w.heap.size,j,none⟩=some (.int .u8 (s.data.toList.getD j 0).toNat):=
 ⟨_,_,Lib.run_convert_string_bytes w src dst e s hs hd he,⟨rfl,rfl,rfl,by rw[Lib.bytesWorld_size];omega,fun k hk=>Lib.bytesWorld_at_old w e s k hk⟩,by rw[Lib.bytesWorld_size];omega,fun j hj=>Lib.bytesWorld_cell w e s j hj⟩
theorem NZ(c:UInt8):let n:Int:=c.toNat
  (jh c=true∧97≤n∧n≤122)∨(jh c=true∧¬97≤n∧48≤n∧n≤57)∨(jh c=true∧n=46)∨(jh c=true∧n=45)∨(jh c=true∧n=95)∨
  (jh c=false∧decide (n≤122)=false∧decide (n≤57)=false∧122<n∧(n==46)=false∧(n==45)=false∧(n==95)=false)∨(jh c=false∧decide (n≤57)=false∧57<n∧n<97∧(n==46)=false∧(n==45)=false∧(n==95)=false)∨(jh c=false∧n<48∧n<97∧(n==46)=false∧(n==45)=false∧(n==95)=false):=by
 intro n;have e:jh c=decide ((97≤n∧n≤122)∨(48≤n∧n≤57)∨n=46∨n=45∨n=95):=by
  have h1:(c=46)↔n=46:=by rw[←abI];show c.toNat=46↔(c.toNat:Int)=46;omega
  have h2:(c=45)↔n=45:=by rw[←abI];show c.toNat=45↔(c.toNat:Int)=45;omega
  have h3:(c=95)↔n=95:=by rw[←abI];show c.toNat=95↔(c.toNat:Int)=95;omega
  rw[Bool.eq_iff_iff];simp only[jh,abX,aaW,aah,beq_iff_eq,h1,h2,h3,UInt8.le_iff_toNat_le];show _↔_;have:(97:UInt8).toNat=97∧(122:UInt8).toNat=122∧(48:UInt8).toNat=48∧(57:UInt8).toNat=57:=by decide
  obtain⟨a,b,c',d⟩:=this;rw[a,b,c',d];omega
 rw[e];simp only[aah,aa8,aa1,ne_eq];omega
theorem N7(c:UInt8):0≤(c.toNat:Int)∧(c.toNat:Int)≤255:=by have:=c.toNat_lt;omega
theorem I4(p:UInt8→Bool)(l:List UInt8)(k:Nat)(h:k<l.length):(l.take (k+1)).all p=((l.take k).all p&&p (l.getD k 0)):=by
 rw[aae h,List.all_append];simp[List.getD,List.getElem?_eq_getElem h]
theorem I5(p:UInt8→Bool)(l:List UInt8)(k:Nat)(h:k<l.length)(hp:p (l.getD k 0)=false):l.all p=false:=by
 rw[List.all_eq_false];refine⟨l[k],abQ h,?_⟩;simp[List.getD,List.getElem?_eq_getElem h]at hp;simp[hp]
theorem Fy(l:List UInt8)(ha:l.all jh=true):
  (l=[]∧l.isEmpty=true∧bT l=false)∨(¬l=[]∧l.isEmpty=false∧16<l.length∧bT l=false)∨
  (¬l=[]∧l.isEmpty=false∧l.length≤16∧l=[46]∧(l==[46])=true∧bT l=false)∨
  (¬l=[]∧l.isEmpty=false∧l.length≤16∧¬l=[46]∧(l==[46])=false∧l=[46,46]∧(l==[46,46])=true∧bT l=false)∨
  (¬l=[]∧l.isEmpty=false∧l.length≤16∧¬l=[46]∧(l==[46])=false∧¬l=[46,46]∧(l==[46,46])=false∧bT l=true):=by
 unfold bT;by_cases h1:l=[]
 ·simp[h1]
 ·have e1:l.isEmpty=false:=by simpa using h1
  by_cases h2:l.length≤16
  ·by_cases h3:l=[46]
   ·subst h3;decide
   ·by_cases h4:l=[46,46]
    ·subst h4;decide
    ·simp[h1,e1,h2,h3,h4,ha]
  ·simp[h1,e1,h2];omega
theorem I6(s:ByteArray)(w:World)(hs:s.size≤maxLen):
  Calls Tryz.prog 180 #[.string s] w fun e w'=>e= .returned (.bool (bT s.data.toList))∧Below w.heap.size w w':=by
 unfold maxLen at hs;obtain⟨cap,w1,hcv,hb,hz,hc⟩:=Lm (P:=Tryz.prog) (e:=5) abd Tryz.underlying28 abq w s;have HC:=acr hc;clear hc;go_enter Tryz.func180,Tryz.ntmps180;go_wp2
 go_loop [8] (fun i=>∃k:Nat,k≤s.size∧i= .int .i64 k∧(s.data.toList.take k).all jh=true) (fun i=>s.size-(intOf i).toNat)
 case atStart=>exact⟨0,by omega,rfl,rfl⟩
 case round=>
  obtain⟨k,hk,rfl,ha⟩:=hrel;have HA:=acr ha;clear ha;by_cases hlt:k<s.size
  ·have hcell:=HC.o k hlt;obtain⟨c,hcc⟩:∃c,c=s.data.toList.getD k 0:=⟨_,rfl⟩;rw[←hcc]at hcell;have hsn:=I4 jh s.data.toList k (by simpa using hlt);rw[←hcc]at hsn;have HS:=acr hsn;have HG:acs (jh c=false→bT s.data.toList=false):=fun h=>by
    have:=I5 jh s.data.toList k (by simpa using hlt);rw[←hcc]at this;simp[bT,this h]
   clear hsn hcc;have hbd:=N7 c;rcases NZ c with⟨ho,h1,h2⟩|⟨ho,h1,h2,h3⟩|⟨ho,h1⟩|⟨ho,h1⟩|⟨ho,h1⟩|⟨ho,h1,h2,h3,h4,h5,h6⟩|⟨ho,h1,h2,h3,h4,h5,h6⟩|⟨ho,h1,h2,h3,h4,h5⟩
   iterate 5
    ·have HO:=acr ho;clear ho HG;go_wp2
     go_round
     case rel=>exact⟨k+1,by omega,by go_num,by rw[HS.o,HA.o,HO.o];rfl⟩
     case measure=>simp[intOf];omega
   iterate 3
    ·have HO:=acr ho;clear ho;go_wp2;go_ret;exact⟨kV (HG.o HO.o).symm,hb⟩
  ·have hk':k=s.size:=by omega
   have HA2:s.data.toList.all jh=true:=by
    have:=HA.o;rw[hk',List.take_of_length_le (by simp)]at this;exact this
   have hl:s.data.toList.length=s.size:=by simp
   have he:=abm s
   have ways:(s.toList=[]∧s.toList.isEmpty=true∧bT s.data.toList=false)∨
     (¬s.toList=[]∧s.toList.isEmpty=false∧16<s.size∧bT s.data.toList=false)∨
     (¬s.toList=[]∧s.toList.isEmpty=false∧s.size≤16∧s.toList=[46]∧(s.toList==[46])=true∧bT s.data.toList=false)∨
     (¬s.toList=[]∧s.toList.isEmpty=false∧s.size≤16∧¬s.toList=[46]∧(s.toList==[46])=false∧s.toList=[46,46]∧(s.toList==[46,46])=true∧bT s.data.toList=false)∨
     (¬s.toList=[]∧s.toList.isEmpty=false∧s.size≤16∧¬s.toList=[46]∧(s.toList==[46])=false∧¬s.toList=[46,46]∧(s.toList==[46,46])=false∧bT s.data.toList=true):=by
    rw[he];generalize s.data.toList=l at HA2 hl;rw[←hl];exact Fy l HA2
   clear HA2 hl he HC hcv HA hk';rcases ways with⟨h1,h2,hg⟩|⟨h1,h2,h3,hg⟩|⟨h1,h2,h3,h4,h5,hg⟩|⟨h1,h2,h3,h4,h5,h6,h7,hg⟩|⟨h1,h2,h3,h4,h5,h6,h7,hg⟩
   all_goals
    have HG:=acr hg;clear hg;go_wp2;go_ret;exact⟨kV HG.o.symm,hb⟩
def CS(s:ByteArray):Bool:= !bT s.data.toList
def AY(ss:List ByteArray):Int:=if ss.any CS then 12 else if 8<ss.length then 3 else 0
theorem Fz(s:ByteArray)(w:World)(hs:s.size≤maxLen):
  Calls Tryz.prog 211 #[.string s] w fun e w'=>e= .returned (.bool (CS s))∧Below w.heap.size w w':=by
 go_enter Tryz.func211,Tryz.ntmps211;go_wp2_with fail;refine(I6 _ _ hs).mono ?_;rintro e w1 ⟨rfl,hb⟩;go_wp2_with fail;go_ret;exact⟨rfl,hb⟩
theorem EW{S:Nat→Prop}(a:Option Addr)(len cap:Nat)(ss:List ByteArray)(w:World)(h:aT S w a len ss):
  Calls Tryz.prog 233 #[.slice a len cap,.func (.func 211) #[] #[]] w fun e w'=>e= .returned (.int .i64 (rG CS ss))∧Below w.heap.size w w':=by
 have hm:=h.row.small;unfold maxLen at hm;go_enter Tryz.func233,Tryz.ntmps233;go_wp2
 go_loopw [8] (fun i wr=>∃k:Nat,k≤len∧i= .int .i64 k∧(ss.take k).any CS=false∧Below w.heap.size w wr) (fun i _=>len-(intOf i).toNat)
 case atStart=>exact⟨0,by omega,rfl,rfl,Below.refl _ _⟩
 case round=>
  obtain⟨k,hk,rfl,ha,hb⟩:=hrel;have HA:=acr ha;clear ha;by_cases hlt:k<len
  ·obtain⟨b,off,s,rfl,_,hbw,hs,hsz,hcell⟩:=(h.below hb acu).cell k hlt;have HS:=acr hs;clear hs h;cases hp:CS s
   ·have HP:=acr hp;clear hp;go_wp2_with (go_at_call 211;refine(Fz _ _ hsz).mono ?_;rintro e w1 ⟨rfl,hb1⟩;rw[HP.o]);go_roundw
    case rel=>exact⟨k+1,by omega,by go_num,any_take_succ HA.o HS.o HP.o,hb.trans (hb1.mono hb.size)⟩
    case measure=>simp[intOf];omega
   ·have HP:=acr hp;clear hp;go_wp2_with (go_at_call 211;refine(Fz _ _ hsz).mono ?_;rintro e w1 ⟨rfl,hb1⟩;rw[HP.o]);go_ret;exact⟨fI (zR HA.o HS.o HP.o).symm,hb.trans (hb1.mono hb.size)⟩
  ·go_wp2;go_ret;exact⟨fI (pJ (by have:=HA.o;rwa [List.take_of_length_le (by have:=h.length;omega)]at this)).symm,hb⟩
theorem nE{S:Nat→Prop}(a:Option Addr)(len cap:Nat)(ss:List ByteArray)(w:World)(h:aT S w a len ss):
  Calls Tryz.prog 210 #[.slice a len cap,.func (.func 211) #[] #[]] w fun e w'=>e= .returned (.bool (ss.any CS))∧Below w.heap.size w w':=by
 go_enter Tryz.func210,Tryz.ntmps210;go_wp2_with fail;refine(EW _ _ _ ss _ h).mono ?_;rintro e w1 ⟨rfl,hb⟩;go_wp2_with fail;go_ret;exact⟨kV (SX _ _),hb⟩
theorem I7{S:Nat→Prop}(a:Option Addr)(len cap:Nat)(ss:List ByteArray)(w:World)(h:aT S w a len ss):
  Calls Tryz.prog 187 #[.slice a len cap] w fun e w'=>e= .returned (.int .i64 (AY ss))∧Below w.heap.size w w':=by
 have hl:=h.length;have HL:=acr hl;clear hl;cases hp:ss.any CS
 ·by_cases h8:8<len
  ·go_enter Tryz.func187,Tryz.ntmps187;go_wp2_with fail;refine(nE _ _ _ ss _ h).mono ?_;rintro e w1 ⟨rfl,hb⟩;rw[hp];have HP:=acr hp;clear hp;go_wp2_with fail;go_ret;exact⟨fI (by simp[AY,HP.o,HL.o,h8]),hb⟩
  ·go_enter Tryz.func187,Tryz.ntmps187;go_wp2_with fail;refine(nE _ _ _ ss _ h).mono ?_;rintro e w1 ⟨rfl,hb⟩;rw[hp];have HP:=acr hp;clear hp;go_wp2_with fail;go_ret
   exact⟨fI (by have h9:¬8<len:=by omega
                simp[AY,HP.o,HL.o,h9]),hb⟩
 ·go_enter Tryz.func187,Tryz.ntmps187;go_wp2_with fail;refine(nE _ _ _ ss _ h).mono ?_;rintro e w1 ⟨rfl,hb⟩;rw[hp];have HP:=acr hp;clear hp;go_wp2_with fail;go_ret;exact⟨fI (by simp[AY,HP.o]),hb⟩
end Go.Proofs.YtjnhnlabpccgjaaGreatDoor
