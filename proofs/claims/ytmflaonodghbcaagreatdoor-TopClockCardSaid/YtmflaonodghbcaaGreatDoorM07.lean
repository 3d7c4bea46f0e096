/- path -/
import Derived.Test.YtmflaonodghbcaaGreatDoorM01
import Derived.Lib.ConvBytes
set_option maxRecDepth 100000
set_option maxHeartbeats 64000000
set_option linter.all false
namespace Go.Proofs.YtmflaonodghbcaaGreatDoor
open Go.ChangeShapes Go.WideShapes Go.ChangeAt Go.RowKit
def jM(c:UInt8):Bool:=(97≤c&&c≤122)||(48≤c&&c≤57)||c==46||c==45||c==95
def dO(l:List UInt8):Bool:=l.all jM&&l !=[]&&decide (l.length≤16)&&l !=[46]&&l !=[46,46]
theorem M8{P:Program}{src dst e:TypeId}{u:TypeDesc}(hs:P.underlying src=some u)(hd:P.underlying dst=some (.slice e))(he:P.underlying e=some (.int .u8))(w:World)(s:ByteArray):
  ∃cap w1,(convert src dst (.string s)).run P w= .ok (.slice (some ⟨w.heap.size,0,none⟩) s.size cap) w1∧Below w.heap.size w w1∧w.heap.size<w1.heap.size∧
   ∀j,j<s.size→w1.cell? ⟨w.heap.size,j,none⟩=some (.int .u8 (s.data.toList.getD j 0).toNat):=
 ⟨_,_,Lib.run_convert_string_bytes w src dst e s hs hd he,⟨rfl,rfl,rfl,by rw[Lib.bytesWorld_size];omega,fun k hk=>Lib.bytesWorld_at_old w e s k hk⟩,by rw[Lib.bytesWorld_size];omega,fun j hj=>Lib.bytesWorld_cell w e s j hj⟩
theorem Y0(c:UInt8):let n:Int:=c.toNat
  (jM c=true∧97≤n∧n≤122)∨(jM c=true∧¬97≤n∧48≤n∧n≤57)∨(jM c=true∧n=46)∨(jM c=true∧n=45)∨(jM c=true∧n=95)∨
  (jM c=false∧decide (n≤122)=false∧decide (n≤57)=false∧122<n∧(n==46)=false∧(n==45)=false∧(n==95)=false)∨(jM c=false∧decide (n≤57)=false∧57<n∧n<97∧(n==46)=false∧(n==45)=false∧(n==95)=false)∨(jM c=false∧n<48∧n<97∧(n==46)=false∧(n==45)=false∧(n==95)=false):=by
 intro n;have e:jM c=decide ((97≤n∧n≤122)∨(48≤n∧n≤57)∨n=46∨n=45∨n=95):=by
  have h1:(c=46)↔n=46:=by rw[←abA];show c.toNat=46↔(c.toNat:Int)=46;omega
  have h2:(c=45)↔n=45:=by rw[←abA];show c.toNat=45↔(c.toNat:Int)=45;omega
  have h3:(c=95)↔n=95:=by rw[←abA];show c.toNat=95↔(c.toNat:Int)=95;omega
  rw[Bool.eq_iff_iff];simp only[jM,abz,aa2,aar,beq_iff_eq,h1,h2,h3,UInt8.le_iff_toNat_le];show _↔_;have:(97:UInt8).toNat=97∧(122:UInt8).toNat=122∧(48:UInt8).toNat=48∧(57:UInt8).toNat=57:=by decide
  obtain⟨a,b,c',d⟩:=this;rw[a,b,c',d];omega
 rw[e];simp only[aar,abx,abW,ne_eq];omega
theorem Y1(c:UInt8):0≤(c.toNat:Int)∧(c.toNat:Int)≤255:=by have:=c.toNat_lt;omega
theorem UL(p:UInt8→Bool)(l:List UInt8)(k:Nat)(h:k<l.length):(l.take (k+1)).all p=((l.take k).all p&&p (l.getD k 0)):=by
 rw[aai h,List.all_append];simp[List.getD,List.getElem?_eq_getElem h]
theorem UM(p:UInt8→Bool)(l:List UInt8)(k:Nat)(h:k<l.length)(hp:p (l.getD k 0)=false):l.all p=false:=by
 rw[List.all_eq_false];refine⟨l[k],List.getElem_mem h,?_⟩;simp[List.getD,List.getElem?_eq_getElem h]at hp;simp[hp]
theorem Rs(l:List UInt8)(ha:l.all jM=true):
  (l=[]∧l.isEmpty=true∧dO l=false)∨(¬l=[]∧l.isEmpty=false∧16<l.length∧dO l=false)∨
  (¬l=[]∧l.isEmpty=false∧l.length≤16∧l=[46]∧(l==[46])=true∧dO l=false)∨
  (¬l=[]∧l.isEmpty=false∧l.length≤16∧¬l=[46]∧(l==[46])=false∧l=[46,46]∧(l==[46,46])=true∧dO l=false)∨
  (¬l=[]∧l.isEmpty=false∧l.length≤16∧¬l=[46]∧(l==[46])=false∧¬l=[46,46]∧(l==[46,46])=false∧dO l=true):=by
 unfold dO;by_cases h1:l=[]
 ·simp[h1]
 ·have e1:l.isEmpty=false:=by simpa using h1
  by_cases h2:l.length≤16
  ·by_cases h3:l=[46]
   ·subst h3;decide
   ·by_cases h4:l=[46,46]
    ·subst h4;decide
    ·simp[h1,e1,h2,h3,h4,ha]
  ·simp[h1,e1,h2];omega
theorem Ko(s:ByteArray)(w:World)(hs:s.size≤maxLen):
  Calls Tryz.prog 237 #[.string s] w fun e w'=>e= .returned (.bool (dO s.data.toList))∧Below w.heap.size w w':=by
 unfold maxLen at hs;obtain⟨cap,w1,hcv,hb,hz,hc⟩:=M8 (P:=Tryz.prog) (e:=5) abj Tryz.underlying32 abh w s;have HC:=ab9 hc;clear hc;go_enter Tryz.func237,Tryz.ntmps237;go_wp2
 go_loop [8] (fun i=>∃k:Nat,k≤s.size∧i= .int .i64 k∧(s.data.toList.take k).all jM=true) (fun i=>s.size-(intOf i).toNat)
 case atStart=>exact⟨0,by omega,rfl,rfl⟩
 case round=>
  obtain⟨k,hk,rfl,ha⟩:=hrel;have HA:=ab9 ha;clear ha;by_cases hlt:k<s.size
  ·have hcell:=HC.o k hlt;obtain⟨c,hcc⟩:∃c,c=s.data.toList.getD k 0:=⟨_,rfl⟩;rw[←hcc]at hcell;have hsn:=UL jM s.data.toList k (by simpa using hlt);rw[←hcc]at hsn;have HS:=ab9 hsn;have HG:acd (jM c=false→dO s.data.toList=false):=fun h=>by
    have:=UM jM s.data.toList k (by simpa using hlt);rw[←hcc]at this;simp[dO,this h]
   clear hsn hcc;have hbd:=Y1 c;rcases Y0 c with⟨ho,h1,h2⟩|⟨ho,h1,h2,h3⟩|⟨ho,h1⟩|⟨ho,h1⟩|⟨ho,h1⟩|⟨ho,h1,h2,h3,h4,h5,h6⟩|⟨ho,h1,h2,h3,h4,h5,h6⟩|⟨ho,h1,h2,h3,h4,h5⟩
   iterate 5
    ·have HO:=ab9 ho;clear ho HG;go_wp2
     go_round
     case rel=>exact⟨k+1,by omega,by go_num,by rw[HS.o,HA.o,HO.o];rfl⟩
     case measure=>simp[intOf];omega
   iterate 3
    ·have HO:=ab9 ho;clear ho;go_wp2;go_ret;exact⟨lW (HG.o HO.o).symm,hb⟩
  ·have hk':k=s.size:=by omega
   have HA2:s.data.toList.all jM=true:=by
    have:=HA.o;rw[hk',List.take_of_length_le (by simp)]at this;exact this
   have hl:s.data.toList.length=s.size:=by simp
   have he:=ByteArray.toList_eq s
   have ways:(s.toList=[]∧s.toList.isEmpty=true∧dO s.data.toList=false)∨
     (¬s.toList=[]∧s.toList.isEmpty=false∧16<s.size∧dO s.data.toList=false)∨
     (¬s.toList=[]∧s.toList.isEmpty=false∧s.size≤16∧s.toList=[46]∧(s.toList==[46])=true∧dO s.data.toList=false)∨
     (¬s.toList=[]∧s.toList.isEmpty=false∧s.size≤16∧¬s.toList=[46]∧(s.toList==[46])=false∧s.toList=[46,46]∧(s.toList==[46,46])=true∧dO s.data.toList=false)∨
     (¬s.toList=[]∧s.toList.isEmpty=false∧s.size≤16∧¬s.toList=[46]∧(s.toList==[46])=false∧¬s.toList=[46,46]∧(s.toList==[46,46])=false∧dO s.data.toList=true):=by
    rw[he];generalize s.data.toList=l at HA2 hl;rw[←hl];exact Rs l HA2
   clear HA2 hl he HC hcv HA hk';rcases ways with⟨h1,h2,hg⟩|⟨h1,h2,h3,hg⟩|⟨h1,h2,h3,h4,h5,hg⟩|⟨h1,h2,h3,h4,h5,h6,h7,hg⟩|⟨h1,h2,h3,h4,h5,h6,h7,hg⟩
   all_goals
    have HG:=ab9 hg;clear hg;go_wp2;go_ret;exact⟨lW HG.o.symm,hb⟩
def Dy(s:ByteArray):Bool:= !dO s.data.toList
def BJ(ss:List ByteArray):Int:=if ss.any Dy then 12 else if 8<ss.length then 3 else 0
theorem GD(s:ByteArray)(w:World)(hs:s.size≤maxLen):
  Calls Tryz.prog 236 #[.string s] w fun e w'=>e= .returned (.bool (Dy s))∧Below w.heap.size w w':=by
 go_enter Tryz.func236,Tryz.ntmps236;go_wp2_with fail;refine(Ko _ _ hs).mono ?_;rintro e w1 ⟨rfl,hb⟩;go_wp2_with fail;go_ret;exact⟨rfl,hb⟩
theorem F4{S:Nat→Prop}(a:Option Addr)(len cap:Nat)(ss:List ByteArray)(w:World)(h:bH S w a len ss):
  Calls Tryz.prog 268 #[.slice a len cap,.func (.func 236) #[] #[]] w fun e w'=>e= .returned (.int .i64 (M7 Dy ss))∧Below w.heap.size w w':=by
 have hm:=h.row.small;unfold maxLen at hm;go_enter Tryz.func268,Tryz.ntmps268;go_wp2
 go_loopw [8] (fun i wr=>∃k:Nat,k≤len∧i= .int .i64 k∧(ss.take k).any Dy=false∧Below w.heap.size w wr) (fun i _=>len-(intOf i).toNat)
 case atStart=>exact⟨0,by omega,rfl,rfl,Below.refl _ _⟩
 case round=>
  obtain⟨k,hk,rfl,ha,hb⟩:=hrel;have HA:=ab9 ha;clear ha;by_cases hlt:k<len
  ·obtain⟨b,off,s,rfl,_,hbw,hs,hsz,hcell⟩:=(h.below hb ace).cell k hlt;have HS:=ab9 hs;clear hs h;cases hp:Dy s
   ·have HP:=ab9 hp;clear hp;go_wp2_with (go_at_call 236;refine(GD _ _ hsz).mono ?_;rintro e w1 ⟨rfl,hb1⟩;rw[HP.o]);go_roundw
    case rel=>exact⟨k+1,by omega,by go_num,any_take_succ HA.o HS.o HP.o,hb.trans (hb1.mono hb.size)⟩
    case measure=>simp[intOf];omega
   ·have HP:=ab9 hp;clear hp;go_wp2_with (go_at_call 236;refine(GD _ _ hsz).mono ?_;rintro e w1 ⟨rfl,hb1⟩;rw[HP.o]);go_ret;exact⟨gW (Rn HA.o HS.o HP.o).symm,hb.trans (hb1.mono hb.size)⟩
  ·go_wp2;go_ret;exact⟨gW (Gz (by have:=HA.o;rwa [List.take_of_length_le (by have:=h.length;omega)]at this)).symm,hb⟩
theorem mW{S:Nat→Prop}(a:Option Addr)(len cap:Nat)(ss:List ByteArray)(w:World)(h:bH S w a len ss):
  Calls Tryz.prog 235 #[.slice a len cap,.func (.func 236) #[] #[]] w fun e w'=>e= .returned (.bool (ss.any Dy))∧Below w.heap.size w w':=by
 go_enter Tryz.func235,Tryz.ntmps235;go_wp2_with fail;refine(F4 _ _ _ ss _ h).mono ?_;rintro e w1 ⟨rfl,hb⟩;go_wp2_with fail;go_ret;exact⟨lW (UC _ _),hb⟩
theorem Kq{S:Nat→Prop}(a:Option Addr)(len cap:Nat)(ss:List ByteArray)(w:World)(h:bH S w a len ss):
  Calls Tryz.prog 187 #[.slice a len cap] w fun e w'=>e= .returned (.int .i64 (BJ ss))∧Below w.heap.size w w':=by
 have hl:=h.length;have HL:=ab9 hl;clear hl;cases hp:ss.any Dy
 ·by_cases h8:8<len
  ·go_enter Tryz.func187,Tryz.ntmps187;go_wp2_with fail;refine(mW _ _ _ ss _ h).mono ?_;rintro e w1 ⟨rfl,hb⟩;rw[hp];have HP:=ab9 hp;clear hp;go_wp2_with fail;go_ret;exact⟨gW (by simp[BJ,HP.o,HL.o,h8]),hb⟩
  ·go_enter Tryz.func187,Tryz.ntmps187;go_wp2_with fail;refine(mW _ _ _ ss _ h).mono ?_;rintro e w1 ⟨rfl,hb⟩;rw[hp];have HP:=ab9 hp;clear hp;go_wp2_with fail;go_ret
   exact⟨gW (by have h9:¬8<len:=by omega
                simp[BJ,HP.o,HL.o,h9]),hb⟩
 ·go_enter Tryz.func187,Tryz.ntmps187;go_wp2_with fail;refine(mW _ _ _ ss _ h).mono ?_;rintro e w1 ⟨rfl,hb⟩;rw[hp];have HP:=ab9 hp;clear hp;go_wp2_with fail;go_ret;exact⟨gW (by simp[BJ,HP.o]),hb⟩
end Go.Proofs.YtmflaonodghbcaaGreatDoor
