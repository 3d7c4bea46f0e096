/- path -/
import Derived.Test.YthillkfmdndedaaGreatDoorM01
import Derived.Lib.ConvBytes
set_option maxRecDepth 100000
set_option maxHeartbeats 64000000
set_option linter.all false
namespace Go.Proofs.YthillkfmdndedaaGreatDoor
open Go.ChangeShapes Go.WideShapes Go.ChangeAt Go.RowKit
def kF(c:UInt8):Bool:=(97<=c&&c<=122)||(48<=c&&c<=57)||c==46||c==45||c==95
def gF(l:I8):Bool:=l.all kF&&l !=[]&&decide (l.length<=16)&&l !=[46]&&l !=[46,46]
theorem NR{P:Program}{m y e:TypeId}{u:TypeDesc}(E:P.underlying m=some u)(B:P.underlying y=some (.slice e))(F:P.underlying e=some (.int .u8))(w:World)(s:ByteArray):
  ∃A z,(convert m y (.string s)).run P w= .ok (.slice (some ⟨w.heap.size,0,none⟩) s.size A) z/\Below w.heap.size w z/\w.heap.size<z.heap.size/\
   ∀j,j<s.size->z.cell? ⟨w.heap.size,j,none⟩=some (.int .u8 (s.data.toList.getD j 0).toNat):=
 ⟨_,_,Lib.run_convert_string_bytes w m y e s E B F,⟨rfl,rfl,rfl,by rw[Lib.bytesWorld_size];omega,λ k C=>Lib.bytesWorld_at_old w e s k C⟩,by rw[Lib.bytesWorld_size];omega,λ j D=>Lib.bytesWorld_cell w e s j D⟩
theorem ok_ways(c:UInt8):let n:Int:=c.toNat
  (kF c=true/\97<=n/\n<=122)\/(kF c=true/\¬97<=n/\48<=n/\n<=57)\/(kF c=true/\n=46)\/(kF c=true/\n=45)\/(kF c=true/\n=95)\/
  (kF c=false/\decide (n<=122)=false/\decide (n<=57)=false/\122<n/\(n==46)=false/\(n==45)=false/\(n==95)=false)\/(kF c=false/\decide (n<=57)=false/\57<n/\n<97/\(n==46)=false/\(n==45)=false/\(n==95)=false)\/(kF c=false/\n<48/\n<97/\(n==46)=false/\(n==45)=false/\(n==95)=false):=by
 intro n;have e:kF c=decide ((97<=n/\n<=122)\/(48<=n/\n<=57)\/n=46\/n=45\/n=95):=by
  have y:(c=46)↔n=46:=by rw[<-abI];show c.toNat=46↔(c.toNat:Int)=46;omega
  have m:(c=45)↔n=45:=by rw[<-abI];show c.toNat=45↔(c.toNat:Int)=45;omega
  have u:(c=95)↔n=95:=by rw[<-abI];show c.toNat=95↔(c.toNat:Int)=95;omega
  rw[Bool.eq_iff_iff];simp only[kF,abH,aaW,aap,beq_iff_eq,y,m,u,UInt8.le_iff_toNat_le];show _↔_;have:(97:UInt8).toNat=97/\(122:UInt8).toNat=122/\(48:UInt8).toNat=48/\(57:UInt8).toNat=57:=by decide
  obtain⟨a,b,c',d⟩:=this;rw[a,b,c',d];omega
 rw[e];simp only[aap,aa1,beq_eq_false_iff_ne,ne_eq];omega
theorem byte_bd(c:UInt8):0<=(c.toNat:Int)/\(c.toNat:Int)<=255:=by have:=c.toNat_lt;omega
theorem VN(p:UInt8->Bool)(l:I8)(k:Nat)(h:k<l.length):(l.take (k+1)).all p=((l.take k).all p&&p (l.getD k 0)):=by
 rw[aai h,List.all_append];simp[List.getD,List.getElem?_eq_getElem h]
theorem VO(p:UInt8->Bool)(l:I8)(k:Nat)(h:k<l.length)(m:p (l.getD k 0)=false):l.all p=false:=by
 rw[List.all_eq_false];refine⟨l[k],List.getElem_mem h,?_⟩;simp[List.getD,List.getElem?_eq_getElem h]at m;simp[m]
theorem Sg(l:I8)(B:l.all kF=true):
  (l=[]/\l.isEmpty=true/\gF l=false)\/(¬l=[]/\l.isEmpty=false/\16<l.length/\gF l=false)\/
  (¬l=[]/\l.isEmpty=false/\l.length<=16/\l=[46]/\(l==[46])=true/\gF l=false)\/
  (¬l=[]/\l.isEmpty=false/\l.length<=16/\¬l=[46]/\(l==[46])=false/\l=[46,46]/\(l==[46,46])=true/\gF l=false)\/
  (¬l=[]/\l.isEmpty=false/\l.length<=16/\¬l=[46]/\(l==[46])=false/\¬l=[46,46]/\(l==[46,46])=false/\gF l=true):=by
 unfold gF;by_cases m:l=[]
 ·simp[m]
 ·have u:l.isEmpty=false:=by simpa using m
  by_cases z:l.length<=16
  ·by_cases A:l=[46]
   ·subst A;decide
   ·by_cases y:l=[46,46]
    ·subst y;decide
    ·simp[m,u,z,A,y,B]
  ·simp[m,u,z];omega
theorem VP(s:ByteArray)(w:World)(hs:s.size<=maxLen):
  Dy 237 #[.string s] w λ e w'=>e= .returned (.bool (gF s.data.toList))/\Below w.heap.size w w':=by
 unfold maxLen at hs;obtain⟨Y,w1,N,W,hz,U⟩:=NR (P:=Tryz.prog) (e:=5) aa8 Tryz.underlying30 aa7 w s;have V:=acp U;clear U;go_enter Tryz.func237,Tryz.ntmps237;go_wp2
 go_loop [8] (λ i=>∃k:Nat,k<=s.size/\i= .int .i64 k/\(s.data.toList.take k).all kF=true) (λ i=>s.size-(intOf i).toNat)
 case atStart=>exact⟨0,by omega,rfl,rfl⟩
 case round=>
  obtain⟨k,hk,rfl,S⟩:=hrel;have R:=acp S;clear S;by_cases B:k<s.size
  ·have A:=V.o k B;obtain⟨c,y⟩:∃c,c=s.data.toList.getD k 0:=⟨_,rfl⟩;rw[<-y]at A;have C:=VN kF s.data.toList k (by simpa using B);rw[<-y]at C;have Z:=acp C;have K:acr (kF c=false->gF s.data.toList=false):=λ h=>by
    have:=VO kF s.data.toList k (by simpa using B);rw[<-y]at this;simp[gF,this h]
   clear C y;have ak:=byte_bd c;rcases ok_ways c with⟨u,m,z⟩|⟨u,m,z,E⟩|⟨u,m⟩|⟨u,m⟩|⟨u,m⟩|⟨u,m,z,E,H,J,M⟩|⟨u,m,z,E,H,J,M⟩|⟨u,m,z,E,H,J⟩
   iterate 5
    ·have Q:=acp u;clear u K;go_wp2
     go_round
     case rel=>exact⟨k+1,by omega,by go_num,by rw[Z.o,R.o,Q.o];rfl⟩
     case measure=>simp[intOf];omega
   iterate 3
    ·have Q:=acp u;clear u;go_wp2;go_ret;exact⟨iW (K.o Q.o).symm,W⟩
  ·have G:k=s.size:=by omega
   have D:s.data.toList.all kF=true:=by
    have:=R.o;rw[G,List.take_of_length_le (by simp)]at this;exact this
   have O:s.data.toList.length=s.size:=by simp
   have X:=abD s
   have I:(s.toList=[]/\s.toList.isEmpty=true/\gF s.data.toList=false)\/
     (¬s.toList=[]/\s.toList.isEmpty=false/\16<s.size/\gF s.data.toList=false)\/
     (¬s.toList=[]/\s.toList.isEmpty=false/\s.size<=16/\s.toList=[46]/\(s.toList==[46])=true/\gF s.data.toList=false)\/
     (¬s.toList=[]/\s.toList.isEmpty=false/\s.size<=16/\¬s.toList=[46]/\(s.toList==[46])=false/\s.toList=[46,46]/\(s.toList==[46,46])=true/\gF s.data.toList=false)\/
     (¬s.toList=[]/\s.toList.isEmpty=false/\s.size<=16/\¬s.toList=[46]/\(s.toList==[46])=false/\¬s.toList=[46,46]/\(s.toList==[46,46])=false/\gF s.data.toList=true):=by
    rw[X];generalize s.data.toList=l at D O;rw[<-O];exact Sg l D
   clear D O X V N R G;rcases I with⟨m,z,F⟩|⟨m,z,E,F⟩|⟨m,z,E,H,J,F⟩|⟨m,z,E,H,J,M,h7,F⟩|⟨m,z,E,H,J,M,h7,F⟩
   all_goals
    have K:=acp F;clear F;go_wp2;go_ret;exact⟨iW K.o.symm,W⟩
def Eb(s:ByteArray):Bool:= !gF s.data.toList
def Cw(ss:List ByteArray):Int:=if ss.any Eb then 12 else if 8<ss.length then 3 else 0
theorem G9(s:ByteArray)(w:World)(m:s.size<=maxLen):
  Dy 236 #[.string s] w λ e w'=>e= .returned (.bool (Eb s))/\Below w.heap.size w w':=by
 go_enter Tryz.func236,Tryz.ntmps236;go_wp2_with fail;refine(VP _ _ m).mono ?_;rintro e y ⟨rfl,u⟩;go_wp2_with fail;go_ret;exact⟨rfl,u⟩
theorem Gn{S:Nat->Prop}(a:Mx)(m D:Nat)(ss:List ByteArray)(w:World)(h:aW S w a m ss):
  Dy 260 #[.slice a m D,.func (.func 236) #[] #[]] w λ e w'=>e= .returned (.int .i64 (NQ Eb ss))/\Below w.heap.size w w':=by
 have M:=h.row.small;unfold maxLen at M;go_enter Tryz.func260,Tryz.ntmps260;go_wp2
 go_loopw [8] (λ i wr=>∃k:Nat,k<=m/\i= .int .i64 k/\(ss.take k).any Eb=false/\Below w.heap.size w wr) (λ i _=>m-(intOf i).toNat)
 case atStart=>exact⟨0,by omega,rfl,rfl,Below.refl _ _⟩
 case round=>
  obtain⟨k,O,rfl,G,y⟩:=hrel;have E:=acp G;clear G;by_cases F:k<m
  ·obtain⟨b,N,s,rfl,_,K,H,z,C⟩:=(h.below y acs).cell k F;have I:=acp H;clear H h;cases B:Eb s
   ·have A:=acp B;clear B;go_wp2_with (go_at_call 236;refine(G9 _ _ z).mono ?_;rintro e J ⟨rfl,u⟩;rw[A.o]);go_roundw
    case rel=>exact⟨k+1,by omega,by go_num,any_take_succ E.o I.o A.o,y.trans (u.mono y.size)⟩
    case measure=>simp[intOf];omega
   ·have A:=acp B;clear B;go_wp2_with (go_at_call 236;refine(G9 _ _ z).mono ?_;rintro e J ⟨rfl,u⟩;rw[A.o]);go_ret;exact⟨dX (R_ E.o I.o A.o).symm,y.trans (u.mono y.size)⟩
  ·go_wp2;go_ret;exact⟨dX (G6 (by have:=E.o;rwa [List.take_of_length_le (by have:=h.length;omega)]at this)).symm,y⟩
theorem nL{S:Nat->Prop}(a:Mx)(m u:Nat)(ss:List ByteArray)(w:World)(h:aW S w a m ss):
  Dy 235 #[.slice a m u,.func (.func 236) #[] #[]] w λ e w'=>e= .returned (.bool (ss.any Eb))/\Below w.heap.size w w':=by
 go_enter Tryz.func235,Tryz.ntmps235;go_wp2_with fail;refine(Gn _ _ _ ss _ h).mono ?_;rintro e z ⟨rfl,y⟩;go_wp2_with fail;go_ret;exact⟨iW (VI _ _),y⟩
theorem KN{S:Nat->Prop}(a:Mx)(u A:Nat)(ss:List ByteArray)(w:World)(h:aW S w a u ss):
  Dy 189 #[.slice a u A] w λ e w'=>e= .returned (.int .i64 (Cw ss))/\Below w.heap.size w w':=by
 have D:=h.length;have C:=acp D;clear D;cases m:ss.any Eb
 ·by_cases E:8<u
  ·go_enter Tryz.func189,Tryz.ntmps189;go_wp2_with fail;refine(nL _ _ _ ss _ h).mono ?_;rintro e B ⟨rfl,y⟩;rw[m];have z:=acp m;clear m;go_wp2_with fail;go_ret;exact⟨dX (by simp[Cw,z.o,C.o,E]),y⟩
  ·go_enter Tryz.func189,Tryz.ntmps189;go_wp2_with fail;refine(nL _ _ _ ss _ h).mono ?_;rintro e B ⟨rfl,y⟩;rw[m];have z:=acp m;clear m;go_wp2_with fail;go_ret
   exact⟨dX (by have F:¬8<u:=by omega
                simp[Cw,z.o,C.o,F]),y⟩
 ·go_enter Tryz.func189,Tryz.ntmps189;go_wp2_with fail;refine(nL _ _ _ ss _ h).mono ?_;rintro e B ⟨rfl,y⟩;rw[m];have z:=acp m;clear m;go_wp2_with fail;go_ret;exact⟨dX (by simp[Cw,z.o]),y⟩
