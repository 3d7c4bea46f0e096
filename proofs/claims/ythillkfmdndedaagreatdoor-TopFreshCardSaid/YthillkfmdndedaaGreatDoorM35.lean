/- package -/
import Derived.Test.YthillkfmdndedaaGreatDoorM34
set_option maxRecDepth 100000
set_option maxHeartbeats 64000000
set_option linter.all false
namespace Go.Proofs.YthillkfmdndedaaGreatDoor
open Go.ChangeShapes Go.WideShapes Go.ChangeAt Go.RowKit
def rP(u f:Int)(m:I8)(l:List RecM):Rz:=⟨u,f,l.length,(iF l).length,m,uz l⟩
theorem IV{u f:Int}{m:I8}{l:List RecM}(h:MC u f m l):UD (rP u f m l):=by
 have z:=h.few;have y:=h.room;rw[<-pW]at y;exact⟨h.ix,h.first,⟨by show(0:Int)<=(l.length:Int);omega,by show(l.length:Int)<=_;omega⟩,⟨by show(0:Int)<=((iF l).length:Int);omega,by show((iF l).length:Int)<=_;omega⟩,h.prev,zi l⟩
theorem MF{S:Nat->Prop}{u f:Int}{m:I8}{l:List RecM}(h:MC u f m l)(a:Mx)(n c:Nat)(w:World)(z:ah S w a n ((P6 u f m l).map bv))(A:n<=c):Dy 85 #[.slice a n c] w (SgRet w (rP u f m l) l):=by
 obtain rfl:n=1024:=by have:=z.length;rw[List.length_map,JV h]at this;exact this.symm
 have B:=h.room;rw[<-pW]at B;refine(Fy (rP u f m l) (IV h) (bF (nk (VA u f m l)) 4) (iF l++List.replicate (942-(iF l).length) 0) (ay _ _) (by simp;omega) l (λ _=>⟨rfl,h,rfl⟩) a c w (by
  have e:P6 u f m l=Cb (rP u f m l)++bF (nk (VA u f m l)) 4++(iF l++List.replicate (942-(iF l).length) 0):=by
   unfold P6;rw[<-List.append_assoc];rfl
  rwa [e]at z) A).mono ?_
 rintro e w' (⟨y,_⟩|⟨_,y⟩)
 ·exact absurd rfl y
 ·exact y
def hd0:Rz:=⟨0,0,0,0,List.replicate 32 0,List.replicate 32 0⟩
theorem P8:List.replicate 1024 (0:UInt8)=Cb hd0++[0,0,0,0]++List.replicate 942 0:=by
 have e:Cb hd0=List.replicate 78 0:=by rfl
 rw[e];rfl
theorem MG:[0,0,0,0]≠bF (nk (Cb hd0)) 4:=by
 have e:Cb hd0=List.replicate 78 0:=by rfl
 rw[e];exact of_decide_eq_true (by kernel_rfl)
theorem rA{S:Nat->Prop}(a:Mx)(c:Nat)(w:World)(u:ah S w a 1024 ((List.replicate 1024 (0:UInt8)).map bv))(y:1024<=c):Dy 85 #[.slice a 1024 c] w (SgBad w):=by
 rw[P8]at u;refine(Fy hd0 ⟨by decide,by decide,by decide,by decide,rfl,rfl⟩ [0,0,0,0] (List.replicate 942 0) rfl aaZ [] (λ h=>absurd h MG) a c w u y).mono ?_;rintro e w' (⟨_,m⟩|⟨m,_⟩)
 ·exact m
 ·exact absurd m MG
