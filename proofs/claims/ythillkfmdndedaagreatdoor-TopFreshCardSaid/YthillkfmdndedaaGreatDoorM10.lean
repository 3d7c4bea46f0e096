/- path -/
import Derived.Test.YthillkfmdndedaaGreatDoorM08
import Derived.Test.YthillkfmdndedaaGreatDoorM09
import Derived.BigQuiet
import Derived.Deep.QuietTactic
import Derived.Deep.RegionHeld3
import Derived.IntWalk
set_option maxRecDepth 100000
set_option maxHeartbeats 64000000
set_option linter.all false
namespace Go.Proofs.YthillkfmdndedaaGreatDoor
open Go.ChangeShapes Go.WideShapes Go.ChangeAt Go.RowKit
def Sl(ss:List ByteArray):List (I8):=ss.map (λ s=>s.data.toList)
abbrev Cz(B:Nat):Nat->Prop:=λ b=>B<=b
theorem VR{w:World}{m:Nat}{e:TypeId}{v:Value}{n:Nat}{ss:List ByteArray}(h:w.ownsRow m e 1 v n (ss.map .string))(B:∀s∈ss,s.size<=maxLen):
  ∃a u,v= .slice a n u/\aW (Cz m) w a n ss:=by
 have D:=h;obtain⟨y,h⟩:=h;rcases h with⟨rfl,rfl⟩|⟨g,u,E,rfl,C,z,I,F,A,H⟩
 ·obtain rfl:ss=[]:=by simpa using y
  exact⟨none,0,rfl,ah.nil _ _ _,by simp⟩
 ·refine⟨_,u,rfl,⟨by simpa using y,by omega,λ _=>⟨g,0,rfl,C,(qW.1 z).1,λ i G=> ?_⟩⟩,B⟩;rw[Nat.zero_add,D.cellAt i (by omega)]
theorem Bg{S:Nat->Prop}{w:World}{b m u:Nat}{ss:List ByteArray}(h:aW S w (some ⟨b,m,none⟩) u ss)(j:Nat)(C:j<ss.length):
  w.cell? ⟨b,m+j,none⟩=some (.string (ss.getD j ByteArray.empty)):=by
 obtain⟨B,y,s,e,_,_,z,_,A⟩:=h.cell j (by have:=h.length;omega);simp only[aae,Addr.mk.injEq,abK]at e;obtain⟨rfl,rfl⟩:=e;rw[A];simp[List.getD,z]
def RetSome(w:World)(n:Nat)(ss:List ByteArray)(e:Ending)(w':World):Prop:=
 ∃g m,e= .returned (.slice (some ⟨g,0,none⟩) n m)/\n<=m/\aW (Cz w.heap.size) w' (some ⟨g,0,none⟩) n ss/\Below w.heap.size w w'
theorem zK{w:World}{m:Nat}{e:TypeId}{v:Value}{n:Nat}{ss:List ByteArray}(h:w.ownsRow m e 1 v n (ss.map .string))(z:∀s∈ss,s.size<=maxLen)(C:v≠ .slice none 0 0):
  ∃g u,v= .slice (some ⟨g,0,none⟩) n u/\n<=u/\aW (Cz m) w (some ⟨g,0,none⟩) n ss:=by
 obtain⟨a,u,rfl,A⟩:=VR h z;obtain⟨_,h⟩:=h;rcases h with⟨h,_⟩|⟨g,y,D,h,_,_,B,_⟩
 ·exact absurd h C
 ·simp only[aaH,true_and]at h;obtain⟨rfl,rfl⟩:=h;exact⟨g,_,rfl,B,A⟩
theorem NU{S:Nat->Prop}(F:Addr)(m y:Nat)(ss:List ByteArray)(w:World)(h:aW S w (some F) m ss)(A:m*16<=140737488355328):
  Dy 238 #[.slice (some F) m y] w (RetSome w m ss):=by
 have J:=h.length;by_cases I:m=0
 ·subst I;obtain rfl:ss=[]:=by simpa using J
  refine(Tryz.slices_Clone_string_zero F y w).mono ?_;rintro e w' ⟨v,rfl,z,E,D⟩;obtain⟨g,u,rfl,C,B⟩:=zK (ss:=[]) (by simpa using z) (by simp) E;exact⟨g,u,rfl,C,B,D⟩
 ·obtain⟨b,G,e,_,_,_⟩:=h.row.at_ (by omega);simp only[aae]at e;subst e;refine(Tryz.slices_Clone_string b G m y ss w (by omega) A (λ j H=>Bg h j H)).mono ?_;rintro e w' ⟨v,rfl,z,E,D⟩;rw[List.take_of_length_le (by omega)]at z;obtain⟨g,u,rfl,C,B⟩:=zK z h.short E;exact⟨g,u,rfl,C,B,D⟩
theorem aW.take{S:Nat->Prop}{w:World}{a:Mx}{m:Nat}{ss:List ByteArray}(h:aW S w a m ss)(k:Nat)(y:k<=m):aW S w a k (ss.take k):=by
 have F:=h.length;refine⟨⟨by simp;omega,Nat.le_trans y h.row.small,λ E=> ?_⟩,λ s B=>h.short s (aaN B)⟩;obtain⟨b,u,e,z,C,A⟩:=h.row.at_ (by omega);refine⟨b,u,e,z,C,λ i D=> ?_⟩;rw[A i (by omega),aaJ,aaB,if_pos D]
def Sm(w:World)(ss:List ByteArray)(e:Ending)(w':World):Prop:=
 (ss=[]/\e= .returned (.tuple #[.slice none 0 0,.string ⟨#[]⟩,.int .i64 1])/\w=w')\/
 ∃g m x,ss.getLast? =some x/\e= .returned (.tuple #[.slice (some ⟨g,0,none⟩) (ss.length-1) m,.string x,.int .i64 0])/\ss.length-1<=m/\aW (Cz w.heap.size) w' (some ⟨g,0,none⟩) (ss.length-1) ss.dropLast/\Below w.heap.size w w'
theorem NV{S:Nat->Prop}(a:Mx)(m z:Nat)(ss:List ByteArray)(w:World)(h:aW S w a m ss)(P:m*16<=140737488355328)(O:m<=z):
  Dy 190 #[.slice a m z] w (Sm w ss):=by
 have D:=h.length;by_cases M:m=0
 ·subst M;obtain rfl:ss=[]:=by simpa using D
  go_enter Tryz.func190,Tryz.ntmps190;go_wp2
  go_ret3
  exact Or.inl ⟨rfl,rfl,rfl⟩
 ·have F:((m:Int)==0)=false:=by simp[M]
  obtain⟨n,rfl⟩:∃n,m=n+1:=⟨m-1,by omega⟩;obtain⟨b,B,x,rfl,_,I,N,W,y⟩:=h.cell n (by omega);have V:∀w':World,w'.heap=w.heap->aW S w' (some ⟨b,B,none⟩) n (ss.take n):=λ w' e=>(h.take n (by omega)).kept (by rw[e];exact Nat.le_refl _) (λ _ _ _=>by rw[e]);have K:=h.row.small;unfold maxLen at K;have e1:IntKind.i64.wrap (n:Int)=(n:Int):=aaf _ (by omega);have e2:(0:Int)<=(n:Int):=by omega
  have Y:(n:Int)<=(z:Int):=by omega
  have Z:n<=z:=by omega
  have e4:(n:Int)<(n:Int)+1:=by omega
  have U:=acp N;have Q:=acp D;clear N D h K F;have F:((n:Int)+1==0)=false:=by simp;omega
  go_enter Tryz.func190,Tryz.ntmps190;go_wp2
  go_region_held3 (λ w'=>w'.cell? ⟨b,B+n,none⟩=some (.string x)) (first|exact y|(rw[u.cell (p:=⟨b,B+n,none⟩) I];exact y)) ((first|(go_at_call 238;refine(NU (S:=S) _ _ _ (ss.take n) _ (V w.drew rfl) (by omega)).mono ?_;rintro e X ⟨R,E,rfl,G,H,u⟩)))
  go_wp2
  go_ret3
  have D:=Q.o;have C:ss.getLast? =some x:=by
   rw[List.getLast?_eq_getElem?,D];exact U.o
  have J:ss.dropLast=ss.take n:=by rw[List.dropLast_eq_take,D];rfl
  have A:ss.length-1=n:=by omega
  refine Or.inr ⟨R,E,x,C,?_,?_,?_,⟨u.os,u.tape,u.output,u.size,u.block⟩⟩
  ·rw[A];rfl
  ·rw[A];exact G
  ·rw[A,J];exact H
theorem Hg(m:List Nm):Sl (m.map strOf)=m:=by
 unfold Sl;rw[List.map_map];have:(λ s:ByteArray=>s.data.toList)∘strOf=id:=by funext l;simp[strOf]
 rw[this,List.map_id]
theorem Sn(m:List Nm):Cw (m.map strOf)=bN m:=by
 have:∀l:Nm,Eb (strOf l)= !gF l:=λ l=>by simp[Eb,strOf]
 unfold Cw bN;rw[List.any_map,List.length_map];have e:Eb∘strOf=λ x=> !gF x:=by funext l;exact this l
 rw[e]
theorem iL{w:World}{i:Nat}{m:Array Value}{t:TypeId}(h:w.heap[i]? =some (.cells m t))(j:Nat):w.cell? ⟨i,j,none⟩=m[j]? :=by simp[World.cell?,h]
def VT(k kind:Int)(w:World)(e:Ending)(w':World):Prop:=
 e= .returned (ptr w.heap.size)/\jJ (λ _=>False) w' k w.heap.size (w.heap.size+1) (dh kind)/\Below w.heap.size w w'/\w.heap.size<w'.heap.size/\(kind=2->w.heap.size+1<w'.heap.size)
theorem Bh(k kind:Int)(w:World):Dy 124 #[.int .i64 k,.int .i64 kind] w (VT k kind w):=by
 have u:= @ab3 Tryz.prog;by_cases m:kind=2
 ·subst m;go_enter Tryz.func124,Tryz.ntmps124;go_wp2;go_ret;refine⟨rfl,⟨⟨none,0,?_,⟨Nat.le_refl _,Nat.zero_le _⟩,ah.nil _ _ _⟩,λ _=> ?_⟩,?_,?_,λ _=> ?_⟩
  ·rw[Below.heap_alloc _ _ _ (by simp)];exact(MapKept.heap_alloc w _).1
  ·have:=MapAt.made (F:=dD) (w.alloc (.cells (jW k (dh 2) none 0 (w.heap.size+1)) 196));rw[Pe]at this;exact this
  ·exact(acu.alloc acs _).alloc (by simp) _
  ·simp;omega
  ·simp
 ·have z:(kind==2)=false:=by simpa using m
  go_enter Tryz.func124,Tryz.ntmps124;go_wp2;go_ret;refine⟨rfl,⟨⟨none,0,?_,⟨Nat.le_refl _,Nat.zero_le _⟩,ah.nil _ _ _⟩,λ h=>absurd h m⟩,acu.alloc acs _,by simp,λ h=>absurd h m⟩;have y:jW k (dh kind) none 0 (w.heap.size+1)= #[.int .i64 k,.int .i64 kind,.int .i64 1,.int .i64 0,.int .u64 0,.bool false,.slice none 0 0,.map none]:=by
   simp[jW,dh,dS,m]
  rw[y];exact(MapKept.heap_alloc w _).1
def iY:List (List Nm)->Int
 |[]=>0
 |p::r=>if bN p≠0 then bN p else iY r
theorem Ee:∀(y:List (List Nm)) (k:Nat) (m:List Nm),iY (y.take k)=0->y[k]? =some m->bN m≠0->iY y=bN m
 |p::r,0,m,_,h,z=>by
  simp only[aar,aae]at h;subst h;rw[iY,if_pos z]
 |p::r,k+1,m,h,A,z=>by
  simp only[ab8,iY]at h;by_cases u:bN p≠0
  ·rw[if_pos u]at h;exact absurd h u
  ·rw[if_neg u]at h;rw[iY,if_neg u];exact Ee r k m h (by simpa using A) z
theorem zL:∀(y:List (List Nm)) (k:Nat) (m:List Nm),iY (y.take k)=0->y[k]? =some m->bN m=0->iY (y.take (k+1))=0
 |p::r,0,m,_,h,z=>by
  simp only[aar,aae]at h;subst h;simp[iY,z]
 |p::r,k+1,m,h,A,z=>by
  simp only[ab8,iY]at h⊢;by_cases u:bN p≠0
  ·rw[if_pos u]at h;exact absurd h u
  ·rw[if_neg u]at h;rw[if_neg u];exact zL r k m h (by simpa using A) z
theorem Hl{S:Nat->Prop}(B n:Nat)(C:List (List Nm))(w:World)(Q:n=C.length)(U:n<=2)(W:B<w.heap.size)
  (K:∀k,k<n->∃a l c u,w.cell? ⟨B,k,none⟩=some (.slice a l c)/\aW S w a l (u.map strOf)/\C[k]? =some u):
  Dy 122 #[.slice (some ⟨B,0,none⟩) n n] w λ e w'=>e= .returned (.int .i64 (iY C))/\Below w.heap.size w w':=by
 have V:=acp Q;have X:=acp K;clear Q K;go_enter Tryz.func122,Tryz.ntmps122;go_wp2
 go_loopw [8] (λ i wr=>∃k:Nat,k<=n/\i= .int .i64 k/\iY (C.take k)=0/\Below w.heap.size w wr) (λ i _=>n-(intOf i).toNat)
 case atStart=>exact⟨0,by omega,rfl,rfl,Below.refl _ _⟩
 case round=>
  obtain⟨k,Z,rfl,I,y⟩:=hrel;have H:=acp I;clear I;by_cases F:k<n
  ·obtain⟨a,l,c,u,m,J,O⟩:=X.o k F;have E:=(y.cell (p:=⟨B,k,none⟩) W).trans m;have G:=KN a l c (u.map strOf) wr (J.below y acs);rw[Sn]at G;have P:=acp G;have N:=acp O;clear O G J m;by_cases A:bN u=0
   ·have D:=acp A;clear A;go_wp2_with fail;refine P.o.mono ?_;rintro e R ⟨rfl,z⟩;rw[D.o];go_wp2_with fail;go_roundw
    case rel=>exact⟨k+1,by omega,by go_num,zL _ _ _ H.o N.o D.o,y.trans (z.mono y.size)⟩
    case measure=>simp[intOf];omega
   ·have D:=acp A;have Y:(bN u==0)=false:=by simpa using A
    have M:(bN u !=0)=true:=by simpa using A
    clear A;go_wp2_with fail;refine P.o.mono ?_;rintro e R ⟨rfl,z⟩;go_wp2_with fail;go_ret;exact⟨dX (Ee _ _ _ H.o N.o D.o).symm,y.trans (z.mono y.size)⟩
  ·go_wp2;go_ret;exact⟨dX (by have:=H.o;rw[List.take_of_length_le (by have:=V.o;omega)]at this;exact this.symm),y⟩
