/- path -/
import Derived.Test.YtmflaonodghbcaaGreatDoorM08
import Derived.Test.YtmflaonodghbcaaGreatDoorM09
import Derived.BigQuiet
import Derived.Deep.QuietTactic
import Derived.Deep.RegionHeld3
import Derived.OwnWalk
import Derived.IntWalk
set_option maxRecDepth 100000
set_option maxHeartbeats 64000000
set_option linter.all false
namespace Go.Proofs.YtmflaonodghbcaaGreatDoor
open Go.ChangeShapes Go.WideShapes Go.ChangeAt Go.RowKit
def Yy(ss:List ByteArray):List (List UInt8):=ss.map (fun s=>s.data.toList)
abbrev BL(B:Nat):Nat→Prop:=fun b=>B≤b
theorem UO{w:World}{base:Nat}{e:TypeId}{v:Value}{n:Nat}{ss:List ByteArray}(h:w.ownsRow base e 1 v n (ss.map .string))(hs:∀s∈ss,s.size≤maxLen):
  ∃a cap,v= .slice a n cap∧bH (BL base) w a n ss:=by
 have h0:=h;obtain⟨hl,h⟩:=h;rcases h with⟨rfl,rfl⟩|⟨g,cap,cur,rfl,hb,hh,hn,hm,hsz,ht⟩
 ·obtain rfl:ss=[]:=by simpa using hl
  exact⟨none,0,rfl,ah.nil _ _ _,by simp⟩
 ·refine⟨_,cap,rfl,⟨by simpa using hl,by omega,fun _=>⟨g,0,rfl,hb,(uh.1 hh).1,fun i hi=> ?_⟩⟩,hs⟩;rw[Nat.zero_add,h0.cellAt i (by omega)]
theorem Rx{S:Nat→Prop}{w:World}{b off len:Nat}{ss:List ByteArray}(h:bH S w (some ⟨b,off,none⟩) len ss)(j:Nat)(hj:j<ss.length):
  w.cell? ⟨b,off+j,none⟩=some (.string (ss.getD j ByteArray.empty)):=by
 obtain⟨b',off',s,e,_,_,hs,_,hc⟩:=h.cell j (by have:=h.length;omega);simp only[aag,Addr.mk.injEq,and_true]at e;obtain⟨rfl,rfl⟩:=e;rw[hc];simp[List.getD,hs]
def Y4(w:World)(n:Nat)(ss:List ByteArray)(e:Ending)(w':World):Prop:=
 ∃g cap,e= .returned (.slice (some ⟨g,0,none⟩) n cap)∧n≤cap∧bH (BL w.heap.size) w' (some ⟨g,0,none⟩) n ss∧Below w.heap.size w w'
theorem yY{w:World}{base:Nat}{e:TypeId}{v:Value}{n:Nat}{ss:List ByteArray}(h:w.ownsRow base e 1 v n (ss.map .string))(hs:∀s∈ss,s.size≤maxLen)(hv:v≠ .slice none 0 0):
  ∃g cap,v= .slice (some ⟨g,0,none⟩) n cap∧n≤cap∧bH (BL base) w (some ⟨g,0,none⟩) n ss:=by
 obtain⟨a,cap,rfl,hS⟩:=UO h hs;obtain⟨_,h⟩:=h;rcases h with⟨h,_⟩|⟨g,cap',cur,h,_,_,h2,_⟩
 ·exact absurd h hv
 ·simp only[aaJ,true_and]at h;obtain⟨rfl,rfl⟩:=h;exact⟨g,_,rfl,h2,hS⟩
theorem M_{S:Nat→Prop}(ad:Addr)(len cap:Nat)(ss:List ByteArray)(w:World)(h:bH S w (some ad) len ss)(hsz:len*16≤140737488355328):
  Calls Tryz.prog 238 #[.slice (some ad) len cap] w (Y4 w len ss):=by
 have hl:=h.length;by_cases h0:len=0
 ·subst h0;obtain rfl:ss=[]:=by simpa using hl
  refine(Tryz.slices_Clone_string_zero ad cap w).mono ?_;rintro e w' ⟨v,rfl,ho,hv,hb⟩;obtain⟨g,cap',rfl,hc,hS⟩:=yY (ss:=[]) (by simpa using ho) (by simp) hv;exact⟨g,cap',rfl,hc,hS,hb⟩
 ·obtain⟨b,off,e,_,_,_⟩:=h.row.at_ (by omega);simp only[aag]at e;subst e;refine(Tryz.slices_Clone_string b off len cap ss w (by omega) hsz (fun j hj=>Rx h j hj)).mono ?_;rintro e w' ⟨v,rfl,ho,hv,hb⟩;rw[List.take_of_length_le (by omega)]at ho;obtain⟨g,cap',rfl,hc,hS⟩:=yY ho h.short hv;exact⟨g,cap',rfl,hc,hS,hb⟩
theorem bH.take{S:Nat→Prop}{w:World}{a:Option Addr}{len:Nat}{ss:List ByteArray}(h:bH S w a len ss)(k:Nat)(hk:k≤len):bH S w a k (ss.take k):=by
 have hl:=h.length;refine⟨⟨by simp;omega,Nat.le_trans hk h.row.small,fun h0=> ?_⟩,fun s hs=>h.short s (aaK hs)⟩;obtain⟨b,off,e,hS,hb,hc⟩:=h.row.at_ (by omega);refine⟨b,off,e,hS,hb,fun i hi=> ?_⟩;rw[hc i (by omega),aaO,aat,if_pos hi]
def Ry(w:World)(ss:List ByteArray)(e:Ending)(w':World):Prop:=
 (ss=[]∧e= .returned (.tuple #[.slice none 0 0,.string ⟨#[]⟩,.int .i64 1])∧w=w')∨
 ∃g cap x,ss.getLast? =some x∧e= .returned (.tuple #[.slice (some ⟨g,0,none⟩) (ss.length-1) cap,.string x,.int .i64 0])∧ss.length-1≤cap∧bH (BL w.heap.size) w' (some ⟨g,0,none⟩) (ss.length-1) ss.dropLast∧Below w.heap.size w w'
theorem Na{S:Nat→Prop}(a:Option Addr)(len cap:Nat)(ss:List ByteArray)(w:World)(h:bH S w a len ss)(hsz:len*16≤140737488355328)(hcap:len≤cap):
  Calls Tryz.prog 188 #[.slice a len cap] w (Ry w ss):=by
 have hl:=h.length;by_cases h0:len=0
 ·subst h0;obtain rfl:ss=[]:=by simpa using hl
  go_enter Tryz.func188,Tryz.ntmps188;go_wp2
  go_ret3
  exact Or.inl ⟨rfl,rfl,rfl⟩
 ·have hb0:((len:Int)==0)=false:=by simp[h0]
  obtain⟨n,rfl⟩:∃n,len=n+1:=⟨len-1,by omega⟩;obtain⟨b,off,x,rfl,_,hbw,hx,hxs,hcell⟩:=h.cell n (by omega);have hT:∀w':World,w'.heap=w.heap→bH S w' (some ⟨b,off,none⟩) n (ss.take n):=fun w' e=>(h.take n (by omega)).kept (by rw[e];exact Nat.le_refl _) (fun _ _ _=>by rw[e]);have hm:=h.row.small;unfold maxLen at hm;have e1:IntKind.i64.wrap (n:Int)=(n:Int):=aah _ (by omega);have e2:(0:Int)≤(n:Int):=by omega
  have e3:(n:Int)≤(cap:Int):=by omega
  have e5:n≤cap:=by omega
  have e4:(n:Int)<(n:Int)+1:=by omega
  have E1:=ab9 hx;have E2:=ab9 hl;clear hx hl h hm hb0;have hb0:((n:Int)+1==0)=false:=by simp;omega
  go_enter Tryz.func188,Tryz.ntmps188;go_wp2
  go_region_held3 (fun w'=>w'.cell? ⟨b,off+n,none⟩=some (.string x)) (first|exact hcell|(rw[hb1.cell (p:=⟨b,off+n,none⟩) hbw];exact hcell)) ((first|(go_at_call 238;refine(M_ (S:=S) _ _ _ (ss.take n) _ (hT w.drew rfl) (by omega)).mono ?_;rintro e w1 ⟨a1,cap1,rfl,hca,hS1,hb1⟩)))
  go_wp2
  go_ret3
  have hl:=E2.o;have hlast:ss.getLast? =some x:=by
   rw[List.getLast?_eq_getElem?,hl];exact E1.o
  have hdl:ss.dropLast=ss.take n:=by rw[List.dropLast_eq_take,hl];rfl
  have hn1:ss.length-1=n:=by omega
  refine Or.inr ⟨a1,cap1,x,hlast,?_,?_,?_,⟨hb1.os,hb1.tape,hb1.output,hb1.size,hb1.block⟩⟩
  ·rw[hn1];rfl
  ·rw[hn1];exact hca
  ·rw[hn1,hdl];exact hS1
theorem Rz(ls:List Nm):BJ (ls.map strOf)=bS ls:=by
 have:∀l:Nm,Dy (strOf l)= !dO l:=fun l=>by simp[Dy,strOf]
 unfold BJ bS;rw[List.any_map,List.length_map];have e:Dy∘strOf=fun x=> !dO x:=by funext l;exact this l
 rw[e]
theorem bY{w:World}{i:Nat}{cs:Array Value}{t:TypeId}(h:w.heap[i]? =some (.cells cs t))(j:Nat):w.cell? ⟨i,j,none⟩=cs[j]? :=by simp[World.cell?,h]
def UQ(k kind:Int)(w:World)(e:Ending)(w':World):Prop:=
 e= .returned (ptr w.heap.size)∧iV (fun _=>False) w' k w.heap.size (w.heap.size+1) (dQ kind)∧Below w.heap.size w w'∧w.heap.size<w'.heap.size∧(kind=2→w.heap.size+1<w'.heap.size)
theorem Ar(k kind:Int)(w:World):Calls Tryz.prog 118 #[.int .i64 k,.int .i64 kind] w (UQ k kind w):=by
 have hmm:= @abT Tryz.prog;by_cases hk:kind=2
 ·subst hk;go_enter Tryz.func118,Tryz.ntmps118;go_wp2;go_ret;refine⟨rfl,⟨⟨none,0,?_,⟨Nat.le_refl _,Nat.zero_le _⟩,ah.nil _ _ _⟩,fun _=> ?_⟩,?_,?_,fun _=> ?_⟩
  ·rw[Below.heap_alloc _ _ _ (by simp)];exact(MapKept.heap_alloc w _).1
  ·have:=MapAt.made (F:=fT) (w.alloc (.cells (iq k (dQ 2) none 0 (w.heap.size+1)) 192));rw[Pd]at this;exact this
  ·exact(acf.alloc ace _).alloc (by simp) _
  ·simp;omega
  ·simp
 ·have hk':(kind==2)=false:=by simpa using hk
  go_enter Tryz.func118,Tryz.ntmps118;go_wp2;go_ret;refine⟨rfl,⟨⟨none,0,?_,⟨Nat.le_refl _,Nat.zero_le _⟩,ah.nil _ _ _⟩,fun h=>absurd h hk⟩,acf.alloc ace _,by simp,fun h=>absurd h hk⟩;have e1:iq k (dQ kind) none 0 (w.heap.size+1)= #[.int .i64 k,.int .i64 kind,.int .i64 1,.int .i64 0,.int .u64 0,.bool false,.slice none 0 0,.map none]:=by
   simp[iq,dQ,eu,hk]
  rw[e1];exact(MapKept.heap_alloc w _).1
def jh:List (List Nm)→Int
 |[]=>0
 |p::r=>if bS p≠0 then bS p else jh r
theorem DJ:∀(kH:List (List Nm)) (k:Nat) (ls:List Nm),jh (kH.take k)=0→kH[k]? =some ls→bS ls≠0→jh kH=bS ls
 |p::r,0,ls,_,h,hn=>by
  simp only[aav,aag]at h;subst h;rw[jh,if_pos hn]
 |p::r,k+1,ls,h,h2,hn=>by
  simp only[abX,jh]at h;by_cases hp:bS p≠0
  ·rw[if_pos hp]at h;exact absurd h hp
  ·rw[if_neg hp]at h;rw[jh,if_neg hp];exact DJ r k ls h (by simpa using h2) hn
theorem yZ:∀(kH:List (List Nm)) (k:Nat) (ls:List Nm),jh (kH.take k)=0→kH[k]? =some ls→bS ls=0→jh (kH.take (k+1))=0
 |p::r,0,ls,_,h,hn=>by
  simp only[aav,aag]at h;subst h;simp[jh,hn]
 |p::r,k+1,ls,h,h2,hn=>by
  simp only[abX,jh]at h⊢;by_cases hp:bS p≠0
  ·rw[if_pos hp]at h;exact absurd h hp
  ·rw[if_neg hp]at h;rw[if_neg hp];exact yZ r k ls h (by simpa using h2) hn
theorem RA{S:Nat→Prop}(B n:Nat)(kH:List (List Nm))(w:World)(hn:n=kH.length)(hn2:n≤2)(hB:B<w.heap.size)
  (hc:∀k,k<n→∃a l c ls,w.cell? ⟨B,k,none⟩=some (.slice a l c)∧bH S w a l (ls.map strOf)∧kH[k]? =some ls):
  Calls Tryz.prog 116 #[.slice (some ⟨B,0,none⟩) n n] w fun e w'=>e= .returned (.int .i64 (jh kH))∧Below w.heap.size w w':=by
 have HN:=ab9 hn;have HC:=ab9 hc;clear hn hc;go_enter Tryz.func116,Tryz.ntmps116;go_wp2
 go_loopw [8] (fun i wr=>∃k:Nat,k≤n∧i= .int .i64 k∧jh (kH.take k)=0∧Below w.heap.size w wr) (fun i _=>n-(intOf i).toNat)
 case atStart=>exact⟨0,by omega,rfl,rfl,Below.refl _ _⟩
 case round=>
  obtain⟨k,hk,rfl,ha,hb⟩:=hrel;have HA:=ab9 ha;clear ha;by_cases hlt:k<n
  ·obtain⟨a,l,c,ls,hcell,hS,hp⟩:=HC.o k hlt;have hcell':=(hb.cell (p:=⟨B,k,none⟩) hB).trans hcell;have hF:=Kq a l c (ls.map strOf) wr (hS.below hb ace);rw[Rz]at hF;have HF:=ab9 hF;have HP:=ab9 hp;clear hp hF hS hcell;by_cases h0:bS ls=0
   ·have H0:=ab9 h0;clear h0;go_wp2_with fail;refine HF.o.mono ?_;rintro e w1 ⟨rfl,hb1⟩;rw[H0.o];go_wp2_with fail;go_roundw
    case rel=>exact⟨k+1,by omega,by go_num,yZ _ _ _ HA.o HP.o H0.o,hb.trans (hb1.mono hb.size)⟩
    case measure=>simp[intOf];omega
   ·have H0:=ab9 h0;have hne:(bS ls==0)=false:=by simpa using h0
    have hne2:(bS ls !=0)=true:=by simpa using h0
    clear h0;go_wp2_with fail;refine HF.o.mono ?_;rintro e w1 ⟨rfl,hb1⟩;go_wp2_with fail;go_ret;exact⟨gW (DJ _ _ _ HA.o HP.o H0.o).symm,hb.trans (hb1.mono hb.size)⟩
  ·go_wp2;go_ret;exact⟨gW (by have:=HA.o;rw[List.take_of_length_le (by have:=HN.o;omega)]at this;exact this.symm),hb⟩
end Go.Proofs.YtmflaonodghbcaaGreatDoor
