/- path.Parent; slices.Clone of texts. tree: fresh, fine. -/
import Derived.Test.YtohpcppeajijnaaGreatM08
import Derived.Test.YtohpcppeajijnaaGreatM09
import Derived.BigQuiet
import Derived.Deep.QuietTactic
import Derived.Deep.RegionHeld3
import Derived.OwnWalk
import Derived.IntWalk
namespace Go.Proofs.YtohpcppeajijnaaGreat
open Go.ChangeShapes Go.WideShapes Go.ChangeAt Go.RowKit
set_option linter.unusedVariables false
def Rc (ss:List ByteArray):List (List UInt8):=ss.map (fun s=>s.data.toList)
abbrev Cj (B:Nat):Nat→Prop:=fun b=>B≤b
theorem FC {w:World} {base:Nat} {e:TypeId} {v:Value} {n:Nat} {ss:List ByteArray} (h:w.ownsRow base e 1 v n (ss.map .string)) (hs:∀s∈ss,s.size≤maxLen):
  ∃a cap,v= .slice a n cap∧aG (Cj base) w a n ss:=by
 have h0:=h
 obtain⟨hl,h⟩:=h
 rcases h with⟨rfl,rfl⟩|⟨g,cap,cur,rfl,hb,hh,hn,hm,hsz,ht⟩
 ·obtain rfl:ss=[]:=by simpa using hl
  exact⟨none,0,rfl,ak.nil _ _ _,by simp⟩
 ·refine⟨_,cap,rfl,⟨by simpa using hl,by omega,fun _=>⟨g,0,rfl,hb,(Array.getElem?_eq_some_iff.1 hh).1,fun i hi=> ?_⟩⟩,hs⟩
  rw[Nat.zero_add,h0.cellAt i (by omega)]
theorem rP {S:Nat→Prop} {w:World} {b off len:Nat} {ss:List ByteArray} (h:aG S w (some ⟨b,off,none⟩) len ss) (j:Nat) (hj:j<ss.length):
  w.cell? ⟨b,off+j,none⟩=some (.string (ss.getD j ByteArray.empty)):=by
 obtain⟨b',off',s,e,_,_,hs,_,hc⟩:=h.cell j (by have:=h.length;omega)
 simp only[Option.some.injEq,Addr.mk.injEq,and_true]at e
 obtain⟨rfl,rfl⟩:=e
 rw[hc]
 simp[List.getD,hs]
def Jl (w:World) (n:Nat) (ss:List ByteArray) (e:Ending) (w':World):Prop:=
 ∃g cap,e= .returned (.slice (some ⟨g,0,none⟩) n cap)∧n≤cap∧aG (Cj w.heap.size) w' (some ⟨g,0,none⟩) n ss∧Below w.heap.size w w'
theorem qC {w:World} {base:Nat} {e:TypeId} {v:Value} {n:Nat} {ss:List ByteArray} (h:w.ownsRow base e 1 v n (ss.map .string)) (hs:∀s∈ss,s.size≤maxLen) (hv:v≠ .slice none 0 0):
  ∃g cap,v= .slice (some ⟨g,0,none⟩) n cap∧n≤cap∧aG (Cj base) w (some ⟨g,0,none⟩) n ss:=by
 obtain⟨a,cap,rfl,hS⟩:=FC h hs
 obtain⟨_,h⟩:=h
 rcases h with⟨h,_⟩|⟨g,cap',cur,h,_,_,h2,_⟩
 ·exact absurd h hv
 ·simp only[Value.slice.injEq,true_and]at h
  obtain⟨rfl,rfl⟩:=h
  exact⟨g,_,rfl,h2,hS⟩
theorem Ag {S:Nat→Prop} (ad:Addr) (len cap:Nat) (ss:List ByteArray) (w:World) (h:aG S w (some ad) len ss) (hsz:len*16≤140737488355328):
  Calls Tryz.prog 168 #[.slice (some ad) len cap] w (Jl w len ss):=by
 have hl:=h.length
 by_cases h0:len=0
 ·subst h0
  obtain rfl:ss=[]:=by simpa using hl
  refine(Tryz.slices_Clone_string_zero ad cap w).mono ?_
  rintro e w' ⟨v,rfl,ho,hv,hb⟩
  obtain⟨g,cap',rfl,hc,hS⟩:=qC (ss:=[]) (by simpa using ho) (by simp) hv
  exact⟨g,cap',rfl,hc,hS,hb⟩
 ·obtain⟨b,off,e,_,_,_⟩:=h.row.at_ (by omega)
  simp only[Option.some.injEq]at e
  subst e
  refine(Tryz.slices_Clone_string b off len cap ss w (by omega) hsz (fun j hj=>rP h j hj)).mono ?_
  rintro e w' ⟨v,rfl,ho,hv,hb⟩
  rw[List.take_of_length_le (by omega)]at ho
  obtain⟨g,cap',rfl,hc,hS⟩:=qC ho h.short hv
  exact⟨g,cap',rfl,hc,hS,hb⟩
theorem aG.take {S:Nat→Prop} {w:World} {a:Option Addr} {len:Nat} {ss:List ByteArray} (h:aG S w a len ss) (k:Nat) (hk:k≤len):aG S w a k (ss.take k):=by
 have hl:=h.length
 refine⟨⟨by simp;omega,Nat.le_trans hk h.row.small,fun h0=> ?_⟩,fun s hs=>h.short s (List.mem_of_mem_take hs)⟩
 obtain⟨b,off,e,hS,hb,hc⟩:=h.row.at_ (by omega)
 refine⟨b,off,e,hS,hb,fun i hi=> ?_⟩
 rw[hc i (by omega),List.map_take,List.getElem?_take,if_pos hi]
def Dn (w:World) (ss:List ByteArray) (e:Ending) (w':World):Prop:=
 (ss=[]∧e= .returned (.tuple #[.slice none 0 0, .string ⟨#[]⟩, .int .i64 1])∧w=w')∨
 ∃g cap x,ss.getLast? =some x∧e= .returned (.tuple #[.slice (some ⟨g,0,none⟩) (ss.length-1) cap, .string x, .int .i64 0])∧ss.length-1≤cap∧aG (Cj w.heap.size) w' (some ⟨g,0,none⟩) (ss.length-1) ss.dropLast∧Below w.heap.size w w'
theorem Ah {S:Nat→Prop} (a:Option Addr) (len cap:Nat) (ss:List ByteArray) (w:World) (h:aG S w a len ss) (hsz:len*16≤140737488355328) (hcap:len≤cap):
  Calls Tryz.prog 128 #[.slice a len cap] w (Dn w ss):=by
 have hl:=h.length
 by_cases h0:len=0
 ·subst h0
  obtain rfl:ss=[]:=by simpa using hl
  go_enter Tryz.func128,Tryz.ntmps128
  go_wp2
  go_ret3
  exact Or.inl ⟨rfl,rfl,rfl⟩
 ·have hb0:((len:Int)==0)=false:=by simp[h0]
  obtain⟨n,rfl⟩:∃n,len=n+1:=⟨len-1,by omega⟩
  obtain⟨b,off,x,rfl,_,hbw,hx,hxs,hcell⟩:=h.cell n (by omega)
  have hT:∀w':World,w'.heap=w.heap→aG S w' (some ⟨b,off,none⟩) n (ss.take n):=fun w' e=>(h.take n (by omega)).kept (by rw[e];exact Nat.le_refl _) (fun _ _ _=>by rw[e])
  have hm:=h.row.small
  unfold maxLen at hm
  have e1:IntKind.i64.wrap (n:Int)=(n:Int):=IntWalk.i64_in _ (by omega)
  have e2:(0:Int)≤(n:Int):=by omega
  have e3:(n:Int)≤(cap:Int):=by omega
  have e5:n≤cap:=by omega
  have e4:(n:Int)<(n:Int)+1:=by omega
  have E1:=Lib.hid hx
  have E2:=Lib.hid hl
  clear hx hl h hm hb0
  have hb0:((n:Int)+1==0)=false:=by simp;omega
  go_enter Tryz.func128,Tryz.ntmps128
  go_wp2
  go_region_held3 (fun w'=>w'.cell? ⟨b,off+n,none⟩=some (.string x)) (first|exact hcell|(rw[hb1.cell (p:=⟨b,off+n,none⟩) hbw];exact hcell)) ((first|(go_at_call 168;refine(Ag (S:=S) _ _ _ (ss.take n) _ (hT w.drew rfl) (by omega)).mono ?_;rintro e w1 ⟨a1,Rf,rfl,hca,hS1,hb1⟩)))
  go_wp2
  go_ret3
  have hl:=E2.out
  have hlast:ss.getLast? =some x:=by
   rw[List.getLast?_eq_getElem?,hl];exact E1.out
  have hdl:ss.dropLast=ss.take n:=by rw[List.dropLast_eq_take,hl];rfl
  have hn1:ss.length-1=n:=by omega
  refine Or.inr ⟨a1,Rf,x,hlast,?_,?_,?_,⟨hb1.os,hb1.tape,hb1.output,hb1.size,hb1.block⟩⟩
  ·rw[hn1];rfl
  ·rw[hn1];exact hca
  ·rw[hn1,hdl];exact hS1
set_option linter.unusedSimpArgs false
theorem wR (ls:List Nm):Rc (ls.map strOf)=ls:=by
 unfold Rc
 rw[List.map_map]
 have:(fun s:ByteArray=>s.data.toList)∘strOf=id:=by funext l;simp[strOf]
 rw[this,List.map_id]
theorem Dp (ls:List Nm):wN (ls.map strOf)=bO ls:=by
 have:∀l:Nm,wu (strOf l)= !dG l:=fun l=>by simp[wu,strOf]
 unfold wN bO
 rw[List.any_map,List.length_map]
 have e:wu∘strOf=fun x=> !dG x:=by funext l;exact this l
 rw[e]
theorem gM {w:World} {i:Nat} {cs:Array Value} {t:TypeId} (h:w.heap[i]? =some (.cells cs t)) (j:Nat):w.cell? ⟨i,j,none⟩=cs[j]? :=by simp[World.cell?,h]
def FD (k kind:Int) (w:World) (e:Ending) (w':World):Prop:=
 e= .returned (ptr w.heap.size)∧iL (fun _=>False) w' k w.heap.size (w.heap.size+1) (bq kind)∧Below w.heap.size w w'∧w.heap.size<w'.heap.size∧(kind=2→w.heap.size+1<w'.heap.size)
set_option maxHeartbeats 1000000 in
theorem rQ (k kind:Int) (w:World):Calls Tryz.prog 58 #[.int .i64 k, .int .i64 kind] w (FD k kind w):=by
 have hmm:= @run_makeMap Tryz.prog
 by_cases hk:kind=2
 ·subst hk
  go_enter Tryz.func58,Tryz.ntmps58
  go_wp2
  go_ret
  refine⟨rfl,⟨⟨none,0,?_,⟨Nat.le_refl _,Nat.zero_le _⟩,ak.nil _ _ _⟩,fun _=> ?_⟩,?_,?_,fun _=> ?_⟩
  ·rw[Below.heap_alloc _ _ _ (by simp)]
   exact(MapKept.heap_alloc w _).1
  ·have:=MapAt.made (F:=dx) (w.alloc (.cells (iG k (bq 2) none 0 (w.heap.size+1)) 109))
   rw[World.size_alloc]at this
   exact this
  ·exact((Below.refl _ _).alloc (Nat.le_refl _) _).alloc (by simp) _
  ·simp;omega
  ·simp
 ·have hk':(kind==2)=false:=by simpa using hk
  go_enter Tryz.func58,Tryz.ntmps58
  go_wp2
  go_ret
  refine⟨rfl,⟨⟨none,0,?_,⟨Nat.le_refl _,Nat.zero_le _⟩,ak.nil _ _ _⟩,fun h=>absurd h hk⟩,(Below.refl _ _).alloc (Nat.le_refl _) _,by simp,fun h=>absurd h hk⟩
  have e1:iG k (bq kind) none 0 (w.heap.size+1)= #[.int .i64 k, .int .i64 kind, .int .i64 1, .int .i64 0, .int .u64 0, .bool false, .slice none 0 0, .map none]:=by
   simp[iG,bq,dJ,hk]
  rw[e1]
  exact(MapKept.heap_alloc w _).1
def gI:List (List Nm)→Int
 |[]=>0
 |p::r=>if bO p≠0 then bO p else gI r
theorem uH:∀(jG:List (List Nm)) (k:Nat) (ls:List Nm),gI (jG.take k)=0→jG[k]? =some ls→bO ls≠0→gI jG=bO ls
 |p::r,0,ls,_,h,hn=>by
  simp only[List.getElem?_cons_zero,Option.some.injEq]at h
  subst h
  rw[gI,if_pos hn]
 |p::r,k+1,ls,h,h2,hn=>by
  simp only[List.take_succ_cons,gI]at h
  by_cases hp:bO p≠0
  ·rw[if_pos hp]at h;exact absurd h hp
  ·rw[if_neg hp]at h
   rw[gI,if_neg hp]
   exact uH r k ls h (by simpa using h2) hn
theorem qD:∀(jG:List (List Nm)) (k:Nat) (ls:List Nm),gI (jG.take k)=0→jG[k]? =some ls→bO ls=0→gI (jG.take (k+1))=0
 |p::r,0,ls,_,h,hn=>by
  simp only[List.getElem?_cons_zero,Option.some.injEq]at h
  subst h
  simp[gI,hn]
 |p::r,k+1,ls,h,h2,hn=>by
  simp only[List.take_succ_cons,gI]at h⊢
  by_cases hp:bO p≠0
  ·rw[if_pos hp]at h;exact absurd h hp
  ·rw[if_neg hp]at h
   rw[if_neg hp]
   exact qD r k ls h (by simpa using h2) hn
set_option maxHeartbeats 1000000 in
theorem wS {S:Nat→Prop} (B n:Nat) (jG:List (List Nm)) (w:World) (hn:n=jG.length) (hn2:n≤2) (hB:B<w.heap.size)
  (hc:∀k,k<n→∃a l c ls,w.cell? ⟨B,k,none⟩=some (.slice a l c)∧aG S w a l (ls.map strOf)∧jG[k]? =some ls):
  Calls Tryz.prog 59 #[.slice (some ⟨B,0,none⟩) n n] w fun e w'=>e= .returned (.int .i64 (gI jG))∧Below w.heap.size w w':=by
 have HN:=Lib.hid hn
 have HC:=Lib.hid hc
 clear hn hc
 go_enter Tryz.func59,Tryz.ntmps59
 go_wp2
 go_loopw [8] (fun i wr=>∃k:Nat,k≤n∧i= .int .i64 k∧gI (jG.take k)=0∧Below w.heap.size w wr) (fun i _=>n-(intOf i).toNat)
 case atStart=>exact⟨0,by omega,rfl,rfl,Below.refl _ _⟩
 case round=>
  obtain⟨k,hk,rfl,ha,hb⟩:=hrel
  have HA:=Lib.hid ha
  clear ha
  by_cases hlt:k<n
  ·obtain⟨a,l,c,ls,hcell,hS,hp⟩:=HC.out k hlt
   have hcell':=(hb.cell (p:=⟨B,k,none⟩) hB).trans hcell
   have hF:=Fz a l c (ls.map strOf) wr (hS.below hb (Nat.le_refl _))
   rw[Dp]at hF
   have HF:=Lib.hid hF
   have HP:=Lib.hid hp
   clear hp hF hS hcell
   by_cases h0:bO ls=0
   ·have H0:=Lib.hid h0
    clear h0
    go_wp2_with fail
    (with_reducible refine HF.out.mono ?_)
    rintro e w1 ⟨rfl,hb1⟩
    rw[H0.out]
    go_wp2_with fail
    go_roundw
    case rel=>exact⟨k+1,by omega,by go_num,qD _ _ _ HA.out HP.out H0.out,hb.trans (hb1.mono hb.size)⟩
    case measure=>simp[intOf];omega
   ·have H0:=Lib.hid h0
    have hne:(bO ls==0)=false:=by simpa using h0
    have hne2:(bO ls !=0)=true:=by simpa using h0
    clear h0
    go_wp2_with fail
    (with_reducible refine HF.out.mono ?_)
    rintro e w1 ⟨rfl,hb1⟩
    go_wp2_with fail
    go_ret
    exact⟨fM (uH _ _ _ HA.out HP.out H0.out).symm,hb.trans (hb1.mono hb.size)⟩
  ·go_wp2
   go_ret
   exact⟨fM (by have:=HA.out;rw[List.take_of_length_le (by have:=HN.out;omega)]at this;exact this.symm),hb⟩
end Go.Proofs.YtohpcppeajijnaaGreat
