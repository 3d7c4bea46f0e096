/- path.Parent; slices.Clone of texts. tree: fresh, fine. tree: look, place. tree: place. tree: Make. tree: file, Node, Count, Look, settle, Seal, Keep. -/
import Derived.Test.YtjnhnlabpccgjaaGreatM06
import Derived.Test.YtjnhnlabpccgjaaGreatM07
import Derived.BigQuiet
import Derived.Deep.QuietTactic
import Derived.Deep.RegionHeld3
import Derived.OwnWalk
import Derived.IntWalk
namespace Go.Proofs.YtjnhnlabpccgjaaGreat
open Go.ChangeShapes Go.WideShapes Go.ChangeAt Go.RowKit
set_option linter.unusedVariables false
def Qr (ss:List ByteArray):List (List UInt8):=ss.map (fun s=>s.data.toList)
abbrev Hw (B:Nat):Nat→Prop:=fun b=>B≤b
theorem K6 {w:World} {base:Nat} {e:TypeId} {v:Value} {n:Nat} {ss:List ByteArray} (h:w.ownsRow base e 1 v n (ss.map .string)) (hs:∀s∈ss,s.size≤maxLen):
  ∃a cap,v= .slice a n cap∧aP (Hw base) w a n ss:=by
 have h0:=h
 obtain⟨hl,h⟩:=h
 rcases h with⟨rfl,rfl⟩|⟨g,cap,cur,rfl,hb,hh,hn,hm,hsz,ht⟩
 ·obtain rfl:ss=[]:=by simpa using hl
  exact⟨none,0,rfl,aj.nil _ _ _,by simp⟩
 ·refine⟨_,cap,rfl,⟨by simpa using hl,by omega,fun _=>⟨g,0,rfl,hb,(Array.getElem?_eq_some_iff.1 hh).1,fun i hi=> ?_⟩⟩,hs⟩
  rw[Nat.zero_add,h0.cellAt i (by omega)]
theorem nQ {S:Nat→Prop} {w:World} {b off len:Nat} {ss:List ByteArray} (h:aP S w (some ⟨b,off,none⟩) len ss) (j:Nat) (hj:j<ss.length):
  w.cell? ⟨b,off+j,none⟩=some (.string (ss.getD j ByteArray.empty)):=by
 obtain⟨b',off',s,e,_,_,hs,_,hc⟩:=h.cell j (by have:=h.length;omega)
 simp only[Option.some.injEq,Addr.mk.injEq,and_true]at e
 obtain⟨rfl,rfl⟩:=e
 rw[hc]
 simp[List.getD,hs]
def Oj (w:World) (n:Nat) (ss:List ByteArray) (e:Ending) (w':World):Prop:=
 ∃g cap,e= .returned (.slice (some ⟨g,0,none⟩) n cap)∧n≤cap∧aP (Hw w.heap.size) w' (some ⟨g,0,none⟩) n ss∧Below w.heap.size w w'
theorem tY {w:World} {base:Nat} {e:TypeId} {v:Value} {n:Nat} {ss:List ByteArray} (h:w.ownsRow base e 1 v n (ss.map .string)) (hs:∀s∈ss,s.size≤maxLen) (hv:v≠ .slice none 0 0):
  ∃g cap,v= .slice (some ⟨g,0,none⟩) n cap∧n≤cap∧aP (Hw base) w (some ⟨g,0,none⟩) n ss:=by
 obtain⟨a,cap,rfl,hS⟩:=K6 h hs
 obtain⟨_,h⟩:=h
 rcases h with⟨h,_⟩|⟨g,cap',cur,h,_,_,h2,_⟩
 ·exact absurd h hv
 ·simp only[Value.slice.injEq,true_and]at h
  obtain⟨rfl,rfl⟩:=h
  exact⟨g,_,rfl,h2,hS⟩
theorem FC {S:Nat→Prop} (ad:Addr) (len cap:Nat) (ss:List ByteArray) (w:World) (h:aP S w (some ad) len ss) (hsz:len*16≤140737488355328):
  Calls Tryz.prog 163 #[.slice (some ad) len cap] w (Oj w len ss):=by
 have hl:=h.length
 by_cases h0:len=0
 ·subst h0
  obtain rfl:ss=[]:=by simpa using hl
  refine(Tryz.slices_Clone_string_zero ad cap w).mono ?_
  rintro e w' ⟨v,rfl,ho,hv,hb⟩
  obtain⟨g,cap',rfl,hc,hS⟩:=tY (ss:=[]) (by simpa using ho) (by simp) hv
  exact⟨g,cap',rfl,hc,hS,hb⟩
 ·obtain⟨b,off,e,_,_,_⟩:=h.row.at_ (by omega)
  simp only[Option.some.injEq]at e
  subst e
  refine(Tryz.slices_Clone_string b off len cap ss w (by omega) hsz (fun j hj=>nQ h j hj)).mono ?_
  rintro e w' ⟨v,rfl,ho,hv,hb⟩
  rw[List.take_of_length_le (by omega)]at ho
  obtain⟨g,cap',rfl,hc,hS⟩:=tY ho h.short hv
  exact⟨g,cap',rfl,hc,hS,hb⟩
theorem aP.take {S:Nat→Prop} {w:World} {a:Option Addr} {len:Nat} {ss:List ByteArray} (h:aP S w a len ss) (k:Nat) (hk:k≤len):aP S w a k (ss.take k):=by
 have hl:=h.length
 refine⟨⟨by simp;omega,Nat.le_trans hk h.row.small,fun h0=> ?_⟩,fun s hs=>h.short s (List.mem_of_mem_take hs)⟩
 obtain⟨b,off,e,hS,hb,hc⟩:=h.row.at_ (by omega)
 refine⟨b,off,e,hS,hb,fun i hi=> ?_⟩
 rw[hc i (by omega),List.map_take,List.getElem?_take,if_pos hi]
def IZ (w:World) (ss:List ByteArray) (e:Ending) (w':World):Prop:=
 (ss=[]∧e= .returned (.tuple #[.slice none 0 0, .string ⟨#[]⟩, .int .i64 1])∧w=w')∨
 ∃g cap x,ss.getLast? =some x∧e= .returned (.tuple #[.slice (some ⟨g,0,none⟩) (ss.length-1) cap, .string x, .int .i64 0])∧ss.length-1≤cap∧aP (Hw w.heap.size) w' (some ⟨g,0,none⟩) (ss.length-1) ss.dropLast∧Below w.heap.size w w'
theorem FD {S:Nat→Prop} (a:Option Addr) (len cap:Nat) (ss:List ByteArray) (w:World) (h:aP S w a len ss) (hsz:len*16≤140737488355328) (hcap:len≤cap):
  Calls Tryz.prog 135 #[.slice a len cap] w (IZ w ss):=by
 have hl:=h.length
 by_cases h0:len=0
 ·subst h0
  obtain rfl:ss=[]:=by simpa using hl
  go_enter Tryz.func135,Tryz.ntmps135
  go_wp2
  go_ret3
  exact Or.inl ⟨rfl,rfl,rfl⟩
 ·have hb0:((len:Int)==0)=false:=by simp[h0]
  obtain⟨n,rfl⟩:∃n,len=n+1:=⟨len-1,by omega⟩
  obtain⟨b,off,x,rfl,_,hbw,hx,hxs,hcell⟩:=h.cell n (by omega)
  have hT:∀w':World,w'.heap=w.heap→aP S w' (some ⟨b,off,none⟩) n (ss.take n):=fun w' e=>(h.take n (by omega)).kept (by rw[e];exact Nat.le_refl _) (fun _ _ _=>by rw[e])
  have hm:=h.row.small
  unfold maxLen at hm
  have e1:IntKind.i64.wrap (n:Int)=(n:Int):=IntWalk.i64_in _ (by omega)
  have e2:(0:Int)≤(n:Int):=by omega
  have e3:(n:Int)≤(cap:Int):=by omega
  have e5:n≤cap:=by omega
  have e4:(n:Int)<(n:Int)+1:=by omega
  have E1:=Lib.hid hx
  have E2:=Lib.hid hl
  clear hx hl h hm hb0
  have hb0:((n:Int)+1==0)=false:=by simp;omega
  go_enter Tryz.func135,Tryz.ntmps135
  go_wp2
  go_region_held3 (fun w'=>w'.cell? ⟨b,off+n,none⟩=some (.string x)) (first|exact hcell|(rw[hb1.cell (p:=⟨b,off+n,none⟩) hbw];exact hcell)) ((first|(go_at_call 163;refine(FC (S:=S) _ _ _ (ss.take n) _ (hT w.drew rfl) (by omega)).mono ?_;rintro e w1 ⟨a1,Wp,rfl,hca,hS1,hb1⟩)))
  go_wp2
  go_ret3
  have hl:=E2.out
  have hlast:ss.getLast? =some x:=by
   rw[List.getLast?_eq_getElem?,hl];exact E1.out
  have hdl:ss.dropLast=ss.take n:=by rw[List.dropLast_eq_take,hl];rfl
  have hn1:ss.length-1=n:=by omega
  refine Or.inr ⟨a1,Wp,x,hlast,?_,?_,?_,⟨hb1.os,hb1.tape,hb1.output,hb1.size,hb1.block⟩⟩
  ·rw[hn1];rfl
  ·rw[hn1];exact hca
  ·rw[hn1,hdl];exact hS1
set_option linter.unusedSimpArgs false
theorem rA (ls:List Nm):Qr (ls.map strOf)=ls:=by
 unfold Qr
 rw[List.map_map]
 have:(fun s:ByteArray=>s.data.toList)∘strOf=id:=by funext l;simp[strOf]
 rw[this,List.map_id]
theorem I4 (ls:List Nm):Ak (ls.map strOf)=bK ls:=by
 have:∀l:Nm,zW (strOf l)= !bV l:=fun l=>by simp[zW,strOf]
 unfold Ak bK
 rw[List.any_map,List.length_map]
 have e:zW∘strOf=fun x=> !bV x:=by funext l;exact this l
 rw[e]
theorem eZ {w:World} {i:Nat} {cs:Array Value} {t:TypeId} (h:w.heap[i]? =some (.cells cs t)) (j:Nat):w.cell? ⟨i,j,none⟩=cs[j]? :=by simp[World.cell?,h]
def K7 (k kind:Int) (w:World) (e:Ending) (w':World):Prop:=
 e= .returned (ptr w.heap.size)∧iN (fun _=>False) w' k w.heap.size (w.heap.size+1) (bS kind)∧Below w.heap.size w w'∧w.heap.size<w'.heap.size∧(kind=2→w.heap.size+1<w'.heap.size)
set_option maxHeartbeats 1000000 in
theorem vJ (k kind:Int) (w:World):Calls Tryz.prog 69 #[.int .i64 k, .int .i64 kind] w (K7 k kind w):=by
 have hmm:= @run_makeMap Tryz.prog
 by_cases hk:kind=2
 ·subst hk
  go_enter Tryz.func69,Tryz.ntmps69
  go_wp2
  go_ret
  refine⟨rfl,⟨⟨none,0,?_,⟨Nat.le_refl _,Nat.zero_le _⟩,aj.nil _ _ _⟩,fun _=> ?_⟩,?_,?_,fun _=> ?_⟩
  ·rw[Below.heap_alloc _ _ _ (by simp)]
   exact(MapKept.heap_alloc w _).1
  ·have:=MapAt.made (F:=cK) (w.alloc (.cells (iL k (bS 2) none 0 (w.heap.size+1)) 112))
   rw[World.size_alloc]at this
   exact this
  ·exact((Below.refl _ _).alloc (Nat.le_refl _) _).alloc (by simp) _
  ·simp;omega
  ·simp
 ·have hk':(kind==2)=false:=by simpa using hk
  go_enter Tryz.func69,Tryz.ntmps69
  go_wp2
  go_ret
  refine⟨rfl,⟨⟨none,0,?_,⟨Nat.le_refl _,Nat.zero_le _⟩,aj.nil _ _ _⟩,fun h=>absurd h hk⟩,(Below.refl _ _).alloc (Nat.le_refl _) _,by simp,fun h=>absurd h hk⟩
  have e1:iL k (bS kind) none 0 (w.heap.size+1)= #[.int .i64 k, .int .i64 kind, .int .i64 1, .int .i64 0, .int .u64 0, .bool false, .slice none 0 0, .map none]:=by
   simp[iL,bS,fD,hk]
  rw[e1]
  exact(MapKept.heap_alloc w _).1
def gT:List (List Nm)→Int
 |[]=>0
 |p::r=>if bK p≠0 then bK p else gT r
theorem xV:∀(kC:List (List Nm)) (k:Nat) (ls:List Nm),gT (kC.take k)=0→kC[k]? =some ls→bK ls≠0→gT kC=bK ls
 |p::r,0,ls,_,h,hn=>by
  simp only[List.getElem?_cons_zero,Option.some.injEq]at h
  subst h
  rw[gT,if_pos hn]
 |p::r,k+1,ls,h,h2,hn=>by
  simp only[List.take_succ_cons,gT]at h
  by_cases hp:bK p≠0
  ·rw[if_pos hp]at h;exact absurd h hp
  ·rw[if_neg hp]at h
   rw[gT,if_neg hp]
   exact xV r k ls h (by simpa using h2) hn
theorem tZ:∀(kC:List (List Nm)) (k:Nat) (ls:List Nm),gT (kC.take k)=0→kC[k]? =some ls→bK ls=0→gT (kC.take (k+1))=0
 |p::r,0,ls,_,h,hn=>by
  simp only[List.getElem?_cons_zero,Option.some.injEq]at h
  subst h
  simp[gT,hn]
 |p::r,k+1,ls,h,h2,hn=>by
  simp only[List.take_succ_cons,gT]at h⊢
  by_cases hp:bK p≠0
  ·rw[if_pos hp]at h;exact absurd h hp
  ·rw[if_neg hp]at h
   rw[if_neg hp]
   exact tZ r k ls h (by simpa using h2) hn
set_option maxHeartbeats 1000000 in
theorem Ar {S:Nat→Prop} (B n:Nat) (kC:List (List Nm)) (w:World) (hn:n=kC.length) (hn2:n≤2) (hB:B<w.heap.size)
  (hc:∀k,k<n→∃a l c ls,w.cell? ⟨B,k,none⟩=some (.slice a l c)∧aP S w a l (ls.map strOf)∧kC[k]? =some ls):
  Calls Tryz.prog 70 #[.slice (some ⟨B,0,none⟩) n n] w fun e w'=>e= .returned (.int .i64 (gT kC))∧Below w.heap.size w w':=by
 have HN:=Lib.hid hn
 have HC:=Lib.hid hc
 clear hn hc
 go_enter Tryz.func70,Tryz.ntmps70
 go_wp2
 go_loopw [8] (fun i wr=>∃k:Nat,k≤n∧i= .int .i64 k∧gT (kC.take k)=0∧Below w.heap.size w wr) (fun i _=>n-(intOf i).toNat)
 case atStart=>exact⟨0,by omega,rfl,rfl,Below.refl _ _⟩
 case round=>
  obtain⟨k,hk,rfl,ha,hb⟩:=hrel
  have HA:=Lib.hid ha
  clear ha
  by_cases hlt:k<n
  ·obtain⟨a,l,c,ls,hcell,hS,hp⟩:=HC.out k hlt
   have hcell':=(hb.cell (p:=⟨B,k,none⟩) hB).trans hcell
   have hF:=KZ a l c (ls.map strOf) wr (hS.below hb (Nat.le_refl _))
   rw[I4]at hF
   have HF:=Lib.hid hF
   have HP:=Lib.hid hp
   clear hp hF hS hcell
   by_cases h0:bK ls=0
   ·have H0:=Lib.hid h0
    clear h0
    go_wp2_with fail
    (with_reducible refine HF.out.mono ?_)
    rintro e w1 ⟨rfl,hb1⟩
    rw[H0.out]
    go_wp2_with fail
    go_roundw
    case rel=>exact⟨k+1,by omega,by go_num,tZ _ _ _ HA.out HP.out H0.out,hb.trans (hb1.mono hb.size)⟩
    case measure=>simp[intOf];omega
   ·have H0:=Lib.hid h0
    have hne:(bK ls==0)=false:=by simpa using h0
    have hne2:(bK ls !=0)=true:=by simpa using h0
    clear h0
    go_wp2_with fail
    (with_reducible refine HF.out.mono ?_)
    rintro e w1 ⟨rfl,hb1⟩
    go_wp2_with fail
    go_ret
    exact⟨fK (xV _ _ _ HA.out HP.out H0.out).symm,hb.trans (hb1.mono hb.size)⟩
  ·go_wp2
   go_ret
   exact⟨fK (by have:=HA.out;rw[List.take_of_length_le (by have:=HN.out;omega)]at this;exact this.symm),hb⟩
theorem Tryz.aT (w:World):(zeroValue 107).run Tryz.prog w= .ok (.pointer none) w:=by kernel_rfl
theorem Tryz.dL (w:World):(zeroValue 3).run Tryz.prog w= .ok (.int .i64 0) w:=by kernel_rfl
theorem lC {k:Int} (h1:0≤k) (h2:k≤1000000):aV.ok k:=by
 simp[aV,Lit.wf,IntKind.min,IntKind.max,IntKind.signed,IntKind.bits];omega
theorem nR {a b:Int} {c d:Int} (h:(a,c)=(b,d)):Ending.returned (.tuple #[.int .i64 a, .int .i64 c])= .returned (.tuple #[.int .i64 b, .int .i64 d]):=by
 cases h;rfl
theorem xW {T:aF} {id:Int} {x:bA} {ls:List Nm} {k:Nat} {n:Nm} {j:Int} (hx:ah id T=some x) (hk2:x.kind=2) (hn:ls[k]? =some n) (hj:ah n x.names=some j):aA T id (ls.drop k)=aA T j (ls.drop (k+1)):=by
 obtain⟨hk,e⟩:=List.getElem?_eq_some_iff.1 hn
 rw[List.drop_eq_getElem_cons hk,e,aA,hx]
 simp only[hk2,if_pos,hj]
theorem xX {T:aF} {id:Int} {x:bA} {ls:List Nm} {k:Nat} {n:Nm} (hx:ah id T=some x) (hk2:x.kind≠2) (hn:ls[k]? =some n):aA T id (ls.drop k)=(0,23):=by
 obtain⟨hk,e⟩:=List.getElem?_eq_some_iff.1 hn
 rw[List.drop_eq_getElem_cons hk,e,aA,hx]
 simp only[if_neg hk2]
theorem xY {T:aF} {id:Int} {x:bA} {ls:List Nm} {k:Nat} {n:Nm} (hx:ah id T=some x) (hk2:x.kind=2) (hn:ls[k]? =some n) (hj:ah n x.names=none):aA T id (ls.drop k)=(0,20):=by
 obtain⟨hk,e⟩:=List.getElem?_eq_some_iff.1 hn
 rw[List.drop_eq_getElem_cons hk,e,aA,hx]
 simp only[hk2,if_pos,hj]
set_option maxHeartbeats 4000000 in
theorem nS {S:Nat→Prop} {g:Nat→Own} {D:Nat→Prop} {p mb:Nat} {ib nb:Int→Nat} {T:aF} (a:Option Addr) (n c:Nat) (ls:List Nm) (w:World) (h:aH g D w p mb ib nb T) (hT:OkW T) (hS:aP S w a n (ls.map strOf)):
  Calls Tryz.prog 82 #[ptr p, .slice a n c] w fun e w'=>e= .returned (.tuple #[.int .i64 (aA T 0 ls).1, .int .i64 (aA T 0 ls).2])∧w=w':=by
 have hln:ls.length=n:=by have:=hS.length;simpa using this
 have hnm:=hS.row.small
 unfold maxLen at hnm
 obtain⟨hc0,hpw,hmw⟩:=h.cell
 have HH:=Lib.hid h
 have HT:=Lib.hid hT
 have HS:=Lib.hid hS
 have HL:=Lib.hid hln
 clear h hT hS hln
 go_enter Tryz.func82,Tryz.ntmps82
 go_wp2
 go_loop [6,14] (fun s i=>∃(k:Nat) (id:Int),k≤n∧i= .int .i64 k∧s= .int .i64 id∧(ah id T).isSome=true∧aA T id (ls.drop k)=aA T 0 ls) (fun _ i=>n-(intOf i).toNat)
 case atStart=>exact⟨0,0,by omega,rfl,rfl,dH HT.out,by simp⟩
 case round=>
  obtain⟨k,id,hk,rfl,rfl,hid,hlk⟩:=hrel
  obtain⟨x,hx⟩:=Option.isSome_iff_exists.1 hid
  have lJ:=Lib.hid hlk
  have HX:=Lib.hid hx
  clear hlk hid hx
  have kI:=HT.out.ids id x HX.out
  have hok:aV.ok id:=lC kI.1 (by omega)
  obtain⟨c0,c1,c2,c3,c4,c5,c7,hiw⟩:=(HH.out.item id x HX.out).cell
  have hget:ah id (T.map fun q=>(q.1,ptr (ib q.1)))=some (ptr (ib id)):=by rw[dh,HX.out];rfl
  have HG:=Lib.hid hget
  clear hget
  have hmap:=Lib.hid HH.out.map
  by_cases hlt:k<n
  ·obtain⟨b,off,s,rfl,_,hbw,hs,hsz,hcell⟩:=HS.out.cell k hlt
   obtain⟨nm,hnm',rfl⟩:∃nm,ls[k]? =some nm∧strOf nm=s:=by
    rw[List.getElem?_map]at hs
    cases hq:ls[k]? with
    |none=>rw[hq]at hs;cases hs
    |some nm=>rw[hq]at hs;exact⟨nm,rfl,by simpa using hs⟩
   have HN:=Lib.hid hnm'
   have j_:cK.ok nm:=by show nm.length≤maxLen;rw[←eT];exact hsz
   clear hs hnm'
   by_cases hk2:x.kind=2
   ·have e2:fD x (nb id)= .map (some (nb id)):=if_pos hk2
    rw[e2]at c7
    rw[hk2]at c1
    have dZ:=Lib.hid ((HH.out.item id x HX.out).names hk2)
    cases hj:ah nm x.names with
    |none=>
     have hgn:ah nm (bL x)=none:=by rw[dA,hj];rfl
     have BX:=Lib.hid hgn
     have hfin:=Lib.hid (xY HX.out hk2 HN.out hj)
     clear hgn hj e2 hk2
     go_wp2_with (first|(at_lookup;refine aK aV rfl _ _ 104 107 rfl Tryz.underlying104 (Tryz.aT _) rfl hmap.out id rfl hok ?_;rw[HG.out])|(at_lookup;refine aG cK rfl _ _ 110 3 rfl Tryz.underlying110 (Tryz.dL _) rfl dZ.out nm rfl j_ ?_;rw[BX.out]))
     go_ret2
     exact⟨nR (by rw[←lJ.out,hfin.out]),rfl⟩
    |some j=>
     have hgn:ah nm (bL x)=some (.int .i64 j):=by rw[dA,hj];rfl
     have BX:=Lib.hid hgn
     have hfin:=Lib.hid (xW HX.out hk2 HN.out hj)
     have HJ:=Lib.hid ((HT.out.leads id x HX.out _ (bq hj)).1)
     clear hgn hj e2 hk2
     go_wp2_with (first|(at_lookup;refine aK aV rfl _ _ 104 107 rfl Tryz.underlying104 (Tryz.aT _) rfl hmap.out id rfl hok ?_;rw[HG.out])|(at_lookup;refine aG cK rfl _ _ 110 3 rfl Tryz.underlying110 (Tryz.dL _) rfl dZ.out nm rfl j_ ?_;rw[BX.out]))
     go_round
     case rel=>exact⟨k+1,j,by omega,by go_num,rfl,HJ.out,by rw[←hfin.out];exact lJ.out⟩
     case measure=>simp[intOf];omega
   ·have e1:(x.kind==2)=false:=by simpa using hk2
    have hfin:=Lib.hid (xX HX.out hk2 HN.out)
    clear hk2 c7
    go_wp2_with (first|(at_lookup;refine aK aV rfl _ _ 104 107 rfl Tryz.underlying104 (Tryz.aT _) rfl hmap.out id rfl hok ?_;rw[HG.out]))
    go_ret2
    exact⟨nR (by rw[←lJ.out,hfin.out]),rfl⟩
  ·clear c7
   go_wp2
   go_ret2
   exact⟨nR (by rw[←lJ.out,List.drop_of_length_le (by have:=HL.out;omega)];rfl),rfl⟩
def mM (T:aF) (ib:Int→Nat) (ls:List Nm) (w:World) (e:Ending) (w':World):Prop:=
 e= .returned (.tuple #[if (aC T ls).2.2=0 then ptr (ib (aC T ls).1)else .pointer none, .string (strOf (aC T ls).2.1), .int .i64 (aC T ls).2.2])∧Below w.heap.size w w'
set_option maxHeartbeats 4000000 in
theorem rC {S:Nat→Prop} {g:Nat→Own} {D:Nat→Prop} {p mb:Nat} {ib nb:Int→Nat} {T:aF} (a:Option Addr) (n c:Nat) (ls:List Nm) (w:World) (h:aH g D w p mb ib nb T) (hT:fB T) (hS:aP S w a n (ls.map strOf)) (hc:n≤c) (oP:n≤1000000):
  Calls Tryz.prog 71 #[ptr p, .slice a n c] w (mM T ib ls w):=by
 have hln:ls.length=n:=by have:=hS.length;simpa using this
 have HH:=Lib.hid h
 have HT:=Lib.hid hT
 have HL:=Lib.hid hln
 have hpar:=FD a n c (ls.map strOf) w hS (by omega) hc
 have HP:=Lib.hid hpar
 clear h hT hS hln hpar
 by_cases hl0:ls=[]
 ·subst hl0
  go_enter Tryz.func71,Tryz.ntmps71
  go_wp2_with fail
  (with_reducible refine HP.out.mono ?_)
  rintro e w1 (⟨_,rfl,rfl⟩|⟨_,_,x,hx,_⟩)
  ·go_wp2_with fail
   go_ret3
   exact⟨rfl,Below.refl _ _⟩
  ·cases hx
 ·have TS:=Lib.hid hl0
  clear hl0
  go_enter Tryz.func71,Tryz.ntmps71
  go_wp2_with fail
  (with_reducible refine HP.out.mono ?_)
  rintro e w1 (⟨h0,_⟩|⟨gb,cap,x,hx,rfl,hca,hS1,hb1⟩)
  ·exact absurd (List.map_eq_nil_iff.1 h0) TS.out
  ·have hdl:(ls.map strOf).dropLast=ls.dropLast.map strOf:=by simp[List.map_dropLast]
   rw[hdl]at hS1
   have hxl:x=strOf (ls.getLastD []):=by
    rw[List.getLast?_map]at hx
    cases hq:ls.getLast? with
    |none=>rw[hq]at hx;cases hx
    |some y=>
     rw[hq]at hx
     simp only[Option.map_some,Option.some.injEq]at hx
     rw[←hx]
     cases ls with
     |nil=>cases hq
     |cons z r=>rw[List.getLast?_eq_some_getLast (by simp)]at hq;simp only[Option.some.injEq]at hq;rw[←hq,List.getLastD_eq_getLast?,List.getLast?_eq_some_getLast (by simp)];rfl
   subst hxl
   obtain⟨m,hm⟩:∃m,m=(ls.map strOf).length-1:=⟨_,rfl⟩
   obtain⟨nl,hnl⟩:∃nl,nl=ls.getLastD []:=⟨_,rfl⟩
   rw[←hm]at hS1 hca⊢
   rw[←hnl]at hx⊢
   have Tm:=Lib.hid hnl
   clear hm hnl
   have hb1s:=hb1.size
   have hA1:=HH.out.below hb1 (Nat.le_refl _)
   have lJ:=Lib.hid (nS (some ⟨gb,0,none⟩) m cap ls.dropLast w1 hA1 HT.out hS1)
   have HA1:=Lib.hid hA1
   have HB1:=Lib.hid hb1
   clear hA1 hb1 hx hdl hS1 HP hca
   obtain⟨hc0,hpw,hmw⟩:=HA1.out.cell
   have hmap:=Lib.hid HA1.out.map
   by_cases he:(aA T 0 ls.dropLast).2=0
   ·obtain⟨y,hy⟩:=Option.isSome_iff_exists.1 (eF HT.out ls.dropLast 0 (dH HT.out) he)
    have HE:=Lib.hid he
    obtain⟨d,hd⟩:∃d,d=(aA T 0 ls.dropLast).1:=⟨_,rfl⟩
    rw[←hd]at hy lJ
    rw[he]at lJ
    have HD:=Lib.hid hd
    have HY:=Lib.hid hy
    clear hy he hd
    have kI:=HT.out.ids d y HY.out
    have hok:aV.ok d:=lC kI.1 (by omega)
    obtain⟨c0,c1,c2,c3,c4,c5,c7,hiw⟩:=(HA1.out.item d y HY.out).cell
    have hget:ah d (T.map fun q=>(q.1,ptr (ib q.1)))=some (ptr (ib d)):=by rw[dh,HY.out];rfl
    have HG:=Lib.hid hget
    have hkm:bf T (aA T 0 ls.dropLast).1=y.kind:=by rw[←HD.out];unfold bf;rw[HY.out]
    have YZ:=Lib.hid hkm
    clear hget hkm c7
    by_cases hk2:y.kind=2
    ·have hpl:aC T ls=(d,nl,0):=by
      unfold aC
      rw[if_neg TS.out,if_neg (by rw[HE.out];simp),if_pos (YZ.out.trans hk2),←HD.out,←Tm.out]
     have rR:=Lib.hid hpl
     rw[hk2]at c1
     clear hk2 hpl
     go_wp2_with fail
     (with_reducible refine lJ.out.mono ?_)
     rintro e w2 ⟨rfl,rfl⟩
     go_wp2_with (first|(at_lookup;refine aK aV rfl _ _ 104 107 rfl Tryz.underlying104 (Tryz.aT _) rfl hmap.out d rfl hok ?_;rw[HG.out]))
     go_ret3
     exact⟨by rw[rR.out];rfl,HB1.out⟩
    ·have hpl:aC T ls=(0,[],23):=by
      unfold aC
      rw[if_neg TS.out,if_neg (by rw[HE.out];simp),if_neg (by rw[YZ.out];exact hk2)]
     have rR:=Lib.hid hpl
     have e1:(y.kind==2)=false:=by simpa using hk2
     clear hk2 hpl
     go_wp2_with fail
     (with_reducible refine lJ.out.mono ?_)
     rintro e w2 ⟨rfl,rfl⟩
     go_wp2_with (first|(at_lookup;refine aK aV rfl _ _ 104 107 rfl Tryz.underlying104 (Tryz.aT _) rfl hmap.out d rfl hok ?_;rw[HG.out]))
     go_ret3
     exact⟨by rw[rR.out];rfl,HB1.out⟩
   ·have hpl:aC T ls=(0,[],(aA T 0 ls.dropLast).2):=by
     unfold aC
     rw[if_neg TS.out,if_pos he]
    have hne:((aA T 0 ls.dropLast).2==0)=false:=by simpa using he
    have rR:=Lib.hid hpl
    have HE:=Lib.hid he
    generalize hgg:aA T 0 ls.dropLast=r at lJ hne HE rR
    have HGG:=Lib.hid hgg
    clear hpl he hgg
    go_wp2_with fail
    (with_reducible refine lJ.out.mono ?_)
    rintro e w2 ⟨rfl,rfl⟩
    go_wp2_with fail
    go_ret3
    exact⟨by rw[rR.out,if_neg HE.out];rfl,HB1.out⟩
def Turn (g:Nat→Own) (D:Nat→Prop) (w:World) (p mb:Nat) (T':aF) (v:Value) (e:Ending) (w':World):Prop:=
 e= .returned v∧∃g' D' Tn nb',aH g' D' w' p mb Tn nb' T'∧(∀b,g' b≠ .none→g b≠ .none∨w.heap.size≤b)∧(∀b,D' b→D b∨w.heap.size≤b)∧Keeps (fun b=>g b≠ .none) w w'
theorem Turn.same {g:Nat→Own} {D:Nat→Prop} {w w':World} {p mb:Nat} {ib nb:Int→Nat} {T:aF} {v:Value} {e:Ending} (h:aH g D w p mb ib nb T) (hb:Below w.heap.size w w') (he:e= .returned v):Turn g D w p mb T v e w':=
 ⟨he,g,D,ib,nb,h.below hb (Nat.le_refl _),fun b h=> .inl h,fun b h=> .inl h,(Keeps.below hb).mono fun x hx hx'=>absurd hx (by omega)⟩
theorem fV {T:aF} {p:List Nm} (hT:fB T) (h:(aC T p).2.2=0):∃x,ah (aC T p).1 T=some x∧x.kind=2∧(aC T p).2.1∈p:=by
 unfold aC at h⊢
 by_cases h0:p=[]
 ·rw[if_pos h0]at h;cases h
 ·rw[if_neg h0]at h⊢
  by_cases h1:(aA T 0 p.dropLast).2≠0
  ·rw[if_pos h1]at h;exact absurd h h1
  ·rw[if_neg h1]at h⊢
   by_cases h2:bf T (aA T 0 p.dropLast).1=2
   ·rw[if_pos h2]
    obtain⟨x,hx,hk⟩:=eX h2
    refine⟨x,hx,hk,?_⟩
    cases p with
    |nil=>exact absurd rfl h0
    |cons z r=>simp[List.getLastD_eq_getLast?,List.getLast?_eq_some_getLast]
   ·rw[if_neg h2]at h;cases h
theorem h_ {p:List Nm} (h:bK p=0):∀n∈p,bV n=true:=by
 unfold bK at h
 split at h
 ·cases h
 ·rename_i h1
  intro n hn
  have h2:(p.any fun x=> !bV x)=false:=by simpa only[Bool.not_eq_true]using h1
  have:=List.any_eq_false.1 h2 n hn
  simpa using this
theorem mE {p:List Nm} (h:bK p=0):p.length≤8:=by
 unfold bK at h
 split at h
 ·cases h
 ·split at h
  ·cases h
  ·omega
theorem nT (l:List UInt8) (h:bV l=true):l.length≤16:=by
 simp only[bV,Bool.and_eq_true,decide_eq_true_eq]at h
 exact h.1.1.2
theorem Dh (p:List Nm):gT [p]=bK p:=by
 unfold gT gT
 by_cases h:bK p≠0
 ·rw[if_pos h]
 ·rw[if_neg h];omega
theorem K8 (p q:List Nm):gT [p,q]=iC p q:=by
 unfold gT iC
 by_cases h:bK p≠0
 ·rw[if_pos h,if_pos h]
 ·rw[if_neg h,if_neg h,Dh]
theorem oQ {w:World} {v:Value} {t:TypeId}:(w.alloc (.cells #[v] t)).cell? ⟨w.heap.size,0,none⟩=some v:=by
 simp only[World.cell?,(MapKept.heap_alloc w _).1];rfl
theorem lY {w:World} {u v:Value} {t:TypeId}:(w.alloc (.cells #[u,v] t)).cell? ⟨w.heap.size,0,none⟩=some u∧(w.alloc (.cells #[u,v] t)).cell? ⟨w.heap.size,1,none⟩=some v:=by
 simp only[World.cell?,(MapKept.heap_alloc w _).1];exact⟨rfl,rfl⟩
theorem wall (w:World) (o:Obj):Below w.heap.size w (w.alloc o):=(Below.refl _ _).alloc (Nat.le_refl _) _
theorem t_ {S:Nat→Prop} (a:Option Addr) (n c:Nat) (ls:List Nm) (w:World) (hS:aP S w a n (ls.map strOf)):
  Calls Tryz.prog 70 #[.slice (some ⟨w.heap.size,0,none⟩) 1 1] (w.alloc (.cells #[.slice a n c] 61)) fun e w'=>e= .returned (.int .i64 (bK ls))∧Below w.heap.size w w':=by
 refine(Ar (S:=S) w.heap.size 1 [ls] _ rfl (by omega) (by simp) (fun k hk=> ?_)).mono ?_
 ·obtain rfl:k=0:=by omega
  exact⟨a,n,c,ls,oQ,hS.below (wall w _) (Nat.le_refl _),rfl⟩
 ·rintro e w' ⟨rfl,hb⟩
  rw[Dh]
  exact⟨rfl,(wall w _).trans (hb.mono (by simp))⟩
theorem Di {S S':Nat→Prop} (a:Option Addr) (n c:Nat) (ls:List Nm) (a':Option Addr) (n' c':Nat) (ls':List Nm) (w:World) (hS:aP S w a n (ls.map strOf)) (hS':aP S' w a' n' (ls'.map strOf)):
  Calls Tryz.prog 70 #[.slice (some ⟨w.heap.size,0,none⟩) 2 2] (w.alloc (.cells #[.slice a n c, .slice a' n' c'] 61)) fun e w'=>e= .returned (.int .i64 (iC ls ls'))∧Below w.heap.size w w':=by
 refine(Ar (S:=fun x=>S x∨S' x) w.heap.size 2 [ls,ls'] _ rfl (by omega) (by simp) (fun k hk=> ?_)).mono ?_
 ·rcases (show k=0∨k=1 by omega)with rfl|rfl
  ·exact⟨a,n,c,ls,lY.1,(hS.below (wall w _) (Nat.le_refl _)).mono fun _=> .inl,rfl⟩
  ·exact⟨a',n',c',ls',lY.2,(hS'.below (wall w _) (Nat.le_refl _)).mono fun _=> .inr,rfl⟩
 ·rintro e w' ⟨rfl,hb⟩
  rw[K8]
  exact⟨rfl,(wall w _).trans (hb.mono (by simp))⟩
theorem z_ {w w':World} {b:Nat} (h:w.mapTurned w' b):Keeps (fun x=>x=b) w w':=Keeps.turned h
theorem dG {w w':World} {b:Nat} (h:w.mapTurned w' b) (x:Nat) (hx:x<w.heap.size) (hn:x≠b):w'.heap[x]? =w.heap[x]? :=(z_ h).block x hx hn
theorem fM {w w':World} {b:Nat} (h:w.mapTurned w' b):Keeps (fun x=>x=b) w w':=Keeps.turned h
theorem aH.names {g:Nat→Own} {D:Nat→Prop} {w w':World} {p mb:Nat} {ib nb:Int→Nat} {T:aF} (h:aH g D w p mb ib nb T) {d:Int} {x:bA} {l:List (Nm×Int)} (hx:ah d T=some x) (hk:x.kind=2) (hM:MapAt cK w' (nb d) (bL {x with names:=l})) (hT:w.mapTurned w' (nb d)) (f:bA→bA) (hf:f x={x with names:=l}):
  aH g D w' p mb ib nb (Go.Proofs.YtjnhnlabpccgjaaGreat.aX d f T):=by
 have hs:=iB hT
 have hn:=h.kG d x hx hk
 refine h.aX hx (by rw[hf]) (fun _ h=>h) (fun b hb=>⟨h.data b hb,by rw[hs];exact h.oO b hb⟩) (by omega) (fun b hb h1 h2=>dG hT b hb (fun e=>h2 (by rw[e];exact hn))) ?_
 have hb:∀b,b<w.heap.size→g b≠ .names d→w'.heap[b]? =w.heap[b]? :=fun b hb h2=>dG hT b hb (fun e=>h2 (by rw[e];exact hn))
 have hi:=h.item d x hx
 have ti:=h.mK d x hx
 obtain⟨a,c,h1,h2,h3⟩:=hi.cells
 rw[hf]
 refine⟨⟨a,c,(hb _ (h.low _ (by rw[ti];simp)) (by rw[ti];simp)).trans h1,h2,h3.kept (by omega) fun b hD hbw=>hb b hbw (by rw[h.data b hD];simp)⟩,fun _=>hM⟩
theorem aH.set {g:Nat→Own} {D:Nat→Prop} {w w':World} {p mb:Nat} {ib nb:Int→Nat} {T:aF} (h:aH g D w p mb ib nb T) {d id:Int} {x:bA} {n:Nm} (hx:ah d T=some x) (hk:x.kind=2) (hM:MapAt cK w' (nb d) (bZ cK.lt n (.int .i64 id) (bL x))) (hT:w.mapTurned w' (nb d)):
  aH g D w' p mb ib nb (setName T d n id):=by
 refine h.names (l:=bZ bytesBefore n id x.names) hx hk ?_ hT _ rfl
 have e:bL {x with names:=bZ bytesBefore n id x.names}=bZ cK.lt n (.int .i64 id) (bL x):=vE bytesBefore (fun(_:Nm) (i:Int)=>Value.int .i64 i) n id x.names
 rw[e]
 exact hM
theorem aH.cut {g:Nat→Own} {D:Nat→Prop} {w w':World} {p mb:Nat} {ib nb:Int→Nat} {T:aF} (h:aH g D w p mb ib nb T) {d:Int} {x:bA} {n:Nm} (hx:ah d T=some x) (hk:x.kind=2) (hM:MapAt cK w' (nb d) (bB n (bL x))) (hT:w.mapTurned w' (nb d)):
  aH g D w' p mb ib nb (ak T d n):=by
 refine h.names (l:=bB n x.names) hx hk ?_ hT _ rfl
 have e:bL {x with names:=bB n x.names}=bB n (bL x):=vD (fun(_:Nm) (i:Int)=>Value.int .i64 i) n x.names
 rw[e]
 exact hM
theorem K9 {g:Nat→Own} {D:Nat→Prop} {w w3 w4:World} {p mb:Nat} {ib nb:Int→Nat} {T:aF} {f kind:Int} (h:aH g D w p mb ib nb T) (hf:ah f T=none) (hi:iN (fun _=>False) w3 f w.heap.size (w.heap.size+1) (bS kind)) (hb:Below w.heap.size w w3) (hs:w.heap.size<w3.heap.size) (hs2:kind=2→w.heap.size+1<w3.heap.size)
  (hM:MapAt aV w4 mb (bZ aV.lt f (ptr w.heap.size) (T.map fun q=>(q.1,ptr (ib q.1))))) (hT:w3.mapTurned w4 mb):
  ∃g1 VL TT,aH g1 D w4 p mb VL TT (bZ gH f (bS kind) T)∧(∀b,g1 b≠ .none→g b≠ .none∨w.heap.size≤b)∧Keeps (fun b=>g b≠ .none) w w4∧∀j,j≠f→VL j=ib j∧TT j=nb j:=by
 have hsz:=iB hT
 have hK:=fM hT
 have hmw:=h.map.lt
 refine⟨_,_,_,h.add (i:=w.heap.size) (n:=w.heap.size+1) (x:=bS kind) (k:=f) (Nat.le_refl _) (by omega) (by omega) (by omega) (fun hk=>by have:=hs2 hk;omega) hf rfl hM (by omega) (fun b hbw Q9=>(hK.block b (by omega) Q9).trans (hb.block b hbw)) (hi.move (by omega) (hK.block _ hs (by omega)) (fun hk=>hK.block _ (hs2 hk) (by omega)) (fun _ h=>h.elim)),fun b hb1=> ?_,⟨hK.os.trans hb.os,hK.tape.trans hb.tape,hK.output.trans hb.output,by omega,fun b hbw hbg=>(hK.block b (by omega) (fun e=>hbg (by rw[e,h.je];simp))).trans (hb.block b hbw)⟩,fun j hj=>⟨by simp[hj],by simp[hj]⟩⟩
 by_cases hbi:w.heap.size≤b
 ·exact .inr hbi
 ·simp only[if_neg (show ¬b=w.heap.size by omega),if_neg (show ¬(b=w.heap.size+1∧(bS kind).kind=2)by omega)]at hb1
  exact .inl hb1
theorem K_ {g g1:Nat→Own} {w w2 w4 w5:World} {nd:Nat} (hb2:Below w.heap.size w w2) (hg1:∀b,g1 b≠ .none→g b≠ .none∨w2.drew.heap.size≤b) (hK4:Keeps (fun b=>g b≠ .none) w2.drew w4) (La:w4.mapTurned w5 nd) (hnd:g1 nd≠ .none):
  (∀b,g1 b≠ .none→g b≠ .none∨w.heap.size≤b)∧Keeps (fun b=>g b≠ .none) w w5:=by
 have hs:=hb2.size
 have hK:=fM La
 have h4:w2.heap.size≤w4.heap.size:=hK4.size
 have h5:=hK.size
 refine⟨fun b hb=>(hg1 b hb).imp id fun h=>Nat.le_trans hs h,hK.os.trans (hK4.os.trans hb2.os),hK.tape.trans (hK4.tape.trans hb2.tape),hK.output.trans (hK4.output.trans hb2.output),by omega,fun b hb hbg=> ?_⟩
 have h6:b≠nd:=fun e=>by
  rcases hg1 b (by rw[e];exact hnd)with h|h
  ·exact hbg h
  ·have:w2.heap.size≤b:=h
   omega
 exact(hK.block b (by omega) h6).trans ((hK4.block b (show b<w2.heap.size by omega) hbg).trans (hb2.block b hb))
set_option maxRecDepth 100000 in
set_option maxHeartbeats 8000000 in
theorem Ol {S:Nat→Prop} {g:Nat→Own} {D:Nat→Prop} {p mb:Nat} {ib nb:Int→Nat} {T:aF} (a:Option Addr) (n c:Nat) (ls:List Nm) (kind:Int) (w:World) (h:aH g D w p mb ib nb T) (hT:fB T) (hS:aP S w a n (ls.map strOf)) (hc:n≤c) (oP:n≤1000000):
  Calls Tryz.prog 27 #[ptr p, .slice a n c, .int .i64 kind] w (Turn g D w p mb (dQ T ls kind).2 (.tuple #[.int .i64 (dQ T ls kind).1.1, .int .i64 (dQ T ls kind).1.2])):=by
 have HH:=Lib.hid h
 have HT:=Lib.hid hT
 have HS:=Lib.hid hS
 have HF:=Lib.hid (t_ (S:=S) a n c ls w hS)
 clear h hT hS
 by_cases hf:bK ls=0
 ·have xZ:=Lib.hid hf
  rw[hf]at HF
  clear hf
  by_cases hk:kind=1∨kind=2
  ·have HK:=Lib.hid hk
   have rR:=Lib.hid (fun w1 (hb:Below w.heap.size w w1)=>rC a n c ls w1 (HH.out.below hb (Nat.le_refl _)) HT.out (HS.out.below hb (Nat.le_refl _)) hc oP)
   by_cases hp:(aC T ls).2.2=0
   ·obtain⟨x,hx,hxk,hnm⟩:=fV HT.out hp
    have hgn:=h_ xZ.out _ hnm
    have HPE:=Lib.hid hp
    obtain⟨⟨d,nm,z⟩,hq⟩:∃q,q=aC T ls:=⟨_,rfl⟩
    unfold mM at rR
    rw[←hq]at hp hx hnm hgn rR
    obtain rfl:z=0:=hp
    have HQ:=Lib.hid hq
    have HX:=Lib.hid hx
    have HG:=Lib.hid hgn
    have Aa:=Lib.hid hxk
    clear hq hx hgn hxk hnm
    have kI:=HT.out.ids d x HX.out
    have hlen:=HT.out.len
    have j_:cK.ok nm:=by
     have:=nT nm HG.out
     show nm.length≤maxLen
     unfold maxLen;omega
    have CS:Hid (∀k,(64≤T.length→k=4)→(T.length<64→k=0)→jl T ls kind=if (ah nm x.names).isSome then 21 else k):=fun k h4 h0=>by
     unfold jl
     have e1:aJ T d=x.names:=by unfold aJ;rw[HX.out]
     rw[if_neg (by rw[xZ.out];simp),if_neg (fun h=>h hk),←HQ.out,if_neg (by simp),e1]
     by_cases h64:64≤T.length
     ·rw[if_pos h64,h4 h64]
     ·rw[if_neg h64,h0 (by omega)]
    have nU:Hid (∀w2,Below w.heap.size w w2→w2.cell? ⟨ib d,7,none⟩=some (.map (some (nb d)))∧MapAt cK w2 (nb d) (bL x)∧w2.cell? ⟨p,0,none⟩=some (.map (some mb))∧MapAt aV w2 mb (T.map fun q=>(q.1,ptr (ib q.1)))):=fun w2 hb=>by
     have h2:=HH.out.below hb (Nat.le_refl _)
     have hi:=h2.item d x HX.out
     obtain⟨_,_,_,_,_,_,c7,_⟩:=hi.cell
     unfold fD at c7
     rw[if_pos Aa.out]at c7
     exact⟨c7,hi.names Aa.out,h2.cell.1,h2.map⟩
    cases hj:ah nm x.names with
    |some j=>
     have hgn:ah nm (bL x)=some (.int .i64 j):=by rw[dA,hj];rfl
     have BX:=Lib.hid hgn
     have hm:dQ T ls kind=((0,21),T):=by
      have:jl T ls kind=21:=by rw[CS.out (if 64≤T.length then 4 else 0) (fun h=>if_pos h) (fun h=>if_neg (by omega)),hj];rfl
      unfold dQ;rw[this];simp
     have HM:=Lib.hid hm
     clear hm hj hgn
     rcases hk with rfl|rfl
     all_goals
      go_enter Tryz.func27,Tryz.ntmps27
      go_wp2_with fail
      (with_reducible refine HF.out.mono ?_)
      rintro e w1 ⟨rfl,hb1⟩
      have HB1:=Lib.hid hb1
      clear hb1
      go_wp2_with fail
      (with_reducible refine(rR.out w1 HB1.out).mono ?_)
      rintro e w2 ⟨rfl,hb2⟩
      (first|rw[if_pos rfl]|rw[if_pos trivial])
      have HB2:=Lib.hid (HB1.out.trans (hb2.mono HB1.out.size))
      clear hb2
      obtain⟨c7,dZ,_,_⟩:=nU.out w2 HB2.out
      have lW:=Lib.hid dZ
      clear dZ
      go_wp2_with (at_lookup;refine aG cK rfl _ _ 110 3 rfl Tryz.underlying110 (Tryz.dL _) rfl lW.out nm rfl j_ ?_;rw[BX.out])
      go_ret2
      rw[HM.out]
      exact Turn.same HH.out HB2.out rfl
    |none=>
     have hgn:ah nm (bL x)=none:=by rw[dA,hj];rfl
     have BX:=Lib.hid hgn
     have HJ:=Lib.hid hj
     clear hgn hj
     by_cases h64:64≤T.length
     ·have hm:dQ T ls kind=((0,4),T):=by
       have:jl T ls kind=4:=by rw[CS.out 4 (fun _=>rfl) (fun h=>by omega),HJ.out];rfl
       unfold dQ;rw[this];simp
      have HM:=Lib.hid hm
      have Q_:decide ((T.length:Int)<64)=false:=by simp;omega
      have Wq:decide ((64:Int)≤(T.length:Int))=true:=by simp;omega
      clear hm
      rcases hk with rfl|rfl
      all_goals
       go_enter Tryz.func27,Tryz.ntmps27
       go_wp2_with fail
       (with_reducible refine HF.out.mono ?_)
       rintro e w1 ⟨rfl,hb1⟩
       have HB1:=Lib.hid hb1
       clear hb1
       go_wp2_with fail
       (with_reducible refine(rR.out w1 HB1.out).mono ?_)
       rintro e w2 ⟨rfl,hb2⟩
       (first|rw[if_pos rfl]|rw[if_pos trivial])
       have HB2:=Lib.hid (HB1.out.trans (hb2.mono HB1.out.size))
       clear hb2
       obtain⟨c7,dZ,c0,hmap⟩:=nU.out w2 HB2.out
       have lW:=Lib.hid dZ
       have fE:=Lib.hid hmap
       clear dZ hmap
       go_wp2_with (first|(at_lookup;refine aG cK rfl _ _ 110 3 rfl Tryz.underlying110 (Tryz.dL _) rfl lW.out nm rfl j_ ?_;rw[BX.out])|(at_len;refine gP aV rfl _ 104 107 rfl Tryz.underlying104 rfl fE.out ?_;rw[List.length_map]))
       go_ret2
       rw[HM.out]
       exact Turn.same HH.out HB2.out rfl
     ·have hm:dQ T ls kind=((xP T,0),qz T ls kind):=by
       have:jl T ls kind=0:=by rw[CS.out 0 (fun h=>absurd h h64) (fun h=>rfl),HJ.out];rfl
       unfold dQ;rw[if_pos this]
      unfold qz at hm
      rw[←HQ.out]at hm
      obtain⟨f,Y0,hf1,hf2,hfn,hfs⟩:=HT.out.free
      rw[Y0]at hm
      have HM:=Lib.hid hm
      have Qs:=Lib.hid hfn
      have Ws:=Lib.hid hfs
      have Q_:decide ((T.length:Int)<64)=true:=by simp;omega
      have Wq:decide ((64:Int)≤(T.length:Int))=false:=by simp;omega
      have Y1:d≠(f:Int):=fun e=>by have:=HX.out;rw[e,Qs.out]at this;cases this
      have Y2:=Lib.hid Y1
      clear hm hfn hfs Y0 Y1
      have Wt:aV.ok (f:Int):=lC (by omega) (by omega)
      have HK:=Lib.hid hk
      rcases hk with rfl|rfl
      all_goals
       go_enter Tryz.func27,Tryz.ntmps27
       go_wp2_with fail
       (with_reducible refine HF.out.mono ?_)
       rintro e w1 ⟨rfl,hb1⟩
       have HB1:=Lib.hid hb1
       clear hb1
       go_wp2_with fail
       (with_reducible refine(rR.out w1 HB1.out).mono ?_)
       rintro e w2 ⟨rfl,hb2⟩
       (first|rw[if_pos rfl]|rw[if_pos trivial])
       have HB2:=Lib.hid (HB1.out.trans (hb2.mono HB1.out.size))
       clear hb2
       obtain⟨c7,dZ,c0,hmap⟩:=nU.out w2 HB2.out
       have lW:=Lib.hid dZ
       have fE:=Lib.hid hmap
       clear dZ hmap
       go_wp2_with (first|(at_lookup;refine aG cK rfl _ _ 110 3 rfl Tryz.underlying110 (Tryz.dL _) rfl lW.out nm rfl j_ ?_;rw[BX.out])|(at_len;refine gP aV rfl _ 104 107 rfl Tryz.underlying104 rfl fE.out ?_;rw[List.length_map]))
       go_loop [14] (fun s=>∃j:Nat,1≤j∧j≤f∧s= .int .i64 j) (fun s=>f-(intOf s).toNat)
       case atStart=>exact⟨1,by omega,by omega,rfl⟩
       case round=>
        obtain⟨j,hj1,YX,rfl⟩:=hrel
        have ql:aV.ok (j:Int):=lC (by omega) (by omega)
        by_cases Wu:j<f
        ·obtain⟨y,hy⟩:=Option.isSome_iff_exists.1 (Ws.out j hj1 Wu)
         have rD:Hid (ah (j:Int) (T.map fun q=>(q.1,ptr (ib q.1)))=some (ptr (ib j))):=by rw[dh,hy];rfl
         clear hy
         go_wp2_with (at_lookup;refine aK aV rfl _ _ 104 107 rfl Tryz.underlying104 (Tryz.aT _) rfl fE.out (j:Int) rfl ql ?_;rw[rD.out])
         go_round
         case rel=>exact⟨j+1,by omega,by omega,by go_num⟩
         case measure=>simp[intOf];omega
        ·obtain rfl:f=j:=by omega
         have rD:Hid (ah (f:Int) (T.map fun q=>(q.1,ptr (ib q.1)))=none):=by rw[dh,Qs.out];rfl
         go_wp2_with (at_lookup;refine aK aV rfl _ _ 104 107 rfl Tryz.underlying104 (Tryz.aT _) rfl fE.out (f:Int) rfl ql ?_;rw[rD.out])
         have HA2:=Lib.hid (HH.out.below HB2.out (Nat.le_refl _))
         have hpw:=HA2.out.cell.2.1
         have hmw:=HA2.out.cell.2.2
         have hpm:p≠mb:=fun e=>by have h1:=HH.out.oM;rw[e,HH.out.je]at h1;cases h1
         have hst:∀v w3,Below w2.drew.heap.size w2.drew w3→∃w4,(Instr.mapUpdate 104 (.map (some mb)) (.int .i64 (f:Int)) v).run Tryz.prog w3= .ok () w4∧MapAt aV w4 mb (bZ aV.lt (f:Int) v (T.map fun q=>(q.1,ptr (ib q.1))))∧w3.mapTurned w4 mb:=by
          intro v w3 hb3
          have hm1:MapAt aV w3 mb (T.map fun q=>(q.1,ptr (ib q.1))):=fE.out.kept (hb3.block mb hmw)
          exact hm1.ru aV Tryz.underlying104 (by rw[List.length_map];unfold maxLen;omega) (f:Int) v Wt
         have HST:=Lib.hid hst
         have HPM:=Lib.hid hpm
         have hkeep:∀w3,Below w2.drew.heap.size w2.drew w3→w3.cell? ⟨p,0,none⟩=some (.map (some mb)):=fun w3 hb3=>(hb3.cell (p:=⟨p,0,none⟩) hpw).trans c0
         have Lb:∀w3 w4,Below w2.drew.heap.size w2.drew w3→w3.mapTurned w4 mb→w4.cell? ⟨p,0,none⟩=some (.map (some mb)):=fun w3 w4 hb3 hT=>(World.cell?_of_block (w:=w3) (w':=w4) (a:=⟨p,0,none⟩) (dG hT p (Nat.lt_of_lt_of_le hpw hb3.size) HPM.out)).trans ((hb3.cell (p:=⟨p,0,none⟩) hpw).trans c0)
         have kV:=Lib.hid hkeep
         have Ra:=Lib.hid Lb
         have HFA:=Lib.hid (fun w=>vJ (f:Int) 1 w)
         clear hst hpm hkeep Lb
         go_region_held3 (fun w'=>w'.cell? ⟨p,0,none⟩=some (.map (some mb))) (first|exact c0|exact kV.out _ hb3|exact Ra.out _ _ hb3 qB) ((first|(go_at_call 69;refine(vJ (f:Int) _ _).mono ?_;rintro e w3 ⟨rfl,hi3,hb3,hs3,hs4⟩)|(obtain⟨w4,Au,zR,qB⟩:=HST.out (ptr w2.heap.size) w3 hb3;rw[Au];go_simp)))
         have HI3:=Lib.hid hi3
         have HB3:=Lib.hid hb3
         have Lc:=Lib.hid hs3
         have Om:=Lib.hid hs4
         have Av:=Lib.hid zR
         have wH:=Lib.hid qB
         clear hi3 hb3 hs3 hs4 zR qB Au
         obtain⟨g1,VL,TT,CU,hg1,hK4,hib⟩:=K9 (HA2.out.below (Below.refl _ _).drew (Nat.le_refl _)) Qs.out HI3.out HB3.out Lc.out (by first|exact Om.out|exact fun _=>Om.out trivial) Av.out wH.out
         have hx4:∀kd,ah d (bZ gH (f:Int) (bS kd) T)=some x:=fun kd=>by rw[eY,if_neg Y2.out];exact HX.out
         obtain⟨_,_,_,_,_,_,Wv,_⟩:=(CU.item d x (hx4 _)).cell
         have Rb:=(CU.item d x (hx4 _)).names Aa.out
         unfold fD at Wv
         rw[if_pos Aa.out,(hib d Y2.out).1]at Wv
         obtain⟨nd,hnd⟩:∃nd,nd=TT d:=⟨_,rfl⟩
         rw[←hnd]at Wv Rb
         have HA4:=Lib.hid CU
         have Ld:=Lib.hid hg1
         have E9:=Lib.hid hK4
         have Y3:=Lib.hid hx4
         have Ww:=Lib.hid Rb
         have vg:=Lib.hid hnd
         have FE:Hid ((bL x).length<maxLen):=by
          have h1:=HT.out.few HX.out
          have h2:(bL x).length<maxLen:=by unfold bL maxLen;rw[List.length_map];omega
          exact h2
         clear CU hg1 hK4 hx4 Rb hnd hib
         go_wp2_with (at_mapUpdate;refine gM cK rfl _ _ _ 110 3 rfl Tryz.underlying110 rfl Ww.out FE.out nm (.int .i64 (f:Int)) rfl rfl j_ ?_;intro w5 Rc La)
         go_ret2
         rw[HM.out]
         have CU:=HA4.out
         have hnd:=vg.out
         have hgn:g1 nd≠ .none:=by rw[hnd,CU.kG d x (Y3.out _) Aa.out];simp
         obtain⟨e1,e2⟩:=K_ HB2.out Ld.out E9.out La hgn
         subst hnd
         exact⟨rfl,g1,D,VL,TT,CU.set (Y3.out _) Aa.out Rc La,e1,fun b h=> .inl h,e2⟩
   ·have hne:((aC T ls).2.2==0)=false:=by simpa using hp
    have hne2:((aC T ls).2.2 !=0)=true:=by simpa using hp
    have hm:dQ T ls kind=((0,(aC T ls).2.2),T):=by
     have:jl T ls kind=(aC T ls).2.2:=by unfold jl;rw[if_neg (by rw[xZ.out];simp),if_neg (fun h=>h hk),if_pos hp]
     unfold dQ;rw[this,if_neg hp]
    have HM:=Lib.hid hm
    have HP:=Lib.hid hp
    unfold mM at rR
    generalize aC T ls=q at*
    clear hm hp
    rcases hk with rfl|rfl
    all_goals
     go_enter Tryz.func27,Tryz.ntmps27
     go_wp2_with fail
     (with_reducible refine HF.out.mono ?_)
     rintro e w1 ⟨rfl,hb1⟩
     have HB1:=Lib.hid hb1
     clear hb1
     go_wp2_with fail
     (with_reducible refine(rR.out w1 HB1.out).mono ?_)
     rintro e w2 ⟨rfl,hb2⟩
     rw[if_neg HP.out]
     have HB2:=Lib.hid hb2
     clear hb2
     go_wp2_with fail
     go_ret2
     rw[HM.out]
     exact Turn.same HH.out (HB1.out.trans (HB2.out.mono HB1.out.size)) rfl
  ·have HK:=Lib.hid hk
   have e1:(kind !=1)=true:=by simp;omega
   have e2:(kind !=2)=true:=by simp;omega
   have hm:dQ T ls kind=((0,30),T):=by
    have:jl T ls kind=30:=by unfold jl;rw[if_neg (by rw[xZ.out];simp),if_pos HK.out]
    unfold dQ;rw[this];simp
   have HM:=Lib.hid hm
   clear hm hk
   go_enter Tryz.func27,Tryz.ntmps27
   go_wp2_with fail
   (with_reducible refine HF.out.mono ?_)
   rintro e w1 ⟨rfl,hb1⟩
   go_wp2_with fail
   go_ret2
   rw[HM.out]
   exact Turn.same HH.out hb1 rfl
 ·have hm:dQ T ls kind=((0,bK ls),T):=by
   have:jl T ls kind=bK ls:=by unfold jl;rw[if_pos hf]
   unfold dQ;rw[this,if_neg hf]
  have hne:(bK ls==0)=false:=by simpa using hf
  have hne2:(bK ls !=0)=true:=by simpa using hf
  have HM:=Lib.hid hm
  clear hm hf
  go_enter Tryz.func27,Tryz.ntmps27
  go_wp2_with fail
  (with_reducible refine HF.out.mono ?_)
  rintro e w1 ⟨rfl,hb1⟩
  go_wp2_with fail
  go_ret2
  rw[HM.out]
  exact Turn.same HH.out hb1 rfl
section
variable {g:Nat→Own} {D:Nat→Prop} {p mb:Nat} {ib nb:Int→Nat} {T:aF}
theorem iN.frozen {w:World} {k:Int} {i n:Nat} {x:bA} (h:iN D w k i n x) (j:Nat):w.frozen? ⟨i,j,none⟩=false:=by
 obtain⟨⟨a,c,h1,_⟩,_⟩:=h
 simp[World.frozen?,h1]
theorem iN.row {w:World} {k:Int} {i n:Nat} {x:bA} (h:iN D w k i n x):∃a c,w.cell? ⟨i,6,none⟩=some (.slice a x.b.length c)∧lu x.b.length c∧aj D w a x.b.length (x.b.map bv)∧w.heap[i]? =some (.cells (iL k x a c n) 112 (0,0)):=by
 obtain⟨⟨a,c,h1,h2,h3⟩,_⟩:=h
 exact⟨a,c,by simp only[World.cell?,h1];rfl,h2,h3,h1⟩
theorem aH.fields {w w':World} (h:aH g D w p mb ib nb T) {k:Int} {x:bA} (hx:ah k T=some x) (f:bA→bA) (hb:(f x).b=x.b) (hn:(f x).names=x.names) (hk:(f x).kind=x.kind) (hK:Keeps (fun b=>b=ib k) w w') (hs:w'.heap.size=w.heap.size)
  (hc:∀a c,w.heap[ib k]? =some (.cells (iL k x a c (nb k)) 112 (0,0))→w'.heap[ib k]? =some (.cells (iL k (f x) a c (nb k)) 112 (0,0))):aH g D w' p mb ib nb (Go.Proofs.YtjnhnlabpccgjaaGreat.aX k f T):=by
 have ti:=h.mK k x hx
 refine h.aX hx hk (fun _ h=>h) (fun b hb=>⟨h.data b hb,by rw[hs];exact h.oO b hb⟩) (by omega) (fun b hbw h1 _=>hK.block b hbw (fun e=>h1 (by rw[e];exact ti))) ?_
 obtain⟨⟨a,c,h1,h2,h3⟩,h4⟩:=h.item k x hx
 refine⟨⟨a,c,hc a c h1,by rw[hb];exact h2,by rw[hb];exact h3.kept (by omega) fun b hD hbw=>hK.block b hbw (fun e=>by have:=h.data b hD;rw[e,ti]at this;cases this)⟩,fun hk2=> ?_⟩
 have TU:x.kind=2:=hk▸hk2
 have e:bL (f x)=bL x:=by unfold bL;rw[hn]
 rw[e]
 have tn:=h.kG k x hx TU
 exact(h4 TU).kept (hK.block _ (h.low _ (by rw[tn];simp)) (fun e=>by rw[e,ti]at tn;cases tn))
theorem Keeps.set2 (w:World) (i j j':Nat) (v v':Value):Keeps (fun b=>b=i) w ((w.setCell ⟨i,j,none⟩ v).setCell ⟨i,j',none⟩ v'):=
 (Keeps.iG w ⟨i,j,none⟩ v).trans (Keeps.iG _ ⟨i,j',none⟩ v') (fun _ _ h=>h)
set_option maxHeartbeats 1000000 in
theorem qC (id:Int) (k:Int) (hk:bM T id=k) (hk0:k≠0) (w:World) (h:aH g D w p mb ib nb T) (hid:(Lit.int .i64 id).wf=true):
  Calls Tryz.prog 77 #[ptr p, .int .i64 id] w fun e w'=>e= .returned (.tuple #[.pointer none, .int .i64 k])∧w=w':=by
 obtain⟨hc0,hpw,hmw⟩:=h.cell
 have hmap:=Lib.hid h.map
 have hok:aV.ok id:=hid
 unfold bM at hk
 cases hx:ah id T with
 |none=>
  rw[hx]at hk
  simp only at hk
  subst hk
  have HG:Hid (ah id (T.map fun q=>(q.1,ptr (ib q.1)))=none):=by rw[dh,hx];rfl
  clear h hx hid hk0
  go_enter Tryz.func77,Tryz.ntmps77
  go_wp2_with (at_lookup;refine aG aV rfl _ _ 104 107 rfl Tryz.underlying104 (Tryz.aT _) rfl hmap.out id rfl hok ?_;rw[HG.out])
  go_ret2
  exact⟨rfl,rfl⟩
 |some x=>
  rw[hx]at hk
  simp only at hk
  by_cases hk2:x.kind=2
  ·rw[if_pos hk2]at hk
   subst hk
   have HG:Hid (ah id (T.map fun q=>(q.1,ptr (ib q.1)))=some (ptr (ib id))):=by rw[dh,hx];rfl
   obtain⟨c0,c1,c2,c3,c4,c5,c7,hiw⟩:=(h.item id x hx).cell
   rw[hk2]at c1
   clear h hx hid hk0 c7 hk2
   go_enter Tryz.func77,Tryz.ntmps77
   go_wp2_with (at_lookup;refine aG aV rfl _ _ 104 107 rfl Tryz.underlying104 (Tryz.aT _) rfl hmap.out id rfl hok ?_;rw[HG.out])
   go_ret2
   exact⟨rfl,rfl⟩
  ·rw[if_neg hk2]at hk
   exact absurd hk.symm hk0
set_option maxHeartbeats 1000000 in
theorem rE (id:Int) {x:bA} (hx:ah id T=some x) (hk2:x.kind≠2) (w:World) (h:aH g D w p mb ib nb T) (hid:(Lit.int .i64 id).wf=true):
  Calls Tryz.prog 77 #[ptr p, .int .i64 id] w fun e w'=>e= .returned (.tuple #[ptr (ib id), .int .i64 0])∧w=w':=by
 obtain⟨hc0,hpw,hmw⟩:=h.cell
 have hmap:=Lib.hid h.map
 have hok:aV.ok id:=hid
 have HG:Hid (ah id (T.map fun q=>(q.1,ptr (ib q.1)))=some (ptr (ib id))):=by rw[dh,hx];rfl
 obtain⟨c0,c1,c2,c3,c4,c5,c7,hiw⟩:=(h.item id x hx).cell
 have e1:(x.kind==2)=false:=by simpa using hk2
 clear h hx hid c7 hk2
 go_enter Tryz.func77,Tryz.ntmps77
 go_wp2_with (at_lookup;refine aG aV rfl _ _ 104 107 rfl Tryz.underlying104 (Tryz.aT _) rfl hmap.out id rfl hok ?_;rw[HG.out])
 go_ret2
 exact⟨rfl,rfl⟩
def iJ (k:Int) (x:bA):Value:= .agg #[.int .i64 k, .int .i64 x.kind, .int .i64 x.links, .int .i64 x.b.length, .int .u64 x.aO, .bool x.closed]
def iD (T:aF) (id:Int):Value:=match ah id T with
 |some x=>iJ id x
 |none=> .agg #[.int .i64 0, .int .i64 0, .int .i64 0, .int .i64 0, .int .u64 0, .bool false]
set_option maxHeartbeats 1000000 in
theorem Le (id:Int) (w:World) (h:aH g D w p mb ib nb T) (hid:(Lit.int .i64 id).wf=true):
  Calls Tryz.prog 65 #[ptr p, .int .i64 id] w fun e w'=>e= .returned (.tuple #[iD T id, .bool (ah id T).isSome])∧Below w.heap.size w w':=by
 obtain⟨hc0,hpw,hmw⟩:=h.cell
 have hok:aV.ok id:=hid
 have Lf:∀o,MapAt aV (w.alloc o) mb (T.map fun q=>(q.1,ptr (ib q.1))):=fun o=>h.map.kept ((wall w o).block mb hmw)
 have hmap:=Lib.hid Lf
 unfold iD
 cases hx:ah id T with
 |none=>
  have HG:Hid (ah id (T.map fun q=>(q.1,ptr (ib q.1)))=none):=by rw[dh,hx];rfl
  clear h hx hid Lf
  go_enter Tryz.func65,Tryz.ntmps65
  go_wp2_with (at_lookup;refine aG aV rfl _ _ 104 107 rfl Tryz.underlying104 (Tryz.aT _) rfl (hmap.out _) id rfl hok ?_;rw[HG.out])
  exact bodyPost_ret (v:= .tuple #[.agg #[.int .i64 0, .int .i64 0, .int .i64 0, .int .i64 0, .int .u64 0, .bool false], .bool false]) (by simp[results,Tryz.results65,go_sem]) rfl ⟨rfl,wall w _⟩
 |some x=>
  have HG:Hid (ah id (T.map fun q=>(q.1,ptr (ib q.1)))=some (ptr (ib id))):=by rw[dh,hx];rfl
  obtain⟨c0,c1,c2,c3,c4,c5,c7,hiw⟩:=(h.item id x hx).cell
  clear h hx hid c7 Lf
  unfold iJ
  go_enter Tryz.func65,Tryz.ntmps65
  go_wp2_with (at_lookup;refine aG aV rfl _ _ 104 107 rfl Tryz.underlying104 (Tryz.aT _) rfl (hmap.out _) id rfl hok ?_;rw[HG.out])
  exact bodyPost_ret (v:= .tuple #[.agg #[.int .i64 id, .int .i64 x.kind, .int .i64 x.links, .int .i64 x.b.length, .int .u64 x.aO, .bool x.closed], .bool true]) (by simp[results,Tryz.results65,go_sem]) rfl ⟨rfl,wall w _⟩
theorem I5 (w:World) (h:aH g D w p mb ib nb T):Calls Tryz.prog 64 #[ptr p] w fun e w'=>e= .returned (.int .i64 T.length)∧w=w':=by
 obtain⟨hc0,hpw,hmw⟩:=h.cell
 have hmap:=Lib.hid h.map
 clear h
 go_enter Tryz.func64,Tryz.ntmps64
 go_wp2_with (at_len;refine gP aV rfl _ 104 107 rfl Tryz.underlying104 rfl hmap.out ?_;rw[List.length_map])
 go_ret
 exact⟨rfl,rfl⟩
end
end Go.Proofs.YtjnhnlabpccgjaaGreat
